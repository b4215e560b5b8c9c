/- The walk of integer's Pow. -/
import Derived.Test.YtcjcknncajinpaaGreatDoorIU
import Derived.Test.YtcjcknncajinpaaGreatDoorR1
namespace Go.Proofs.YtcjcknncajinpaaGreatDoor
open Go.RowKit
set_option maxRecDepth 100000

/-- Box g holds the integer z. -/
def NBox (w : World) (g : Nat) (z : Int) : Prop := ∃ m a n c T, Blk w g [.bool m, .slice a n c] T ∧ m = decide (z < 0) ∧ Sl eU w (.slice a n c) (digs 1000000000 z.natAbs)
/-- A box that holds a number, whichever, of whatever type. -/
def Bq (w : World) (g : Nat) : Prop := ∃ p q T, Blk w g [p, q] T ∧ (∀ n, p ≠ eU n) ∧ (∀ n, q ≠ eU n)
theorem Bq.facts {w : World} {g : Nat} (h : Bq w g) : ∃ p q, w.cell? ⟨g, 0, none⟩ = some p ∧ w.cell? ⟨g, 1, none⟩ = some q ∧ w.frozen? ⟨g, 0, none⟩ = false ∧ w.frozen? ⟨g, 1, none⟩ = false := by
  obtain ⟨p, q, T, h, hp, hq⟩ := h; exact ⟨p, q, h.cell 0 _ rfl, h.cell 1 _ rfl, h.free 0, h.free 1⟩
theorem Bq.below {w w' : World} {g B : Nat} (h : Bq w g) (hb : Below B w w') (hB : w.heap.size ≤ B) : Bq w' g := by
  obtain ⟨p, q, T, h, hp, hq⟩ := h; exact ⟨p, q, T, h.below hb hB, hp, hq⟩
theorem NBox.below {w w' : World} {g B : Nat} {z : Int} (h : NBox w g z) (hb : Below B w w') (hB : w.heap.size ≤ B) : NBox w' g z := by
  obtain ⟨m, a, n, c, T, hk, hm, hs⟩ := h
  exact ⟨m, a, n, c, T, hk.below hb hB, hm, hs.below hb hB⟩
theorem NBox.alloc {w : World} {g : Nat} {z : Int} (h : NBox w g z) (o : Obj) : NBox (w.alloc o) g z := h.below ((Below.refl _ w).alloc (Nat.le_refl _) o) (Nat.le_refl _)
theorem NBox.lt {w : World} {g : Nat} {z : Int} (h : NBox w g z) : g < w.heap.size := by obtain ⟨m, a, n, c, T, hk, hm, hs⟩ := h; exact hk.lt
theorem NBox.bx {w : World} {g : Nat} {z : Int} (h : NBox w g z) : Bq w g := by obtain ⟨m, a, n, c, T, hk, hm, hs⟩ := h; exact ⟨_, _, _, hk, by simp [eU], by simp [eU]⟩
/-- What stands in the box, for the walk. -/
theorem NBox.facts {w : World} {g : Nat} {z : Int} (h : NBox w g z) : ∃ m a n c, w.cell? ⟨g, 0, none⟩ = some (.bool m) ∧ w.cell? ⟨g, 1, none⟩ = some (.slice a n c) ∧ w.frozen? ⟨g, 0, none⟩ = false ∧ w.frozen? ⟨g, 1, none⟩ = false ∧ n = wl z ∧ Num w (.agg #[.bool m, .slice a n c]) z := by
  obtain ⟨m, a, n, c, T, hk, hm, hs⟩ := h
  exact ⟨m, a, n, c, hk.cell 0 _ rfl, hk.cell 1 _ rfl, hk.free 0, hk.free 1, hs.len.1, m, a, n, c, rfl, hm, hs⟩
theorem Sl.setBx {w : World} {g : Nat} {v : Value} {xs : List Nat} (h : Sl eU w v xs) (hk : Bq w g) (m : Bool) (a : Option Addr) (n c : Nat) : Sl eU ((w.setCell ⟨g, 0, none⟩ (.bool m)).setCell ⟨g, 1, none⟩ (.slice a n c)) v xs := by
  obtain ⟨p, q, T, hk, hp, hq⟩ := hk
  have h1 := hk.set 0 (.bool m)
  refine (h.set_other hk ?_ _).set_other h1 ?_ _
  · intro x hx; simp at hx; rcases hx with rfl | rfl; exact hp; exact hq
  · intro x hx n; simp at hx; rcases hx with rfl | rfl; simp [eU]; exact hq n
/-- A number stored into another box. -/
theorem NBox.other {w : World} {g g' : Nat} {z : Int} (h : NBox w g z) (hk : Bq w g') (hne : g ≠ g') (m : Bool) (a : Option Addr) (n c : Nat) : NBox ((w.setCell ⟨g', 0, none⟩ (.bool m)).setCell ⟨g', 1, none⟩ (.slice a n c)) g z := by
  obtain ⟨m1, a1, n1, c1, T, hk1, hm, hs⟩ := h
  exact ⟨m1, a1, n1, c1, T, (hk1.setCell hne _).setCell hne _, hm, hs.setBx hk m a n c⟩
/-- A number stored into its box. -/
theorem NBox.self {w : World} {g : Nat} {z : Int} {m : Bool} {a : Option Addr} {n c : Nat} (hk : Bq w g) (hv : Num w (.agg #[.bool m, .slice a n c]) z) : NBox ((w.setCell ⟨g, 0, none⟩ (.bool m)).setCell ⟨g, 1, none⟩ (.slice a n c)) g z := by
  obtain ⟨m1, a1, n1, c1, he, hm, hs⟩ := hv
  cases he
  have h2 := hs.setBx hk m a n c
  obtain ⟨p, q, T, hk, hp, hq⟩ := hk
  exact ⟨m, a, n, c, T, (hk.set 0 (.bool m)).set 1 (.slice a n c), hm, h2⟩
theorem NBox.new {w : World} {z : Int} {m : Bool} {a : Option Addr} {n c : Nat} {T : TypeId} (hv : Num w (.agg #[.bool m, .slice a n c]) z) : NBox (w.alloc (.cells #[.bool m, .slice a n c] T)) w.heap.size z := by
  obtain ⟨m1, a1, n1, c1, he, hm, hs⟩ := hv
  cases he
  exact ⟨m, a, n, c, _, Blk.new w [.bool m, .slice a n c] _, hm, hs.below ((Below.refl _ w).alloc (Nat.le_refl _) _) (Nat.le_refl _)⟩
theorem Num.alloc {w : World} {v : Value} {z : Int} (h : Num w v z) (o : Obj) : Num (w.alloc o) v z := h.below ((Below.refl _ w).alloc (Nat.le_refl _) o) (Nat.le_refl _)
theorem Num.zero (w : World) : Num w (.agg #[.bool false, .slice none 0 0]) 0 := ⟨_, _, _, _, rfl, rfl, by rw [show Int.natAbs 0 = 0 from rfl, digs_zero]; exact Sl.nil⟩
theorem digs_one : digs 1000000000 1 = [1] := by rw [digs_pos _ _ (by omega) (by omega), show 1 / 1000000000 = 0 by omega, digs_zero]
/-- The number 1, its one word just laid. -/
theorem Num.one (w : World) (e : TypeId) : Num (w.alloc (.cells #[.int .u32 1] e)) (.agg #[.bool false, .slice (some ⟨w.heap.size, 0, none⟩) 1 1]) 1 :=
  ⟨_, _, _, _, rfl, rfl, by rw [show Int.natAbs 1 = 1 from rfl, digs_one]; exact Sl.single (enc := eU) w 1 _ rfl _⟩

theorem big_le (a b : Nat) (h : a ≤ 9 * b) : 10 ^ a ≤ 1000000000 ^ b := by
  rw [show (1000000000 : Nat) = 10 ^ 9 from rfl, ← Nat.pow_mul]; exact Nat.pow_le_pow_right (by omega) h
theorem big_of_wl (z : Int) (h : 114 < wl z) : big z = true := by
  cases hb : big z
  · exfalso
    refine absurd h (Nat.not_lt.2 ?_)
    exact (digs_len 1000000000 z.natAbs 114 (by decide)).2 (Nat.lt_of_lt_of_le ((big_iff z).1 hb) (big_le 1024 114 (by decide)))
  · rfl
theorem big_pow (x : Int) (k n : Nat) (hkn : k ≤ n) (h : big (x ^ k) = true) : big (x ^ n) = true := by
  cases hb : big (x ^ n)
  · have h1 := (big_iff _).1 hb
    have h2 : ¬ (x ^ k).natAbs < 10 ^ 1024 := fun h3 => by rw [(big_iff _).2 h3] at h; cases h
    rw [Int.natAbs_pow] at h1 h2
    rcases Nat.eq_zero_or_pos x.natAbs with h0 | h0
    · rw [h0] at h2
      rcases Nat.eq_zero_or_pos k with hk | hk
      · subst hk; rw [Nat.pow_zero] at h2; exact absurd (Nat.one_lt_pow (by omega) (by omega)) h2
      · rw [Nat.zero_pow hk] at h2; exact absurd (Nat.pow_pos (by omega)) h2
    · exact absurd (Nat.lt_of_le_of_lt (Nat.pow_le_pow_right h0 hkn) h1) h2
  · rfl

/-- The boxes of Pow. -/
def PB (w : World) (b : Nat) (x y : Int) (wr : World) : Prop := Below w.heap.size w wr ∧ w.heap.size ≤ b ∧ NBox wr b x ∧ NBox wr (b + 1) y
theorem PB.keep {w w1 w2 : World} {b : Nat} {x y : Int} (h : PB w b x y w1) (hb : Below w1.heap.size w1 w2) : PB w b x y w2 :=
  ⟨h.1.trans (hb.mono h.1.size), h.2.1, h.2.2.1.below hb (Nat.le_refl _), h.2.2.2.below hb (Nat.le_refl _)⟩
theorem PB.store {w w1 : World} {b : Nat} {x y z : Int} {m : Bool} {a : Option Addr} {n c : Nat} (h : PB w b x y w1) (hv : Num w1 (.agg #[.bool m, .slice a n c]) z) : PB w b x z ((w1.setCell ⟨b + 1, 0, none⟩ (.bool m)).setCell ⟨b + 1, 1, none⟩ (.slice a n c)) :=
  ⟨(h.1.setCell (by have := h.2.1; simp; omega) _).setCell (by have := h.2.1; simp; omega) _, h.2.1, h.2.2.1.other h.2.2.2.bx (by omega) m a n c, NBox.self h.2.2.2.bx hv⟩

set_option maxHeartbeats 400000 in
theorem Pow_err (w : World) (s : ByteArray) (n : Int) (hsz : s.size ≤ 1000000) (h : chk s.data.toList ≠ 0) :
    Calls Tryz.prog 25 #[.string s, .int .i64 n] w (Rets fun v w' => v = .tuple #[.string ⟨#[]⟩, .int .i64 (chk s.data.toList)] ∧ Below w.heap.size w w') := by
  have hne : (chk s.data.toList != 0) = true := by simp [h]
  clear h
  go_enter Tryz.func25, Tryz.ntmps25
  go_wp2_with (go_at_call 26; refine (check_any _ _ hsz).mono ?_; rintro e w' ⟨v, rfl, rfl, hb⟩)
  go_ret2
  exact ⟨_, rfl, rfl, hb⟩
set_option maxHeartbeats 400000 in
theorem Pow_range (w : World) (s : ByteArray) (n z : Int) (hz : Good s z) (h : n < 0 ∨ 4096 < n) :
    Calls Tryz.prog 25 #[.string s, .int .i64 n] w (Rets fun v w' => v = .tuple #[.string ⟨#[]⟩, .int .i64 2] ∧ Below w.heap.size w w') := by
  have HZ := Lib.hid hz; clear hz
  rcases h with h | h
  all_goals
    go_enter Tryz.func25, Tryz.ntmps25
    go_wp2_with (go_at_call 26; refine (check_any _ _ (by have := HZ.out.size; omega)).mono ?_; rintro e w' ⟨v, rfl, rfl, hb⟩; rw [HZ.out.chk])
    go_ret2
    exact ⟨_, rfl, rfl, hb⟩
set_option maxHeartbeats 1000000 in
theorem Pow_ok (w : World) (s : ByteArray) (n : Nat) (z : Int) (hz : Good s z) (hn : n ≤ 4096) (he : Env w) :
    Calls Tryz.prog 25 #[.string s, .int .i64 n] w (Rets fun v w' => v = resV (z ^ n) ∧ Below w.heap.size w w') := by
  have HZ := Lib.hid hz; have HE := Lib.hid he; clear hz he
  have h0 : (0 : Int) ≤ n := by omega
  go_enter Tryz.func25, Tryz.ntmps25
  go_wp2_with (first
    | (go_at_call 26; refine (check_any _ _ (by have := HZ.out.size; omega)).mono ?_; rintro e w1 ⟨v, rfl, rfl, hb1⟩; rw [HZ.out.chk])
    | (go_at_call 28; refine (read_any _ _ z HZ.out.1 (by have := HZ.out.size; omega)).mono ?_; rintro e w2 ⟨v, rfl, ⟨m, a, l, c, rfl, hm, hs⟩, hb2⟩; have HM := Lib.hid hm; have HS := Lib.hid hs; clear hm hs; have b2 := hb1.trans (hb2.mono hb1.size)))
  have hP : PB w (w2.heap.size + 1) z (z ^ 0) (((w2.alloc (.cells #[.int .u32 1] 75)).alloc (.cells #[.bool m, .slice a l c] 52)).alloc (.cells #[.bool false, .slice (some ⟨w2.heap.size, 0, none⟩) 1 1] 52)) := by
    have n1 : Num w2 (.agg #[.bool m, .slice a l c]) z := ⟨_, _, _, _, rfl, HM.out, HS.out⟩
    have n2 := Num.one w2 75
    have n2 : Num (w2.alloc (.cells #[.int .u32 1] 75)) (.agg #[.bool false, .slice (some ⟨w2.heap.size, 0, none⟩) 1 1]) (z ^ 0) := by rw [Int.pow_zero]; exact n2
    have k1 := NBox.new (T := 52) (n1.alloc (.cells #[.int .u32 1] 75))
    have k2 := NBox.new (T := 52) (n2.alloc (.cells #[.bool m, .slice a l c] 52))
    rw [World.size_alloc] at k1
    rw [World.size_alloc, World.size_alloc] at k2
    exact ⟨b2.trans (((((Below.refl _ w2).alloc (Nat.le_refl _) _).alloc (by simp) _).alloc (by simp; omega) _).mono b2.size), by have := b2.size; omega, k1.alloc _, k2⟩
  go_loopw [25] (fun i wr => ∃ k : Nat, k ≤ n ∧ i = .int .i64 k ∧ Hid (PB w (w2.heap.size + 1) z (z ^ k) wr) ∧ Hid (wl (z ^ k) ≤ 114)) (fun i _ => n - (intOf i).toNat)
  case atStart => exact ⟨0, Nat.zero_le _, rfl, Lib.hid hP, Lib.hid (by unfold wl; rw [Int.pow_zero, show (1 : Int).natAbs = 1 from rfl, digs_one]; simp)⟩
  case round =>
    clear hP
    obtain ⟨k, hk, rfl, hP, hw⟩ := hrel
    obtain ⟨m1, a1, n1, c1, x0, x1, x2, x3, x4, x5⟩ := hP.out.2.2.1.facts
    obtain ⟨m2, a2, n2, c2, y0, y1, y2, y3, y4, y5⟩ := hP.out.2.2.2.facts
    have X5 := Lib.hid x5; have Y5 := Lib.hid y5
    clear x4 x5 y4 y5
    by_cases hkn : k < n
    · go_wp2_with (go_at_call 43; refine (product_any _ _ _ (z ^ k) z Y5.out X5.out (by have := HZ.out.wl; have := hw.out; omega)).mono ?_; rintro e w3 ⟨v, rfl, hn3, hb3⟩; rw [← Int.pow_succ] at hn3; obtain ⟨m3, a3, n3, c3, rfl, hm3, hs3⟩ := hn3; have hl3 := hs3.len.1; have HL3 := Lib.hid hl3; have HN3 := Lib.hid (show Num w3 (.agg #[.bool m3, .slice a3 n3 c3]) (z ^ (k + 1)) from ⟨_, _, _, _, rfl, hm3, hs3⟩); clear hm3 hs3 hl3; have p3 := hP.out.keep hb3; obtain ⟨p, q, hk0, hk1, hf0, hf1⟩ := p3.2.2.2.bx.facts; have P4 := Lib.hid (p3.store HN3.out); have P3 := Lib.hid p3; clear p3)
      · have hbig : big (z ^ n) = true := big_pow z (k + 1) n (by omega) (big_of_wl _ (by have := HL3.out; unfold wl; rw [← this]; omega))
        go_ret2
        exact ⟨_, rfl, by unfold resV; rw [hbig]; rfl, P4.out.1⟩
      · go_roundw
        case rel => exact ⟨k + 1, by omega, by go_num, P4, Lib.hid (by have := HL3.out; unfold wl; rw [← this]; omega)⟩
        case measure => simp [intOf]; omega
    · obtain rfl : k = n := by omega
      obtain ⟨tt, kk, hr, -, -⟩ := resV_cases (z ^ k)
      have HR := Lib.hid hr; clear hr
      go_wp2_with (go_at_call 30; refine (result_any _ _ (z ^ k) Y5.out (by have := hw.out; omega) (HE.out.below hP.out.1 (Nat.le_refl _))).mono ?_; rintro e w4 ⟨v, rfl, rfl, hb4⟩; rw [HR.out])
      go_ret2
      exact ⟨_, rfl, by rw [HR.out]; rfl, hP.out.1.trans (hb4.mono hP.out.1.size)⟩
end Go.Proofs.YtcjcknncajinpaaGreatDoor
