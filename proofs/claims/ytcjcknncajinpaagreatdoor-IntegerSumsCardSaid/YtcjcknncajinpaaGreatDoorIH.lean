/- The walks of integer's numbers with a sign. -/
import Derived.Test.YtcjcknncajinpaaGreatDoorIF
import Derived.Test.YtcjcknncajinpaaGreatDoorIG
import Derived.Test.YtcjcknncajinpaaGreatDoorIB
namespace Go.Proofs.YtcjcknncajinpaaGreatDoor
open Go.RowKit
set_option maxRecDepth 100000

/-- The value reads as the integer z. -/
def Num (w : World) (v : Value) (z : Int) : Prop := ∃ m a n c, v = .agg #[.bool m, .slice a n c] ∧ m = decide (z < 0) ∧ Sl eU w (.slice a n c) (digs 1000000000 z.natAbs)
/-- How many words an integer has. -/
def wl (z : Int) : Nat := (digs 1000000000 z.natAbs).length

theorem Num.below {w w' : World} {v : Value} {z : Int} {B : Nat} (h : Num w v z) (hb : Below B w w') (hB : w.heap.size ≤ B) : Num w' v z := by
  obtain ⟨m, a, n, c, rfl, hm, hs⟩ := h
  exact ⟨m, a, n, c, rfl, hm, hs.below hb hB⟩
theorem Sl.shape {α : Type} {enc : α → Value} {w : World} {v : Value} {xs : List α} (h : Sl enc w v xs) : ∃ a n c, v = .slice a n c := by
  obtain ⟨a, b, o, c, rfl, _⟩ := h; exact ⟨a, _, c, rfl⟩
/-- A number stored into a box of the call's own. -/
theorem store2 {w : World} {g : Nat} {p q : Value} {T : TypeId} (hk : Blk w g [p, q] T) (hp : ∀ n, p ≠ eU n) (hq : ∀ n, q ≠ eU n) (m : Bool) (a : Option Addr) (n c : Nat) {xs : List Nat} (hs : Sl eU w (.slice a n c) xs) :
    Sl eU ((w.setCell ⟨g, 0, none⟩ (.bool m)).setCell ⟨g, 1, none⟩ (.slice a n c)) (.slice a n c) xs ∧ ((w.setCell ⟨g, 0, none⟩ (.bool m)).setCell ⟨g, 1, none⟩ (.slice a n c)).cell? ⟨g, 0, none⟩ = some (.bool m) ∧
      ((w.setCell ⟨g, 0, none⟩ (.bool m)).setCell ⟨g, 1, none⟩ (.slice a n c)).cell? ⟨g, 1, none⟩ = some (.slice a n c) := by
  have h1 := hk.set 0 (.bool m)
  have h2 := h1.set 1 (.slice a n c)
  refine ⟨(hs.set_other hk ?_ _).set_other h1 ?_ _, h2.cell 0 _ rfl, h2.cell 1 _ rfl⟩
  · intro x hx; simp at hx; rcases hx with rfl | rfl; exact hp; exact hq
  · intro x hx n; simp at hx; rcases hx with rfl | rfl; simp [eU]; exact hq n
/-- The number with a sign and a size. -/
def sg (m : Bool) (n : Nat) : Int := if m then -(n : Int) else n
theorem sg_neg (m : Bool) (n : Nat) : decide (sg m n < 0) = (m && decide (0 < n)) := by
  cases m
  · simp [sg]
  · simp [sg]
theorem sg_abs (m : Bool) (n : Nat) : (sg m n).natAbs = n := by cases m <;> simp [sg]
theorem digs_pos_len (n : Nat) : 0 < (digs 1000000000 n).length ↔ 0 < n := by
  rw [List.length_pos_iff, Ne, digs_nil (by omega)]; omega

set_option maxHeartbeats 400000 in
theorem signed_any (w : World) (m : Bool) (x : Value) (n : Nat) (hx : Sl eU w x (digs 1000000000 n)) :
    Calls Tryz.prog 36 #[.bool m, x] w (Rets fun v w' => Num w' v (sg m n) ∧ Below w.heap.size w w') := by
  have HX := Lib.hid hx
  obtain ⟨a, l, c, rfl⟩ := hx.shape
  have hn := digs_pos_len n
  rw [← hx.len.1] at hn
  have HN := Lib.hid hn; clear hn hx
  cases m
  · go_enter Tryz.func36, Tryz.ntmps36
    go_wp2
    go_returns
    exact ⟨_, rfl, ⟨_, _, _, _, rfl, by rw [sg_neg]; rfl, by rw [sg_abs]; exact HX.out.below ((Below.refl _ w).alloc (Nat.le_refl _) _) (Nat.le_refl _)⟩, (Below.refl _ w).alloc (Nat.le_refl _) _⟩
  · go_enter Tryz.func36, Tryz.ntmps36
    go_wp2
    go_returns
    refine ⟨_, rfl, ⟨_, _, _, _, rfl, ?_, by rw [sg_abs]; exact HX.out.below ((Below.refl _ w).alloc (Nat.le_refl _) _) (Nat.le_refl _)⟩, (Below.refl _ w).alloc (Nat.le_refl _) _⟩
    have e : decide (0 < l) = decide (0 < n) := decide_eq_decide.2 HN.out
    rw [sg_neg, Bool.true_and, ← e]

set_option maxHeartbeats 400000 in
theorem sign_any (w : World) (x : Value) (z : Int) (hx : Num w x z) :
    Calls Tryz.prog 38 #[x] w (Rets fun v w' => v = .int .i64 z.sign ∧ Below w.heap.size w w') := by
  obtain ⟨m, a, n, c, rfl, hm, hs⟩ := hx
  have hn := digs_pos_len z.natAbs
  rw [← hs.len.1] at hn
  clear hs
  by_cases hz : z < 0
  · obtain rfl : m = true := by rw [hm]; simp [hz]
    have hsg : z.sign = -1 := Int.sign_eq_neg_one_of_neg hz
    have HS := Lib.hid hsg; clear hsg hn hm
    go_enter Tryz.func38, Tryz.ntmps38
    go_wp2
    go_ret
    exact ⟨_, rfl, by rw [HS.out]; rfl, (Below.refl _ w).alloc (Nat.le_refl _) _⟩
  · obtain rfl : m = false := by rw [hm]; simp; omega
    by_cases h0 : z = 0
    · have hl : ¬ 0 < n := by rw [hn]; omega
      have hsg : z.sign = 0 := by rw [h0]; rfl
      have HS := Lib.hid hsg; clear hsg hn hm h0
      go_enter Tryz.func38, Tryz.ntmps38
      go_wp2
      go_ret
      exact ⟨_, rfl, by rw [HS.out]; rfl, (Below.refl _ w).alloc (Nat.le_refl _) _⟩
    · have hl : 0 < n := by rw [hn]; omega
      have hsg : z.sign = 1 := Int.sign_eq_one_of_pos (by omega)
      have HS := Lib.hid hsg; clear hsg hn hm h0
      go_enter Tryz.func38, Tryz.ntmps38
      go_wp2
      go_ret
      exact ⟨_, rfl, by rw [HS.out]; rfl, (Below.refl _ w).alloc (Nat.le_refl _) _⟩

set_option maxHeartbeats 400000 in
theorem neg_any (w : World) (x : Value) (z : Int) (hx : Num w x z) :
    Calls Tryz.prog 44 #[x] w (Rets fun v w' => Num w' v (-z) ∧ Below w.heap.size w w') := by
  obtain ⟨m, a, n, c, rfl, hm, hs⟩ := hx
  have HX := Lib.hid hs; clear hs
  have e2 : sg (!m) z.natAbs = -z := by
    rw [hm]; by_cases h : z < 0 <;> simp [sg, h] <;> omega
  have E2 := Lib.hid e2; clear e2 hm
  go_enter Tryz.func44, Tryz.ntmps44
  go_wp2_with fail
  have hb0 : Below w.heap.size w ((w.alloc (.cells #[.bool m, .slice a n c] 52)).alloc (.cells #[.bool false, .slice none 0 0] 52)) := ((Below.refl _ w).alloc (Nat.le_refl _) _).alloc (by simp) _
  refine (signed_any _ _ _ z.natAbs (HX.out.below hb0 (Nat.le_refl _))).mono ?_
  rintro e w1 ⟨v, rfl, ⟨m1, a1, n1, c1, rfl, hm1, hs1⟩, hb1⟩
  rw [E2.out] at hs1 hm1
  have hbk := (Blk.new (w.alloc (.cells #[.bool m, .slice a n c] 52)) [.bool false, .slice none 0 0] 52).below hb1 (Nat.le_refl _)
  rw [World.size_alloc] at hbk
  have k0 := hbk.cell 0 _ rfl
  have k1 := hbk.cell 1 _ rfl
  have f0 := hbk.free 0
  have f1 := hbk.free 1
  have HS1 := Lib.hid hs1
  have HM1 := Lib.hid hm1
  have hbw := hb0.trans (hb1.mono (by simp; omega))
  have HBW := Lib.hid hbw
  clear hs1 hb1 hb0 hbw hm1
  go_wp2
  obtain ⟨hs2, r0, r1⟩ := store2 hbk (by simp [eU]) (by simp [eU]) m1 a1 n1 c1 HS1.out
  refine bodyPost_ret (v := .agg #[.bool m1, .slice a1 n1 c1]) (by simp [results, Tryz.results44, go_sem, r0, r1]) rfl ?_
  exact ⟨_, rfl, ⟨_, _, _, _, rfl, HM1.out, hs2⟩, (HBW.out.setCell (by simp) _).setCell (by simp) _⟩
end Go.Proofs.YtcjcknncajinpaaGreatDoor
