/- The walk of integer's Bezout. -/
import Derived.Test.YtcjcknncajinpaaGreatDoorIY
namespace Go.Proofs.YtcjcknncajinpaaGreatDoor
open Go.RowKit
set_option maxRecDepth 100000

set_option maxHeartbeats 400000 in
theorem Bezout_err (w : World) (s t : ByteArray) (hs : s.size ≤ 1000000) (ht : t.size ≤ 1000000) (h : chks [s, t] ≠ 0) :
    Calls Tryz.prog 11 #[.string s, .string t] w (Rets fun v w' => v = .tuple #[.string ⟨#[]⟩, .string ⟨#[]⟩, .string ⟨#[]⟩, .int .i64 (chks [s, t])] ∧ Below w.heap.size w w') := by
  have hne : (chks [s, t] != 0) = true := by simp [h]
  have hb0 : Below w.heap.size w (w.alloc (.cells #[.string s, .string t] 22)) := (Below.refl _ w).alloc (Nat.le_refl _) _
  have HB0 := Lib.hid hb0
  have HSZ := Lib.hid (show ∀ x ∈ [s, t], x.size ≤ 1000000 by intro x hx; simp at hx; rcases hx with rfl | rfl; exact hs; exact ht)
  clear h hb0
  go_enter Tryz.func11, Tryz.ntmps11
  go_wp2_with (go_at_call 27; refine (checked_any _ _ _ (Sl.pair w s t _) HSZ.out (by simp)).mono ?_; rintro e w' ⟨v, rfl, rfl, hb⟩)
  refine bodyPost_ret (v := .tuple #[.string ⟨#[]⟩, .string ⟨#[]⟩, .string ⟨#[]⟩, .int .i64 (chks [s, t])]) (by simp [results, Tryz.results11, go_sem]) rfl ?_
  exact ⟨_, rfl, rfl, HB0.out.trans (hb.mono (by simp))⟩

theorem txt_nat (n : Nat) : txt (n : Int) = ⟨(Lib.decDigits n).toArray⟩ := by
  unfold txt; rw [itoa_cases, if_neg (by omega), Int.natAbs_natCast]
theorem Blk.heldB {W w : World} {g : Nat} {u v : Value} {T : TypeId} (h : Blk W g [u, v] T) (hb : Below W.heap.size W w) : Below W.heap.size W w ∧ w.cell? ⟨g, 0, none⟩ = some u ∧ w.cell? ⟨g, 1, none⟩ = some v :=
  have hk := h.below hb (Nat.le_refl _)
  ⟨hb, hk.cell 0 _ rfl, hk.cell 1 _ rfl⟩
/-- The boxes of the two numbers. -/
def ZB (w : World) (g : Nat) (x y : Int) (wr : World) : Prop := Below w.heap.size w wr ∧ w.heap.size ≤ g ∧ NBox wr g x ∧ NBox wr (g + 1) y
theorem ZB.keep {w w1 w2 : World} {g : Nat} {x y : Int} (h : ZB w g x y w1) (hb : Below w1.heap.size w1 w2) : ZB w g x y w2 :=
  ⟨h.1.trans (hb.mono h.1.size), h.2.1, h.2.2.1.below hb (Nat.le_refl _), h.2.2.2.below hb (Nat.le_refl _)⟩

theorem ZB.made {w w3 : World} {x y : Int} {m m' : Bool} {a a' : Option Addr} {n c n' c' : Nat} (hb : Below w.heap.size w w3) (hx : Num w3 (.agg #[.bool m, .slice a n c]) x) (hy : Num w3 (.agg #[.bool m', .slice a' n' c']) y) :
    ZB w w3.heap.size x y ((w3.alloc (.cells #[.bool m, .slice a n c] 52)).alloc (.cells #[.bool m', .slice a' n' c'] 52)) := by
  have k2 := NBox.new (T := 52) (hy.alloc (.cells #[.bool m, .slice a n c] 52))
  rw [World.size_alloc] at k2
  exact ⟨hb.trans ((((Below.refl _ w3).alloc (Nat.le_refl _) _).alloc (by simp) _).mono hb.size), hb.size, (NBox.new hx).alloc _, k2⟩

set_option maxHeartbeats 1000000 in
theorem Bezout_zero (w : World) (s t : ByteArray) (x : Int) (hx : Good s x) (hy : Good t 0) (he : Env w) :
    Calls Tryz.prog 11 #[.string s, .string t] w (Rets fun v w' => v = .tuple #[.string (txt x.natAbs), .string (txt x.sign), .string ⟨#[48]⟩, .int .i64 0] ∧ Below w.heap.size w w') := by
  have h0' : chks [s, t] = 0 := by rw [chks_pair, hx.chk, hy.chk]; rfl
  have hb0 : Below w.heap.size w (w.alloc (.cells #[.string s, .string t] 22)) := (Below.refl _ w).alloc (Nat.le_refl _) _
  have HB0 := Lib.hid hb0; have H0 := Lib.hid h0'; have HX := Lib.hid hx; have HY := Lib.hid hy; have HE := Lib.hid he
  have HSZ := Lib.hid (show ∀ x ∈ [s, t], x.size ≤ 1000000 by intro x h; simp at h; rcases h with rfl | rfl; (have := hx.size; omega); (have := hy.size; omega))
  clear h0' hb0 hx hy he
  go_enter Tryz.func11, Tryz.ntmps11
  go_wp2_with (first
    | (go_at_call 27; refine (checked_any _ _ _ (Sl.pair w s t _) HSZ.out (by simp)).mono ?_; rintro e w1 ⟨v, rfl, rfl, hb1⟩; rw [H0.out]; have b1 := HB0.out.trans (hb1.mono (by simp)))
    | (go_at_call_of 28 (Value.string s); refine (read_any _ _ x HX.out.1 (by have := HX.out.size; omega)).mono ?_; rintro e w2 ⟨v, rfl, ⟨m2, a2, n2, c2, rfl, hm2, hs2⟩, hb2⟩; have HN2 := Lib.hid (show Num w2 (.agg #[.bool m2, .slice a2 n2 c2]) x from ⟨_, _, _, _, rfl, hm2, hs2⟩); clear hm2 hs2; have b2 := b1.trans (hb2.mono b1.size))
    | (go_at_call_of 28 (Value.string t); refine (read_any _ _ 0 HY.out.1 (by have := HY.out.size; omega)).mono ?_; rintro e w3 ⟨v, rfl, ⟨m3, a3, n3, c3, rfl, hm3, hs3⟩, hb3⟩; have HN3 := Lib.hid (show Num w3 (.agg #[.bool m3, .slice a3 n3 c3]) 0 from ⟨_, _, _, _, rfl, hm3, hs3⟩); clear hm3 hs3; have b3 := b2.trans (hb3.mono b2.size); have hz := ZB.made b3 (HN2.out.below hb3 (Nat.le_refl _)) HN3.out; have HZ := Lib.hid hz; clear hz)
    | (go_at_call 38; refine (sign_any _ _ 0 ((HN3.out.alloc _).alloc _)).mono ?_; rintro e w4 ⟨v, rfl, rfl, hb4⟩; have hz4 := HZ.out.keep hb4; have HZ4 := Lib.hid hz4; clear hz4))
  obtain ⟨m9, a9, n9, c9, T9, hk9, hm9, hs9⟩ := HZ4.out.2.2.1
  have Z9 := Lib.hid hk9; have S9 := Lib.hid hs9
  have N9 := Lib.hid (show Num w4 (.agg #[.bool m9, .slice a9 n9 c9]) x from ⟨_, _, _, _, rfl, hm9, hs9⟩)
  have hlw : (digs 1000000000 x.natAbs).length ≤ 1000000000000 := by have := HX.out.wl; unfold wl at this; omega
  have HLW := Lib.hid hlw
  have hsg : -1 ≤ x.sign ∧ x.sign ≤ 1 := by rcases Int.lt_trichotomy x 0 with h | h | h; · rw [Int.sign_eq_neg_one_of_neg h]; omega
                                            · rw [h]; decide
                                            · rw [Int.sign_eq_one_of_pos h]; omega
  have HSG := Lib.hid hsg
  have hE4 := HE.out.below HZ4.out.1 (Nat.le_refl _)
  have HE4 := Lib.hid hE4
  clear hk9 hm9 hs9 hlw hsg hE4
  go_region_held3 (fun w' => Below w4.heap.size w4 w' ∧ w'.cell? ⟨w3.heap.size, 0, none⟩ = some (.bool m9) ∧ w'.cell? ⟨w3.heap.size, 1, none⟩ = some (.slice a9 n9 c9))
    (((refine Blk.heldB Z9.out ?_); first
      | with_reducible exact (Below.refl _ _).drew
      | with_reducible exact Below.trans (And.left (by assumption)) (Below.mono (by assumption) (Below.size (And.left (by assumption))))))
    (first
      | (go_at_call 39; (with_reducible refine (text_any _ _ x.natAbs (S9.out.below (And.left (by assumption)) (Nat.le_refl _)) HLW.out (HE4.out.below (And.left (by assumption)) (Nat.le_refl _))).mono ?_); rintro e w' ⟨v, rfl, rfl, hb⟩)
      | (go_at_call 38; (with_reducible refine (sign_any _ _ x (N9.out.below (And.left (by assumption)) (Nat.le_refl _))).mono ?_); rintro e w' ⟨v, rfl, rfl, hb⟩)
      | (go_at_call 40; (with_reducible refine (Of_any _ x.sign (by have := HSG.out; omega) (by have := HSG.out; omega) (HE4.out.below (And.left (by assumption)) (Nat.le_refl _))).mono ?_); rintro e w' ⟨v, rfl, rfl, hb⟩))
  all_goals
    have hf : Below w4.heap.size w4 w' := And.left (by assumption)
    have HF := Lib.hid (HZ4.out.1.trans (hf.mono HZ4.out.1.size)); clear hf
    go_wp2_with fail
    refine bodyPost_ret (v := .tuple #[.string ⟨(Lib.decDigits x.natAbs).toArray⟩, .string (txt x.sign), .string ⟨#[48]⟩, .int .i64 0]) (by simp [results, Tryz.results11, go_sem]) rfl ?_
    exact ⟨_, rfl, by rw [txt_nat], HF.out⟩

theorem Bq.top {X w' : World} {m : Bool} {a : Option Addr} {n c B : Nat} {T : TypeId} (hb : Below B (X.alloc (.cells #[.bool m, .slice a n c] T)) w') (hB : (X.alloc (.cells #[.bool m, .slice a n c] T)).heap.size ≤ B) : Bq w' X.heap.size := (Bq.new X m a n c T).below hb hB
theorem Bq.topd {X w' : World} {m : Bool} {a : Option Addr} {n c B : Nat} {T : TypeId} (hb : Below B (X.alloc (.cells #[.bool m, .slice a n c] T)).drew w') (hB : (X.alloc (.cells #[.bool m, .slice a n c] T)).drew.heap.size ≤ B) : Bq w' X.heap.size := (Bq.new X m a n c T).drew.below hb hB
theorem Bq.top2 {X w' : World} {m : Bool} {a : Option Addr} {n c B : Nat} {T : TypeId} {o : Obj} (hb : Below B ((X.alloc (.cells #[.bool m, .slice a n c] T)).alloc o) w') (hB : ((X.alloc (.cells #[.bool m, .slice a n c] T)).alloc o).heap.size ≤ B) : Bq w' X.heap.size := ((Bq.new X m a n c T).alloc o).below hb hB
theorem Bq.top2d {X w' : World} {m : Bool} {a : Option Addr} {n c B : Nat} {T : TypeId} {o : Obj} (hb : Below B ((X.alloc (.cells #[.bool m, .slice a n c] T)).alloc o).drew w') (hB : ((X.alloc (.cells #[.bool m, .slice a n c] T)).alloc o).drew.heap.size ≤ B) : Bq w' X.heap.size := ((Bq.new X m a n c T).alloc o).drew.below hb hB
theorem Bq.topo {X w' : World} {m : Bool} {a : Option Addr} {n c B : Nat} {T : TypeId} {o : Obj} (hb : Below B ((X.alloc o).alloc (.cells #[.bool m, .slice a n c] T)) w') (hB : ((X.alloc o).alloc (.cells #[.bool m, .slice a n c] T)).heap.size ≤ B) : Bq w' (X.heap.size + 1) := by
  have := (Bq.new (X.alloc o) m a n c T).below hb hB
  rwa [World.size_alloc] at this
theorem Bq.topod {X w' : World} {m : Bool} {a : Option Addr} {n c B : Nat} {T : TypeId} {o : Obj} (hb : Below B ((X.alloc o).alloc (.cells #[.bool m, .slice a n c] T)).drew w') (hB : ((X.alloc o).alloc (.cells #[.bool m, .slice a n c] T)).drew.heap.size ≤ B) : Bq w' (X.heap.size + 1) := by
  have := (Bq.new (X.alloc o) m a n c T).drew.below hb hB
  rwa [World.size_alloc] at this
theorem Bq.fresh {w : World} {g : Nat} (_ : Bq w g) :
    (∀ u v, (((w.setCell ⟨g, 0, none⟩ u).setCell ⟨g, 1, none⟩ v).alloc (.cells #[.bool false, .slice none 0 0] 52)).cell? ⟨w.heap.size, 0, none⟩ = some (.bool false)) ∧
    (∀ u v, (((w.setCell ⟨g, 0, none⟩ u).setCell ⟨g, 1, none⟩ v).alloc (.cells #[.bool false, .slice none 0 0] 52)).cell? ⟨w.heap.size, 1, none⟩ = some (.slice none 0 0)) ∧
    (∀ u v, (((w.setCell ⟨g, 0, none⟩ u).setCell ⟨g, 1, none⟩ v).alloc (.cells #[.bool false, .slice none 0 0] 52)).frozen? ⟨w.heap.size, 0, none⟩ = false) ∧
    (∀ u v, (((w.setCell ⟨g, 0, none⟩ u).setCell ⟨g, 1, none⟩ v).alloc (.cells #[.bool false, .slice none 0 0] 52)).frozen? ⟨w.heap.size, 1, none⟩ = false) := by
  have k : ∀ u v, Blk (((w.setCell ⟨g, 0, none⟩ u).setCell ⟨g, 1, none⟩ v).alloc (.cells #[.bool false, .slice none 0 0] 52)) w.heap.size [.bool false, .slice none 0 0] 52 := fun u v => by
    have := Blk.new ((w.setCell ⟨g, 0, none⟩ u).setCell ⟨g, 1, none⟩ v) [.bool false, .slice none 0 0] 52
    simpa using this
  exact ⟨fun u v => (k u v).cell 0 _ rfl, fun u v => (k u v).cell 1 _ rfl, fun u v => (k u v).free 0, fun u v => (k u v).free 1⟩
theorem Bq.lt {w : World} {g : Nat} (h : Bq w g) : g < w.heap.size := by obtain ⟨p, q, T, hk, -, -⟩ := h; exact hk.lt
section
variable {W w : World} {m m' : Bool} {a a' : Option Addr} {n c n' c' g h : Nat} {z : Int} {T T' : TypeId}
theorem fin1 (hb : Below W.heap.size W w) (hq : Num w (.agg #[.bool m, .slice a n c]) z) : Below W.heap.size W ((w.alloc (.cells #[.bool m, .slice a n c] T)).alloc (.cells #[.bool m', .slice a' n' c'] T')) ∧ NBox ((w.alloc (.cells #[.bool m, .slice a n c] T)).alloc (.cells #[.bool m', .slice a' n' c'] T')) w.heap.size z :=
  ⟨(hb.alloc hb.size _).alloc (by have := hb.size; simp; omega) _, (NBox.new hq).alloc _⟩
theorem fin2 (hb : Below W.heap.size W w) (hq : Num w (.agg #[.bool m, .slice a n c]) z) : Below W.heap.size W ((w.alloc (.cells #[.bool m', .slice a' n' c'] T')).alloc (.cells #[.bool m, .slice a n c] T)) ∧ NBox ((w.alloc (.cells #[.bool m', .slice a' n' c'] T')).alloc (.cells #[.bool m, .slice a n c] T)) (w.heap.size + 1) z := by
  refine ⟨(hb.alloc hb.size _).alloc (by have := hb.size; simp; omega) _, ?_⟩
  have := NBox.new (T := T) (hq.alloc (.cells #[.bool m', .slice a' n' c'] T'))
  rwa [World.size_alloc] at this
theorem fin3 (hb : Below W.heap.size W w) (hk : Bq w g) (hg : W.heap.size ≤ g) (hq : Num w (.agg #[.bool m, .slice a n c]) z) : Below W.heap.size W (((w.setCell ⟨g, 0, none⟩ (.bool m)).setCell ⟨g, 1, none⟩ (.slice a n c)).alloc (.cells #[.bool m', .slice a' n' c'] T')) ∧ NBox (((w.setCell ⟨g, 0, none⟩ (.bool m)).setCell ⟨g, 1, none⟩ (.slice a n c)).alloc (.cells #[.bool m', .slice a' n' c'] T')) g z :=
  have h2 := (hb.setCell (p := ⟨g, 0, none⟩) hg (.bool m)).setCell (p := ⟨g, 1, none⟩) hg (.slice a n c)
  ⟨h2.alloc h2.size _, (NBox.self hk hq).alloc _⟩
theorem fin4 (hb : Below W.heap.size W w) (hk : Bq w g) (hg : W.heap.size ≤ g) (hq : Num w (.agg #[.bool m, .slice a n c]) z) : Below W.heap.size W (((w.setCell ⟨g, 0, none⟩ (.bool m')).setCell ⟨g, 1, none⟩ (.slice a' n' c')).alloc (.cells #[.bool m, .slice a n c] T)) ∧ NBox (((w.setCell ⟨g, 0, none⟩ (.bool m')).setCell ⟨g, 1, none⟩ (.slice a' n' c')).alloc (.cells #[.bool m, .slice a n c] T)) w.heap.size z := by
  have h2 := (hb.setCell (p := ⟨g, 0, none⟩) hg (.bool m')).setCell (p := ⟨g, 1, none⟩) hg (.slice a' n' c')
  refine ⟨h2.alloc h2.size _, ?_⟩
  have := NBox.new (T := T) (hq.setBx hk m' a' n' c')
  have e : ((w.setCell ⟨g, 0, none⟩ (.bool m')).setCell ⟨g, 1, none⟩ (.slice a' n' c')).heap.size = w.heap.size := by simp
  rwa [e] at this
theorem fin5 (hb : Below W.heap.size W w) (hk : Bq w g) (hk' : Bq w h) (hg : W.heap.size ≤ g) (hh : W.heap.size ≤ h) (hne : g ≠ h) (hq : Num w (.agg #[.bool m, .slice a n c]) z) :
    Below W.heap.size W ((((w.setCell ⟨g, 0, none⟩ (.bool m)).setCell ⟨g, 1, none⟩ (.slice a n c)).setCell ⟨h, 0, none⟩ (.bool m')).setCell ⟨h, 1, none⟩ (.slice a' n' c')) ∧ NBox ((((w.setCell ⟨g, 0, none⟩ (.bool m)).setCell ⟨g, 1, none⟩ (.slice a n c)).setCell ⟨h, 0, none⟩ (.bool m')).setCell ⟨h, 1, none⟩ (.slice a' n' c')) g z :=
  have h2 := (hb.setCell (p := ⟨g, 0, none⟩) hg (.bool m)).setCell (p := ⟨g, 1, none⟩) hg (.slice a n c)
  ⟨(h2.setCell (p := ⟨h, 0, none⟩) hh (.bool m')).setCell (p := ⟨h, 1, none⟩) hh (.slice a' n' c'), (NBox.self hk hq).other (hk'.other (Ne.symm hne) _ _) hne m' a' n' c'⟩
end
/-- What four boxes hold. -/
def H8 (g h : Nat) (v1 v2 v3 v4 v5 v6 v7 v8 : Value) (w' : World) : Prop :=
  w'.cell? ⟨g, 0, none⟩ = some v1 ∧ w'.cell? ⟨g, 1, none⟩ = some v2 ∧ w'.cell? ⟨g + 1, 0, none⟩ = some v3 ∧ w'.cell? ⟨g + 1, 1, none⟩ = some v4 ∧
    w'.cell? ⟨h, 0, none⟩ = some v5 ∧ w'.cell? ⟨h, 1, none⟩ = some v6 ∧ w'.cell? ⟨h + 1, 0, none⟩ = some v7 ∧ w'.cell? ⟨h + 1, 1, none⟩ = some v8
theorem H8.with {W w' : World} {g h : Nat} {v1 v2 v3 v4 v5 v6 v7 v8 : Value} (hs : ∀ w', Below W.heap.size W w' → H8 g h v1 v2 v3 v4 v5 v6 v7 v8 w') (hb : Below W.heap.size W w') :
    Below W.heap.size W w' ∧ w'.cell? ⟨g, 0, none⟩ = some v1 ∧ w'.cell? ⟨g, 1, none⟩ = some v2 ∧ w'.cell? ⟨g + 1, 0, none⟩ = some v3 ∧ w'.cell? ⟨g + 1, 1, none⟩ = some v4 ∧
    w'.cell? ⟨h, 0, none⟩ = some v5 ∧ w'.cell? ⟨h, 1, none⟩ = some v6 ∧ w'.cell? ⟨h + 1, 0, none⟩ = some v7 ∧ w'.cell? ⟨h + 1, 1, none⟩ = some v8 := ⟨hb, hs w' hb⟩

/-- The array of the results, and the slice of the three numbers. -/
def OB (w : World) (b : Nat) (v1 v2 v3 : Value) (vs : List Value) (z1 z2 z3 : Int) (o : List Value) (wr : World) : Prop :=
  Below w.heap.size w wr ∧ w.heap.size ≤ b ∧ Blk wr b o 69 ∧ Blk wr (b + 1) vs 52 ∧ Num wr v1 z1 ∧ Num wr v2 z2 ∧ Num wr v3 z3
theorem OB.keep {w wr wr' : World} {b : Nat} {v1 v2 v3 : Value} {vs : List Value} {z1 z2 z3 : Int} {o : List Value} (h : OB w b v1 v2 v3 vs z1 z2 z3 o wr) (hb : Below wr.heap.size wr wr') : OB w b v1 v2 v3 vs z1 z2 z3 o wr' :=
  have l := Nat.le_refl wr.heap.size
  ⟨h.1.trans (hb.mono h.1.size), h.2.1, h.2.2.1.below hb l, h.2.2.2.1.below hb l, h.2.2.2.2.1.below hb l, h.2.2.2.2.2.1.below hb l, h.2.2.2.2.2.2.below hb l⟩
theorem Num.setStr {w : World} {b j : Nat} {o : List Value} {T : TypeId} {v : Value} {z : Int} (h : Num w v z) (hk : Blk w b o T) (ho : ∀ c ∈ o, ∃ t, c = .string t) (u : Value) : Num (w.setCell ⟨b, j, none⟩ u) v z := by
  obtain ⟨m1, a1, n1, c1, rfl, hm, hs⟩ := h
  refine ⟨m1, a1, n1, c1, rfl, hm, hs.set_other hk (fun c hc x => ?_) u⟩
  obtain ⟨t, rfl⟩ := ho c hc
  simp [eU]
theorem OB.store {w wr : World} {b : Nat} {v1 v2 v3 : Value} {vs : List Value} {z1 z2 z3 : Int} {o : List Value} (h : OB w b v1 v2 v3 vs z1 z2 z3 o wr) (ho : ∀ c ∈ o, ∃ t, c = .string t) (j : Nat) (t : ByteArray) :
    OB w b v1 v2 v3 vs z1 z2 z3 (o.set j (.string t)) (wr.setCell ⟨b, j, none⟩ (.string t)) := by
  obtain ⟨h1, h2, h3, h4, h5, h6, h7⟩ := h
  exact ⟨h1.setCell h2 _, h2, h3.set j _, h4.setCell (by omega) _, h5.setStr h3 ho _, h6.setStr h3 ho _, h7.setStr h3 ho _⟩

set_option maxHeartbeats 4000000 in
theorem Bezout_ok (w : World) (s t : ByteArray) (x y : Int) (hx : Good s x) (hy : Good t y) (hy0 : y ≠ 0) (hg1 : big (Int.gcd x y : Int) = false) (hg2 : big (cox x y) = false) (hg3 : big (Int.fdiv ((Int.gcd x y : Int) - x * cox x y) y) = false) (he : Env w) :
    Calls Tryz.prog 11 #[.string s, .string t] w (Rets fun v w' => v = .tuple #[.string (txt (Int.gcd x y : Int)), .string (txt (cox x y)), .string (txt (Int.fdiv ((Int.gcd x y : Int) - x * cox x y) y)), .int .i64 0] ∧ Below w.heap.size w w') := by
  have h0' : chks [s, t] = 0 := by rw [chks_pair, hx.chk, hy.chk]; rfl
  have hb0 : Below w.heap.size w (w.alloc (.cells #[.string s, .string t] 22)) := (Below.refl _ w).alloc (Nat.le_refl _) _
  have hne : (y.sign == 0) = false := by simp [Int.sign_eq_zero_iff_zero, hy0]
  have HB0 := Lib.hid hb0; have H0 := Lib.hid h0'; have HX := Lib.hid hx; have HY := Lib.hid hy; have HE := Lib.hid he; have HY0 := Lib.hid hy0
  have HG1 := Lib.hid hg1; have HG2 := Lib.hid hg2; have HG3 := Lib.hid hg3
  have HSZ := Lib.hid (show ∀ x ∈ [s, t], x.size ≤ 1000000 by intro x h; simp at h; rcases h with rfl | rfl; (have := hx.size; omega); (have := hy.size; omega))
  clear h0' hb0 hx hy he hy0 hg1 hg2 hg3
  go_enter Tryz.func11, Tryz.ntmps11
  go_wp2_with (first
    | (go_at_call 27; refine (checked_any _ _ _ (Sl.pair w s t _) HSZ.out (by simp)).mono ?_; rintro e w1 ⟨v, rfl, rfl, hb1⟩; rw [H0.out]; have b1 := HB0.out.trans (hb1.mono (by simp)))
    | (go_at_call_of 28 (Value.string s); refine (read_any _ _ x HX.out.1 (by have := HX.out.size; omega)).mono ?_; rintro e w2 ⟨v, rfl, ⟨m2, a2, n2, c2, rfl, hm2, hs2⟩, hb2⟩; have HN2 := Lib.hid (show Num w2 (.agg #[.bool m2, .slice a2 n2 c2]) x from ⟨_, _, _, _, rfl, hm2, hs2⟩); clear hm2 hs2; have b2 := b1.trans (hb2.mono b1.size))
    | (go_at_call_of 28 (Value.string t); refine (read_any _ _ y HY.out.1 (by have := HY.out.size; omega)).mono ?_; rintro e w3 ⟨v, rfl, ⟨m3, a3, n3, c3, rfl, hm3, hs3⟩, hb3⟩; have HN3 := Lib.hid (show Num w3 (.agg #[.bool m3, .slice a3 n3 c3]) y from ⟨_, _, _, _, rfl, hm3, hs3⟩); clear hm3 hs3; have b3 := b2.trans (hb3.mono b2.size); have hz := ZB.made b3 (HN2.out.below hb3 (Nat.le_refl _)) HN3.out; have HZ := Lib.hid hz; clear hz)
    | (go_at_call 38; refine (sign_any _ _ y ((HN3.out.alloc _).alloc _)).mono ?_; rintro e w4 ⟨v, rfl, rfl, hb4⟩; have hz4 := HZ.out.keep hb4; obtain ⟨m9, a9, n9, c9, u0, u1, -, -, -, u5⟩ := hz4.2.2.1.facts; obtain ⟨mA, aA, nA, cA, v0, v1, -, -, -, v5⟩ := hz4.2.2.2.facts; have U9 := Lib.hid u5; have VA := Lib.hid v5; have HZ4 := Lib.hid hz4; clear hz4 u5 v5)
    | (go_at_call 41; refine (coefficient_any _ _ _ x y U9.out VA.out HY0.out (by have := HX.out.wl; omega) (by have := HY.out.wl; omega)).mono ?_; rintro e w5 ⟨v, rfl, ⟨_, _, rfl, ⟨mB, aB, nB, cB, rfl, hmB, hsB⟩, ⟨mC, aC, nC, cC, rfl, hmC, hsC⟩⟩, hb5⟩; have HNB := Lib.hid (show Num w5 (.agg #[.bool mB, .slice aB nB cB]) (Int.gcd x y : Int) from ⟨_, _, _, _, rfl, hmB, hsB⟩); have HNC := Lib.hid (show Num w5 (.agg #[.bool mC, .slice aC nC cC]) (cox x y) from ⟨_, _, _, _, rfl, hmC, hsC⟩); clear hmB hsB hmC hsC))
  have hz5 := HZ4.out.keep hb5
  have hk11 := (NBox.new (T := 52) HNB.out).alloc (.cells #[.bool mC, .slice aC nC cC] 52)
  have hk12 := NBox.new (T := 52) (HNC.out.alloc (.cells #[.bool mB, .slice aB nB cB] 52))
  rw [World.size_alloc] at hk12
  have hw6 : ((w5.alloc (.cells #[.bool mB, .slice aB nB cB] 52)).alloc (.cells #[.bool mC, .slice aC nC cC] 52)).heap.size = w5.heap.size + 2 := by simp
  have hb6 : Below w5.heap.size w5 ((w5.alloc (.cells #[.bool mB, .slice aB nB cB] 52)).alloc (.cells #[.bool mC, .slice aC nC cC] 52)) := ((Below.refl _ w5).alloc (Nat.le_refl _) _).alloc (by simp) _
  have hz6 := hz5.keep hb6
  generalize (w5.alloc (.cells #[.bool mB, .slice aB nB cB] 52)).alloc (.cells #[.bool mC, .slice aC nC cC] 52) = w6 at *
  have HB6 := Lib.hid hz6.1
  have HW6 := Lib.hid hw6
  obtain ⟨p9, q9, r9, s9, T9, k9, hm9, hs9⟩ := hz6.2.2.1
  obtain ⟨p10, q10, r10, s10, T10, k10, hm10, hs10⟩ := hz6.2.2.2
  obtain ⟨p11, q11, r11, s11, T11, k11, hm11, hs11⟩ := hk11
  obtain ⟨p12, q12, r12, s12, T12, k12, hm12, hs12⟩ := hk12
  have K9 := Lib.hid k9; have K10 := Lib.hid k10; have K11 := Lib.hid k11; have K12 := Lib.hid k12
  have N9 := Lib.hid (show Num w6 (.agg #[.bool p9, .slice q9 r9 s9]) x from ⟨_, _, _, _, rfl, hm9, hs9⟩)
  have N10 := Lib.hid (show Num w6 (.agg #[.bool p10, .slice q10 r10 s10]) y from ⟨_, _, _, _, rfl, hm10, hs10⟩)
  have N11 := Lib.hid (show Num w6 (.agg #[.bool p11, .slice q11 r11 s11]) (Int.gcd x y : Int) from ⟨_, _, _, _, rfl, hm11, hs11⟩)
  have N12 := Lib.hid (show Num w6 (.agg #[.bool p12, .slice q12 r12 s12]) (cox x y) from ⟨_, _, _, _, rfl, hm12, hs12⟩)
  have HS8 : Hid (∀ w', Below w6.heap.size w6 w' → H8 w3.heap.size w5.heap.size (.bool p9) (.slice q9 r9 s9) (.bool p10) (.slice q10 r10 s10) (.bool p11) (.slice q11 r11 s11) (.bool p12) (.slice q12 r12 s12) w') := Lib.hid fun w' hb =>
    ⟨(k9.below hb (Nat.le_refl _)).cell 0 _ rfl, (k9.below hb (Nat.le_refl _)).cell 1 _ rfl, (k10.below hb (Nat.le_refl _)).cell 0 _ rfl, (k10.below hb (Nat.le_refl _)).cell 1 _ rfl,
      (k11.below hb (Nat.le_refl _)).cell 0 _ rfl, (k11.below hb (Nat.le_refl _)).cell 1 _ rfl, (k12.below hb (Nat.le_refl _)).cell 0 _ rfl, (k12.below hb (Nat.le_refl _)).cell 1 _ rfl⟩
  have hwg : wl (Int.gcd x y : Int) ≤ 2000 := Nat.le_trans (wl_dec _) (by have := HG1.out; simp only [big, decide_eq_false_iff_not] at this; omega)
  have hwc : wl (cox x y) ≤ 2000 := Nat.le_trans (wl_dec _) (by have := HG2.out; simp only [big, decide_eq_false_iff_not] at this; omega)
  have hwp : wl (-(x * cox x y)) ≤ 4000 := by rw [wl_neg]; have := wl_mul x (cox x y); have := HX.out.wl; omega
  have hws : wl ((Int.gcd x y : Int) + -(x * cox x y)) ≤ 5000 := by have := wl_add (Int.gcd x y : Int) (-(x * cox x y)); omega
  have HWG := Lib.hid hwg; have HWC := Lib.hid hwc; have HWP := Lib.hid hwp; have HWS := Lib.hid hws
  clear hwg hwc hwp hws hw6 hz6 hz5 hb6 k9 k10 k11 k12 hm9 hs9 hm10 hs10 hm11 hs11 hm12 hs12 u0 u1 v0 v1 HNB HNC HZ U9 VA HN2 HN3 hb1 hb2 hb3 hb4 hb5 b1 b2 b3
  go_cut [13] (fun p13 wx => ∃ g13, p13 = .pointer (some ⟨g13, 0, none⟩) ∧ Hid (Below w6.heap.size w6 wx ∧ NBox wx g13 (Int.fdiv ((Int.gcd x y : Int) - x * cox x y) y)))
  case first =>
    have HBw : Hid (Below w6.heap.size w6 w6) := Lib.hid (Below.refl _ _)
    go_region_held3 (fun w' => Below w6.heap.size w6 w' ∧ w'.cell? ⟨w3.heap.size, 0, none⟩ = some (.bool p9) ∧ w'.cell? ⟨w3.heap.size, 1, none⟩ = some (.slice q9 r9 s9) ∧ w'.cell? ⟨w3.heap.size + 1, 0, none⟩ = some (.bool p10) ∧ w'.cell? ⟨w3.heap.size + 1, 1, none⟩ = some (.slice q10 r10 s10) ∧
        w'.cell? ⟨w5.heap.size, 0, none⟩ = some (.bool p11) ∧ w'.cell? ⟨w5.heap.size, 1, none⟩ = some (.slice q11 r11 s11) ∧ w'.cell? ⟨w5.heap.size + 1, 0, none⟩ = some (.bool p12) ∧ w'.cell? ⟨w5.heap.size + 1, 1, none⟩ = some (.slice q12 r12 s12))
      (((refine H8.with HS8.out ?_); (try with_reducible refine Below.drew ?_); (repeat first
        | with_reducible exact HBw.out
        | with_reducible refine Below.setCell ?_ (by first | omega | (simp; done) | (simp; omega)) _
        | with_reducible refine Below.alloc ?_ (by first | omega | (simp; done) | (simp; omega)) _)))
      (first
        | (go_at_call 43; (with_reducible refine (product_any _ _ _ x (cox x y) (N9.out.below (And.left (by assumption)) (Nat.le_refl _)) (N12.out.below (And.left (by assumption)) (Nat.le_refl _)) (by have := HWC.out; have := HX.out.wl; omega)).mono ?_); rintro e w' ⟨v, rfl, hp, hb⟩; have HP := Lib.hid hp; clear hp; have HBw := Lib.hid (show Below w6.heap.size w6 w' from Below.trans (And.left (by assumption)) (Below.mono hb (Below.size (And.left (by assumption))))); have hsz := HBw.out.size; (first
            | (have QB := Lib.hid (QB.out.below hb (Nat.le_refl _)); have QA := Lib.hid (QA.out.below hb (Nat.le_refl _)))
            | (have QB := Lib.hid (Bq.top hb (Nat.le_refl _)); have hAB := QA.out.lt; have hAB2 := Nat.ne_of_lt hAB; have hAB3 := Nat.ne_of_gt hAB; have QA := Lib.hid ((QA.out.alloc _).below hb (Nat.le_refl _)))
            | (have QA := Lib.hid (QA.out.below hb (Nat.le_refl _)))
            | (have QA := Lib.hid (Bq.topo hb (Nat.le_refl _)); have QB := Lib.hid (Bq.top2 hb (Nat.le_refl _)))
            | (have QA := Lib.hid (Bq.topod hb (Nat.le_refl _)); have QB := Lib.hid (Bq.top2d hb (Nat.le_refl _)))
            | (have QA := Lib.hid (Bq.top hb (Nat.le_refl _)))
            | (have QA := Lib.hid (Bq.topd hb (Nat.le_refl _)))
            | skip))
        | (go_at_call 44; (with_reducible refine (neg_any _ _ _ (by first | exact HP.out | exact HP.out.alloc _ | exact (HP.out.alloc _).alloc _)).mono ?_); rintro e w' ⟨v, rfl, hp, hb⟩; have HN := Lib.hid hp; clear hp; have HBw := Lib.hid (show Below w6.heap.size w6 w' from Below.trans (And.left (by assumption)) (Below.mono hb (Below.size (And.left (by assumption))))); have hsz := HBw.out.size; (first
            | (have QB := Lib.hid (QB.out.below hb (Nat.le_refl _)); have QA := Lib.hid (QA.out.below hb (Nat.le_refl _)))
            | (have QB := Lib.hid (Bq.top hb (Nat.le_refl _)); have hAB := QA.out.lt; have hAB2 := Nat.ne_of_lt hAB; have hAB3 := Nat.ne_of_gt hAB; have QA := Lib.hid ((QA.out.alloc _).below hb (Nat.le_refl _)))
            | (have QA := Lib.hid (QA.out.below hb (Nat.le_refl _)))
            | (have QA := Lib.hid (Bq.topo hb (Nat.le_refl _)); have QB := Lib.hid (Bq.top2 hb (Nat.le_refl _)))
            | (have QA := Lib.hid (Bq.topod hb (Nat.le_refl _)); have QB := Lib.hid (Bq.top2d hb (Nat.le_refl _)))
            | (have QA := Lib.hid (Bq.top hb (Nat.le_refl _)))
            | (have QA := Lib.hid (Bq.topd hb (Nat.le_refl _)))
            | skip))
        | (go_at_call 42; (with_reducible refine (sum_any _ _ _ (Int.gcd x y : Int) (-(x * cox x y)) (N11.out.below (And.left (by assumption)) (Nat.le_refl _)) (by first | exact HN.out | exact HN.out.alloc _ | exact (HN.out.alloc _).alloc _) (by have := HWG.out; omega) (by have := HWP.out; omega)).mono ?_); rintro e w' ⟨v, rfl, hp, hb⟩; have HU := Lib.hid hp; clear hp; have HBw := Lib.hid (show Below w6.heap.size w6 w' from Below.trans (And.left (by assumption)) (Below.mono hb (Below.size (And.left (by assumption))))); have hsz := HBw.out.size; (first
            | (have QB := Lib.hid (QB.out.below hb (Nat.le_refl _)); have QA := Lib.hid (QA.out.below hb (Nat.le_refl _)))
            | (have QB := Lib.hid (Bq.top hb (Nat.le_refl _)); have hAB := QA.out.lt; have hAB2 := Nat.ne_of_lt hAB; have hAB3 := Nat.ne_of_gt hAB; have QA := Lib.hid ((QA.out.alloc _).below hb (Nat.le_refl _)))
            | (have QA := Lib.hid (QA.out.below hb (Nat.le_refl _)))
            | (have QA := Lib.hid (Bq.topo hb (Nat.le_refl _)); have QB := Lib.hid (Bq.top2 hb (Nat.le_refl _)))
            | (have QA := Lib.hid (Bq.topod hb (Nat.le_refl _)); have QB := Lib.hid (Bq.top2d hb (Nat.le_refl _)))
            | (have QA := Lib.hid (Bq.top hb (Nat.le_refl _)))
            | (have QA := Lib.hid (Bq.topd hb (Nat.le_refl _)))
            | skip))
        | (go_at_call 29; (with_reducible refine (down_any _ _ _ _ y (by first | exact HU.out | exact HU.out.alloc _ | exact (HU.out.alloc _).alloc _) (N10.out.below (And.left (by assumption)) (Nat.le_refl _)) HY0.out (by have := HWS.out; omega) (by have := HY.out.wl; omega)).mono ?_); rintro e w' ⟨v, rfl, ⟨_, _, rfl, ⟨mQ, aQ, nQ, cQ, rfl, hmQ, hsQ⟩, ⟨mR, aR, nR, cR, rfl, hmR, hsR⟩⟩, hb⟩; have HQ := Lib.hid (show Num w' (.agg #[.bool mQ, .slice aQ nQ cQ]) (Int.fdiv ((Int.gcd x y : Int) - x * cox x y) y) from ⟨_, _, _, _, rfl, by rw [Int.sub_eq_add_neg]; exact hmQ, by rw [Int.sub_eq_add_neg]; exact hsQ⟩); have HR := Lib.hid (show Num w' (.agg #[.bool mR, .slice aR nR cR]) _ from ⟨_, _, _, _, rfl, hmR, hsR⟩); clear hmQ hsQ hmR hsR; have HBw := Lib.hid (show Below w6.heap.size w6 w' from Below.trans (And.left (by assumption)) (Below.mono hb (Below.size (And.left (by assumption))))); have hsz := HBw.out.size; (first
            | (have QB := Lib.hid (QB.out.below hb (Nat.le_refl _)); have QA := Lib.hid (QA.out.below hb (Nat.le_refl _)))
            | (have QB := Lib.hid (Bq.top hb (Nat.le_refl _)); have hAB := QA.out.lt; have hAB2 := Nat.ne_of_lt hAB; have hAB3 := Nat.ne_of_gt hAB; have QA := Lib.hid ((QA.out.alloc _).below hb (Nat.le_refl _)))
            | (have QA := Lib.hid (QA.out.below hb (Nat.le_refl _)))
            | (have QA := Lib.hid (Bq.topo hb (Nat.le_refl _)); have QB := Lib.hid (Bq.top2 hb (Nat.le_refl _)))
            | (have QA := Lib.hid (Bq.topod hb (Nat.le_refl _)); have QB := Lib.hid (Bq.top2d hb (Nat.le_refl _)))
            | (have QA := Lib.hid (Bq.top hb (Nat.le_refl _)))
            | (have QA := Lib.hid (Bq.topd hb (Nat.le_refl _)))
            | skip); (try obtain ⟨i0, i1, i2, i3, i4, i5⟩ := QA.out.facts); (try obtain ⟨j0, j1, j2, j3, j4, j5⟩ := QB.out.facts); (try obtain ⟨fa0, fa1, fa2, fa3⟩ := QA.out.fresh); (try have lA := QA.out.lt); (try have lB := QB.out.lt); (try have lA2 := Nat.ne_of_lt lA); (try have lB2 := Nat.ne_of_lt lB); (try have lA3 := Nat.ne_of_gt lA); (try have lB3 := Nat.ne_of_gt lB)))
    all_goals
      go_wp2_with fail
      go_meet
      refine ⟨_, rfl, Lib.hid ?_⟩
      first
        | with_reducible exact fin1 HBw.out HQ.out
        | with_reducible exact fin2 HBw.out HQ.out
        | ((with_reducible refine fin3 HBw.out QA.out ?_ HQ.out); omega)
        | ((with_reducible refine fin4 HBw.out QA.out ?_ HQ.out); omega)
        | ((with_reducible refine fin5 HBw.out QA.out QB.out ?_ ?_ ?_ HQ.out) <;> omega)
        | ((with_reducible refine fin5 HBw.out QB.out QA.out ?_ ?_ ?_ HQ.out) <;> omega)
  case rest =>
    obtain ⟨g13, rfl, hC⟩ := hcut
    obtain ⟨hbc, hq13⟩ := hC.out
    have ha : Below wc.heap.size wc (wc.alloc (.cells #[.string ⟨#[]⟩, .string ⟨#[]⟩, .string ⟨#[]⟩] 69)) := (Below.refl _ _).alloc (Nat.le_refl _) _
    have h8 := HS8.out (wc.alloc (.cells #[.string ⟨#[]⟩, .string ⟨#[]⟩, .string ⟨#[]⟩] 69)) (hbc.trans (ha.mono hbc.size))
    obtain ⟨-, -, -, -, e4, e5, e6, e7⟩ := h8
    obtain ⟨p13, q13, r13, s13, f0, f1, -, -, -, f5⟩ := (hq13.below ha (Nat.le_refl _)).facts
    have F13 := Lib.hid f5
    have F11 := Lib.hid (N11.out.below (hbc.trans (ha.mono hbc.size)) (Nat.le_refl _))
    have F12 := Lib.hid (N12.out.below (hbc.trans (ha.mono hbc.size)) (Nat.le_refl _))
    have HBC := Lib.hid (HB6.out.trans ((hbc.trans (ha.mono hbc.size)).mono HB6.out.size))
    have hwb : w.heap.size ≤ wc.heap.size := Nat.le_trans HB6.out.size hbc.size
    have hO : OB w wc.heap.size (.agg #[.bool p11, .slice q11 r11 s11]) (.agg #[.bool p12, .slice q12 r12 s12]) (.agg #[.bool p13, .slice q13 r13 s13])
        [.bool p11, .slice q11 r11 s11, .bool p12, .slice q12 r12 s12, .bool p13, .slice q13 r13 s13] (Int.gcd x y : Int) (cox x y) (Int.fdiv ((Int.gcd x y : Int) - x * cox x y) y) [.string ⟨#[]⟩, .string ⟨#[]⟩, .string ⟨#[]⟩]
        ((wc.alloc (.cells #[.string ⟨#[]⟩, .string ⟨#[]⟩, .string ⟨#[]⟩] 69)).alloc (.cells #[.bool p11, .slice q11 r11 s11, .bool p12, .slice q12 r12 s12, .bool p13, .slice q13 r13 s13] 52)) := by
      have hk := (Blk.new wc [.string ⟨#[]⟩, .string ⟨#[]⟩, .string ⟨#[]⟩] 69).alloc (.cells #[.bool p11, .slice q11 r11 s11, .bool p12, .slice q12 r12 s12, .bool p13, .slice q13 r13 s13] 52)
      have hk2 := Blk.new (wc.alloc (.cells #[.string ⟨#[]⟩, .string ⟨#[]⟩, .string ⟨#[]⟩] 69)) [.bool p11, .slice q11 r11 s11, .bool p12, .slice q12 r12 s12, .bool p13, .slice q13 r13 s13] 52
      rw [World.size_alloc] at hk2
      exact ⟨HBC.out.trans (((Below.refl _ _).alloc (Nat.le_refl _) _).mono HBC.out.size), hwb, hk, hk2, F11.out.alloc _, F12.out.alloc _, F13.out.alloc _⟩
    have HO := Lib.hid hO
    have r1 : resV (Int.gcd x y : Int) = .tuple #[.string (txt (Int.gcd x y : Int)), .int .i64 0] := by rw [resV_eq, resT_ok HG1.out, resK_ok HG1.out]
    have r2 : resV (cox x y) = .tuple #[.string (txt (cox x y)), .int .i64 0] := by rw [resV_eq, resT_ok HG2.out, resK_ok HG2.out]
    have r3 : resV (Int.fdiv ((Int.gcd x y : Int) - x * cox x y) y) = .tuple #[.string (txt (Int.fdiv ((Int.gcd x y : Int) - x * cox x y) y)), .int .i64 0] := by rw [resV_eq, resT_ok HG3.out, resK_ok HG3.out]
    have hw3 : wl (Int.fdiv ((Int.gcd x y : Int) - x * cox x y) y) ≤ 2000 := Nat.le_trans (wl_dec _) (by have := HG3.out; simp only [big, decide_eq_false_iff_not] at this; omega)
    have HW3 := Lib.hid hw3
    have R1 := Lib.hid r1; have R2 := Lib.hid r2; have R3 := Lib.hid r3
    clear ha hbc hq13 f5 hC hwb hO r1 r2 r3 hw3
    go_wp2
    go_loopw [62] (fun i wr => ∃ k : Nat, k ≤ 3 ∧ i = .int .i64 k ∧ Hid (OB w wc.heap.size (.agg #[.bool p11, .slice q11 r11 s11]) (.agg #[.bool p12, .slice q12 r12 s12]) (.agg #[.bool p13, .slice q13 r13 s13])
        [.bool p11, .slice q11 r11 s11, .bool p12, .slice q12 r12 s12, .bool p13, .slice q13 r13 s13] (Int.gcd x y : Int) (cox x y) (Int.fdiv ((Int.gcd x y : Int) - x * cox x y) y)
        [.string (if 0 < k then txt (Int.gcd x y : Int) else ⟨#[]⟩), .string (if 1 < k then txt (cox x y) else ⟨#[]⟩), .string (if 2 < k then txt (Int.fdiv ((Int.gcd x y : Int) - x * cox x y) y) else ⟨#[]⟩)] wr)) (fun i _ => 3 - (intOf i).toNat)
    case atStart => exact ⟨0, by omega, rfl, HO⟩
    case round =>
      clear HO
      obtain ⟨k, hk, rfl, hO⟩ := hrel
      obtain ⟨hbw, hwb, hka, hks, hn1, hn2, hn3⟩ := hO.out
      have c0 := hks.cell 0 _ rfl
      have c1 := hks.cell 1 _ rfl
      have c2 := hks.cell 2 _ rfl
      have c3 := hks.cell 3 _ rfl
      have c4 := hks.cell 4 _ rfl
      have c5 := hks.cell 5 _ rfl
      have HN1 := Lib.hid hn1; have HN2 := Lib.hid hn2; have HN3 := Lib.hid hn3; have HKA := Lib.hid hka
      clear hka hks hn1 hn2 hn3
      rcases (show k = 0 ∨ k = 1 ∨ k = 2 ∨ k = 3 by omega) with rfl | rfl | rfl | rfl
      · clear hk
        go_wp2_with (go_at_call 30; have ha := (Below.refl wr.heap.size wr).alloc (Nat.le_refl _) (.cells #[.bool p11, .slice q11 r11 s11] 52); (with_reducible refine (result_any _ _ (Int.gcd x y : Int) (HN1.out.below ha (Nat.le_refl _)) (by have := HWG.out; omega) (HE.out.below (hbw.trans (ha.mono hbw.size)) (Nat.le_refl _))).mono ?_); rintro e w' ⟨v, rfl, rfl, hb⟩; rw [R1.out]; have ho := (hO.out.keep ha).keep hb; have hkb := ho.2.2.1; have d0 := hkb.cell 0 _ rfl; have d1 := hkb.free 0; have HO2 := Lib.hid (ho.store (by simp) 0 (txt (Int.gcd x y : Int))); clear ho hkb)
        go_roundw
        case rel => exact ⟨1, by omega, by go_num, Lib.hid (by simpa using HO2.out)⟩
        case measure => simp [intOf]
      · clear hk
        go_wp2_with (go_at_call 30; have ha := (Below.refl wr.heap.size wr).alloc (Nat.le_refl _) (.cells #[.bool p12, .slice q12 r12 s12] 52); (with_reducible refine (result_any _ _ (cox x y) (HN2.out.below ha (Nat.le_refl _)) (by have := HWC.out; omega) (HE.out.below (hbw.trans (ha.mono hbw.size)) (Nat.le_refl _))).mono ?_); rintro e w' ⟨v, rfl, rfl, hb⟩; rw [R2.out]; have ho := (hO.out.keep ha).keep hb; have hkb := ho.2.2.1; have d0 := hkb.cell 1 _ rfl; have d1 := hkb.free 1; have HO2 := Lib.hid (ho.store (by simp) 1 (txt (cox x y))); clear ho hkb)
        go_roundw
        case rel => exact ⟨2, by omega, by go_num, Lib.hid (by simpa using HO2.out)⟩
        case measure => simp [intOf]
      · clear hk
        go_wp2_with (go_at_call 30; have ha := (Below.refl wr.heap.size wr).alloc (Nat.le_refl _) (.cells #[.bool p13, .slice q13 r13 s13] 52); (with_reducible refine (result_any _ _ (Int.fdiv ((Int.gcd x y : Int) - x * cox x y) y) (HN3.out.below ha (Nat.le_refl _)) (by have := HW3.out; omega) (HE.out.below (hbw.trans (ha.mono hbw.size)) (Nat.le_refl _))).mono ?_); rintro e w' ⟨v, rfl, rfl, hb⟩; rw [R3.out]; have ho := (hO.out.keep ha).keep hb; have hkb := ho.2.2.1; have d0 := hkb.cell 2 _ rfl; have d1 := hkb.free 2; have HO2 := Lib.hid (ho.store (by simp) 2 (txt (Int.fdiv ((Int.gcd x y : Int) - x * cox x y) y))); clear ho hkb)
        go_roundw
        case rel => exact ⟨3, by omega, by go_num, Lib.hid (by simpa using HO2.out)⟩
        case measure => simp [intOf]
      · have d0 := HKA.out.cell 0 _ rfl
        have d1 := HKA.out.cell 1 _ rfl
        have d2 := HKA.out.cell 2 _ rfl
        have e0 : (if 0 < 3 then txt (Int.gcd x y : Int) else ⟨#[]⟩) = txt (Int.gcd x y : Int) := rfl
        rw [if_pos (by omega)] at d0 d1 d2
        go_wp2
        go_quiet (fail)
        go_wp2
        refine bodyPost_ret (v := .tuple #[.string (txt (Int.gcd x y : Int)), .string (txt (cox x y)), .string (txt (Int.fdiv ((Int.gcd x y : Int) - x * cox x y) y)), .int .i64 0]) (by simp [results, Tryz.results11, go_sem]) rfl ?_
        exact ⟨_, rfl, rfl, below_drewN hbw _⟩
end Go.Proofs.YtcjcknncajinpaaGreatDoor
