/- The walks of integer's numbers with a sign. The walks of integer's products and sums of numbers with a sign. The walk of integer's quotient, rounded down, and remainder. The walk of integer's number.down. The walks of integer's text of a number, and of its result. The walk of integer's Check. The walk of integer's checked. Decimal numerals: their values, what a canonical text is. The words of a row of digits, from the right. The walk of integer's iterator over the groups of digits. The walk of integer's read. The walks of integer's Sign, Neg, Abs, Of. The walk of integer's Compare. The walks of integer's Abs, Quo, Rem. Plain facts on decimal digits, the last one first. The walks of the reference's digits of integers. -/
import Derived.Test.YtlnhocgjgmhfgaaGreatDoorPk5
import Derived.RangeFuncBox
import Derived.RangeFuncNested
import Derived.RangeFuncBound
import Derived.RangeFuncCalls
import Derived.RangeFuncLeaves
import Derived.Shelf.Abstract
import Derived.Shelf.RegionOpen
import Derived.WalkKit
import Derived.OwnWalkIn
import Derived.TacticsInMore
import Derived.LoopNIn
import Derived.LoopIn
import Derived.Maps.AppendAt
namespace Go.Proofs.YtlnhocgjgmhfgaaGreatDoor
open Go.RowKit
set_option maxRecDepth 100000

/-- The value reads as the integer z. -/
def Num (w : World) (v : Value) (z : Int) : Prop := ∃ m a n c, v = .agg #[.bool m, .slice a n c] ∧ m = decide (z < 0) ∧ Sl eU w (.slice a n c) (digs 1000000000 z.natAbs)
/-- How many words an integer has. -/
def wl (z : Int) : Nat := (digs 1000000000 z.natAbs).length

theorem Num.below {w w' : World} {v : Value} {z : Int} {B : Nat} (h : Num w v z) (hb : Below B w w') (hB : w.heap.size ≤ B) : Num w' v z := by
  obtain ⟨m, a, n, c, rfl, hm, hs⟩ := h
  exact ⟨m, a, n, c, rfl, hm, hs.below hb hB⟩
theorem Sl.shape {α : Type} {enc : α → Value} {w : World} {v : Value} {xs : List α} (h : Sl enc w v xs) : ∃ a n c, v = .slice a n c := by
  obtain ⟨a, b, o, c, rfl, _⟩ := h; exact ⟨a, _, c, rfl⟩
/-- A number stored into a box of the call's own. -/
theorem store2 {w : World} {g : Nat} {p q : Value} {T : TypeId} (hk : Blk w g [p, q] T) (hp : ∀ n, p ≠ eU n) (hq : ∀ n, q ≠ eU n) (m : Bool) (a : Option Addr) (n c : Nat) {xs : List Nat} (hs : Sl eU w (.slice a n c) xs) :
    Sl eU ((w.setCell ⟨g, 0, none⟩ (.bool m)).setCell ⟨g, 1, none⟩ (.slice a n c)) (.slice a n c) xs ∧ ((w.setCell ⟨g, 0, none⟩ (.bool m)).setCell ⟨g, 1, none⟩ (.slice a n c)).cell? ⟨g, 0, none⟩ = some (.bool m) ∧
      ((w.setCell ⟨g, 0, none⟩ (.bool m)).setCell ⟨g, 1, none⟩ (.slice a n c)).cell? ⟨g, 1, none⟩ = some (.slice a n c) := by
  have h1 := hk.set 0 (.bool m)
  have h2 := h1.set 1 (.slice a n c)
  refine ⟨(hs.set_other hk ?_ _).set_other h1 ?_ _, h2.cell 0 _ rfl, h2.cell 1 _ rfl⟩
  · intro x hx; simp at hx; rcases hx with rfl | rfl; exact hp; exact hq
  · intro x hx n; simp at hx; rcases hx with rfl | rfl; simp [eU]; exact hq n
/-- The number with a sign and a size. -/
def sg (m : Bool) (n : Nat) : Int := if m then -(n : Int) else n
theorem sg_neg (m : Bool) (n : Nat) : decide (sg m n < 0) = (m && decide (0 < n)) := by
  cases m
  · simp [sg]
  · simp [sg]
theorem sg_abs (m : Bool) (n : Nat) : (sg m n).natAbs = n := by cases m <;> simp [sg]
theorem digs_pos_len (n : Nat) : 0 < (digs 1000000000 n).length ↔ 0 < n := by
  rw [List.length_pos_iff, Ne, digs_nil (by omega)]; omega

set_option maxHeartbeats 400000 in
theorem signed_any (w : World) (m : Bool) (x : Value) (n : Nat) (hx : Sl eU w x (digs 1000000000 n)) :
    Calls Tryz.prog 104 #[.bool m, x] w (Rets fun v w' => Num w' v (sg m n) ∧ Below w.heap.size w w') := by
  have HX := Lib.hid hx
  obtain ⟨a, l, c, rfl⟩ := hx.shape
  have hn := digs_pos_len n
  rw [← hx.len.1] at hn
  have HN := Lib.hid hn; clear hn hx
  cases m
  · go_enter Tryz.func104, Tryz.ntmps104
    go_wp2
    go_returns
    exact ⟨_, rfl, ⟨_, _, _, _, rfl, by rw [sg_neg]; rfl, by rw [sg_abs]; exact HX.out.below ((Below.refl _ w).alloc (Nat.le_refl _) _) (Nat.le_refl _)⟩, (Below.refl _ w).alloc (Nat.le_refl _) _⟩
  · go_enter Tryz.func104, Tryz.ntmps104
    go_wp2
    go_returns
    refine ⟨_, rfl, ⟨_, _, _, _, rfl, ?_, by rw [sg_abs]; exact HX.out.below ((Below.refl _ w).alloc (Nat.le_refl _) _) (Nat.le_refl _)⟩, (Below.refl _ w).alloc (Nat.le_refl _) _⟩
    have e : decide (0 < l) = decide (0 < n) := decide_eq_decide.2 HN.out
    rw [sg_neg, Bool.true_and, ← e]

set_option maxHeartbeats 400000 in
theorem neg_any (w : World) (x : Value) (z : Int) (hx : Num w x z) :
    Calls Tryz.prog 117 #[x] w (Rets fun v w' => Num w' v (-z) ∧ Below w.heap.size w w') := by
  obtain ⟨m, a, n, c, rfl, hm, hs⟩ := hx
  have HX := Lib.hid hs; clear hs
  have e2 : sg (!m) z.natAbs = -z := by
    rw [hm]; by_cases h : z < 0 <;> simp [sg, h] <;> omega
  have E2 := Lib.hid e2; clear e2 hm
  go_enter Tryz.func117, Tryz.ntmps117
  go_wp2_with fail
  have hb0 : Below w.heap.size w ((w.alloc (.cells #[.bool m, .slice a n c] 138)).alloc (.cells #[.bool false, .slice none 0 0] 138)) := ((Below.refl _ w).alloc (Nat.le_refl _) _).alloc (by simp) _
  refine (signed_any _ _ _ z.natAbs (HX.out.below hb0 (Nat.le_refl _))).mono ?_
  rintro e w1 ⟨v, rfl, ⟨m1, a1, n1, c1, rfl, hm1, hs1⟩, hb1⟩
  rw [E2.out] at hs1 hm1
  have hbk := (Blk.new (w.alloc (.cells #[.bool m, .slice a n c] 138)) [.bool false, .slice none 0 0] 138).below hb1 (Nat.le_refl _)
  rw [World.size_alloc] at hbk
  have k0 := hbk.cell 0 _ rfl
  have k1 := hbk.cell 1 _ rfl
  have f0 := hbk.free 0
  have f1 := hbk.free 1
  have HS1 := Lib.hid hs1
  have HM1 := Lib.hid hm1
  have hbw := hb0.trans (hb1.mono (by simp; omega))
  have HBW := Lib.hid hbw
  clear hs1 hb1 hb0 hbw hm1
  go_wp2
  obtain ⟨hs2, r0, r1⟩ := store2 hbk (by simp [eU]) (by simp [eU]) m1 a1 n1 c1 HS1.out
  refine bodyPost_ret (v := .agg #[.bool m1, .slice a1 n1 c1]) (by simp [results, Tryz.results117, go_sem, r0, r1]) rfl ?_
  exact ⟨_, rfl, ⟨_, _, _, _, rfl, HM1.out, hs2⟩, (HBW.out.setCell (by simp) _).setCell (by simp) _⟩
end Go.Proofs.YtlnhocgjgmhfgaaGreatDoor

namespace Go.Proofs.YtlnhocgjgmhfgaaGreatDoor
open Go.RowKit
set_option maxRecDepth 100000

theorem wl_mul (x y : Int) : wl (x * y) ≤ wl x + wl y := by unfold wl; rw [Int.natAbs_mul]; exact digs_len_mul _ _ _ (by omega)
theorem wl_add (x y : Int) : wl (x + y) ≤ max (wl x) (wl y) + 1 := by
  unfold wl
  exact Nat.le_trans (digs_len_mono _ (by omega) (Int.natAbs_add_le x y)) (digs_len_add _ _ _ (by omega))
theorem wl_neg (x : Int) : wl (-x) = wl x := by unfold wl; rw [Int.natAbs_neg]
theorem sg_mul (x y : Int) : sg (decide (x < 0) != decide (y < 0)) (x.natAbs * y.natAbs) = x * y := by
  rcases Int.lt_or_le x 0 with h | h <;> rcases Int.lt_or_le y 0 with h' | h'
  · have e : x * y = ((x.natAbs * y.natAbs : Nat) : Int) := by rw [Int.natCast_mul, Int.ofNat_natAbs_of_nonpos (by omega), Int.ofNat_natAbs_of_nonpos (by omega), Int.neg_mul_neg]
    simp [sg, h, h', e]
  · have e : x * y = -((x.natAbs * y.natAbs : Nat) : Int) := by rw [Int.natCast_mul, Int.ofNat_natAbs_of_nonpos (by omega), Int.natAbs_of_nonneg h', Int.neg_mul, Int.neg_neg]
    simp [sg, h, show ¬ y < 0 by omega, e]
  · have e : x * y = -((x.natAbs * y.natAbs : Nat) : Int) := by rw [Int.natCast_mul, Int.natAbs_of_nonneg h, Int.ofNat_natAbs_of_nonpos (by omega), Int.mul_neg, Int.neg_neg]
    simp [sg, h', show ¬ x < 0 by omega, e]
  · have e : x * y = ((x.natAbs * y.natAbs : Nat) : Int) := by rw [Int.natCast_mul, Int.natAbs_of_nonneg h, Int.natAbs_of_nonneg h']
    simp [sg, show ¬ x < 0 by omega, show ¬ y < 0 by omega, e]

/-- Two numbers in boxes, and a box for the result. -/
def Boxes (w : World) (m : Bool) (a : Option Addr) (n c : Nat) (m' : Bool) (a' : Option Addr) (n' c' : Nat) (w' : World) : Prop :=
  Below w.heap.size w w' ∧ Blk w' w.heap.size [.bool m, .slice a n c] 138 ∧ Blk w' (w.heap.size + 1) [.bool m', .slice a' n' c'] 138 ∧
    ∃ p q, Blk w' (w.heap.size + 1 + 1) [p, q] 138 ∧ (∀ n, p ≠ eU n) ∧ (∀ n, q ≠ eU n)
section
variable {w w1 w2 : World} {m : Bool} {a : Option Addr} {n c : Nat} {m' : Bool} {a' : Option Addr} {n' c' : Nat}
theorem Boxes.keep (h : Boxes w m a n c m' a' n' c' w1) (hb : Below w1.heap.size w1 w2) : Boxes w m a n c m' a' n' c' w2 := by
  obtain ⟨h1, h2, h3, p, q, h4, hp, hq⟩ := h
  exact ⟨h1.trans (hb.mono h1.size), h2.below hb (Nat.le_refl _), h3.below hb (Nat.le_refl _), p, q, h4.below hb (Nat.le_refl _), hp, hq⟩
theorem Boxes.below' {F : Prop} (h : Boxes w m a n c m' a' n' c' w1 ∧ F) : Below w.heap.size w w1 := h.1.1
theorem Boxes.made (w : World) (m : Bool) (a : Option Addr) (n c : Nat) (m' : Bool) (a' : Option Addr) (n' c' : Nat) :
    Boxes w m a n c m' a' n' c' (((w.alloc (.cells #[.bool m, .slice a n c] 138)).alloc (.cells #[.bool m', .slice a' n' c'] 138)).alloc (.cells #[.bool false, .slice none 0 0] 138)) := by
  have h1 := Blk.new w [.bool m, .slice a n c] 138
  have h2 := Blk.new (w.alloc (.cells #[.bool m, .slice a n c] 138)) [.bool m', .slice a' n' c'] 138
  have h3 := Blk.new ((w.alloc (.cells #[.bool m, .slice a n c] 138)).alloc (.cells #[.bool m', .slice a' n' c'] 138)) [.bool false, .slice none 0 0] 138
  rw [World.size_alloc] at h2
  rw [World.size_alloc, World.size_alloc] at h3
  exact ⟨(((Below.refl _ w).alloc (Nat.le_refl _) _).alloc (by simp) _).alloc (by simp; omega) _, (h1.alloc _).alloc _, h2.alloc _, _, _, h3, by simp [eU], by simp [eU]⟩
theorem Boxes.drew (h : Boxes w m a n c m' a' n' c' w1) : Boxes w m a n c m' a' n' c' w1.drew := ⟨h.1.drew, h.2.1, h.2.2.1, h.2.2.2⟩
theorem Boxes.store (h : Boxes w m a n c m' a' n' c' w1) (b : Bool) (v : Option Addr) (k l : Nat) : Boxes w m a n c m' a' n' c' ((w1.setCell ⟨w.heap.size + 1 + 1, 0, none⟩ (.bool b)).setCell ⟨w.heap.size + 1 + 1, 1, none⟩ (.slice v k l)) := by
  obtain ⟨h1, h2, h3, p, q, h4, hp, hq⟩ := h
  exact ⟨(h1.setCell (by simp; omega) _).setCell (by simp; omega) _, (h2.setCell (by omega) _).setCell (by omega) _, (h3.setCell (by omega) _).setCell (by omega) _, _, _, (h4.set 0 _).set 1 _, by simp [eU], by simp [eU]⟩
/-- What the walk wants of the two arguments. -/
theorem Boxes.facts (h : Boxes w m a n c m' a' n' c' w1) :
    w1.cell? ⟨w.heap.size, 0, none⟩ = some (.bool m) ∧ w1.cell? ⟨w.heap.size, 1, none⟩ = some (.slice a n c) ∧ w1.cell? ⟨w.heap.size + 1, 0, none⟩ = some (.bool m') ∧ w1.cell? ⟨w.heap.size + 1, 1, none⟩ = some (.slice a' n' c') :=
  ⟨h.2.1.cell 0 _ rfl, h.2.1.cell 1 _ rfl, h.2.2.1.cell 0 _ rfl, h.2.2.1.cell 1 _ rfl⟩
/-- .. and of the result's box. -/
theorem Boxes.res (h : Boxes w m a n c m' a' n' c' w1) : ∃ p q, w1.cell? ⟨w.heap.size + 1 + 1, 0, none⟩ = some p ∧ w1.cell? ⟨w.heap.size + 1 + 1, 1, none⟩ = some q ∧ w1.frozen? ⟨w.heap.size + 1 + 1, 0, none⟩ = false ∧ w1.frozen? ⟨w.heap.size + 1 + 1, 1, none⟩ = false := by
  obtain ⟨h1, h2, h3, p, q, h4, hp, hq⟩ := h
  exact ⟨p, q, h4.cell 0 _ rfl, h4.cell 1 _ rfl, h4.free 0, h4.free 1⟩
/-- The result, stored. -/
theorem Boxes.stored {r : Bool} {v : Option Addr} {k l : Nat} {xs : List Nat} (h : Boxes w m a n c m' a' n' c' w1) (hs : Sl eU w1 (.slice v k l) xs) :
    Sl eU ((w1.setCell ⟨w.heap.size + 1 + 1, 0, none⟩ (.bool r)).setCell ⟨w.heap.size + 1 + 1, 1, none⟩ (.slice v k l)) (.slice v k l) xs ∧
    ((w1.setCell ⟨w.heap.size + 1 + 1, 0, none⟩ (.bool r)).setCell ⟨w.heap.size + 1 + 1, 1, none⟩ (.slice v k l)).cell? ⟨w.heap.size + 1 + 1, 0, none⟩ = some (.bool r) ∧
    ((w1.setCell ⟨w.heap.size + 1 + 1, 0, none⟩ (.bool r)).setCell ⟨w.heap.size + 1 + 1, 1, none⟩ (.slice v k l)).cell? ⟨w.heap.size + 1 + 1, 1, none⟩ = some (.slice v k l) ∧
    Below w.heap.size w ((w1.setCell ⟨w.heap.size + 1 + 1, 0, none⟩ (.bool r)).setCell ⟨w.heap.size + 1 + 1, 1, none⟩ (.slice v k l)) := by
  have hst := (h.store r v k l).1
  obtain ⟨h1, h2, h3, p, q, h4, hp, hq⟩ := h
  obtain ⟨g1, g2, g3⟩ := store2 h4 hp hq r v k l hs
  exact ⟨g1, g2, g3, hst⟩
end

set_option maxHeartbeats 1000000 in
theorem product_any (w : World) (x y : Value) (s t : Int) (hx : Num w x s) (hy : Num w y t) (hl : wl s + wl t ≤ 1000000000000) :
    Calls Tryz.prog 78 #[x, y] w (Rets fun v w' => Num w' v (s * t) ∧ Below w.heap.size w w') := by
  obtain ⟨m, a, n, c, rfl, hm, hs⟩ := hx
  obtain ⟨m', a', n', c', rfl, hm', hs'⟩ := hy
  have HX := Lib.hid hs; have HY := Lib.hid hs'
  have e2 : sg (m != m') (s.natAbs * t.natAbs) = s * t := by rw [hm, hm']; exact sg_mul s t
  have E2 := Lib.hid e2
  have HBX := Lib.hid (Boxes.made w m a n c m' a' n' c')
  clear hs hs' e2 hm hm'
  unfold wl at hl
  go_enter Tryz.func78, Tryz.ntmps78
  go_wp2_with fail
  go_region_held3 (fun w' => Boxes w m a n c m' a' n' c' w' ∧ (w'.cell? ⟨w.heap.size, 0, none⟩ = some (.bool m) ∧ w'.cell? ⟨w.heap.size, 1, none⟩ = some (.slice a n c) ∧ w'.cell? ⟨w.heap.size + 1, 0, none⟩ = some (.bool m') ∧ w'.cell? ⟨w.heap.size + 1, 1, none⟩ = some (.slice a' n' c')))
    (first
      | exact ⟨HBX.out.drew, HBX.out.drew.facts⟩
      | (have hk := Boxes.keep (And.left (by assumption)) (by assumption); exact ⟨hk, hk.facts⟩)
      | exact ⟨Boxes.store (And.left (by assumption)) _ _ _ _, (Boxes.store (And.left (by assumption)) _ _ _ _).facts⟩)
    (first
      | (go_at_call 105; refine (times_any _ _ _ _ _ (HX.out.below (Boxes.below' (by assumption)) (Nat.le_refl _)) (HY.out.below (Boxes.below' (by assumption)) (Nat.le_refl _)) (digs_lt _ _ (by omega)) (digs_lt _ _ (by omega)) (by omega)).mono ?_; rintro e w' ⟨v, rfl, hv, hb⟩; rw [val_digs _ _ (by omega), val_digs _ _ (by omega)] at hv)
      | (go_at_call 104; refine (signed_any _ _ _ _ (by assumption)).mono ?_; rintro e w' ⟨v, rfl, ⟨m1, a1, n1, c1, rfl, hm1, hs1⟩, hb⟩; have HM1 := Lib.hid hm1; clear hm1; have hk := Boxes.keep (And.left (by assumption)) hb; obtain ⟨p, q, hk0, hk1, hf0, hf1⟩ := hk.res))
  all_goals
    have e3 : sg (!(m == m')) (s.natAbs * t.natAbs) = s * t := E2.out
    rw [e3] at hs1 HM1
    obtain ⟨g1, r0, r1, hst⟩ := hk.stored (r := m1) hs1
    have HG := Lib.hid g1; have HST := Lib.hid hst
    clear g1 hst e3 hs1
    go_wp2
    refine bodyPost_ret (v := .agg #[.bool m1, .slice a1 n1 c1]) (by simp [results, Tryz.results78, go_sem, r0, r1]) rfl ?_
    exact ⟨_, rfl, ⟨_, _, _, _, rfl, HM1.out, HG.out⟩, HST.out⟩

theorem natCmp (x y : Int) (h : decide (x < 0) = decide (y < 0)) : sg (decide (x < 0)) (x.natAbs + y.natAbs) = x + y := by
  by_cases h1 : x < 0 <;> by_cases h2 : y < 0 <;> simp [h1, h2, sg] at h ⊢ <;> omega
theorem natCmp2 (x y : Int) (h : decide (x < 0) ≠ decide (y < 0)) (hle : y.natAbs ≤ x.natAbs) : sg (decide (x < 0)) (x.natAbs - y.natAbs) = x + y := by
  by_cases h1 : x < 0 <;> by_cases h2 : y < 0 <;> simp [h1, h2, sg] at h ⊢ <;> omega
theorem natCmp3 (x y : Int) (h : decide (x < 0) ≠ decide (y < 0)) (hle : x.natAbs ≤ y.natAbs) : sg (decide (y < 0)) (y.natAbs - x.natAbs) = x + y := by
  by_cases h1 : x < 0 <;> by_cases h2 : y < 0 <;> simp [h1, h2, sg] at h ⊢ <;> omega

set_option maxHeartbeats 1000000 in
theorem sum_same (w : World) (x y : Value) (s t : Int) (hx : Num w x s) (hy : Num w y t) (hl : wl s ≤ 1000000000000) (hl' : wl t ≤ 1000000000000) (hst : decide (s < 0) = decide (t < 0)) :
    Calls Tryz.prog 152 #[x, y] w (Rets fun v w' => Num w' v (s + t) ∧ Below w.heap.size w w') := by
  obtain ⟨m, a, n, c, rfl, hm, hs⟩ := hx
  obtain ⟨m', a', n', c', rfl, hm', hs'⟩ := hy
  have HX := Lib.hid hs; have HY := Lib.hid hs'
  have e2 : sg m (s.natAbs + t.natAbs) = s + t := by rw [hm]; exact natCmp s t hst
  obtain rfl : m = m' := by rw [hm, hm', hst]
  have E2 := Lib.hid e2
  have HBX := Lib.hid (Boxes.made w m a n c m a' n' c')
  clear hs hs' e2 hm hm' hst
  unfold wl at hl hl'
  go_enter Tryz.func152, Tryz.ntmps152
  go_wp2_with fail
  go_region_held3 (fun w' => Boxes w m a n c m a' n' c' w' ∧ (w'.cell? ⟨w.heap.size, 0, none⟩ = some (.bool m) ∧ w'.cell? ⟨w.heap.size, 1, none⟩ = some (.slice a n c) ∧ w'.cell? ⟨w.heap.size + 1, 0, none⟩ = some (.bool m) ∧ w'.cell? ⟨w.heap.size + 1, 1, none⟩ = some (.slice a' n' c')))
    (first
      | exact ⟨HBX.out.drew, HBX.out.drew.facts⟩
      | (have hk := Boxes.keep (And.left (by assumption)) (by assumption); exact ⟨hk, hk.facts⟩)
      | exact ⟨Boxes.store (And.left (by assumption)) _ _ _ _, (Boxes.store (And.left (by assumption)) _ _ _ _).facts⟩)
    (first
      | (go_at_call 167; refine (plus_any _ _ _ _ _ (HX.out.below (Boxes.below' (by assumption)) (Nat.le_refl _)) (HY.out.below (Boxes.below' (by assumption)) (Nat.le_refl _)) (digs_lt _ _ (by omega)) (digs_lt _ _ (by omega)) (by omega) (by omega)).mono ?_; rintro e w' ⟨v, rfl, hv, hb⟩; rw [val_digs _ _ (by omega), val_digs _ _ (by omega)] at hv)
      | (go_at_call 104; refine (signed_any _ _ _ _ (by assumption)).mono ?_; rintro e w' ⟨v, rfl, ⟨m1, a1, n1, c1, rfl, hm1, hs1⟩, hb⟩; have HM1 := Lib.hid hm1; clear hm1; have hk := Boxes.keep (And.left (by assumption)) hb; obtain ⟨p, q, hk0, hk1, hf0, hf1⟩ := hk.res))
  all_goals
    rw [E2.out] at hs1 HM1
    obtain ⟨g1, r0, r1, hst⟩ := hk.stored (r := m1) hs1
    have HG := Lib.hid g1; have HST := Lib.hid hst
    clear g1 hst hs1
    go_wp2
    refine bodyPost_ret (v := .agg #[.bool m1, .slice a1 n1 c1]) (by simp [results, Tryz.results152, go_sem, r0, r1]) rfl ?_
    exact ⟨_, rfl, ⟨_, _, _, _, rfl, HM1.out, HG.out⟩, HST.out⟩

set_option maxHeartbeats 1000000 in
theorem sum_other (w : World) (x y : Value) (s t : Int) (hx : Num w x s) (hy : Num w y t) (hl : wl s ≤ 1000000000000) (hl' : wl t ≤ 1000000000000) (hst : decide (s < 0) ≠ decide (t < 0)) :
    Calls Tryz.prog 152 #[x, y] w (Rets fun v w' => Num w' v (s + t) ∧ Below w.heap.size w w') := by
  obtain ⟨m, a, n, c, rfl, hm, hs⟩ := hx
  obtain ⟨m', a', n', c', rfl, hm', hs'⟩ := hy
  have HX := Lib.hid hs; have HY := Lib.hid hs'
  obtain rfl : m' = !m := by rw [hm, hm']; cases h1 : decide (s < 0) <;> cases h2 : decide (t < 0) <;> simp_all
  have HBX := Lib.hid (Boxes.made w m a n c (!m) a' n' c')
  have hmm : (m == !m) = false := by cases m <;> rfl
  have HM := Lib.hid hm; have HM' := Lib.hid hm'; have HST0 := Lib.hid hst
  clear hs hs' hm hm' hst
  unfold wl at hl hl'
  have vx := val_digs 1000000000 s.natAbs (by omega)
  have vy := val_digs 1000000000 t.natAbs (by omega)
  have HVX := Lib.hid vx; have HVY := Lib.hid vy
  clear vx vy
  go_enter Tryz.func152, Tryz.ntmps152
  go_wp2_with fail
  refine (compare_any _ _ _ _ _ (HX.out.below HBX.out.1 (Nat.le_refl _)) (HY.out.below HBX.out.1 (Nat.le_refl _)) (by omega) (by omega)).mono ?_
  rintro e w1 ⟨v, rfl, ⟨r, rfl, hr, -⟩, hb1⟩
  have hkk := HBX.out.keep hb1
  clear HBX
  have HBX := Lib.hid hkk
  have HR := Lib.hid hr
  clear hr hb1 hkk
  by_cases hlt : s.natAbs < t.natAbs
  · have hr1 : ¬ 0 ≤ r := by have := HR.out.2 hlt; omega
    have hle2 : (digs 1000000000 s.natAbs).length ≤ (digs 1000000000 t.natAbs).length := digs_len_mono _ (by omega) (by omega)
    have hvle : val 1000000000 (digs 1000000000 s.natAbs) ≤ val 1000000000 (digs 1000000000 t.natAbs) := by rw [HVX.out, HVY.out]; omega
    have HVLE := Lib.hid hvle; clear hvle
    have e2 : sg (!m) (t.natAbs - s.natAbs) = s + t := by rw [HM'.out]; exact natCmp3 s t HST0.out (by omega)
    have E2 := Lib.hid e2; clear e2
    go_wp2_with fail
    go_region_held3 (fun w' => Boxes w m a n c (!m) a' n' c' w' ∧ (w'.cell? ⟨w.heap.size, 0, none⟩ = some (.bool m) ∧ w'.cell? ⟨w.heap.size, 1, none⟩ = some (.slice a n c) ∧ w'.cell? ⟨w.heap.size + 1, 0, none⟩ = some (.bool (!m)) ∧ w'.cell? ⟨w.heap.size + 1, 1, none⟩ = some (.slice a' n' c')))
      (first
        | exact ⟨HBX.out.drew, HBX.out.drew.facts⟩
        | (have hk := Boxes.keep (And.left (by assumption)) (by assumption); exact ⟨hk, hk.facts⟩)
        | exact ⟨Boxes.store (And.left (by assumption)) _ _ _ _, (Boxes.store (And.left (by assumption)) _ _ _ _).facts⟩)
      (first
        | (go_at_call 169; refine (less_any _ _ _ _ _ (HY.out.below (Boxes.below' (by assumption)) (Nat.le_refl _)) (HX.out.below (Boxes.below' (by assumption)) (Nat.le_refl _)) (digs_lt _ _ (by omega)) (digs_lt _ _ (by omega)) (by omega) (by omega) HVLE.out).mono ?_; rintro e w' ⟨v, rfl, hv, hb⟩; rw [val_digs _ _ (by omega), val_digs _ _ (by omega)] at hv)
        | (go_at_call 104; refine (signed_any _ _ _ _ (by assumption)).mono ?_; rintro e w' ⟨v, rfl, ⟨m1, a1, n1, c1, rfl, hm1, hs1⟩, hb⟩; have HM1 := Lib.hid hm1; clear hm1; have hk := Boxes.keep (And.left (by assumption)) hb; obtain ⟨p, q, hk0, hk1, hf0, hf1⟩ := hk.res))
    all_goals
      rw [E2.out] at hs1 HM1
      obtain ⟨g1, r0, r1, hst⟩ := hk.stored (r := m1) hs1
      have HG := Lib.hid g1; have HST := Lib.hid hst
      clear g1 hst hs1
      go_wp2
      refine bodyPost_ret (v := .agg #[.bool m1, .slice a1 n1 c1]) (by simp [results, Tryz.results152, go_sem, r0, r1]) rfl ?_
      exact ⟨_, rfl, ⟨_, _, _, _, rfl, HM1.out, HG.out⟩, HST.out⟩
  · have hr1 : 0 ≤ r := by have := HR.out.1; omega
    have hle2 : (digs 1000000000 t.natAbs).length ≤ (digs 1000000000 s.natAbs).length := digs_len_mono _ (by omega) (by omega)
    have hvle : val 1000000000 (digs 1000000000 t.natAbs) ≤ val 1000000000 (digs 1000000000 s.natAbs) := by rw [HVX.out, HVY.out]; omega
    have HVLE := Lib.hid hvle; clear hvle
    have e2 : sg m (s.natAbs - t.natAbs) = s + t := by rw [HM.out]; exact natCmp2 s t HST0.out (by omega)
    have E2 := Lib.hid e2; clear e2
    go_wp2_with fail
    go_region_held3 (fun w' => Boxes w m a n c (!m) a' n' c' w' ∧ (w'.cell? ⟨w.heap.size, 0, none⟩ = some (.bool m) ∧ w'.cell? ⟨w.heap.size, 1, none⟩ = some (.slice a n c) ∧ w'.cell? ⟨w.heap.size + 1, 0, none⟩ = some (.bool (!m)) ∧ w'.cell? ⟨w.heap.size + 1, 1, none⟩ = some (.slice a' n' c')))
      (first
        | exact ⟨HBX.out.drew, HBX.out.drew.facts⟩
        | (have hk := Boxes.keep (And.left (by assumption)) (by assumption); exact ⟨hk, hk.facts⟩)
        | exact ⟨Boxes.store (And.left (by assumption)) _ _ _ _, (Boxes.store (And.left (by assumption)) _ _ _ _).facts⟩)
      (first
        | (go_at_call 169; refine (less_any _ _ _ _ _ (HX.out.below (Boxes.below' (by assumption)) (Nat.le_refl _)) (HY.out.below (Boxes.below' (by assumption)) (Nat.le_refl _)) (digs_lt _ _ (by omega)) (digs_lt _ _ (by omega)) (by omega) (by omega) HVLE.out).mono ?_; rintro e w' ⟨v, rfl, hv, hb⟩; rw [val_digs _ _ (by omega), val_digs _ _ (by omega)] at hv)
        | (go_at_call 104; refine (signed_any _ _ _ _ (by assumption)).mono ?_; rintro e w' ⟨v, rfl, ⟨m1, a1, n1, c1, rfl, hm1, hs1⟩, hb⟩; have HM1 := Lib.hid hm1; clear hm1; have hk := Boxes.keep (And.left (by assumption)) hb; obtain ⟨p, q, hk0, hk1, hf0, hf1⟩ := hk.res))
    all_goals
      rw [E2.out] at hs1 HM1
      obtain ⟨g1, r0, r1, hst⟩ := hk.stored (r := m1) hs1
      have HG := Lib.hid g1; have HST := Lib.hid hst
      clear g1 hst hs1
      go_wp2
      refine bodyPost_ret (v := .agg #[.bool m1, .slice a1 n1 c1]) (by simp [results, Tryz.results152, go_sem, r0, r1]) rfl ?_
      exact ⟨_, rfl, ⟨_, _, _, _, rfl, HM1.out, HG.out⟩, HST.out⟩

theorem sum_any (w : World) (x y : Value) (s t : Int) (hx : Num w x s) (hy : Num w y t) (hl : wl s ≤ 1000000000000) (hl' : wl t ≤ 1000000000000) :
    Calls Tryz.prog 152 #[x, y] w (Rets fun v w' => Num w' v (s + t) ∧ Below w.heap.size w w') := by
  by_cases h : decide (s < 0) = decide (t < 0)
  · exact sum_same w x y s t hx hy hl hl' h
  · exact sum_other w x y s t hx hy hl hl' h
end Go.Proofs.YtlnhocgjgmhfgaaGreatDoor

namespace Go.Proofs.YtlnhocgjgmhfgaaGreatDoor
open Go.RowKit
set_option maxRecDepth 100000

theorem floor_of (s t q r : Int) (ht : t ≠ 0) (h : r + t * q = s) (hr : (0 ≤ r ∧ r < t) ∨ (t < r ∧ r ≤ 0)) : q = Int.fdiv s t ∧ r = Int.fmod s t := by
  rcases Int.lt_or_gt_of_ne ht with h0 | h0
  · have := (Int.fdiv_fmod_unique' (a := s) (b := t) (r := r) (q := q) h0).2 ⟨h, by omega, by omega⟩
    exact ⟨this.1.symm, this.2.symm⟩
  · have := (Int.fdiv_fmod_unique (a := s) (b := t) (r := r) (q := q) h0).2 ⟨h, by omega, by omega⟩
    exact ⟨this.1.symm, this.2.symm⟩
theorem down_exact (s t : Int) (ht : t ≠ 0) (h : decide (s < 0) = decide (t < 0) ∨ s.natAbs % t.natAbs = 0) :
    sg (decide (s < 0) != decide (t < 0)) (s.natAbs / t.natAbs) = Int.fdiv s t ∧ sg (decide (t < 0)) (s.natAbs % t.natAbs) = Int.fmod s t := by
  have hm := Nat.div_add_mod s.natAbs t.natAbs
  have hl := Nat.mod_lt s.natAbs (show 0 < t.natAbs by omega)
  generalize s.natAbs / t.natAbs = q at *
  generalize s.natAbs % t.natAbs = r at *
  have key : (s.natAbs : Int) = (t.natAbs : Int) * q + r := by rw [← hm]; simp
  refine floor_of s t _ _ ht ?_ ?_
  · rcases Int.lt_or_le s 0 with hs | hs <;> rcases Int.lt_or_le t 0 with h2 | h2
    · rw [Int.ofNat_natAbs_of_nonpos (by omega), Int.ofNat_natAbs_of_nonpos (by omega), Int.neg_mul] at key
      simp [sg, hs, h2]; omega
    · rw [Int.ofNat_natAbs_of_nonpos (by omega), Int.natAbs_of_nonneg h2] at key
      have hr : r = 0 := by rcases h with h | h; simp [hs, show ¬ t < 0 by omega] at h; exact h
      simp [sg, hs, show ¬ t < 0 by omega, hr, Int.mul_neg] at key ⊢; omega
    · rw [Int.ofNat_natAbs_of_nonpos (show t ≤ 0 by omega), Int.natAbs_of_nonneg hs, Int.neg_mul] at key
      have hr : r = 0 := by rcases h with h | h; simp [h2, show ¬ s < 0 by omega] at h; exact h
      simp [sg, h2, show ¬ s < 0 by omega, hr, Int.mul_neg] at key ⊢; omega
    · rw [Int.natAbs_of_nonneg hs, Int.natAbs_of_nonneg h2] at key
      simp [sg, show ¬ s < 0 by omega, show ¬ t < 0 by omega]; omega
  · by_cases h2 : t < 0 <;> simp [sg, h2] <;> omega
theorem down_rest (s t : Int) (ht : t ≠ 0) (h : decide (s < 0) ≠ decide (t < 0)) (hr : s.natAbs % t.natAbs ≠ 0) :
    sg true (s.natAbs / t.natAbs + 1) = Int.fdiv s t ∧ sg (decide (t < 0)) (t.natAbs - s.natAbs % t.natAbs) = Int.fmod s t := by
  have hm := Nat.div_add_mod s.natAbs t.natAbs
  have hl := Nat.mod_lt s.natAbs (show 0 < t.natAbs by omega)
  generalize s.natAbs / t.natAbs = q at *
  generalize s.natAbs % t.natAbs = r at *
  have key : (s.natAbs : Int) = (t.natAbs : Int) * q + r := by rw [← hm]; simp
  have e1 : sg true (q + 1) = -((q : Int) + 1) := by simp [sg]
  rw [e1]
  refine floor_of s t _ _ ht ?_ ?_
  · rcases Int.lt_or_le s 0 with hs | hs <;> rcases Int.lt_or_le t 0 with h2 | h2
    · simp [hs, h2] at h
    · rw [Int.ofNat_natAbs_of_nonpos (by omega), Int.natAbs_of_nonneg h2] at key
      have e2 : sg (decide (t < 0)) (t.natAbs - r) = t - r := by simp [sg, show ¬ t < 0 by omega]; omega
      rw [e2, Int.mul_neg, Int.mul_add, Int.mul_one]; omega
    · rw [Int.ofNat_natAbs_of_nonpos (show t ≤ 0 by omega), Int.natAbs_of_nonneg hs, Int.neg_mul] at key
      have e2 : sg (decide (t < 0)) (t.natAbs - r) = t + r := by simp [sg, h2]; omega
      rw [e2, Int.mul_neg, Int.mul_add, Int.mul_one]; omega
    · simp [show ¬ s < 0 by omega, show ¬ t < 0 by omega] at h
  · by_cases h2 : t < 0 <;> simp [sg, h2] <;> omega

/-- A box that holds a number, whichever. -/
def Bx (w : World) (g : Nat) : Prop := ∃ p q, Blk w g [p, q] 138 ∧ (∀ n, p ≠ eU n) ∧ (∀ n, q ≠ eU n)
theorem Bx.below {w w' : World} {g B : Nat} (h : Bx w g) (hb : Below B w w') (hB : w.heap.size ≤ B) : Bx w' g := by
  obtain ⟨p, q, h, hp, hq⟩ := h; exact ⟨p, q, h.below hb hB, hp, hq⟩
theorem Bx.facts {w : World} {g : Nat} (h : Bx w g) : ∃ p q, w.cell? ⟨g, 0, none⟩ = some p ∧ w.cell? ⟨g, 1, none⟩ = some q ∧ w.frozen? ⟨g, 0, none⟩ = false ∧ w.frozen? ⟨g, 1, none⟩ = false := by
  obtain ⟨p, q, h, hp, hq⟩ := h; exact ⟨p, q, h.cell 0 _ rfl, h.cell 1 _ rfl, h.free 0, h.free 1⟩
theorem Bx.self {w : World} {g : Nat} (h : Bx w g) (b : Bool) (v : Option Addr) (k l : Nat) : Bx ((w.setCell ⟨g, 0, none⟩ (.bool b)).setCell ⟨g, 1, none⟩ (.slice v k l)) g := by
  obtain ⟨p, q, h, hp, hq⟩ := h; exact ⟨_, _, (h.set 0 _).set 1 _, by simp [eU], by simp [eU]⟩
theorem Bx.other {w : World} {g g' : Nat} (h : Bx w g) (hne : g ≠ g') (b : Bool) (v : Option Addr) (k l : Nat) : Bx ((w.setCell ⟨g', 0, none⟩ (.bool b)).setCell ⟨g', 1, none⟩ (.slice v k l)) g := by
  obtain ⟨p, q, h, hp, hq⟩ := h; exact ⟨p, q, (h.setCell hne _).setCell hne _, hp, hq⟩
theorem Bx.sl {w : World} {g : Nat} {x : Value} {xs : List Nat} (h : Bx w g) (hs : Sl eU w x xs) (b : Bool) (v : Option Addr) (k l : Nat) : Sl eU ((w.setCell ⟨g, 0, none⟩ (.bool b)).setCell ⟨g, 1, none⟩ (.slice v k l)) x xs := by
  obtain ⟨p, q, h, hp, hq⟩ := h
  have h1 := h.set 0 (.bool b)
  refine (hs.set_other h ?_ _).set_other h1 ?_ _
  · intro x hx; simp at hx; rcases hx with rfl | rfl; exact hp; exact hq
  · intro x hx n; simp at hx; rcases hx with rfl | rfl; simp [eU]; exact hq n
theorem Bx.read {w : World} {g : Nat} (h : Bx w g) (b : Bool) (v : Option Addr) (k l : Nat) : ((w.setCell ⟨g, 0, none⟩ (.bool b)).setCell ⟨g, 1, none⟩ (.slice v k l)).cell? ⟨g, 0, none⟩ = some (.bool b) ∧ ((w.setCell ⟨g, 0, none⟩ (.bool b)).setCell ⟨g, 1, none⟩ (.slice v k l)).cell? ⟨g, 1, none⟩ = some (.slice v k l) := by
  obtain ⟨p, q, h, hp, hq⟩ := h
  have h2 := (h.set 0 (.bool b)).set 1 (.slice v k l)
  exact ⟨h2.cell 0 _ rfl, h2.cell 1 _ rfl⟩

/-- The divisor in its box, two boxes for the results, and what is read. -/
structure DB (w : World) (m : Bool) (a : Option Addr) (n c : Nat) (m' : Bool) (a' : Option Addr) (n' c' : Nat) (T : Nat) (q : Value) (Q : Nat) (r : Value) (R : Nat) (w' : World) : Prop where
  below : Below w.heap.size w w'
  bx : Blk w' w.heap.size [.bool m, .slice a n c] 138
  bt : Blk w' (w.heap.size + 1) [.bool m', .slice a' n' c'] 138
  b1 : Bx w' (w.heap.size + 1 + 1)
  b2 : Bx w' (w.heap.size + 1 + 1 + 1)
  st : Sl eU w' (.slice a' n' c') (digs 1000000000 T)
  sq : Sl eU w' q (digs 1000000000 Q)
  sr : Sl eU w' r (digs 1000000000 R)
section
variable {w w1 w2 : World} {m : Bool} {a : Option Addr} {n c : Nat} {m' : Bool} {a' : Option Addr} {n' c' : Nat} {T : Nat} {q : Value} {Q : Nat} {r : Value} {R : Nat}
theorem DB.keep (h : DB w m a n c m' a' n' c' T q Q r R w1) (hb : Below w1.heap.size w1 w2) : DB w m a n c m' a' n' c' T q Q r R w2 :=
  have l := Nat.le_refl w1.heap.size
  ⟨h.below.trans (hb.mono h.below.size), h.bx.below hb l, h.bt.below hb l, h.b1.below hb l, h.b2.below hb l, h.st.below hb l, h.sq.below hb l, h.sr.below hb l⟩
theorem DB.drew (h : DB w m a n c m' a' n' c' T q Q r R w1) : DB w m a n c m' a' n' c' T q Q r R w1.drew := h.keep (Below.refl _ _).drew
theorem DB.alloc (h : DB w m a n c m' a' n' c' T q Q r R w1) (o : Obj) : DB w m a n c m' a' n' c' T q Q r R (w1.alloc o) := h.keep ((Below.refl _ _).alloc (Nat.le_refl _) _)
theorem DB.store1 (h : DB w m a n c m' a' n' c' T q Q r R w1) (b : Bool) (v : Option Addr) (k l : Nat) : DB w m a n c m' a' n' c' T q Q r R ((w1.setCell ⟨w.heap.size + 1 + 1, 0, none⟩ (.bool b)).setCell ⟨w.heap.size + 1 + 1, 1, none⟩ (.slice v k l)) :=
  ⟨(h.below.setCell (by simp; omega) _).setCell (by simp; omega) _, (h.bx.setCell (by omega) _).setCell (by omega) _, (h.bt.setCell (by omega) _).setCell (by omega) _, h.b1.self _ _ _ _, h.b2.other (by omega) _ _ _ _, h.b1.sl h.st _ _ _ _, h.b1.sl h.sq _ _ _ _, h.b1.sl h.sr _ _ _ _⟩
theorem DB.store2 (h : DB w m a n c m' a' n' c' T q Q r R w1) (b : Bool) (v : Option Addr) (k l : Nat) : DB w m a n c m' a' n' c' T q Q r R ((w1.setCell ⟨w.heap.size + 1 + 1 + 1, 0, none⟩ (.bool b)).setCell ⟨w.heap.size + 1 + 1 + 1, 1, none⟩ (.slice v k l)) :=
  ⟨(h.below.setCell (by simp; omega) _).setCell (by simp; omega) _, (h.bx.setCell (by omega) _).setCell (by omega) _, (h.bt.setCell (by omega) _).setCell (by omega) _, h.b1.other (by omega) _ _ _ _, h.b2.self _ _ _ _, h.b2.sl h.st _ _ _ _, h.b2.sl h.sq _ _ _ _, h.b2.sl h.sr _ _ _ _⟩
theorem DB.facts (h : DB w m a n c m' a' n' c' T q Q r R w1) : w1.cell? ⟨w.heap.size, 0, none⟩ = some (.bool m) ∧ w1.cell? ⟨w.heap.size, 1, none⟩ = some (.slice a n c) ∧ w1.cell? ⟨w.heap.size + 1, 0, none⟩ = some (.bool m') ∧ w1.cell? ⟨w.heap.size + 1, 1, none⟩ = some (.slice a' n' c') :=
  ⟨h.bx.cell 0 _ rfl, h.bx.cell 1 _ rfl, h.bt.cell 0 _ rfl, h.bt.cell 1 _ rfl⟩
theorem DB.both (h : DB w m a n c m' a' n' c' T q Q r R w1) : DB w m a n c m' a' n' c' T q Q r R w1 ∧ (w1.cell? ⟨w.heap.size, 0, none⟩ = some (.bool m) ∧ w1.cell? ⟨w.heap.size, 1, none⟩ = some (.slice a n c) ∧ w1.cell? ⟨w.heap.size + 1, 0, none⟩ = some (.bool m') ∧ w1.cell? ⟨w.heap.size + 1, 1, none⟩ = some (.slice a' n' c')) := ⟨h, h.facts⟩
theorem DB.store (h : DB w m a n c m' a' n' c' T q Q r R w1) (g : Nat) (hg : g = w.heap.size + 1 + 1 ∨ g = w.heap.size + 1 + 1 + 1) (b : Bool) (v : Option Addr) (k l : Nat) : DB w m a n c m' a' n' c' T q Q r R ((w1.setCell ⟨g, 0, none⟩ (.bool b)).setCell ⟨g, 1, none⟩ (.slice v k l)) := by
  rcases hg with rfl | rfl
  · exact h.store1 _ _ _ _
  · exact h.store2 _ _ _ _
/-- Behind both stores: the results, and what they read. -/
theorem DB.stored (h : DB w m a n c m' a' n' c' T q Q r R w1) (b1 : Bool) (v1 : Option Addr) (k1 l1 : Nat) (b2 : Bool) (v2 : Option Addr) (k2 l2 : Nat) {w2 : World}
    (e : w2 = ((((w1.setCell ⟨w.heap.size + 1 + 1, 0, none⟩ (.bool b1)).setCell ⟨w.heap.size + 1 + 1, 1, none⟩ (.slice v1 k1 l1)).setCell ⟨w.heap.size + 1 + 1 + 1, 0, none⟩ (.bool b2)).setCell ⟨w.heap.size + 1 + 1 + 1, 1, none⟩ (.slice v2 k2 l2))) :
    w2.cell? ⟨w.heap.size + 1 + 1, 0, none⟩ = some (.bool b1) ∧ w2.cell? ⟨w.heap.size + 1 + 1, 1, none⟩ = some (.slice v1 k1 l1) ∧ w2.cell? ⟨w.heap.size + 1 + 1 + 1, 0, none⟩ = some (.bool b2) ∧ w2.cell? ⟨w.heap.size + 1 + 1 + 1, 1, none⟩ = some (.slice v2 k2 l2) ∧
    Below w.heap.size w w2 ∧ ∀ x xs, Sl eU w1 x xs → Sl eU w2 x xs := by
  subst e
  have h1 := h.store1 b1 v1 k1 l1
  have h2 := h1.store2 b2 v2 k2 l2
  refine ⟨?_, ?_, ?_, ?_, h2.below, fun x xs hx => h1.b2.sl (h.b1.sl hx _ _ _ _) _ _ _ _⟩
  · obtain ⟨p, q, hb, -, -⟩ := h.b1
    exact (((hb.set 0 (.bool b1)).set 1 (.slice v1 k1 l1)).setCell (by omega) _ |>.setCell (by omega) _).cell 0 _ rfl
  · obtain ⟨p, q, hb, -, -⟩ := h.b1
    exact (((hb.set 0 (.bool b1)).set 1 (.slice v1 k1 l1)).setCell (by omega) _ |>.setCell (by omega) _).cell 1 _ rfl
  · exact (h1.b2.read b2 v2 k2 l2).1
  · exact (h1.b2.read b2 v2 k2 l2).2
end

def DownOf (s t : Int) (v : Value) (w' : World) : Prop := ∃ q r, v = .tuple #[q, r] ∧ Num w' q (Int.fdiv s t) ∧ Num w' r (Int.fmod s t)

end Go.Proofs.YtlnhocgjgmhfgaaGreatDoor
namespace Go.Proofs.YtlnhocgjgmhfgaaGreatDoor
open Go.RowKit
set_option maxRecDepth 100000
set_option maxHeartbeats 1000000 in
theorem down_any (w : World) (x y : Value) (s t : Int) (hx : Num w x s) (hy : Num w y t) (ht : t ≠ 0) (hl : wl s ≤ 1000000000000) (hl' : wl t ≤ 1000000000000) :
    Calls Tryz.prog 153 #[x, y] w (Rets fun v w' => DownOf s t v w' ∧ Below w.heap.size w w') := by
  obtain ⟨m, a, n, c, rfl, hm, hs⟩ := hx
  obtain ⟨m', a', n', c', rfl, hm', hs'⟩ := hy
  have HX := Lib.hid hs; have HY := Lib.hid hs'; have HM := Lib.hid hm; have HM' := Lib.hid hm'
  clear hs hs' hm hm'
  unfold wl at hl hl'
  have htn : 0 < t.natAbs := by omega
  go_enter Tryz.func153, Tryz.ntmps153
  go_wp2_with fail
  have hb0 : Below w.heap.size w ((((w.alloc (.cells #[.bool m, .slice a n c] 138)).alloc (.cells #[.bool m', .slice a' n' c'] 138)).alloc (.cells #[.bool false, .slice none 0 0] 138)).alloc (.cells #[.bool false, .slice none 0 0] 138)) :=
    ((((Below.refl _ w).alloc (Nat.le_refl _) _).alloc (by simp) _).alloc (by simp; omega) _).alloc (by simp; omega) _
  refine (divided_any _ _ _ s.natAbs t.natAbs (HX.out.below hb0 (Nat.le_refl _)) (HY.out.below hb0 (Nat.le_refl _)) htn hl hl').mono ?_
  rintro e w1 ⟨v, rfl, ⟨q, r, rfl, hq, hr⟩, hb1⟩
  obtain ⟨aq, nq, cq, rfl⟩ := hq.shape
  obtain ⟨ar, nr, cr, rfl⟩ := hr.shape
  have hnr := hr.len.1
  have hnr0 : nr = 0 ↔ s.natAbs % t.natAbs = 0 := by
    have := digs_pos_len (s.natAbs % t.natAbs)
    rw [← hnr] at this; omega
  have hDB : DB w m a n c m' a' n' c' t.natAbs (.slice aq nq cq) (s.natAbs / t.natAbs) (.slice ar nr cr) (s.natAbs % t.natAbs) w1 := by
    have h1 := Blk.new w [.bool m, .slice a n c] 138
    have h2 := Blk.new (w.alloc (.cells #[.bool m, .slice a n c] 138)) [.bool m', .slice a' n' c'] 138
    have h3 := Blk.new ((w.alloc (.cells #[.bool m, .slice a n c] 138)).alloc (.cells #[.bool m', .slice a' n' c'] 138)) [.bool false, .slice none 0 0] 138
    have h4 := Blk.new (((w.alloc (.cells #[.bool m, .slice a n c] 138)).alloc (.cells #[.bool m', .slice a' n' c'] 138)).alloc (.cells #[.bool false, .slice none 0 0] 138)) [.bool false, .slice none 0 0] 138
    rw [World.size_alloc] at h2
    rw [World.size_alloc, World.size_alloc] at h3
    rw [World.size_alloc, World.size_alloc, World.size_alloc] at h4
    have l := Nat.le_refl
    exact ⟨hb0.trans (hb1.mono (by simp; omega)), (((h1.alloc _).alloc _).alloc _).below hb1 (l _), ((h2.alloc _).alloc _).below hb1 (l _), ⟨_, _, (h3.alloc _).below hb1 (l _), by simp [eU], by simp [eU]⟩, ⟨_, _, h4.below hb1 (l _), by simp [eU], by simp [eU]⟩,
      (HY.out.below hb0 (l _)).below hb1 (l _), hq, hr⟩
  have fx := hDB.facts
  have f1 := fx.1
  have f2 := fx.2.1
  have f3 := fx.2.2.1
  have f4 := fx.2.2.2
  have HDB := Lib.hid hDB
  have HNR := Lib.hid hnr0
  clear hDB hq hr hnr hnr0 hb1 hb0 fx
  by_cases hmm : m = m'
  · subst hmm
    have e2 := (down_exact s t ht (.inl (by rw [← HM.out, ← HM'.out])))
    rw [← HM.out, ← HM'.out] at e2
    rw [show (m != m) = false by cases m <;> rfl] at e2
    have E2 := Lib.hid e2; clear e2
    go_wp2_with fail
    go_region_held3 (fun w' => DB w m a n c m a' n' c' t.natAbs (.slice aq nq cq) (s.natAbs / t.natAbs) (.slice ar nr cr) (s.natAbs % t.natAbs) w' ∧ (w'.cell? ⟨w.heap.size, 0, none⟩ = some (.bool m) ∧ w'.cell? ⟨w.heap.size, 1, none⟩ = some (.slice a n c) ∧ w'.cell? ⟨w.heap.size + 1, 0, none⟩ = some (.bool m) ∧ w'.cell? ⟨w.heap.size + 1, 1, none⟩ = some (.slice a' n' c')))
      (((with_reducible refine DB.both ?_); first
        | with_reducible exact HDB.out.drew
        | with_reducible refine DB.drew (DB.alloc HDB.out _)
        | with_reducible refine DB.store (And.left (by assumption)) _ (by omega) _ _ _ _
        | with_reducible refine DB.keep (And.left (by assumption)) (by assumption)
        | with_reducible refine DB.alloc (And.left (by assumption)) _))
      (first
        | (go_at_call_of 104 (Value.slice aq nq cq); (with_reducible refine (signed_any _ _ (.slice aq nq cq) _ (DB.sq (And.left (by assumption)))).mono ?_); rintro e w' ⟨v, rfl, ⟨mA, aA, nA, cA, rfl, hmA, hsA⟩, hbA⟩; have HMA := Lib.hid hmA; clear hmA)
        | (go_at_call_of 104 (Value.slice ar nr cr); (with_reducible refine (signed_any _ _ (.slice ar nr cr) _ (DB.sr (And.left (by assumption)))).mono ?_); rintro e w'' ⟨v, rfl, ⟨mB, aB, nB, cB, rfl, hmB, hsB⟩, hbB⟩; have HMB := Lib.hid hmB; clear hmB; have hk := DB.keep (And.left (by assumption)) hbB; obtain ⟨p1, q1, x1, x2, x3, x4⟩ := hk.b1.facts; obtain ⟨p2, q2, y1, y2, y3, y4⟩ := hk.b2.facts))
    all_goals
      obtain ⟨r0, r1, r2, r3, hb, hst⟩ := hk.stored mA aA nA cA mB aB nB cB rfl
      have hsA' := hsA.below hbB (Nat.le_refl _)
      rw [E2.out.1] at hsA' HMA
      rw [E2.out.2] at hsB HMB
      have GA := Lib.hid (hst _ _ hsA'); have GB := Lib.hid (hst _ _ hsB); have HB := Lib.hid hb
      clear hst hsA hsA' hsB hb
      go_wp2
      refine bodyPost_ret (v := .tuple #[.agg #[.bool mA, .slice aA nA cA], .agg #[.bool mB, .slice aB nB cB]]) (by simp [results, Tryz.results153, go_sem, r0, r1, r2, r3]) rfl ?_
      exact ⟨_, rfl, ⟨_, _, rfl, ⟨_, _, _, _, rfl, HMA.out, GA.out⟩, ⟨_, _, _, _, rfl, HMB.out, GB.out⟩⟩, HB.out⟩
  obtain rfl : m' = !m := by cases m <;> cases m' <;> simp_all
  have hne : (m == !m) = false := by cases m <;> rfl
  have hne' : (m != !m) = true := by cases m <;> rfl
  clear hmm
  have hst0 : decide (s < 0) ≠ decide (t < 0) := by rw [← HM.out, ← HM'.out]; cases m <;> simp
  by_cases hz : nr = 0
  · have e2 := (down_exact s t ht (.inr (HNR.out.1 hz)))
    rw [← HM.out, ← HM'.out, hne'] at e2
    have E2 := Lib.hid e2; clear e2 hst0 HNR
    subst hz
    go_wp2_with fail
    go_region_held3 (fun w' => DB w m a n c (!m) a' n' c' t.natAbs (.slice aq nq cq) (s.natAbs / t.natAbs) (.slice ar 0 cr) (s.natAbs % t.natAbs) w' ∧ (w'.cell? ⟨w.heap.size, 0, none⟩ = some (.bool m) ∧ w'.cell? ⟨w.heap.size, 1, none⟩ = some (.slice a n c) ∧ w'.cell? ⟨w.heap.size + 1, 0, none⟩ = some (.bool (!m)) ∧ w'.cell? ⟨w.heap.size + 1, 1, none⟩ = some (.slice a' n' c')))
      (((with_reducible refine DB.both ?_); first
        | with_reducible exact HDB.out.drew
        | with_reducible refine DB.drew (DB.alloc HDB.out _)
        | with_reducible refine DB.store (And.left (by assumption)) _ (by omega) _ _ _ _
        | with_reducible refine DB.keep (And.left (by assumption)) (by assumption)
        | with_reducible refine DB.alloc (And.left (by assumption)) _))
      (first
        | (go_at_call_of 104 (Value.slice aq nq cq); (with_reducible refine (signed_any _ _ (.slice aq nq cq) _ (DB.sq (And.left (by assumption)))).mono ?_); rintro e w' ⟨v, rfl, ⟨mA, aA, nA, cA, rfl, hmA, hsA⟩, hbA⟩; have HMA := Lib.hid hmA; clear hmA)
        | (go_at_call_of 104 (Value.slice ar 0 cr); (with_reducible refine (signed_any _ _ (.slice ar 0 cr) _ (DB.sr (And.left (by assumption)))).mono ?_); rintro e w'' ⟨v, rfl, ⟨mB, aB, nB, cB, rfl, hmB, hsB⟩, hbB⟩; have HMB := Lib.hid hmB; clear hmB; have hk := DB.keep (And.left (by assumption)) hbB; obtain ⟨p1, q1, x1, x2, x3, x4⟩ := hk.b1.facts; obtain ⟨p2, q2, y1, y2, y3, y4⟩ := hk.b2.facts))
    all_goals
      obtain ⟨r0, r1, r2, r3, hb, hst⟩ := hk.stored mA aA nA cA mB aB nB cB rfl
      have hsA' := hsA.below hbB (Nat.le_refl _)
      rw [E2.out.1] at hsA' HMA
      rw [E2.out.2] at hsB HMB
      have GA := Lib.hid (hst _ _ hsA'); have GB := Lib.hid (hst _ _ hsB); have HB := Lib.hid hb
      clear hst hsA hsA' hsB hb
      go_wp2
      refine bodyPost_ret (v := .tuple #[.agg #[.bool mA, .slice aA nA cA], .agg #[.bool mB, .slice aB nB cB]]) (by simp [results, Tryz.results153, go_sem, r0, r1, r2, r3]) rfl ?_
      exact ⟨_, rfl, ⟨_, _, rfl, ⟨_, _, _, _, rfl, HMA.out, GA.out⟩, ⟨_, _, _, _, rfl, HMB.out, GB.out⟩⟩, HB.out⟩
  · have e2 := (down_rest s t ht hst0 (fun h => hz (HNR.out.2 h)))
    rw [← HM'.out] at e2
    have E2 := Lib.hid e2; clear e2 hst0 HNR
    have hlq : (digs 1000000000 (s.natAbs / t.natAbs)).length ≤ (digs 1000000000 s.natAbs).length := digs_len_mono _ (by omega) (Nat.div_le_self _ _)
    have hlr : (digs 1000000000 (s.natAbs % t.natAbs)).length ≤ (digs 1000000000 t.natAbs).length := digs_len_mono _ (by omega) (Nat.le_of_lt (Nat.mod_lt _ htn))
    have hvr : val 1000000000 (digs 1000000000 (s.natAbs % t.natAbs)) ≤ val 1000000000 (digs 1000000000 t.natAbs) := by rw [val_digs _ _ (by omega), val_digs _ _ (by omega)]; exact Nat.le_of_lt (Nat.mod_lt _ htn)
    have e1 : val 1000000000 (digs 1000000000 (s.natAbs / t.natAbs)) + val 1000000000 [1] = s.natAbs / t.natAbs + 1 := by rw [val_digs _ _ (by omega)]; rfl
    have e3 : val 1000000000 (digs 1000000000 t.natAbs) - val 1000000000 (digs 1000000000 (s.natAbs % t.natAbs)) = t.natAbs - s.natAbs % t.natAbs := by rw [val_digs _ _ (by omega), val_digs _ _ (by omega)]
    have HLQ := Lib.hid hlq; have HLR := Lib.hid hlr; have HVR := Lib.hid hvr; have E1 := Lib.hid e1; have E3 := Lib.hid e3
    clear hlq hlr hvr e1 e3
    go_wp2_with fail
    go_region_held3 (fun w' => DB w m a n c (!m) a' n' c' t.natAbs (.slice aq nq cq) (s.natAbs / t.natAbs) (.slice ar nr cr) (s.natAbs % t.natAbs) w' ∧ (w'.cell? ⟨w.heap.size, 0, none⟩ = some (.bool m) ∧ w'.cell? ⟨w.heap.size, 1, none⟩ = some (.slice a n c) ∧ w'.cell? ⟨w.heap.size + 1, 0, none⟩ = some (.bool (!m)) ∧ w'.cell? ⟨w.heap.size + 1, 1, none⟩ = some (.slice a' n' c')))
      (((with_reducible refine DB.both ?_); first
        | with_reducible exact HDB.out.drew
        | with_reducible refine DB.drew (DB.alloc HDB.out _)
        | with_reducible refine DB.store (And.left (by assumption)) _ (by omega) _ _ _ _
        | with_reducible refine DB.keep (And.left (by assumption)) (by assumption)
        | with_reducible refine DB.alloc (And.left (by assumption)) _))
      (first
        | (go_at_call 167; (with_reducible refine (plus_any _ _ _ _ [1] (DB.sq (And.left (by assumption))) ?hone (digs_lt _ _ (by omega)) (by simp) (Nat.le_trans HLQ.out (by omega)) (by simp)).mono ?_); (case hone => exact (Sl.single (enc := eU) _ 1 _ rfl _).below (Below.refl _ _).drew (Nat.le_refl _)); rintro e wP ⟨v, rfl, hvP, hbP⟩; rw [E1.out] at hvP; obtain ⟨ap, np, cp, rfl⟩ := hvP.shape)
        | (go_at_call 169; (with_reducible refine (less_any _ _ _ _ _ (DB.st (And.left (by assumption))) (DB.sr (And.left (by assumption))) (digs_lt _ _ (by omega)) (digs_lt _ _ (by omega)) (by omega) HLR.out HVR.out).mono ?_); rintro e wL ⟨v, rfl, hvL, hbL⟩; rw [E3.out] at hvL; obtain ⟨al, nl, cl, rfl⟩ := hvL.shape)
        | (go_at_call_of 104 (Value.slice al nl cl); (with_reducible refine (signed_any _ _ (.slice al nl cl) _ hvL).mono ?_); rintro e w'' ⟨v, rfl, ⟨mB, aB, nB, cB, rfl, hmB, hsB⟩, hbB⟩; have HMB := Lib.hid hmB; clear hmB; have hk := DB.keep (And.left (by assumption)) hbB; obtain ⟨p1, q1, x1, x2, x3, x4⟩ := hk.b1.facts; obtain ⟨p2, q2, y1, y2, y3, y4⟩ := hk.b2.facts)
        | (go_at_call_of 104 (Value.slice ap np cp); (with_reducible refine (signed_any _ _ (.slice ap np cp) _ hvP).mono ?_); rintro e w' ⟨v, rfl, ⟨mA, aA, nA, cA, rfl, hmA, hsA⟩, hbA⟩; have HMA := Lib.hid hmA; clear hmA))
    all_goals
      obtain ⟨r0, r1, r2, r3, hb, hst⟩ := hk.stored mA aA nA cA mB aB nB cB rfl
      have hsA' := (hsA.below hbL (Nat.le_refl _)).below hbB (Nat.le_refl _)
      rw [E2.out.1] at hsA' HMA
      rw [E2.out.2] at hsB HMB
      have GA := Lib.hid (hst _ _ hsA'); have GB := Lib.hid (hst _ _ hsB); have HB := Lib.hid hb
      clear hst hsA hsA' hsB hb
      go_wp2
      refine bodyPost_ret (v := .tuple #[.agg #[.bool mA, .slice aA nA cA], .agg #[.bool mB, .slice aB nB cB]]) (by simp [results, Tryz.results153, go_sem, r0, r1, r2, r3]) rfl ?_
      exact ⟨_, rfl, ⟨_, _, rfl, ⟨_, _, _, _, rfl, HMA.out, GA.out⟩, ⟨_, _, _, _, rfl, HMB.out, GB.out⟩⟩, HB.out⟩
end Go.Proofs.YtlnhocgjgmhfgaaGreatDoor

namespace Go.Proofs.YtlnhocgjgmhfgaaGreatDoor
open Go.RowKit
set_option maxRecDepth 100000

theorem dec_mem (n : Nat) : ∀ d ∈ Lib.decDigits n, 48 ≤ d.toNat ∧ d.toNat ≤ 57 := by
  induction n using Nat.strongRecOn with
  | _ n ih =>
    rw [Lib.decDigits]
    split
    · intro d hd; simp only [List.mem_singleton] at hd; subst hd
      rw [UInt8.toNat_ofNat']; omega
    · intro d hd
      rcases List.mem_append.1 hd with h | h
      · exact ih (n / 10) (by omega) d h
      · simp only [List.mem_singleton] at h; subst h
        rw [UInt8.toNat_ofNat']; omega
theorem dec_ne (n : Nat) : Lib.decDigits n ≠ [] := by rw [Lib.decDigits]; split <;> simp
theorem dec_minus (n : Nat) : Lib.hasPrefix (Lib.decDigits n) [45] = false := by
  have h := dec_mem n
  cases e : Lib.decDigits n with
  | nil => exact absurd e (dec_ne n)
  | cons d l =>
    rw [e] at h
    have := h d (by simp)
    have hd : d ≠ 45 := by rintro rfl; revert this; decide
    simp [Lib.hasPrefix, List.isPrefixOf]; exact fun h => hd h.symm
theorem itoa_cases (z : Int) : Lib.itoa z = if z < 0 then 45 :: Lib.decDigits z.natAbs else Lib.decDigits z.natAbs := by
  unfold Lib.itoa; split
  · rfl
  · rw [show z.toNat = z.natAbs by omega]
theorem pre_itoa (z : Int) : Lib.hasPrefix (Lib.itoa z) [45] = decide (z < 0) := by
  rw [itoa_cases]; split
  · next h => simp [Lib.hasPrefix, List.isPrefixOf, h]
  · next h => rw [dec_minus]; simp [h]
theorem trim_itoa (z : Int) : Lib.trimPrefix (Lib.itoa z) [45] = Lib.decDigits z.natAbs := by
  unfold Lib.trimPrefix
  rw [pre_itoa, itoa_cases]
  by_cases h : z < 0 <;> simp [h]

theorem dec_len (n : Nat) : (Lib.decDigits n).length ≤ 9 * (digs 1000000000 n).length + 1 := by
  rw [Lib.decDigits_length]
  refine nDigits_le (Nat.lt_of_lt_of_le (lt_pow_len 1000000000 n (by omega)) ?_)
  rw [show (1000000000 : Nat) = 10 ^ 9 from rfl, ← Nat.pow_mul]
  exact Nat.pow_le_pow_right (by omega) (by omega)

/-- The decimal text of an integer. -/
def txt (z : Int) : ByteArray := ⟨(Lib.itoa z).toArray⟩

set_option maxHeartbeats 400000 in
theorem ntext_any (w : World) (x : Value) (z : Int) (hx : Num w x z) (hl : wl z ≤ 1000000000000) (he : Env w) :
    Calls Tryz.prog 118 #[x] w (Rets fun v w' => v = .string (txt z) ∧ Below w.heap.size w w') := by
  obtain ⟨m, a, n, c, rfl, hm, hs⟩ := hx
  have HX := Lib.hid hs; have HE := Lib.hid he
  have e1 := itoa_cases z
  have E1 := Lib.hid e1; have HL := Lib.hid hl
  have hd : ¬ 9223372036854775807 < 1 + (Lib.decDigits z.natAbs).length := by have := dec_len z.natAbs; unfold wl at hl; omega
  clear hs e1 he hl
  have hb0 : Below w.heap.size w (w.alloc (.cells #[.bool m, .slice a n c] 138)) := (Below.refl _ w).alloc (Nat.le_refl _) _
  have HB0 := Lib.hid hb0; clear hb0
  cases m
  · have hz : ¬ z < 0 := by simpa using hm.symm
    clear hm
    go_enter Tryz.func118, Tryz.ntmps118
    go_wp2_with (go_at_call 129; refine (text_any _ _ z.natAbs (HX.out.below HB0.out (Nat.le_refl _)) HL.out (HE.out.below HB0.out (Nat.le_refl _))).mono ?_; rintro e w' ⟨v, rfl, rfl, hb⟩)
    go_ret
    refine ⟨_, rfl, ?_, HB0.out.trans (hb.mono (by simp))⟩
    rw [txt, E1.out, if_neg (by omega)]; rfl
  · have hz : z < 0 := by simpa using hm.symm
    clear hm
    go_enter Tryz.func118, Tryz.ntmps118
    go_wp2_with (go_at_call 129; refine (text_any _ _ z.natAbs (HX.out.below HB0.out (Nat.le_refl _)) HL.out (HE.out.below HB0.out (Nat.le_refl _))).mono ?_; rintro e w' ⟨v, rfl, rfl, hb⟩)
    go_ret
    refine ⟨_, rfl, ?_, HB0.out.trans (hb.mono (by simp))⟩
    rw [txt, E1.out, if_pos hz]
    simp [ByteArray.append, ← ByteArray.append_eq]
set_option maxHeartbeats 400000 in
theorem length_any (w : World) (s : ByteArray) :
    Calls Tryz.prog 119 #[.string s] w (Rets fun v w' => v = .int .i64 ((Lib.trimPrefix s.data.toList [45]).length) ∧ w' = w) := by
  go_enter Tryz.func119, Tryz.ntmps119
  go_wp2_with (go_at_call 130; refine (Tryz.strings_TrimPrefix _ _ _).mono ?_; rintro e w' ⟨rfl, rfl⟩)
  go_ret
  exact ⟨_, rfl, by simp, rfl⟩

/-- Has the integer more digits than the limit? -/
def big (z : Int) : Bool := decide (1024 < (Lib.decDigits z.natAbs).length)
/-- What 'result' answers. -/
def resV (z : Int) : Value := if big z then .tuple #[.string ⟨#[]⟩, .int .i64 11] else .tuple #[.string (txt z), .int .i64 0]

set_option maxHeartbeats 400000 in
theorem result_any (w : World) (x : Value) (z : Int) (hx : Num w x z) (hl : wl z ≤ 1000000000000) (he : Env w) :
    Calls Tryz.prog 102 #[x] w (Rets fun v w' => v = resV z ∧ Below w.heap.size w w') := by
  obtain ⟨m, a, n, c, rfl, hm, hs⟩ := hx
  have HX := Lib.hid hs; have HE := Lib.hid he; have HM := Lib.hid hm; have HL := Lib.hid hl
  have ht : Lib.trimPrefix (txt z).data.toList [45] = Lib.decDigits z.natAbs := trim_itoa z
  have HT := Lib.hid ht
  have hb0 : Below w.heap.size w (w.alloc (.cells #[.bool m, .slice a n c] 138)) := (Below.refl _ w).alloc (Nat.le_refl _) _
  have HB0 := Lib.hid hb0
  clear hs he hm hl ht hb0
  go_enter Tryz.func102, Tryz.ntmps102
  by_cases hg : 1024 < (Lib.decDigits z.natAbs).length
  · have hr : resV z = .tuple #[.string ⟨#[]⟩, .int .i64 11] := by simp [resV, big, hg]
    have HR := Lib.hid hr; clear hr
    go_wp2_with (first
      | (go_at_call 118; refine (ntext_any _ _ z ⟨_, _, _, _, rfl, HM.out, HX.out.below HB0.out (Nat.le_refl _)⟩ HL.out (HE.out.below HB0.out (Nat.le_refl _))).mono ?_; rintro e w' ⟨v, rfl, rfl, hb⟩)
      | (go_at_call 119; refine (length_any _ _).mono ?_; rintro e w' ⟨v, rfl, rfl, rfl⟩; rw [HT.out]))
    go_ret2
    exact ⟨_, rfl, by rw [HR.out]; rfl, HB0.out.trans (hb.mono (by simp))⟩
  · have hr : resV z = .tuple #[.string (txt z), .int .i64 0] := by simp [resV, big, hg]
    have HR := Lib.hid hr; clear hr
    go_wp2_with (first
      | (go_at_call 118; refine (ntext_any _ _ z ⟨_, _, _, _, rfl, HM.out, HX.out.below HB0.out (Nat.le_refl _)⟩ HL.out (HE.out.below HB0.out (Nat.le_refl _))).mono ?_; rintro e w' ⟨v, rfl, rfl, hb⟩)
      | (go_at_call 119; refine (length_any _ _).mono ?_; rintro e w' ⟨v, rfl, rfl, rfl⟩; rw [HT.out]))
    go_ret2
    exact ⟨_, rfl, by rw [HR.out]; rfl, HB0.out.trans (hb.mono (by simp))⟩
end Go.Proofs.YtlnhocgjgmhfgaaGreatDoor

namespace Go.Proofs.YtlnhocgjgmhfgaaGreatDoor
open Go.RowKit
set_option maxRecDepth 100000

/-- The number of the error of a text. -/
def isDig (c : UInt8) : Bool := decide (48 ≤ c.toNat) && decide (c.toNat ≤ 57)
def chkD (d : List UInt8) (minus : Bool) : Int :=
  if d.all isDig = false then 3
  else if d = [] ∨ (d.head? = some 48 ∧ (1 < d.length ∨ minus = true)) then 3
  else if 1024 < d.length then 11 else 0
def chk (l : List UInt8) : Int := chkD (Lib.trimPrefix l [45]) (Lib.hasPrefix l [45])

theorem chkD_cons (x : UInt8) (t : List UInt8) (m : Bool) (h : (x :: t).all isDig = true) :
    chkD (x :: t) m = if x.toNat = 48 ∧ (0 < t.length ∨ m = true) then 3 else if 1023 < t.length then 11 else 0 := by
  have e : x = 48 ↔ x.toNat = 48 := ⟨fun h => by rw [h]; rfl, fun h => UInt8.toNat_inj.1 h⟩
  have e2 : (1024 < t.length + 1) = (1023 < t.length) := propext ⟨by omega, by omega⟩
  have e3 : (1 < t.length + 1) = (0 < t.length) := propext ⟨by omega, by omega⟩
  simp only [chkD, h, List.head?_cons, Option.some.injEq, e, List.length_cons, e2, e3]
  simp

set_option maxHeartbeats 400000 in
theorem check_any (w : World) (s : ByteArray) (hsz : s.size ≤ 1000000) :
    Calls Tryz.prog 113 #[.string s] w (Rets fun v w' => v = .int .i64 (chk s.data.toList) ∧ Below w.heap.size w w') := by
  unfold chk
  generalize hd : Lib.trimPrefix s.data.toList [45] = d
  generalize hm : Lib.hasPrefix s.data.toList [45] = m
  have hdl : d.length ≤ 1000000 := by
    rw [← hd]; unfold Lib.trimPrefix
    have : s.data.toList.length ≤ 1000000 := by rw [← Lib.size_eq]; exact hsz
    split
    · rw [List.length_drop]; omega
    · exact this
  clear hsz
  have HD := Lib.hid hd; have HM := Lib.hid hm; clear hd hm
  go_enter Tryz.func113, Tryz.ntmps113
  go_wp2_with (go_at_call 120; refine (Tryz.strings_CutPrefix _ _ _).mono ?_; rintro e w' ⟨rfl, rfl⟩; rw [HD.out, HM.out])
  rw [Lib.run_convert_string_bytes _ _ _ 5 _ (u := .string) Tryz.underlying9 Tryz.underlying193 Tryz.underlying5]
  simp only [Result.andThen]
  rw [Oper.upon_value]
  have hB : ∀ t (h : t < d.length), (Lib.bytesWorld w' 5 ⟨d.toArray⟩).cell? ⟨w'.heap.size, t, none⟩ = some (.int .u8 (d[t].toNat : Nat)) := fun t h => by
    rw [Lib.bytesWorld_cell w' _ ⟨d.toArray⟩ t (by simpa [ByteArray.size] using h)]
    simp [List.getD, h]
  have hW := Lib.bytesWorld_below w' 5 ⟨d.toArray⟩
  generalize Lib.bytesWorld w' 5 ⟨d.toArray⟩ = W1 at *
  rw [show (⟨d.toArray⟩ : ByteArray).size = d.length by simp [ByteArray.size]]
  generalize grownCap w' d.length 0 5 = cp at *
  have HB := Lib.hid hB; have HW := Lib.hid hW
  clear hB hW
  go_wp2
  go_loop [15] (fun i => ∃ k : Nat, k ≤ d.length ∧ i = .int .i64 k ∧ Hid (∀ (j : Nat) (h : j < d.length), j < k → isDig d[j] = true)) (fun i => d.length - (intOf i).toNat)
  case atStart => exact ⟨0, Nat.zero_le _, rfl, Lib.hid fun j h hj => absurd hj (Nat.not_lt_zero _)⟩
  case round =>
    obtain ⟨k, hk, rfl, hall⟩ := hrel
    by_cases hkn : k < d.length
    · obtain ⟨x, hx⟩ : ∃ x, x = d[k] := ⟨_, rfl⟩
      have hc := HB.out k hkn
      rw [← hx] at hc
      have hxl := UInt8.toNat_lt x
      cases hdx : isDig x
      · have hr : chkD d m = 3 := by
          unfold chkD; rw [if_pos]
          rw [List.all_eq_false]; exact ⟨x, by rw [hx]; exact List.getElem_mem hkn, by simp [hdx]⟩
        have HR := Lib.hid hr; clear hr
        have hx2 : x.toNat < 48 ∨ (48 ≤ x.toNat ∧ 57 < x.toNat) := by simp [isDig] at hdx; omega
        clear hdx hx
        rcases hx2 with h | ⟨h, h'⟩
        · go_wp2
          go_ret
          exact ⟨_, rfl, by rw [HR.out]; rfl, HW.out⟩
        · go_wp2
          go_ret
          exact ⟨_, rfl, by rw [HR.out]; rfl, HW.out⟩
      · have h1 : 48 ≤ x.toNat := by simp [isDig] at hdx; omega
        have h2 : x.toNat ≤ 57 := by simp [isDig] at hdx; omega
        have HX := Lib.hid hx; have HDX := Lib.hid hdx
        clear hx hdx
        go_wp2
        go_round
        case rel =>
          refine ⟨k + 1, by omega, by go_num, Lib.hid fun j h hj => ?_⟩
          by_cases e : j = k
          · subst e; rw [← HX.out]; exact HDX.out
          · exact hall.out j h (by omega)
        case measure => simp [intOf]; omega
    · obtain rfl : k = d.length := by omega
      have hall' : d.all isDig = true := by
        rw [List.all_eq_true]; intro x hx
        obtain ⟨j, hj, rfl⟩ := List.getElem_of_mem hx
        exact hall.out j hj hj
      have HA := Lib.hid hall'
      clear hall hall' hkn hk
      rcases d with _ | ⟨x, t⟩
      · have hr : chkD [] m = 3 := by simp [chkD]
        have HR := Lib.hid hr; clear hr
        go_wp2
        go_ret
        exact ⟨_, rfl, by rw [HR.out]; rfl, HW.out⟩
      · have hc := fun m => chkD_cons x t m HA.out
        have HC := Lib.hid hc; clear hc HB HD HM
        cases m
        all_goals
          go_wp2
        all_goals
          have hx0 : ∀ h, (({ data := (x :: t).toArray } : ByteArray)[0]'h) = x := fun _ => rfl
          simp only [hx0] at *
          go_ret
          refine ⟨_, rfl, ?_, HW.out⟩
          rw [HC.out]
          refine congrArg (Value.int .i64) ?_
          simp only [Bool.false_eq_true, or_true, and_true, or_false]
          split <;> first | rfl | (exfalso; omega) | (split <;> first | rfl | (exfalso; omega)) | trace_state
end Go.Proofs.YtlnhocgjgmhfgaaGreatDoor
namespace Go.Proofs.YtlnhocgjgmhfgaaGreatDoor
open Go.RowKit
set_option maxRecDepth 100000

theorem elemStr : ElemOk Tryz.prog 126 74 (.string ⟨#[]⟩) 1 16 :=
  ⟨Tryz.underlying126, info_parts (by kernel_rfl : (Tryz.prog.info? 74).map (fun i => (i.zero, i.size, i.bytes)) = some (some (.string ⟨#[]⟩), 1, 16)), rfl, by decide, by kernel_rfl, fun _ => by kernel_rfl⟩

/-- The first error of some texts. -/
def chks : List ByteArray → Int
  | [] => 0
  | s :: l => if chk s.data.toList = 0 then chks l else chk s.data.toList

set_option maxHeartbeats 1000000 in
theorem checked_any (w : World) (v : Value) (xs : List ByteArray) (h : Sl eS w v xs) (hsz : ∀ s ∈ xs, s.size ≤ 1000000) (hl : xs.length ≤ 1000000) :
    Calls Tryz.prog 101 #[v] w (Rets fun v w' => v = .int .i64 (chks xs) ∧ Below w.heap.size w w') := by
  obtain ⟨a, b, o, c, rfl, hi, hp, -, -⟩ := h.open elemStr
  have HS := Lib.hid hsz; clear hsz h
  go_enter Tryz.func101, Tryz.ntmps101
  go_wp2
  go_loopw [8] (fun i wr => ∃ k : Nat, k ≤ xs.length ∧ i = .int .i64 k ∧ Hid (chks xs = chks (xs.drop k)) ∧ Below w.heap.size w wr) (fun i _ => xs.length - (intOf i).toNat)
  case atStart => exact ⟨0, Nat.zero_le _, rfl, Lib.hid rfl, Below.refl _ _⟩
  case round =>
    obtain ⟨k, hk, rfl, hc, hb⟩ := hrel
    by_cases hkn : k < xs.length
    · have h1 : wr.cell? ⟨b, o + k, none⟩ = some (.string xs[k]) := hp.at hb (Nat.le_refl _) k hkn
      have e1 : chks xs = if chk xs[k].data.toList = 0 then chks (xs.drop (k + 1)) else chk xs[k].data.toList := by
        rw [hc.out, List.drop_eq_getElem_cons hkn, chks]
      have E1 := Lib.hid e1; clear e1
      by_cases h0 : chk xs[k].data.toList = 0
      · have hne : (chk xs[k].data.toList != 0) = false := by simp [h0]
        rw [if_pos h0] at E1
        clear h0
        go_wp2_with (go_at_call 113; refine (check_any _ _ (HS.out _ (List.getElem_mem hkn))).mono ?_; rintro e w' ⟨v, rfl, rfl, hb'⟩)
        go_roundw
        case rel => exact ⟨k + 1, by omega, by go_num, E1, hb.trans (hb'.mono hb.size)⟩
        case measure => simp [intOf]; omega
      · have hne : (chk xs[k].data.toList != 0) = true := by simp [h0]
        rw [if_neg h0] at E1
        clear h0
        go_wp2_with (go_at_call 113; refine (check_any _ _ (HS.out _ (List.getElem_mem hkn))).mono ?_; rintro e w' ⟨v, rfl, rfl, hb'⟩)
        go_ret
        exact ⟨_, rfl, by rw [E1.out]; rfl, hb.trans (hb'.mono hb.size)⟩
    · obtain rfl : k = xs.length := by omega
      have e1 : chks xs = 0 := by rw [hc.out, List.drop_length]; rfl
      have E1 := Lib.hid e1; clear e1
      go_wp2
      go_ret
      exact ⟨_, rfl, by rw [E1.out]; rfl, hb⟩
end Go.Proofs.YtlnhocgjgmhfgaaGreatDoor

namespace Go.Proofs.YtlnhocgjgmhfgaaGreatDoor
open Go.RowKit

/-- The value of a row of digits behind others. -/
def dv (acc : Nat) (l : List UInt8) : Nat := l.foldl (fun a c => a * 10 + (c.toNat - 48)) acc
theorem dv_cons (acc : Nat) (c : UInt8) (l : List UInt8) : dv acc (c :: l) = dv (acc * 10 + (c.toNat - 48)) l := by unfold dv; rw [List.foldl_cons]
theorem dv_nil (acc : Nat) : dv acc [] = acc := by unfold dv; rw [List.foldl_nil]
theorem big_eq (z : Int) (n : Nat) (h : z.natAbs = n) : (if big z then (11 : Int) else 0) = if 1024 < (Lib.decDigits n).length then 11 else 0 := by
  subst h; simp [big]
theorem dv_append (l l' : List UInt8) (acc : Nat) : dv acc (l ++ l') = dv (dv acc l) l' := by unfold dv; rw [List.foldl_append]
theorem dv_acc (l : List UInt8) : ∀ acc, dv acc l = acc * 10 ^ l.length + dv 0 l := by
  induction l with
  | nil => intro acc; rw [dv_nil, dv_nil, List.length_nil, Nat.pow_zero, Nat.mul_one, Nat.add_zero]
  | cons c l ih =>
    intro acc
    rw [dv_cons, dv_cons, ih (acc * 10 + _), ih (0 * 10 + _), List.length_cons, Nat.pow_succ, Nat.zero_mul, Nat.zero_add, Nat.add_mul, Nat.mul_assoc, Nat.mul_comm 10, Nat.add_assoc]
theorem dv_lt (l : List UInt8) (h : l.all isDig = true) : dv 0 l < 10 ^ l.length := by
  induction l with
  | nil => rw [dv_nil]; exact Nat.pow_pos (by omega)
  | cons c l ih =>
    simp only [List.all_cons, Bool.and_eq_true] at h
    have hc : c.toNat ≤ 57 := by have := h.1; simp [isDig] at this; exact this.2
    have := ih h.2
    rw [dv_cons, dv_acc, List.length_cons, Nat.pow_succ]
    have h9 : (0 * 10 + (c.toNat - 48)) * 10 ^ l.length ≤ 9 * 10 ^ l.length := Nat.mul_le_mul_right _ (by omega)
    omega
theorem dec_step (m d : Nat) (hm : 0 < m) (hd : d < 10) : Lib.decDigits (m * 10 + d) = Lib.decDigits m ++ [UInt8.ofNat (48 + d)] := by
  rw [Lib.decDigits, dif_neg (by omega), show (m * 10 + d) / 10 = m by omega, show (m * 10 + d) % 10 = d by omega]
theorem dv_dec (n : Nat) : dv 0 (Lib.decDigits n) = n := by
  induction n using Nat.strongRecOn with
  | _ n ih =>
    by_cases h : n < 10
    · rw [Lib.decDigits_one h, dv_cons, dv_nil, UInt8.toNat_ofNat']; omega
    · have e : n = n / 10 * 10 + n % 10 := by omega
      rw [e, dec_step _ _ (by omega) (by omega), dv_append, ih _ (by omega)]
      rw [dv_cons, dv_nil, UInt8.toNat_ofNat']; omega
theorem ofNat_dig (c : UInt8) (h : isDig c = true) : UInt8.ofNat (48 + (c.toNat - 48)) = c := by
  simp [isDig] at h
  apply UInt8.toNat_inj.1
  rw [UInt8.toNat_ofNat']
  have := UInt8.toNat_lt c
  have h1 : 48 ≤ c.toNat := by have := h.1; omega
  omega
/-- A row of digits that does not begin with 0 is the numeral of its value. -/
theorem dec_dv_pos (l : List UInt8) (m : Nat) (hm : 0 < m) (h : l.all isDig = true) : Lib.decDigits (dv m l) = Lib.decDigits m ++ l := by
  induction l generalizing m with
  | nil => rw [dv_nil, List.append_nil]
  | cons c l ih =>
    simp only [List.all_cons, Bool.and_eq_true] at h
    have hc : c.toNat - 48 < 10 := by have := h.1; simp [isDig] at this; have := this.2; omega
    rw [dv_cons, ih _ (by omega) h.2, dec_step _ _ hm hc, ofNat_dig _ h.1]
    simp
theorem dec_dv (x : UInt8) (t : List UInt8) (h : (x :: t).all isDig = true) (h0 : x.toNat = 48 → t = []) : Lib.decDigits (dv 0 (x :: t)) = x :: t := by
  simp only [List.all_cons, Bool.and_eq_true] at h
  have hx : 48 ≤ x.toNat ∧ x.toNat ≤ 57 := by have := h.1; simp [isDig] at this; exact ⟨this.1, this.2⟩
  rw [dv_cons]
  by_cases e : x.toNat = 48
  · rw [h0 e, dv_nil, e, Lib.decDigits_one (by omega)]
    congr 1
    exact UInt8.toNat_inj.1 (by rw [e]; rfl)
  · rw [dec_dv_pos _ _ (by omega) h.2, Lib.decDigits_one (by omega)]
    rw [show 48 + (0 * 10 + (x.toNat - 48)) = 48 + (x.toNat - 48) by omega, ofNat_dig _ h.1]; rfl
theorem dec_all (n : Nat) : (Lib.decDigits n).all isDig = true := by
  rw [List.all_eq_true]; intro d hd
  have := dec_mem n d hd
  simp only [isDig, Bool.and_eq_true, decide_eq_true_eq]; exact this
theorem dec_head0 (n : Nat) (h : n ≠ 0) : ∃ x t, Lib.decDigits n = x :: t ∧ x.toNat ≠ 48 := by
  induction n using Nat.strongRecOn with
  | _ n ih =>
    by_cases hn : n < 10
    · exact ⟨_, [], Lib.decDigits_one hn, by rw [UInt8.toNat_ofNat']; omega⟩
    · obtain ⟨x, t, e, hx⟩ := ih (n / 10) (by omega) (by omega)
      refine ⟨x, t ++ [UInt8.ofNat (48 + n % 10)], ?_, hx⟩
      rw [Lib.decDigits, dif_neg hn, e]; rfl
theorem pre_cases (l : List UInt8) : (Lib.hasPrefix l [45] = true ∧ l = 45 :: Lib.trimPrefix l [45]) ∨ (Lib.hasPrefix l [45] = false ∧ l = Lib.trimPrefix l [45]) := by
  cases l with
  | nil => right; simp [Lib.hasPrefix, Lib.trimPrefix, List.isPrefixOf]
  | cons c l =>
    by_cases hc : c = 45
    · subst hc; left; simp [Lib.hasPrefix, Lib.trimPrefix, List.isPrefixOf]
    · right
      have : Lib.hasPrefix (c :: l) [45] = false := by simp [Lib.hasPrefix, List.isPrefixOf]; exact fun h => hc h.symm
      refine ⟨this, by simp [Lib.trimPrefix, this]⟩
/-- A text without a fault is the numeral of an integer that is not too long. -/
theorem chk_form (l : List UInt8) (h : chk l ≠ 3) : ∃ z, l = Lib.itoa z ∧ chk l = if big z then 11 else 0 := by
  unfold chk at h ⊢
  have hp := pre_cases l
  generalize Lib.trimPrefix l [45] = d at *
  generalize Lib.hasPrefix l [45] = m at *
  by_cases ha : d.all isDig = true
  · cases d with
    | nil => exact absurd (by simp [chkD]) h
    | cons x t =>
      rw [chkD_cons _ _ _ ha] at h ⊢
      by_cases h3 : x.toNat = 48 ∧ (0 < t.length ∨ m = true)
      · rw [if_pos h3] at h; exact absurd rfl h
      · have hd := dec_dv x t ha (fun e => by
          rcases t with _ | ⟨c, t⟩
          · rfl
          · exact absurd ⟨e, .inl (by simp)⟩ h3)
        have hlen : (1023 < t.length) ↔ 1024 < (Lib.decDigits (dv 0 (x :: t))).length := by rw [hd, List.length_cons]; omega
        rw [if_neg h3]
        rcases hp with ⟨hm, hl⟩ | ⟨hm, hl⟩
        · have h0 : dv 0 (x :: t) ≠ 0 := by
            intro e0
            rw [e0] at hd
            rw [show Lib.decDigits 0 = [48] from by rw [Lib.decDigits_one (by omega)]; rfl] at hd
            injection hd with hx ht
            exact h3 ⟨by rw [← hx]; rfl, .inr hm⟩
          refine ⟨-(dv 0 (x :: t) : Int), ?_, ?_⟩
          · rw [itoa_cases, if_pos (by omega), show (-(dv 0 (x :: t) : Int)).natAbs = dv 0 (x :: t) by omega, hd]; exact hl
          · rw [big_eq _ (dv 0 (x :: t)) (by omega)]; simp only [← hlen]
        · refine ⟨(dv 0 (x :: t) : Int), ?_, ?_⟩
          · rw [itoa_cases, if_neg (by omega), show ((dv 0 (x :: t) : Int)).natAbs = dv 0 (x :: t) by omega, hd]; exact hl
          · rw [big_eq _ (dv 0 (x :: t)) (by omega)]; simp only [← hlen]
  · exact absurd (by simp only [chkD]; rw [if_pos (by simpa using ha)]) h
/-- The numeral of an integer has no fault but its length. -/
theorem chk_itoa (z : Int) : chk (Lib.itoa z) = if big z then 11 else 0 := by
  unfold chk
  rw [pre_itoa, trim_itoa]
  have ha := dec_all z.natAbs
  rw [big_eq z _ rfl]
  by_cases h0 : z.natAbs = 0
  · obtain rfl : z = 0 := by omega
    rw [show Int.natAbs 0 = 0 from rfl, show Lib.decDigits 0 = [48] from by rw [Lib.decDigits_one (by omega)]; rfl]
    decide
  · obtain ⟨x, t, e, hx⟩ := dec_head0 _ h0
    rw [e] at ha ⊢
    rw [chkD_cons _ _ _ ha, if_neg (fun h => hx h.1)]
    have e2 : (1024 < (x :: t).length) = (1023 < t.length) := propext ⟨by simp; omega, by simp; omega⟩
    simp only [e2]
theorem parse_ok (l : List UInt8) (hne : l ≠ []) (h : l.all isDig = true) (hl : l.length ≤ 9) : Lib.parseUintB 32 l = .ok (dv 0 l) ∧ dv 0 l < 1000000000 := by
  have key : ∀ (l : List UInt8) (acc k : Nat), l.all isDig = true → l.length ≤ k → acc * 10 ^ k + 10 ^ k ≤ 1000000000 → Lib.parseUintM (2 ^ 32 - 1) acc l = .ok (dv acc l) := by
    intro l
    induction l with
    | nil => intro acc k _ _ _; rw [dv_nil]; rfl
    | cons c l ih =>
      intro acc k h hl hb
      simp only [List.all_cons, Bool.and_eq_true] at h
      have hx : 48 ≤ c.toNat ∧ c.toNat ≤ 57 := by have := h.1; simp [isDig] at this; exact ⟨this.1, this.2⟩
      obtain ⟨k, rfl⟩ : ∃ k', k = k' + 1 := ⟨k - 1, by simp at hl; omega⟩
      have hp : 1 ≤ 10 ^ k := Nat.pow_pos (by omega)
      rw [Nat.pow_succ] at hb
      have hb2 : (acc * 10 + 10) * 10 ^ k ≤ 1000000000 := by
        have : (acc * 10 + 10) * 10 ^ k = acc * (10 ^ k * 10) + 10 ^ k * 10 := by rw [Nat.add_mul, Nat.mul_assoc, Nat.mul_comm 10]
        omega
      have hs : acc * 10 + 10 ≤ 1000000000 := Nat.le_trans (Nat.le_mul_of_pos_right _ hp) hb2
      have hn : (acc * 10 + (c.toNat - 48)) * 10 ^ k + 10 ^ k ≤ 1000000000 := by
        have e : (acc * 10 + (c.toNat - 48)) * 10 ^ k + 10 ^ k = (acc * 10 + (c.toNat - 48) + 1) * 10 ^ k := by rw [Nat.add_mul (acc * 10 + (c.toNat - 48)) 1, Nat.one_mul]
        rw [e]; exact Nat.le_trans (Nat.mul_le_mul_right _ (by omega)) hb2
      rw [Lib.parseUintM, if_pos hx, if_neg (by omega), if_neg (by omega), dv_cons]
      exact ih _ k h.2 (by simpa using hl) hn
  refine ⟨?_, Nat.lt_of_lt_of_le (dv_lt l h) (Nat.le_trans (Nat.pow_le_pow_right (by omega) hl) (by decide))⟩
  unfold Lib.parseUintB
  rw [if_neg hne]
  exact key l 0 9 h hl (by decide)
end Go.Proofs.YtlnhocgjgmhfgaaGreatDoor
namespace Go.Proofs.YtlnhocgjgmhfgaaGreatDoor
open Go.RowKit

/-- The words of the first e digits, the last one first. -/
def ws (d : List UInt8) (e : Nat) : List Nat :=
  if h : e = 0 then [] else dv 0 ((d.drop (e - 9)).take (e - (e - 9))) :: ws d (e - 9)
termination_by e
decreasing_by omega
theorem ws_zero (d : List UInt8) : ws d 0 = [] := by rw [ws]; simp
theorem ws_pos (d : List UInt8) (e : Nat) (h : 0 < e) : ws d e = dv 0 ((d.drop (e - 9)).take (e - (e - 9))) :: ws d (e - 9) := by rw [ws, dif_neg (by omega)]
theorem all_sub (d : List UInt8) (h : d.all isDig = true) (a b : Nat) : ((d.drop a).take b).all isDig = true := by
  rw [List.all_eq_true] at h ⊢
  intro x hx; exact h x (List.mem_of_mem_drop (List.mem_of_mem_take hx))
theorem ws_word (d : List UInt8) (e : Nat) (h : d.all isDig = true) (h0 : 0 < e) (he : e ≤ d.length) :
    Lib.parseUintB 32 ((d.drop (e - 9)).take (e - (e - 9))) = .ok (dv 0 ((d.drop (e - 9)).take (e - (e - 9)))) ∧ dv 0 ((d.drop (e - 9)).take (e - (e - 9))) < 1000000000 := by
  have hl : ((d.drop (e - 9)).take (e - (e - 9))).length = e - (e - 9) := by rw [List.length_take, List.length_drop]; omega
  refine parse_ok _ ?_ (all_sub d h _ _) (by rw [hl]; omega)
  intro e2; rw [e2] at hl; simp at hl; omega
theorem ws_lt (d : List UInt8) (h : d.all isDig = true) : ∀ e, e ≤ d.length → ∀ x ∈ ws d e, x < 1000000000 := by
  intro e
  induction e using Nat.strongRecOn with
  | _ e ih =>
    intro he x hx
    by_cases h0 : e = 0
    · subst h0; rw [ws_zero] at hx; cases hx
    · rw [ws_pos d e (by omega)] at hx
      rcases List.mem_cons.1 hx with rfl | hx
      · exact (ws_word d e h (by omega) he).2
      · exact ih (e - 9) (by omega) (by omega) x hx
theorem ws_len (d : List UInt8) : ∀ e, (ws d e).length ≤ e := by
  intro e
  induction e using Nat.strongRecOn with
  | _ e ih =>
    by_cases h0 : e = 0
    · subst h0; rw [ws_zero]; exact Nat.le_refl _
    · rw [ws_pos d e (by omega), List.length_cons]
      have := ih (e - 9) (by omega); omega
theorem ws_val (d : List UInt8) : ∀ e, e ≤ d.length → val 1000000000 (ws d e) = dv 0 (d.take e) := by
  intro e
  induction e using Nat.strongRecOn with
  | _ e ih =>
    intro he
    by_cases h0 : e = 0
    · subst h0; rw [ws_zero, List.take_zero, dv_nil]; rfl
    · rw [ws_pos d e (by omega), val, ih (e - 9) (by omega) (by omega)]
      have e1 : d.take e = d.take (e - 9) ++ (d.drop (e - 9)).take (e - (e - 9)) := by
        conv => lhs; rw [show e = (e - 9) + (e - (e - 9)) by omega]
        rw [List.take_add]
      have hl : ((d.drop (e - 9)).take (e - (e - 9))).length = e - (e - 9) := by rw [List.length_take, List.length_drop]; omega
      conv => rhs; rw [e1, dv_append, dv_acc, hl]
      by_cases h9 : 9 ≤ e
      · rw [show e - (e - 9) = 9 by omega, show (10 : Nat) ^ 9 = 1000000000 from rfl, Nat.add_comm, Nat.mul_comm]
      · rw [show e - 9 = 0 by omega, List.take_zero, dv_nil, Nat.zero_mul, Nat.mul_zero, Nat.add_comm]
theorem ws_dec (n : Nat) : val 1000000000 (ws (Lib.decDigits n) (Lib.decDigits n).length) = n := by
  rw [ws_val _ _ (Nat.le_refl _), List.take_length, dv_dec]
end Go.Proofs.YtlnhocgjgmhfgaaGreatDoor
namespace Go.Proofs.YtlnhocgjgmhfgaaGreatDoor
open Go.RowKit Go.Shelf
set_option maxRecDepth 100000

attribute [local go_sem] Oper.semAt_some

/-- A cell stands as it stood. -/
def KpC (B : Nat) (W W' : World) : Prop := ∀ v, W.cell? ⟨B, 0, none⟩ = some v → W'.cell? ⟨B, 0, none⟩ = some v
theorem KpC.tr {B : Nat} {X Y Z : World} (h : KpC B X Y) (h' : KpC B Y Z) : KpC B X Z := fun v hv => h' v (h v hv)
theorem KpC.put {B : Nat} (W : World) (l : Nat) (o o' : Obj) (ho : W.heap[l]? = some o) (hc : o.isCells = false) : KpC B W (W.putObj l o') := fun v hv =>
  cell_kept hv (grownBy_putObj' W l o') (fun r e => by cases e; exact ⟨_, ho, hc⟩)
theorem KpC.grown {B : Nat} {W W' : World} (hg : W.grownBy W' none) : KpC B W W' := fun v hv => cell_kept hv hg (fun r e => by cases e)

set_option maxHeartbeats 1000000 in
theorem groups1_in (d : List UInt8) (hd : d.all isDig = true) (hdl : d.length ≤ 1000000) (n : Nat) (hn : 1 ≤ n) (l Bn : Nat) (J Jx : List Nat → World → Prop) (W : World)
    (hJ : AbidesFrom W.heap.size J)
    (hY : ∀ pre x W, J pre W → pre.length < 1000000 → YieldAt Fence.wide (n - 1) Tryz.prog l #[.int .u32 (x : Nat)] W fun e W' =>
      (e = .returned (.bool true) ∧ J (pre ++ [x]) W' ∧ KpC Bn W W') ∨ (e = .returned (.bool false) ∧ Jx (pre ++ [x]) W'))
    (hBn : W.cell? ⟨Bn, 0, none⟩ = some (.string ⟨d.toArray⟩)) (h0 : J [] W) :
    CallsIn Fence.wide n Tryz.prog 132 #[.func (.yield l) #[] #[], .pointer (some ⟨Bn, 0, none⟩)] W fun e W' => (∃ v, e = .returned v) ∧
      ((∃ ys, ys = ws d d.length ∧ J ys W') ∨ (∃ pre, pre <+: ws d d.length ∧ Jx pre W')) := by
  refine callsIn_of_wp Tryz.func132 rfl trivial ?_ rfl
  simp only [Tryz.ntmps132, List.size_toArray, List.length_cons, List.length_nil, Nat.reduceAdd, Nat.reduceSub, Array.replicate_succ, Array.replicate_zero, List.push_toArray, List.append_toArray, List.nil_append, List.cons_append]
  have hwl := ws_len d d.length
  have HY := Lib.hid hY; have HJ := Lib.hid hJ; have HD := Lib.hid hd; have HWL := Lib.hid hwl
  clear hY hJ hd hwl
  gi_wp2
  gi_loopw [3] (fun i wr => ∃ (pre : List Nat) (e : Int), i = .int .i64 e ∧ -9 ≤ e ∧ e ≤ d.length ∧ Hid (pre ++ ws d e.toNat = ws d d.length) ∧ J pre wr ∧ KpC Bn W wr) (fun i _ => (intOf i).toNat)
  case atStart => exact ⟨[], d.length, rfl, by omega, by omega, Lib.hid rfl, h0, fun _ h => h⟩
  case round =>
    obtain ⟨pre, e, rfl, he0, he1, hpre, hJs, hb⟩ := hrel
    by_cases hpos : 0 < e
    · obtain ⟨k, rfl⟩ : ∃ k : Nat, e = (k : Int) := ⟨e.toNat, by omega⟩
      have hk0 : 0 < k := by omega
      have hkd : k ≤ d.length := by omega
      have hc : wr.cell? ⟨Bn, 0, none⟩ = some (.string ⟨d.toArray⟩) := hb _ hBn
      have hw := ws_word d k HD.out hk0 hkd
      have hp2 := hpre.out
      rw [Int.toNat_natCast, ws_pos d k hk0] at hp2
      generalize hx : dv 0 ((d.drop (k - 9)).take (k - (k - 9))) = x at hw hp2
      have hmx : max (0 : Int) ((k : Int) - 9) = ((k - 9 : Nat) : Int) := by omega
      have hex : ((⟨d.toArray⟩ : ByteArray).extract (k - 9) k).data.toList = (d.drop (k - 9)).take (k - (k - 9)) := by rw [Lib.extract_data]
      have hlen : pre.length < 1000000 := by
        have := congrArg List.length hp2
        have hl := HWL.out
        simp only [List.length_append, List.length_cons] at this
        omega
      have hsz : (⟨d.toArray⟩ : ByteArray).size = d.length := by simp [ByteArray.size]
      have HW := Lib.hid hw; have HP := Lib.hid hp2; have HEX := Lib.hid hex
      have hxl := hw.2
      clear hw hp2 hex hx
      gi_wp2
      refine ⟨trivial, callsIn_wide.2 ((Tryz.strconv_ParseUint_10_at32_ok _ (by rw [Lib.size_eq, HEX.out, List.length_take, List.length_drop]; omega) x (by rw [HEX.out]; exact HW.out.1) _).mono ?_)⟩
      rintro e w' ⟨rfl, hw⟩
      have hg : wr.grownBy w' none := by
        rcases hw with rfl | rfl
        · exact World.grownBy.refl _ _
        · have hb9 := Lib.bytesWorld_below wr 5 ((⟨d.toArray⟩ : ByteArray).extract (k - 9) k)
          exact ⟨hb9.os, hb9.tape, hb9.output, hb9.size, fun j hj _ => hb9.block j hj⟩
      have hb' : KpC Bn W w' := hb.tr (KpC.grown hg)
      obtain ⟨fn, tmps, assign, body, hy, hR⟩ := HY.out pre x w' (HJ.out pre wr w' none hJs hg (fun r h => by cases h)) hlen
      clear hw
      gi_wp2
      refine hR.mono ?_
      rintro e W3 (⟨rfl, hJ3, hk3⟩ | ⟨rfl, hJx3⟩)
      · gi_wp2
        go_roundw
        case rel =>
          refine ⟨pre ++ [x], (k : Int) - 9, rfl, by omega, by omega, Lib.hid ?_, hJ3, hb'.tr hk3⟩
          rw [show ((k : Int) - 9).toNat = k - 9 by omega, List.append_assoc]; exact HP.out
        case measure => simp [intOf]; omega
      · gi_wp2
        refine bodyPost_ret (results_none rfl _ _ _) rfl ?_
        exact ⟨⟨_, rfl⟩, .inr ⟨pre ++ [x], ⟨ws d (k - 9), by rw [List.append_assoc]; exact HP.out⟩, hJx3⟩⟩
    · have e0 : e.toNat = 0 := by omega
      have hp := hpre.out
      rw [e0, ws_zero, List.append_nil] at hp
      have HP := Lib.hid hp
      clear hp hpre
      gi_wp2
      go_end0
      exact ⟨⟨_, rfl⟩, .inl (HP.out ▸ hJs)⟩

theorem groups_stops (d : List UInt8) (hd : d.all isDig = true) (hdl : d.length ≤ 1000000) (n : Nat) (hn : 1 ≤ n) (Bn : Nat) (w : World) (hBn : Bn < w.heap.size) (hc : w.cell? ⟨Bn, 0, none⟩ = some (.string ⟨d.toArray⟩)) :
    SeqStopsK Fence.wide n Tryz.prog 132 #[.pointer (some ⟨Bn, 0, none⟩)] (fun x : Nat => #[Value.int .u32 (x : Nat)]) (KpC Bn) (fun ys => ys = ws d d.length) (fun pre => pre <+: ws d d.length) 1000000 w := fun l J Jx W hW hJ _ hY h0 =>
  groups1_in d hd hdl n hn l Bn J Jx W hJ hY ((hW.cell (p := ⟨Bn, 0, none⟩) hBn).trans hc) h0

set_option maxHeartbeats 400000 in
theorem groups_any (s : ByteArray) (w : World) :
    Calls Tryz.prog 121 #[.string s] w fun e w' => e = .returned (.func (.func 132) #[] #[.pointer (some ⟨w.heap.size, 0, none⟩)]) ∧ w' = w.alloc (.cells #[.string s] 9) := by
  go_enter Tryz.func121, Tryz.ntmps121
  go_wp2
  go_ret
  exact ⟨rfl, rfl⟩
end Go.Proofs.YtlnhocgjgmhfgaaGreatDoor
namespace Go.Proofs.YtlnhocgjgmhfgaaGreatDoor
open Go.RowKit Go.Shelf
set_option maxRecDepth 100000

attribute [local go_sem] Oper.semAt_some

theorem Sl.put {α : Type} {enc : α → Value} {w : World} {v : Value} {xs : List α} (h : Sl enc w v xs) {l : Nat} {ob : Obj} (ob' : Obj) (hl : w.heap[l]? = some ob) (hc : ob.isCells = false) : Sl enc (w.putObj l ob') v xs := by
  obtain ⟨a, b, o, c, rfl, ha, hcc, hm, hn, hx⟩ := h
  have hg := grownBy_putObj' w l ob'
  exact ⟨a, b, o, c, rfl, ha, hcc, hm, hn, fun h0 => Nat.lt_of_lt_of_le (hx.1 h0) hg.size, fun i hi => cell_kept (hx.2 i hi) hg (fun r e => by cases e; exact ⟨_, hl, hc⟩)⟩

set_option maxHeartbeats 2000000 in
theorem read_in (w : World) (s : ByteArray) (z : Int) (hs : s.data.toList = Lib.itoa z) (hsz : s.size ≤ 1000000) :
    CallsIn Fence.wide 4 Tryz.prog 103 #[.string s] w (Rets fun v w' => Num w' v z ∧ Below w.heap.size w w') := by
  have hd1 : Lib.trimPrefix s.data.toList [45] = Lib.decDigits z.natAbs := by rw [hs, trim_itoa]
  have hm1 : Lib.hasPrefix s.data.toList [45] = decide (z < 0) := by rw [hs, pre_itoa]
  have hall := dec_all z.natAbs
  have hval := ws_dec z.natAbs
  have hdl : (Lib.decDigits z.natAbs).length ≤ 1000000 := by
    have e := itoa_cases z
    have e2 : s.data.toList.length ≤ 1000000 := by rw [← Lib.size_eq]; exact hsz
    rw [hs, e] at e2
    split at e2
    · rw [List.length_cons] at e2; omega
    · exact e2
  generalize Lib.decDigits z.natAbs = d at *
  generalize hm : decide (z < 0) = m at *
  have HD1 := Lib.hid hd1; have HM1 := Lib.hid hm1; have HALL := Lib.hid hall; have HVAL := Lib.hid hval; have HM := Lib.hid hm
  clear hd1 hm1 hs hsz hall hval hm
  refine callsIn_of_wp_marks Tryz.func103 rfl trivial ?_ rfl
  simp only [Tryz.ntmps103, List.size_toArray, List.length_cons, List.length_nil, Nat.reduceAdd, Nat.reduceSub, Array.replicate_succ, Array.replicate_zero, List.push_toArray, List.append_toArray, List.nil_append, List.cons_append]
  gi_wp2
  refine ⟨trivial, callsIn_wide.2 ((Tryz.strings_CutPrefix _ _ _).mono ?_)⟩
  rintro e w' ⟨rfl, rfl⟩
  rw [show (⟨#[45]⟩ : ByteArray).data.toList = [45] from rfl, HD1.out, HM1.out]
  gi_wp2
  refine ⟨trivial, callsIn_wide.2 ((groups_any _ _).mono ?_)⟩
  rintro e w' ⟨rfl, rfl⟩
  gi_wp2
  obtain ⟨i0, hi, hz0, hz1, hz2⟩ := info_parts (by kernel_rfl : (Tryz.prog.info? 150).map (fun i => (i.zero, i.size, i.bytes)) = some (some (.int .u32 0), 1, 4))
  have bK := Blk.new w [.bool false, .slice none 0 0] 138
  have bL := (Boxed.new (w.alloc (.cells #[.bool false, .slice none 0 0] 138)) 136 (.slice none 0 0)).alloc (.cells #[.string ⟨d.toArray⟩] 9)
  have bS := Boxed.new ((w.alloc (.cells #[.bool false, .slice none 0 0] 138)).alloc (.cells #[.slice none 0 0] 136)) 9 (.string ⟨d.toArray⟩)
  rw [World.size_alloc] at bL
  rw [World.size_alloc, World.size_alloc] at bS
  have hB0 : Below (w.heap.size + 1) (w.alloc (.cells #[.bool false, .slice none 0 0] 138)) (((w.alloc (.cells #[.bool false, .slice none 0 0] 138)).alloc (.cells #[.slice none 0 0] 136)).alloc (.cells #[.string ⟨d.toArray⟩] 9)) := ((Below.refl _ _).alloc (by simp) _).alloc (by simp) _
  refine wpIn_rangeFunc_ownG rfl (by omega) (gf := 132) (lb := #[.pointer (some ⟨w.heap.size + 1 + 1, 0, none⟩)]) rfl trivial (enters_of Tryz.func132 (by kernel_rfl) rfl)
    (groups_stops d HALL.out hdl _ (by omega) (w.heap.size + 1 + 1) _ (by simp) bS.cell) KpC.tr (fun W l o o' _ ho hc _ => KpC.put W l o o' ho hc) (Below.refl _ _) (fun _ => rfl)
    (fun pre W => (∃ v, Boxed W (w.heap.size + 1) 136 v ∧ W.ownsRow (w.heap.size + 1) 150 1 v pre.length (pre.map eU) ∧ True) ∧ (Boxed W (w.heap.size + 1 + 1) 9 (.string ⟨d.toArray⟩) ∧ Below (w.heap.size + 1) (w.alloc (.cells #[.bool false, .slice none 0 0] 138)) W))
    (fun _ _ _ => False)
    (OwnFrom.and (Own.from (holdsRow_own (w.heap.size + 1) (w.heap.size + 1) 136 150 1 (fun pre : List Nat => pre.length) (fun pre => pre.map eU) (fun _ _ => True)) _) (OwnFrom.and (Own.from (boxed_own _ _ (fun _ => .string ⟨d.toArray⟩)) _) (ownFrom_below (by simp) (by first | (simp; done) | (simp; omega)))))
    (fun _ _ _ _ _ hs _ _ => hs)
    ⟨⟨_, bL, World.ownsRow_nil _ _ _ _, trivial⟩, bS, hB0⟩
    (fun x => { tmps := #[.string s, undef, .pointer (some ⟨w.heap.size, 0, none⟩), .string ⟨d.toArray⟩, .bool m, .pointer (some ⟨w.heap.size + 1, 0, none⟩), .int .u32 (x : Nat), .tuple #[.string ⟨d.toArray⟩, .bool m], .string s, .tuple #[.string ⟨d.toArray⟩, .bool m], .string ⟨d.toArray⟩, .bool m, .string ⟨d.toArray⟩,
      .func (.func 132) #[] #[.pointer (some ⟨w.heap.size + 1 + 1, 0, none⟩)], .int .u32 (x : Nat), undef, undef, undef, undef, undef, undef, undef, undef], defers := [] }) ?assign ?body ?done ?stop
  case assign =>
    intro l x W K hK
    gi_wp2
    exact hK
  case body =>
    rintro l pre x W ⟨⟨v, hv, hrow, -⟩, hS, hB⟩ hlt
    have hc := hv.cell
    have hBs : w.heap.size + 1 ≤ W.heap.size := by have := hB.size; simpa using this
    gi_wp2_with (gi_at_builtin; go_loud (refine wpListIn_append_own _ rfl _ _ 136 rfl (w.heap.size + 1) 150 i0 (.int .u32 0) 1 4 Tryz.underlying136 hi hz0 hz1 hz2 rfl (by decide) _ _ _ rfl (hrow.alloc _) ⟨W.heap.size, 0, none⟩ 1 1 [.int .u32 (x : Nat)] rfl rfl (cell_one_new _ _ _) (by simp [Value.oneCell']) (by unfold maxLen; omega) (by omega) (by first | (simp; done) | (simp; omega)) ?_; intro v' w1 hown' hgrow _; obtain ⟨g', cap', rfl⟩ := ownsRow_succ hown'; obtain ⟨hv1, hv2, hr2, hk2, hb2⟩ := hv.appended (by decide) hrow hBs (Nat.le_refl _) hown' hgrow; have hc1 := hv1.cell; have hf1 := hv1.frozen))
    have hS1 := (hS.alloc _).kept hgrow (hS.not_row (by decide) hrow)
    exact ⟨hk2.from _, fun u hu => by rw [hS.cell] at hu; cases hu; exact (hS1.other (by omega) _).cell, ⟨_, hv2, by simpa [eU] using hr2, trivial⟩, hS1.other (by omega) _, hB.trans hb2⟩
  case done =>
    rintro D ys W hD rfl ⟨⟨v, hv, hrow, -⟩, -, hB⟩ hK
    have hc := hv.cell
    have hsl : Sl eU W v (ws d d.length) := Sl.ofOwns hrow
    have hBk := bK.below (hB.mono (Nat.le_refl _)) (by simp)
    have hDg : w.heap.size + 1 + 1 + 1 ≤ D := by simpa using hD
    have hDW : D < W.heap.size := (Array.getElem?_eq_some_iff.1 hK).1
    gi_wp2
    refine ⟨trivial, callsIn_wide.2 ((trimmed_any _ _ _ hsl).mono ?_)⟩
    rintro e w' ⟨v3, rfl, hs3, rfl⟩
    rw [trim_of 1000000000 (ws d d.length) z.natAbs (by omega) (ws_lt d HALL.out _ (Nat.le_refl _)) HVAL.out] at hs3
    gi_wp2
    refine ⟨trivial, callsIn_wide.2 ((signed_any _ _ _ _ hs3).mono ?_)⟩
    rintro e w2 ⟨v4, rfl, ⟨mA, aA, nA, cA, rfl, hmA, hsA⟩, hbA⟩
    have hsg : sg m z.natAbs = z := by
      rw [← HM.out]; by_cases hz : z < 0 <;> simp [sg, hz] <;> omega
    rw [hsg] at hsA hmA
    have hBk2 := hBk.below hbA (Nat.le_refl _)
    have k0 := hBk2.cell 0 _ rfl
    have k1 := hBk2.cell 1 _ rfl
    have f0 := hBk2.free 0
    have f1 := hBk2.free 1
    have hK2 : w2.heap[D]? = some (.deferred (some [])) := (hbA.block D hDW).trans hK
    have hb1 : Below w.heap.size w W := ((Below.refl _ w).alloc (Nat.le_refl _) _).trans (hB.mono (by omega))
    have hb2 : Below w.heap.size w w2 := hb1.trans (hbA.mono hb1.size)
    have HSA := Lib.hid hsA; have HMA := Lib.hid hmA; have HB2 := Lib.hid hb2
    clear hsA hmA hb2 hs3 hsl
    gi_wp2
    obtain ⟨hs2, r0, r1⟩ := store2 hBk2 (by simp [eU]) (by simp [eU]) mA aA nA cA HSA.out
    have hK3 := ((KeepsOthers.setCell w2 ⟨w.heap.size, 0, none⟩ (.bool mA)).trans (KeepsOthers.setCell (w2.setCell ⟨w.heap.size, 0, none⟩ (.bool mA)) ⟨w.heap.size, 1, none⟩ (.slice aA nA cA))).same D _ hK2 rfl
    have hb3 := (HB2.out.setCell (p := ⟨w.heap.size, 0, none⟩) (Nat.le_refl _) (.bool mA)).setCell (p := ⟨w.heap.size, 1, none⟩) (Nat.le_refl _) (.slice aA nA cA)
    generalize (w2.setCell ⟨w.heap.size, 0, none⟩ (.bool mA)).setCell ⟨w.heap.size, 1, none⟩ (.slice aA nA cA) = w3 at *
    have q0 := cell_kept r0 (grownBy_putObj' w3 D (.deferred none)) (fun r e => by cases e; exact ⟨_, hK3, rfl⟩)
    have q1 := cell_kept r1 (grownBy_putObj' w3 D (.deferred none)) (fun r e => by cases e; exact ⟨_, hK3, rfl⟩)
    refine ⟨by simp, .inl ⟨_, _, rfl, run_takeDeferred hK3, ?_⟩⟩
    exact ⟨.agg #[.bool mA, .slice aA nA cA], by simp [results, Tryz.results103, go_sem, q0, q1], _, rfl, ⟨_, _, _, _, rfl, HMA.out, hs2.put _ hK3 rfl⟩,
      hb3.trans (belowK_b (w := w) (Nat.le_refl _) w3 D _ _ (by omega) hK3 rfl rfl)⟩
  case stop =>
    rintro D c pre W _ _ h _
    exact h.elim

theorem read_any (w : World) (s : ByteArray) (z : Int) (hs : s.data.toList = Lib.itoa z) (hsz : s.size ≤ 1000000) :
    Calls Tryz.prog 103 #[.string s] w (Rets fun v w' => Num w' v z ∧ Below w.heap.size w w') := callsIn_wide.1 (read_in w s z hs hsz)
end Go.Proofs.YtlnhocgjgmhfgaaGreatDoor

namespace Go.Proofs.YtlnhocgjgmhfgaaGreatDoor
open Go.RowKit
set_option maxRecDepth 100000

/-- The text is the numeral of the integer, and not too long. -/
def Good (s : ByteArray) (z : Int) : Prop := s.data.toList = Lib.itoa z ∧ big z = false
theorem Good.chk {s : ByteArray} {z : Int} (h : Good s z) : chk s.data.toList = 0 := by rw [h.1, chk_itoa, h.2]; rfl
theorem Good.dec {s : ByteArray} {z : Int} (h : Good s z) : (Lib.decDigits z.natAbs).length ≤ 1024 := by
  have := h.2; simp only [big, decide_eq_false_iff_not] at this; omega
theorem Good.size {s : ByteArray} {z : Int} (h : Good s z) : s.size ≤ 1025 := by
  have := h.dec
  rw [Lib.size_eq, h.1, itoa_cases]
  split
  · rw [List.length_cons]; omega
  · omega
theorem wl_dec (z : Int) : wl z ≤ (Lib.decDigits z.natAbs).length := by
  unfold wl
  rw [digs_len _ _ _ (by omega)]
  have h := dv_lt _ (dec_all z.natAbs)
  rw [dv_dec] at h
  exact Nat.lt_of_lt_of_le h (Nat.pow_le_pow_left (by omega) _)
theorem Good.wl {s : ByteArray} {z : Int} (h : Good s z) : wl z ≤ 1024 := Nat.le_trans (wl_dec z) h.dec
theorem good_of {s : ByteArray} (h : chk s.data.toList = 0) : ∃ z, Good s z := by
  obtain ⟨z, e, h2⟩ := chk_form s.data.toList (by rw [h]; decide)
  refine ⟨z, e, ?_⟩
  rw [h] at h2
  cases hb : big z
  · rfl
  · rw [hb] at h2; exact absurd h2 (by decide)

set_option maxHeartbeats 400000 in
theorem Neg_err (w : World) (s : ByteArray) (hsz : s.size ≤ 1000000) (h : chk s.data.toList ≠ 0) :
    Calls Tryz.prog 100 #[.string s] w (Rets fun v w' => v = .tuple #[.string ⟨#[]⟩, .int .i64 (chk s.data.toList)] ∧ Below w.heap.size w w') := by
  have hne : (chk s.data.toList != 0) = true := by simp [h]
  clear h
  go_enter Tryz.func100, Tryz.ntmps100
  go_wp2_with (go_at_call 113; refine (check_any _ _ hsz).mono ?_; rintro e w' ⟨v, rfl, rfl, hb⟩)
  go_ret2
  exact ⟨_, rfl, rfl, hb⟩
/-- What 'result' answers, parted. -/
theorem resV_cases (z : Int) : ∃ (t : ByteArray) (k : Int), resV z = .tuple #[.string t, .int .i64 k] ∧ (big z = true → t = ⟨#[]⟩ ∧ k = 11) ∧ (big z = false → t = txt z ∧ k = 0) := by
  unfold resV
  cases h : big z
  · exact ⟨_, _, rfl, fun h => (by cases h), fun _ => ⟨rfl, rfl⟩⟩
  · exact ⟨_, _, rfl, fun _ => ⟨rfl, rfl⟩, fun h => (by cases h)⟩
set_option maxHeartbeats 400000 in
theorem Neg_ok (w : World) (s : ByteArray) (z : Int) (hz : Good s z) (he : Env w) :
    Calls Tryz.prog 100 #[.string s] w (Rets fun v w' => v = resV (-z) ∧ Below w.heap.size w w') := by
  obtain ⟨t, k, hr, -, -⟩ := resV_cases (-z)
  have HR := Lib.hid hr
  have HZ := Lib.hid hz; have HE := Lib.hid he; clear hz he hr
  go_enter Tryz.func100, Tryz.ntmps100
  go_wp2_with (first
    | (go_at_call 113; refine (check_any _ _ (by have := HZ.out.size; omega)).mono ?_; rintro e w' ⟨v, rfl, rfl, hb⟩; rw [HZ.out.chk])
    | (go_at_call 103; refine (read_any _ _ z HZ.out.1 (by have := HZ.out.size; omega)).mono ?_; rintro e w2 ⟨v, rfl, hn, hb2⟩; have HN := Lib.hid hn; clear hn; have hbb := hb.trans (hb2.mono hb.size))
    | (go_at_call 117; refine (neg_any _ _ z HN.out).mono ?_; rintro e w3 ⟨v, rfl, hn2, hb3⟩; have HN2 := Lib.hid hn2; clear hn2; have hbc := hbb.trans (hb3.mono hbb.size))
    | (go_at_call 102; refine (result_any _ _ (-z) HN2.out (by have := HZ.out.wl; rw [wl_neg]; omega) (HE.out.below hbc (Nat.le_refl _))).mono ?_; rintro e w4 ⟨v, rfl, rfl, hb4⟩; rw [HR.out]))
  go_ret2
  exact ⟨_, rfl, by rw [HR.out]; rfl, hbc.trans (hb4.mono hbc.size)⟩

set_option maxHeartbeats 400000 in
theorem Of_any (w : World) (n : Int) (h0 : -9223372036854775808 ≤ n) (h1 : n ≤ 9223372036854775807) (he : Env w) :
    Calls Tryz.prog 61 #[.int .i64 n] w (Rets fun v w' => v = .string (txt n) ∧ Below w.heap.size w w') := by
  have HE := Lib.hid he; have H0 := Lib.hid h0; have H1 := Lib.hid h1; clear he h0 h1
  go_enter Tryz.func61, Tryz.ntmps61
  go_wp2_with (go_at_call 79; refine (itoa_any n H0.out H1.out _ HE.out).mono ?_; rintro e w' ⟨v, rfl, rfl, hb⟩)
  go_ret
  exact ⟨_, rfl, rfl, hb⟩
end Go.Proofs.YtlnhocgjgmhfgaaGreatDoor

namespace Go.Proofs.YtlnhocgjgmhfgaaGreatDoor
open Go.RowKit
set_option maxRecDepth 100000

theorem Sl.pair (w : World) (s t : ByteArray) (e : TypeId) : Sl eS (w.alloc (.cells #[.string s, .string t] e)) (.slice (some ⟨w.heap.size, 0, none⟩) 2 2) [s, t] :=
  Sl.ofOwns (n := 2) (base := 0) (e := e) ⟨rfl, .inr ⟨w.heap.size, 2, #[.string s, .string t], rfl, by omega, heap_alloc_new w _, by omega, by simp [maxLen], rfl, rfl⟩⟩
theorem chks_pair (s t : ByteArray) : chks [s, t] = if chk s.data.toList = 0 then chk t.data.toList else chk s.data.toList := by
  simp only [chks]
  by_cases h : chk t.data.toList = 0 <;> simp [h]

end Go.Proofs.YtlnhocgjgmhfgaaGreatDoor

namespace Go.Proofs.YtlnhocgjgmhfgaaGreatDoor
open Go.RowKit
set_option maxRecDepth 100000

theorem fmod_abs (x y : Int) (h : y ≠ 0) : (Int.fmod x y).natAbs < y.natAbs := by
  rcases Int.lt_or_gt_of_ne h with h0 | h0
  · have := (Int.fdiv_fmod_unique' (a := x) (b := y) (r := Int.fmod x y) (q := Int.fdiv x y) h0).1 ⟨rfl, rfl⟩
    omega
  · have := (Int.fdiv_fmod_unique (a := x) (b := y) (r := Int.fmod x y) (q := Int.fdiv x y) h0).1 ⟨rfl, rfl⟩
    omega
theorem fdiv_abs (x y : Int) (h : y ≠ 0) : (Int.fdiv x y).natAbs ≤ x.natAbs + y.natAbs := by
  have h1 := Int.fmod_add_mul_fdiv x y
  have h2 := fmod_abs x y h
  have h3 : (y * Int.fdiv x y).natAbs = y.natAbs * (Int.fdiv x y).natAbs := Int.natAbs_mul _ _
  have h4 : (Int.fdiv x y).natAbs ≤ y.natAbs * (Int.fdiv x y).natAbs := Nat.le_mul_of_pos_left _ (by omega)
  omega
theorem wl_fdiv (x y : Int) (h : y ≠ 0) : wl (Int.fdiv x y) ≤ wl x + wl y + 1 := by
  have := digs_len_add 1000000000 x.natAbs y.natAbs (by omega)
  have h2 := digs_len_mono 1000000000 (by omega) (fdiv_abs x y h)
  unfold wl; omega
theorem wl_fmod (x y : Int) (h : y ≠ 0) : wl (Int.fmod x y) ≤ wl x + wl y + 1 := by
  have h2 := digs_len_mono 1000000000 (by omega) (Nat.le_of_lt (fmod_abs x y h))
  unfold wl; omega
theorem Good.eq {s : ByteArray} {z : Int} (h : Good s z) : s = txt z := by
  have := h.1
  unfold txt
  rw [← this]
theorem Good.text {s : ByteArray} (h : Good s 0) : s = ⟨#[48]⟩ := by
  rw [h.eq]
  have e : Lib.itoa 0 = [48] := by rw [itoa_cases, if_neg (by omega), show Int.natAbs 0 = 0 from rfl, Lib.decDigits_one (by omega)]; rfl
  unfold txt; rw [e]
theorem itoa_inj {x y : Int} (h : Lib.itoa x = Lib.itoa y) : x = y := by
  have h1 := congrArg (fun l => Lib.hasPrefix l [45]) h
  have h2 := congrArg (fun l => dv 0 (Lib.trimPrefix l [45])) h
  simp only [pre_itoa, trim_itoa, dv_dec] at h1 h2
  have : (x < 0) = (y < 0) := by simpa using h1
  by_cases hx : x < 0
  · have : y < 0 := by rw [← this]; exact hx
    omega
  · have : ¬ y < 0 := by rw [← this]; exact hx
    omega
theorem Good.not_zero {s : ByteArray} {z : Int} (h : Good s z) (hz : z ≠ 0) : (s.toList == [48]) = false := by
  have e : Lib.itoa 0 = [48] := by rw [itoa_cases, if_neg (by omega), show Int.natAbs 0 = 0 from rfl, Lib.decDigits_one (by omega)]; rfl
  rw [ByteArray.toList_eq, h.1, ← e]
  simp only [beq_eq_false_iff_ne]
  exact fun h => hz (itoa_inj h)

set_option maxHeartbeats 400000 in
theorem Quo_err (w : World) (s t : ByteArray) (hs : s.size ≤ 1000000) (ht : t.size ≤ 1000000) (h : chks [s, t] ≠ 0) :
    Calls Tryz.prog 139 #[.string s, .string t] w (Rets fun v w' => v = .tuple #[.string ⟨#[]⟩, .int .i64 (chks [s, t])] ∧ Below w.heap.size w w') := by
  have hne : (chks [s, t] != 0) = true := by simp [h]
  have hb0 : Below w.heap.size w (w.alloc (.cells #[.string s, .string t] 74)) := (Below.refl _ w).alloc (Nat.le_refl _) _
  have HB0 := Lib.hid hb0
  have HSZ := Lib.hid (show ∀ x ∈ [s, t], x.size ≤ 1000000 by intro x hx; simp at hx; rcases hx with rfl | rfl; exact hs; exact ht)
  clear h hb0
  go_enter Tryz.func139, Tryz.ntmps139
  go_wp2_with (go_at_call 101; refine (checked_any _ _ _ (Sl.pair w s t _) HSZ.out (by simp)).mono ?_; rintro e w' ⟨v, rfl, rfl, hb⟩)
  go_ret2
  exact ⟨_, rfl, rfl, HB0.out.trans (hb.mono (by simp))⟩
set_option maxHeartbeats 400000 in
theorem Quo_zero (w : World) (s t : ByteArray) (x : Int) (hx : Good s x) (hy : Good t 0) :
    Calls Tryz.prog 139 #[.string s, .string t] w (Rets fun v w' => v = .tuple #[.string ⟨#[]⟩, .int .i64 10] ∧ Below w.heap.size w w') := by
  have h0 : chks [s, t] = 0 := by rw [chks_pair, hx.chk, hy.chk]; rfl
  obtain rfl : t = ⟨#[48]⟩ := hy.text
  have hb0 : Below w.heap.size w (w.alloc (.cells #[.string s, .string ⟨#[48]⟩] 74)) := (Below.refl _ w).alloc (Nat.le_refl _) _
  have HB0 := Lib.hid hb0; have H0 := Lib.hid h0
  have HSZ := Lib.hid (show ∀ x ∈ [s, ⟨#[48]⟩], x.size ≤ 1000000 by intro x h; simp at h; rcases h with rfl | rfl; (have := hx.size; omega); (decide))
  clear h0 hb0 hx hy
  go_enter Tryz.func139, Tryz.ntmps139
  go_wp2_with (go_at_call 101; refine (checked_any _ _ _ (Sl.pair w s ⟨#[48]⟩ _) HSZ.out (by simp)).mono ?_; rintro e w1 ⟨v, rfl, rfl, hb1⟩; rw [H0.out]; have b1 := HB0.out.trans (hb1.mono (by simp)))
  go_ret2
  exact ⟨_, rfl, rfl, b1⟩
set_option maxHeartbeats 400000 in
theorem Quo_ok (w : World) (s t : ByteArray) (x y : Int) (hx : Good s x) (hy : Good t y) (h0 : y ≠ 0) (he : Env w) :
    Calls Tryz.prog 139 #[.string s, .string t] w (Rets fun v w' => v = resV (Int.fdiv x y) ∧ Below w.heap.size w w') := by
  have h0' : chks [s, t] = 0 := by rw [chks_pair, hx.chk, hy.chk]; rfl
  have hb0 : Below w.heap.size w (w.alloc (.cells #[.string s, .string t] 74)) := (Below.refl _ w).alloc (Nat.le_refl _) _
  obtain ⟨tt, k, hr, -, -⟩ := resV_cases (Int.fdiv x y)
  have ht0 : (t.toList == [48]) = false := hy.not_zero h0
  have hwl : wl (Int.fdiv x y) ≤ wl x + wl y + 1 := wl_fdiv x y h0
  have HWL := Lib.hid hwl; have HY0 := Lib.hid h0
  have HB0 := Lib.hid hb0; have H0 := Lib.hid h0'; have HX := Lib.hid hx; have HY := Lib.hid hy; have HR := Lib.hid hr; have HE := Lib.hid he
  have HSZ := Lib.hid (show ∀ x ∈ [s, t], x.size ≤ 1000000 by intro x h; simp at h; rcases h with rfl | rfl; (have := hx.size; omega); (have := hy.size; omega))
  clear h0' hb0 hx hy hr he hwl h0
  go_enter Tryz.func139, Tryz.ntmps139
  go_wp2_with (first
    | (go_at_call 101; refine (checked_any _ _ _ (Sl.pair w s t _) HSZ.out (by simp)).mono ?_; rintro e w1 ⟨v, rfl, rfl, hb1⟩; rw [H0.out]; have b1 := HB0.out.trans (hb1.mono (by simp)))
    | (go_at_call_of 103 (Value.string s); refine (read_any _ _ x HX.out.1 (by have := HX.out.size; omega)).mono ?_; rintro e w2 ⟨v, rfl, hn2, hb2⟩; have HN2 := Lib.hid hn2; clear hn2; have b2 := b1.trans (hb2.mono b1.size))
    | (go_at_call_of 103 (Value.string t); refine (read_any _ _ y HY.out.1 (by have := HY.out.size; omega)).mono ?_; rintro e w3 ⟨v, rfl, hn3, hb3⟩; have HN3 := Lib.hid hn3; clear hn3; have b3 := b2.trans (hb3.mono b2.size))
    | (go_at_call 153; refine (down_any _ _ _ x y (HN2.out.below hb3 (Nat.le_refl _)) HN3.out HY0.out (by have := HX.out.wl; omega) (by have := HY.out.wl; omega)).mono ?_; rintro e w5 ⟨v, rfl, ⟨_, _, rfl, ⟨mq, aq, nq, cq, rfl, hmq, hsq⟩, ⟨mr, ar, nr, cr, rfl, hmr, hsr⟩⟩, hb5⟩; have HM5 := Lib.hid hmq; have HS5 := Lib.hid hsq; clear hmq hsq hmr hsr; have b5 := b3.trans (hb5.mono b3.size))
    | (go_at_call 102; have b6 := ((Below.refl w5.heap.size w5).alloc (Nat.le_refl _) (.cells #[.bool mq, .slice aq nq cq] 138)).alloc (by simp) (.cells #[.bool mr, .slice ar nr cr] 138); have b7 := b5.trans (b6.mono b5.size); refine (result_any _ _ _ ⟨_, _, _, _, rfl, HM5.out, HS5.out.below b6 (Nat.le_refl _)⟩ (by have := HX.out.wl; have := HY.out.wl; have := HWL.out; omega) (HE.out.below b7 (Nat.le_refl _))).mono ?_; rintro e w6 ⟨v, rfl, rfl, hb6⟩; rw [HR.out]))
  go_ret2
  exact ⟨_, rfl, by rw [HR.out]; rfl, b7.trans (hb6.mono b7.size)⟩

end Go.Proofs.YtlnhocgjgmhfgaaGreatDoor

namespace Go.Proofs.YtlnhocgjgmhfgaaGreatDoor
open Go.RowKit

/-- The digits in a text, its sign left out. -/
def dl (l : List UInt8) : List Nat := (l.filter (fun c => c != 45)).map (fun c => c.toNat - 48)
theorem dl_nil : dl [] = [] := rfl
theorem dl_minus (l : List UInt8) : dl (45 :: l) = dl l := by simp [dl]
theorem dl_dig (c : UInt8) (l : List UInt8) (h : c ≠ 45) : dl (c :: l) = (c.toNat - 48) :: dl l := by simp [dl, h]
theorem dl_all (l : List UInt8) (h : l.all isDig = true) : dl l = l.map (fun c => c.toNat - 48) := by
  induction l with
  | nil => rfl
  | cons c l ih =>
    simp only [List.all_cons, Bool.and_eq_true] at h
    have hc : c ≠ 45 := by rintro rfl; exact absurd h.1 (by decide)
    rw [dl_dig _ _ hc, ih h.2, List.map_cons]
theorem dl_itoa (z : Int) : dl (Lib.itoa z) = (Lib.decDigits z.natAbs).map (fun c => c.toNat - 48) := by
  rw [itoa_cases]
  split
  · rw [dl_minus, dl_all _ (dec_all _)]
  · rw [dl_all _ (dec_all _)]
theorem val_rev (l : List UInt8) : val 10 ((l.map (fun c => c.toNat - 48)).reverse) = dv 0 l := by
  refine snoc_ind (P := fun l => val 10 ((l.map (fun c => c.toNat - 48)).reverse) = dv 0 l) rfl (fun l c ih => ?_) l
  rw [List.map_append, List.reverse_append, dv_append, dv_cons, dv_nil, ← ih]
  simp only [List.map_cons, List.map_nil, List.reverse_cons, List.reverse_nil, List.nil_append, List.singleton_append, val]
  omega
theorem dl_lt (z : Int) : ∀ d ∈ (dl (Lib.itoa z)).reverse, d < 10 := by
  intro d hd
  rw [List.mem_reverse, dl_itoa] at hd
  obtain ⟨c, hc, rfl⟩ := List.mem_map.1 hd
  have := dec_mem _ c hc
  omega
/-- The digits of an integer's text, without zeros at the end. -/
theorem trim_dl (z : Int) : trim ((dl (Lib.itoa z)).reverse) = digs 10 z.natAbs := by
  refine trim_of 10 _ _ (by omega) (dl_lt z) ?_
  rw [dl_itoa, val_rev, dv_dec]
/-- The bytes of digits, the first one of the text first. -/
def bytesOf (l : List Nat) : List UInt8 := (l.map (fun d => UInt8.ofNat (48 + d))).reverse
theorem bytesOf_nil : bytesOf [] = [] := rfl
theorem bytesOf_snoc (l : List Nat) (d : Nat) : bytesOf (l ++ [d]) = UInt8.ofNat (48 + d) :: bytesOf l := by simp [bytesOf]
theorem bytes_digs (n : Nat) (h : 0 < n) : bytesOf (digs 10 n) = Lib.decDigits n := by
  induction n using Nat.strongRecOn with
  | _ n ih =>
    rw [digs_pos 10 n (by omega) h]
    by_cases hn : n < 10
    · rw [Lib.decDigits_one hn, show n / 10 = 0 by omega, digs_zero, show n % 10 = n by omega]; rfl
    · have e := ih (n / 10) (by omega) (by omega)
      rw [Lib.decDigits, dif_neg hn, ← e]
      simp [bytesOf]
theorem digs10_len (n : Nat) : (digs 10 n).length ≤ (Lib.decDigits n).length := by
  rw [digs_len _ _ _ (by omega)]
  have h := dv_lt _ (dec_all n)
  rwa [dv_dec] at h
theorem digs10_len_eq (n : Nat) (h : 0 < n) : (digs 10 n).length = (Lib.decDigits n).length := by
  rw [← bytes_digs n h]; simp [bytesOf]
/-- What 'result' answers, in two parts. -/
def resT (z : Int) : ByteArray := if big z then ⟨#[]⟩ else txt z
def resK (z : Int) : Int := if big z then 11 else 0
theorem resV_eq (z : Int) : resV z = .tuple #[.string (resT z), .int .i64 (resK z)] := by
  unfold resV resT resK; cases big z <;> rfl
theorem resT_ok {z : Int} (h : big z = false) : resT z = txt z := by unfold resT; rw [h]; rfl
theorem resK_ok {z : Int} (h : big z = false) : resK z = 0 := by unfold resK; rw [h]; rfl
theorem big_digs (z : Int) : big z = decide (1024 < (digs 10 z.natAbs).length) := by
  unfold big
  rcases Nat.eq_zero_or_pos z.natAbs with h | h
  · rw [h, digs_zero, Lib.decDigits_one (by omega)]; rfl
  · rw [digs10_len_eq _ h]
theorem big_iff (z : Int) : big z = false ↔ z.natAbs < 10 ^ 1024 := by
  rw [big_digs, decide_eq_false_iff_not, Nat.not_lt, digs_len _ _ _ (by omega)]
theorem Good.of {z : Int} (h : big z = false) : Good (txt z) z := ⟨rfl, h⟩

/-- One round of the sum of digits: what is left goes on as the digits of a number. -/
theorem added_step (a b : List Nat) (i c : Nat) (os : List Nat) (N : Nat)
    (h : digs 10 N = os ++ digs 10 (c + val 10 (a.drop i) + val 10 (b.drop i))) (hp : 0 < c + val 10 (a.drop i) + val 10 (b.drop i)) :
    digs 10 N = (os ++ [(c + (a.getD i 0 + b.getD i 0)) % 10]) ++ digs 10 ((c + (a.getD i 0 + b.getD i 0)) / 10 + val 10 (a.drop (i + 1)) + val 10 (b.drop (i + 1))) := by
  have key : ∀ l : List Nat, val 10 (l.drop i) = l.getD i 0 + 10 * val 10 (l.drop (i + 1)) := by
    intro l
    by_cases hi : i < l.length
    · rw [List.drop_eq_getElem_cons hi, val]; simp [hi]
    · rw [List.drop_of_length_le (by omega), List.drop_of_length_le (by omega)]; simp [val, List.getElem?_eq_none (Nat.le_of_not_lt hi)]
  rw [h, digs_pos 10 _ (by omega) hp, key a, key b, List.append_assoc]
  congr 1
  have e1 : (c + (a.getD i 0 + 10 * val 10 (a.drop (i + 1))) + (b.getD i 0 + 10 * val 10 (b.drop (i + 1)))) % 10 = (c + (a.getD i 0 + b.getD i 0)) % 10 := by omega
  have e2 : (c + (a.getD i 0 + 10 * val 10 (a.drop (i + 1))) + (b.getD i 0 + 10 * val 10 (b.drop (i + 1)))) / 10 = (c + (a.getD i 0 + b.getD i 0)) / 10 + val 10 (a.drop (i + 1)) + val 10 (b.drop (i + 1)) := by omega
  rw [e1, e2]; rfl
theorem val_digs_drop (n i : Nat) : 0 < val 10 ((digs 10 n).drop i) ↔ i < (digs 10 n).length := by
  have key : ∀ (l : List Nat), l.getLast? ≠ some 0 → l ≠ [] → 0 < val 10 l := by
    intro l
    induction l with
    | nil => intro _ h; exact absurd rfl h
    | cons a l ih =>
      intro h _
      rw [val]
      by_cases hl : l = []
      · subst hl
        have : a ≠ 0 := by simpa using h
        simp [val]; omega
      · have := ih (by rw [List.getLast?_cons] at h; cases hg : l.getLast? with
          | none => simp
          | some b => rw [hg] at h; simpa using h) hl
        omega
  constructor
  · intro h
    rcases Nat.lt_or_ge i (digs 10 n).length with hi | hi
    · exact hi
    · rw [List.drop_of_length_le hi] at h; simp [val] at h
  · intro h
    refine key _ ?_ (by simp; omega)
    have hl := digs_last 10 n (by omega)
    rw [List.getLast?_drop, if_neg (by omega)]
    exact hl
end Go.Proofs.YtlnhocgjgmhfgaaGreatDoor
namespace Go.Proofs.YtlnhocgjgmhfgaaGreatDoor
open Go.RowKit
set_option maxRecDepth 100000

theorem elemInt : ElemOk Tryz.prog 36 3 (.int .i64 0) 1 8 :=
  ⟨Tryz.underlying36, info_parts (by kernel_rfl : (Tryz.prog.info? 3).map (fun i => (i.zero, i.size, i.bytes)) = some (some (.int .i64 0), 1, 8)), rfl, by decide, by kernel_rfl, fun _ => by kernel_rfl⟩

theorem itoa_ne (z : Int) : Lib.itoa z ≠ [] := by
  rw [itoa_cases]; split
  · simp
  · exact dec_ne _
end Go.Proofs.YtlnhocgjgmhfgaaGreatDoor
