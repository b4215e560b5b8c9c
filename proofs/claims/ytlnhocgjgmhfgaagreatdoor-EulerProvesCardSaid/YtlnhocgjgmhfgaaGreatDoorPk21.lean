/- The walks of integer's products and sums of numbers with a sign. -/
import Derived.Test.YtlnhocgjgmhfgaaGreatDoorPk20
namespace Go.Proofs.YtlnhocgjgmhfgaaGreatDoor
open Go.RowKit
set_option maxRecDepth 100000

theorem wl_mul (x y : Int) : wl (x * y) ≤ wl x + wl y := by unfold wl; rw [Int.natAbs_mul]; exact digs_len_mul _ _ _ (by omega)
theorem wl_add (x y : Int) : wl (x + y) ≤ max (wl x) (wl y) + 1 := by
  unfold wl
  exact Nat.le_trans (digs_len_mono _ (by omega) (Int.natAbs_add_le x y)) (digs_len_add _ _ _ (by omega))
theorem wl_neg (x : Int) : wl (-x) = wl x := by unfold wl; rw [Int.natAbs_neg]
theorem sg_mul (x y : Int) : sg (decide (x < 0) != decide (y < 0)) (x.natAbs * y.natAbs) = x * y := by
  rcases Int.lt_or_le x 0 with h | h <;> rcases Int.lt_or_le y 0 with h' | h'
  · have e : x * y = ((x.natAbs * y.natAbs : Nat) : Int) := by rw [Int.natCast_mul, Int.ofNat_natAbs_of_nonpos (by omega), Int.ofNat_natAbs_of_nonpos (by omega), Int.neg_mul_neg]
    simp [sg, h, h', e]
  · have e : x * y = -((x.natAbs * y.natAbs : Nat) : Int) := by rw [Int.natCast_mul, Int.ofNat_natAbs_of_nonpos (by omega), Int.natAbs_of_nonneg h', Int.neg_mul, Int.neg_neg]
    simp [sg, h, show ¬ y < 0 by omega, e]
  · have e : x * y = -((x.natAbs * y.natAbs : Nat) : Int) := by rw [Int.natCast_mul, Int.natAbs_of_nonneg h, Int.ofNat_natAbs_of_nonpos (by omega), Int.mul_neg, Int.neg_neg]
    simp [sg, h', show ¬ x < 0 by omega, e]
  · have e : x * y = ((x.natAbs * y.natAbs : Nat) : Int) := by rw [Int.natCast_mul, Int.natAbs_of_nonneg h, Int.natAbs_of_nonneg h']
    simp [sg, show ¬ x < 0 by omega, show ¬ y < 0 by omega, e]

/-- Two numbers in boxes, and a box for the result. -/
def Boxes (w : World) (m : Bool) (a : Option Addr) (n c : Nat) (m' : Bool) (a' : Option Addr) (n' c' : Nat) (w' : World) : Prop :=
  Below w.heap.size w w' ∧ Blk w' w.heap.size [.bool m, .slice a n c] 138 ∧ Blk w' (w.heap.size + 1) [.bool m', .slice a' n' c'] 138 ∧
    ∃ p q, Blk w' (w.heap.size + 1 + 1) [p, q] 138 ∧ (∀ n, p ≠ eU n) ∧ (∀ n, q ≠ eU n)
section
variable {w w1 w2 : World} {m : Bool} {a : Option Addr} {n c : Nat} {m' : Bool} {a' : Option Addr} {n' c' : Nat}
theorem Boxes.keep (h : Boxes w m a n c m' a' n' c' w1) (hb : Below w1.heap.size w1 w2) : Boxes w m a n c m' a' n' c' w2 := by
  obtain ⟨h1, h2, h3, p, q, h4, hp, hq⟩ := h
  exact ⟨h1.trans (hb.mono h1.size), h2.below hb (Nat.le_refl _), h3.below hb (Nat.le_refl _), p, q, h4.below hb (Nat.le_refl _), hp, hq⟩
theorem Boxes.below' {F : Prop} (h : Boxes w m a n c m' a' n' c' w1 ∧ F) : Below w.heap.size w w1 := h.1.1
theorem Boxes.made (w : World) (m : Bool) (a : Option Addr) (n c : Nat) (m' : Bool) (a' : Option Addr) (n' c' : Nat) :
    Boxes w m a n c m' a' n' c' (((w.alloc (.cells #[.bool m, .slice a n c] 138)).alloc (.cells #[.bool m', .slice a' n' c'] 138)).alloc (.cells #[.bool false, .slice none 0 0] 138)) := by
  have h1 := Blk.new w [.bool m, .slice a n c] 138
  have h2 := Blk.new (w.alloc (.cells #[.bool m, .slice a n c] 138)) [.bool m', .slice a' n' c'] 138
  have h3 := Blk.new ((w.alloc (.cells #[.bool m, .slice a n c] 138)).alloc (.cells #[.bool m', .slice a' n' c'] 138)) [.bool false, .slice none 0 0] 138
  rw [World.size_alloc] at h2
  rw [World.size_alloc, World.size_alloc] at h3
  exact ⟨(((Below.refl _ w).alloc (Nat.le_refl _) _).alloc (by simp) _).alloc (by simp; omega) _, (h1.alloc _).alloc _, h2.alloc _, _, _, h3, by simp [eU], by simp [eU]⟩
theorem Boxes.drew (h : Boxes w m a n c m' a' n' c' w1) : Boxes w m a n c m' a' n' c' w1.drew := ⟨h.1.drew, h.2.1, h.2.2.1, h.2.2.2⟩
theorem Boxes.store (h : Boxes w m a n c m' a' n' c' w1) (b : Bool) (v : Option Addr) (k l : Nat) : Boxes w m a n c m' a' n' c' ((w1.setCell ⟨w.heap.size + 1 + 1, 0, none⟩ (.bool b)).setCell ⟨w.heap.size + 1 + 1, 1, none⟩ (.slice v k l)) := by
  obtain ⟨h1, h2, h3, p, q, h4, hp, hq⟩ := h
  exact ⟨(h1.setCell (by simp; omega) _).setCell (by simp; omega) _, (h2.setCell (by omega) _).setCell (by omega) _, (h3.setCell (by omega) _).setCell (by omega) _, _, _, (h4.set 0 _).set 1 _, by simp [eU], by simp [eU]⟩
/-- What the walk wants of the two arguments. -/
theorem Boxes.facts (h : Boxes w m a n c m' a' n' c' w1) :
    w1.cell? ⟨w.heap.size, 0, none⟩ = some (.bool m) ∧ w1.cell? ⟨w.heap.size, 1, none⟩ = some (.slice a n c) ∧ w1.cell? ⟨w.heap.size + 1, 0, none⟩ = some (.bool m') ∧ w1.cell? ⟨w.heap.size + 1, 1, none⟩ = some (.slice a' n' c') :=
  ⟨h.2.1.cell 0 _ rfl, h.2.1.cell 1 _ rfl, h.2.2.1.cell 0 _ rfl, h.2.2.1.cell 1 _ rfl⟩
/-- .. and of the result's box. -/
theorem Boxes.res (h : Boxes w m a n c m' a' n' c' w1) : ∃ p q, w1.cell? ⟨w.heap.size + 1 + 1, 0, none⟩ = some p ∧ w1.cell? ⟨w.heap.size + 1 + 1, 1, none⟩ = some q ∧ w1.frozen? ⟨w.heap.size + 1 + 1, 0, none⟩ = false ∧ w1.frozen? ⟨w.heap.size + 1 + 1, 1, none⟩ = false := by
  obtain ⟨h1, h2, h3, p, q, h4, hp, hq⟩ := h
  exact ⟨p, q, h4.cell 0 _ rfl, h4.cell 1 _ rfl, h4.free 0, h4.free 1⟩
/-- The result, stored. -/
theorem Boxes.stored {r : Bool} {v : Option Addr} {k l : Nat} {xs : List Nat} (h : Boxes w m a n c m' a' n' c' w1) (hs : Sl eU w1 (.slice v k l) xs) :
    Sl eU ((w1.setCell ⟨w.heap.size + 1 + 1, 0, none⟩ (.bool r)).setCell ⟨w.heap.size + 1 + 1, 1, none⟩ (.slice v k l)) (.slice v k l) xs ∧
    ((w1.setCell ⟨w.heap.size + 1 + 1, 0, none⟩ (.bool r)).setCell ⟨w.heap.size + 1 + 1, 1, none⟩ (.slice v k l)).cell? ⟨w.heap.size + 1 + 1, 0, none⟩ = some (.bool r) ∧
    ((w1.setCell ⟨w.heap.size + 1 + 1, 0, none⟩ (.bool r)).setCell ⟨w.heap.size + 1 + 1, 1, none⟩ (.slice v k l)).cell? ⟨w.heap.size + 1 + 1, 1, none⟩ = some (.slice v k l) ∧
    Below w.heap.size w ((w1.setCell ⟨w.heap.size + 1 + 1, 0, none⟩ (.bool r)).setCell ⟨w.heap.size + 1 + 1, 1, none⟩ (.slice v k l)) := by
  have hst := (h.store r v k l).1
  obtain ⟨h1, h2, h3, p, q, h4, hp, hq⟩ := h
  obtain ⟨g1, g2, g3⟩ := store2 h4 hp hq r v k l hs
  exact ⟨g1, g2, g3, hst⟩
end

set_option maxHeartbeats 1000000 in
theorem product_any (w : World) (x y : Value) (s t : Int) (hx : Num w x s) (hy : Num w y t) (hl : wl s + wl t ≤ 1000000000000) :
    Calls Tryz.prog 78 #[x, y] w (Rets fun v w' => Num w' v (s * t) ∧ Below w.heap.size w w') := by
  obtain ⟨m, a, n, c, rfl, hm, hs⟩ := hx
  obtain ⟨m', a', n', c', rfl, hm', hs'⟩ := hy
  have HX := Lib.hid hs; have HY := Lib.hid hs'
  have e2 : sg (m != m') (s.natAbs * t.natAbs) = s * t := by rw [hm, hm']; exact sg_mul s t
  have E2 := Lib.hid e2
  have HBX := Lib.hid (Boxes.made w m a n c m' a' n' c')
  clear hs hs' e2 hm hm'
  unfold wl at hl
  go_enter Tryz.func78, Tryz.ntmps78
  go_wp2_with fail
  go_region_held3 (fun w' => Boxes w m a n c m' a' n' c' w' ∧ (w'.cell? ⟨w.heap.size, 0, none⟩ = some (.bool m) ∧ w'.cell? ⟨w.heap.size, 1, none⟩ = some (.slice a n c) ∧ w'.cell? ⟨w.heap.size + 1, 0, none⟩ = some (.bool m') ∧ w'.cell? ⟨w.heap.size + 1, 1, none⟩ = some (.slice a' n' c')))
    (first
      | exact ⟨HBX.out.drew, HBX.out.drew.facts⟩
      | (have hk := Boxes.keep (And.left (by assumption)) (by assumption); exact ⟨hk, hk.facts⟩)
      | exact ⟨Boxes.store (And.left (by assumption)) _ _ _ _, (Boxes.store (And.left (by assumption)) _ _ _ _).facts⟩)
    (first
      | (go_at_call 105; refine (times_any _ _ _ _ _ (HX.out.below (Boxes.below' (by assumption)) (Nat.le_refl _)) (HY.out.below (Boxes.below' (by assumption)) (Nat.le_refl _)) (digs_lt _ _ (by omega)) (digs_lt _ _ (by omega)) (by omega)).mono ?_; rintro e w' ⟨v, rfl, hv, hb⟩; rw [val_digs _ _ (by omega), val_digs _ _ (by omega)] at hv)
      | (go_at_call 104; refine (signed_any _ _ _ _ (by assumption)).mono ?_; rintro e w' ⟨v, rfl, ⟨m1, a1, n1, c1, rfl, hm1, hs1⟩, hb⟩; have HM1 := Lib.hid hm1; clear hm1; have hk := Boxes.keep (And.left (by assumption)) hb; obtain ⟨p, q, hk0, hk1, hf0, hf1⟩ := hk.res))
  all_goals
    have e3 : sg (!(m == m')) (s.natAbs * t.natAbs) = s * t := E2.out
    rw [e3] at hs1 HM1
    obtain ⟨g1, r0, r1, hst⟩ := hk.stored (r := m1) hs1
    have HG := Lib.hid g1; have HST := Lib.hid hst
    clear g1 hst e3 hs1
    go_wp2
    refine bodyPost_ret (v := .agg #[.bool m1, .slice a1 n1 c1]) (by simp [results, Tryz.results78, go_sem, r0, r1]) rfl ?_
    exact ⟨_, rfl, ⟨_, _, _, _, rfl, HM1.out, HG.out⟩, HST.out⟩

theorem natCmp (x y : Int) (h : decide (x < 0) = decide (y < 0)) : sg (decide (x < 0)) (x.natAbs + y.natAbs) = x + y := by
  by_cases h1 : x < 0 <;> by_cases h2 : y < 0 <;> simp [h1, h2, sg] at h ⊢ <;> omega
theorem natCmp2 (x y : Int) (h : decide (x < 0) ≠ decide (y < 0)) (hle : y.natAbs ≤ x.natAbs) : sg (decide (x < 0)) (x.natAbs - y.natAbs) = x + y := by
  by_cases h1 : x < 0 <;> by_cases h2 : y < 0 <;> simp [h1, h2, sg] at h ⊢ <;> omega
theorem natCmp3 (x y : Int) (h : decide (x < 0) ≠ decide (y < 0)) (hle : x.natAbs ≤ y.natAbs) : sg (decide (y < 0)) (y.natAbs - x.natAbs) = x + y := by
  by_cases h1 : x < 0 <;> by_cases h2 : y < 0 <;> simp [h1, h2, sg] at h ⊢ <;> omega

set_option maxHeartbeats 1000000 in
theorem sum_same (w : World) (x y : Value) (s t : Int) (hx : Num w x s) (hy : Num w y t) (hl : wl s ≤ 1000000000000) (hl' : wl t ≤ 1000000000000) (hst : decide (s < 0) = decide (t < 0)) :
    Calls Tryz.prog 152 #[x, y] w (Rets fun v w' => Num w' v (s + t) ∧ Below w.heap.size w w') := by
  obtain ⟨m, a, n, c, rfl, hm, hs⟩ := hx
  obtain ⟨m', a', n', c', rfl, hm', hs'⟩ := hy
  have HX := Lib.hid hs; have HY := Lib.hid hs'
  have e2 : sg m (s.natAbs + t.natAbs) = s + t := by rw [hm]; exact natCmp s t hst
  obtain rfl : m = m' := by rw [hm, hm', hst]
  have E2 := Lib.hid e2
  have HBX := Lib.hid (Boxes.made w m a n c m a' n' c')
  clear hs hs' e2 hm hm' hst
  unfold wl at hl hl'
  go_enter Tryz.func152, Tryz.ntmps152
  go_wp2_with fail
  go_region_held3 (fun w' => Boxes w m a n c m a' n' c' w' ∧ (w'.cell? ⟨w.heap.size, 0, none⟩ = some (.bool m) ∧ w'.cell? ⟨w.heap.size, 1, none⟩ = some (.slice a n c) ∧ w'.cell? ⟨w.heap.size + 1, 0, none⟩ = some (.bool m) ∧ w'.cell? ⟨w.heap.size + 1, 1, none⟩ = some (.slice a' n' c')))
    (first
      | exact ⟨HBX.out.drew, HBX.out.drew.facts⟩
      | (have hk := Boxes.keep (And.left (by assumption)) (by assumption); exact ⟨hk, hk.facts⟩)
      | exact ⟨Boxes.store (And.left (by assumption)) _ _ _ _, (Boxes.store (And.left (by assumption)) _ _ _ _).facts⟩)
    (first
      | (go_at_call 167; refine (plus_any _ _ _ _ _ (HX.out.below (Boxes.below' (by assumption)) (Nat.le_refl _)) (HY.out.below (Boxes.below' (by assumption)) (Nat.le_refl _)) (digs_lt _ _ (by omega)) (digs_lt _ _ (by omega)) (by omega) (by omega)).mono ?_; rintro e w' ⟨v, rfl, hv, hb⟩; rw [val_digs _ _ (by omega), val_digs _ _ (by omega)] at hv)
      | (go_at_call 104; refine (signed_any _ _ _ _ (by assumption)).mono ?_; rintro e w' ⟨v, rfl, ⟨m1, a1, n1, c1, rfl, hm1, hs1⟩, hb⟩; have HM1 := Lib.hid hm1; clear hm1; have hk := Boxes.keep (And.left (by assumption)) hb; obtain ⟨p, q, hk0, hk1, hf0, hf1⟩ := hk.res))
  all_goals
    rw [E2.out] at hs1 HM1
    obtain ⟨g1, r0, r1, hst⟩ := hk.stored (r := m1) hs1
    have HG := Lib.hid g1; have HST := Lib.hid hst
    clear g1 hst hs1
    go_wp2
    refine bodyPost_ret (v := .agg #[.bool m1, .slice a1 n1 c1]) (by simp [results, Tryz.results152, go_sem, r0, r1]) rfl ?_
    exact ⟨_, rfl, ⟨_, _, _, _, rfl, HM1.out, HG.out⟩, HST.out⟩

set_option maxHeartbeats 1000000 in
theorem sum_other (w : World) (x y : Value) (s t : Int) (hx : Num w x s) (hy : Num w y t) (hl : wl s ≤ 1000000000000) (hl' : wl t ≤ 1000000000000) (hst : decide (s < 0) ≠ decide (t < 0)) :
    Calls Tryz.prog 152 #[x, y] w (Rets fun v w' => Num w' v (s + t) ∧ Below w.heap.size w w') := by
  obtain ⟨m, a, n, c, rfl, hm, hs⟩ := hx
  obtain ⟨m', a', n', c', rfl, hm', hs'⟩ := hy
  have HX := Lib.hid hs; have HY := Lib.hid hs'
  obtain rfl : m' = !m := by rw [hm, hm']; cases h1 : decide (s < 0) <;> cases h2 : decide (t < 0) <;> simp_all
  have HBX := Lib.hid (Boxes.made w m a n c (!m) a' n' c')
  have hmm : (m == !m) = false := by cases m <;> rfl
  have HM := Lib.hid hm; have HM' := Lib.hid hm'; have HST0 := Lib.hid hst
  clear hs hs' hm hm' hst
  unfold wl at hl hl'
  have vx := val_digs 1000000000 s.natAbs (by omega)
  have vy := val_digs 1000000000 t.natAbs (by omega)
  have HVX := Lib.hid vx; have HVY := Lib.hid vy
  clear vx vy
  go_enter Tryz.func152, Tryz.ntmps152
  go_wp2_with fail
  refine (compare_any _ _ _ _ _ (HX.out.below HBX.out.1 (Nat.le_refl _)) (HY.out.below HBX.out.1 (Nat.le_refl _)) (by omega) (by omega)).mono ?_
  rintro e w1 ⟨v, rfl, ⟨r, rfl, hr, -⟩, hb1⟩
  have hkk := HBX.out.keep hb1
  clear HBX
  have HBX := Lib.hid hkk
  have HR := Lib.hid hr
  clear hr hb1 hkk
  by_cases hlt : s.natAbs < t.natAbs
  · have hr1 : ¬ 0 ≤ r := by have := HR.out.2 hlt; omega
    have hle2 : (digs 1000000000 s.natAbs).length ≤ (digs 1000000000 t.natAbs).length := digs_len_mono _ (by omega) (by omega)
    have hvle : val 1000000000 (digs 1000000000 s.natAbs) ≤ val 1000000000 (digs 1000000000 t.natAbs) := by rw [HVX.out, HVY.out]; omega
    have HVLE := Lib.hid hvle; clear hvle
    have e2 : sg (!m) (t.natAbs - s.natAbs) = s + t := by rw [HM'.out]; exact natCmp3 s t HST0.out (by omega)
    have E2 := Lib.hid e2; clear e2
    go_wp2_with fail
    go_region_held3 (fun w' => Boxes w m a n c (!m) a' n' c' w' ∧ (w'.cell? ⟨w.heap.size, 0, none⟩ = some (.bool m) ∧ w'.cell? ⟨w.heap.size, 1, none⟩ = some (.slice a n c) ∧ w'.cell? ⟨w.heap.size + 1, 0, none⟩ = some (.bool (!m)) ∧ w'.cell? ⟨w.heap.size + 1, 1, none⟩ = some (.slice a' n' c')))
      (first
        | exact ⟨HBX.out.drew, HBX.out.drew.facts⟩
        | (have hk := Boxes.keep (And.left (by assumption)) (by assumption); exact ⟨hk, hk.facts⟩)
        | exact ⟨Boxes.store (And.left (by assumption)) _ _ _ _, (Boxes.store (And.left (by assumption)) _ _ _ _).facts⟩)
      (first
        | (go_at_call 169; refine (less_any _ _ _ _ _ (HY.out.below (Boxes.below' (by assumption)) (Nat.le_refl _)) (HX.out.below (Boxes.below' (by assumption)) (Nat.le_refl _)) (digs_lt _ _ (by omega)) (digs_lt _ _ (by omega)) (by omega) (by omega) HVLE.out).mono ?_; rintro e w' ⟨v, rfl, hv, hb⟩; rw [val_digs _ _ (by omega), val_digs _ _ (by omega)] at hv)
        | (go_at_call 104; refine (signed_any _ _ _ _ (by assumption)).mono ?_; rintro e w' ⟨v, rfl, ⟨m1, a1, n1, c1, rfl, hm1, hs1⟩, hb⟩; have HM1 := Lib.hid hm1; clear hm1; have hk := Boxes.keep (And.left (by assumption)) hb; obtain ⟨p, q, hk0, hk1, hf0, hf1⟩ := hk.res))
    all_goals
      rw [E2.out] at hs1 HM1
      obtain ⟨g1, r0, r1, hst⟩ := hk.stored (r := m1) hs1
      have HG := Lib.hid g1; have HST := Lib.hid hst
      clear g1 hst hs1
      go_wp2
      refine bodyPost_ret (v := .agg #[.bool m1, .slice a1 n1 c1]) (by simp [results, Tryz.results152, go_sem, r0, r1]) rfl ?_
      exact ⟨_, rfl, ⟨_, _, _, _, rfl, HM1.out, HG.out⟩, HST.out⟩
  · have hr1 : 0 ≤ r := by have := HR.out.1; omega
    have hle2 : (digs 1000000000 t.natAbs).length ≤ (digs 1000000000 s.natAbs).length := digs_len_mono _ (by omega) (by omega)
    have hvle : val 1000000000 (digs 1000000000 t.natAbs) ≤ val 1000000000 (digs 1000000000 s.natAbs) := by rw [HVX.out, HVY.out]; omega
    have HVLE := Lib.hid hvle; clear hvle
    have e2 : sg m (s.natAbs - t.natAbs) = s + t := by rw [HM.out]; exact natCmp2 s t HST0.out (by omega)
    have E2 := Lib.hid e2; clear e2
    go_wp2_with fail
    go_region_held3 (fun w' => Boxes w m a n c (!m) a' n' c' w' ∧ (w'.cell? ⟨w.heap.size, 0, none⟩ = some (.bool m) ∧ w'.cell? ⟨w.heap.size, 1, none⟩ = some (.slice a n c) ∧ w'.cell? ⟨w.heap.size + 1, 0, none⟩ = some (.bool (!m)) ∧ w'.cell? ⟨w.heap.size + 1, 1, none⟩ = some (.slice a' n' c')))
      (first
        | exact ⟨HBX.out.drew, HBX.out.drew.facts⟩
        | (have hk := Boxes.keep (And.left (by assumption)) (by assumption); exact ⟨hk, hk.facts⟩)
        | exact ⟨Boxes.store (And.left (by assumption)) _ _ _ _, (Boxes.store (And.left (by assumption)) _ _ _ _).facts⟩)
      (first
        | (go_at_call 169; refine (less_any _ _ _ _ _ (HX.out.below (Boxes.below' (by assumption)) (Nat.le_refl _)) (HY.out.below (Boxes.below' (by assumption)) (Nat.le_refl _)) (digs_lt _ _ (by omega)) (digs_lt _ _ (by omega)) (by omega) (by omega) HVLE.out).mono ?_; rintro e w' ⟨v, rfl, hv, hb⟩; rw [val_digs _ _ (by omega), val_digs _ _ (by omega)] at hv)
        | (go_at_call 104; refine (signed_any _ _ _ _ (by assumption)).mono ?_; rintro e w' ⟨v, rfl, ⟨m1, a1, n1, c1, rfl, hm1, hs1⟩, hb⟩; have HM1 := Lib.hid hm1; clear hm1; have hk := Boxes.keep (And.left (by assumption)) hb; obtain ⟨p, q, hk0, hk1, hf0, hf1⟩ := hk.res))
    all_goals
      rw [E2.out] at hs1 HM1
      obtain ⟨g1, r0, r1, hst⟩ := hk.stored (r := m1) hs1
      have HG := Lib.hid g1; have HST := Lib.hid hst
      clear g1 hst hs1
      go_wp2
      refine bodyPost_ret (v := .agg #[.bool m1, .slice a1 n1 c1]) (by simp [results, Tryz.results152, go_sem, r0, r1]) rfl ?_
      exact ⟨_, rfl, ⟨_, _, _, _, rfl, HM1.out, HG.out⟩, HST.out⟩

theorem sum_any (w : World) (x y : Value) (s t : Int) (hx : Num w x s) (hy : Num w y t) (hl : wl s ≤ 1000000000000) (hl' : wl t ≤ 1000000000000) :
    Calls Tryz.prog 152 #[x, y] w (Rets fun v w' => Num w' v (s + t) ∧ Below w.heap.size w w') := by
  by_cases h : decide (s < 0) = decide (t < 0)
  · exact sum_same w x y s t hx hy hl hl' h
  · exact sum_other w x y s t hx hy hl hl' h
end Go.Proofs.YtlnhocgjgmhfgaaGreatDoor
