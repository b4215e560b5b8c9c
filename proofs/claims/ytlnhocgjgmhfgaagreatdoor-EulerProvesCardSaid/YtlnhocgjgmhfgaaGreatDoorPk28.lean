/- The walk of integer's Small. The walks of the reference's Small and Of. The walks of integer's Add and Mul. The walk of integer's Sub. The walk of matrix's elimination: one entry, one column. The walks of the reference's Without, Turned, Of, One and Least of matrices. The walk of the reference's Det. -/
import Derived.Test.YtlnhocgjgmhfgaaGreatDoorPk25
import Derived.Lib.AtoiAllCases
import Derived.Test.YtlnhocgjgmhfgaaGreatDoorPk26
import Derived.Test.YtlnhocgjgmhfgaaGreatDoorPk27
import Derived.Test.YtlnhocgjgmhfgaaGreatDoorPk9
namespace Go.Proofs.YtlnhocgjgmhfgaaGreatDoor
open Go.RowKit
set_option maxRecDepth 100000

theorem dv_ge (l : List UInt8) : ∀ acc, acc ≤ dv acc l := by
  induction l with
  | nil => intro acc; rw [dv_nil]; exact Nat.le_refl _
  | cons c l ih => intro acc; rw [dv_cons]; have := ih (acc * 10 + (c.toNat - 48)); omega
theorem parse10 (l : List UInt8) (h : l.all isDig = true) : ∀ acc, acc < 18446744073709551616 → Lib.parseUint10 acc l = if dv acc l < 18446744073709551616 then .ok (dv acc l) else .range := by
  induction l with
  | nil => intro acc ha; rw [dv_nil, if_pos ha]; rfl
  | cons c l ih =>
    intro acc ha
    simp only [List.all_cons, Bool.and_eq_true] at h
    have hx : 48 ≤ c.toNat ∧ c.toNat ≤ 57 := by have := h.1; simp [isDig] at this; exact ⟨this.1, this.2⟩
    have hge := dv_ge l (acc * 10 + (c.toNat - 48))
    rw [Lib.parseUint10, if_pos hx, dv_cons]
    by_cases h1 : 1844674407370955162 ≤ acc
    · rw [if_pos h1, if_neg (by omega)]
    · rw [if_neg h1]
      by_cases h2 : 18446744073709551616 ≤ acc * 10 + (c.toNat - 48)
      · rw [if_pos h2, if_neg (by omega)]
      · rw [if_neg h2]; exact ih h.2 _ (by omega)
theorem mag_dec (n : Nat) : Lib.parseMag (Lib.decDigits n) = if n < 18446744073709551616 then .ok n else .range := by
  unfold Lib.parseMag
  rw [if_neg (dec_ne n), parse10 _ (dec_all n) 0 (by omega), dv_dec]
/-- Is it an int? -/
def isI64 (z : Int) : Bool := decide (-9223372036854775808 ≤ z) && decide (z ≤ 9223372036854775807)
theorem atoi_itoa (z : Int) : Lib.atoiAll (Lib.itoa z) = if isI64 z then .ok z else .range := by
  rw [itoa_cases]
  by_cases h : z < 0
  · rw [if_pos h, Lib.atoiAll_minus, mag_dec]
    by_cases h1 : z.natAbs < 18446744073709551616
    · rw [if_pos h1]
      simp only [Lib.signed]
      by_cases h2 : 9223372036854775808 < z.natAbs
      · rw [if_pos h2, if_neg (by simp [isI64]; omega)]
      · rw [if_neg h2, if_pos (by simp [isI64]; omega)]; congr 1; omega
    · rw [if_neg h1, if_neg (by simp [isI64]; omega)]; rfl
  · rw [if_neg h]
    have hm := dec_mem z.natAbs
    have he := mag_dec z.natAbs
    cases e : Lib.decDigits z.natAbs with
    | nil => exact absurd e (dec_ne _)
    | cons c r =>
      rw [e] at hm he
      have := hm c (by simp)
      rw [Lib.atoiAll_plain c r (by omega) (by omega), he]
      by_cases h1 : z.natAbs < 18446744073709551616
      · rw [if_pos h1]
        simp only [Lib.signless]
        by_cases h2 : 9223372036854775808 ≤ z.natAbs
        · rw [if_pos h2, if_neg (by simp [isI64]; omega)]
        · rw [if_neg h2, if_pos (by simp [isI64]; omega)]; congr 1; omega
      · rw [if_neg h1, if_neg (by simp [isI64]; omega)]; rfl

end Go.Proofs.YtlnhocgjgmhfgaaGreatDoor

namespace Go.Proofs.YtlnhocgjgmhfgaaGreatDoor
open Go.RowKit
set_option maxRecDepth 100000

theorem gmax : Good ⟨#[57, 50, 50, 51, 51, 55, 50, 48, 51, 54, 56, 53, 52, 55, 55, 53, 56, 48, 55]⟩ 9223372036854775807 := good_lit (by decide) (by decide)
theorem gmin : Good ⟨#[45, 57, 50, 50, 51, 51, 55, 50, 48, 51, 54, 56, 53, 52, 55, 55, 53, 56, 48, 56]⟩ (-9223372036854775808) := good_lit (by decide) (by decide)
theorem val_drop_cons (xs : List Nat) (k : Nat) (h : k < xs.length) : val 10 (xs.drop k) = xs[k] + 10 * val 10 (xs.drop (k + 1)) := by
  rw [List.drop_eq_getElem_cons h]; rfl
theorem val_drop_le (xs : List Nat) : ∀ k, val 10 (xs.drop k) ≤ val 10 xs := by
  induction xs with
  | nil => intro k; simp
  | cons a l ih =>
    intro k
    cases k with
    | zero => simp
    | succ k => rw [List.drop_succ_cons]; have := ih k; simp only [val]; omega
theorem digs_split (n k : Nat) (os : List Nat) (hk : 0 < k) (h : digs 10 n = os ++ digs 10 k) : digs 10 n = (os ++ [k % 10]) ++ digs 10 (k / 10) := by
  rw [h, digs_pos 10 k (by omega) hk, List.append_assoc]; rfl
end Go.Proofs.YtlnhocgjgmhfgaaGreatDoor

namespace Go.Proofs.YtlnhocgjgmhfgaaGreatDoor
open Go.RowKit
set_option maxRecDepth 100000

set_option maxHeartbeats 400000 in
theorem both_err (w : World) (s t : ByteArray) (f : Value) (hs : s.size ≤ 1000000) (ht : t.size ≤ 1000000) (h : chks [s, t] ≠ 0) :
    Calls Tryz.prog 77 #[.string s, .string t, f] w (Rets fun v w' => v = .tuple #[.string ⟨#[]⟩, .int .i64 (chks [s, t])] ∧ Below w.heap.size w w') := by
  have hne : (chks [s, t] != 0) = true := by simp [h]
  have hb0 : Below w.heap.size w (w.alloc (.cells #[.string s, .string t] 74)) := (Below.refl _ w).alloc (Nat.le_refl _) _
  have HB0 := Lib.hid hb0
  have HSZ := Lib.hid (show ∀ x ∈ [s, t], x.size ≤ 1000000 by intro x hx; simp at hx; rcases hx with rfl | rfl; exact hs; exact ht)
  clear h hb0
  go_enter Tryz.func77, Tryz.ntmps77
  go_wp2_with (go_at_call 101; refine (checked_any _ _ _ (Sl.pair w s t _) HSZ.out (by simp)).mono ?_; rintro e w' ⟨v, rfl, rfl, hb⟩)
  go_ret2
  exact ⟨_, rfl, rfl, HB0.out.trans (hb.mono (by simp))⟩

set_option maxHeartbeats 400000 in
theorem both_sum (w : World) (s t : ByteArray) (x y : Int) (hx : Good s x) (hy : Good t y) (he : Env w) :
    Calls Tryz.prog 77 #[.string s, .string t, .func (.func 152) #[] #[]] w (Rets fun v w' => v = resV (x + y) ∧ Below w.heap.size w w') := by
  have h0 : chks [s, t] = 0 := by rw [chks_pair, hx.chk, hy.chk]; rfl
  have hb0 : Below w.heap.size w (w.alloc (.cells #[.string s, .string t] 74)) := (Below.refl _ w).alloc (Nat.le_refl _) _
  obtain ⟨tt, k, hr, -, -⟩ := resV_cases (x + y)
  have hwl := wl_add x y
  have HWL := Lib.hid hwl
  have HB0 := Lib.hid hb0; have H0 := Lib.hid h0; have HX := Lib.hid hx; have HY := Lib.hid hy; have HR := Lib.hid hr; have HE := Lib.hid he
  have HSZ := Lib.hid (show ∀ x ∈ [s, t], x.size ≤ 1000000 by intro x h; simp at h; rcases h with rfl | rfl; (have := hx.size; omega); (have := hy.size; omega))
  clear h0 hb0 hx hy hr he hwl
  go_enter Tryz.func77, Tryz.ntmps77
  go_wp2_with (first
    | (go_at_call 101; refine (checked_any _ _ _ (Sl.pair w s t _) HSZ.out (by simp)).mono ?_; rintro e w1 ⟨v, rfl, rfl, hb1⟩; rw [H0.out]; have b1 := HB0.out.trans (hb1.mono (by simp)))
    | (go_at_call_of 103 (Value.string s); refine (read_any _ _ x HX.out.1 (by have := HX.out.size; omega)).mono ?_; rintro e w2 ⟨v, rfl, hn2, hb2⟩; have HN2 := Lib.hid hn2; clear hn2; have b2 := b1.trans (hb2.mono b1.size))
    | (go_at_call_of 103 (Value.string t); refine (read_any _ _ y HY.out.1 (by have := HY.out.size; omega)).mono ?_; rintro e w3 ⟨v, rfl, hn3, hb3⟩; have HN3 := Lib.hid hn3; clear hn3; have b3 := b2.trans (hb3.mono b2.size))
    | (go_at_call 152; refine (sum_any _ _ _ x y (HN2.out.below hb3 (Nat.le_refl _)) HN3.out (by have := HX.out.wl; omega) (by have := HY.out.wl; omega)).mono ?_; rintro e w5 ⟨v, rfl, hn5, hb5⟩; have HN5 := Lib.hid hn5; clear hn5; have b5 := b3.trans (hb5.mono b3.size))
    | (go_at_call 102; refine (result_any _ _ _ HN5.out (by have := HX.out.wl; have := HY.out.wl; have := HWL.out; omega) (HE.out.below b5 (Nat.le_refl _))).mono ?_; rintro e w6 ⟨v, rfl, rfl, hb6⟩; rw [HR.out]))
  go_ret2
  exact ⟨_, rfl, by rw [HR.out]; rfl, b5.trans (hb6.mono b5.size)⟩
set_option maxHeartbeats 400000 in
theorem both_product (w : World) (s t : ByteArray) (x y : Int) (hx : Good s x) (hy : Good t y) (he : Env w) :
    Calls Tryz.prog 77 #[.string s, .string t, .func (.func 78) #[] #[]] w (Rets fun v w' => v = resV (x * y) ∧ Below w.heap.size w w') := by
  have h0 : chks [s, t] = 0 := by rw [chks_pair, hx.chk, hy.chk]; rfl
  have hb0 : Below w.heap.size w (w.alloc (.cells #[.string s, .string t] 74)) := (Below.refl _ w).alloc (Nat.le_refl _) _
  obtain ⟨tt, k, hr, -, -⟩ := resV_cases (x * y)
  have hwl := wl_mul x y
  have HWL := Lib.hid hwl
  have HB0 := Lib.hid hb0; have H0 := Lib.hid h0; have HX := Lib.hid hx; have HY := Lib.hid hy; have HR := Lib.hid hr; have HE := Lib.hid he
  have HSZ := Lib.hid (show ∀ x ∈ [s, t], x.size ≤ 1000000 by intro x h; simp at h; rcases h with rfl | rfl; (have := hx.size; omega); (have := hy.size; omega))
  clear h0 hb0 hx hy hr he hwl
  go_enter Tryz.func77, Tryz.ntmps77
  go_wp2_with (first
    | (go_at_call 101; refine (checked_any _ _ _ (Sl.pair w s t _) HSZ.out (by simp)).mono ?_; rintro e w1 ⟨v, rfl, rfl, hb1⟩; rw [H0.out]; have b1 := HB0.out.trans (hb1.mono (by simp)))
    | (go_at_call_of 103 (Value.string s); refine (read_any _ _ x HX.out.1 (by have := HX.out.size; omega)).mono ?_; rintro e w2 ⟨v, rfl, hn2, hb2⟩; have HN2 := Lib.hid hn2; clear hn2; have b2 := b1.trans (hb2.mono b1.size))
    | (go_at_call_of 103 (Value.string t); refine (read_any _ _ y HY.out.1 (by have := HY.out.size; omega)).mono ?_; rintro e w3 ⟨v, rfl, hn3, hb3⟩; have HN3 := Lib.hid hn3; clear hn3; have b3 := b2.trans (hb3.mono b2.size))
    | (go_at_call 78; refine (product_any _ _ _ x y (HN2.out.below hb3 (Nat.le_refl _)) HN3.out (by have := HX.out.wl; have := HY.out.wl; omega)).mono ?_; rintro e w5 ⟨v, rfl, hn5, hb5⟩; have HN5 := Lib.hid hn5; clear hn5; have b5 := b3.trans (hb5.mono b3.size))
    | (go_at_call 102; refine (result_any _ _ _ HN5.out (by have := HX.out.wl; have := HY.out.wl; have := HWL.out; omega) (HE.out.below b5 (Nat.le_refl _))).mono ?_; rintro e w6 ⟨v, rfl, rfl, hb6⟩; rw [HR.out]))
  go_ret2
  exact ⟨_, rfl, by rw [HR.out]; rfl, b5.trans (hb6.mono b5.size)⟩

set_option maxHeartbeats 400000 in
theorem Mul_err (w : World) (s t : ByteArray) (hs : s.size ≤ 1000000) (ht : t.size ≤ 1000000) (h : chks [s, t] ≠ 0) :
    Calls Tryz.prog 60 #[.string s, .string t] w (Rets fun v w' => v = .tuple #[.string ⟨#[]⟩, .int .i64 (chks [s, t])] ∧ Below w.heap.size w w') := by
  go_enter Tryz.func60, Tryz.ntmps60
  go_wp2_with (go_at_call 77; refine (both_err _ _ _ _ hs ht h).mono ?_; rintro e w' ⟨v, rfl, rfl, hb⟩)
  go_ret2
  exact ⟨_, rfl, rfl, hb⟩
set_option maxHeartbeats 400000 in
theorem Mul_ok (w : World) (s t : ByteArray) (x y : Int) (hx : Good s x) (hy : Good t y) (he : Env w) :
    Calls Tryz.prog 60 #[.string s, .string t] w (Rets fun v w' => v = resV (x * y) ∧ Below w.heap.size w w') := by
  obtain ⟨tt, k, hr, -, -⟩ := resV_cases (x * y)
  have HR := Lib.hid hr; have HX := Lib.hid hx; have HY := Lib.hid hy; have HE := Lib.hid he
  clear hr hx hy he
  go_enter Tryz.func60, Tryz.ntmps60
  go_wp2_with (go_at_call 77; refine (both_product _ _ _ x y HX.out HY.out HE.out).mono ?_; rintro e w' ⟨v, rfl, rfl, hb⟩; rw [HR.out])
  go_ret2
  exact ⟨_, rfl, by rw [HR.out]; rfl, hb⟩
end Go.Proofs.YtlnhocgjgmhfgaaGreatDoor

namespace Go.Proofs.YtlnhocgjgmhfgaaGreatDoor
open Go.RowKit
set_option maxRecDepth 100000

theorem Boxes.both {w w1 : World} {m : Bool} {a : Option Addr} {n c : Nat} {m' : Bool} {a' : Option Addr} {n' c' : Nat} (h : Boxes w m a n c m' a' n' c' w1) : Boxes w m a n c m' a' n' c' w1 ∧ (w1.cell? ⟨w.heap.size, 0, none⟩ = some (.bool m) ∧ w1.cell? ⟨w.heap.size, 1, none⟩ = some (.slice a n c) ∧ w1.cell? ⟨w.heap.size + 1, 0, none⟩ = some (.bool m') ∧ w1.cell? ⟨w.heap.size + 1, 1, none⟩ = some (.slice a' n' c')) := ⟨h, h.facts⟩

set_option maxHeartbeats 1000000 in
theorem sub1_any (w : World) (x y : Value) (s t : Int) (hx : Num w x s) (hy : Num w y t) (hl : wl s ≤ 1000000000000) (hl' : wl t ≤ 1000000000000) :
    Calls Tryz.prog 151 #[x, y] w (Rets fun v w' => Num w' v (s - t) ∧ Below w.heap.size w w') := by
  obtain ⟨m, a, n, c, rfl, hm, hs⟩ := hx
  obtain ⟨m', a', n', c', rfl, hm', hs'⟩ := hy
  have HX := Lib.hid hs; have HY := Lib.hid hs'; have HM := Lib.hid hm; have HM' := Lib.hid hm'
  have HBX := Lib.hid (Boxes.made w m a n c m' a' n' c')
  have HL := Lib.hid hl; have HL' := Lib.hid (show wl (-t) ≤ 1000000000000 by rw [wl_neg]; exact hl')
  clear hs hs' hm hm' hl hl'
  go_enter Tryz.func151, Tryz.ntmps151
  go_wp2_with fail
  go_region_held3 (fun w' => Boxes w m a n c m' a' n' c' w' ∧ (w'.cell? ⟨w.heap.size, 0, none⟩ = some (.bool m) ∧ w'.cell? ⟨w.heap.size, 1, none⟩ = some (.slice a n c) ∧ w'.cell? ⟨w.heap.size + 1, 0, none⟩ = some (.bool m') ∧ w'.cell? ⟨w.heap.size + 1, 1, none⟩ = some (.slice a' n' c')))
    (((with_reducible refine Boxes.both ?_); first
      | with_reducible exact HBX.out.drew
      | with_reducible refine Boxes.store (And.left (by assumption)) _ _ _ _
      | with_reducible refine Boxes.keep (And.left (by assumption)) (by assumption)))
    (first
      | (go_at_call 117; refine (neg_any _ _ t ⟨_, _, _, _, rfl, HM'.out, HY.out.below (Boxes.below' (by assumption)) (Nat.le_refl _)⟩).mono ?_; rintro e w2 ⟨v, rfl, hn2, hb2⟩; have HN2 := Lib.hid hn2; clear hn2)
      | (go_at_call 152; refine (sum_any _ _ _ s (-t) ⟨_, _, _, _, rfl, HM.out, HX.out.below (Boxes.below' (by assumption)) (Nat.le_refl _)⟩ HN2.out HL.out HL'.out).mono ?_; rintro e w3 ⟨v, rfl, ⟨m1, a1, n1, c1, rfl, hm1, hs1⟩, hb⟩; have HM1 := Lib.hid hm1; clear hm1; have hk := Boxes.keep (And.left (by assumption)) hb; obtain ⟨p, q, hk0, hk1, hf0, hf1⟩ := hk.res))
  all_goals
    obtain ⟨g1, r0, r1, hst⟩ := hk.stored (r := m1) hs1
    have HG := Lib.hid g1; have HST := Lib.hid hst
    clear g1 hst hs1
    go_wp2
    refine bodyPost_ret (v := .agg #[.bool m1, .slice a1 n1 c1]) (by simp [results, Tryz.results151, go_sem, r0, r1]) rfl ?_
    exact ⟨_, rfl, ⟨_, _, _, _, rfl, by rw [Int.sub_eq_add_neg]; exact HM1.out, by rw [Int.sub_eq_add_neg]; exact HG.out⟩, HST.out⟩
theorem wl_sub (x y : Int) : wl (x - y) ≤ max (wl x) (wl y) + 1 := by
  rw [Int.sub_eq_add_neg]; have := wl_add x (-y); rwa [wl_neg] at this
set_option maxHeartbeats 400000 in
theorem both_sub (w : World) (s t : ByteArray) (x y : Int) (hx : Good s x) (hy : Good t y) (he : Env w) :
    Calls Tryz.prog 77 #[.string s, .string t, .func (.func 151) #[] #[]] w (Rets fun v w' => v = resV (x - y) ∧ Below w.heap.size w w') := by
  have h0 : chks [s, t] = 0 := by rw [chks_pair, hx.chk, hy.chk]; rfl
  have hb0 : Below w.heap.size w (w.alloc (.cells #[.string s, .string t] 74)) := (Below.refl _ w).alloc (Nat.le_refl _) _
  obtain ⟨tt, k, hr, -, -⟩ := resV_cases (x - y)
  have hwl := wl_sub x y
  have HWL := Lib.hid hwl
  have HB0 := Lib.hid hb0; have H0 := Lib.hid h0; have HX := Lib.hid hx; have HY := Lib.hid hy; have HR := Lib.hid hr; have HE := Lib.hid he
  have HSZ := Lib.hid (show ∀ x ∈ [s, t], x.size ≤ 1000000 by intro x h; simp at h; rcases h with rfl | rfl; (have := hx.size; omega); (have := hy.size; omega))
  clear h0 hb0 hx hy hr he hwl
  go_enter Tryz.func77, Tryz.ntmps77
  go_wp2_with (first
    | (go_at_call 101; refine (checked_any _ _ _ (Sl.pair w s t _) HSZ.out (by simp)).mono ?_; rintro e w1 ⟨v, rfl, rfl, hb1⟩; rw [H0.out]; have b1 := HB0.out.trans (hb1.mono (by simp)))
    | (go_at_call_of 103 (Value.string s); refine (read_any _ _ x HX.out.1 (by have := HX.out.size; omega)).mono ?_; rintro e w2 ⟨v, rfl, hn2, hb2⟩; have HN2 := Lib.hid hn2; clear hn2; have b2 := b1.trans (hb2.mono b1.size))
    | (go_at_call_of 103 (Value.string t); refine (read_any _ _ y HY.out.1 (by have := HY.out.size; omega)).mono ?_; rintro e w3 ⟨v, rfl, hn3, hb3⟩; have HN3 := Lib.hid hn3; clear hn3; have b3 := b2.trans (hb3.mono b2.size))
    | (go_at_call 151; refine (sub1_any _ _ _ x y (HN2.out.below hb3 (Nat.le_refl _)) HN3.out (by have := HX.out.wl; omega) (by have := HY.out.wl; omega)).mono ?_; rintro e w5 ⟨v, rfl, hn5, hb5⟩; have HN5 := Lib.hid hn5; clear hn5; have b5 := b3.trans (hb5.mono b3.size))
    | (go_at_call 102; refine (result_any _ _ _ HN5.out (by have := HX.out.wl; have := HY.out.wl; have := HWL.out; omega) (HE.out.below b5 (Nat.le_refl _))).mono ?_; rintro e w6 ⟨v, rfl, rfl, hb6⟩; rw [HR.out]))
  go_ret2
  exact ⟨_, rfl, by rw [HR.out]; rfl, b5.trans (hb6.mono b5.size)⟩
set_option maxHeartbeats 400000 in
theorem Sub_err (w : World) (s t : ByteArray) (hs : s.size ≤ 1000000) (ht : t.size ≤ 1000000) (h : chks [s, t] ≠ 0) :
    Calls Tryz.prog 138 #[.string s, .string t] w (Rets fun v w' => v = .tuple #[.string ⟨#[]⟩, .int .i64 (chks [s, t])] ∧ Below w.heap.size w w') := by
  go_enter Tryz.func138, Tryz.ntmps138
  go_wp2_with (go_at_call 77; refine (both_err _ _ _ _ hs ht h).mono ?_; rintro e w' ⟨v, rfl, rfl, hb⟩)
  go_ret2
  exact ⟨_, rfl, rfl, hb⟩
set_option maxHeartbeats 400000 in
theorem Sub_ok (w : World) (s t : ByteArray) (x y : Int) (hx : Good s x) (hy : Good t y) (he : Env w) :
    Calls Tryz.prog 138 #[.string s, .string t] w (Rets fun v w' => v = resV (x - y) ∧ Below w.heap.size w w') := by
  obtain ⟨tt, k, hr, -, -⟩ := resV_cases (x - y)
  have HR := Lib.hid hr; have HX := Lib.hid hx; have HY := Lib.hid hy; have HE := Lib.hid he
  clear hr hx hy he
  go_enter Tryz.func138, Tryz.ntmps138
  go_wp2_with (go_at_call 77; refine (both_sub _ _ _ x y HX.out HY.out HE.out).mono ?_; rintro e w' ⟨v, rfl, rfl, hb⟩; rw [HR.out])
  go_ret2
  exact ⟨_, rfl, by rw [HR.out]; rfl, hb⟩

end Go.Proofs.YtlnhocgjgmhfgaaGreatDoor

namespace Go.Proofs.YtlnhocgjgmhfgaaGreatDoor
open Go.RowKit
set_option maxRecDepth 100000

theorem setCell_same {w : World} {g j : Nat} {cs : List Value} {T : TypeId} {u : Value} (h : Blk w g cs T) (hu : cs[j]? = some u) : w.setCell ⟨g, j, none⟩ u = w := by
  have e : w.heap.modify g (fun | .cells c elem frozen => .cells (if (none : Option Nat).isSome then c else c.setIfInBounds j u) elem frozen | o => o) = w.heap := by
    refine Array.ext (by simp) fun i h1 h2 => ?_
    rw [Array.getElem_modify]
    split
    · rename_i hi
      subst hi
      have := (Array.getElem?_eq_some_iff.1 h).2
      rw [this]
      simp only [Option.isSome_none, Bool.false_eq_true, if_false]
      congr 1
      rw [List.setIfInBounds_toArray]
      congr 1
      obtain ⟨hj, hv⟩ := List.getElem?_eq_some_iff.1 hu
      rw [← hv]; exact List.set_getElem_self hj
    · rfl
  cases w
  simp only [World.setCell] at *
  congr 1
theorem big_abs {z : Int} {K : Nat} (h : z.natAbs < 10 ^ K) (hK : K ≤ 1024) : big z = false := by
  have h1 := (digs_len 10 z.natAbs K (by omega)).2 h
  rw [big_digs, decide_eq_false_iff_not]; omega
/-- What reduced is called with, and that nothing becomes too long. -/
structure RedOk (a d b c l : Int) : Prop where
  ha : big a = false
  hd : big d = false
  hb : big b = false
  hc : big c = false
  hl : big l = false
  l0 : l ≠ 0
  ad : big (a * d) = false
  bc : big (b * c) = false
  su : big (a * d - b * c) = false
  q : big (Int.fdiv (a * d - b * c) l) = false
theorem resV_good {z : Int} (h : big z = false) : resV z = .tuple #[.string (txt z), .int .i64 0] := by unfold resV; rw [h]; rfl
set_option maxHeartbeats 4000000 in
theorem reduced_any (w : World) (g : Nat) (rv sv kv : Value) (a d b c l : Int) (hk : Blk w g [rv, .string (txt l), sv, kv, .int .i64 0] 163) (hr : RedOk a d b c l) (he : Env w) :
    Calls Tryz.prog 128 #[.pointer (some ⟨g, 0, none⟩), .string (txt a), .string (txt d), .string (txt b), .string (txt c)] w (Rets fun v w' => v = .string (txt (Int.fdiv (a * d - b * c) l)) ∧ Below w.heap.size w w') := by
  have HK := Lib.hid hk; have HR := Lib.hid hr; have HE := Lib.hid he
  have R1 := Lib.hid (resV_good hr.ad); have R2 := Lib.hid (resV_good hr.bc); have R3 := Lib.hid (resV_good hr.su); have R4 := Lib.hid (resV_good hr.q)
  have k4 := hk.cell 4 _ rfl
  have hg := hk.lt
  clear hk hr he
  go_enter Tryz.func128, Tryz.ntmps128
  go_wp2_with (first
    | (go_at_call_of 60 (Value.string (txt a)); (with_reducible refine (Mul_ok _ _ _ a d (.of HR.out.ha) (.of HR.out.hd) HE.out).mono ?_); rintro e w1 ⟨v1, rfl, rfl, hb1⟩; rw [R1.out]; have K1 := Lib.hid (HK.out.below hb1 (Nat.le_refl _)); have E1 := Lib.hid (setCell_same K1.out (show [rv, .string (txt l), sv, kv, Value.int .i64 0][4]? = some (.int .i64 0) from rfl)); have c4 := K1.out.cell 4 _ rfl; have f4 := K1.out.free 4; have B1 := Lib.hid hb1; clear hb1)
    | (go_at_call_of 60 (Value.string (txt b)); (with_reducible refine (Mul_ok _ _ _ b c (.of HR.out.hb) (.of HR.out.hc) (HE.out.below (by rw [E1.out]; exact B1.out) (Nat.le_refl _))).mono ?_); rintro e w2 ⟨v2, rfl, rfl, hb2⟩; rw [E1.out] at hb2; rw [R2.out]; have K2 := Lib.hid (K1.out.below hb2 (Nat.le_refl _)); have E2 := Lib.hid (setCell_same K2.out (show [rv, .string (txt l), sv, kv, Value.int .i64 0][4]? = some (.int .i64 0) from rfl)); have d4 := K2.out.cell 4 _ rfl; have g4 := K2.out.free 4; have B2 := Lib.hid (B1.out.trans (hb2.mono B1.out.size)); clear hb2)
    | (go_at_call 138; (with_reducible refine (Sub_ok _ _ _ (a * d) (b * c) (.of HR.out.ad) (.of HR.out.bc) (HE.out.below (by rw [E2.out]; exact B2.out) (Nat.le_refl _))).mono ?_); rintro e w3 ⟨v3, rfl, rfl, hb3⟩; rw [E2.out] at hb3; rw [R3.out]; have K3 := Lib.hid (K2.out.below hb3 (Nat.le_refl _)); have E3 := Lib.hid (setCell_same K3.out (show [rv, .string (txt l), sv, kv, Value.int .i64 0][4]? = some (.int .i64 0) from rfl)); have l4 := K3.out.cell 4 _ rfl; have h4 := K3.out.free 4; have l1 := K3.out.cell 1 _ rfl; have B3 := Lib.hid (B2.out.trans (hb3.mono B2.out.size)); clear hb3)
    | (go_at_call 139; (with_reducible refine (Quo_ok _ _ _ (a * d - b * c) l (.of HR.out.su) (.of HR.out.hl) HR.out.l0 (HE.out.below (by rw [E3.out]; exact B3.out) (Nat.le_refl _))).mono ?_); rintro e w4 ⟨v4, rfl, rfl, hb4⟩; rw [E3.out] at hb4; rw [R4.out]; have K4 := Lib.hid (K3.out.below hb4 (Nat.le_refl _)); have E4 := Lib.hid (setCell_same K4.out (show [rv, .string (txt l), sv, kv, Value.int .i64 0][4]? = some (.int .i64 0) from rfl)); have m4 := K4.out.cell 4 _ rfl; have j4 := K4.out.free 4; have B4 := Lib.hid (B3.out.trans (hb4.mono B3.out.size)); clear hb4))
  go_ret
  exact ⟨_, rfl, rfl, by rw [E4.out]; exact B4.out⟩
end Go.Proofs.YtlnhocgjgmhfgaaGreatDoor

namespace Go.Proofs.YtlnhocgjgmhfgaaGreatDoor
open Go.RowKit
set_option maxRecDepth 100000

/-- All below h is as it was in W. -/
def Up (h : Nat) (W w : World) : Prop := h ≤ W.heap.size ∧ Below h W w
theorem Up.drew {h : Nat} {W w : World} (H : Up h W w) : Up h W w.drew := ⟨H.1, H.2.drew⟩
theorem Up.call {h : Nat} {W w w' : World} (H : Up h W w) (hb : Below w.heap.size w w') : Up h W w' := ⟨H.1, H.2.trans (hb.mono (Nat.le_trans H.1 H.2.size))⟩
theorem Up.alloc {h : Nat} {W w : World} (H : Up h W w) (o : Obj) : Up h W (w.alloc o) := ⟨H.1, H.2.alloc (Nat.le_trans H.1 H.2.size) o⟩
theorem Up.app {h B : Nat} {W w w' : World} (H : Up h W w) (hb : Below B w w') (hB : h ≤ B) : Up h W w' := ⟨H.1, H.2.trans (hb.mono hB)⟩
theorem Up.set {h g j : Nat} {W w : World} (H : Up h W w) (hg : h ≤ g) (u : Value) : Up h W (w.setCell ⟨g, j, none⟩ u) := ⟨H.1, H.2.setCell hg u⟩
theorem Up.box {h g : Nat} {W w : World} {cs : List Value} {T : TypeId} (H : Up h W w) (hk : Blk W g cs T) (hg : g < h) : Blk w g cs T := (H.2.block g hg).trans hk
theorem Up.sl {α : Type} {enc : α → Value} {w0 W w : World} {h : Nat} {v : Value} {xs : List α} (H : Up h W w) (hv : Sl enc w0 v xs) (h0 : Below w0.heap.size w0 W) (hh : w0.heap.size ≤ h) : Sl enc w v xs :=
  hv.below (h0.trans (H.2.mono hh)) (Nat.le_refl _)
/-- Three cells of a block below h. -/
theorem held_box {h g : Nat} {W : World} {a b c : Value} {T : TypeId} (hk : Blk W g [a, b, c] T) (hg : g < h) : ∀ w', Up h W w' → Up h W w' ∧ w'.cell? ⟨g, 0, none⟩ = some a ∧ w'.cell? ⟨g, 1, none⟩ = some b ∧ w'.cell? ⟨g, 2, none⟩ = some c :=
  fun _ H => ⟨H, (H.box hk hg).cell 0 _ rfl, (H.box hk hg).cell 1 _ rfl, (H.box hk hg).cell 2 _ rfl⟩
end Go.Proofs.YtlnhocgjgmhfgaaGreatDoor

namespace Go.Proofs.YtlnhocgjgmhfgaaGreatDoor
open Go.RowKit
set_option maxRecDepth 100000

theorem dn_zero : dn 0 = 0 := by unfold dn; rw [show Int.natAbs 0 = 0 from rfl, digs_zero]; rfl
theorem dn_one : dn 1 ≤ 1 := by unfold dn; rw [digs_len _ _ _ (by omega)]; decide
/-- The terms of a determinant's expansion. -/
def dterm (n : Nat) (A : Mat) (k : Nat) : Int := sgn k * A 0 k * det n (mnr A 0 k)
theorem det_terms (n : Nat) (A : Mat) : det (n + 1) A = sm (n + 1) (dterm n A) := rfl
theorem sgn_even {k : Nat} (h : k % 2 = 0) : sgn k = 1 := by unfold sgn; rw [if_pos h]
theorem sgn_odd {k : Nat} (h : k % 2 = 1) : sgn k = -1 := by unfold sgn; rw [if_neg (by omega)]
theorem dterm_zero {n k : Nat} {A : Mat} (h : A 0 k = 0) : dterm n A k = 0 := by rw [dterm, h, Int.mul_zero, Int.zero_mul]
theorem dterm_even {n k : Nat} {A : Mat} (h : k % 2 = 0) : dterm n A k = A 0 k * det n (mnr A 0 k) := by rw [dterm, sgn_even h, Int.one_mul]
theorem dterm_odd {n k : Nat} {A : Mat} (h : k % 2 = 1) : dterm n A k = -(A 0 k * det n (mnr A 0 k)) := by rw [dterm, sgn_odd h, Int.neg_mul, Int.one_mul, Int.neg_mul]
theorem dn_sgn (k : Nat) (z w : Int) : dn (sgn k * z * w) = dn (z * w) := by
  unfold sgn; split
  · rw [Int.one_mul]
  · rw [Int.neg_mul, Int.one_mul, Int.neg_mul, dn_neg]
theorem dn_sm {D : Nat} (f : Nat → Int) : ∀ n, (∀ k, k < n → dn (f k) ≤ D) → dn (sm n f) ≤ D + n
  | 0, _ => by rw [sm, dn_zero]; omega
  | n + 1, h => by
    rw [sm]
    have h1 := dn_sm f n fun k hk => h k (by omega)
    have h2 := h n (by omega)
    have := dn_add (sm n f) (f n)
    omega
theorem dn_det {D : Nat} : ∀ (n : Nat) (A : Mat), (∀ i j, i < n → j < n → dn (A i j) ≤ D) → dn (det n A) ≤ 1 + n * (D + n)
  | 0, _, _ => by have := dn_one; simp only [det]; omega
  | n + 1, A, h => by
    rw [det_terms]
    have h1 : ∀ k, k < n + 1 → dn (dterm n A k) ≤ 1 + n * (D + n) + D := fun k hk => by
      rw [dterm, dn_sgn]
      have h2 := dn_mul (A 0 k) (det n (mnr A 0 k))
      have h3 := h 0 k (by omega) hk
      have h4 := dn_det n (mnr A 0 k) fun i j hi hj => h _ _ (sk_lt hi) (sk_lt hj)
      omega
    have := dn_sm _ _ h1
    have e : (n + 1) * (D + (n + 1)) = n * (D + n) + n + D + n + 1 := by simp [Nat.add_mul, Nat.mul_add]; omega
    omega
theorem dn_dterm {D n k : Nat} {A : Mat} (h : ∀ i j, i < n + 1 → j < n + 1 → dn (A i j) ≤ D) : dn (det n (mnr A 0 k)) ≤ 1 + n * (D + n) :=
  dn_det n (mnr A 0 k) fun _ _ hi hj => h _ _ (sk_lt hi) (sk_lt hj)
theorem txt_one : txt 1 = ⟨#[49]⟩ := by unfold txt; rw [itoa_cases, if_neg (by omega), show Int.natAbs 1 = 1 from rfl, Lib.decDigits_one (by omega)]; rfl
theorem txt_z {z : Int} (h : z = 0) : ((txt z).toList == [48]) = true := by subst h; rw [txt_list, itoa0]; rfl
end Go.Proofs.YtlnhocgjgmhfgaaGreatDoor
