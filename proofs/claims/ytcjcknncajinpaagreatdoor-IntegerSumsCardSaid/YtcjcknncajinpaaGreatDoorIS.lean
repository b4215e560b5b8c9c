/- The walk of integer's Sub. -/
import Derived.Test.YtcjcknncajinpaaGreatDoorIR
namespace Go.Proofs.YtcjcknncajinpaaGreatDoor
open Go.RowKit
set_option maxRecDepth 100000

theorem Boxes.both {w w1 : World} {m : Bool} {a : Option Addr} {n c : Nat} {m' : Bool} {a' : Option Addr} {n' c' : Nat} (h : Boxes w m a n c m' a' n' c' w1) : Boxes w m a n c m' a' n' c' w1 ∧ (w1.cell? ⟨w.heap.size, 0, none⟩ = some (.bool m) ∧ w1.cell? ⟨w.heap.size, 1, none⟩ = some (.slice a n c) ∧ w1.cell? ⟨w.heap.size + 1, 0, none⟩ = some (.bool m') ∧ w1.cell? ⟨w.heap.size + 1, 1, none⟩ = some (.slice a' n' c')) := ⟨h, h.facts⟩

set_option maxHeartbeats 1000000 in
theorem sub1_any (w : World) (x y : Value) (s t : Int) (hx : Num w x s) (hy : Num w y t) (hl : wl s ≤ 1000000000000) (hl' : wl t ≤ 1000000000000) :
    Calls Tryz.prog 52 #[x, y] w (Rets fun v w' => Num w' v (s - t) ∧ Below w.heap.size w w') := by
  obtain ⟨m, a, n, c, rfl, hm, hs⟩ := hx
  obtain ⟨m', a', n', c', rfl, hm', hs'⟩ := hy
  have HX := Lib.hid hs; have HY := Lib.hid hs'; have HM := Lib.hid hm; have HM' := Lib.hid hm'
  have HBX := Lib.hid (Boxes.made w m a n c m' a' n' c')
  have HL := Lib.hid hl; have HL' := Lib.hid (show wl (-t) ≤ 1000000000000 by rw [wl_neg]; exact hl')
  clear hs hs' hm hm' hl hl'
  go_enter Tryz.func52, Tryz.ntmps52
  go_wp2_with fail
  go_region_held3 (fun w' => Boxes w m a n c m' a' n' c' w' ∧ (w'.cell? ⟨w.heap.size, 0, none⟩ = some (.bool m) ∧ w'.cell? ⟨w.heap.size, 1, none⟩ = some (.slice a n c) ∧ w'.cell? ⟨w.heap.size + 1, 0, none⟩ = some (.bool m') ∧ w'.cell? ⟨w.heap.size + 1, 1, none⟩ = some (.slice a' n' c')))
    (((with_reducible refine Boxes.both ?_); first
      | with_reducible exact HBX.out.drew
      | with_reducible refine Boxes.store (And.left (by assumption)) _ _ _ _
      | with_reducible refine Boxes.keep (And.left (by assumption)) (by assumption)))
    (first
      | (go_at_call 44; refine (neg_any _ _ t ⟨_, _, _, _, rfl, HM'.out, HY.out.below (Boxes.below' (by assumption)) (Nat.le_refl _)⟩).mono ?_; rintro e w2 ⟨v, rfl, hn2, hb2⟩; have HN2 := Lib.hid hn2; clear hn2)
      | (go_at_call 42; refine (sum_any _ _ _ s (-t) ⟨_, _, _, _, rfl, HM.out, HX.out.below (Boxes.below' (by assumption)) (Nat.le_refl _)⟩ HN2.out HL.out HL'.out).mono ?_; rintro e w3 ⟨v, rfl, ⟨m1, a1, n1, c1, rfl, hm1, hs1⟩, hb⟩; have HM1 := Lib.hid hm1; clear hm1; have hk := Boxes.keep (And.left (by assumption)) hb; obtain ⟨p, q, hk0, hk1, hf0, hf1⟩ := hk.res))
  all_goals
    obtain ⟨g1, r0, r1, hst⟩ := hk.stored (r := m1) hs1
    have HG := Lib.hid g1; have HST := Lib.hid hst
    clear g1 hst hs1
    go_wp2
    refine bodyPost_ret (v := .agg #[.bool m1, .slice a1 n1 c1]) (by simp [results, Tryz.results52, go_sem, r0, r1]) rfl ?_
    exact ⟨_, rfl, ⟨_, _, _, _, rfl, by rw [Int.sub_eq_add_neg]; exact HM1.out, by rw [Int.sub_eq_add_neg]; exact HG.out⟩, HST.out⟩
theorem wl_sub (x y : Int) : wl (x - y) ≤ max (wl x) (wl y) + 1 := by
  rw [Int.sub_eq_add_neg]; have := wl_add x (-y); rwa [wl_neg] at this
set_option maxHeartbeats 400000 in
theorem both_sub (w : World) (s t : ByteArray) (x y : Int) (hx : Good s x) (hy : Good t y) (he : Env w) :
    Calls Tryz.prog 34 #[.string s, .string t, .func (.func 52) #[] #[]] w (Rets fun v w' => v = resV (x - y) ∧ Below w.heap.size w w') := by
  have h0 : chks [s, t] = 0 := by rw [chks_pair, hx.chk, hy.chk]; rfl
  have hb0 : Below w.heap.size w (w.alloc (.cells #[.string s, .string t] 22)) := (Below.refl _ w).alloc (Nat.le_refl _) _
  obtain ⟨tt, k, hr, -, -⟩ := resV_cases (x - y)
  have hwl := wl_sub x y
  have HWL := Lib.hid hwl
  have HB0 := Lib.hid hb0; have H0 := Lib.hid h0; have HX := Lib.hid hx; have HY := Lib.hid hy; have HR := Lib.hid hr; have HE := Lib.hid he
  have HSZ := Lib.hid (show ∀ x ∈ [s, t], x.size ≤ 1000000 by intro x h; simp at h; rcases h with rfl | rfl; (have := hx.size; omega); (have := hy.size; omega))
  clear h0 hb0 hx hy hr he hwl
  go_enter Tryz.func34, Tryz.ntmps34
  go_wp2_with (first
    | (go_at_call 27; refine (checked_any _ _ _ (Sl.pair w s t _) HSZ.out (by simp)).mono ?_; rintro e w1 ⟨v, rfl, rfl, hb1⟩; rw [H0.out]; have b1 := HB0.out.trans (hb1.mono (by simp)))
    | (go_at_call_of 28 (Value.string s); refine (read_any _ _ x HX.out.1 (by have := HX.out.size; omega)).mono ?_; rintro e w2 ⟨v, rfl, hn2, hb2⟩; have HN2 := Lib.hid hn2; clear hn2; have b2 := b1.trans (hb2.mono b1.size))
    | (go_at_call_of 28 (Value.string t); refine (read_any _ _ y HY.out.1 (by have := HY.out.size; omega)).mono ?_; rintro e w3 ⟨v, rfl, hn3, hb3⟩; have HN3 := Lib.hid hn3; clear hn3; have b3 := b2.trans (hb3.mono b2.size))
    | (go_at_call 52; refine (sub1_any _ _ _ x y (HN2.out.below hb3 (Nat.le_refl _)) HN3.out (by have := HX.out.wl; omega) (by have := HY.out.wl; omega)).mono ?_; rintro e w5 ⟨v, rfl, hn5, hb5⟩; have HN5 := Lib.hid hn5; clear hn5; have b5 := b3.trans (hb5.mono b3.size))
    | (go_at_call 30; refine (result_any _ _ _ HN5.out (by have := HX.out.wl; have := HY.out.wl; have := HWL.out; omega) (HE.out.below b5 (Nat.le_refl _))).mono ?_; rintro e w6 ⟨v, rfl, rfl, hb6⟩; rw [HR.out]))
  go_ret2
  exact ⟨_, rfl, by rw [HR.out]; rfl, b5.trans (hb6.mono b5.size)⟩
set_option maxHeartbeats 400000 in
theorem Sub_err (w : World) (s t : ByteArray) (hs : s.size ≤ 1000000) (ht : t.size ≤ 1000000) (h : chks [s, t] ≠ 0) :
    Calls Tryz.prog 15 #[.string s, .string t] w (Rets fun v w' => v = .tuple #[.string ⟨#[]⟩, .int .i64 (chks [s, t])] ∧ Below w.heap.size w w') := by
  go_enter Tryz.func15, Tryz.ntmps15
  go_wp2_with (go_at_call 34; refine (both_err _ _ _ _ hs ht h).mono ?_; rintro e w' ⟨v, rfl, rfl, hb⟩)
  go_ret2
  exact ⟨_, rfl, rfl, hb⟩
set_option maxHeartbeats 400000 in
theorem Sub_ok (w : World) (s t : ByteArray) (x y : Int) (hx : Good s x) (hy : Good t y) (he : Env w) :
    Calls Tryz.prog 15 #[.string s, .string t] w (Rets fun v w' => v = resV (x - y) ∧ Below w.heap.size w w') := by
  obtain ⟨tt, k, hr, -, -⟩ := resV_cases (x - y)
  have HR := Lib.hid hr; have HX := Lib.hid hx; have HY := Lib.hid hy; have HE := Lib.hid he
  clear hr hx hy he
  go_enter Tryz.func15, Tryz.ntmps15
  go_wp2_with (go_at_call 34; refine (both_sub _ _ _ x y HX.out HY.out HE.out).mono ?_; rintro e w' ⟨v, rfl, rfl, hb⟩; rw [HR.out])
  go_ret2
  exact ⟨_, rfl, by rw [HR.out]; rfl, hb⟩

end Go.Proofs.YtcjcknncajinpaaGreatDoor
