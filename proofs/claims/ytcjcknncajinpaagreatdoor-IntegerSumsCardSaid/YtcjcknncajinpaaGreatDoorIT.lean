/- The walk of integer's Gcd. -/
import Derived.Test.YtcjcknncajinpaaGreatDoorIS
import Derived.Test.YtcjcknncajinpaaGreatDoorIP
namespace Go.Proofs.YtcjcknncajinpaaGreatDoor
open Go.RowKit
set_option maxRecDepth 100000

set_option maxHeartbeats 1000000 in
theorem gcd1_any (w : World) (x y : Value) (s t : Int) (hx : Num w x s) (hy : Num w y t) (hl : wl s ≤ 1000000000000) (hl' : wl t ≤ 1000000000000) :
    Calls Tryz.prog 35 #[x, y] w (Rets fun v w' => Num w' v (Nat.gcd s.natAbs t.natAbs : Nat) ∧ Below w.heap.size w w') := by
  obtain ⟨m, a, n, c, rfl, hm, hs⟩ := hx
  obtain ⟨m', a', n', c', rfl, hm', hs'⟩ := hy
  have HX := Lib.hid hs; have HY := Lib.hid hs'
  have HBX := Lib.hid (Boxes.made w m a n c m' a' n' c')
  have HL := Lib.hid hl; have HL' := Lib.hid hl'
  clear hs hs' hm hm' hl hl'
  go_enter Tryz.func35, Tryz.ntmps35
  go_wp2_with fail
  refine (common_any _ _ _ s.natAbs t.natAbs (HX.out.below HBX.out.1 (Nat.le_refl _)) (HY.out.below HBX.out.1 (Nat.le_refl _)) HL.out HL'.out).mono ?_
  rintro e w1 ⟨v, rfl, hv, hb1⟩
  have hk1 := HBX.out.keep hb1
  have HK1 := Lib.hid hk1; have HV := Lib.hid hv
  clear hk1 hv hb1
  go_wp2_with fail
  refine (signed_any _ _ _ _ HV.out).mono ?_
  rintro e w2 ⟨v, rfl, ⟨m1, a1, n1, c1, rfl, hm1, hs1⟩, hb2⟩
  rw [show sg false (Nat.gcd s.natAbs t.natAbs) = ((Nat.gcd s.natAbs t.natAbs : Nat) : Int) from rfl] at hm1 hs1
  have hk := HK1.out.keep hb2
  obtain ⟨p, q, hk0, hk1, hf0, hf1⟩ := hk.res
  have HM1 := Lib.hid hm1; clear hm1
  obtain ⟨g1, r0, r1, hst⟩ := hk.stored (r := m1) hs1
  have HG := Lib.hid g1; have HST := Lib.hid hst
  clear g1 hst hs1 hb2
  go_wp2
  refine bodyPost_ret (v := .agg #[.bool m1, .slice a1 n1 c1]) (by simp [results, Tryz.results35, go_sem, r0, r1]) rfl ?_
  exact ⟨_, rfl, ⟨_, _, _, _, rfl, HM1.out, HG.out⟩, HST.out⟩
theorem wl_gcd (x y : Int) : wl ((Nat.gcd x.natAbs y.natAbs : Nat) : Int) ≤ max (wl x) (wl y) + 1 := by
  have h : Nat.gcd x.natAbs y.natAbs ≤ x.natAbs ∨ Nat.gcd x.natAbs y.natAbs ≤ y.natAbs := by
    rcases Nat.eq_zero_or_pos x.natAbs with h | h
    · right; rw [h, Nat.gcd_zero_left]; exact Nat.le_refl _
    · left; exact Nat.le_of_dvd h (Nat.gcd_dvd_left _ _)
  unfold wl
  rw [Int.natAbs_natCast]
  rcases h with h | h
  · have := digs_len_mono 1000000000 (by omega) h; omega
  · have := digs_len_mono 1000000000 (by omega) h; omega
set_option maxHeartbeats 400000 in
theorem both_gcd (w : World) (s t : ByteArray) (x y : Int) (hx : Good s x) (hy : Good t y) (he : Env w) :
    Calls Tryz.prog 34 #[.string s, .string t, .func (.func 35) #[] #[]] w (Rets fun v w' => v = resV ((Nat.gcd x.natAbs y.natAbs : Nat) : Int) ∧ Below w.heap.size w w') := by
  have h0 : chks [s, t] = 0 := by rw [chks_pair, hx.chk, hy.chk]; rfl
  have hb0 : Below w.heap.size w (w.alloc (.cells #[.string s, .string t] 22)) := (Below.refl _ w).alloc (Nat.le_refl _) _
  obtain ⟨tt, k, hr, -, -⟩ := resV_cases ((Nat.gcd x.natAbs y.natAbs : Nat) : Int)
  have hwl := wl_gcd x y
  have HWL := Lib.hid hwl
  have HB0 := Lib.hid hb0; have H0 := Lib.hid h0; have HX := Lib.hid hx; have HY := Lib.hid hy; have HR := Lib.hid hr; have HE := Lib.hid he
  have HSZ := Lib.hid (show ∀ x ∈ [s, t], x.size ≤ 1000000 by intro x h; simp at h; rcases h with rfl | rfl; (have := hx.size; omega); (have := hy.size; omega))
  clear h0 hb0 hx hy hr he hwl
  go_enter Tryz.func34, Tryz.ntmps34
  go_wp2_with (first
    | (go_at_call 27; refine (checked_any _ _ _ (Sl.pair w s t _) HSZ.out (by simp)).mono ?_; rintro e w1 ⟨v, rfl, rfl, hb1⟩; rw [H0.out]; have b1 := HB0.out.trans (hb1.mono (by simp)))
    | (go_at_call_of 28 (Value.string s); refine (read_any _ _ x HX.out.1 (by have := HX.out.size; omega)).mono ?_; rintro e w2 ⟨v, rfl, hn2, hb2⟩; have HN2 := Lib.hid hn2; clear hn2; have b2 := b1.trans (hb2.mono b1.size))
    | (go_at_call_of 28 (Value.string t); refine (read_any _ _ y HY.out.1 (by have := HY.out.size; omega)).mono ?_; rintro e w3 ⟨v, rfl, hn3, hb3⟩; have HN3 := Lib.hid hn3; clear hn3; have b3 := b2.trans (hb3.mono b2.size))
    | (go_at_call 35; refine (gcd1_any _ _ _ x y (HN2.out.below hb3 (Nat.le_refl _)) HN3.out (by have := HX.out.wl; omega) (by have := HY.out.wl; omega)).mono ?_; rintro e w5 ⟨v, rfl, hn5, hb5⟩; have HN5 := Lib.hid hn5; clear hn5; have b5 := b3.trans (hb5.mono b3.size))
    | (go_at_call 30; refine (result_any _ _ _ HN5.out (by have := HX.out.wl; have := HY.out.wl; have := HWL.out; omega) (HE.out.below b5 (Nat.le_refl _))).mono ?_; rintro e w6 ⟨v, rfl, rfl, hb6⟩; rw [HR.out]))
  go_ret2
  exact ⟨_, rfl, by rw [HR.out]; rfl, b5.trans (hb6.mono b5.size)⟩
set_option maxHeartbeats 400000 in
theorem Gcd_err (w : World) (s t : ByteArray) (hs : s.size ≤ 1000000) (ht : t.size ≤ 1000000) (h : chks [s, t] ≠ 0) :
    Calls Tryz.prog 10 #[.string s, .string t] w (Rets fun v w' => v = .tuple #[.string ⟨#[]⟩, .int .i64 (chks [s, t])] ∧ Below w.heap.size w w') := by
  go_enter Tryz.func10, Tryz.ntmps10
  go_wp2_with (go_at_call 34; refine (both_err _ _ _ _ hs ht h).mono ?_; rintro e w' ⟨v, rfl, rfl, hb⟩)
  go_ret2
  exact ⟨_, rfl, rfl, hb⟩
set_option maxHeartbeats 400000 in
theorem Gcd_ok (w : World) (s t : ByteArray) (x y : Int) (hx : Good s x) (hy : Good t y) (he : Env w) :
    Calls Tryz.prog 10 #[.string s, .string t] w (Rets fun v w' => v = resV ((Nat.gcd x.natAbs y.natAbs : Nat) : Int) ∧ Below w.heap.size w w') := by
  obtain ⟨tt, k, hr, -, -⟩ := resV_cases ((Nat.gcd x.natAbs y.natAbs : Nat) : Int)
  have HR := Lib.hid hr; have HX := Lib.hid hx; have HY := Lib.hid hy; have HE := Lib.hid he
  clear hr hx hy he
  go_enter Tryz.func10, Tryz.ntmps10
  go_wp2_with (go_at_call 34; refine (both_gcd _ _ _ x y HX.out HY.out HE.out).mono ?_; rintro e w' ⟨v, rfl, rfl, hb⟩; rw [HR.out])
  go_ret2
  exact ⟨_, rfl, by rw [HR.out]; rfl, hb⟩

end Go.Proofs.YtcjcknncajinpaaGreatDoor
