/- The law EulerTurns. -/
import Derived.Test.YtlnhocgjgmhfgaaGreatDoorPk41
import Derived.Test.YtlnhocgjgmhfgaaGreatDoorPk35
import Derived.Test.YtlnhocgjgmhfgaaGreatDoorPk37
import Derived.Test.YtlnhocgjgmhfgaaGreatDoorPk14
namespace Go.Proofs.YtlnhocgjgmhfgaaGreatDoor
open Go.RowKit
set_option maxRecDepth 100000

theorem EChk_zero (W : World) (n : Nat) (u : Value) (ns : List (Nat × Nat × Nat)) (a : Nat) (t : Value) (us : List Int) (hR : RD n ns) (hu : SlK e3 3 W u (ns.map n3)) (hl : ns.length ≤ 1000) (ht : SlK iz 1 W t us) (hE : EulC n ns) (hG : GoodU n (sgl ns) a us) :
    Calls Tryz.prog 15 #[.agg #[.int .i64 (n : Nat), u], .agg #[.int .i64 (a : Nat), t]] W (Rets fun r w' => r = .int .i64 0 ∧ Below W.heap.size W w') :=
  (EChk_ok W n u ns (a : Nat) t us hR hu hl ht).mono (by
    rintro e w2 ⟨v, rfl, x, rfl, hb, hc⟩
    obtain rfl : x = 0 := hc.iff.2 ⟨hE, by omega, by simpa using hG⟩
    exact ⟨_, rfl, rfl, hb⟩)
theorem EWalk_good (W : World) (n : Nat) (u : Value) (ns : List (Nat × Nat × Nat)) (a : Nat) (t : Value) (us : List Int) (k : Nat) (hR : RD n ns) (hu : SlK e3 3 W u (ns.map n3)) (hl : ns.length ≤ 1000) (ht : SlK iz 1 W t us) (hE : EulC n ns) (hG : GoodU n (sgl ns) a us) (hk : k ≤ 4096) :
    Calls Tryz.prog 13 #[.agg #[.int .i64 (n : Nat), u], .agg #[.int .i64 (a : Nat), t], .int .i64 (k : Nat)] W (RetW W ((Rot.run (sgl ns) (rot us) a k).1 : Nat) (natI (rotK (sgl ns) us n (Rot.run (sgl ns) (rot us) a k).2)) (Rot.run (sgl ns) (rot us) a k).2 0) :=
  (EWalk_ok W n u ns a t us k hR hu hl ht hE hG hk).mono (by
    rintro x w2 ⟨v, hx, q, cap, way, rfl, hq, hw, hb⟩
    refine ⟨_, hx, _, _, rfl, ?_, ?_, hb⟩
    · rw [ints_natI] at hq
      exact SlK.ofOwns iz_len hq (by simp [natI, rotK])
    · rw [ints_flat] at hw
      exact SlK.ofOwns i1_len hw rfl)

set_option maxHeartbeats 8000000 in
theorem eulTurns_any (w : World) (n : Int) (v : Value) (es : List (Int × Int × Int)) (at_ : Int) (rv : Value) (us : List Int) (k : Int) (hv : SlK e3 3 w v es) (hu : SlK iz 1 w rv us) (hk8 : 0 ≤ k ∧ k ≤ 255) (he : Env w) :
    Calls Tryz.prog 6 #[.agg #[.int .i64 n, v], .agg #[.int .i64 at_, rv], .int .u8 k] w (Rets fun r w' => r = .bool true ∧ Below w.heap.size w w') := by
  obtain ⟨ad, c, rfl⟩ := hv.form
  obtain ⟨ru, cu, rfl⟩ := hu.form
  obtain ⟨D, hD⟩ : ∃ D, w.heap.size = D := ⟨_, rfl⟩
  obtain ⟨W1, hW1⟩ : ∃ W, w.alloc (.cells #[.int .i64 n, .slice ad es.length c] 28) = W := ⟨_, rfl⟩
  obtain ⟨W, hW⟩ : ∃ W, W1.alloc (.cells #[.int .i64 at_, .slice ru us.length cu] 38) = W := ⟨_, rfl⟩
  have z1 : W1.heap.size = D + 1 := by rw [← hW1, World.size_alloc, hD]
  have k1 : Blk W1 D [.int .i64 n, .slice ad es.length c] 28 := by rw [← hW1, ← hD]; exact Blk.new w _ _
  have HKD := Lib.hid (show Blk W D [.int .i64 n, .slice ad es.length c] 28 by rw [← hW]; exact k1.alloc _)
  have HKU := Lib.hid (show Blk W (D + 1) [.int .i64 at_, .slice ru us.length cu] 38 by rw [← hW, ← z1]; exact Blk.new W1 _ _)
  have HQ := Lib.hid (show Below D w W by
    have q1 : Below D w W1 := by rw [← hW1, ← hD]; exact (Below.refl _ w).alloc (Nat.le_refl _) _
    rw [← hW]; exact q1.alloc (by rw [z1]; omega) _)
  have SD := Lib.hid (hv.below HQ.out (Nat.le_of_eq hD)); have SU := Lib.hid (hu.below HQ.out (Nat.le_of_eq hD)); have HE := Lib.hid (he.below HQ.out (Nat.le_of_eq hD))
  have HW : Hid ((w.alloc (.cells #[.int .i64 n, .slice ad es.length c] 28)).alloc (.cells #[.int .i64 at_, .slice ru us.length cu] 38) = W) := Lib.hid (by rw [hW1, hW])
  have k0 := HKD.out.cell 0 _ rfl; have k1' := HKD.out.cell 1 _ rfl; have kl := HKD.out.lt
  have u0 := HKU.out.cell 0 _ rfl; have u1 := HKU.out.cell 1 _ rfl; have ul := HKU.out.lt
  clear k1 hW1 hW z1 hv hu he
  by_cases h20 : 20 < es.length
  · have d1 : decide ((20 : Int) < (es.length : Int)) = true := by simp only [decide_eq_true_eq]; omega
    have d2 : decide (20 < es.length) = true := by simp only [decide_eq_true_eq]; omega
    go_enter Tryz.func6, Tryz.ntmps6
    go_wp2_with (first
      | (go_at_call 8; (try rw [HW.out]); (with_reducible refine (awake47 W HE.out).mono ?_); rintro e w9 ⟨v, rfl, rfl, hb⟩; have HB9 := Lib.hid (HQ.out.trans (hb.mono (by rw [← hD]; exact HQ.out.size))); clear hb))
    go_ret
    exact ⟨_, rfl, rfl, by first | exact HB9.out | (rw [hD]; exact HB9.out)⟩
  have d1 : decide ((20 : Int) < (es.length : Int)) = false := by simp only [decide_eq_false_iff_not]; omega
  have d2 : decide (20 < es.length) = false := by simp only [decide_eq_false_iff_not]; omega
  have HC := Lib.hid (rDCheck_any W n _ es SD.out)
  by_cases hk : chkDg n es = 0
  rotate_left
  · obtain ⟨K, hK⟩ : ∃ K, chkDg n es = K := ⟨_, rfl⟩
    rw [hK] at hk HC
    have he0 : (K == 0) = false := by rw [beq_eq_false_iff_ne]; exact hk
    have he1 : (K != 0) = true := by simp [bne, he0]
    clear hk hK
    go_enter Tryz.func6, Tryz.ntmps6
    go_wp2_with (first
      | (go_at_call 8; (try rw [HW.out]); (with_reducible refine (awake47 w1 HE1.out).mono ?_); rintro e w9 ⟨v, rfl, rfl, hb⟩; have HB9 := Lib.hid (HB1.out.trans (hb.mono (by rw [← hD]; exact HB1.out.size))); clear hb)
      | (go_at_call 27; (try rw [HW.out]); (with_reducible refine (HC.out).mono ?_); rintro e w1 ⟨v, rfl, rfl, hb⟩; have HB1 := Lib.hid (HQ.out.trans (hb.mono (by rw [← hD]; exact HQ.out.size))); have KD1 := Lib.hid (HKD.out.below hb (Nat.le_refl _)); have KU1 := Lib.hid (HKU.out.below hb (Nat.le_refl _)); have SD1 := Lib.hid (SD.out.below hb (Nat.le_refl _)); have SU1 := Lib.hid (SU.out.below hb (Nat.le_refl _)); have HE1 := Lib.hid (HE.out.below hb (Nat.le_refl _)); clear hb k0 k1' kl u0 u1 ul; have k0 := KD1.out.cell 0 _ rfl; have k1' := KD1.out.cell 1 _ rfl; have kl := KD1.out.lt; have u0 := KU1.out.cell 0 _ rfl; have u1 := KU1.out.cell 1 _ rfl; have ul := KU1.out.lt))
    go_ret
    exact ⟨_, rfl, rfl, by first | exact HB9.out | (rw [hD]; exact HB9.out)⟩
  obtain ⟨m, ns, rfl, rfl, hR⟩ := rd_of hk
  rw [hk] at HC
  clear hk
  simp only [List.length_map] at *
  have HNL := Lib.hid (show (ns.map n3).length = ns.length from List.length_map _)
  have HR := Lib.hid hR
  have HM := Lib.hid (show ∀ x ∈ ns, x.2.2 ≤ 50 from fun x hx => (hR.rng x hx).2.2.2)
  clear hR
  by_cases h6 : 6 < m
  · have d3 : decide ((6 : Int) < (m : Int)) = true := by simp only [decide_eq_true_eq]; omega
    have d4 : decide (6 < m) = true := by simp only [decide_eq_true_eq]; omega
    go_enter Tryz.func6, Tryz.ntmps6
    go_wp2_with (first
      | (go_at_call 8; (try rw [HW.out]); (with_reducible refine (awake47 w1 HE1.out).mono ?_); rintro e w9 ⟨v, rfl, rfl, hb⟩; have HB9 := Lib.hid (HB1.out.trans (hb.mono (by rw [← hD]; exact HB1.out.size))); clear hb)
      | (go_at_call 27; (try rw [HW.out]); (with_reducible refine (HC.out).mono ?_); rintro e w1 ⟨v, rfl, rfl, hb⟩; have HB1 := Lib.hid (HQ.out.trans (hb.mono (by rw [← hD]; exact HQ.out.size))); have KD1 := Lib.hid (HKD.out.below hb (Nat.le_refl _)); have KU1 := Lib.hid (HKU.out.below hb (Nat.le_refl _)); have SD1 := Lib.hid (SD.out.below hb (Nat.le_refl _)); have SU1 := Lib.hid (SU.out.below hb (Nat.le_refl _)); have HE1 := Lib.hid (HE.out.below hb (Nat.le_refl _)); clear hb k0 k1' kl u0 u1 ul; have k0 := KD1.out.cell 0 _ rfl; have k1' := KD1.out.cell 1 _ rfl; have kl := KD1.out.lt; have u0 := KU1.out.cell 0 _ rfl; have u1 := KU1.out.cell 1 _ rfl; have ul := KU1.out.lt))
    go_ret
    exact ⟨_, rfl, rfl, by first | exact HB9.out | (rw [hD]; exact HB9.out)⟩
  have d3 : decide ((6 : Int) < (m : Int)) = false := by simp only [decide_eq_false_iff_not]; omega
  have d4 : decide (6 < m) = false := by simp only [decide_eq_false_iff_not]; omega
  by_cases h40 : 40 < us.length
  · have d5 : decide ((40 : Int) < (us.length : Int)) = true := by simp only [decide_eq_true_eq]; omega
    have d6 : decide (40 < us.length) = true := by simp only [decide_eq_true_eq]; omega
    go_enter Tryz.func6, Tryz.ntmps6
    go_wp2_with (first
      | (go_at_call 8; (try rw [HW.out]); (with_reducible refine (awake47 w1 HE1.out).mono ?_); rintro e w9 ⟨v, rfl, rfl, hb⟩; have HB9 := Lib.hid (HB1.out.trans (hb.mono (by rw [← hD]; exact HB1.out.size))); clear hb)
      | (go_at_call 27; (try rw [HW.out]); (with_reducible refine (HC.out).mono ?_); rintro e w1 ⟨v, rfl, rfl, hb⟩; have HB1 := Lib.hid (HQ.out.trans (hb.mono (by rw [← hD]; exact HQ.out.size))); have KD1 := Lib.hid (HKD.out.below hb (Nat.le_refl _)); have KU1 := Lib.hid (HKU.out.below hb (Nat.le_refl _)); have SD1 := Lib.hid (SD.out.below hb (Nat.le_refl _)); have SU1 := Lib.hid (SU.out.below hb (Nat.le_refl _)); have HE1 := Lib.hid (HE.out.below hb (Nat.le_refl _)); clear hb k0 k1' kl u0 u1 ul; have k0 := KD1.out.cell 0 _ rfl; have k1' := KD1.out.cell 1 _ rfl; have kl := KD1.out.lt; have u0 := KU1.out.cell 0 _ rfl; have u1 := KU1.out.cell 1 _ rfl; have ul := KU1.out.lt))
    go_ret
    exact ⟨_, rfl, rfl, by first | exact HB9.out | (rw [hD]; exact HB9.out)⟩
  have d5 : decide ((40 : Int) < (us.length : Int)) = false := by simp only [decide_eq_false_iff_not]; omega
  have d6 : decide (40 < us.length) = false := by simp only [decide_eq_false_iff_not]; omega
  by_cases h60 : 60 < (sgl ns).length
  · have d7 : decide ((60 : Int) < ((sgl ns).length : Int)) = true := by simp only [decide_eq_true_eq]; omega
    have d8 : decide (60 < (sgl ns).length) = true := by simp only [decide_eq_true_eq]; omega
    go_enter Tryz.func6, Tryz.ntmps6
    go_wp2_with (first
      | (go_at_call 8; (try rw [HW.out]); (with_reducible refine (awake47 w2 HE2.out).mono ?_); rintro e w9 ⟨v, rfl, rfl, hb⟩; have HB9 := Lib.hid (HB2.out.trans (hb.mono (by rw [← hD]; exact HB2.out.size))); clear hb)
      | (go_at_call 28; (try rw [HW.out]); (with_reducible refine (rSingles_any w1 m _ ns SD1.out HM.out (by omega)).mono ?_); rintro e w2 ⟨v, rfl, hO, hb⟩; obtain ⟨ea, ec, rfl⟩ := own_formK hO; clear hO; have HB2 := Lib.hid (HB1.out.trans (hb.mono (by rw [← hD]; exact HB1.out.size))); have KD2 := Lib.hid (KD1.out.below hb (Nat.le_refl _)); have KU2 := Lib.hid (KU1.out.below hb (Nat.le_refl _)); have SD2 := Lib.hid (SD1.out.below hb (Nat.le_refl _)); have SU2 := Lib.hid (SU1.out.below hb (Nat.le_refl _)); have HE2 := Lib.hid (HE1.out.below hb (Nat.le_refl _)); clear hb k0 k1' kl u0 u1 ul; have k0 := KD2.out.cell 0 _ rfl; have k1' := KD2.out.cell 1 _ rfl; have kl := KD2.out.lt; have u0 := KU2.out.cell 0 _ rfl; have u1 := KU2.out.cell 1 _ rfl; have ul := KU2.out.lt)
      | (go_at_call 27; (try rw [HW.out]); (with_reducible refine (HC.out).mono ?_); rintro e w1 ⟨v, rfl, rfl, hb⟩; have HB1 := Lib.hid (HQ.out.trans (hb.mono (by rw [← hD]; exact HQ.out.size))); have KD1 := Lib.hid (HKD.out.below hb (Nat.le_refl _)); have KU1 := Lib.hid (HKU.out.below hb (Nat.le_refl _)); have SD1 := Lib.hid (SD.out.below hb (Nat.le_refl _)); have SU1 := Lib.hid (SU.out.below hb (Nat.le_refl _)); have HE1 := Lib.hid (HE.out.below hb (Nat.le_refl _)); clear hb k0 k1' kl u0 u1 ul; have k0 := KD1.out.cell 0 _ rfl; have k1' := KD1.out.cell 1 _ rfl; have kl := KD1.out.lt; have u0 := KU1.out.cell 0 _ rfl; have u1 := KU1.out.cell 1 _ rfl; have ul := KU1.out.lt))
    go_ret
    exact ⟨_, rfl, rfl, by first | exact HB9.out | (rw [hD]; exact HB9.out)⟩
  have d7 : decide ((60 : Int) < ((sgl ns).length : Int)) = false := by simp only [decide_eq_false_iff_not]; omega
  have d8 : decide (60 < (sgl ns).length) = false := by simp only [decide_eq_false_iff_not]; omega
  obtain ⟨e, hc1, hc2, hc3⟩ := check_all (m : Nat) (ns.map n3) at_ us (by rw [HNL.out]; omega)
  have HRC := Lib.hid hc2
  by_cases h0 : e = 0
  rotate_left
  · have he0 : (e == 0) = false := by rw [beq_eq_false_iff_ne]; exact h0
    have he1 : (e != 0) = true := by simp [bne, he0]
    clear h0 hc1 hc2 hc3
    go_enter Tryz.func6, Tryz.ntmps6
    go_wp2_with (first
      | (go_at_call 8; (try rw [HW.out]); (with_reducible refine (awake47 w3 HE3.out).mono ?_); rintro e w9 ⟨v, rfl, rfl, hb⟩; have HB9 := Lib.hid (HB3.out.trans (hb.mono (by rw [← hD]; exact HB3.out.size))); clear hb)
      | (go_at_call 16; (try rw [HW.out]); (with_reducible refine (HRC.out w2 _ _ SD2.out SU2.out).mono ?_); rintro e w3 ⟨v, rfl, rfl, hb⟩; have HB3 := Lib.hid (HB2.out.trans (hb.mono (by rw [← hD]; exact HB2.out.size))); have KD3 := Lib.hid (KD2.out.below hb (Nat.le_refl _)); have KU3 := Lib.hid (KU2.out.below hb (Nat.le_refl _)); have SD3 := Lib.hid (SD2.out.below hb (Nat.le_refl _)); have SU3 := Lib.hid (SU2.out.below hb (Nat.le_refl _)); have HE3 := Lib.hid (HE2.out.below hb (Nat.le_refl _)); clear hb k0 k1' kl u0 u1 ul; have k0 := KD3.out.cell 0 _ rfl; have k1' := KD3.out.cell 1 _ rfl; have kl := KD3.out.lt; have u0 := KU3.out.cell 0 _ rfl; have u1 := KU3.out.cell 1 _ rfl; have ul := KU3.out.lt)
      | (go_at_call 28; (try rw [HW.out]); (with_reducible refine (rSingles_any w1 m _ ns SD1.out HM.out (by omega)).mono ?_); rintro e w2 ⟨v, rfl, hO, hb⟩; obtain ⟨ea, ec, rfl⟩ := own_formK hO; clear hO; have HB2 := Lib.hid (HB1.out.trans (hb.mono (by rw [← hD]; exact HB1.out.size))); have KD2 := Lib.hid (KD1.out.below hb (Nat.le_refl _)); have KU2 := Lib.hid (KU1.out.below hb (Nat.le_refl _)); have SD2 := Lib.hid (SD1.out.below hb (Nat.le_refl _)); have SU2 := Lib.hid (SU1.out.below hb (Nat.le_refl _)); have HE2 := Lib.hid (HE1.out.below hb (Nat.le_refl _)); clear hb k0 k1' kl u0 u1 ul; have k0 := KD2.out.cell 0 _ rfl; have k1' := KD2.out.cell 1 _ rfl; have kl := KD2.out.lt; have u0 := KU2.out.cell 0 _ rfl; have u1 := KU2.out.cell 1 _ rfl; have ul := KU2.out.lt)
      | (go_at_call 27; (try rw [HW.out]); (with_reducible refine (HC.out).mono ?_); rintro e w1 ⟨v, rfl, rfl, hb⟩; have HB1 := Lib.hid (HQ.out.trans (hb.mono (by rw [← hD]; exact HQ.out.size))); have KD1 := Lib.hid (HKD.out.below hb (Nat.le_refl _)); have KU1 := Lib.hid (HKU.out.below hb (Nat.le_refl _)); have SD1 := Lib.hid (SD.out.below hb (Nat.le_refl _)); have SU1 := Lib.hid (SU.out.below hb (Nat.le_refl _)); have HE1 := Lib.hid (HE.out.below hb (Nat.le_refl _)); clear hb k0 k1' kl u0 u1 ul; have k0 := KD1.out.cell 0 _ rfl; have k1' := KD1.out.cell 1 _ rfl; have kl := KD1.out.lt; have u0 := KU1.out.cell 0 _ rfl; have u1 := KU1.out.cell 1 _ rfl; have ul := KU1.out.lt))
    go_ret
    exact ⟨_, rfl, rfl, by first | exact HB9.out | (rw [hD]; exact HB9.out)⟩
  obtain ⟨m', ns', a, q1, q2, rfl, -, hE, hG⟩ := hc3.1 h0
  obtain rfl : m = m' := by omega
  obtain rfl : ns = ns' := n3_map_inj q2
  subst h0
  clear q1 q2 hc1 hc2 hc3
  obtain ⟨k8, rfl⟩ : ∃ k8 : Nat, k = (k8 : Int) := ⟨k.toNat, by omega⟩
  obtain ⟨t1, t2, t3⟩ := eul_home HR.out hE hG
  have hrg := sgl_rng HR.out
  have HEU := Lib.hid hE; have HGU := Lib.hid hG; have HT2 := Lib.hid t2
  obtain ⟨SL, hSL⟩ : ∃ SL, (sgl ns).length = SL := ⟨_, rfl⟩
  have HSL := Lib.hid hSL
  obtain ⟨kk, hkk⟩ : ∃ kk, k8 % (SL + 1) = kk := ⟨_, rfl⟩
  have hkl : kk ≤ SL := by rw [← hkk]; exact Nat.le_of_lt_succ (Nat.mod_lt _ (Nat.succ_pos _))
  have hmod : Int.tmod (k8 : Int) ((SL : Int) + 1) = (kk : Int) := by rw [← hkk]; rw [show (SL : Int) + 1 = ((SL + 1 : Nat) : Int) by simp]; rfl
  have hmo0 : ¬ ((SL : Int) + 1) = 0 := by omega
  have HG2 := Lib.hid (good_run HR.out.le hG hrg kk)
  have hS6 : SL ≤ 60 := by omega
  have hw8 : IntKind.i64.wrap (k8 : Int) = (k8 : Int) := by rw [IntKind.wrap_i64]; omega
  have hwr : IntKind.i64.wrap ((SL : Int) + 1) = (SL : Int) + 1 := by rw [IntKind.wrap_i64]; omega
  have HWK := Lib.hid (fun (Z : World) (u t : Value) (h1 : SlK e3 3 Z u (ns.map n3)) (h2 : SlK iz 1 Z t us) => EWalk_ok Z m u ns a t us kk HR.out h1 (by omega) h2 HEU.out HGU.out (by omega))
  have HWS := Lib.hid (fun (Z : World) (u t : Value) (h1 : SlK e3 3 Z u (ns.map n3)) (h2 : SlK iz 1 Z t us) => (by
    have h := EWalk_good Z m u ns a t us SL HR.out h1 (by omega) h2 HEU.out HGU.out (by omega)
    rw [hSL] at t1 t3
    rw [t1, ← t3] at h
    exact h : Calls Tryz.prog 13 #[.agg #[.int .i64 (m : Nat), u], .agg #[.int .i64 (a : Nat), t], .int .i64 (SL : Nat)] Z (RetW Z (a : Nat) us (Rot.run (sgl ns) (rot us) a SL).2 0)))
  have HVF := Lib.hid (fun (Z : World) (u l : Value) (h1 : SlK e3 3 Z u (ns.map n3)) (h2 : SlK i1 1 Z l (Rot.run (sgl ns) (rot us) a SL).2) => (by
    have ht := HT2.out
    rw [hSL] at ht
    have hl4 : (Rot.run (sgl ns) (rot us) a SL).2.length ≤ 4096 := by rw [ht.1]; omega
    exact Verify_ok Z m u l ns _ 0 HR.out h1 (by omega) h2 ht.2.2.2.1 hl4 (by have := ht.2.1; rw [ht.1] at this; exact this) (.inl ⟨ht.1, ht, rfl⟩) : Calls Tryz.prog 29 #[.agg #[.int .i64 (m : Nat), u], l] Z (Rets fun r w' => r = .int .i64 0 ∧ Below Z.heap.size Z w')))
  have HCK := Lib.hid (fun (Z : World) (u t : Value) (h1 : SlK e3 3 Z u (ns.map n3)) (h2 : SlK iz 1 Z t (natI (rotK (sgl ns) us m (Rot.run (sgl ns) (rot us) a kk).2))) => EChk_zero Z m u ns _ t _ HR.out h1 (by omega) h2 HEU.out HG2.out)
  obtain ⟨A1, hA1⟩ : ∃ A, (Rot.run (sgl ns) (rot us) a kk).1 = A := ⟨_, rfl⟩
  obtain ⟨N1, hN1⟩ : ∃ R, rotK (sgl ns) us m (Rot.run (sgl ns) (rot us) a kk).2 = R := ⟨_, rfl⟩
  have HNL1 := Lib.hid (show m = (natI N1).length by rw [← hN1]; simp [natI, rotK])
  obtain ⟨L1, hL1⟩ : ∃ L, (Rot.run (sgl ns) (rot us) a kk).2 = L := ⟨_, rfl⟩
  obtain ⟨L2, hL2⟩ : ∃ L, (Rot.run (sgl ns) (rot us) a SL).2 = L := ⟨_, rfl⟩
  rw [hA1, hN1] at HWK HCK
  rw [hL1] at HWK
  rw [hL2] at HWS HVF
  clear hE hG t1 t2 t3 hkk hSL hA1 hN1 hL1 hL2 hrg HG2 HT2
  rw [HSL.out] at d7 d8
  go_enter Tryz.func6, Tryz.ntmps6
  go_wp2_with (first
    | (go_at_call 28; (try rw [HW.out]); (with_reducible refine (rSingles_any w3 m _ ns SD3.out HM.out (by omega)).mono ?_); rintro e w4 ⟨v, rfl, hO, hb⟩; rw [HSL.out] at hO; obtain ⟨eb, ec2, rfl⟩ := own_formK hO; clear hO; have HB4 := Lib.hid (HB3.out.trans (hb.mono (by rw [← hD]; exact HB3.out.size))); have KD4 := Lib.hid (KD3.out.below hb (Nat.le_refl _)); have KU4 := Lib.hid (KU3.out.below hb (Nat.le_refl _)); have SD4 := Lib.hid (SD3.out.below hb (Nat.le_refl _)); have SU4 := Lib.hid (SU3.out.below hb (Nat.le_refl _)); have HE4 := Lib.hid (HE3.out.below hb (Nat.le_refl _)); clear hb k0 k1' kl u0 u1 ul; have k0 := KD4.out.cell 0 _ rfl; have k1' := KD4.out.cell 1 _ rfl; have kl := KD4.out.lt; have u0 := KU4.out.cell 0 _ rfl; have u1 := KU4.out.cell 1 _ rfl; have ul := KU4.out.lt)
    | (go_at_call 16; (try rw [HW.out]); (with_reducible refine (HRC.out w2 _ _ SD2.out SU2.out).mono ?_); rintro e w3 ⟨v, rfl, rfl, hb⟩; have HB3 := Lib.hid (HB2.out.trans (hb.mono (by rw [← hD]; exact HB2.out.size))); have KD3 := Lib.hid (KD2.out.below hb (Nat.le_refl _)); have KU3 := Lib.hid (KU2.out.below hb (Nat.le_refl _)); have SD3 := Lib.hid (SD2.out.below hb (Nat.le_refl _)); have SU3 := Lib.hid (SU2.out.below hb (Nat.le_refl _)); have HE3 := Lib.hid (HE2.out.below hb (Nat.le_refl _)); clear hb k0 k1' kl u0 u1 ul; have k0 := KD3.out.cell 0 _ rfl; have k1' := KD3.out.cell 1 _ rfl; have kl := KD3.out.lt; have u0 := KU3.out.cell 0 _ rfl; have u1 := KU3.out.cell 1 _ rfl; have ul := KU3.out.lt)
    | (go_at_call 28; (try rw [HW.out]); (with_reducible refine (rSingles_any w1 m _ ns SD1.out HM.out (by omega)).mono ?_); rintro e w2 ⟨v, rfl, hO, hb⟩; rw [HSL.out] at hO; obtain ⟨ea, ec, rfl⟩ := own_formK hO; clear hO; have HB2 := Lib.hid (HB1.out.trans (hb.mono (by rw [← hD]; exact HB1.out.size))); have KD2 := Lib.hid (KD1.out.below hb (Nat.le_refl _)); have KU2 := Lib.hid (KU1.out.below hb (Nat.le_refl _)); have SD2 := Lib.hid (SD1.out.below hb (Nat.le_refl _)); have SU2 := Lib.hid (SU1.out.below hb (Nat.le_refl _)); have HE2 := Lib.hid (HE1.out.below hb (Nat.le_refl _)); clear hb k0 k1' kl u0 u1 ul; have k0 := KD2.out.cell 0 _ rfl; have k1' := KD2.out.cell 1 _ rfl; have kl := KD2.out.lt; have u0 := KU2.out.cell 0 _ rfl; have u1 := KU2.out.cell 1 _ rfl; have ul := KU2.out.lt)
    | (go_at_call 27; (try rw [HW.out]); (with_reducible refine (HC.out).mono ?_); rintro e w1 ⟨v, rfl, rfl, hb⟩; have HB1 := Lib.hid (HQ.out.trans (hb.mono (by rw [← hD]; exact HQ.out.size))); have KD1 := Lib.hid (HKD.out.below hb (Nat.le_refl _)); have KU1 := Lib.hid (HKU.out.below hb (Nat.le_refl _)); have SD1 := Lib.hid (SD.out.below hb (Nat.le_refl _)); have SU1 := Lib.hid (SU.out.below hb (Nat.le_refl _)); have HE1 := Lib.hid (HE.out.below hb (Nat.le_refl _)); clear hb k0 k1' kl u0 u1 ul; have k0 := KD1.out.cell 0 _ rfl; have k1' := KD1.out.cell 1 _ rfl; have kl := KD1.out.lt; have u0 := KU1.out.cell 0 _ rfl; have u1 := KU1.out.cell 1 _ rfl; have ul := KU1.out.lt))
  have HS := Lib.hid (fun (w' : World) (hb : Below w4.heap.size w4 w') => (⟨(KD4.out.below hb (Nat.le_refl _)).cell 0 _ rfl, (KD4.out.below hb (Nat.le_refl _)).cell 1 _ rfl, (KU4.out.below hb (Nat.le_refl _)).cell 0 _ rfl, (KU4.out.below hb (Nat.le_refl _)).cell 1 _ rfl⟩ : w'.cell? ⟨D, 0, none⟩ = some (.int .i64 (m : Nat)) ∧ w'.cell? ⟨D, 1, none⟩ = some (.slice ad ns.length c) ∧ w'.cell? ⟨D + 1, 0, none⟩ = some (.int .i64 (a : Nat)) ∧ w'.cell? ⟨D + 1, 1, none⟩ = some (.slice ru us.length cu)))
  have HBd := Lib.hid (show Below w4.heap.size w4 w4.drew from (Below.refl _ w4).drew)
  have HS0 := Lib.hid (HS.out w4.drew HBd.out)
  clear k0 k1' kl u0 u1 ul
  go_cut [8, 9, 10] (fun p8 p9 p10 wx => ∃ g q cap, p8 = .pointer (some ⟨g, 0, none⟩) ∧ p10 = .int .i64 0 ∧ Hid (Blk wx g [.int .i64 (A1 : Nat), .slice (some ⟨q, 0, none⟩) m cap] 38) ∧ Hid (SlK iz 1 wx (.slice (some ⟨q, 0, none⟩) m cap) (natI N1)) ∧ Hid (SlK i1 1 wx p9 L1) ∧ Hid (Below w4.heap.size w4 wx))
  case first =>
    refine wp_regionJ (S := fun w' => w'.cell? ⟨D, 0, none⟩ = some (.int .i64 (m : Nat)) ∧ w'.cell? ⟨D, 1, none⟩ = some (.slice ad ns.length c) ∧ w'.cell? ⟨D + 1, 0, none⟩ = some (.int .i64 (a : Nat)) ∧ w'.cell? ⟨D + 1, 1, none⟩ = some (.slice ru us.length cu)) (A := fun _ => true) (by kernel_rfl) ?_
    refine wpAnyJ_take (i := 0) (oi := { dst := some 51, op := .load _ (.tmp 3), type := _, pos := _, after := _, guard := _ }) (v := ?_) rfl (by kernel_rfl) (by kernel_rfl) (by kernel_rfl) (early_sat (by kernel_rfl)) (fun _ _ _ h => h) (Or.inl ⟨by rfl, ?_⟩) HS0.out ?_
    rotate_left
    · intro wl hSw
      obtain ⟨s0, s1, s2, s3⟩ := hSw
      go_simp
      with_reducible rfl
    simp only [Act.put, List.setIfInBounds_toArray, List.set_cons_zero, List.set_cons_succ]
    refine wpAnyJ_take (i := 1) (oi := { dst := some 52, op := .load _ (.tmp 4), type := _, pos := _, after := _, guard := _ }) (v := ?_) rfl (by kernel_rfl) (by kernel_rfl) (by kernel_rfl) (early_sat (by kernel_rfl)) (fun _ _ _ h => h) (Or.inl ⟨by rfl, ?_⟩) HS0.out ?_
    rotate_left
    · intro wl hSw
      obtain ⟨s0, s1, s2, s3⟩ := hSw
      go_simp
      with_reducible rfl
    simp only [Act.put, List.setIfInBounds_toArray, List.set_cons_zero, List.set_cons_succ]
    refine wpAnyJ_take (i := 2) (oi := { dst := some 53, op := .move (.tmp 2), type := _, pos := _, after := _, guard := _ }) (v := ?_) rfl (by kernel_rfl) (by kernel_rfl) (by kernel_rfl) (early_sat (by kernel_rfl)) (fun _ _ _ h => h) (Or.inl ⟨by rfl, ?_⟩) HS0.out ?_
    rotate_left
    · intro wl hSw
      obtain ⟨s0, s1, s2, s3⟩ := hSw
      go_simp
      with_reducible rfl
    simp only [Act.put, List.setIfInBounds_toArray, List.set_cons_zero, List.set_cons_succ]
    refine wpAnyJ_take (i := 3) (oi := { dst := some 54, op := _, type := _, pos := _, after := _, guard := _ }) (v := ?_) rfl (by kernel_rfl) (by kernel_rfl) (by kernel_rfl) (early_sat (by kernel_rfl)) (fun _ _ _ h => h) (Or.inl ⟨by rfl, ?_⟩) HS0.out ?_
    rotate_left
    · intro wl hSw
      obtain ⟨s0, s1, s2, s3⟩ := hSw
      go_simp
      with_reducible rfl
    simp only [Act.put, List.setIfInBounds_toArray, List.set_cons_zero, List.set_cons_succ]
    refine wpAnyJ_take (i := 4) (oi := { dst := some 55, op := .move (.tmp 7), type := _, pos := _, after := _, guard := _ }) (v := ?_) rfl (by kernel_rfl) (by kernel_rfl) (by kernel_rfl) (early_sat (by kernel_rfl)) (fun _ _ _ h => h) (Or.inl ⟨by rfl, ?_⟩) HS0.out ?_
    rotate_left
    · intro wl hSw
      obtain ⟨s0, s1, s2, s3⟩ := hSw
      go_simp
      with_reducible rfl
    simp only [Act.put, List.setIfInBounds_toArray, List.set_cons_zero, List.set_cons_succ]
    refine wpAnyJ_take (i := 5) (oi := { dst := some 56, op := .binOp _ _ (.tmp 55) _ _, type := _, pos := _, after := _, guard := _ }) (v := ?_) rfl (by kernel_rfl) (by kernel_rfl) (by kernel_rfl) (early_sat (by kernel_rfl)) (fun _ _ _ h => h) (Or.inl ⟨by rfl, ?_⟩) HS0.out ?_
    rotate_left
    · intro wl hSw
      obtain ⟨s0, s1, s2, s3⟩ := hSw
      go_simp
      with_reducible rfl
    simp only [Act.put, List.setIfInBounds_toArray, List.set_cons_zero, List.set_cons_succ]
    refine wpAnyJ_take (i := 6) (oi := { dst := some 57, op := .binOp _ _ (.tmp 54) (.tmp 56) _, type := _, pos := _, after := _, guard := _ }) (v := ?_) rfl (by kernel_rfl) (by kernel_rfl) (by kernel_rfl) (early_sat (by kernel_rfl)) (fun _ _ _ h => h) (Or.inl ⟨by rfl, ?_⟩) HS0.out ?_
    rotate_left
    · intro wl hSw
      obtain ⟨s0, s1, s2, s3⟩ := hSw
      go_simp
      with_reducible rfl
    simp only [Act.put, List.setIfInBounds_toArray, List.set_cons_zero, List.set_cons_succ]
    refine wpAnyJ_pair (i := 7) (j := 12) (o := { dst := some 58, op := _, type := _, pos := _, after := _, guard := _ }) (o' := { dst := some 8, op := _, type := _, pos := _, after := _, guard := _ }) (by kernel_rfl) rfl rfl (fun K hK => ?_) (fun K hK => ?_)
    · go_simp
      refine (HWK.out w4.drew _ _ (SD4.out.below HBd.out (Nat.le_refl _)) (SU4.out.below HBd.out (Nat.le_refl _))).mono ?_
      rintro x5 w5 ⟨v, rfl, q5, c5, v5, rfl, s5, l5, hb⟩
      have HS5 := Lib.hid s5; have HL5 := Lib.hid l5
      have HB5 := Lib.hid (HBd.out.trans (hb.mono HBd.out.size))
      clear hb s5 l5
      have hs5 := HS.out w5 HB5.out
      refine hK.out _ _ (fun _ => hs5) ?_
      try simp only [Act.put, List.setIfInBounds_toArray, List.set_cons_zero, List.set_cons_succ]
      clear hK K
      refine wpAnyJ_take (i := 8) (oi := { dst := some 50, op := .move (.tmp 58), type := _, pos := _, after := _, guard := _ }) (v := ?_) rfl (by kernel_rfl) (by kernel_rfl) (by kernel_rfl) (early_sat (by kernel_rfl)) (fun _ _ _ h => h) (Or.inl ⟨by rfl, ?_⟩) hs5 ?_
      rotate_left
      · intro wl hSw
        obtain ⟨s0, s1, s2, s3⟩ := hSw
        go_simp
        with_reducible rfl
      simp only [Act.put, List.setIfInBounds_toArray, List.set_cons_zero, List.set_cons_succ]
      refine wpAnyJ_take (i := 9) (oi := { dst := some 59, op := .extract (.tmp 50) 0, type := _, pos := _, after := _, guard := _ }) (v := ?_) rfl (by kernel_rfl) (by kernel_rfl) (by kernel_rfl) (early_sat (by kernel_rfl)) (fun _ _ _ h => h) (Or.inl ⟨by rfl, ?_⟩) hs5 ?_
      rotate_left
      · intro wl hSw
        obtain ⟨s0, s1, s2, s3⟩ := hSw
        go_simp
        with_reducible rfl
      simp only [Act.put, List.setIfInBounds_toArray, List.set_cons_zero, List.set_cons_succ]
      refine wpAnyJ_take (i := 10) (oi := { dst := some 60, op := .extract (.tmp 50) 1, type := _, pos := _, after := _, guard := _ }) (v := ?_) rfl (by kernel_rfl) (by kernel_rfl) (by kernel_rfl) (early_sat (by kernel_rfl)) (fun _ _ _ h => h) (Or.inl ⟨by rfl, ?_⟩) hs5 ?_
      rotate_left
      · intro wl hSw
        obtain ⟨s0, s1, s2, s3⟩ := hSw
        go_simp
        with_reducible rfl
      simp only [Act.put, List.setIfInBounds_toArray, List.set_cons_zero, List.set_cons_succ]
      refine wpAnyJ_take (i := 11) (oi := { dst := some 61, op := .extract (.tmp 50) 2, type := _, pos := _, after := _, guard := _ }) (v := ?_) rfl (by kernel_rfl) (by kernel_rfl) (by kernel_rfl) (early_sat (by kernel_rfl)) (fun _ _ _ h => h) (Or.inl ⟨by rfl, ?_⟩) hs5 ?_
      rotate_left
      · intro wl hSw
        obtain ⟨s0, s1, s2, s3⟩ := hSw
        go_simp
        with_reducible rfl
      simp only [Act.put, List.setIfInBounds_toArray, List.set_cons_zero, List.set_cons_succ]
      refine wpAnyJ_only (i := 12) (o := { dst := some 8, op := _, type := _, pos := _, after := _, guard := _ }) (by kernel_rfl) rfl (fun K hK => ?_)
      go_simp
      have hs6 := HS.out (w5.alloc (.cells #[.int .i64 0, .slice none 0 0] 38)) (HB5.out.alloc HB5.out.size _)
      refine hK.out _ _ (fun _ => hs6) ?_
      try simp only [Act.put, List.setIfInBounds_toArray, List.set_cons_zero, List.set_cons_succ]
      clear hK K
      refine wpAnyJ_only (i := 13) (o := { dst := none, op := .store _ (.tmp 8) (.tmp 59), type := _, pos := _, after := _, guard := _ }) (by kernel_rfl) rfl (fun K hK => ?_)
      go_simp
      have hs13 := HS.out (w5.alloc (.cells #[.int .i64 (A1 : Nat), .slice (some ⟨q5, 0, none⟩) m c5] 38)) (HB5.out.alloc HB5.out.size _)
      refine hK.out _ _ (fun _ => hs13) ?_
      try simp only [Act.put, List.setIfInBounds_toArray, List.set_cons_zero, List.set_cons_succ]
      clear hK K
      refine wpAnyJ_take (i := 14) (oi := { dst := some 9, op := .assign (.tmp 60), type := _, pos := _, after := _, guard := _ }) (v := ?_) rfl (by kernel_rfl) (by kernel_rfl) (by kernel_rfl) (early_sat (by kernel_rfl)) (fun _ _ _ h => h) (Or.inl ⟨by rfl, ?_⟩) hs13 ?_
      rotate_left
      · intro wl hSw
        obtain ⟨s0, s1, s2, s3⟩ := hSw
        go_simp
        with_reducible rfl
      simp only [Act.put, List.setIfInBounds_toArray, List.set_cons_zero, List.set_cons_succ]
      refine wpAnyJ_take (i := 15) (oi := { dst := some 10, op := .assign (.tmp 61), type := _, pos := _, after := _, guard := _ }) (v := ?_) rfl (by kernel_rfl) (by kernel_rfl) (by kernel_rfl) (early_sat (by kernel_rfl)) (fun _ _ _ h => h) (Or.inl ⟨by rfl, ?_⟩) hs13 ?_
      rotate_left
      · intro wl hSw
        obtain ⟨s0, s1, s2, s3⟩ := hSw
        go_simp
        with_reducible rfl
      simp only [Act.put, List.setIfInBounds_toArray, List.set_cons_zero, List.set_cons_succ]
      refine wpAnyJ_done (by kernel_rfl) ?_ _
      go_wp2
      go_meet
      case rel => exact ⟨w5.heap.size, q5, c5, rfl, rfl, Lib.hid (Blk.new w5 [.int .i64 (A1 : Nat), .slice (some ⟨q5, 0, none⟩) m c5] _), Lib.hid (by have h := HS5.out.alloc (.cells #[.int .i64 (A1 : Nat), .slice (some ⟨q5, 0, none⟩) m c5] 38); rw [ints_natI] at h; exact SlK.ofOwns iz_len h HNL1.out), Lib.hid (by have h := HL5.out.alloc (.cells #[.int .i64 (A1 : Nat), .slice (some ⟨q5, 0, none⟩) m c5] 38); rw [ints_flat] at h; exact SlK.ofOwns i1_len h rfl), Lib.hid (HB5.out.alloc HB5.out.size _)⟩
    · go_simp
      have HBa := Lib.hid (HBd.out.alloc HBd.out.size (.cells #[.int .i64 0, .slice none 0 0] 38))
      have hs4 := HS.out (w4.drew.alloc (.cells #[.int .i64 0, .slice none 0 0] 38)) HBa.out
      refine hK.out _ _ (fun _ => hs4) ?_
      try simp only [Act.put, List.setIfInBounds_toArray, List.set_cons_zero, List.set_cons_succ]
      clear hK K
      refine wpAnyJ_only (i := 7) (o := { dst := some 58, op := _, type := _, pos := _, after := _, guard := _ }) (by kernel_rfl) rfl (fun K hK => ?_)
      go_simp
      refine (HWK.out (w4.drew.alloc (.cells #[.int .i64 0, .slice none 0 0] 38)) _ _ (SD4.out.below HBa.out (Nat.le_refl _)) (SU4.out.below HBa.out (Nat.le_refl _))).mono ?_
      rintro x5 w5 ⟨v, rfl, q5, c5, v5, rfl, s5, l5, hb⟩
      have HS5 := Lib.hid s5; have HL5 := Lib.hid l5
      have HB5 := Lib.hid (HBa.out.trans (hb.mono HBa.out.size))
      have HN5 := Lib.hid ((show Blk (w4.drew.alloc (.cells #[.int .i64 0, .slice none 0 0] 38)) w4.heap.size [.int .i64 0, .slice none 0 0] 38 from Blk.new w4.drew _ _).below hb (Nat.le_refl _))
      clear hb s5 l5
      have hs5 := HS.out w5 HB5.out
      have m0 := HN5.out.cell 0 _ rfl; have m1 := HN5.out.cell 1 _ rfl; have f0 := HN5.out.free 0; have f1 := HN5.out.free 1; have hml := HN5.out.lt
      refine hK.out _ _ (fun _ => hs5) ?_
      try simp only [Act.put, List.setIfInBounds_toArray, List.set_cons_zero, List.set_cons_succ]
      clear hK K
      refine wpAnyJ_take (i := 8) (oi := { dst := some 50, op := .move (.tmp 58), type := _, pos := _, after := _, guard := _ }) (v := ?_) rfl (by kernel_rfl) (by kernel_rfl) (by kernel_rfl) (early_sat (by kernel_rfl)) (fun _ _ _ h => h) (Or.inl ⟨by rfl, ?_⟩) hs5 ?_
      rotate_left
      · intro wl hSw
        obtain ⟨s0, s1, s2, s3⟩ := hSw
        go_simp
        with_reducible rfl
      simp only [Act.put, List.setIfInBounds_toArray, List.set_cons_zero, List.set_cons_succ]
      refine wpAnyJ_take (i := 9) (oi := { dst := some 59, op := .extract (.tmp 50) 0, type := _, pos := _, after := _, guard := _ }) (v := ?_) rfl (by kernel_rfl) (by kernel_rfl) (by kernel_rfl) (early_sat (by kernel_rfl)) (fun _ _ _ h => h) (Or.inl ⟨by rfl, ?_⟩) hs5 ?_
      rotate_left
      · intro wl hSw
        obtain ⟨s0, s1, s2, s3⟩ := hSw
        go_simp
        with_reducible rfl
      simp only [Act.put, List.setIfInBounds_toArray, List.set_cons_zero, List.set_cons_succ]
      refine wpAnyJ_take (i := 10) (oi := { dst := some 60, op := .extract (.tmp 50) 1, type := _, pos := _, after := _, guard := _ }) (v := ?_) rfl (by kernel_rfl) (by kernel_rfl) (by kernel_rfl) (early_sat (by kernel_rfl)) (fun _ _ _ h => h) (Or.inl ⟨by rfl, ?_⟩) hs5 ?_
      rotate_left
      · intro wl hSw
        obtain ⟨s0, s1, s2, s3⟩ := hSw
        go_simp
        with_reducible rfl
      simp only [Act.put, List.setIfInBounds_toArray, List.set_cons_zero, List.set_cons_succ]
      refine wpAnyJ_take (i := 11) (oi := { dst := some 61, op := .extract (.tmp 50) 2, type := _, pos := _, after := _, guard := _ }) (v := ?_) rfl (by kernel_rfl) (by kernel_rfl) (by kernel_rfl) (early_sat (by kernel_rfl)) (fun _ _ _ h => h) (Or.inl ⟨by rfl, ?_⟩) hs5 ?_
      rotate_left
      · intro wl hSw
        obtain ⟨s0, s1, s2, s3⟩ := hSw
        go_simp
        with_reducible rfl
      simp only [Act.put, List.setIfInBounds_toArray, List.set_cons_zero, List.set_cons_succ]
      refine wpAnyJ_only (i := 13) (o := { dst := none, op := .store _ (.tmp 8) (.tmp 59), type := _, pos := _, after := _, guard := _ }) (by kernel_rfl) rfl (fun K hK => ?_)
      go_simp
      have hs13 := HS.out ((w5.setCell ⟨w4.heap.size, 0, none⟩ (.int .i64 (A1 : Nat))).setCell ⟨w4.heap.size, 1, none⟩ (.slice (some ⟨q5, 0, none⟩) m c5)) ((HB5.out.setCell (p := ⟨w4.heap.size, 0, none⟩) (Nat.le_refl _) _).setCell (p := ⟨w4.heap.size, 1, none⟩) (Nat.le_refl _) _)
      refine hK.out _ _ (fun _ => hs13) ?_
      try simp only [Act.put, List.setIfInBounds_toArray, List.set_cons_zero, List.set_cons_succ]
      clear hK K
      refine wpAnyJ_take (i := 14) (oi := { dst := some 9, op := .assign (.tmp 60), type := _, pos := _, after := _, guard := _ }) (v := ?_) rfl (by kernel_rfl) (by kernel_rfl) (by kernel_rfl) (early_sat (by kernel_rfl)) (fun _ _ _ h => h) (Or.inl ⟨by rfl, ?_⟩) hs13 ?_
      rotate_left
      · intro wl hSw
        obtain ⟨s0, s1, s2, s3⟩ := hSw
        go_simp
        with_reducible rfl
      simp only [Act.put, List.setIfInBounds_toArray, List.set_cons_zero, List.set_cons_succ]
      refine wpAnyJ_take (i := 15) (oi := { dst := some 10, op := .assign (.tmp 61), type := _, pos := _, after := _, guard := _ }) (v := ?_) rfl (by kernel_rfl) (by kernel_rfl) (by kernel_rfl) (early_sat (by kernel_rfl)) (fun _ _ _ h => h) (Or.inl ⟨by rfl, ?_⟩) hs13 ?_
      rotate_left
      · intro wl hSw
        obtain ⟨s0, s1, s2, s3⟩ := hSw
        go_simp
        with_reducible rfl
      simp only [Act.put, List.setIfInBounds_toArray, List.set_cons_zero, List.set_cons_succ]
      refine wpAnyJ_done (by kernel_rfl) ?_ _
      clear m0 m1 f0 f1 hml
      go_wp2
      go_meet
      case rel => exact ⟨w4.heap.size, q5, c5, rfl, rfl, Lib.hid ((HN5.out.set 0 (.int .i64 (A1 : Nat))).set 1 (.slice (some ⟨q5, 0, none⟩) m c5)), Lib.hid (by have h := own_otherK (g := w4.heap.size) (j := 1) (u := .slice (some ⟨q5, 0, none⟩) m c5) (own_otherK (g := w4.heap.size) (j := 0) (u := .int .i64 (A1 : Nat)) HS5.out (fun e => by have h := own_ge HS5.out _ e; rw [World.size_alloc] at h; exact absurd h (Nat.not_succ_le_self _))) (fun e => by have h := own_ge HS5.out _ e; rw [World.size_alloc] at h; exact absurd h (Nat.not_succ_le_self _)); rw [ints_natI] at h; exact SlK.ofOwns iz_len h HNL1.out), Lib.hid (by have h := own_otherK (g := w4.heap.size) (j := 1) (u := .slice (some ⟨q5, 0, none⟩) m c5) (own_otherK (g := w4.heap.size) (j := 0) (u := .int .i64 (A1 : Nat)) HL5.out (fun e => by have h := own_ge HL5.out _ e; rw [World.size_alloc] at h; exact absurd h (Nat.not_succ_le_self _))) (fun e => by have h := own_ge HL5.out _ e; rw [World.size_alloc] at h; exact absurd h (Nat.not_succ_le_self _)); rw [ints_flat] at h; exact SlK.ofOwns i1_len h rfl), Lib.hid ((HB5.out.setCell (p := ⟨w4.heap.size, 0, none⟩) (by simp) _).setCell (p := ⟨w4.heap.size, 1, none⟩) (by simp) _)⟩
  case rest =>
    obtain ⟨g, q, cap, rfl, rfl, hBX, hSX, hLX, hBW⟩ := hcut
    clear HS HS0 HBd hLX
    have HB5 := Lib.hid (HB4.out.trans (hBW.out.mono (by rw [← hD]; exact HB4.out.size)))
    have KD5 := Lib.hid (KD4.out.below hBW.out (Nat.le_refl _)); have KU5 := Lib.hid (KU4.out.below hBW.out (Nat.le_refl _)); have SD5 := Lib.hid (SD4.out.below hBW.out (Nat.le_refl _)); have SU5 := Lib.hid (SU4.out.below hBW.out (Nat.le_refl _)); have HE5 := Lib.hid (HE4.out.below hBW.out (Nat.le_refl _)); have KX5 := hBX; have SX5 := hSX
    clear hBW hBX hSX
    have cKD0 := KD5.out.cell 0 _ rfl; have cKD1 := KD5.out.cell 1 _ rfl; have cKDl := KD5.out.lt; have cKU0 := KU5.out.cell 0 _ rfl; have cKU1 := KU5.out.cell 1 _ rfl; have cKUl := KU5.out.lt; have cKX0 := KX5.out.cell 0 _ rfl; have cKX1 := KX5.out.cell 1 _ rfl; have cKXl := KX5.out.lt
    go_wp2_with (first
      | (go_at_call 8; (with_reducible refine (awake47 w9 HE9.out).mono ?_); rintro e w10 ⟨v, rfl, rfl, hb⟩; have HB10 := Lib.hid (HB9.out.trans (hb.mono (by rw [← hD]; exact HB9.out.size))); clear hb; clear cKD0 cKD1 cKDl cKU0 cKU1 cKUl cKX0 cKX1 cKXl cKY0 cKY1 cKYl)
      | (go_at_call 17; (with_reducible refine (Same_same w8 (a : Nat) _ _ us SY8.out SU8.out).mono ?_); rintro e w9 ⟨v, rfl, rfl, hb⟩; have HB9 := Lib.hid (HB8.out.trans (hb.mono (by rw [← hD]; exact HB8.out.size))); have KD9 := Lib.hid (KD8.out.below hb (Nat.le_refl _)); have KU9 := Lib.hid (KU8.out.below hb (Nat.le_refl _)); have KX9 := Lib.hid (KX8.out.below hb (Nat.le_refl _)); have KY9 := Lib.hid (KY8.out.below hb (Nat.le_refl _)); have HE9 := Lib.hid (HE8.out.below hb (Nat.le_refl _)); clear hb; clear cKD0 cKD1 cKDl cKU0 cKU1 cKUl cKX0 cKX1 cKXl cKY0 cKY1 cKYl; have cKD0 := KD9.out.cell 0 _ rfl; have cKD1 := KD9.out.cell 1 _ rfl; have cKDl := KD9.out.lt; have cKU0 := KU9.out.cell 0 _ rfl; have cKU1 := KU9.out.cell 1 _ rfl; have cKUl := KU9.out.lt; have cKX0 := KX9.out.cell 0 _ rfl; have cKX1 := KX9.out.cell 1 _ rfl; have cKXl := KX9.out.lt; have cKY0 := KY9.out.cell 0 _ rfl; have cKY1 := KY9.out.cell 1 _ rfl; have cKYl := KY9.out.lt)
      | (go_at_call 29; (with_reducible refine (HVF.out w7 _ _ SD7.out LY7.out).mono ?_); rintro e w8 ⟨v, rfl, rfl, hb⟩; have HB8 := Lib.hid (HB7.out.trans (hb.mono (by rw [← hD]; exact HB7.out.size))); have KD8 := Lib.hid (KD7.out.below hb (Nat.le_refl _)); have KU8 := Lib.hid (KU7.out.below hb (Nat.le_refl _)); have KX8 := Lib.hid (KX7.out.below hb (Nat.le_refl _)); have KY8 := Lib.hid (KY7.out.below hb (Nat.le_refl _)); have HE8 := Lib.hid (HE7.out.below hb (Nat.le_refl _)); have SY8 := Lib.hid (SY7.out.below hb (Nat.le_refl _)); have SU8 := Lib.hid (SU7.out.below hb (Nat.le_refl _)); clear hb; clear cKD0 cKD1 cKDl cKU0 cKU1 cKUl cKX0 cKX1 cKXl cKY0 cKY1 cKYl; have cKD0 := KD8.out.cell 0 _ rfl; have cKD1 := KD8.out.cell 1 _ rfl; have cKDl := KD8.out.lt; have cKU0 := KU8.out.cell 0 _ rfl; have cKU1 := KU8.out.cell 1 _ rfl; have cKUl := KU8.out.lt; have cKX0 := KX8.out.cell 0 _ rfl; have cKX1 := KX8.out.cell 1 _ rfl; have cKXl := KX8.out.lt; have cKY0 := KY8.out.cell 0 _ rfl; have cKY1 := KY8.out.cell 1 _ rfl; have cKYl := KY8.out.lt)
      | (go_at_call 15; (try rw [HW6.out]); (with_reducible refine (HCK.out w6 _ _ SD6.out SX6.out).mono ?_); rintro e w7 ⟨v, rfl, rfl, hb⟩; have HB7 := Lib.hid (HB6.out.trans (hb.mono (by rw [← hD]; exact HB6.out.size))); have KD7 := Lib.hid (KD6.out.below hb (Nat.le_refl _)); have KU7 := Lib.hid (KU6.out.below hb (Nat.le_refl _)); have KX7 := Lib.hid (KX6.out.below hb (Nat.le_refl _)); have KY7 := Lib.hid (KY6.out.below hb (Nat.le_refl _)); have SD7 := Lib.hid (SD6.out.below hb (Nat.le_refl _)); have SU7 := Lib.hid (SU6.out.below hb (Nat.le_refl _)); have HE7 := Lib.hid (HE6.out.below hb (Nat.le_refl _)); have LY7 := Lib.hid (LY6.out.below hb (Nat.le_refl _)); have SY7 := Lib.hid (SY6.out.below hb (Nat.le_refl _)); clear hb; clear cKD0 cKD1 cKDl cKU0 cKU1 cKUl cKX0 cKX1 cKXl cKY0 cKY1 cKYl; have cKD0 := KD7.out.cell 0 _ rfl; have cKD1 := KD7.out.cell 1 _ rfl; have cKDl := KD7.out.lt; have cKU0 := KU7.out.cell 0 _ rfl; have cKU1 := KU7.out.cell 1 _ rfl; have cKUl := KU7.out.lt; have cKX0 := KX7.out.cell 0 _ rfl; have cKX1 := KX7.out.cell 1 _ rfl; have cKXl := KX7.out.lt; have cKY0 := KY7.out.cell 0 _ rfl; have cKY1 := KY7.out.cell 1 _ rfl; have cKYl := KY7.out.lt)
      | (go_at_call 13; (with_reducible refine (HWS.out wc _ _ SD5.out SU5.out).mono ?_); rintro e z6 ⟨v, rfl, p6, v6, rfl, s6, l6, hb6⟩; obtain ⟨a6, c6, rfl⟩ := s6.form; obtain ⟨w6, hW6⟩ : ∃ W, z6.alloc (.cells #[.int .i64 (a : Nat), .slice a6 us.length c6] 38) = W := ⟨_, rfl⟩; have HW6 := Lib.hid hW6; have hb : Below wc.heap.size wc w6 := (by rw [← hW6]; exact hb6.alloc hb6.size _); have hz : Below z6.heap.size z6 w6 := (by rw [← hW6]; exact (Below.refl _ z6).alloc (Nat.le_refl _) _); have KY6 := Lib.hid (show Blk w6 z6.heap.size [.int .i64 (a : Nat), .slice a6 us.length c6] 38 by rw [← hW6]; exact Blk.new z6 _ _); have SY6 := Lib.hid (s6.below hz (Nat.le_refl _)); have LY6 := Lib.hid (l6.below hz (Nat.le_refl _)); have HB6 := Lib.hid (HB5.out.trans (hb.mono (by rw [← hD]; exact HB5.out.size))); have KD6 := Lib.hid (KD5.out.below hb (Nat.le_refl _)); have KU6 := Lib.hid (KU5.out.below hb (Nat.le_refl _)); have KX6 := Lib.hid (KX5.out.below hb (Nat.le_refl _)); have SD6 := Lib.hid (SD5.out.below hb (Nat.le_refl _)); have SU6 := Lib.hid (SU5.out.below hb (Nat.le_refl _)); have HE6 := Lib.hid (HE5.out.below hb (Nat.le_refl _)); have SX6 := Lib.hid (SX5.out.below hb (Nat.le_refl _)); have KDz := Lib.hid (KD5.out.below hb6 (Nat.le_refl _)); have KUz := Lib.hid (KU5.out.below hb6 (Nat.le_refl _)); have KXz := Lib.hid (KX5.out.below hb6 (Nat.le_refl _)); clear hb hz hb6 s6 l6 hW6 cKD0 cKD1 cKDl cKU0 cKU1 cKUl cKX0 cKX1 cKXl; have cKD0 := KDz.out.cell 0 _ rfl; have cKD1 := KDz.out.cell 1 _ rfl; have cKDl := KDz.out.lt; have cKU0 := KUz.out.cell 0 _ rfl; have cKU1 := KUz.out.cell 1 _ rfl; have cKUl := KUz.out.lt; have cKX0 := KXz.out.cell 0 _ rfl; have cKX1 := KXz.out.cell 1 _ rfl; have cKXl := KXz.out.lt; have cKY0 := KY6.out.cell 0 _ rfl; have cKY1 := KY6.out.cell 1 _ rfl; have cKYl := KY6.out.lt))
    go_ret
    exact ⟨_, rfl, rfl, by first | exact HB10.out | (rw [hD]; exact HB10.out)⟩
end Go.Proofs.YtlnhocgjgmhfgaaGreatDoor
