/- The law EulerWalks. -/
import Derived.Test.YtlnhocgjgmhfgaaGreatDoorPk41
import Derived.Test.YtlnhocgjgmhfgaaGreatDoorPk37
import Derived.Test.YtlnhocgjgmhfgaaGreatDoorPk14
import Derived.Test.YtlnhocgjgmhfgaaGreatDoorPk11
namespace Go.Proofs.YtlnhocgjgmhfgaaGreatDoor
open Go.RowKit
set_option maxRecDepth 100000

theorem few47_ex (n : Int) (es : List (Int × Int × Int)) : ∃ t : Bool, (t = true → es.length ≤ 200) ∧ ∀ (w : World) (v : Value), SlK e3 3 w v es → Calls Tryz.prog 12 #[.agg #[.int .i64 n, v]] w (Rets fun r w' => r = .bool t ∧ Below w.heap.size w w') := by
  by_cases h1 : 200 < es.length
  · refine ⟨false, fun h => absurd h (by decide), fun w v hv => ?_⟩
    obtain ⟨ad, c, rfl⟩ := hv.form
    have HQ := Lib.hid ((Below.refl w.heap.size w).alloc (Nat.le_refl _) (.cells #[.int .i64 n, .slice ad es.length c] 28))
    have d1 : decide ((200 : Int) < (es.length : Int)) = true := by simp only [decide_eq_true_eq]; omega
    have d2 : decide (200 < es.length) = true := by simp only [decide_eq_true_eq]; omega
    clear h1 hv
    go_enter Tryz.func12, Tryz.ntmps12
    go_wp2
    go_ret
    exact ⟨_, rfl, rfl, HQ.out⟩
  have key : ∀ (t : Bool), (chkDg n es ≠ 0 → t = true) → (∀ (m : Nat) (ns : List (Nat × Nat × Nat)), n = (m : Nat) → es = ns.map n3 → RD m ns → t = (decide (m ≤ 6) && decide ((sgl ns).length ≤ 8))) → ∀ (w : World) (v : Value), SlK e3 3 w v es → Calls Tryz.prog 12 #[.agg #[.int .i64 n, v]] w (Rets fun r w' => r = .bool t ∧ Below w.heap.size w w') := by
    intro t ht1 ht2 w v hv
    obtain ⟨ad, c, rfl⟩ := hv.form
    obtain ⟨D, hD⟩ : ∃ D, w.heap.size = D := ⟨_, rfl⟩
    obtain ⟨W, hW⟩ : ∃ W, w.alloc (.cells #[.int .i64 n, .slice ad es.length c] 28) = W := ⟨_, rfl⟩
    have k : Blk W D [.int .i64 n, .slice ad es.length c] 28 := by rw [← hW, ← hD]; exact Blk.new w _ _
    have q : Below D w W := by rw [← hW, ← hD]; exact (Below.refl _ w).alloc (Nat.le_refl _) _
    have HK := Lib.hid k; have HQ := Lib.hid q
    have HV := Lib.hid (hv.below q (Nat.le_of_eq hD))
    have HC := Lib.hid (rDCheck_any W n _ es HV.out)
    have HW := Lib.hid hW
    have k0 := k.cell 0 _ rfl; have k1 := k.cell 1 _ rfl; have kl := k.lt
    have d1 : decide ((200 : Int) < (es.length : Int)) = false := by simp only [decide_eq_false_iff_not]; omega
    have d2 : decide (200 < es.length) = false := by simp only [decide_eq_false_iff_not]; omega
    by_cases hk : chkDg n es = 0
    · obtain ⟨m, ns, rfl, rfl, hR⟩ := rd_of hk
      have HT := Lib.hid (ht2 m ns rfl rfl hR)
      have HM := Lib.hid (show ∀ x ∈ ns, x.2.2 ≤ 50 from fun x hx => (hR.rng x hx).2.2.2)
      rw [List.length_map] at *
      rw [hk] at HC
      by_cases h6 : m ≤ 6
      · have e1 : decide ((m : Int) ≤ 6) = true := by simp only [decide_eq_true_eq]; omega
        have e2 : decide (m ≤ 6) = true := by simp only [decide_eq_true_eq]; omega
        have HT2 := Lib.hid (show t = decide ((sgl ns).length ≤ 8) by rw [HT.out, e2, Bool.true_and])
        have HT3 : Hid (decide (((sgl ns).length : Int) ≤ 8) = t) := Lib.hid (by
          rw [HT2.out, Bool.eq_iff_iff, decide_eq_true_iff, decide_eq_true_iff]; omega)
        clear ht1 ht2 hk h6 k q hW hv hR
        go_enter Tryz.func12, Tryz.ntmps12
        go_wp2_with (first
          | (go_at_call 28; (with_reducible refine (rSingles_any w1 m _ ns HV1.out HM.out (by omega)).mono ?_); rintro e w2 ⟨v, rfl, hO, hb⟩; obtain ⟨ea, ec, rfl⟩ := own_formK hO; have HB2 := Lib.hid (HB1.out.trans (hb.mono (by rw [← hD]; exact HB1.out.size))); clear hO hb; have e3 := HT3.out; have e4 := HT2.out.symm)
          | (go_at_call 27; (try rw [HW.out]); (with_reducible refine HC.out.mono ?_); rintro e w1 ⟨v, rfl, rfl, hb⟩; have HB1 := Lib.hid (HQ.out.trans (hb.mono (by rw [← hD]; exact HQ.out.size))); have HV1 := Lib.hid (HV.out.below hb (Nat.le_refl _)); have HK1 := Lib.hid (HK.out.below hb (Nat.le_refl _)); clear hb k0 k1 kl; have k0 := HK1.out.cell 0 _ rfl; have k1 := HK1.out.cell 1 _ rfl; have kl := HK1.out.lt))
        go_ret
        exact ⟨_, rfl, rfl, by first | exact HB2.out | (rw [hD]; exact HB2.out)⟩
      · have e1 : decide ((m : Int) ≤ 6) = false := by simp only [decide_eq_false_iff_not]; omega
        have e2 : decide (m ≤ 6) = false := by simp only [decide_eq_false_iff_not]; omega
        have HT2 : Hid (t = false) := Lib.hid (by rw [HT.out, e2, Bool.false_and])
        clear ht1 ht2 hk h6 k q hW hv hR
        go_enter Tryz.func12, Tryz.ntmps12
        go_wp2_with (go_at_call 27; (try rw [HW.out]); (with_reducible refine HC.out.mono ?_); rintro e w1 ⟨v, rfl, rfl, hb⟩; have HB1 := Lib.hid (HQ.out.trans (hb.mono (by rw [← hD]; exact HQ.out.size))); have HK1 := Lib.hid (HK.out.below hb (Nat.le_refl _)); clear hb k0 k1 kl; have k0 := HK1.out.cell 0 _ rfl; have k1 := HK1.out.cell 1 _ rfl; have kl := HK1.out.lt)
        go_ret
        exact ⟨_, rfl, congrArg Value.bool HT2.out.symm, by first | exact HB1.out | (rw [hD]; exact HB1.out)⟩
    · have HT := Lib.hid (ht1 hk)
      obtain ⟨K, hK⟩ : ∃ K, chkDg n es = K := ⟨_, rfl⟩
      rw [hK] at hk HC
      have he : (K == 0) = false := by rw [beq_eq_false_iff_ne]; exact hk
      clear ht1 ht2 hk k q hW hv hK
      go_enter Tryz.func12, Tryz.ntmps12
      go_wp2_with (go_at_call 27; (try rw [HW.out]); (with_reducible refine HC.out.mono ?_); rintro e w1 ⟨v, rfl, rfl, hb⟩; have HB1 := Lib.hid (HQ.out.trans (hb.mono (by rw [← hD]; exact HQ.out.size))); clear hb)
      go_ret
      exact ⟨_, rfl, congrArg Value.bool HT.out.symm, by first | exact HB1.out | (rw [hD]; exact HB1.out)⟩
  by_cases hk : chkDg n es = 0
  · obtain ⟨m, ns, h2, h3, hR⟩ := rd_of hk
    refine ⟨decide (m ≤ 6) && decide ((sgl ns).length ≤ 8), fun _ => by omega, key _ (fun h => absurd hk h) ?_⟩
    intro m' ns' h4 h5 _
    obtain rfl : m = m' := by omega
    have h7 : ns = ns' := n3_map_inj (by rw [← h3, ← h5])
    rw [h7]
  · refine ⟨true, fun _ => by omega, key _ (fun _ => rfl) ?_⟩
    rintro m ns rfl rfl hR
    exact absurd (chkDg_rd hR) hk

set_option maxHeartbeats 8000000 in
theorem eulWalks_any (w : World) (n : Int) (v : Value) (es : List (Int × Int × Int)) (at_ : Int) (rv : Value) (us : List Int) (k : Int) (hv : SlK e3 3 w v es) (hu : SlK iz 1 w rv us) (_ : -9223372036854775808 ≤ k ∧ k ≤ 9223372036854775807) (he : Env w) :
    Calls Tryz.prog 4 #[.agg #[.int .i64 n, v], .agg #[.int .i64 at_, rv], .int .i64 k] w (Rets fun r w' => r = .bool true ∧ Below w.heap.size w w') := by
  obtain ⟨ad, c, rfl⟩ := hv.form
  obtain ⟨ru, cu, rfl⟩ := hu.form
  obtain ⟨D, hD⟩ : ∃ D, w.heap.size = D := ⟨_, rfl⟩
  obtain ⟨W1, hW1⟩ : ∃ W, w.alloc (.cells #[.int .i64 n, .slice ad es.length c] 28) = W := ⟨_, rfl⟩
  obtain ⟨W, hW⟩ : ∃ W, W1.alloc (.cells #[.int .i64 at_, .slice ru us.length cu] 38) = W := ⟨_, rfl⟩
  have z1 : W1.heap.size = D + 1 := by rw [← hW1, World.size_alloc, hD]
  have k1 : Blk W1 D [.int .i64 n, .slice ad es.length c] 28 := by rw [← hW1, ← hD]; exact Blk.new w _ _
  have HKD := Lib.hid (show Blk W D [.int .i64 n, .slice ad es.length c] 28 by rw [← hW]; exact k1.alloc _)
  have HKU := Lib.hid (show Blk W (D + 1) [.int .i64 at_, .slice ru us.length cu] 38 by rw [← hW, ← z1]; exact Blk.new W1 _ _)
  have HQ := Lib.hid (show Below D w W by
    have q1 : Below D w W1 := by rw [← hW1, ← hD]; exact (Below.refl _ w).alloc (Nat.le_refl _) _
    rw [← hW]; exact q1.alloc (by rw [z1]; omega) _)
  have SD := Lib.hid (hv.below HQ.out (Nat.le_of_eq hD)); have SU := Lib.hid (hu.below HQ.out (Nat.le_of_eq hD)); have HE := Lib.hid (he.below HQ.out (Nat.le_of_eq hD))
  have HW : Hid ((w.alloc (.cells #[.int .i64 n, .slice ad es.length c] 28)).alloc (.cells #[.int .i64 at_, .slice ru us.length cu] 38) = W) := Lib.hid (by rw [hW1, hW])
  have k0 := HKD.out.cell 0 _ rfl; have k1' := HKD.out.cell 1 _ rfl; have kl := HKD.out.lt
  have u0 := HKU.out.cell 0 _ rfl; have u1 := HKU.out.cell 1 _ rfl; have ul := HKU.out.lt
  obtain ⟨t, htl, hF⟩ := few47_ex n es
  have HF := Lib.hid hF; have HTL := Lib.hid htl
  clear k1 hW1 hW z1 hv hu he hF htl
  cases t
  · go_enter Tryz.func4, Tryz.ntmps4
    go_wp2_with (first
      | (go_at_call 8; (with_reducible refine (awake47 w1 HE1.out).mono ?_); rintro e w2 ⟨v, rfl, rfl, hb⟩; have HB2 := Lib.hid (HB1.out.trans (hb.mono (by rw [← hD]; exact HB1.out.size))); clear hb)
      | (go_at_call 12; (try rw [HW.out]); (with_reducible refine (HF.out W _ SD.out).mono ?_); rintro e w1 ⟨v, rfl, rfl, hb⟩; have HB1 := Lib.hid (HQ.out.trans (hb.mono (by rw [← hD]; exact HQ.out.size))); have KD1 := Lib.hid (HKD.out.below hb (Nat.le_refl _)); have KU1 := Lib.hid (HKU.out.below hb (Nat.le_refl _)); have SD1 := Lib.hid (SD.out.below hb (Nat.le_refl _)); have SU1 := Lib.hid (SU.out.below hb (Nat.le_refl _)); have HE1 := Lib.hid (HE.out.below hb (Nat.le_refl _)); clear hb k0 k1' kl u0 u1 ul; have k0 := KD1.out.cell 0 _ rfl; have k1' := KD1.out.cell 1 _ rfl; have kl := KD1.out.lt; have u0 := KU1.out.cell 0 _ rfl; have u1 := KU1.out.cell 1 _ rfl; have ul := KU1.out.lt))
    go_ret
    exact ⟨_, rfl, rfl, by first | exact HB2.out | (rw [hD]; exact HB2.out)⟩
  have hl := HTL.out rfl
  clear HTL
  by_cases h40 : 40 < us.length
  · have d1 : decide ((40 : Int) < (us.length : Int)) = true := by simp only [decide_eq_true_eq]; omega
    have d2 : decide (40 < us.length) = true := by simp only [decide_eq_true_eq]; omega
    clear h40
    go_enter Tryz.func4, Tryz.ntmps4
    go_wp2_with (first
      | (go_at_call 8; (with_reducible refine (awake47 w1 HE1.out).mono ?_); rintro e w2 ⟨v, rfl, rfl, hb⟩; have HB2 := Lib.hid (HB1.out.trans (hb.mono (by rw [← hD]; exact HB1.out.size))); clear hb)
      | (go_at_call 12; (try rw [HW.out]); (with_reducible refine (HF.out W _ SD.out).mono ?_); rintro e w1 ⟨v, rfl, rfl, hb⟩; have HB1 := Lib.hid (HQ.out.trans (hb.mono (by rw [← hD]; exact HQ.out.size))); have KD1 := Lib.hid (HKD.out.below hb (Nat.le_refl _)); have KU1 := Lib.hid (HKU.out.below hb (Nat.le_refl _)); have SD1 := Lib.hid (SD.out.below hb (Nat.le_refl _)); have SU1 := Lib.hid (SU.out.below hb (Nat.le_refl _)); have HE1 := Lib.hid (HE.out.below hb (Nat.le_refl _)); clear hb k0 k1' kl u0 u1 ul; have k0 := KD1.out.cell 0 _ rfl; have k1' := KD1.out.cell 1 _ rfl; have kl := KD1.out.lt; have u0 := KU1.out.cell 0 _ rfl; have u1 := KU1.out.cell 1 _ rfl; have ul := KU1.out.lt))
    go_ret
    exact ⟨_, rfl, rfl, by first | exact HB2.out | (rw [hD]; exact HB2.out)⟩
  have d1 : decide ((40 : Int) < (us.length : Int)) = false := by simp only [decide_eq_false_iff_not]; omega
  have d2 : decide (40 < us.length) = false := by simp only [decide_eq_false_iff_not]; omega
  obtain ⟨A, R, L, e, e2, h1, h2, h3, h4⟩ := walk_all n es at_ us k hl
  have K1 := Lib.hid h1; have K2 := Lib.hid h2; have K3 := Lib.hid h3; have K4 := Lib.hid h4
  clear h1 h2 h3 h4 h40 hl
  go_enter Tryz.func4, Tryz.ntmps4
  go_wp2_with (first
    | (go_at_call 14; rw [HW3.out]; (with_reducible refine (K4.out W3 _ _ SD3.out SU3.out).mono ?_); rintro e w4 ⟨v, rfl, p4, v4, rfl, s4, l4, hb⟩; obtain ⟨a4, c4, rfl⟩ := s4.form; have SB4 := Lib.hid s4; have LB4 := Lib.hid l4; have HB4 := Lib.hid hb; obtain ⟨W4, hW4⟩ : ∃ W, w4.alloc (.cells #[.int .i64 A, .slice a4 R.length c4] 42) = W := ⟨_, rfl⟩; have HW4 := Lib.hid hW4; have HN4 := Lib.hid (show Blk W4 w4.heap.size [.int .i64 A, .slice a4 R.length c4] 42 by rw [← hW4]; exact Blk.new w4 _ _); have HA4 := Lib.hid (show Below w4.heap.size w4 W4 by rw [← hW4]; exact (Below.refl _ w4).alloc (Nat.le_refl _) _); clear s4 l4 hb hW4 k0 k1' kl u0 u1 ul)
    | (go_at_call 13; (with_reducible refine (K3.out w1 _ _ SD1.out SU1.out).mono ?_); rintro e w2 ⟨v, rfl, p2, v2, rfl, s2, l2, hb⟩; obtain ⟨a2, c2, rfl⟩ := s2.form; obtain ⟨W3, hW3⟩ : ∃ W, w2.alloc (.cells #[.int .i64 A, .slice a2 R.length c2] 38) = W := ⟨_, rfl⟩; have HW3 := Lib.hid hW3; have q3 : Below w1.heap.size w1 W3 := (by rw [← hW3]; exact hb.alloc hb.size _); have q23 : Below w2.heap.size w2 W3 := (by rw [← hW3]; exact (Below.refl _ w2).alloc (Nat.le_refl _) _); have KA3 := Lib.hid (show Blk W3 w2.heap.size [.int .i64 A, .slice a2 R.length c2] 38 by rw [← hW3]; exact Blk.new w2 _ _); have SA3 := Lib.hid (s2.below q23 (Nat.le_refl _)); have LA3 := Lib.hid (l2.below q23 (Nat.le_refl _)); have HB3 := Lib.hid (HB1.out.trans (q3.mono (by rw [← hD]; exact HB1.out.size))); have KD3 := Lib.hid (KD1.out.below q3 (Nat.le_refl _)); have KU3 := Lib.hid (KU1.out.below q3 (Nat.le_refl _)); have SD3 := Lib.hid (SD1.out.below q3 (Nat.le_refl _)); have SU3 := Lib.hid (SU1.out.below q3 (Nat.le_refl _)); have HE3 := Lib.hid (HE1.out.below q3 (Nat.le_refl _)); have HL2 := Lib.hid (show w2.heap.size < W3.heap.size by rw [← hW3, World.size_alloc]; omega); have KD2 := Lib.hid (KD1.out.below hb (Nat.le_refl _)); have KU2 := Lib.hid (KU1.out.below hb (Nat.le_refl _)); clear hb s2 l2 hW3 q3 q23 k0 k1' kl u0 u1 ul; have k0 := KD2.out.cell 0 _ rfl; have k1' := KD2.out.cell 1 _ rfl; have kl := KD2.out.lt; have u0 := KU2.out.cell 0 _ rfl; have u1 := KU2.out.cell 1 _ rfl; have ul := KU2.out.lt)
    | (go_at_call 12; (try rw [HW.out]); (with_reducible refine (HF.out W _ SD.out).mono ?_); rintro e w1 ⟨v, rfl, rfl, hb⟩; have HB1 := Lib.hid (HQ.out.trans (hb.mono (by rw [← hD]; exact HQ.out.size))); have KD1 := Lib.hid (HKD.out.below hb (Nat.le_refl _)); have KU1 := Lib.hid (HKU.out.below hb (Nat.le_refl _)); have SD1 := Lib.hid (SD.out.below hb (Nat.le_refl _)); have SU1 := Lib.hid (SU.out.below hb (Nat.le_refl _)); have HE1 := Lib.hid (HE.out.below hb (Nat.le_refl _)); clear hb k0 k1' kl u0 u1 ul; have k0 := KD1.out.cell 0 _ rfl; have k1' := KD1.out.cell 1 _ rfl; have kl := KD1.out.lt; have u0 := KU1.out.cell 0 _ rfl; have u1 := KU1.out.cell 1 _ rfl; have ul := KU1.out.lt))
  rw [HW4.out]
  have HB34 := Lib.hid (HB4.out.trans (HA4.out.mono HB4.out.size))
  have HBT := Lib.hid (HB3.out.trans (HB34.out.mono (by rw [← hD]; exact HB3.out.size)))
  have KD := Lib.hid (KD3.out.below HB34.out (Nat.le_refl _)); have KU := Lib.hid (KU3.out.below HB34.out (Nat.le_refl _)); have KA := Lib.hid (KA3.out.below HB34.out (Nat.le_refl _)); have KB := HN4
  have SD := Lib.hid (SD3.out.below HB34.out (Nat.le_refl _)); have SU := Lib.hid (SU3.out.below HB34.out (Nat.le_refl _)); have SA := Lib.hid (SA3.out.below HB34.out (Nat.le_refl _)); have LA := Lib.hid (LA3.out.below HB34.out (Nat.le_refl _)); have HE := Lib.hid (HE3.out.below HB34.out (Nat.le_refl _))
  have SB := Lib.hid (SB4.out.below HA4.out (Nat.le_refl _)); have LB := Lib.hid (LB4.out.below HA4.out (Nat.le_refl _))
  clear HW3 HW4 HN4 HA4 HB4 SB4 LB4 HB1 KD1 KU1 SD1 SU1 HE1 KD3 KU3 KA3 SD3 SU3 SA3 LA3 HE3 HKD HKU HQ HW HF
  have HS := Lib.hid (fun (w' : World) (hb : Below W4.heap.size W4 w') => (⟨(KD.out.below hb (Nat.le_refl _)).cell 0 _ rfl, (KD.out.below hb (Nat.le_refl _)).cell 1 _ rfl, (KU.out.below hb (Nat.le_refl _)).cell 0 _ rfl, (KU.out.below hb (Nat.le_refl _)).cell 1 _ rfl, (KA.out.below hb (Nat.le_refl _)).cell 0 _ rfl, (KA.out.below hb (Nat.le_refl _)).cell 1 _ rfl, (KB.out.below hb (Nat.le_refl _)).cell 0 _ rfl, (KB.out.below hb (Nat.le_refl _)).cell 1 _ rfl⟩ : w'.cell? ⟨D, 0, none⟩ = some (.int .i64 n) ∧ w'.cell? ⟨D, 1, none⟩ = some (.slice ad es.length c) ∧ w'.cell? ⟨D + 1, 0, none⟩ = some (.int .i64 at_) ∧ w'.cell? ⟨D + 1, 1, none⟩ = some (.slice ru us.length cu) ∧ w'.cell? ⟨w2.heap.size, 0, none⟩ = some (.int .i64 A) ∧ w'.cell? ⟨w2.heap.size, 1, none⟩ = some (.slice a2 R.length c2) ∧ w'.cell? ⟨w4.heap.size, 0, none⟩ = some (.int .i64 A) ∧ w'.cell? ⟨w4.heap.size, 1, none⟩ = some (.slice a4 R.length c4)))
  have HBd := Lib.hid (show Below W4.heap.size W4 W4.drew from (Below.refl _ W4).drew)
  have HS0 := Lib.hid (HS.out W4.drew HBd.out)
  have EQL := Lib.hid (fun (z : World) (hb : Below W4.heap.size W4 z) => show Calls Tryz.prog 18 #[v2, v4] z (Rets fun r w' => r = .bool true ∧ Below z.heap.size z w') from by have := EqualI_any z _ _ L L (LA.out.below hb (Nat.le_refl _)) (LB.out.below hb (Nat.le_refl _)); rwa [decide_eq_true rfl] at this)
  refine wp_regionJ (S := fun w' => w'.cell? ⟨D, 0, none⟩ = some (.int .i64 n) ∧ w'.cell? ⟨D, 1, none⟩ = some (.slice ad es.length c) ∧ w'.cell? ⟨D + 1, 0, none⟩ = some (.int .i64 at_) ∧ w'.cell? ⟨D + 1, 1, none⟩ = some (.slice ru us.length cu) ∧ w'.cell? ⟨w2.heap.size, 0, none⟩ = some (.int .i64 A) ∧ w'.cell? ⟨w2.heap.size, 1, none⟩ = some (.slice a2 R.length c2) ∧ w'.cell? ⟨w4.heap.size, 0, none⟩ = some (.int .i64 A) ∧ w'.cell? ⟨w4.heap.size, 1, none⟩ = some (.slice a4 R.length c4)) (A := fun _ => true) (by kernel_rfl) ?_
  refine wpAnyJ_take (i := 0) (oi := { dst := some 39, op := .load _ (.tmp 3), type := _, pos := _, after := _, guard := _ }) (v := ?_) rfl (by kernel_rfl) (by kernel_rfl) (by kernel_rfl) (early_sat (by kernel_rfl)) (fun _ _ _ h => h) (Or.inl ⟨by rfl, ?_⟩) HS0.out ?_
  rotate_left
  · intro wl hSw
    obtain ⟨s0, s1, s2, s3, s4, s5, s6, s7⟩ := hSw
    go_simp
    with_reducible rfl
  simp only [Act.put, List.setIfInBounds_toArray, List.set_cons_zero, List.set_cons_succ]
  refine wpAnyJ_take (i := 1) (oi := { dst := some 40, op := .load _ (.tmp 4), type := _, pos := _, after := _, guard := _ }) (v := ?_) rfl (by kernel_rfl) (by kernel_rfl) (by kernel_rfl) (early_sat (by kernel_rfl)) (fun _ _ _ h => h) (Or.inl ⟨by rfl, ?_⟩) HS0.out ?_
  rotate_left
  · intro wl hSw
    obtain ⟨s0, s1, s2, s3, s4, s5, s6, s7⟩ := hSw
    go_simp
    with_reducible rfl
  simp only [Act.put, List.setIfInBounds_toArray, List.set_cons_zero, List.set_cons_succ]
  refine wpAnyJ_take (i := 3) (oi := { dst := some 42, op := .load _ (.tmp 3), type := _, pos := _, after := _, guard := _ }) (v := ?_) rfl (by kernel_rfl) (by kernel_rfl) (by kernel_rfl) (early_sat (by kernel_rfl)) (fun _ _ _ h => h) (Or.inl ⟨by rfl, ?_⟩) HS0.out ?_
  rotate_left
  · intro wl hSw
    obtain ⟨s0, s1, s2, s3, s4, s5, s6, s7⟩ := hSw
    go_simp
    with_reducible rfl
  simp only [Act.put, List.setIfInBounds_toArray, List.set_cons_zero, List.set_cons_succ]
  refine wpAnyJ_take (i := 4) (oi := { dst := some 43, op := .load _ (.tmp 4), type := _, pos := _, after := _, guard := _ }) (v := ?_) rfl (by kernel_rfl) (by kernel_rfl) (by kernel_rfl) (early_sat (by kernel_rfl)) (fun _ _ _ h => h) (Or.inl ⟨by rfl, ?_⟩) HS0.out ?_
  rotate_left
  · intro wl hSw
    obtain ⟨s0, s1, s2, s3, s4, s5, s6, s7⟩ := hSw
    go_simp
    with_reducible rfl
  simp only [Act.put, List.setIfInBounds_toArray, List.set_cons_zero, List.set_cons_succ]
  refine wpAnyJ_only (i := 2) (o := { dst := some 41, op := _, type := _, pos := _, after := _, guard := _ }) (by kernel_rfl) rfl (fun K hK => ?_)
  go_simp
  refine (K1.out W4.drew _ _ (SD.out.below HBd.out (Nat.le_refl _)) (SU.out.below HBd.out (Nat.le_refl _))).mono ?_
  rintro x7 w7 ⟨v, rfl, rfl, hb⟩
  have HB7 := Lib.hid (HBd.out.trans (hb.mono HBd.out.size))
  clear hb
  have hs7 := HS.out w7 HB7.out
  refine hK.out _ _ (fun _ => hs7) ?_
  try simp only [Act.put, List.setIfInBounds_toArray, List.set_cons_zero, List.set_cons_succ]
  clear hK K
  refine wpAnyJ_only (i := 5) (o := { dst := some 44, op := _, type := _, pos := _, after := _, guard := _ }) (by kernel_rfl) rfl (fun K hK => ?_)
  go_simp
  refine (K2.out w7 _ _ (SD.out.below HB7.out (Nat.le_refl _)) (SU.out.below HB7.out (Nat.le_refl _))).mono ?_
  rintro x8 w8 ⟨v, rfl, rfl, hb⟩
  have HB8 := Lib.hid (HB7.out.trans (hb.mono HB7.out.size))
  clear hb
  have hs8 := HS.out w8 HB8.out
  refine hK.out _ _ (fun _ => hs8) ?_
  try simp only [Act.put, List.setIfInBounds_toArray, List.set_cons_zero, List.set_cons_succ]
  clear hK K
  refine wpAnyJ_take (i := 6) (oi := { dst := some 45, op := .binOp _ _ (.tmp 41) (.tmp 44) _, type := _, pos := _, after := _, guard := _ }) (v := ?_) rfl (by kernel_rfl) (by kernel_rfl) (by kernel_rfl) (early_sat (by kernel_rfl)) (fun _ _ _ h => h) (Or.inl ⟨by rfl, ?_⟩) hs8 ?_
  rotate_left
  · intro wl hSw
    obtain ⟨s0, s1, s2, s3, s4, s5, s6, s7⟩ := hSw
    go_simp
    with_reducible rfl
  simp only [Act.put, List.setIfInBounds_toArray, List.set_cons_zero, List.set_cons_succ]
  refine wpAnyJ_take (i := 7) (oi := { dst := some 46, op := .move (.tmp 45), type := _, pos := _, after := _, guard := _ }) (v := ?_) rfl (by kernel_rfl) (by kernel_rfl) (by kernel_rfl) (early_sat (by kernel_rfl)) (fun _ _ _ h => h) (Or.inl ⟨by rfl, ?_⟩) hs8 ?_
  rotate_left
  · intro wl hSw
    obtain ⟨s0, s1, s2, s3, s4, s5, s6, s7⟩ := hSw
    go_simp
    with_reducible rfl
  simp only [Act.put, List.setIfInBounds_toArray, List.set_cons_zero, List.set_cons_succ]
  refine wpAnyJ_take (i := 8) (oi := { dst := some 47, op := .load _ (.tmp 7), type := _, pos := _, after := _, guard := _ }) (v := ?_) rfl (by kernel_rfl) (by kernel_rfl) (by kernel_rfl) (early_sat (by kernel_rfl)) (fun _ _ _ h => h) (Or.inl ⟨by rfl, ?_⟩) hs8 ?_
  rotate_left
  · intro wl hSw
    obtain ⟨s0, s1, s2, s3, s4, s5, s6, s7⟩ := hSw
    go_simp
    with_reducible rfl
  simp only [Act.put, List.setIfInBounds_toArray, List.set_cons_zero, List.set_cons_succ]
  refine wpAnyJ_take (i := 9) (oi := { dst := some 48, op := .load _ (.tmp 10), type := _, pos := _, after := _, guard := _ }) (v := ?_) rfl (by kernel_rfl) (by kernel_rfl) (by kernel_rfl) (early_sat (by kernel_rfl)) (fun _ _ _ h => h) (Or.inl ⟨by rfl, ?_⟩) hs8 ?_
  rotate_left
  · intro wl hSw
    obtain ⟨s0, s1, s2, s3, s4, s5, s6, s7⟩ := hSw
    go_simp
    with_reducible rfl
  simp only [Act.put, List.setIfInBounds_toArray, List.set_cons_zero, List.set_cons_succ]
  refine wpAnyJ_only (i := 10) (o := { dst := some 49, op := _, type := _, pos := _, after := _, guard := _ }) (by kernel_rfl) rfl (fun K hK => ?_)
  go_simp
  refine (Same_same w8 A _ _ R (SA.out.below HB8.out (Nat.le_refl _)) (SB.out.below HB8.out (Nat.le_refl _))).mono ?_
  rintro x9 w9 ⟨v, rfl, rfl, hb⟩
  have HB9 := Lib.hid (HB8.out.trans (hb.mono HB8.out.size))
  clear hb
  have hs9 := HS.out w9 HB9.out
  refine hK.out _ _ (fun _ => hs9) ?_
  try simp only [Act.put, List.setIfInBounds_toArray, List.set_cons_zero, List.set_cons_succ]
  clear hK K
  refine wpAnyJ_take (i := 11) (oi := { dst := some 50, op := _, type := _, pos := _, after := _, guard := _ }) (v := ?_) rfl (by kernel_rfl) (by kernel_rfl) (by kernel_rfl) (early_sat (by kernel_rfl)) (fun _ _ _ h => h) (Or.inl ⟨by rfl, ?_⟩) hs9 ?_
  rotate_left
  · intro wl hSw
    obtain ⟨s0, s1, s2, s3, s4, s5, s6, s7⟩ := hSw
    go_simp
    with_reducible rfl
  simp only [Act.put, List.setIfInBounds_toArray, List.set_cons_zero, List.set_cons_succ]
  refine wpAnyJ_take (i := 12) (oi := { dst := some 51, op := .move (.tmp 50), type := _, pos := _, after := _, guard := _ }) (v := ?_) rfl (by kernel_rfl) (by kernel_rfl) (by kernel_rfl) (early_sat (by kernel_rfl)) (fun _ _ _ h => h) (Or.inl ⟨by rfl, ?_⟩) hs9 ?_
  rotate_left
  · intro wl hSw
    obtain ⟨s0, s1, s2, s3, s4, s5, s6, s7⟩ := hSw
    go_simp
    with_reducible rfl
  simp only [Act.put, List.setIfInBounds_toArray, List.set_cons_zero, List.set_cons_succ]
  refine wpAnyJ_take (i := 13) (oi := { dst := some 52, op := .move (.tmp 8), type := _, pos := _, after := _, guard := _ }) (v := ?_) rfl (by kernel_rfl) (by kernel_rfl) (by kernel_rfl) (early_sat (by kernel_rfl)) (fun _ _ _ h => h) (Or.inl ⟨by rfl, ?_⟩) hs9 ?_
  rotate_left
  · intro wl hSw
    obtain ⟨s0, s1, s2, s3, s4, s5, s6, s7⟩ := hSw
    go_simp
    with_reducible rfl
  simp only [Act.put, List.setIfInBounds_toArray, List.set_cons_zero, List.set_cons_succ]
  refine wpAnyJ_take (i := 14) (oi := { dst := some 53, op := .move (.tmp 11), type := _, pos := _, after := _, guard := _ }) (v := ?_) rfl (by kernel_rfl) (by kernel_rfl) (by kernel_rfl) (early_sat (by kernel_rfl)) (fun _ _ _ h => h) (Or.inl ⟨by rfl, ?_⟩) hs9 ?_
  rotate_left
  · intro wl hSw
    obtain ⟨s0, s1, s2, s3, s4, s5, s6, s7⟩ := hSw
    go_simp
    with_reducible rfl
  simp only [Act.put, List.setIfInBounds_toArray, List.set_cons_zero, List.set_cons_succ]
  refine wpAnyJ_only (i := 15) (o := { dst := some 54, op := _, type := _, pos := _, after := _, guard := _ }) (by kernel_rfl) rfl (fun K hK => ?_)
  go_simp
  refine (EQL.out w9 HB9.out).mono ?_
  rintro x10 w10 ⟨v, rfl, rfl, hb⟩
  have HB10 := Lib.hid (HB9.out.trans (hb.mono HB9.out.size))
  clear hb
  have hs10 := HS.out w10 HB10.out
  refine hK.out _ _ (fun _ => hs10) ?_
  try simp only [Act.put, List.setIfInBounds_toArray, List.set_cons_zero, List.set_cons_succ]
  clear hK K
  refine wpAnyJ_take (i := 16) (oi := { dst := some 55, op := _, type := _, pos := _, after := _, guard := _ }) (v := ?_) rfl (by kernel_rfl) (by kernel_rfl) (by kernel_rfl) (early_sat (by kernel_rfl)) (fun _ _ _ h => h) (Or.inl ⟨by rfl, ?_⟩) hs10 ?_
  rotate_left
  · intro wl hSw
    obtain ⟨s0, s1, s2, s3, s4, s5, s6, s7⟩ := hSw
    go_simp
    with_reducible rfl
  simp only [Act.put, List.setIfInBounds_toArray, List.set_cons_zero, List.set_cons_succ]
  refine wpAnyJ_take (i := 17) (oi := { dst := some 56, op := .move (.tmp 55), type := _, pos := _, after := _, guard := _ }) (v := ?_) rfl (by kernel_rfl) (by kernel_rfl) (by kernel_rfl) (early_sat (by kernel_rfl)) (fun _ _ _ h => h) (Or.inl ⟨by rfl, ?_⟩) hs10 ?_
  rotate_left
  · intro wl hSw
    obtain ⟨s0, s1, s2, s3, s4, s5, s6, s7⟩ := hSw
    go_simp
    with_reducible rfl
  simp only [Act.put, List.setIfInBounds_toArray, List.set_cons_zero, List.set_cons_succ]
  refine wpAnyJ_take (i := 18) (oi := { dst := some 57, op := .move (.tmp 9), type := _, pos := _, after := _, guard := _ }) (v := ?_) rfl (by kernel_rfl) (by kernel_rfl) (by kernel_rfl) (early_sat (by kernel_rfl)) (fun _ _ _ h => h) (Or.inl ⟨by rfl, ?_⟩) hs10 ?_
  rotate_left
  · intro wl hSw
    obtain ⟨s0, s1, s2, s3, s4, s5, s6, s7⟩ := hSw
    go_simp
    with_reducible rfl
  simp only [Act.put, List.setIfInBounds_toArray, List.set_cons_zero, List.set_cons_succ]
  refine wpAnyJ_take (i := 19) (oi := { dst := some 58, op := .move (.tmp 12), type := _, pos := _, after := _, guard := _ }) (v := ?_) rfl (by kernel_rfl) (by kernel_rfl) (by kernel_rfl) (early_sat (by kernel_rfl)) (fun _ _ _ h => h) (Or.inl ⟨by rfl, ?_⟩) hs10 ?_
  rotate_left
  · intro wl hSw
    obtain ⟨s0, s1, s2, s3, s4, s5, s6, s7⟩ := hSw
    go_simp
    with_reducible rfl
  simp only [Act.put, List.setIfInBounds_toArray, List.set_cons_zero, List.set_cons_succ]
  refine wpAnyJ_take (i := 20) (oi := { dst := some 59, op := .binOp _ _ (.tmp 57) (.tmp 58) _, type := _, pos := _, after := _, guard := _ }) (v := ?_) rfl (by kernel_rfl) (by kernel_rfl) (by kernel_rfl) (early_sat (by kernel_rfl)) (fun _ _ _ h => h) (Or.inl ⟨by rfl, ?_⟩) hs10 ?_
  rotate_left
  · intro wl hSw
    obtain ⟨s0, s1, s2, s3, s4, s5, s6, s7⟩ := hSw
    go_simp
    with_reducible rfl
  simp only [Act.put, List.setIfInBounds_toArray, List.set_cons_zero, List.set_cons_succ]
  refine wpAnyJ_take (i := 21) (oi := { dst := some 60, op := _, type := _, pos := _, after := _, guard := _ }) (v := ?_) rfl (by kernel_rfl) (by kernel_rfl) (by kernel_rfl) (early_sat (by kernel_rfl)) (fun _ _ _ h => h) (Or.inl ⟨by rfl, ?_⟩) hs10 ?_
  rotate_left
  · intro wl hSw
    obtain ⟨s0, s1, s2, s3, s4, s5, s6, s7⟩ := hSw
    go_simp
    with_reducible rfl
  simp only [Act.put, List.setIfInBounds_toArray, List.set_cons_zero, List.set_cons_succ]
  refine wpAnyJ_take (i := 22) (oi := { dst := some 61, op := .move (.tmp 60), type := _, pos := _, after := _, guard := _ }) (v := ?_) rfl (by kernel_rfl) (by kernel_rfl) (by kernel_rfl) (early_sat (by kernel_rfl)) (fun _ _ _ h => h) (Or.inl ⟨by rfl, ?_⟩) hs10 ?_
  rotate_left
  · intro wl hSw
    obtain ⟨s0, s1, s2, s3, s4, s5, s6, s7⟩ := hSw
    go_simp
    with_reducible rfl
  simp only [Act.put, List.setIfInBounds_toArray, List.set_cons_zero, List.set_cons_succ]
  refine wpAnyJ_only (i := 23) (o := { dst := some 62, op := _, type := _, pos := _, after := _, guard := _ }) (by kernel_rfl) rfl (fun K hK => ?_)
  go_simp
  refine (awake47 w10 (HE.out.below HB10.out (Nat.le_refl _))).mono ?_
  rintro x11 w11 ⟨v, rfl, rfl, hb⟩
  have HB11 := Lib.hid (HB10.out.trans (hb.mono HB10.out.size))
  clear hb
  have hs11 := HS.out w11 HB11.out
  refine hK.out _ _ (fun _ => hs11) ?_
  try simp only [Act.put, List.setIfInBounds_toArray, List.set_cons_zero, List.set_cons_succ]
  clear hK K
  refine wpAnyJ_take (i := 24) (oi := { dst := some 63, op := _, type := _, pos := _, after := _, guard := _ }) (v := ?_) rfl (by kernel_rfl) (by kernel_rfl) (by kernel_rfl) (early_sat (by kernel_rfl)) (fun _ _ _ h => h) (Or.inl ⟨by rfl, ?_⟩) hs11 ?_
  rotate_left
  · intro wl hSw
    obtain ⟨s0, s1, s2, s3, s4, s5, s6, s7⟩ := hSw
    go_simp
    with_reducible rfl
  simp only [Act.put, List.setIfInBounds_toArray, List.set_cons_zero, List.set_cons_succ]
  refine wpAnyJ_take (i := 25) (oi := { dst := some 6, op := .assign (.tmp 63), type := _, pos := _, after := _, guard := _ }) (v := ?_) rfl (by kernel_rfl) (by kernel_rfl) (by kernel_rfl) (early_sat (by kernel_rfl)) (fun _ _ _ h => h) (Or.inl ⟨by rfl, ?_⟩) hs11 ?_
  rotate_left
  · intro wl hSw
    obtain ⟨s0, s1, s2, s3, s4, s5, s6, s7⟩ := hSw
    go_simp
    with_reducible rfl
  simp only [Act.put, List.setIfInBounds_toArray, List.set_cons_zero, List.set_cons_succ]
  refine wpAnyJ_done (by kernel_rfl) ?_ _
  go_wp2
  have HBZ := Lib.hid (HBT.out.trans (HB11.out.mono (by rw [← hD]; exact HBT.out.size)))
  go_ret
  exact ⟨_, rfl, rfl, by first | exact HBZ.out | (rw [hD]; exact HBZ.out)⟩
end Go.Proofs.YtlnhocgjgmhfgaaGreatDoor
