/- The law EulerProves. -/
import Derived.Test.YtlnhocgjgmhfgaaGreatDoorPk42
import Derived.Test.YtlnhocgjgmhfgaaGreatDoorPk39
import Derived.Test.YtlnhocgjgmhfgaaGreatDoorPk35
import Derived.Test.YtlnhocgjgmhfgaaGreatDoorPk16
import Derived.Test.YtlnhocgjgmhfgaaGreatDoorPk8
import Derived.Test.YtlnhocgjgmhfgaaGreatDoorPk37
namespace Go.Proofs.YtlnhocgjgmhfgaaGreatDoor
open Go.RowKit
set_option maxRecDepth 100000

/-- A part of a row. -/
theorem cells_drop {w : World} {b o : Nat} {l : List Nat} (h : CellsK i1 1 w b o l) (k : Nat) : CellsK i1 1 w b (o + k) (l.drop k) :=
  ⟨fun h0 => h.1 (by rw [List.length_drop] at h0; omega), fun i hi j u hu => by
    have hi2 : k + i < l.length := by rw [List.length_drop] at hi; omega
    have := h.2 (k + i) hi2 j u (by rwa [List.getElem_drop] at hu)
    rwa [show o + (k + i) * 1 + j = o + k + i * 1 + j by omega] at this⟩
theorem cells_take {w : World} {b o : Nat} {l : List Nat} (h : CellsK i1 1 w b o l) (k : Nat) : CellsK i1 1 w b o (l.take k) :=
  ⟨fun h0 => h.1 (by rw [List.length_take] at h0; omega), fun i hi j u hu => by
    have hi2 : i < l.length := by rw [List.length_take] at hi; omega
    exact h.2 i hi2 j u (by rwa [List.getElem_take] at hu)⟩

set_option maxHeartbeats 8000000 in
theorem eulProves_any (w : World) (n : Int) (v : Value) (es : List (Int × Int × Int)) (k : Int) (hv : SlK e3 3 w v es) (hk8 : 0 ≤ k ∧ k ≤ 255) (he : Env w) :
    Calls Tryz.prog 7 #[.agg #[.int .i64 n, v], .int .u8 k] w (Rets fun r w' => r = .bool true ∧ Below w.heap.size w w') := by
  obtain ⟨ad, c, rfl⟩ := hv.form
  obtain ⟨D, hD⟩ : ∃ D, w.heap.size = D := ⟨_, rfl⟩
  obtain ⟨W, hW⟩ : ∃ W, w.alloc (.cells #[.int .i64 n, .slice ad es.length c] 28) = W := ⟨_, rfl⟩
  have HKD := Lib.hid (show Blk W D [.int .i64 n, .slice ad es.length c] 28 by rw [← hW, ← hD]; exact Blk.new w _ _)
  have HQ := Lib.hid (show Below D w W by rw [← hW, ← hD]; exact (Below.refl _ w).alloc (Nat.le_refl _) _)
  have SD := Lib.hid (hv.below HQ.out (Nat.le_of_eq hD)); have HE := Lib.hid (he.below HQ.out (Nat.le_of_eq hD))
  have HW := Lib.hid hW
  have k0 := HKD.out.cell 0 _ rfl; have k1' := HKD.out.cell 1 _ rfl; have kl := HKD.out.lt
  clear hW hv he
  by_cases h20 : 20 < es.length
  · have d1 : decide ((20 : Int) < (es.length : Int)) = true := by simp only [decide_eq_true_eq]; omega
    have d2 : decide (20 < es.length) = true := by simp only [decide_eq_true_eq]; omega
    go_enter Tryz.func7, Tryz.ntmps7
    go_wp2_with (first
      | (go_at_call 8; (try rw [HW.out]); (with_reducible refine (awake47 W HE.out).mono ?_); rintro e w9 ⟨v, rfl, rfl, hb⟩; have HB9 := Lib.hid (HQ.out.trans (hb.mono (by rw [← hD]; exact HQ.out.size))); clear hb))
    go_ret
    exact ⟨_, rfl, rfl, by first | exact HB9.out | (rw [hD]; exact HB9.out)⟩
  have d1 : decide ((20 : Int) < (es.length : Int)) = false := by simp only [decide_eq_false_iff_not]; omega
  have d2 : decide (20 < es.length) = false := by simp only [decide_eq_false_iff_not]; omega
  have HC := Lib.hid (rDCheck_any W n _ es SD.out)
  by_cases hk : chkDg n es = 0
  rotate_left
  · obtain ⟨K, hK⟩ : ∃ K, chkDg n es = K := ⟨_, rfl⟩
    rw [hK] at hk HC
    have he0 : (K == 0) = false := by rw [beq_eq_false_iff_ne]; exact hk
    have he1 : (K != 0) = true := by simp [bne, he0]
    clear hk hK
    go_enter Tryz.func7, Tryz.ntmps7
    go_wp2_with (first
      | (go_at_call 8; (try rw [HW.out]); (with_reducible refine (awake47 w1 HE1.out).mono ?_); rintro e w9 ⟨v, rfl, rfl, hb⟩; have HB9 := Lib.hid (HB1.out.trans (hb.mono (by rw [← hD]; exact HB1.out.size))); clear hb)
      | (go_at_call 27; (try rw [HW.out]); (with_reducible refine (HC.out).mono ?_); rintro e w1 ⟨v, rfl, rfl, hb⟩; have HB1 := Lib.hid (HQ.out.trans (hb.mono (by rw [← hD]; exact HQ.out.size))); have KD1 := Lib.hid (HKD.out.below hb (Nat.le_refl _)); have SD1 := Lib.hid (SD.out.below hb (Nat.le_refl _)); have HE1 := Lib.hid (HE.out.below hb (Nat.le_refl _)); clear hb k0 k1' kl; have k0 := KD1.out.cell 0 _ rfl; have k1' := KD1.out.cell 1 _ rfl; have kl := KD1.out.lt))
    go_ret
    exact ⟨_, rfl, rfl, by first | exact HB9.out | (rw [hD]; exact HB9.out)⟩
  obtain ⟨m, ns, rfl, rfl, hR⟩ := rd_of hk
  rw [hk] at HC
  clear hk
  simp only [List.length_map] at *
  have HNL := Lib.hid (show (ns.map n3).length = ns.length from List.length_map _)
  have HR := Lib.hid hR
  have HM := Lib.hid (show ∀ x ∈ ns, x.2.2 ≤ 50 from fun x hx => (hR.rng x hx).2.2.2)
  clear hR
  obtain ⟨SL, hSL⟩ : ∃ SL, (sgl ns).length = SL := ⟨_, rfl⟩
  have HSL := Lib.hid hSL
  by_cases hE : EulC m ns
  rotate_left
  · have HTB := Lib.hid (show false = true ↔ EulC m ns from ⟨fun h => absurd h (by decide), fun h => absurd h hE⟩)
    clear hE
    go_enter Tryz.func7, Tryz.ntmps7
    go_wp2_with (first
      | (go_at_call 8; (try rw [HW.out]); (with_reducible refine (awake47 w2 HE2.out).mono ?_); rintro e w9 ⟨v, rfl, rfl, hb⟩; have HB9 := Lib.hid (HB2.out.trans (hb.mono (by rw [← hD]; exact HB2.out.size))); clear hb)
      | (go_at_call 30; (try rw [HW.out]); (with_reducible refine (rIs_any w1 m _ ns HR.out SD1.out (by omega)).mono ?_); rintro e w2 ⟨v, rfl, hIs⟩; obtain ⟨rfl, hb⟩ := isR_dec (t := false) HR.out hIs (HTB.out : false = true ↔ EulC m ns); clear hIs; have HB2 := Lib.hid (HB1.out.trans (hb.mono (by rw [← hD]; exact HB1.out.size))); have KD2 := Lib.hid (KD1.out.below hb (Nat.le_refl _)); have SD2 := Lib.hid (SD1.out.below hb (Nat.le_refl _)); have HE2 := Lib.hid (HE1.out.below hb (Nat.le_refl _)); clear hb k0 k1' kl; have k0 := KD2.out.cell 0 _ rfl; have k1' := KD2.out.cell 1 _ rfl; have kl := KD2.out.lt)
      | (go_at_call 27; (try rw [HW.out]); (with_reducible refine (HC.out).mono ?_); rintro e w1 ⟨v, rfl, rfl, hb⟩; have HB1 := Lib.hid (HQ.out.trans (hb.mono (by rw [← hD]; exact HQ.out.size))); have KD1 := Lib.hid (HKD.out.below hb (Nat.le_refl _)); have SD1 := Lib.hid (SD.out.below hb (Nat.le_refl _)); have HE1 := Lib.hid (HE.out.below hb (Nat.le_refl _)); clear hb k0 k1' kl; have k0 := KD1.out.cell 0 _ rfl; have k1' := KD1.out.cell 1 _ rfl; have kl := KD1.out.lt))
    go_ret
    exact ⟨_, rfl, rfl, by first | exact HB9.out | (rw [hD]; exact HB9.out)⟩
  have HEU := Lib.hid hE
  by_cases h60 : 60 < SL
  · have d7 : decide ((60 : Int) < (SL : Int)) = true := by simp only [decide_eq_true_eq]; omega
    have d8 : decide (60 < SL) = true := by simp only [decide_eq_true_eq]; omega
    go_enter Tryz.func7, Tryz.ntmps7
    go_wp2_with (first
      | (go_at_call 8; (try rw [HW.out]); (with_reducible refine (awake47 w3 HE3.out).mono ?_); rintro e w9 ⟨v, rfl, rfl, hb⟩; have HB9 := Lib.hid (HB3.out.trans (hb.mono (by rw [← hD]; exact HB3.out.size))); clear hb)
      | (go_at_call 28; (try rw [HW.out]); (with_reducible refine (rSingles_any w2 m _ ns SD2.out HM.out (by omega)).mono ?_); rintro e w3 ⟨v, rfl, hO, hb⟩; rw [HSL.out] at hO; obtain ⟨ea, fa, rfl⟩ := own_formK hO; clear hO; have HB3 := Lib.hid (HB2.out.trans (hb.mono (by rw [← hD]; exact HB2.out.size))); have KD3 := Lib.hid (KD2.out.below hb (Nat.le_refl _)); have SD3 := Lib.hid (SD2.out.below hb (Nat.le_refl _)); have HE3 := Lib.hid (HE2.out.below hb (Nat.le_refl _)); clear hb k0 k1' kl; have k0 := KD3.out.cell 0 _ rfl; have k1' := KD3.out.cell 1 _ rfl; have kl := KD3.out.lt)
      | (go_at_call 30; (try rw [HW.out]); (with_reducible refine (rIs_any w1 m _ ns HR.out SD1.out (by omega)).mono ?_); rintro e w2 ⟨v, rfl, hIs⟩; obtain ⟨rfl, hb⟩ := isR_dec (t := true) HR.out hIs ⟨fun _ => HEU.out, fun _ => rfl⟩; clear hIs; have HB2 := Lib.hid (HB1.out.trans (hb.mono (by rw [← hD]; exact HB1.out.size))); have KD2 := Lib.hid (KD1.out.below hb (Nat.le_refl _)); have SD2 := Lib.hid (SD1.out.below hb (Nat.le_refl _)); have HE2 := Lib.hid (HE1.out.below hb (Nat.le_refl _)); clear hb k0 k1' kl; have k0 := KD2.out.cell 0 _ rfl; have k1' := KD2.out.cell 1 _ rfl; have kl := KD2.out.lt)
      | (go_at_call 27; (try rw [HW.out]); (with_reducible refine (HC.out).mono ?_); rintro e w1 ⟨v, rfl, rfl, hb⟩; have HB1 := Lib.hid (HQ.out.trans (hb.mono (by rw [← hD]; exact HQ.out.size))); have KD1 := Lib.hid (HKD.out.below hb (Nat.le_refl _)); have SD1 := Lib.hid (SD.out.below hb (Nat.le_refl _)); have HE1 := Lib.hid (HE.out.below hb (Nat.le_refl _)); clear hb k0 k1' kl; have k0 := KD1.out.cell 0 _ rfl; have k1' := KD1.out.cell 1 _ rfl; have kl := KD1.out.lt))
    go_ret
    exact ⟨_, rfl, rfl, by first | exact HB9.out | (rw [hD]; exact HB9.out)⟩
  have d7 : decide ((60 : Int) < (SL : Int)) = false := by simp only [decide_eq_false_iff_not]; omega
  have d8 : decide (60 < SL) = false := by simp only [decide_eq_false_iff_not]; omega
  obtain ⟨TT, hTS, hTL, hT0⟩ := tourS_ok HR.out hE
  obtain ⟨k8, rfl⟩ : ∃ k8 : Nat, k = (k8 : Int) := ⟨k.toNat, by omega⟩
  have hlen : TT.length = SL := by rw [hTL.1, hSL]
  have hSP : 0 < SL := by rw [← hlen]; exact hTL.2.1
  obtain ⟨kk, hkk⟩ : ∃ kk, k8 % SL = kk := ⟨_, rfl⟩
  have hkl : kk < SL := by rw [← hkk]; exact Nat.mod_lt _ hSP
  have hmod : Int.tmod (k8 : Int) (SL : Int) = (kk : Int) := by rw [← hkk]; rfl
  have hmo0 : ¬ (SL : Int) = 0 := by omega
  have HTR := Lib.hid (hTL.turn (k := kk) (by omega))
  have HTO := Lib.hid (fun (Z : World) (u : Value) (h1 : SlK e3 3 Z u (ns.map n3)) => Tour_ok Z m u ns TT HR.out h1 (by omega) HEU.out (by omega) (by omega) hTS)
  have HV1 := Lib.hid (fun (Z : World) (u l : Value) (h1 : SlK e3 3 Z u (ns.map n3)) (h2 : SlK i1 1 Z l TT) => Verify_ok Z m u l ns TT 0 HR.out h1 (by omega) h2 hTL.2.2.2.1 (by omega) (by omega) (.inl ⟨hTL.1, hTL, rfl⟩))
  have HV2 := Lib.hid (fun (Z : World) (u l : Value) (h1 : SlK e3 3 Z u (ns.map n3)) (h2 : SlK i1 1 Z l (TT.drop kk ++ TT.take kk)) => Verify_ok Z m u l ns _ 0 HR.out h1 (by omega) h2 HTR.out.2.2.2.1 (by rw [HTR.out.1]; omega) (by omega) (.inl ⟨HTR.out.1, HTR.out, rfl⟩))
  have HV3 := Lib.hid (fun (Z : World) (u l : Value) (h1 : SlK e3 3 Z u (ns.map n3)) (h2 : SlK i1 1 Z l ((TT.drop kk ++ TT.take kk).drop 1)) => Verify_ok Z m u l ns _ 16 HR.out h1 (by omega) h2 (fun e he => HTR.out.2.2.2.1 e (List.mem_of_mem_drop he)) (by rw [List.length_drop, HTR.out.1]; omega) (by omega) (.inr ⟨by rw [List.length_drop, HTR.out.1]; omega, rfl⟩))
  have HT0 := Lib.hid hT0; have HTN := Lib.hid hlen
  have HLR := Lib.hid (show (TT.drop kk ++ TT.take kk).length = SL by rw [HTR.out.1, hSL])
  clear hE hTS hTL hT0 hkk hSL hlen HTR
  go_enter Tryz.func7, Tryz.ntmps7
  go_wp2_with (first
    | (go_at_call 28; (try rw [HW.out]); (with_reducible refine (rSingles_any w4 m _ ns SD4.out HM.out (by omega)).mono ?_); rintro e w5 ⟨v, rfl, hO, hb⟩; rw [HSL.out] at hO; obtain ⟨eb, fb, rfl⟩ := own_formK hO; clear hO; have HB5 := Lib.hid (HB4.out.trans (hb.mono (by rw [← hD]; exact HB4.out.size))); have KD5 := Lib.hid (KD4.out.below hb (Nat.le_refl _)); have SD5 := Lib.hid (SD4.out.below hb (Nat.le_refl _)); have HE5 := Lib.hid (HE4.out.below hb (Nat.le_refl _)); have ST5 := Lib.hid (ST4.out.below hb (Nat.le_refl _)); clear hb k0 k1' kl; have k0 := KD5.out.cell 0 _ rfl; have k1' := KD5.out.cell 1 _ rfl; have kl := KD5.out.lt)
    | (go_at_call 31; (with_reducible refine (HTO.out w3 _ SD3.out).mono ?_); rintro e w4 ⟨v, rfl, u4, rfl, s4, hb⟩; obtain ⟨a4, c4, rfl⟩ := s4.form; rw [HTN.out] at s4 ⊢; have ST4 := Lib.hid s4; clear s4; have HB4 := Lib.hid (HB3.out.trans (hb.mono (by rw [← hD]; exact HB3.out.size))); have KD4 := Lib.hid (KD3.out.below hb (Nat.le_refl _)); have SD4 := Lib.hid (SD3.out.below hb (Nat.le_refl _)); have HE4 := Lib.hid (HE3.out.below hb (Nat.le_refl _)); clear hb k0 k1' kl; have k0 := KD4.out.cell 0 _ rfl; have k1' := KD4.out.cell 1 _ rfl; have kl := KD4.out.lt)
    | (go_at_call 28; (try rw [HW.out]); (with_reducible refine (rSingles_any w2 m _ ns SD2.out HM.out (by omega)).mono ?_); rintro e w3 ⟨v, rfl, hO, hb⟩; rw [HSL.out] at hO; obtain ⟨ea, fa, rfl⟩ := own_formK hO; clear hO; have HB3 := Lib.hid (HB2.out.trans (hb.mono (by rw [← hD]; exact HB2.out.size))); have KD3 := Lib.hid (KD2.out.below hb (Nat.le_refl _)); have SD3 := Lib.hid (SD2.out.below hb (Nat.le_refl _)); have HE3 := Lib.hid (HE2.out.below hb (Nat.le_refl _)); clear hb k0 k1' kl; have k0 := KD3.out.cell 0 _ rfl; have k1' := KD3.out.cell 1 _ rfl; have kl := KD3.out.lt)
    | (go_at_call 30; (try rw [HW.out]); (with_reducible refine (rIs_any w1 m _ ns HR.out SD1.out (by omega)).mono ?_); rintro e w2 ⟨v, rfl, hIs⟩; obtain ⟨rfl, hb⟩ := isR_dec (t := true) HR.out hIs ⟨fun _ => HEU.out, fun _ => rfl⟩; clear hIs; have HB2 := Lib.hid (HB1.out.trans (hb.mono (by rw [← hD]; exact HB1.out.size))); have KD2 := Lib.hid (KD1.out.below hb (Nat.le_refl _)); have SD2 := Lib.hid (SD1.out.below hb (Nat.le_refl _)); have HE2 := Lib.hid (HE1.out.below hb (Nat.le_refl _)); clear hb k0 k1' kl; have k0 := KD2.out.cell 0 _ rfl; have k1' := KD2.out.cell 1 _ rfl; have kl := KD2.out.lt)
    | (go_at_call 27; (try rw [HW.out]); (with_reducible refine (HC.out).mono ?_); rintro e w1 ⟨v, rfl, rfl, hb⟩; have HB1 := Lib.hid (HQ.out.trans (hb.mono (by rw [← hD]; exact HQ.out.size))); have KD1 := Lib.hid (HKD.out.below hb (Nat.le_refl _)); have SD1 := Lib.hid (SD.out.below hb (Nat.le_refl _)); have HE1 := Lib.hid (HE.out.below hb (Nat.le_refl _)); clear hb k0 k1' kl; have k0 := KD1.out.cell 0 _ rfl; have k1' := KD1.out.cell 1 _ rfl; have kl := KD1.out.lt))
  obtain ⟨ta, tb, to_, tc, hform, hta, htc, htm, -, htp⟩ := ST5.out
  have h9 := hta (by rw [HTN.out]; exact hSP)
  subst h9
  rw [HTN.out] at hform htc
  simp only [Value.slice.injEq, true_and] at hform
  obtain ⟨rfl, h8⟩ := hform
  obtain rfl : tc = c4 := h8.symm
  have hne9 : ¬ tc = kk := by omega
  have j4 : kk ≤ tc := by omega
  have j5 : kk ≤ SL := by omega
  have HTP := Lib.hid htp
  have hb5 := htp.1 (by rw [HTN.out]; exact hSP)
  have HBd := Lib.hid (show Below w5.heap.size w5 w5.drew from (Below.refl _ w5).drew)
  have HS := Lib.hid (fun (w' : World) (hb : Below w5.heap.size w5 w') => (⟨(KD5.out.below hb (Nat.le_refl _)).cell 0 _ rfl, (KD5.out.below hb (Nat.le_refl _)).cell 1 _ rfl⟩ : w'.cell? ⟨D, 0, none⟩ = some (.int .i64 (m : Nat)) ∧ w'.cell? ⟨D, 1, none⟩ = some (.slice ad ns.length c)))
  have HS0 := Lib.hid (HS.out w5.drew HBd.out)
  have j0 : (0 : Int) ≤ (kk : Int) := by omega
  have j1 : (kk : Int) ≤ (SL : Int) := by omega
  have j2 : (kk : Int) ≤ (tc : Int) := by omega
  have j3 : (SL : Int) ≤ (tc : Int) := by omega
  have hd1 : (TT.drop kk).length = SL - kk := by rw [List.length_drop, HTN.out]
  have hd2 : (TT.take kk).length = kk := by rw [List.length_take, HTN.out]; omega
  have HCA := Lib.hid (fun (Z : World) (hb : Below w5.heap.size w5 Z) (hB : Blk Z w5.heap.size [.slice (some ⟨tb, to_ + kk, none⟩) (SL - kk) (tc - kk), .slice (some ⟨tb, to_, none⟩) kk tc] 36) => (by
    have h := Concat2 Z w5.heap.size tb (to_ + kk) (tc - kk) tb to_ tc (TT.drop kk) (TT.take kk) (by rw [hd1, hd2]; exact hB) (cells_drop (HTP.out.below hb (Nat.le_refl _)) kk) (cells_take (HTP.out.below hb (Nat.le_refl _)) kk) (by omega) (by omega) (by omega)
    rw [HLR.out] at h
    exact h : Calls Tryz.prog 32 #[.slice (some ⟨w5.heap.size, 0, none⟩) 2 2] Z (Rets fun r w' => w'.ownsRow Z.heap.size 3 1 r SL (ints (TT.drop kk ++ TT.take kk)) ∧ Below Z.heap.size Z w')))
  clear htp hd1 hd2 k0 k1' kl
  refine wp_regionJ (S := fun w' => w'.cell? ⟨D, 0, none⟩ = some (.int .i64 (m : Nat)) ∧ w'.cell? ⟨D, 1, none⟩ = some (.slice ad ns.length c)) (A := fun _ => true) (by kernel_rfl) ?_
  refine wpAnyJ_take (i := 0) (oi := { dst := some 50, op := .move (.tmp 5), type := _, pos := _, after := _, guard := _ }) (v := ?_) rfl (by kernel_rfl) (by kernel_rfl) (by kernel_rfl) (early_sat (by kernel_rfl)) (fun _ _ _ h => h) (Or.inl ⟨by rfl, ?_⟩) HS0.out ?_
  rotate_left
  · intro wl hSw
    obtain ⟨s0, s1⟩ := hSw
    go_simp
    with_reducible rfl
  simp only [Act.put, List.setIfInBounds_toArray, List.set_cons_zero, List.set_cons_succ]
  refine wpAnyJ_take (i := 1) (oi := { dst := some 51, op := .move (.tmp 7), type := _, pos := _, after := _, guard := _ }) (v := ?_) rfl (by kernel_rfl) (by kernel_rfl) (by kernel_rfl) (early_sat (by kernel_rfl)) (fun _ _ _ h => h) (Or.inl ⟨by rfl, ?_⟩) HS0.out ?_
  rotate_left
  · intro wl hSw
    obtain ⟨s0, s1⟩ := hSw
    go_simp
    with_reducible rfl
  simp only [Act.put, List.setIfInBounds_toArray, List.set_cons_zero, List.set_cons_succ]
  refine wpAnyJ_take (i := 3) (oi := { dst := some 53, op := .move (.tmp 5), type := _, pos := _, after := _, guard := _ }) (v := ?_) rfl (by kernel_rfl) (by kernel_rfl) (by kernel_rfl) (early_sat (by kernel_rfl)) (fun _ _ _ h => h) (Or.inl ⟨by rfl, ?_⟩) HS0.out ?_
  rotate_left
  · intro wl hSw
    obtain ⟨s0, s1⟩ := hSw
    go_simp
    with_reducible rfl
  simp only [Act.put, List.setIfInBounds_toArray, List.set_cons_zero, List.set_cons_succ]
  refine wpAnyJ_take (i := 4) (oi := { dst := some 54, op := .move (.tmp 7), type := _, pos := _, after := _, guard := _ }) (v := ?_) rfl (by kernel_rfl) (by kernel_rfl) (by kernel_rfl) (early_sat (by kernel_rfl)) (fun _ _ _ h => h) (Or.inl ⟨by rfl, ?_⟩) HS0.out ?_
  rotate_left
  · intro wl hSw
    obtain ⟨s0, s1⟩ := hSw
    go_simp
    with_reducible rfl
  simp only [Act.put, List.setIfInBounds_toArray, List.set_cons_zero, List.set_cons_succ]
  refine wpAnyJ_take (i := 2) (oi := { dst := some 52, op := _, type := _, pos := _, after := _, guard := _ }) (v := ?_) rfl (by kernel_rfl) (by kernel_rfl) (by kernel_rfl) (early_sat (by kernel_rfl)) (fun _ _ _ h => h) (Or.inl ⟨by rfl, ?_⟩) HS0.out ?_
  rotate_left
  · intro wl hSw
    obtain ⟨s0, s1⟩ := hSw
    go_simp
    with_reducible rfl
  simp only [Act.put, List.setIfInBounds_toArray, List.set_cons_zero, List.set_cons_succ]
  refine wpAnyJ_take (i := 5) (oi := { dst := some 55, op := _, type := _, pos := _, after := _, guard := _ }) (v := ?_) rfl (by kernel_rfl) (by kernel_rfl) (by kernel_rfl) (early_sat (by kernel_rfl)) (fun _ _ _ h => h) (Or.inl ⟨by rfl, ?_⟩) HS0.out ?_
  rotate_left
  · intro wl hSw
    obtain ⟨s0, s1⟩ := hSw
    go_simp
    with_reducible rfl
  simp only [Act.put, List.setIfInBounds_toArray, List.set_cons_zero, List.set_cons_succ]
  refine wpAnyJ_only (i := 6) (o := { dst := some 56, op := _, type := _, pos := _, after := _, guard := _ }) (by kernel_rfl) rfl (fun K hK => ?_)
  go_simp
  have HBZ := Lib.hid (HBd.out.alloc HBd.out.size (.cells #[.slice (some ⟨tb, to_ + kk, none⟩) (SL - kk) (tc - kk), .slice (some ⟨tb, to_, none⟩) kk tc] 36))
  have hs6 := HS.out (w5.drew.alloc (.cells #[.slice (some ⟨tb, to_ + kk, none⟩) (SL - kk) (tc - kk), .slice (some ⟨tb, to_, none⟩) kk tc] 36)) HBZ.out
  refine hK.out _ _ (fun _ => hs6) ?_
  try simp only [Act.put, List.setIfInBounds_toArray, List.set_cons_zero, List.set_cons_succ]
  clear hK K
  refine wpAnyJ_only (i := 7) (o := { dst := some 57, op := _, type := _, pos := _, after := _, guard := _ }) (by kernel_rfl) rfl (fun K hK => ?_)
  go_simp
  refine (HCA.out (w5.drew.alloc (.cells #[.slice (some ⟨tb, to_ + kk, none⟩) (SL - kk) (tc - kk), .slice (some ⟨tb, to_, none⟩) kk tc] 36)) HBZ.out (Blk.new w5.drew _ _)).mono ?_
  rintro x6 w6 ⟨v, rfl, hown, hb⟩
  obtain ⟨g6, c6, rfl⟩ := own_pos1 hown hSP
  have HO6 := Lib.hid hown
  have HB6 := Lib.hid (HBZ.out.trans (hb.mono HBZ.out.size))
  clear hown hb
  have hs7 := HS.out w6 HB6.out
  refine hK.out _ _ (fun _ => hs7) ?_
  try simp only [Act.put, List.setIfInBounds_toArray, List.set_cons_zero, List.set_cons_succ]
  clear hK K
  refine wpAnyJ_take (i := 8) (oi := { dst := some 8, op := .assign (.tmp 57), type := _, pos := _, after := _, guard := _ }) (v := ?_) rfl (by kernel_rfl) (by kernel_rfl) (by kernel_rfl) (early_sat (by kernel_rfl)) (fun _ _ _ h => h) (Or.inl ⟨by rfl, ?_⟩) hs7 ?_
  rotate_left
  · intro wl hSw
    obtain ⟨s0, s1⟩ := hSw
    go_simp
    with_reducible rfl
  simp only [Act.put, List.setIfInBounds_toArray, List.set_cons_zero, List.set_cons_succ]
  refine wpAnyJ_done (by kernel_rfl) ?_ _
  go_wp2_with fail
  have KD6 := Lib.hid (KD5.out.below HB6.out (Nat.le_refl _)); have SD6 := Lib.hid (SD5.out.below HB6.out (Nat.le_refl _)); have ST6 := Lib.hid (ST5.out.below HB6.out (Nat.le_refl _)); have HE6 := Lib.hid (HE5.out.below HB6.out (Nat.le_refl _))
  have HBT := Lib.hid (HB5.out.trans (HB6.out.mono (by rw [← hD]; exact HB5.out.size)))
  have SR6 := Lib.hid (show SlK i1 1 w6 (.slice (some ⟨g6, 0, none⟩) SL c6) (TT.drop kk ++ TT.take kk) by
    have h := HO6.out
    rw [ints_flat] at h
    exact SlK.ofOwns i1_len h HLR.out.symm)
  have SX6 := Lib.hid (show SlK i1 1 w6 (.slice (if c6 = 1 then some ⟨g6, 0, none⟩ else some ⟨g6, 1, none⟩) (SL - 1) (c6 - 1)) ((TT.drop kk ++ TT.take kk).drop 1) by
    obtain ⟨a, b, o, cc, he1, ha, hc1, hm1, hn1, hx1⟩ := SR6.out
    rw [HLR.out] at he1 ha hc1
    have h2 := ha hSP
    simp only [Value.slice.injEq] at he1
    obtain ⟨h3, -, h4⟩ := he1
    rw [h2] at h3
    simp only [Option.some.injEq, Addr.mk.injEq] at h3
    obtain ⟨rfl, rfl, -⟩ := h3
    subst h4
    split
    · rename_i h5
      exact ⟨some ⟨_, 0, none⟩, g6, 1, _, by rw [List.length_drop, HLR.out], fun h => by rw [List.length_drop, HLR.out] at h; omega, by rw [List.length_drop, HLR.out]; omega, by omega, (fun h => by cases h), cells_drop hx1 1⟩
    · exact ⟨some ⟨_, 1, none⟩, _, 1, _, by rw [List.length_drop, HLR.out], fun _ => rfl, by rw [List.length_drop, HLR.out]; omega, by omega, (fun h => by cases h), cells_drop hx1 1⟩)
  have HS9 := Lib.hid (fun (w' : World) (hb : Below w6.heap.size w6 w') => (⟨(KD6.out.below hb (Nat.le_refl _)).cell 0 _ rfl, (KD6.out.below hb (Nat.le_refl _)).cell 1 _ rfl, (by
    have h := HTP.out.at (HB6.out.trans (hb.mono HB6.out.size)) (Nat.le_refl _) 0 (by rw [HTN.out]; exact hSP) 0 (.int .i64 0) (by
      have h1 := HT0.out
      rw [List.getD_eq_getElem?_getD, List.getElem?_eq_getElem (by rw [HTN.out]; exact hSP)] at h1
      have h1 : TT[0]'(by rw [HTN.out]; exact hSP) = 0 := h1
      rw [h1]; rfl)
    simpa using h)⟩ : w'.cell? ⟨D, 0, none⟩ = some (.int .i64 (m : Nat)) ∧ w'.cell? ⟨D, 1, none⟩ = some (.slice ad ns.length c) ∧ w'.cell? ⟨tb, to_, none⟩ = some (.int .i64 0)))
  have HBe := Lib.hid (show Below w6.heap.size w6 w6.drew from (Below.refl _ w6).drew)
  have HS8 := Lib.hid (HS9.out w6.drew HBe.out)
  have l0 : (1 : Int) ≤ (SL : Int) := by omega
  refine wp_regionJ (S := fun w' => w'.cell? ⟨D, 0, none⟩ = some (.int .i64 (m : Nat)) ∧ w'.cell? ⟨D, 1, none⟩ = some (.slice ad ns.length c) ∧ w'.cell? ⟨tb, to_, none⟩ = some (.int .i64 0)) (A := fun _ => true) (by kernel_rfl) ?_
  refine wpAnyJ_take (i := 0) (oi := { dst := some 58, op := .move (.tmp 5), type := _, pos := _, after := _, guard := _ }) (v := ?_) rfl (by kernel_rfl) (by kernel_rfl) (by kernel_rfl) (early_sat (by kernel_rfl)) (fun _ _ _ h => h) (Or.inl ⟨by rfl, ?_⟩) HS8.out ?_
  rotate_left
  · intro wl hSw
    obtain ⟨s0, s1, s2⟩ := hSw
    go_simp
    with_reducible rfl
  simp only [Act.put, List.setIfInBounds_toArray, List.set_cons_zero, List.set_cons_succ]
  refine wpAnyJ_take (i := 1) (oi := { dst := some 59, op := .indexAddr _ (.tmp 58) _, type := _, pos := _, after := _, guard := _ }) (v := ?_) rfl (by kernel_rfl) (by kernel_rfl) (by kernel_rfl) (early_sat (by kernel_rfl)) (fun _ _ _ h => h) (Or.inl ⟨by rfl, ?_⟩) HS8.out ?_
  rotate_left
  · intro wl hSw
    obtain ⟨s0, s1, s2⟩ := hSw
    go_simp
    with_reducible rfl
  simp only [Act.put, List.setIfInBounds_toArray, List.set_cons_zero, List.set_cons_succ]
  refine wpAnyJ_take (i := 2) (oi := { dst := some 60, op := .load _ (.tmp 59), type := _, pos := _, after := _, guard := _ }) (v := ?_) rfl (by kernel_rfl) (by kernel_rfl) (by kernel_rfl) (early_sat (by kernel_rfl)) (fun _ _ _ h => h) (Or.inl ⟨by rfl, ?_⟩) HS8.out ?_
  rotate_left
  · intro wl hSw
    obtain ⟨s0, s1, s2⟩ := hSw
    go_simp
    with_reducible rfl
  simp only [Act.put, List.setIfInBounds_toArray, List.set_cons_zero, List.set_cons_succ]
  refine wpAnyJ_take (i := 3) (oi := { dst := some 61, op := .binOp _ _ (.tmp 60) _ _, type := _, pos := _, after := _, guard := _ }) (v := ?_) rfl (by kernel_rfl) (by kernel_rfl) (by kernel_rfl) (early_sat (by kernel_rfl)) (fun _ _ _ h => h) (Or.inl ⟨by rfl, ?_⟩) HS8.out ?_
  rotate_left
  · intro wl hSw
    obtain ⟨s0, s1, s2⟩ := hSw
    go_simp
    with_reducible rfl
  simp only [Act.put, List.setIfInBounds_toArray, List.set_cons_zero, List.set_cons_succ]
  refine wpAnyJ_take (i := 4) (oi := { dst := some 62, op := .move (.tmp 61), type := _, pos := _, after := _, guard := _ }) (v := ?_) rfl (by kernel_rfl) (by kernel_rfl) (by kernel_rfl) (early_sat (by kernel_rfl)) (fun _ _ _ h => h) (Or.inl ⟨by rfl, ?_⟩) HS8.out ?_
  rotate_left
  · intro wl hSw
    obtain ⟨s0, s1, s2⟩ := hSw
    go_simp
    with_reducible rfl
  simp only [Act.put, List.setIfInBounds_toArray, List.set_cons_zero, List.set_cons_succ]
  refine wpAnyJ_take (i := 5) (oi := { dst := some 63, op := .load _ (.tmp 2), type := _, pos := _, after := _, guard := _ }) (v := ?_) rfl (by kernel_rfl) (by kernel_rfl) (by kernel_rfl) (early_sat (by kernel_rfl)) (fun _ _ _ h => h) (Or.inl ⟨by rfl, ?_⟩) HS8.out ?_
  rotate_left
  · intro wl hSw
    obtain ⟨s0, s1, s2⟩ := hSw
    go_simp
    with_reducible rfl
  simp only [Act.put, List.setIfInBounds_toArray, List.set_cons_zero, List.set_cons_succ]
  refine wpAnyJ_take (i := 6) (oi := { dst := some 64, op := .move (.tmp 5), type := _, pos := _, after := _, guard := _ }) (v := ?_) rfl (by kernel_rfl) (by kernel_rfl) (by kernel_rfl) (early_sat (by kernel_rfl)) (fun _ _ _ h => h) (Or.inl ⟨by rfl, ?_⟩) HS8.out ?_
  rotate_left
  · intro wl hSw
    obtain ⟨s0, s1, s2⟩ := hSw
    go_simp
    with_reducible rfl
  simp only [Act.put, List.setIfInBounds_toArray, List.set_cons_zero, List.set_cons_succ]
  refine wpAnyJ_only (i := 7) (o := { dst := some 65, op := _, type := _, pos := _, after := _, guard := _ }) (by kernel_rfl) rfl (fun K hK => ?_)
  go_simp
  refine (HV1.out w6.drew _ _ (SD6.out.below HBe.out (Nat.le_refl _)) (ST6.out.below HBe.out (Nat.le_refl _))).mono ?_
  rintro x7 w7 ⟨v, rfl, rfl, hb⟩
  have HB7 := Lib.hid (HBe.out.trans (hb.mono HBe.out.size))
  clear hb
  have hs7 := HS9.out w7 HB7.out
  refine hK.out _ _ (fun _ => hs7) ?_
  try simp only [Act.put, List.setIfInBounds_toArray, List.set_cons_zero, List.set_cons_succ]
  clear hK K
  refine wpAnyJ_take (i := 8) (oi := { dst := some 66, op := .binOp _ _ (.tmp 65) _ _, type := _, pos := _, after := _, guard := _ }) (v := ?_) rfl (by kernel_rfl) (by kernel_rfl) (by kernel_rfl) (early_sat (by kernel_rfl)) (fun _ _ _ h => h) (Or.inl ⟨by rfl, ?_⟩) hs7 ?_
  rotate_left
  · intro wl hSw
    obtain ⟨s0, s1, s2⟩ := hSw
    go_simp
    with_reducible rfl
  simp only [Act.put, List.setIfInBounds_toArray, List.set_cons_zero, List.set_cons_succ]
  refine wpAnyJ_take (i := 9) (oi := { dst := some 67, op := _, type := _, pos := _, after := _, guard := _ }) (v := ?_) rfl (by kernel_rfl) (by kernel_rfl) (by kernel_rfl) (early_sat (by kernel_rfl)) (fun _ _ _ h => h) (Or.inl ⟨by rfl, ?_⟩) hs7 ?_
  rotate_left
  · intro wl hSw
    obtain ⟨s0, s1, s2⟩ := hSw
    go_simp
    with_reducible rfl
  simp only [Act.put, List.setIfInBounds_toArray, List.set_cons_zero, List.set_cons_succ]
  refine wpAnyJ_take (i := 10) (oi := { dst := some 68, op := .move (.tmp 67), type := _, pos := _, after := _, guard := _ }) (v := ?_) rfl (by kernel_rfl) (by kernel_rfl) (by kernel_rfl) (early_sat (by kernel_rfl)) (fun _ _ _ h => h) (Or.inl ⟨by rfl, ?_⟩) hs7 ?_
  rotate_left
  · intro wl hSw
    obtain ⟨s0, s1, s2⟩ := hSw
    go_simp
    with_reducible rfl
  simp only [Act.put, List.setIfInBounds_toArray, List.set_cons_zero, List.set_cons_succ]
  refine wpAnyJ_take (i := 11) (oi := { dst := some 69, op := .load _ (.tmp 2), type := _, pos := _, after := _, guard := _ }) (v := ?_) rfl (by kernel_rfl) (by kernel_rfl) (by kernel_rfl) (early_sat (by kernel_rfl)) (fun _ _ _ h => h) (Or.inl ⟨by rfl, ?_⟩) hs7 ?_
  rotate_left
  · intro wl hSw
    obtain ⟨s0, s1, s2⟩ := hSw
    go_simp
    with_reducible rfl
  simp only [Act.put, List.setIfInBounds_toArray, List.set_cons_zero, List.set_cons_succ]
  refine wpAnyJ_take (i := 12) (oi := { dst := some 70, op := .move (.tmp 8), type := _, pos := _, after := _, guard := _ }) (v := ?_) rfl (by kernel_rfl) (by kernel_rfl) (by kernel_rfl) (early_sat (by kernel_rfl)) (fun _ _ _ h => h) (Or.inl ⟨by rfl, ?_⟩) hs7 ?_
  rotate_left
  · intro wl hSw
    obtain ⟨s0, s1, s2⟩ := hSw
    go_simp
    with_reducible rfl
  simp only [Act.put, List.setIfInBounds_toArray, List.set_cons_zero, List.set_cons_succ]
  refine wpAnyJ_only (i := 13) (o := { dst := some 71, op := _, type := _, pos := _, after := _, guard := _ }) (by kernel_rfl) rfl (fun K hK => ?_)
  go_simp
  refine (HV2.out w7 _ _ (SD6.out.below HB7.out (Nat.le_refl _)) (SR6.out.below HB7.out (Nat.le_refl _))).mono ?_
  rintro x8 w8 ⟨v, rfl, rfl, hb⟩
  have HB8 := Lib.hid (HB7.out.trans (hb.mono HB7.out.size))
  clear hb
  have hs8 := HS9.out w8 HB8.out
  refine hK.out _ _ (fun _ => hs8) ?_
  try simp only [Act.put, List.setIfInBounds_toArray, List.set_cons_zero, List.set_cons_succ]
  clear hK K
  refine wpAnyJ_take (i := 14) (oi := { dst := some 72, op := .binOp _ _ (.tmp 71) _ _, type := _, pos := _, after := _, guard := _ }) (v := ?_) rfl (by kernel_rfl) (by kernel_rfl) (by kernel_rfl) (early_sat (by kernel_rfl)) (fun _ _ _ h => h) (Or.inl ⟨by rfl, ?_⟩) hs8 ?_
  rotate_left
  · intro wl hSw
    obtain ⟨s0, s1, s2⟩ := hSw
    go_simp
    with_reducible rfl
  simp only [Act.put, List.setIfInBounds_toArray, List.set_cons_zero, List.set_cons_succ]
  refine wpAnyJ_take (i := 15) (oi := { dst := some 73, op := _, type := _, pos := _, after := _, guard := _ }) (v := ?_) rfl (by kernel_rfl) (by kernel_rfl) (by kernel_rfl) (early_sat (by kernel_rfl)) (fun _ _ _ h => h) (Or.inl ⟨by rfl, ?_⟩) hs8 ?_
  rotate_left
  · intro wl hSw
    obtain ⟨s0, s1, s2⟩ := hSw
    go_simp
    with_reducible rfl
  simp only [Act.put, List.setIfInBounds_toArray, List.set_cons_zero, List.set_cons_succ]
  refine wpAnyJ_take (i := 16) (oi := { dst := some 74, op := .move (.tmp 73), type := _, pos := _, after := _, guard := _ }) (v := ?_) rfl (by kernel_rfl) (by kernel_rfl) (by kernel_rfl) (early_sat (by kernel_rfl)) (fun _ _ _ h => h) (Or.inl ⟨by rfl, ?_⟩) hs8 ?_
  rotate_left
  · intro wl hSw
    obtain ⟨s0, s1, s2⟩ := hSw
    go_simp
    with_reducible rfl
  simp only [Act.put, List.setIfInBounds_toArray, List.set_cons_zero, List.set_cons_succ]
  refine wpAnyJ_take (i := 17) (oi := { dst := some 75, op := .load _ (.tmp 2), type := _, pos := _, after := _, guard := _ }) (v := ?_) rfl (by kernel_rfl) (by kernel_rfl) (by kernel_rfl) (early_sat (by kernel_rfl)) (fun _ _ _ h => h) (Or.inl ⟨by rfl, ?_⟩) hs8 ?_
  rotate_left
  · intro wl hSw
    obtain ⟨s0, s1, s2⟩ := hSw
    go_simp
    with_reducible rfl
  simp only [Act.put, List.setIfInBounds_toArray, List.set_cons_zero, List.set_cons_succ]
  refine wpAnyJ_take (i := 18) (oi := { dst := some 76, op := .move (.tmp 8), type := _, pos := _, after := _, guard := _ }) (v := ?_) rfl (by kernel_rfl) (by kernel_rfl) (by kernel_rfl) (early_sat (by kernel_rfl)) (fun _ _ _ h => h) (Or.inl ⟨by rfl, ?_⟩) hs8 ?_
  rotate_left
  · intro wl hSw
    obtain ⟨s0, s1, s2⟩ := hSw
    go_simp
    with_reducible rfl
  simp only [Act.put, List.setIfInBounds_toArray, List.set_cons_zero, List.set_cons_succ]
  refine wpAnyJ_take (i := 19) (oi := { dst := some 77, op := _, type := _, pos := _, after := _, guard := _ }) (v := ?_) rfl (by kernel_rfl) (by kernel_rfl) (by kernel_rfl) (early_sat (by kernel_rfl)) (fun _ _ _ h => h) (Or.inl ⟨by rfl, ?_⟩) hs8 ?_
  rotate_left
  · intro wl hSw
    obtain ⟨s0, s1, s2⟩ := hSw
    go_simp
    with_reducible rfl
  simp only [Act.put, List.setIfInBounds_toArray, List.set_cons_zero, List.set_cons_succ]
  refine wpAnyJ_only (i := 20) (o := { dst := some 78, op := _, type := _, pos := _, after := _, guard := _ }) (by kernel_rfl) rfl (fun K hK => ?_)
  go_simp
  refine (HV3.out w8 _ _ (SD6.out.below HB8.out (Nat.le_refl _)) (SX6.out.below HB8.out (Nat.le_refl _))).mono ?_
  rintro x9 w9 ⟨v, rfl, rfl, hb⟩
  have HB9 := Lib.hid (HB8.out.trans (hb.mono HB8.out.size))
  clear hb
  have hs9 := HS9.out w9 HB9.out
  refine hK.out _ _ (fun _ => hs9) ?_
  try simp only [Act.put, List.setIfInBounds_toArray, List.set_cons_zero, List.set_cons_succ]
  clear hK K
  refine wpAnyJ_take (i := 21) (oi := { dst := some 79, op := .binOp _ _ (.tmp 78) _ _, type := _, pos := _, after := _, guard := _ }) (v := ?_) rfl (by kernel_rfl) (by kernel_rfl) (by kernel_rfl) (early_sat (by kernel_rfl)) (fun _ _ _ h => h) (Or.inl ⟨by rfl, ?_⟩) hs9 ?_
  rotate_left
  · intro wl hSw
    obtain ⟨s0, s1, s2⟩ := hSw
    go_simp
    with_reducible rfl
  simp only [Act.put, List.setIfInBounds_toArray, List.set_cons_zero, List.set_cons_succ]
  refine wpAnyJ_take (i := 22) (oi := { dst := some 80, op := _, type := _, pos := _, after := _, guard := _ }) (v := ?_) rfl (by kernel_rfl) (by kernel_rfl) (by kernel_rfl) (early_sat (by kernel_rfl)) (fun _ _ _ h => h) (Or.inl ⟨by rfl, ?_⟩) hs9 ?_
  rotate_left
  · intro wl hSw
    obtain ⟨s0, s1, s2⟩ := hSw
    go_simp
    with_reducible rfl
  simp only [Act.put, List.setIfInBounds_toArray, List.set_cons_zero, List.set_cons_succ]
  refine wpAnyJ_take (i := 23) (oi := { dst := some 81, op := .move (.tmp 80), type := _, pos := _, after := _, guard := _ }) (v := ?_) rfl (by kernel_rfl) (by kernel_rfl) (by kernel_rfl) (early_sat (by kernel_rfl)) (fun _ _ _ h => h) (Or.inl ⟨by rfl, ?_⟩) hs9 ?_
  rotate_left
  · intro wl hSw
    obtain ⟨s0, s1, s2⟩ := hSw
    go_simp
    with_reducible rfl
  simp only [Act.put, List.setIfInBounds_toArray, List.set_cons_zero, List.set_cons_succ]
  refine wpAnyJ_only (i := 24) (o := { dst := some 82, op := _, type := _, pos := _, after := _, guard := _ }) (by kernel_rfl) rfl (fun K hK => ?_)
  go_simp
  refine (awake47 w9 (HE6.out.below HB9.out (Nat.le_refl _))).mono ?_
  rintro x10 w10 ⟨v, rfl, rfl, hb⟩
  have HB10 := Lib.hid (HB9.out.trans (hb.mono HB9.out.size))
  clear hb
  have hs10 := HS9.out w10 HB10.out
  refine hK.out _ _ (fun _ => hs10) ?_
  try simp only [Act.put, List.setIfInBounds_toArray, List.set_cons_zero, List.set_cons_succ]
  clear hK K
  refine wpAnyJ_take (i := 25) (oi := { dst := some 83, op := _, type := _, pos := _, after := _, guard := _ }) (v := ?_) rfl (by kernel_rfl) (by kernel_rfl) (by kernel_rfl) (early_sat (by kernel_rfl)) (fun _ _ _ h => h) (Or.inl ⟨by rfl, ?_⟩) hs10 ?_
  rotate_left
  · intro wl hSw
    obtain ⟨s0, s1, s2⟩ := hSw
    go_simp
    with_reducible rfl
  simp only [Act.put, List.setIfInBounds_toArray, List.set_cons_zero, List.set_cons_succ]
  refine wpAnyJ_take (i := 26) (oi := { dst := some 4, op := .assign (.tmp 83), type := _, pos := _, after := _, guard := _ }) (v := ?_) rfl (by kernel_rfl) (by kernel_rfl) (by kernel_rfl) (early_sat (by kernel_rfl)) (fun _ _ _ h => h) (Or.inl ⟨by rfl, ?_⟩) hs10 ?_
  rotate_left
  · intro wl hSw
    obtain ⟨s0, s1, s2⟩ := hSw
    go_simp
    with_reducible rfl
  simp only [Act.put, List.setIfInBounds_toArray, List.set_cons_zero, List.set_cons_succ]
  refine wpAnyJ_done (by kernel_rfl) ?_ _
  go_wp2
  all_goals
    have HBZZ := Lib.hid (HBT.out.trans (HB10.out.mono (by rw [← hD]; exact HBT.out.size)))
    go_ret
    exact ⟨_, rfl, rfl, by first | exact HBZZ.out | (rw [hD]; exact HBZZ.out)⟩
end Go.Proofs.YtlnhocgjgmhfgaaGreatDoor
