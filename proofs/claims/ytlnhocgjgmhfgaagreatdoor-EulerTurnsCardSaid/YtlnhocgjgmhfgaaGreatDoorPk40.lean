/- The walk of the reference's Check of unicycles. -/
import Derived.Test.YtlnhocgjgmhfgaaGreatDoorPk39
import Derived.Test.YtlnhocgjgmhfgaaGreatDoorPk8
import Derived.Test.YtlnhocgjgmhfgaaGreatDoorPk14
import Derived.Test.YtlnhocgjgmhfgaaGreatDoorPk16
import Derived.BigQuiet
namespace Go.Proofs.YtlnhocgjgmhfgaaGreatDoor
open Go.RowKit
set_option maxRecDepth 100000

set_option maxHeartbeats 8000000 in
theorem rChk_any (w : World) (n : Nat) (v : Value) (ns : List (Nat × Nat × Nat)) (at_ : Int) (rv : Value) (us : List Int) (hR : RD n ns) (hv : SlK e3 3 w v (ns.map n3)) (hl : ns.length ≤ 1000) (hu : SlK iz 1 w rv us) :
    Calls Tryz.prog 16 #[.agg #[.int .i64 (n : Nat), v], .agg #[.int .i64 at_, rv]] w (Rets fun r w' => ChkP n ns at_ us r w w') := by
  obtain ⟨ad, c, rfl⟩ := hv.form
  have HUV := Lib.hid hu
  obtain ⟨ru, b, o, cu, rfl, hi, hp, hc, hcm⟩ := hu.open elemI
  unfold maxLen at hcm
  have hnl : (ns.map n3).length = ns.length := List.length_map _
  rw [hnl] at hv ⊢
  have n12 := hR.le
  have n1 := hR.pos
  have HR := Lib.hid hR; have HV := Lib.hid hv; have HP := Lib.hid hp; have HNL := Lib.hid hnl
  have HCD := Lib.hid (chkDg_rd hR)
  obtain ⟨D, hD⟩ : ∃ D, w.heap.size = D := ⟨_, rfl⟩
  obtain ⟨W1, hW1⟩ : ∃ W, w.alloc (.cells #[.int .i64 (n : Nat), .slice ad ns.length c] 28) = W := ⟨_, rfl⟩
  obtain ⟨W, hW⟩ : ∃ W, W1.alloc (.cells #[.int .i64 at_, .slice ru us.length cu] 42) = W := ⟨_, rfl⟩
  have z1 : W1.heap.size = D + 1 := by rw [← hW1, World.size_alloc, hD]
  have z2 : W.heap.size = D + 1 + 1 := by rw [← hW, World.size_alloc, z1]
  have k1 : Blk W1 D [.int .i64 (n : Nat), .slice ad ns.length c] 28 := by rw [← hW1, ← hD]; exact Blk.new w _ _
  have HK0 := Lib.hid (show Blk W D [.int .i64 (n : Nat), .slice ad ns.length c] 28 by rw [← hW]; exact k1.alloc _)
  have HU0 := Lib.hid (show Blk W (D + 1) [.int .i64 at_, .slice ru us.length cu] 42 by rw [← hW, ← z1]; exact Blk.new W1 _ _)
  have HB0 := Lib.hid (show Below D w W by
    have q1 : Below D w W1 := by rw [← hW1, ← hD]; exact (Below.refl _ w).alloc (Nat.le_refl _) _
    rw [← hW]; exact q1.alloc (by rw [z1]; omega) _)
  have HV0 := Lib.hid (HV.out.below HB0.out (Nat.le_of_eq hD))
  have HW : Hid ((w.alloc (.cells #[.int .i64 (n : Nat), .slice ad ns.length c] 28)).alloc (.cells #[.int .i64 at_, .slice ru us.length cu] 42) = W) := Lib.hid (by rw [hW1, hW])
  have hzW : W.heap.size = D + 1 + 1 := z2
  have HZW := Lib.hid hzW
  have k0 := HK0.out.cell 0 _ rfl; have k1' := HK0.out.cell 1 _ rfl; have kl := HK0.out.lt
  clear k1 hW1 hW z1 z2 hu hp hv hR hnl hzW
  obtain ⟨tb, htb⟩ : ∃ t : Bool, t = true ↔ EulC n ns := by
    by_cases h : EulC n ns
    · exact ⟨true, by simp [h]⟩
    · exact ⟨false, by simp [h]⟩
  have HTB := Lib.hid htb
  clear htb
  cases tb
  · go_enter Tryz.func16, Tryz.ntmps16
    go_wp2_with (first
      | (go_at_call 30; (with_reducible refine (rIs_any w2 n _ ns HR.out HV2.out hl).mono ?_); rintro e w3 ⟨v, rfl, hIs⟩; obtain ⟨rfl, hb3⟩ := isR_dec HR.out hIs HTB.out; have HB3 := Lib.hid (HB2.out.trans (hb3.mono (by rw [← hD]; exact HB2.out.size))); clear hb3 hIs)
      | (go_at_call 45; (with_reducible refine (rOut_any w1 n _ ns HR.out HV1.out hl).mono ?_); rintro e w2 ⟨v, rfl, vs, L, C, rfl, hRw, hL, hb2⟩; have HB2 := Lib.hid (HB1.out.trans (hb2.mono (by rw [← hD]; exact HB1.out.size))); have HK2 := Lib.hid (HK1.out.below hb2 (Nat.le_refl _)); have HV2 := Lib.hid (HV1.out.below hb2 (Nat.le_refl _)); have k0 := HK2.out.cell 0 _ rfl; have k1 := HK2.out.cell 1 _ rfl; have kl := HK2.out.lt; clear hb2 hRw hL)
      | (go_at_call 27; (try rw [HW.out]); (with_reducible refine (rDCheck_any W n _ _ HV0.out).mono ?_); rintro e w1 ⟨v, rfl, rfl, hb⟩; rw [HCD.out]; have HB1 := Lib.hid (HB0.out.trans (hb.mono (by rw [← hD]; exact HB0.out.size))); have HK1 := Lib.hid (HK0.out.below hb (Nat.le_refl _)); have HV1 := Lib.hid (HV0.out.below hb (Nat.le_refl _)); have k0 := HK1.out.cell 0 _ rfl; have k1 := HK1.out.cell 1 _ rfl; have kl := HK1.out.lt; clear hb))
    have hfin : ChkP n ns at_ us (.int .i64 15) w w3 := ⟨15, rfl, by rw [hD]; exact HB3.out, .inl ⟨rfl, .inl (fun h => absurd (HTB.out.2 h) (by decide))⟩⟩
    go_ret
    exact ⟨_, rfl, hfin⟩
  have HEC := Lib.hid (HTB.out.1 rfl)
  clear HTB
  go_enter Tryz.func16, Tryz.ntmps16
  go_wp2_with (first
    | (go_at_call 30; (with_reducible refine (rIs_any w2 n _ ns HR.out HV2.out hl).mono ?_); rintro e w3 ⟨v, rfl, hIs⟩; obtain ⟨rfl, hb3⟩ := isR_dec (t := true) HR.out hIs ⟨fun _ => HEC.out, fun _ => rfl⟩; have HB3 := Lib.hid (HB2.out.trans (hb3.mono (by rw [← hD]; exact HB2.out.size))); have HK3 := Lib.hid (HK2.out.below hb3 (Nat.le_refl _)); have HU3 := Lib.hid (HU2.out.below hb3 (Nat.le_refl _)); have HR3 := Lib.hid (HRW.out.below hb3 (Nat.le_refl _)); have HV3 := Lib.hid (HV2.out.below hb3 (Nat.le_refl _)); clear hb3 hIs k0 k1 kl)
    | (go_at_call 45; (with_reducible refine (rOut_any w1 n _ ns HR.out HV1.out hl).mono ?_); rintro e w2 ⟨v, rfl, vs, L, C, rfl, hRw, hL, hb2⟩; have HRW := Lib.hid hRw; have HB2 := Lib.hid (HB1.out.trans (hb2.mono (by rw [← hD]; exact HB1.out.size))); have HK2 := Lib.hid (HK1.out.below hb2 (Nat.le_refl _)); have HU2 := Lib.hid (HU1.out.below hb2 (Nat.le_refl _)); have HV2 := Lib.hid (HV1.out.below hb2 (Nat.le_refl _)); have k0 := HK2.out.cell 0 _ rfl; have k1 := HK2.out.cell 1 _ rfl; have kl := HK2.out.lt; clear hb2 hRw hL)
    | (go_at_call 27; (try rw [HW.out]); (with_reducible refine (rDCheck_any W n _ _ HV0.out).mono ?_); rintro e w1 ⟨v, rfl, rfl, hb⟩; rw [HCD.out]; have HB1 := Lib.hid (HB0.out.trans (hb.mono (by rw [← hD]; exact HB0.out.size))); have HK1 := Lib.hid (HK0.out.below hb (Nat.le_refl _)); have HU1 := Lib.hid (HU0.out.below hb (Nat.le_refl _)); have HV1 := Lib.hid (HV0.out.below hb (Nat.le_refl _)); have k0 := HK1.out.cell 0 _ rfl; have k1 := HK1.out.cell 1 _ rfl; have kl := HK1.out.lt; clear hb))
  clear HK0 HU0 HB0 HV0 HK1 HU1 HB1 HV1 HK2 HU2 HB2 HV2 HRW k1'
  have HVU := Lib.hid (HUV.out.below HB3.out (Nat.le_of_eq hD))
  have HD3 := Lib.hid (show D ≤ w3.heap.size by have := HB3.out.size; omega)
  go_loopw [7] (fun i wr => ∃ k : Nat, k ≤ n ∧ i = .int .i64 k ∧ Hid (∀ v, v < k → 0 < (Rot.outs (sgl ns) v).length) ∧ Hid (Below w3.heap.size w3 wr)) (fun i _ => n - (intOf i).toNat)
  case atStart => exact ⟨0, Nat.zero_le _, rfl, Lib.hid (fun v h => absurd h (Nat.not_lt_zero _)), Lib.hid (Below.refl _ _)⟩
  case round =>
    obtain ⟨k, hk, rfl, hN, hB⟩ := hrel
    have hKr := HK3.out.below hB.out (Nat.le_refl _)
    have k0 := hKr.cell 0 _ rfl; have kl := hKr.lt
    have HQ := Lib.hid (HB3.out.trans (hB.out.mono HD3.out))
    clear hKr
    by_cases hkn : k < n
    · have hlo : k < (outs n (sgl ns)).length := by rw [outs, outsAt_len]; exact hkn
      have hor := outs_rot n (sgl ns) k hlo
      have hRr := HR3.out.below hB.out (Nat.le_refl _)
      obtain ⟨rv, r0, hrow⟩ := hRr.row k hlo
      have hlL := hRr.blk.lt
      have HMM := Lib.hid (List.getElem_mem hlo)
      rw [hor] at hrow HMM
      obtain ⟨ra, rc, rfl⟩ := hrow.form
      obtain ⟨T, hT⟩ : ∃ T, Rot.outs (sgl ns) k = T := ⟨_, rfl⟩
      have HT := Lib.hid hT
      rw [hT] at r0 HMM
      have q1 : (0 : Int) ≤ (k : Int) := by omega
      have q2 : (k : Int) < (n : Int) := by omega
      have hBo := Lib.hid hB.out
      have hNo := Lib.hid hN.out
      clear hRr hor hrow hT hB hN
      by_cases h0 : T.length = 0
      · have e0 : ((T.length : Int) == 0) = true := by rw [h0]; rfl
        have hfin : ChkP n ns at_ us (.int .i64 15) w wr := ⟨15, rfl, by rw [hD]; exact HQ.out, .inl ⟨rfl, .inr (by
          have := HMM.out
          rwa [List.length_eq_zero_iff.1 h0] at this)⟩⟩
        have HF := Lib.hid hfin
        clear hfin h0
        go_wp2
        go_ret
        exact ⟨_, rfl, HF.out⟩
      · have e0 : ((T.length : Int) == 0) = false := by rw [beq_eq_false_iff_ne]; omega
        have HP9 := Lib.hid (show 0 < (Rot.outs (sgl ns) k).length by rw [HT.out]; omega)
        clear h0
        go_wp2
        go_roundw
        case rel => exact ⟨k + 1, by omega, by go_num, Lib.hid (fun v hv => by
          rcases Nat.lt_or_ge v k with h | h
          · exact hNo.out v h
          · obtain rfl : v = k := by omega
            exact HP9.out), hBo⟩
        case measure => simp [intOf]; omega
    · obtain rfl : n = k := by omega
      have HNI := Lib.hid (show [] ∉ outs n (sgl ns) from fun hm => by
        obtain ⟨v, hv, e⟩ := List.mem_iff_getElem.1 hm
        rw [outs_rot] at e
        have := hN.out v (by rwa [outs, outsAt_len] at hv)
        rw [e] at this
        exact absurd this (by decide))
      have hUr := HU3.out.below hB.out (Nat.le_refl _)
      have u0 := hUr.cell 0 _ rfl; have u1 := hUr.cell 1 _ rfl; have ul := hUr.lt
      clear hUr
      by_cases ha0 : at_ < 0
      · have HF := Lib.hid (show ChkP n ns at_ us (.int .i64 2) w wr from ⟨2, rfl, by rw [hD]; exact HQ.out, .inr ⟨HEC.out, HNI.out, .inl ⟨rfl, .inl ha0⟩⟩⟩)
        have e1 : decide (at_ < 0) = true := decide_eq_true ha0
        go_wp2
        go_ret
        exact ⟨_, rfl, HF.out⟩
      have e1 : decide (at_ < 0) = false := decide_eq_false ha0
      by_cases han : (n : Int) ≤ at_
      · have HF := Lib.hid (show ChkP n ns at_ us (.int .i64 2) w wr from ⟨2, rfl, by rw [hD]; exact HQ.out, .inr ⟨HEC.out, HNI.out, .inl ⟨rfl, .inr han⟩⟩⟩)
        have e2 : decide ((n : Int) ≤ at_) = true := decide_eq_true han
        go_wp2
        go_ret
        exact ⟨_, rfl, HF.out⟩
      have e2 : decide ((n : Int) ≤ at_) = false := decide_eq_false han
      by_cases hul : us.length = n
      rotate_left
      · have HF := Lib.hid (show ChkP n ns at_ us (.int .i64 8) w wr from ⟨8, rfl, by rw [hD]; exact HQ.out, .inr ⟨HEC.out, HNI.out, .inr ⟨by omega, by omega, .inl ⟨rfl, hul⟩⟩⟩⟩)
        have hne : ((us.length : Int) == (n : Int)) = false := by rw [beq_eq_false_iff_ne]; omega
        clear hul
        go_wp2
        go_ret
        exact ⟨_, rfl, HF.out⟩
      have hne : ((us.length : Int) == (n : Int)) = true := by rw [hul]; simp
      have HUL := Lib.hid hul
      have HBA := Lib.hid hB.out
      clear hul hN hB
      go_wp2
      clear u0 u1 ul k0 kl
      go_loopw [8] (fun i wr => ∃ k : Nat, k ≤ n ∧ i = .int .i64 k ∧ Hid (∀ v, v < k → 0 ≤ us.getD v 0 ∧ us.getD v 0 < (Rot.outs (sgl ns) v).length) ∧ Hid (Below w3.heap.size w3 wr)) (fun i _ => n - (intOf i).toNat)
      case atStart => exact ⟨0, Nat.zero_le _, rfl, Lib.hid (fun v h => absurd h (Nat.not_lt_zero _)), HBA⟩
      case round =>
        clear HBA HQ
        obtain ⟨k, hk, rfl, hX, hB⟩ := hrel
        have hKr := HK3.out.below hB.out (Nat.le_refl _)
        have k0 := hKr.cell 0 _ rfl; have k1 := hKr.cell 1 _ rfl; have kl := hKr.lt
        have hUr := HU3.out.below hB.out (Nat.le_refl _)
        have u0 := hUr.cell 0 _ rfl; have u1 := hUr.cell 1 _ rfl; have ul := hUr.lt
        have hqw := HB3.out.trans (hB.out.mono HD3.out)
        clear hKr hUr
        by_cases hkn : k < n
        · have hku : k < us.length := by rw [HUL.out]; exact hkn
          have x0 : wr.cell? ⟨b, o + k, none⟩ = some (.int .i64 us[k]) := by
            have := HP.out.at hqw (Nat.le_of_eq hD) k hku 0 _ rfl
            rwa [Nat.mul_one, Nat.add_zero] at this
          have hbl := (HP.out.below hqw (Nat.le_of_eq hD)).1 (by omega)
          have q0 : (0 : Int) ≤ (k : Int) := by omega
          have q1 : (k : Int) < (us.length : Int) := by omega
          have q2 : (k : Int) < (n : Int) := by omega
          have HUK := Lib.hid (show us.getD k 0 = us[k] by simp [List.getD_eq_getElem?_getD, hku])
          obtain ⟨x, hx⟩ : ∃ x, us[k] = x := ⟨_, rfl⟩
          rw [hx] at x0 HUK
          have hlo : k < (outs n (sgl ns)).length := by rw [outs, outsAt_len]; exact hkn
          have hor := outs_rot n (sgl ns) k hlo
          have hRr := HR3.out.below hB.out (Nat.le_refl _)
          obtain ⟨rv, r0, hrow⟩ := hRr.row k hlo
          have hlL := hRr.blk.lt
          rw [hor] at hrow
          obtain ⟨ra, rc, rfl⟩ := hrow.form
          have hBo := Lib.hid hB.out
          have hXo := Lib.hid hX.out
          have HF2 : (¬ ∀ v, v < n → 0 ≤ us.getD v 0 ∧ us.getD v 0 < (Rot.outs (sgl ns) v).length) → ∀ w', Below w3.heap.size w3 w' → ChkP n ns at_ us (.int .i64 2) w w' := fun h w' hb => ⟨2, rfl, by rw [hD]; exact HB3.out.trans (hb.mono HD3.out), .inr ⟨HEC.out, HNI.out, .inr ⟨by omega, by omega, .inr ⟨HUL.out, .inl ⟨rfl, h⟩⟩⟩⟩⟩
          have HF2 := Lib.hid HF2
          clear hx hor hrow hRr hB hX hqw
          by_cases hx0 : x < 0
          · have HN2 := Lib.hid (show ¬ ∀ v, v < n → 0 ≤ us.getD v 0 ∧ us.getD v 0 < (Rot.outs (sgl ns) v).length from fun h => absurd (h k hkn).1 (by rw [HUK.out]; omega))
            have e3 : decide (x < 0) = true := decide_eq_true hx0
            go_wp2_with fail
            go_quiet (fail)
            have b3 := HF2.out HN2.out _ (below_drewN hBo.out nq)
            have HF := Lib.hid b3
            clear b3
            go_wp2
            go_ret
            exact ⟨_, rfl, HF.out⟩
          have e3 : decide (x < 0) = false := decide_eq_false hx0
          by_cases hxl : ((Rot.outs (sgl ns) k).length : Int) ≤ x
          · have HN2 := Lib.hid (show ¬ ∀ v, v < n → 0 ≤ us.getD v 0 ∧ us.getD v 0 < (Rot.outs (sgl ns) v).length from fun h => absurd (h k hkn).2 (by rw [HUK.out]; omega))
            have e4 : decide (((Rot.outs (sgl ns) k).length : Int) ≤ x) = true := decide_eq_true hxl
            go_wp2_with fail
            go_quiet (fail)
            have b3 := HF2.out HN2.out _ (below_drewN hBo.out nq)
            have HF := Lib.hid b3
            clear b3
            go_wp2
            go_ret
            exact ⟨_, rfl, HF.out⟩
          have e4 : decide (((Rot.outs (sgl ns) k).length : Int) ≤ x) = false := decide_eq_false hxl
          have HRK := Lib.hid (show 0 ≤ us.getD k 0 ∧ us.getD k 0 < (Rot.outs (sgl ns) k).length by rw [HUK.out]; omega)
          clear HF2
          go_wp2_with fail
          go_quiet (fail)
          have b3 := Lib.hid (below_drewN hBo.out nq)
          go_wp2
          go_roundw
          case rel => exact ⟨k + 1, by omega, by go_num, Lib.hid (fun v hv => by
            rcases Nat.lt_or_ge v k with h | h
            · exact hXo.out v h
            · obtain rfl : v = k := by omega
              exact HRK.out), b3⟩
          case measure => simp [intOf]; omega
        · obtain rfl : n = k := by omega
          obtain ⟨an, rfl⟩ : ∃ an : Nat, at_ = (an : Int) := ⟨at_.toNat, by omega⟩
          have han2 : an < n := by omega
          have HXX := Lib.hid hX.out
          have HBo := Lib.hid hB.out
          have HCY := Lib.hid (rCycles_any wr n _ ns an _ us HR.out (HV3.out.below hB.out (Nat.le_refl _)) hl (HVU.out.below hB.out (Nat.le_refl _)) han2 HUL.out HXX.out)
          have HQW := Lib.hid hqw
          have hnl2 : ¬ (n : Int) < (us.length : Int) := by have := HUL.out; omega
          have hnl3 : ¬ n < us.length := by have := HUL.out; omega
          clear hX hB hqw
          go_wp2_with (go_at_call 51; (with_reducible refine HCY.out.mono ?_); rintro e w6 ⟨v, rfl, cc, tt, rfl, hb6, hcyc⟩; have HB6 := Lib.hid (HQW.out.trans (hb6.mono (by rw [← hD]; exact HQW.out.size))); have HCC := Lib.hid hcyc; clear hb6 hcyc)
          all_goals
            have HF3 : ¬ (cc = 1 ∧ tt = true) → ChkP n ns (an : Int) us (.int .i64 3) w w6 := fun hn => ⟨3, rfl, by rw [hD]; exact HB6.out, .inr ⟨HEC.out, HNI.out, .inr ⟨by omega, by omega, .inr ⟨HUL.out, .inr ⟨HXX.out, .inl ⟨rfl, fun h => hn (HCC.out.2 (by simpa using h))⟩⟩⟩⟩⟩⟩
            have HF0 : cc = 1 ∧ tt = true → ChkP n ns (an : Int) us (.int .i64 0) w w6 := fun hn => ⟨0, rfl, by rw [hD]; exact HB6.out, .inr ⟨HEC.out, HNI.out, .inr ⟨by omega, by omega, .inr ⟨HUL.out, .inr ⟨HXX.out, .inr ⟨rfl, by simpa using HCC.out.1 hn⟩⟩⟩⟩⟩⟩
            go_ret
            first
              | exact ⟨_, rfl, HF3 (by simp_all)⟩
              | exact ⟨_, rfl, HF0 (by simp_all)⟩
end Go.Proofs.YtlnhocgjgmhfgaaGreatDoor
