/- The walk of the law MatrixMultiplies. -/
import Derived.Test.YtfhdmhifdaiehaaGreatDoorPk9
namespace Go.Proofs.YtfhdmhifdaiehaaGreatDoor
open Go.RowKit
set_option maxRecDepth 100000

set_option maxHeartbeats 8000000 in
theorem multiplies03_any (w : World) (R C : Int) (v : Value) (xs : List ByteArray) (hv : Sl eS w v xs) (R' C' : Int) (u : Value) (ys : List ByteArray) (hu : Sl eS w u ys) (hsz : ∀ s ∈ xs, s.size ≤ 9223372036854775807) (hsz' : ∀ s ∈ ys, s.size ≤ 9223372036854775807) (he : Env w) :
    Calls Tryz.prog 6 #[.agg #[.int .i64 R, .int .i64 C, v], .agg #[.int .i64 R', .int .i64 C', u]] w (Rets fun v w' => v = .bool true ∧ Below w.heap.size w w') := by
  have HS := Lib.hid hsz; have HS' := Lib.hid hsz'
  have HV0 := Lib.hid hv; have HU0 := Lib.hid hu; have HE0 := Lib.hid he
  obtain ⟨ad, cap, rfl⟩ := sl_form hv
  obtain ⟨ad', cap', rfl⟩ := sl_form hu
  clear hv hu hsz hsz' he
  have A0 := Lib.hid (fun (w1 : World) (o : Obj) => (Below.refl w1.heap.size w1).alloc (Nat.le_refl _) o)
  cases hq : (sq1 R C xs && (sq1 R' C' ys && decide (R' = R)))
  · have HQ := Lib.hid hq
    clear hq
    have HB := Lib.hid (((Below.refl w.heap.size w).alloc (Nat.le_refl _) (.cells #[.int .i64 R, .int .i64 C, .slice ad xs.length cap] 24)).alloc (by simp) (.cells #[.int .i64 R', .int .i64 C', .slice ad' ys.length cap'] 24))
    have HV := Lib.hid (HV0.out.below HB.out (Nat.le_refl _))
    have HU := Lib.hid (HU0.out.below HB.out (Nat.le_refl _))
    have HE := Lib.hid (HE0.out.below HB.out (Nat.le_refl _))
    have HK := Lib.hid ((Blk.new w [.int .i64 R, .int .i64 C, .slice ad xs.length cap] 24).alloc (.cells #[.int .i64 R', .int .i64 C', .slice ad' ys.length cap'] 24))
    have HK2 := Lib.hid (Blk.at1 w (.cells #[.int .i64 R, .int .i64 C, .slice ad xs.length cap] 24) [.int .i64 R', .int .i64 C', .slice ad' ys.length cap'] 24)
    have b0 := HK.out.cell 0 _ rfl; have b1 := HK.out.cell 1 _ rfl; have b2 := HK.out.cell 2 _ rfl; have d0 := HK2.out.cell 0 _ rfl; have d1 := HK2.out.cell 1 _ rfl; have d2 := HK2.out.cell 2 _ rfl
    go_enter Tryz.func6, Tryz.ntmps6
    go_wp2_with (first
      | (go_at_call 13; (with_reducible refine (awake03 _ HE.out).mono ?_); rintro e w2 ⟨v, rfl, rfl, h2⟩; have HV := Lib.hid (HV.out.below h2 (Nat.le_refl _)); have HU := Lib.hid (HU.out.below h2 (Nat.le_refl _)); have HE := Lib.hid (HE.out.below h2 (Nat.le_refl _)); have HK := Lib.hid (HK.out.below h2 (Nat.le_refl _)); have HK2 := Lib.hid (HK2.out.below h2 (Nat.le_refl _)); have c2_HK_0 := HK.out.cell 0 _ rfl; have c2_HK_1 := HK.out.cell 1 _ rfl; have c2_HK_2 := HK.out.cell 2 _ rfl; have c2_HK2_0 := HK2.out.cell 0 _ rfl; have c2_HK2_1 := HK2.out.cell 1 _ rfl; have c2_HK2_2 := HK2.out.cell 2 _ rfl; have q2 := q1.trans (h2.mono q1.size))
      | (go_at_call 18; (with_reducible refine (square2_any _ _ R C R' C' _ _ xs ys (Blk.at2 w (.cells #[.int .i64 R, .int .i64 C, .slice ad xs.length cap] 24) (.cells #[.int .i64 R', .int .i64 C', .slice ad' ys.length cap'] 24) [.int .i64 R, .int .i64 C, .slice ad xs.length cap, .int .i64 R', .int .i64 C', .slice ad' ys.length cap'] 24) (HV.out.below (A0.out _ _) (Nat.le_refl _)) (HU.out.below (A0.out _ _) (Nat.le_refl _)) HS.out HS'.out).mono ?_); rintro e w1 ⟨v, rfl, rfl, h1⟩; rw [HQ.out]; have h1 := ((A0.out _ (.cells #[.int .i64 R, .int .i64 C, .slice ad xs.length cap, .int .i64 R', .int .i64 C', .slice ad' ys.length cap'] 24)).trans (h1.mono (by simp))); have HV := Lib.hid (HV.out.below h1 (Nat.le_refl _)); have HU := Lib.hid (HU.out.below h1 (Nat.le_refl _)); have HE := Lib.hid (HE.out.below h1 (Nat.le_refl _)); have HK := Lib.hid (HK.out.below h1 (Nat.le_refl _)); have HK2 := Lib.hid (HK2.out.below h1 (Nat.le_refl _)); have c1_HK_0 := HK.out.cell 0 _ rfl; have c1_HK_1 := HK.out.cell 1 _ rfl; have c1_HK_2 := HK.out.cell 2 _ rfl; have c1_HK2_0 := HK2.out.cell 0 _ rfl; have c1_HK2_1 := HK2.out.cell 1 _ rfl; have c1_HK2_2 := HK2.out.cell 2 _ rfl; have q1 := HB.out.trans (h1.mono HB.out.size)))
    go_ret
    exact ⟨_, rfl, rfl, q2⟩
  have hq2 := hq
  rw [Bool.and_eq_true, Bool.and_eq_true, decide_eq_true_iff] at hq2
  obtain ⟨h1, h2, h3⟩ := hq2
  obtain ⟨n, rfl, rfl, hn6, hrm, h9⟩ := sq1_rm h1
  obtain ⟨n', e1, e2, -, hrm', h9'⟩ := sq1_rm h2
  obtain rfl : n' = n := by omega
  subst e1 e2
  have HQ := Lib.hid hq
  have hA := fun i k (hi : i < n') (hk : k < n') => hrm.dn h9 hi hk
  have hB := fun i k (hi : i < n') (hk : k < n') => hrm'.dn h9' hi hk
  have hxs := hrm.cells; have hys := hrm'.cells
  obtain ⟨A, hAA⟩ : ∃ A, matF n' xs = A := ⟨_, rfl⟩
  obtain ⟨B, hBB⟩ : ∃ B, matF n' ys = B := ⟨_, rfl⟩
  rw [hAA] at hA hxs
  rw [hBB] at hB hys
  have hPd : ∀ i k, i < n' → k < n' → dn (mulM n' A B i k) ≤ 24 := fun i k hi hk => by
    have := dn_mulM (A := A) (B := B) (i := i) (k := k) (n := n') (fun j hj => hA i j hi hj) (fun j hj => hB j k hj hk); omega
  have hbg : dn (det n' (mulM n' A B)) ≤ 400 := by
    have h1 := dn_det (D := 24) n' (mulM n' A B) hPd
    have h2 := Nat.mul_le_mul hn6 (show 24 + n' ≤ 30 by omega)
    omega
  have hbA : dn (det n' A) ≤ 400 := by
    have h1 := dn_det (D := 9) n' A hA
    have h2 := Nat.mul_le_mul hn6 (show 9 + n' ≤ 15 by omega)
    omega
  have hbB : dn (det n' B) ≤ 400 := by
    have h1 := dn_det (D := 9) n' B hB
    have h2 := Nat.mul_le_mul hn6 (show 9 + n' ≤ 15 by omega)
    omega
  obtain ⟨xp, hxp⟩ : ∃ l, cellsF n' n' (mulM n' A B) = l := ⟨_, rfl⟩
  obtain ⟨xt, hxt⟩ : ∃ l, cellsF n' n' (tr (mulM n' A B)) = l := ⟨_, rfl⟩
  have HP := Lib.hid (fun (w1 : World) (v u : Value) (hv : Sl eS w1 v xs) (hu : Sl eS w1 u ys) (he : Env w1) => show Calls Tryz.prog 24 #[.agg #[.int .i64 n', .int .i64 n', v], .agg #[.int .i64 n', .int .i64 n', u]] w1 (RetM w1 n' n' xp 0) from hxp ▸ prod_call hv hu hxs hys (by omega) (by omega) (by omega) (by omega) hA hB he)
  have HT := Lib.hid (fun (w1 : World) (v : Value) (hv : Sl eS w1 v xp) => show Calls Tryz.prog 25 #[.agg #[.int .i64 n', .int .i64 n', v]] w1 (RetM w1 n' n' xt 0) from hxt ▸ tr_call hv hxp.symm (by omega) (by omega) (by omega) hPd)
  have HDa := Lib.hid (fun (w1 : World) (v : Value) (hv : Sl eS w1 v xs) (he : Env w1) => det_call hv hxs hn6 (by omega) hA he)
  have HDb := Lib.hid (fun (w1 : World) (v : Value) (hv : Sl eS w1 v ys) (he : Env w1) => det_call hv hys hn6 (by omega) hB he)
  have HDp := Lib.hid (fun (w1 : World) (v : Value) (hv : Sl eS w1 v xp) (he : Env w1) => det_call hv hxp.symm hn6 (by omega) hPd he)
  have HDt := Lib.hid (fun (w1 : World) (v : Value) (hv : Sl eS w1 v xt) (he : Env w1) => det_call hv hxt.symm hn6 (by omega) (fun i k hi hk => hPd k i hk hi) he)
  have hdt := det_tr n' (mulM n' A B)
  have hdm := det_mul n' A B
  rw [hdt, hdm] at HDt
  rw [hdm] at HDp hbg
  obtain ⟨x, hx⟩ : ∃ x, det n' A = x := ⟨_, rfl⟩
  obtain ⟨y, hy⟩ : ∃ y, det n' B = y := ⟨_, rfl⟩
  rw [hx] at HDa HDp HDt hbg hbA
  rw [hy] at HDb HDp HDt hbg hbB
  have HGX := Lib.hid (bigD (show dn x ≤ 1024 by omega)); have HGY := Lib.hid (bigD (show dn y ≤ 1024 by omega))
  have HRS := Lib.hid (show resV (x * y) = .tuple #[.string (txt (x * y)), .int .i64 0] by unfold resV; rw [bigD (show dn (x * y) ≤ 1024 by omega)]; rfl)
  clear hq h1 h2 h3 h9 h9' hrm hrm' hA hB hxs hys hAA hBB hPd hxp hxt hbg hbA hbB hdt hdm hx hy
  have HB := Lib.hid (((Below.refl w.heap.size w).alloc (Nat.le_refl _) (.cells #[.int .i64 n', .int .i64 n', .slice ad xs.length cap] 24)).alloc (by simp) (.cells #[.int .i64 n', .int .i64 n', .slice ad' ys.length cap'] 24))
  have HV := Lib.hid (HV0.out.below HB.out (Nat.le_refl _))
  have HU := Lib.hid (HU0.out.below HB.out (Nat.le_refl _))
  have HE := Lib.hid (HE0.out.below HB.out (Nat.le_refl _))
  have HK := Lib.hid ((Blk.new w [.int .i64 n', .int .i64 n', .slice ad xs.length cap] 24).alloc (.cells #[.int .i64 n', .int .i64 n', .slice ad' ys.length cap'] 24))
  have HK2 := Lib.hid (Blk.at1 w (.cells #[.int .i64 n', .int .i64 n', .slice ad xs.length cap] 24) [.int .i64 n', .int .i64 n', .slice ad' ys.length cap'] 24)
  have b0 := HK.out.cell 0 _ rfl; have b1 := HK.out.cell 1 _ rfl; have b2 := HK.out.cell 2 _ rfl; have d0 := HK2.out.cell 0 _ rfl; have d1 := HK2.out.cell 1 _ rfl; have d2 := HK2.out.cell 2 _ rfl
  go_enter Tryz.func6, Tryz.ntmps6
  go_wp2_with (first
    | (go_at_call 13; (with_reducible refine (awake03 _ HE.out).mono ?_); rintro e w9 ⟨v, rfl, rfl, h9⟩; have HV := Lib.hid (HV.out.below h9 (Nat.le_refl _)); have HU := Lib.hid (HU.out.below h9 (Nat.le_refl _)); have HE := Lib.hid (HE.out.below h9 (Nat.le_refl _)); have SP := Lib.hid (SP.out.below h9 (Nat.le_refl _)); have ST := Lib.hid (ST.out.below h9 (Nat.le_refl _)); have HK := Lib.hid (HK.out.below h9 (Nat.le_refl _)); have HK2 := Lib.hid (HK2.out.below h9 (Nat.le_refl _)); have BP := Lib.hid (BP.out.below h9 (Nat.le_refl _)); have BT := Lib.hid (BT.out.below h9 (Nat.le_refl _)); have c9_HK_0 := HK.out.cell 0 _ rfl; have c9_HK_1 := HK.out.cell 1 _ rfl; have c9_HK_2 := HK.out.cell 2 _ rfl; have c9_HK2_0 := HK2.out.cell 0 _ rfl; have c9_HK2_1 := HK2.out.cell 1 _ rfl; have c9_HK2_2 := HK2.out.cell 2 _ rfl; have c9_BP_0 := BP.out.cell 0 _ rfl; have c9_BP_1 := BP.out.cell 1 _ rfl; have c9_BP_2 := BP.out.cell 2 _ rfl; have c9_BT_0 := BT.out.cell 0 _ rfl; have c9_BT_1 := BT.out.cell 1 _ rfl; have c9_BT_2 := BT.out.cell 2 _ rfl; have q9 := q8.trans (h9.mono q8.size))
    | (go_at_call 21; (with_reducible refine (Mul_ok _ _ _ x y (.of HGX.out) (.of HGY.out) HE.out).mono ?_); rintro e w8 ⟨v, rfl, rfl, h8⟩; rw [HRS.out]; have HV := Lib.hid (HV.out.below h8 (Nat.le_refl _)); have HU := Lib.hid (HU.out.below h8 (Nat.le_refl _)); have HE := Lib.hid (HE.out.below h8 (Nat.le_refl _)); have SP := Lib.hid (SP.out.below h8 (Nat.le_refl _)); have ST := Lib.hid (ST.out.below h8 (Nat.le_refl _)); have HK := Lib.hid (HK.out.below h8 (Nat.le_refl _)); have HK2 := Lib.hid (HK2.out.below h8 (Nat.le_refl _)); have BP := Lib.hid (BP.out.below h8 (Nat.le_refl _)); have BT := Lib.hid (BT.out.below h8 (Nat.le_refl _)); have c8_HK_0 := HK.out.cell 0 _ rfl; have c8_HK_1 := HK.out.cell 1 _ rfl; have c8_HK_2 := HK.out.cell 2 _ rfl; have c8_HK2_0 := HK2.out.cell 0 _ rfl; have c8_HK2_1 := HK2.out.cell 1 _ rfl; have c8_HK2_2 := HK2.out.cell 2 _ rfl; have c8_BP_0 := BP.out.cell 0 _ rfl; have c8_BP_1 := BP.out.cell 1 _ rfl; have c8_BP_2 := BP.out.cell 2 _ rfl; have c8_BT_0 := BT.out.cell 0 _ rfl; have c8_BT_1 := BT.out.cell 1 _ rfl; have c8_BT_2 := BT.out.cell 2 _ rfl; have q8 := q7.trans (h8.mono q7.size))
    | (go_at_call 14; (with_reducible refine (HDt.out _ _ ST.out HE.out).mono ?_); rintro e w7 ⟨v, rfl, rfl, h7⟩; have HV := Lib.hid (HV.out.below h7 (Nat.le_refl _)); have HU := Lib.hid (HU.out.below h7 (Nat.le_refl _)); have HE := Lib.hid (HE.out.below h7 (Nat.le_refl _)); have SP := Lib.hid (SP.out.below h7 (Nat.le_refl _)); have ST := Lib.hid (ST.out.below h7 (Nat.le_refl _)); have HK := Lib.hid (HK.out.below h7 (Nat.le_refl _)); have HK2 := Lib.hid (HK2.out.below h7 (Nat.le_refl _)); have BP := Lib.hid (BP.out.below h7 (Nat.le_refl _)); have BT := Lib.hid (BT.out.below h7 (Nat.le_refl _)); have c7_HK_0 := HK.out.cell 0 _ rfl; have c7_HK_1 := HK.out.cell 1 _ rfl; have c7_HK_2 := HK.out.cell 2 _ rfl; have c7_HK2_0 := HK2.out.cell 0 _ rfl; have c7_HK2_1 := HK2.out.cell 1 _ rfl; have c7_HK2_2 := HK2.out.cell 2 _ rfl; have c7_BP_0 := BP.out.cell 0 _ rfl; have c7_BP_1 := BP.out.cell 1 _ rfl; have c7_BP_2 := BP.out.cell 2 _ rfl; have c7_BT_0 := BT.out.cell 0 _ rfl; have c7_BT_1 := BT.out.cell 1 _ rfl; have c7_BT_2 := BT.out.cell 2 _ rfl; have q7 := q6.trans (h7.mono q6.size))
    | (go_at_call 25; (with_reducible refine (HT.out _ _ SP.out).mono ?_); rintro e w6 ⟨v, rfl, x6, rfl, s6, h6⟩; obtain ⟨a6, k6, rfl⟩ := sl_form s6; have g6 := h6.alloc h6.size (.cells #[.int .i64 n', .int .i64 n', .slice a6 (xt).length k6] 24); have ST := Lib.hid (s6.below ((Below.refl w6.heap.size w6).alloc (Nat.le_refl _) (.cells #[.int .i64 n', .int .i64 n', .slice a6 (xt).length k6] 24)) (Nat.le_refl _)); clear s6; have BT := Lib.hid (Blk.new w6 [.int .i64 n', .int .i64 n', .slice a6 (xt).length k6] 24); have HV := Lib.hid (HV.out.below g6 (Nat.le_refl _)); have HU := Lib.hid (HU.out.below g6 (Nat.le_refl _)); have HE := Lib.hid (HE.out.below g6 (Nat.le_refl _)); have SP := Lib.hid (SP.out.below g6 (Nat.le_refl _)); have HK := Lib.hid (HK.out.below g6 (Nat.le_refl _)); have HK2 := Lib.hid (HK2.out.below g6 (Nat.le_refl _)); have BP := Lib.hid (BP.out.below g6 (Nat.le_refl _)); have c6_HK_0 := HK.out.cell 0 _ rfl; have c6_HK_1 := HK.out.cell 1 _ rfl; have c6_HK_2 := HK.out.cell 2 _ rfl; have c6_HK2_0 := HK2.out.cell 0 _ rfl; have c6_HK2_1 := HK2.out.cell 1 _ rfl; have c6_HK2_2 := HK2.out.cell 2 _ rfl; have c6_BP_0 := BP.out.cell 0 _ rfl; have c6_BP_1 := BP.out.cell 1 _ rfl; have c6_BP_2 := BP.out.cell 2 _ rfl; have c6_BT_0 := BT.out.cell 0 _ rfl; have c6_BT_1 := BT.out.cell 1 _ rfl; have c6_BT_2 := BT.out.cell 2 _ rfl; have q6 := q5.trans (g6.mono q5.size))
    | (go_at_call 14; (with_reducible refine (HDp.out _ _ SP.out HE.out).mono ?_); rintro e w5 ⟨v, rfl, rfl, h5⟩; have HV := Lib.hid (HV.out.below h5 (Nat.le_refl _)); have HU := Lib.hid (HU.out.below h5 (Nat.le_refl _)); have HE := Lib.hid (HE.out.below h5 (Nat.le_refl _)); have SP := Lib.hid (SP.out.below h5 (Nat.le_refl _)); have HK := Lib.hid (HK.out.below h5 (Nat.le_refl _)); have HK2 := Lib.hid (HK2.out.below h5 (Nat.le_refl _)); have BP := Lib.hid (BP.out.below h5 (Nat.le_refl _)); have c5_HK_0 := HK.out.cell 0 _ rfl; have c5_HK_1 := HK.out.cell 1 _ rfl; have c5_HK_2 := HK.out.cell 2 _ rfl; have c5_HK2_0 := HK2.out.cell 0 _ rfl; have c5_HK2_1 := HK2.out.cell 1 _ rfl; have c5_HK2_2 := HK2.out.cell 2 _ rfl; have c5_BP_0 := BP.out.cell 0 _ rfl; have c5_BP_1 := BP.out.cell 1 _ rfl; have c5_BP_2 := BP.out.cell 2 _ rfl; have q5 := q4.trans (h5.mono q4.size))
    | (go_at_call 24; (with_reducible refine (HP.out _ _ _ HV.out HU.out HE.out).mono ?_); rintro e w4 ⟨v, rfl, x4, rfl, s4, h4⟩; obtain ⟨a4, k4, rfl⟩ := sl_form s4; have g4 := h4.alloc h4.size (.cells #[.int .i64 n', .int .i64 n', .slice a4 (xp).length k4] 24); have SP := Lib.hid (s4.below ((Below.refl w4.heap.size w4).alloc (Nat.le_refl _) (.cells #[.int .i64 n', .int .i64 n', .slice a4 (xp).length k4] 24)) (Nat.le_refl _)); clear s4; have BP := Lib.hid (Blk.new w4 [.int .i64 n', .int .i64 n', .slice a4 (xp).length k4] 24); have HV := Lib.hid (HV.out.below g4 (Nat.le_refl _)); have HU := Lib.hid (HU.out.below g4 (Nat.le_refl _)); have HE := Lib.hid (HE.out.below g4 (Nat.le_refl _)); have HK := Lib.hid (HK.out.below g4 (Nat.le_refl _)); have HK2 := Lib.hid (HK2.out.below g4 (Nat.le_refl _)); have c4_HK_0 := HK.out.cell 0 _ rfl; have c4_HK_1 := HK.out.cell 1 _ rfl; have c4_HK_2 := HK.out.cell 2 _ rfl; have c4_HK2_0 := HK2.out.cell 0 _ rfl; have c4_HK2_1 := HK2.out.cell 1 _ rfl; have c4_HK2_2 := HK2.out.cell 2 _ rfl; have c4_BP_0 := BP.out.cell 0 _ rfl; have c4_BP_1 := BP.out.cell 1 _ rfl; have c4_BP_2 := BP.out.cell 2 _ rfl; have q4 := q3.trans (g4.mono q3.size))
    | (go_at_call_of 14 (Value.agg #[Value.int .i64 n', Value.int .i64 n', Value.slice ad' ys.length cap']); (with_reducible refine (HDb.out _ _ HU.out HE.out).mono ?_); rintro e w3 ⟨v, rfl, rfl, h3⟩; have HV := Lib.hid (HV.out.below h3 (Nat.le_refl _)); have HU := Lib.hid (HU.out.below h3 (Nat.le_refl _)); have HE := Lib.hid (HE.out.below h3 (Nat.le_refl _)); have HK := Lib.hid (HK.out.below h3 (Nat.le_refl _)); have HK2 := Lib.hid (HK2.out.below h3 (Nat.le_refl _)); have c3_HK_0 := HK.out.cell 0 _ rfl; have c3_HK_1 := HK.out.cell 1 _ rfl; have c3_HK_2 := HK.out.cell 2 _ rfl; have c3_HK2_0 := HK2.out.cell 0 _ rfl; have c3_HK2_1 := HK2.out.cell 1 _ rfl; have c3_HK2_2 := HK2.out.cell 2 _ rfl; have q3 := q2.trans (h3.mono q2.size))
    | (go_at_call_of 14 (Value.agg #[Value.int .i64 n', Value.int .i64 n', Value.slice ad xs.length cap]); (with_reducible refine (HDa.out _ _ HV.out HE.out).mono ?_); rintro e w2 ⟨v, rfl, rfl, h2⟩; have HV := Lib.hid (HV.out.below h2 (Nat.le_refl _)); have HU := Lib.hid (HU.out.below h2 (Nat.le_refl _)); have HE := Lib.hid (HE.out.below h2 (Nat.le_refl _)); have HK := Lib.hid (HK.out.below h2 (Nat.le_refl _)); have HK2 := Lib.hid (HK2.out.below h2 (Nat.le_refl _)); have c2_HK_0 := HK.out.cell 0 _ rfl; have c2_HK_1 := HK.out.cell 1 _ rfl; have c2_HK_2 := HK.out.cell 2 _ rfl; have c2_HK2_0 := HK2.out.cell 0 _ rfl; have c2_HK2_1 := HK2.out.cell 1 _ rfl; have c2_HK2_2 := HK2.out.cell 2 _ rfl; have q2 := q1.trans (h2.mono q1.size))
    | (go_at_call 18; (with_reducible refine (square2_any _ _ n' n' n' n' _ _ xs ys (Blk.at2 w (.cells #[.int .i64 n', .int .i64 n', .slice ad xs.length cap] 24) (.cells #[.int .i64 n', .int .i64 n', .slice ad' ys.length cap'] 24) [.int .i64 n', .int .i64 n', .slice ad xs.length cap, .int .i64 n', .int .i64 n', .slice ad' ys.length cap'] 24) (HV.out.below (A0.out _ _) (Nat.le_refl _)) (HU.out.below (A0.out _ _) (Nat.le_refl _)) HS.out HS'.out).mono ?_); rintro e w1 ⟨v, rfl, rfl, h1⟩; rw [HQ.out]; have h1 := ((A0.out _ (.cells #[.int .i64 n', .int .i64 n', .slice ad xs.length cap, .int .i64 n', .int .i64 n', .slice ad' ys.length cap'] 24)).trans (h1.mono (by simp))); have HV := Lib.hid (HV.out.below h1 (Nat.le_refl _)); have HU := Lib.hid (HU.out.below h1 (Nat.le_refl _)); have HE := Lib.hid (HE.out.below h1 (Nat.le_refl _)); have HK := Lib.hid (HK.out.below h1 (Nat.le_refl _)); have HK2 := Lib.hid (HK2.out.below h1 (Nat.le_refl _)); have c1_HK_0 := HK.out.cell 0 _ rfl; have c1_HK_1 := HK.out.cell 1 _ rfl; have c1_HK_2 := HK.out.cell 2 _ rfl; have c1_HK2_0 := HK2.out.cell 0 _ rfl; have c1_HK2_1 := HK2.out.cell 1 _ rfl; have c1_HK2_2 := HK2.out.cell 2 _ rfl; have q1 := HB.out.trans (h1.mono HB.out.size)))
  go_ret
  exact ⟨_, rfl, rfl, q9⟩
end Go.Proofs.YtfhdmhifdaiehaaGreatDoor
