/- The law EulerDegrees. -/
import Derived.Test.YtlnhocgjgmhfgaaGreatDoorPk4
import Derived.Test.YtlnhocgjgmhfgaaGreatDoorPk12
namespace Go.Proofs.YtlnhocgjgmhfgaaGreatDoor
open Go.RowKit
set_option maxRecDepth 100000

theorem degrees_all (n : Int) (es : List (Int × Int × Int)) (hl : es.length ≤ 160) : ∃ (F T : List Nat) (S : List (Nat × Nat)) (t : Bool) (k : Int),
    (∀ (W : World) (u : Value), SlK e3 3 W u es → Calls Tryz.prog 20 #[.agg #[.int .i64 n, u]] W (RetD2 W F T k))
    ∧ (∀ (W : World) (u : Value), SlK e3 3 W u es → Calls Tryz.prog 21 #[.agg #[.int .i64 n, u]] W (RetD2 W F T k))
    ∧ (∀ (W : World) (u : Value), SlK e3 3 W u es → Calls Tryz.prog 22 #[.agg #[.int .i64 n, u]] W (RetE2 W S k))
    ∧ (∀ (W : World) (u : Value), SlK e3 3 W u es → Calls Tryz.prog 23 #[.agg #[.int .i64 n, u]] W (RetE2 W S k))
    ∧ (∀ (W : World) (u : Value), SlK e3 3 W u es → Calls Tryz.prog 25 #[.agg #[.int .i64 n, u]] W (RetB2 W t k))
    ∧ (∀ (W : World) (u : Value), SlK e3 3 W u es → Calls Tryz.prog 26 #[.agg #[.int .i64 n, u]] W (RetB2 W t k)) := by
  by_cases hk : chkDg n es = 0
  · obtain ⟨m, ns, rfl, rfl, hR⟩ := rd_of hk
    rw [List.length_map] at hl
    obtain ⟨t, ht⟩ : ∃ t : Bool, t = true ↔ EulC m ns := by
      by_cases h : EulC m ns
      · exact ⟨true, by simp [h]⟩
      · exact ⟨false, by simp [h]⟩
    exact ⟨_, _, _, t, 0, fun W u h => EDegrees_good W _ u _ m ns h rfl rfl hR (by omega), fun W u h => rDegrees_good W _ u _ m ns h rfl rfl hR (by omega), fun W u h => EEnds_good W _ u _ m ns h rfl rfl hR (by omega), fun W u h => rEnds47_good W _ u _ m ns h rfl rfl hR (by omega), fun W u h => EEulerian_good W _ u _ m ns h rfl rfl hR (by omega) t ht, fun W u h => rEulerian_good W _ u _ m ns h rfl rfl hR (by omega) t ht⟩
  · exact ⟨[], [], [], false, chkDg n es, fun W u h => EDegrees_bad W n u es h hk, fun W u h => rDegrees_bad W n u es h hk, fun W u h => EEnds_bad W n u es h hk, fun W u h => rEnds47_bad W n u es h hk, fun W u h => EEulerian_bad W n u es h hk, fun W u h => rEulerian_bad W n u es h hk⟩

set_option maxHeartbeats 4000000 in
theorem eulDegrees_any (w : World) (n : Int) (v : Value) (es : List (Int × Int × Int)) (hv : SlK e3 3 w v es) (he : Env w) :
    Calls Tryz.prog 5 #[.agg #[.int .i64 n, v]] w (Rets fun r w' => r = .bool true ∧ Below w.heap.size w w') := by
  obtain ⟨ad, c, rfl⟩ := hv.form
  obtain ⟨W, hW⟩ : ∃ W, w.alloc (.cells #[.int .i64 n, .slice ad es.length c] 28) = W := ⟨_, rfl⟩
  have BK := Lib.hid (show Blk W w.heap.size [.int .i64 n, .slice ad es.length c] 28 by rw [← hW]; exact Blk.new w _ _)
  have q0 : Below w.heap.size w W := by rw [← hW]; exact (Below.refl _ w).alloc (Nat.le_refl _) _
  have SV := Lib.hid (hv.below q0 (Nat.le_refl _))
  have HE := Lib.hid (he.below q0 (Nat.le_refl _))
  have HW := Lib.hid hW
  have k0 := BK.out.cell 0 _ rfl; have k1 := BK.out.cell 1 _ rfl
  clear hv he hW
  by_cases hfew : es.length ≤ 160
  rotate_left
  · have HF := Lib.hid (show decide (es.length ≤ 160) = false by simpa using hfew)
    clear hfew
    go_enter Tryz.func5, Tryz.ntmps5
    go_wp2_with (first
      | (go_at_call 8; (with_reducible refine (awake47 _ HE.out).mono ?_); rintro e w2 ⟨v, rfl, rfl, h2⟩; have q2 := q1.trans (h2.mono q1.size))
      | (go_at_call 19; (try rw [HW.out]); (with_reducible refine (FewDigraph_any W n _ es SV.out).mono ?_); rintro e w1 ⟨v, rfl, rfl, h1⟩; rw [HF.out]; have HE := Lib.hid (HE.out.below h1 (Nat.le_refl _)); have q1 := q0.trans (h1.mono q0.size)))
    go_ret
    exact ⟨_, rfl, rfl, q2⟩
  have HF := Lib.hid (show decide (es.length ≤ 160) = true by simpa using hfew)
  obtain ⟨F, T, S, t, k, H1, H2, H3, H4, H5, H6⟩ := degrees_all n es hfew
  have C1 := Lib.hid H1; have C2 := Lib.hid H2; have C3 := Lib.hid H3; have C4 := Lib.hid H4; have C5 := Lib.hid H5; have C6 := Lib.hid H6
  clear H1 H2 H3 H4 H5 H6 hfew
  have EF := Lib.hid (fun (w1 : World) (v u : Value) (hv : SlK i1 1 w1 v F) (hu : SlK i1 1 w1 u F) => show Calls Tryz.prog 18 #[v, u] w1 (Rets fun r w' => r = .bool true ∧ Below w1.heap.size w1 w') from by have := EqualI_any w1 v u F F hv hu; rwa [decide_eq_true rfl] at this)
  have ET := Lib.hid (fun (w1 : World) (v u : Value) (hv : SlK i1 1 w1 v T) (hu : SlK i1 1 w1 u T) => show Calls Tryz.prog 18 #[v, u] w1 (Rets fun r w' => r = .bool true ∧ Below w1.heap.size w1 w') from by have := EqualI_any w1 v u T T hv hu; rwa [decide_eq_true rfl] at this)
  go_enter Tryz.func5, Tryz.ntmps5
  go_wp2_with (first
    | (go_at_call 8; (with_reducible refine (awake47 _ HE.out).mono ?_); rintro e w11 ⟨v, rfl, rfl, h11⟩; have HE := Lib.hid (HE.out.below h11 (Nat.le_refl _)); have q11 := q10.trans (h11.mono q10.size))
    | (go_at_call 26; (with_reducible refine (C6.out _ _ SV.out).mono ?_); rintro e w10 ⟨v, rfl, rfl, h10⟩; have HE := Lib.hid (HE.out.below h10 (Nat.le_refl _)); have SV := Lib.hid (SV.out.below h10 (Nat.le_refl _)); have BK := Lib.hid (BK.out.below h10 (Nat.le_refl _)); have c10_BK_0 := BK.out.cell 0 _ rfl; have c10_BK_1 := BK.out.cell 1 _ rfl; have q10 := q9.trans (h10.mono q9.size))
    | (go_at_call 25; (with_reducible refine (C5.out _ _ SV.out).mono ?_); rintro e w9 ⟨v, rfl, rfl, h9⟩; have HE := Lib.hid (HE.out.below h9 (Nat.le_refl _)); have SV := Lib.hid (SV.out.below h9 (Nat.le_refl _)); have BK := Lib.hid (BK.out.below h9 (Nat.le_refl _)); have c9_BK_0 := BK.out.cell 0 _ rfl; have c9_BK_1 := BK.out.cell 1 _ rfl; have q9 := q8.trans (h9.mono q8.size))
    | (go_at_call 24; (with_reducible refine (EqualE_same _ _ _ S S1.out S2.out).mono ?_); rintro e w8 ⟨v, rfl, rfl, h8⟩; have HE := Lib.hid (HE.out.below h8 (Nat.le_refl _)); have SV := Lib.hid (SV.out.below h8 (Nat.le_refl _)); have S1 := Lib.hid (S1.out.below h8 (Nat.le_refl _)); have S2 := Lib.hid (S2.out.below h8 (Nat.le_refl _)); have BK := Lib.hid (BK.out.below h8 (Nat.le_refl _)); have c8_BK_0 := BK.out.cell 0 _ rfl; have c8_BK_1 := BK.out.cell 1 _ rfl; have q8 := q7.trans (h8.mono q7.size))
    | (go_at_call 18; (with_reducible refine (ET.out _ _ _ T1.out T2.out).mono ?_); rintro e w7 ⟨v, rfl, rfl, h7⟩; have HE := Lib.hid (HE.out.below h7 (Nat.le_refl _)); have SV := Lib.hid (SV.out.below h7 (Nat.le_refl _)); have T1 := Lib.hid (T1.out.below h7 (Nat.le_refl _)); have T2 := Lib.hid (T2.out.below h7 (Nat.le_refl _)); have S1 := Lib.hid (S1.out.below h7 (Nat.le_refl _)); have S2 := Lib.hid (S2.out.below h7 (Nat.le_refl _)); have BK := Lib.hid (BK.out.below h7 (Nat.le_refl _)); have c7_BK_0 := BK.out.cell 0 _ rfl; have c7_BK_1 := BK.out.cell 1 _ rfl; have q7 := q6.trans (h7.mono q6.size))
    | (go_at_call 18; (with_reducible refine (EF.out _ _ _ F1.out F2.out).mono ?_); rintro e w6 ⟨v, rfl, rfl, h6⟩; have HE := Lib.hid (HE.out.below h6 (Nat.le_refl _)); have SV := Lib.hid (SV.out.below h6 (Nat.le_refl _)); have F1 := Lib.hid (F1.out.below h6 (Nat.le_refl _)); have T1 := Lib.hid (T1.out.below h6 (Nat.le_refl _)); have F2 := Lib.hid (F2.out.below h6 (Nat.le_refl _)); have T2 := Lib.hid (T2.out.below h6 (Nat.le_refl _)); have S1 := Lib.hid (S1.out.below h6 (Nat.le_refl _)); have S2 := Lib.hid (S2.out.below h6 (Nat.le_refl _)); have BK := Lib.hid (BK.out.below h6 (Nat.le_refl _)); have c6_BK_0 := BK.out.cell 0 _ rfl; have c6_BK_1 := BK.out.cell 1 _ rfl; have q6 := q5.trans (h6.mono q5.size))
    | (go_at_call 23; (with_reducible refine (C4.out _ _ SV.out).mono ?_); rintro e w5 ⟨v, rfl, u5, rfl, s5, h5⟩; have S2 := Lib.hid s5; clear s5; have HE := Lib.hid (HE.out.below h5 (Nat.le_refl _)); have SV := Lib.hid (SV.out.below h5 (Nat.le_refl _)); have F1 := Lib.hid (F1.out.below h5 (Nat.le_refl _)); have T1 := Lib.hid (T1.out.below h5 (Nat.le_refl _)); have F2 := Lib.hid (F2.out.below h5 (Nat.le_refl _)); have T2 := Lib.hid (T2.out.below h5 (Nat.le_refl _)); have S1 := Lib.hid (S1.out.below h5 (Nat.le_refl _)); have BK := Lib.hid (BK.out.below h5 (Nat.le_refl _)); have c5_BK_0 := BK.out.cell 0 _ rfl; have c5_BK_1 := BK.out.cell 1 _ rfl; have q5 := q4.trans (h5.mono q4.size))
    | (go_at_call 22; (with_reducible refine (C3.out _ _ SV.out).mono ?_); rintro e w4 ⟨v, rfl, u4, rfl, s4, h4⟩; have S1 := Lib.hid s4; clear s4; have HE := Lib.hid (HE.out.below h4 (Nat.le_refl _)); have SV := Lib.hid (SV.out.below h4 (Nat.le_refl _)); have F1 := Lib.hid (F1.out.below h4 (Nat.le_refl _)); have T1 := Lib.hid (T1.out.below h4 (Nat.le_refl _)); have F2 := Lib.hid (F2.out.below h4 (Nat.le_refl _)); have T2 := Lib.hid (T2.out.below h4 (Nat.le_refl _)); have BK := Lib.hid (BK.out.below h4 (Nat.le_refl _)); have c4_BK_0 := BK.out.cell 0 _ rfl; have c4_BK_1 := BK.out.cell 1 _ rfl; have q4 := q3.trans (h4.mono q3.size))
    | (go_at_call 21; (with_reducible refine (C2.out _ _ SV.out).mono ?_); rintro e w3 ⟨v, rfl, u3, v3, rfl, s3, t3, h3⟩; have F2 := Lib.hid s3; have T2 := Lib.hid t3; clear s3 t3; have HE := Lib.hid (HE.out.below h3 (Nat.le_refl _)); have SV := Lib.hid (SV.out.below h3 (Nat.le_refl _)); have F1 := Lib.hid (F1.out.below h3 (Nat.le_refl _)); have T1 := Lib.hid (T1.out.below h3 (Nat.le_refl _)); have BK := Lib.hid (BK.out.below h3 (Nat.le_refl _)); have c3_BK_0 := BK.out.cell 0 _ rfl; have c3_BK_1 := BK.out.cell 1 _ rfl; have q3 := q2.trans (h3.mono q2.size))
    | (go_at_call 20; (with_reducible refine (C1.out _ _ SV.out).mono ?_); rintro e w2 ⟨v, rfl, u2, v2, rfl, s2, t2, h2⟩; have F1 := Lib.hid s2; have T1 := Lib.hid t2; clear s2 t2; have HE := Lib.hid (HE.out.below h2 (Nat.le_refl _)); have SV := Lib.hid (SV.out.below h2 (Nat.le_refl _)); have BK := Lib.hid (BK.out.below h2 (Nat.le_refl _)); have c2_BK_0 := BK.out.cell 0 _ rfl; have c2_BK_1 := BK.out.cell 1 _ rfl; have q2 := q1.trans (h2.mono q1.size))
    | (go_at_call 19; (try rw [HW.out]); (with_reducible refine (FewDigraph_any _ n _ es SV.out).mono ?_); rintro e w1 ⟨v, rfl, rfl, h1⟩; rw [HF.out]; have HE := Lib.hid (HE.out.below h1 (Nat.le_refl _)); have SV := Lib.hid (SV.out.below h1 (Nat.le_refl _)); have BK := Lib.hid (BK.out.below h1 (Nat.le_refl _)); have c1_BK_0 := BK.out.cell 0 _ rfl; have c1_BK_1 := BK.out.cell 1 _ rfl; have q1 := q0.trans (h1.mono q0.size)))
  go_ret
  exact ⟨_, rfl, rfl, q11⟩
end Go.Proofs.YtlnhocgjgmhfgaaGreatDoor
