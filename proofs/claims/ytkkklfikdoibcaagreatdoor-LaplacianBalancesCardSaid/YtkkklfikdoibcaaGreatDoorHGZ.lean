/- The walk of the law LaplacianBalances. -/
import Derived.Test.YtkkklfikdoibcaaGreatDoorPk16
import Derived.Test.YtkkklfikdoibcaaGreatDoorPk14
import Derived.Test.YtkkklfikdoibcaaGreatDoorPk11
namespace Go.Proofs.YtkkklfikdoibcaaGreatDoor
open Go.RowKit
set_option maxRecDepth 100000

theorem chk_filter {N : Nat} {es : List (Int × Int × Int)} {ns : List (Nat × Nat × Nat)} (hR : RG (N : Int) es ns) : chkG (N : Int) ((ns.filter nl).map n3) = 0 := by
  have hp := hR.pos; have hl := hR.le
  unfold chkG
  rw [if_neg (by omega)]
  refine estep_asc _ _ _ (fun x _ => by simp only [lt2, decide_eq_true_eq]; omega) (fun x hx => ?_) (hR.asc.sublist List.filter_sublist)
  have := hR.rng x (List.mem_filter.1 hx).1
  omega
theorem full_filter {N : Nat} {es : List (Int × Int × Int)} {ns : List (Nat × Nat × Nat)} (hR : RG (N : Int) es ns) : fullS (N : Int) ((ns.filter nl).map n3) = ⟨N, N, cellsF N N (lap ns), 0⟩ := by
  unfold fullS
  rw [if_pos (chk_filter hR), nsOf_n3, lap_filter, Int.toNat_natCast]
theorem full_right {N : Nat} {es : List (Int × Int × Int)} {ns : List (Nat × Nat × Nat)} (hR : RG (N : Int) es ns) (hc : chkG N es = 0) : fullS (N : Int) es = ⟨N, N, cellsF N N (lap ns), 0⟩ := by
  unfold fullS
  rw [if_pos hc, hR.nsOf, Int.toNat_natCast]
theorem cells_tr (N : Nat) (ns : List (Nat × Nat × Nat)) : cellsF N N (tr (lap ns)) = cellsF N N (lap ns) := cellsF_congr fun i k _ _ => lap_sym ns k i
def oneT : ByteArray := ⟨#[49]⟩
def zeroT : ByteArray := ⟨#[48]⟩
theorem ones_cells (N : Nat) : List.replicate N oneT = cellsF N 1 (fun _ _ => 1) := by
  apply List.ext_getElem (by simp [cellsF])
  intro i h1 h2
  simp [cellsF]
  decide +kernel
theorem zeros_cells (N : Nat) : cellsF N 1 (fun _ _ => 0) = List.replicate N zeroT := by
  apply List.ext_getElem (by simp [cellsF])
  intro i h1 h2
  simp [cellsF]
  decide +kernel
theorem row_zero {N : Nat} {ns : List (Nat × Nat × Nat)} (hr : ∀ x ∈ ns, x.1 < N ∧ x.2.1 < N ∧ x.1 ≤ x.2.1) (i : Nat) : sm N (fun k => lap ns i k * 1) = 0 := by
  have := lap_img N (fun _ => 1) i (ns := ns) hr
  rw [sK_sm, img_flat] at this
  exact this
theorem apply_ones {N : Nat} {es : List (Int × Int × Int)} {ns : List (Nat × Nat × Nat)} (hR : RG (N : Int) es ns) (hd : ∀ i k, i < N → k < N → dn (lap ns i k) ≤ 58) : applyS N N (cellsF N N (lap ns)) (List.replicate N oneT) = (List.replicate N zeroT, 0) := by
  have hN : N ≤ 12 := by have := hR.le; omega
  have h1 := rm_cells (r := N) (c := N) (D := 58) (A := lap ns) (by omega) (by omega) (by omega) hd
  have hone : ∀ i k, i < N → k < 1 → dn ((fun _ _ => 1 : Mat) i k) ≤ 58 := fun i k _ _ => Nat.le_trans (dn_six (z := 1) (by omega)) (by omega)
  have h2 := rm_cells (r := N) (c := 1) (D := 58) (A := fun _ _ => 1) (by omega) (by omega) (by omega) hone
  have hch : chks (List.replicate N oneT) = 0 := by
    have : ∀ k, chks (List.replicate k oneT) = 0 := by
      intro k
      induction k with
      | zero => rfl
      | succ k ih => rw [List.replicate_succ]; unfold chks; rw [ih]; decide +kernel
    exact this N
  unfold applyS
  rw [if_pos h1.mchk, if_pos (by simp), if_pos hch, Int.toNat_natCast, ones_cells, ← zeros_cells]
  congr 1
  refine cellsF_congr fun i k hi hk => ?_
  unfold mulM
  rw [sm_congr (g := fun j => lap ns i j * 1) fun j hj => ?_]
  · exact row_zero (fun x hx => by have := hR.rng x hx; omega) i
  · rw [matF_cells hi hj (bigD (by have := hd i j hi hj; omega)), matF_cells hj (show k < 1 by omega) (bigD (by have := hone j k hj (by omega); simp only at this; omega))]
def onesAt (N k : Nat) : List ByteArray := (List.range N).map fun i => if i < k then oneT else ⟨#[]⟩
theorem onesAt_zero (N : Nat) : onesAt N 0 = List.replicate N ⟨#[]⟩ := by
  apply List.ext_getElem (by simp [onesAt])
  intro i h1 h2
  simp [onesAt]
theorem onesAt_len (N k : Nat) : (onesAt N k).length = N := by simp [onesAt]
theorem onesAt_set (N k : Nat) : (onesAt N k).set k oneT = onesAt N (k + 1) := by
  apply List.ext_getElem (by simp [onesAt])
  intro i h1 h2
  rw [List.getElem_set]
  simp only [onesAt, List.getElem_map, List.getElem_range]
  by_cases e : k = i
  · subst e; rw [if_pos rfl, if_pos (by omega)]
  · rw [if_neg e]
    by_cases h : i < k
    · rw [if_pos h, if_pos (by omega)]
    · rw [if_neg h, if_neg (by omega)]
theorem onesAt_all (N : Nat) : onesAt N N = List.replicate N oneT := by
  apply List.ext_getElem (by simp [onesAt])
  intro i h1 h2
  have : i < N := by simpa [onesAt] using h1
  simp [onesAt, this]
theorem sl_formM {α : Type} {enc : α → Value} {w : World} {v : Value} {xs : List α} {N : Nat} (h : Sl enc w v xs) (hl : xs.length = N) : ∃ a c, v = .slice a N c := by subst hl; exact sl_form h
theorem retLS_of {P : Program} {f : FuncId} {a : Array Value} {w : World} {p : List ByteArray × Int} {t : List ByteArray} {k : Int} (h : Calls P f a w (RetLS w p.1 p.2)) (e : p = (t, k)) : Calls P f a w (RetLS w t k) := by subst e; exact h
set_option maxHeartbeats 8000000 in
theorem lapBalances_any (w : World) (n : Int) (v : Value) (es : List (Int × Int × Int)) (hv : SlK e3 3 w v es) (he : Env w) :
    Calls Tryz.prog 8 #[.agg #[.int .i64 n, v]] w (Rets fun r w' => r = .bool true ∧ Below w.heap.size w w') := by
  obtain ⟨ad, c, rfl⟩ := hv.form
  have q0 := (Below.refl w.heap.size w).alloc (Nat.le_refl _) (.cells #[.int .i64 n, .slice ad es.length c] 24)
  have SG := Lib.hid (hv.below q0 (Nat.le_refl _))
  have HE := Lib.hid (he.below q0 (Nat.le_refl _))
  have BG := Lib.hid (Blk.new w [.int .i64 n, .slice ad es.length c] 24)
  clear hv he
  by_cases hf : (smallB n es 6 9 && decide (chkG n es = 0)) = true
  rotate_left
  · have HF := Lib.hid (show (smallB n es 6 9 && decide (chkG n es = 0)) = false by simpa using hf)
    clear hf
    go_enter Tryz.func8, Tryz.ntmps8
    go_wp2_with (first
      | (go_at_call 15; (with_reducible refine (awake15 _ HE.out).mono ?_); rintro e w2 ⟨v, rfl, rfl, h2⟩; have SG := Lib.hid (SG.out.below h2 (Nat.le_refl _)); have HE := Lib.hid (HE.out.below h2 (Nat.le_refl _)); have BG := Lib.hid (BG.out.below h2 (Nat.le_refl _)); have c2_BG_0 := BG.out.cell 0 _ rfl; have c2_BG_1 := BG.out.cell 1 _ rfl; have q2 := q1.trans (h2.mono q1.size))
      | (go_at_call 30; (with_reducible refine (right_any _ n _ es SG.out).mono ?_); rintro e w1 ⟨v, rfl, rfl, h1⟩; rw [HF.out]; have SG := Lib.hid (SG.out.below h1 (Nat.le_refl _)); have HE := Lib.hid (HE.out.below h1 (Nat.le_refl _)); have BG := Lib.hid (BG.out.below h1 (Nat.le_refl _)); have c1_BG_0 := BG.out.cell 0 _ rfl; have c1_BG_1 := BG.out.cell 1 _ rfl; have q1 := q0.trans (h1.mono q0.size)))
    go_ret
    exact ⟨_, rfl, rfl, q2⟩
  have HF := Lib.hid hf
  rw [Bool.and_eq_true, decide_eq_true_eq] at hf
  obtain ⟨hf1, hc⟩ := hf
  have hl : es.length ≤ 1000 := by have := few_len hf1; omega
  obtain ⟨h6, h9⟩ := few_six hf1 hc
  obtain ⟨ns, hRG⟩ := rg_of hc
  obtain ⟨N, rfl⟩ : ∃ N : Nat, n = (N : Int) := ⟨n.toNat, by have := hRG.pos; omega⟩
  have hN1 : 1 ≤ N := by have := hRG.pos; omega
  have hN6 : N ≤ 6 := by omega
  have hes := hRG.eq
  subst hes
  have hnl : (ns.map n3).length = ns.length := List.length_map _
  rw [hnl] at SG BG q0 HE hl ⊢
  have hm : ∀ x ∈ ns, x.2.2 ≤ 50 := fun x hx => (hRG.rng x hx).2.2.2.1
  have hdn : ∀ i k, i < N → k < N → dn (lap ns i k) ≤ 58 := fun i k _ _ => Nat.le_trans (dn_lap hm hl i k) (by omega)
  have hap := apply_ones hRG hdn
  obtain ⟨r0, hr0⟩ : ∃ r, ((List.range N).filter fun v => decide (root N ns v ≠ v)).length = r := ⟨_, rfl⟩
  have hrk := lap_rank hRG
  rw [hr0] at hrk
  obtain ⟨X, hX⟩ : ∃ X, cellsF N N (lap ns) = X := ⟨_, rfl⟩
  have HF1 := Lib.hid (fun (W : World) (h1 : SlK e3 3 W (.slice ad ns.length c) (ns.map n3)) (h2 : Env W) => show Calls Tryz.prog 16 #[.agg #[.int .i64 (N : Nat), .slice ad ns.length c]] W (RetM W (N : Int) (N : Int) X 0) from retM_of (Full_any W (N : Int) _ (ns.map n3) h1 (by rw [hnl]; exact hl) h2) (by rw [full_right hRG hc, hX]))
  have HF2 := Lib.hid (fun (W : World) (u : Value) (h1 : SlK e3 3 W u ((ns.filter nl).map n3)) (h2 : Env W) => show Calls Tryz.prog 16 #[.agg #[.int .i64 (N : Nat), u]] W (RetM W (N : Int) (N : Int) X 0) from retM_of (Full_any W (N : Int) _ ((ns.filter nl).map n3) h1 (by rw [List.length_map]; have := List.length_filter_le nl ns; omega) h2) (by rw [full_filter hRG, hX]))
  have HTR := Lib.hid (fun (W : World) (u : Value) (h1 : Sl eS W u X) => show Calls Tryz.prog 31 #[.agg #[.int .i64 (N : Nat), .int .i64 (N : Nat), u]] W (RetM W (N : Int) (N : Int) X 0) from by
    have := tr_call (r := N) (c := N) (D := 58) (A := lap ns) h1 hX.symm (by omega) (by omega) (by omega) hdn
    rw [cells_tr, hX] at this
    exact this)
  have HRK := Lib.hid (fun (W : World) (u : Value) (h1 : Sl eS W u X) (h2 : Env W) => show Calls Tryz.prog 32 #[.agg #[.int .i64 (N : Nat), .int .i64 (N : Nat), u]] W (Rets fun v w' => v = .tuple #[.int .i64 (r0 : Nat), .int .i64 0] ∧ Below W.heap.size W w') from rank_call (D := 58) h1 hX.symm hN6 hN6 (by omega) hdn hrk h2)
  have HLL := Lib.hid (fun (W : World) (h1 : SlK e3 3 W (.slice ad ns.length c) (ns.map n3)) => Loopless_ok W N _ ns h1 hc hm hl)
  have HSM := Lib.hid (fun (W : World) (u u' : Value) (h1 : Sl eS W u X) (h2 : Sl eS W u' X) => show Calls Tryz.prog 34 #[.agg #[.int .i64 (N : Nat), .int .i64 (N : Nat), u], .agg #[.int .i64 (N : Nat), .int .i64 (N : Nat), u']] W (Rets fun r w' => r = .bool true ∧ Below W.heap.size W w') from by
    have := MSame_any W (N : Int) (N : Int) (N : Int) (N : Int) u u' X X h1 h2
    rwa [sameM_self] at this)
  have HPT := Lib.hid (fun (W : World) (h1 : SlK e3 3 W (.slice ad ns.length c) (ns.map n3)) => show Calls Tryz.prog 35 #[.agg #[.int .i64 (N : Nat), .slice ad ns.length c]] W (Rets fun r w' => r = .int .i64 ((N - r0 : Nat) : Int) ∧ Below W.heap.size W w') from (rParts_any W N _ (ns.map n3) ns h1 hRG).mono (by
    rintro e w' ⟨r, he, q, hr, hq, hb⟩
    rw [hr0] at hq
    exact ⟨r, he, by rw [hr, show N - r0 = q by omega], hb⟩))
  have hrN : r0 ≤ N := by rw [← hr0]; have := List.length_filter_le (fun v => decide (root N ns v ≠ v)) (List.range N); simpa using this
  have HAP := Lib.hid (fun (W : World) (u u' : Value) (h1 : Sl eS W u X) (h2 : Sl eS W u' (List.replicate N oneT)) (h3 : Env W) => show Calls Tryz.prog 36 #[.agg #[.int .i64 (N : Nat), .int .i64 (N : Nat), u], u'] W (RetLS W (List.replicate N zeroT) 0) from by
    have hone : ∀ s ∈ List.replicate N oneT, s.size ≤ 1 := fun s hs => by rw [List.eq_of_mem_replicate hs]; decide
    refine retLS_of (Apply_any W (N : Int) (N : Int) u u' X _ h1 h2 ?_ (fun _ s hs => Nat.le_trans (hone s hs) (by omega)) (fun _ _ s hs => Nat.le_trans (hone s hs) (by omega)) h3) (by rw [← hX]; exact hap)
    intro s hs
    rw [← hX] at hs
    exact Nat.le_trans (fit_cells hdn s hs) (by omega))
  have A0 := Lib.hid (fun (w1 : World) (o : Obj) => (Below.refl w1.heap.size w1).alloc (Nat.le_refl _) o)
  have w00 : IntKind.i64.wrap (0 + 0) = 0 := rfl
  have e1 : IntKind.i64.wrap ((N : Int) - ((N - r0 : Nat) : Int)) = (r0 : Int) := by rw [IntKind.wrap_i64]; omega
  have e2 : ((r0 : Int) != (r0 : Int)) = false := by simp
  have en3 : ((N : Int) == (N : Int)) = true := by simp
  clear hf1 hc h6 h9 hRG hm hdn hap hr0 hrk hX hnl
  go_enter Tryz.func8, Tryz.ntmps8
  go_wp2_with (first
    | (go_at_call 16; (with_reducible refine (HF2.out _ _ SP.out HE.out).mono ?_); rintro e w6 ⟨v, rfl, x6, rfl, s6, h6⟩; obtain ⟨a6, k6, rfl⟩ := sl_form s6; have g6 := h6.alloc h6.size (.cells #[.int .i64 (N : Nat), .int .i64 (N : Nat), .slice a6 (X).length k6] 29); have T3 := Lib.hid (s6.below ((Below.refl w6.heap.size w6).alloc (Nat.le_refl _) (.cells #[.int .i64 (N : Nat), .int .i64 (N : Nat), .slice a6 (X).length k6] 29)) (Nat.le_refl _)); clear s6; have B3 := Lib.hid (Blk.new w6 [.int .i64 (N : Nat), .int .i64 (N : Nat), .slice a6 (X).length k6] 29); have SG := Lib.hid (SG.out.below g6 (Nat.le_refl _)); have HE := Lib.hid (HE.out.below g6 (Nat.le_refl _)); have T1 := Lib.hid (T1.out.below g6 (Nat.le_refl _)); have T2 := Lib.hid (T2.out.below g6 (Nat.le_refl _)); have SP := Lib.hid (SP.out.below g6 (Nat.le_refl _)); have BG := Lib.hid (BG.out.below g6 (Nat.le_refl _)); have B1 := Lib.hid (B1.out.below g6 (Nat.le_refl _)); have B2 := Lib.hid (B2.out.below g6 (Nat.le_refl _)); have BP := Lib.hid (BP.out.below g6 (Nat.le_refl _)); have c6_BG_0 := BG.out.cell 0 _ rfl; have c6_BG_1 := BG.out.cell 1 _ rfl; have c6_B1_0 := B1.out.cell 0 _ rfl; have c6_B1_1 := B1.out.cell 1 _ rfl; have c6_B1_2 := B1.out.cell 2 _ rfl; have c6_B2_0 := B2.out.cell 0 _ rfl; have c6_B2_1 := B2.out.cell 1 _ rfl; have c6_B2_2 := B2.out.cell 2 _ rfl; have c6_BP_0 := BP.out.cell 0 _ rfl; have c6_BP_1 := BP.out.cell 1 _ rfl; have c6_B3_0 := B3.out.cell 0 _ rfl; have c6_B3_1 := B3.out.cell 1 _ rfl; have c6_B3_2 := B3.out.cell 2 _ rfl; have q6 := q5.trans (g6.mono q5.size))
    | (go_at_call 33; (with_reducible refine (HLL.out _ SG.out).mono ?_); rintro e w5 ⟨v, rfl, pu, rfl, sp, h50⟩; obtain ⟨pa, pc, rfl⟩ := sp.form; rw [List.length_map] at sp; have h5 := h50.alloc h50.size (.cells #[.int .i64 (N : Nat), .slice pa (ns.filter nl).length pc] 24); have SP := Lib.hid (sp.below (A0.out w5 (.cells #[.int .i64 (N : Nat), .slice pa (ns.filter nl).length pc] 24)) (Nat.le_refl _)); have BP := Lib.hid (Blk.new w5 [.int .i64 (N : Nat), .slice pa (ns.filter nl).length pc] 24); clear sp h50; have SG := Lib.hid (SG.out.below h5 (Nat.le_refl _)); have HE := Lib.hid (HE.out.below h5 (Nat.le_refl _)); have T1 := Lib.hid (T1.out.below h5 (Nat.le_refl _)); have T2 := Lib.hid (T2.out.below h5 (Nat.le_refl _)); have BG := Lib.hid (BG.out.below h5 (Nat.le_refl _)); have B1 := Lib.hid (B1.out.below h5 (Nat.le_refl _)); have B2 := Lib.hid (B2.out.below h5 (Nat.le_refl _)); have c5_BG_0 := BG.out.cell 0 _ rfl; have c5_BG_1 := BG.out.cell 1 _ rfl; have c5_B1_0 := B1.out.cell 0 _ rfl; have c5_B1_1 := B1.out.cell 1 _ rfl; have c5_B1_2 := B1.out.cell 2 _ rfl; have c5_B2_0 := B2.out.cell 0 _ rfl; have c5_B2_1 := B2.out.cell 1 _ rfl; have c5_B2_2 := B2.out.cell 2 _ rfl; have c5_BP_0 := BP.out.cell 0 _ rfl; have c5_BP_1 := BP.out.cell 1 _ rfl; have q5 := q4.trans (h5.mono q4.size))
    | (go_at_call 32; (with_reducible refine (HRK.out _ _ T1.out HE.out).mono ?_); rintro e w4 ⟨v, rfl, rfl, h4⟩; have SG := Lib.hid (SG.out.below h4 (Nat.le_refl _)); have HE := Lib.hid (HE.out.below h4 (Nat.le_refl _)); have T1 := Lib.hid (T1.out.below h4 (Nat.le_refl _)); have T2 := Lib.hid (T2.out.below h4 (Nat.le_refl _)); have BG := Lib.hid (BG.out.below h4 (Nat.le_refl _)); have B1 := Lib.hid (B1.out.below h4 (Nat.le_refl _)); have B2 := Lib.hid (B2.out.below h4 (Nat.le_refl _)); have c4_BG_0 := BG.out.cell 0 _ rfl; have c4_BG_1 := BG.out.cell 1 _ rfl; have c4_B1_0 := B1.out.cell 0 _ rfl; have c4_B1_1 := B1.out.cell 1 _ rfl; have c4_B1_2 := B1.out.cell 2 _ rfl; have c4_B2_0 := B2.out.cell 0 _ rfl; have c4_B2_1 := B2.out.cell 1 _ rfl; have c4_B2_2 := B2.out.cell 2 _ rfl; have q4 := q3.trans (h4.mono q3.size))
    | (go_at_call 31; (with_reducible refine (HTR.out _ _ T1.out).mono ?_); rintro e w3 ⟨v, rfl, x3, rfl, s3, h3⟩; obtain ⟨a3, k3, rfl⟩ := sl_form s3; have g3 := h3.alloc h3.size (.cells #[.int .i64 (N : Nat), .int .i64 (N : Nat), .slice a3 (X).length k3] 29); have T2 := Lib.hid (s3.below ((Below.refl w3.heap.size w3).alloc (Nat.le_refl _) (.cells #[.int .i64 (N : Nat), .int .i64 (N : Nat), .slice a3 (X).length k3] 29)) (Nat.le_refl _)); clear s3; have B2 := Lib.hid (Blk.new w3 [.int .i64 (N : Nat), .int .i64 (N : Nat), .slice a3 (X).length k3] 29); have SG := Lib.hid (SG.out.below g3 (Nat.le_refl _)); have HE := Lib.hid (HE.out.below g3 (Nat.le_refl _)); have T1 := Lib.hid (T1.out.below g3 (Nat.le_refl _)); have BG := Lib.hid (BG.out.below g3 (Nat.le_refl _)); have B1 := Lib.hid (B1.out.below g3 (Nat.le_refl _)); have c3_BG_0 := BG.out.cell 0 _ rfl; have c3_BG_1 := BG.out.cell 1 _ rfl; have c3_B1_0 := B1.out.cell 0 _ rfl; have c3_B1_1 := B1.out.cell 1 _ rfl; have c3_B1_2 := B1.out.cell 2 _ rfl; have c3_B2_0 := B2.out.cell 0 _ rfl; have c3_B2_1 := B2.out.cell 1 _ rfl; have c3_B2_2 := B2.out.cell 2 _ rfl; have q3 := q2.trans (g3.mono q2.size))
    | (go_at_call 16; (with_reducible refine (HF1.out _ SG.out HE.out).mono ?_); rintro e w2 ⟨v, rfl, x2, rfl, s2, h2⟩; obtain ⟨a2, k2, rfl⟩ := sl_form s2; have g2 := h2.alloc h2.size (.cells #[.int .i64 (N : Nat), .int .i64 (N : Nat), .slice a2 (X).length k2] 29); have T1 := Lib.hid (s2.below ((Below.refl w2.heap.size w2).alloc (Nat.le_refl _) (.cells #[.int .i64 (N : Nat), .int .i64 (N : Nat), .slice a2 (X).length k2] 29)) (Nat.le_refl _)); clear s2; have B1 := Lib.hid (Blk.new w2 [.int .i64 (N : Nat), .int .i64 (N : Nat), .slice a2 (X).length k2] 29); have SG := Lib.hid (SG.out.below g2 (Nat.le_refl _)); have HE := Lib.hid (HE.out.below g2 (Nat.le_refl _)); have BG := Lib.hid (BG.out.below g2 (Nat.le_refl _)); have c2_BG_0 := BG.out.cell 0 _ rfl; have c2_BG_1 := BG.out.cell 1 _ rfl; have c2_B1_0 := B1.out.cell 0 _ rfl; have c2_B1_1 := B1.out.cell 1 _ rfl; have c2_B1_2 := B1.out.cell 2 _ rfl; have q2 := q1.trans (g2.mono q1.size))
    | (go_at_call 30; (with_reducible refine (right_any _ (N : Int) _ (ns.map n3) SG.out).mono ?_); rintro e w1 ⟨v, rfl, rfl, h1⟩; rw [HF.out]; have SG := Lib.hid (SG.out.below h1 (Nat.le_refl _)); have HE := Lib.hid (HE.out.below h1 (Nat.le_refl _)); have BG := Lib.hid (BG.out.below h1 (Nat.le_refl _)); have c1_BG_0 := BG.out.cell 0 _ rfl; have c1_BG_1 := BG.out.cell 1 _ rfl; have q1 := q0.trans (h1.mono q0.size)))
  have HQ := Lib.hid q6
  obtain ⟨D, hD⟩ : ∃ D, w.heap.size = D := ⟨_, rfl⟩
  obtain ⟨b1, hb1⟩ : ∃ b, w2.heap.size = b := ⟨_, rfl⟩
  obtain ⟨b2, hb2⟩ : ∃ b, w3.heap.size = b := ⟨_, rfl⟩
  obtain ⟨b3, hb3⟩ : ∃ b, w6.heap.size = b := ⟨_, rfl⟩
  obtain ⟨v00, hv00⟩ : ∃ x, w6.alloc (.cells #[.int .i64 (N : Nat), .int .i64 (N : Nat), .slice a6 X.length k6] 29) = x := ⟨_, rfl⟩
  have SG := Lib.hid (show SlK e3 3 v00 (.slice ad ns.length c) (ns.map n3) from by rw [← hv00]; exact SG.out)
  have HE := Lib.hid (show Env v00 from by rw [← hv00]; exact HE.out)
  have BG := Lib.hid (show Blk v00 D [.int .i64 (N : Nat), .slice ad ns.length c] 24 from by rw [← hv00, ← hD]; exact BG.out)
  have B1 := Lib.hid (show Blk v00 b1 [.int .i64 (N : Nat), .int .i64 (N : Nat), .slice a2 X.length k2] 29 from by rw [← hv00, ← hb1]; exact B1.out)
  have B2 := Lib.hid (show Blk v00 b2 [.int .i64 (N : Nat), .int .i64 (N : Nat), .slice a3 X.length k3] 29 from by rw [← hv00, ← hb2]; exact B2.out)
  have B3 := Lib.hid (show Blk v00 b3 [.int .i64 (N : Nat), .int .i64 (N : Nat), .slice a6 X.length k6] 29 from by rw [← hv00, ← hb3]; exact B3.out)
  have T1 := Lib.hid (show Sl eS v00 (.slice a2 X.length k2) X from by rw [← hv00]; exact T1.out)
  have T2 := Lib.hid (show Sl eS v00 (.slice a3 X.length k3) X from by rw [← hv00]; exact T2.out)
  have T3 := Lib.hid (show Sl eS v00 (.slice a6 X.length k6) X from by rw [← hv00]; exact T3.out)
  have HQ := Lib.hid (show Below D w v00 from by rw [← hv00, ← hD]; exact HQ.out)
  rw [hb3, hv00]
  try rw [hb1]
  try rw [hb2]
  try rw [hD]
  refine wp_regionJ (S := fun w' => w'.cell? ⟨b1, 0, none⟩ = some (.int .i64 (N : Nat)) ∧ w'.cell? ⟨b1, 1, none⟩ = some (.int .i64 (N : Nat)) ∧ w'.cell? ⟨b1, 2, none⟩ = some (.slice a2 X.length k2) ∧ w'.cell? ⟨b2, 0, none⟩ = some (.int .i64 (N : Nat)) ∧ w'.cell? ⟨b2, 1, none⟩ = some (.int .i64 (N : Nat)) ∧ w'.cell? ⟨b2, 2, none⟩ = some (.slice a3 X.length k3) ∧ w'.cell? ⟨b3, 0, none⟩ = some (.int .i64 (N : Nat)) ∧ w'.cell? ⟨b3, 1, none⟩ = some (.int .i64 (N : Nat)) ∧ w'.cell? ⟨b3, 2, none⟩ = some (.slice a6 X.length k6) ∧ w'.cell? ⟨D, 0, none⟩ = some (.int .i64 (N : Nat)) ∧ w'.cell? ⟨D, 1, none⟩ = some (.slice ad ns.length c)) (A := fun _ => true) (by kernel_rfl) ?_
  have hd0 := (Below.refl v00.heap.size v00).drew
  have SG := Lib.hid (SG.out.below hd0 (Nat.le_refl _))
  have HE := Lib.hid (HE.out.below hd0 (Nat.le_refl _))
  have BG := Lib.hid (BG.out.below hd0 (Nat.le_refl _))
  have B1 := Lib.hid (B1.out.below hd0 (Nat.le_refl _))
  have B2 := Lib.hid (B2.out.below hd0 (Nat.le_refl _))
  have B3 := Lib.hid (B3.out.below hd0 (Nat.le_refl _))
  have T1 := Lib.hid (T1.out.below hd0 (Nat.le_refl _))
  have T2 := Lib.hid (T2.out.below hd0 (Nat.le_refl _))
  have T3 := Lib.hid (T3.out.below hd0 (Nat.le_refl _))
  have HQ := Lib.hid HQ.out.drew
  obtain ⟨v0, hv0⟩ : ∃ x, v00.drew = x := ⟨_, rfl⟩
  rw [hv0] at SG HE BG B1 B2 B3 T1 T2 T3 HQ ⊢
  clear hd0 hv0 hv00 hb1 hb2 hb3
  have hS := (⟨B1.out.cell 0 _ rfl, B1.out.cell 1 _ rfl, B1.out.cell 2 _ rfl, B2.out.cell 0 _ rfl, B2.out.cell 1 _ rfl, B2.out.cell 2 _ rfl, B3.out.cell 0 _ rfl, B3.out.cell 1 _ rfl, B3.out.cell 2 _ rfl, BG.out.cell 0 _ rfl, BG.out.cell 1 _ rfl⟩ : v0.cell? ⟨b1, 0, none⟩ = some (.int .i64 (N : Nat)) ∧ v0.cell? ⟨b1, 1, none⟩ = some (.int .i64 (N : Nat)) ∧ v0.cell? ⟨b1, 2, none⟩ = some (.slice a2 X.length k2) ∧ v0.cell? ⟨b2, 0, none⟩ = some (.int .i64 (N : Nat)) ∧ v0.cell? ⟨b2, 1, none⟩ = some (.int .i64 (N : Nat)) ∧ v0.cell? ⟨b2, 2, none⟩ = some (.slice a3 X.length k3) ∧ v0.cell? ⟨b3, 0, none⟩ = some (.int .i64 (N : Nat)) ∧ v0.cell? ⟨b3, 1, none⟩ = some (.int .i64 (N : Nat)) ∧ v0.cell? ⟨b3, 2, none⟩ = some (.slice a6 X.length k6) ∧ v0.cell? ⟨D, 0, none⟩ = some (.int .i64 (N : Nat)) ∧ v0.cell? ⟨D, 1, none⟩ = some (.slice ad ns.length c))
  refine wpAnyJ_take (i := 0) (oi := { dst := some 45, op := .move (.tmp 4), type := _, pos := _, after := _, guard := _ }) (v := ?_) rfl (by kernel_rfl) (by kernel_rfl) (by kernel_rfl) (early_sat (by kernel_rfl)) (fun _ _ _ h => h) (Or.inl ⟨by rfl, ?_⟩) hS ?_
  rotate_left
  · intro wl hSw
    obtain ⟨s0, s1, s2, s3, s4, s5, s6, s7, s8, s9, s10⟩ := hSw
    go_simp
    with_reducible rfl
  simp only [Act.put, List.setIfInBounds_toArray, List.set_cons_zero, List.set_cons_succ]
  refine wpAnyJ_take (i := 1) (oi := { dst := some 46, op := .move (.tmp 6), type := _, pos := _, after := _, guard := _ }) (v := ?_) rfl (by kernel_rfl) (by kernel_rfl) (by kernel_rfl) (early_sat (by kernel_rfl)) (fun _ _ _ h => h) (Or.inl ⟨by rfl, ?_⟩) hS ?_
  rotate_left
  · intro wl hSw
    obtain ⟨s0, s1, s2, s3, s4, s5, s6, s7, s8, s9, s10⟩ := hSw
    go_simp
    with_reducible rfl
  simp only [Act.put, List.setIfInBounds_toArray, List.set_cons_zero, List.set_cons_succ]
  refine wpAnyJ_take (i := 2) (oi := { dst := some 47, op := .binOp _ _ (.tmp 45) (.tmp 46) _, type := _, pos := _, after := _, guard := _ }) (v := ?_) rfl (by kernel_rfl) (by kernel_rfl) (by kernel_rfl) (early_sat (by kernel_rfl)) (fun _ _ _ h => h) (Or.inl ⟨by rfl, ?_⟩) hS ?_
  rotate_left
  · intro wl hSw
    obtain ⟨s0, s1, s2, s3, s4, s5, s6, s7, s8, s9, s10⟩ := hSw
    go_simp
    with_reducible rfl
  simp only [Act.put, List.setIfInBounds_toArray, List.set_cons_zero, List.set_cons_succ]
  refine wpAnyJ_take (i := 3) (oi := { dst := some 48, op := .move (.tmp 8), type := _, pos := _, after := _, guard := _ }) (v := ?_) rfl (by kernel_rfl) (by kernel_rfl) (by kernel_rfl) (early_sat (by kernel_rfl)) (fun _ _ _ h => h) (Or.inl ⟨by rfl, ?_⟩) hS ?_
  rotate_left
  · intro wl hSw
    obtain ⟨s0, s1, s2, s3, s4, s5, s6, s7, s8, s9, s10⟩ := hSw
    go_simp
    with_reducible rfl
  simp only [Act.put, List.setIfInBounds_toArray, List.set_cons_zero, List.set_cons_succ]
  refine wpAnyJ_take (i := 4) (oi := { dst := some 49, op := .binOp _ _ (.tmp 47) (.tmp 48) _, type := _, pos := _, after := _, guard := _ }) (v := ?_) rfl (by kernel_rfl) (by kernel_rfl) (by kernel_rfl) (early_sat (by kernel_rfl)) (fun _ _ _ h => h) (Or.inl ⟨by rfl, ?_⟩) hS ?_
  rotate_left
  · intro wl hSw
    obtain ⟨s0, s1, s2, s3, s4, s5, s6, s7, s8, s9, s10⟩ := hSw
    go_simp
    with_reducible rfl
  simp only [Act.put, List.setIfInBounds_toArray, List.set_cons_zero, List.set_cons_succ]
  refine wpAnyJ_take (i := 5) (oi := { dst := some 50, op := .move (.tmp 10), type := _, pos := _, after := _, guard := _ }) (v := ?_) rfl (by kernel_rfl) (by kernel_rfl) (by kernel_rfl) (early_sat (by kernel_rfl)) (fun _ _ _ h => h) (Or.inl ⟨by rfl, ?_⟩) hS ?_
  rotate_left
  · intro wl hSw
    obtain ⟨s0, s1, s2, s3, s4, s5, s6, s7, s8, s9, s10⟩ := hSw
    go_simp
    with_reducible rfl
  simp only [Act.put, List.setIfInBounds_toArray, List.set_cons_zero, List.set_cons_succ]
  refine wpAnyJ_take (i := 6) (oi := { dst := some 51, op := .binOp _ _ (.tmp 49) (.tmp 50) _, type := _, pos := _, after := _, guard := _ }) (v := ?_) rfl (by kernel_rfl) (by kernel_rfl) (by kernel_rfl) (early_sat (by kernel_rfl)) (fun _ _ _ h => h) (Or.inl ⟨by rfl, ?_⟩) hS ?_
  rotate_left
  · intro wl hSw
    obtain ⟨s0, s1, s2, s3, s4, s5, s6, s7, s8, s9, s10⟩ := hSw
    go_simp
    with_reducible rfl
  simp only [Act.put, List.setIfInBounds_toArray, List.set_cons_zero, List.set_cons_succ]
  refine wpAnyJ_take (i := 7) (oi := { dst := some 52, op := .move (.tmp 12), type := _, pos := _, after := _, guard := _ }) (v := ?_) rfl (by kernel_rfl) (by kernel_rfl) (by kernel_rfl) (early_sat (by kernel_rfl)) (fun _ _ _ h => h) (Or.inl ⟨by rfl, ?_⟩) hS ?_
  rotate_left
  · intro wl hSw
    obtain ⟨s0, s1, s2, s3, s4, s5, s6, s7, s8, s9, s10⟩ := hSw
    go_simp
    with_reducible rfl
  simp only [Act.put, List.setIfInBounds_toArray, List.set_cons_zero, List.set_cons_succ]
  refine wpAnyJ_take (i := 8) (oi := { dst := some 53, op := .binOp _ _ (.tmp 51) (.tmp 52) _, type := _, pos := _, after := _, guard := _ }) (v := ?_) rfl (by kernel_rfl) (by kernel_rfl) (by kernel_rfl) (early_sat (by kernel_rfl)) (fun _ _ _ h => h) (Or.inl ⟨by rfl, ?_⟩) hS ?_
  rotate_left
  · intro wl hSw
    obtain ⟨s0, s1, s2, s3, s4, s5, s6, s7, s8, s9, s10⟩ := hSw
    go_simp
    with_reducible rfl
  simp only [Act.put, List.setIfInBounds_toArray, List.set_cons_zero, List.set_cons_succ]
  refine wpAnyJ_take (i := 9) (oi := { dst := some 54, op := .binOp _ _ (.tmp 53) _ _, type := _, pos := _, after := _, guard := _ }) (v := ?_) rfl (by kernel_rfl) (by kernel_rfl) (by kernel_rfl) (early_sat (by kernel_rfl)) (fun _ _ _ h => h) (Or.inl ⟨by rfl, ?_⟩) hS ?_
  rotate_left
  · intro wl hSw
    obtain ⟨s0, s1, s2, s3, s4, s5, s6, s7, s8, s9, s10⟩ := hSw
    go_simp
    with_reducible rfl
  simp only [Act.put, List.setIfInBounds_toArray, List.set_cons_zero, List.set_cons_succ]
  refine wpAnyJ_take (i := 10) (oi := { dst := some 55, op := .move (.tmp 54), type := _, pos := _, after := _, guard := _ }) (v := ?_) rfl (by kernel_rfl) (by kernel_rfl) (by kernel_rfl) (early_sat (by kernel_rfl)) (fun _ _ _ h => h) (Or.inl ⟨by rfl, ?_⟩) hS ?_
  rotate_left
  · intro wl hSw
    obtain ⟨s0, s1, s2, s3, s4, s5, s6, s7, s8, s9, s10⟩ := hSw
    go_simp
    with_reducible rfl
  simp only [Act.put, List.setIfInBounds_toArray, List.set_cons_zero, List.set_cons_succ]
  refine wpAnyJ_take (i := 11) (oi := { dst := some 56, op := .load _ (.tmp 3), type := _, pos := _, after := _, guard := _ }) (v := ?_) rfl (by kernel_rfl) (by kernel_rfl) (by kernel_rfl) (early_sat (by kernel_rfl)) (fun _ _ _ h => h) (Or.inl ⟨by rfl, ?_⟩) hS ?_
  rotate_left
  · intro wl hSw
    obtain ⟨s0, s1, s2, s3, s4, s5, s6, s7, s8, s9, s10⟩ := hSw
    go_simp
    with_reducible rfl
  simp only [Act.put, List.setIfInBounds_toArray, List.set_cons_zero, List.set_cons_succ]
  refine wpAnyJ_take (i := 12) (oi := { dst := some 57, op := .load _ (.tmp 5), type := _, pos := _, after := _, guard := _ }) (v := ?_) rfl (by kernel_rfl) (by kernel_rfl) (by kernel_rfl) (early_sat (by kernel_rfl)) (fun _ _ _ h => h) (Or.inl ⟨by rfl, ?_⟩) hS ?_
  rotate_left
  · intro wl hSw
    obtain ⟨s0, s1, s2, s3, s4, s5, s6, s7, s8, s9, s10⟩ := hSw
    go_simp
    with_reducible rfl
  simp only [Act.put, List.setIfInBounds_toArray, List.set_cons_zero, List.set_cons_succ]
  refine wpAnyJ_only (i := 13) (o := { dst := some 58, op := _, type := _, pos := _, after := _, guard := _ }) (by kernel_rfl) rfl (fun K hK => ?_)
  go_simp
  refine (HSM.out v0 _ _ T1.out T2.out).mono ?_
  rintro e5 v1 ⟨v5, rfl, rfl, hb⟩
  have SG := Lib.hid (SG.out.below hb (Nat.le_refl _))
  have HE := Lib.hid (HE.out.below hb (Nat.le_refl _))
  have BG := Lib.hid (BG.out.below hb (Nat.le_refl _))
  have B1 := Lib.hid (B1.out.below hb (Nat.le_refl _))
  have B2 := Lib.hid (B2.out.below hb (Nat.le_refl _))
  have B3 := Lib.hid (B3.out.below hb (Nat.le_refl _))
  have T1 := Lib.hid (T1.out.below hb (Nat.le_refl _))
  have T2 := Lib.hid (T2.out.below hb (Nat.le_refl _))
  have T3 := Lib.hid (T3.out.below hb (Nat.le_refl _))
  have HQ := Lib.hid (HQ.out.trans (hb.mono (by rw [← hD]; exact HQ.out.size)))
  have hS := (⟨B1.out.cell 0 _ rfl, B1.out.cell 1 _ rfl, B1.out.cell 2 _ rfl, B2.out.cell 0 _ rfl, B2.out.cell 1 _ rfl, B2.out.cell 2 _ rfl, B3.out.cell 0 _ rfl, B3.out.cell 1 _ rfl, B3.out.cell 2 _ rfl, BG.out.cell 0 _ rfl, BG.out.cell 1 _ rfl⟩ : v1.cell? ⟨b1, 0, none⟩ = some (.int .i64 (N : Nat)) ∧ v1.cell? ⟨b1, 1, none⟩ = some (.int .i64 (N : Nat)) ∧ v1.cell? ⟨b1, 2, none⟩ = some (.slice a2 X.length k2) ∧ v1.cell? ⟨b2, 0, none⟩ = some (.int .i64 (N : Nat)) ∧ v1.cell? ⟨b2, 1, none⟩ = some (.int .i64 (N : Nat)) ∧ v1.cell? ⟨b2, 2, none⟩ = some (.slice a3 X.length k3) ∧ v1.cell? ⟨b3, 0, none⟩ = some (.int .i64 (N : Nat)) ∧ v1.cell? ⟨b3, 1, none⟩ = some (.int .i64 (N : Nat)) ∧ v1.cell? ⟨b3, 2, none⟩ = some (.slice a6 X.length k6) ∧ v1.cell? ⟨D, 0, none⟩ = some (.int .i64 (N : Nat)) ∧ v1.cell? ⟨D, 1, none⟩ = some (.slice ad ns.length c))
  clear hb
  refine hK.out _ _ (fun _ => hS) ?_
  try simp only [Act.put, List.setIfInBounds_toArray, List.set_cons_zero, List.set_cons_succ]
  clear hK K
  refine wpAnyJ_take (i := 14) (oi := { dst := some 59, op := _, type := _, pos := _, after := _, guard := _ }) (v := ?_) rfl (by kernel_rfl) (by kernel_rfl) (by kernel_rfl) (early_sat (by kernel_rfl)) (fun _ _ _ h => h) (Or.inl ⟨by rfl, ?_⟩) hS ?_
  rotate_left
  · intro wl hSw
    obtain ⟨s0, s1, s2, s3, s4, s5, s6, s7, s8, s9, s10⟩ := hSw
    go_simp
    with_reducible rfl
  simp only [Act.put, List.setIfInBounds_toArray, List.set_cons_zero, List.set_cons_succ]
  refine wpAnyJ_take (i := 15) (oi := { dst := some 60, op := _, type := _, pos := _, after := _, guard := _ }) (v := ?_) rfl (by kernel_rfl) (by kernel_rfl) (by kernel_rfl) (early_sat (by kernel_rfl)) (fun _ _ _ h => h) (Or.inl ⟨by rfl, ?_⟩) hS ?_
  rotate_left
  · intro wl hSw
    obtain ⟨s0, s1, s2, s3, s4, s5, s6, s7, s8, s9, s10⟩ := hSw
    go_simp
    with_reducible rfl
  simp only [Act.put, List.setIfInBounds_toArray, List.set_cons_zero, List.set_cons_succ]
  refine wpAnyJ_take (i := 16) (oi := { dst := some 61, op := .move (.tmp 60), type := _, pos := _, after := _, guard := _ }) (v := ?_) rfl (by kernel_rfl) (by kernel_rfl) (by kernel_rfl) (early_sat (by kernel_rfl)) (fun _ _ _ h => h) (Or.inl ⟨by rfl, ?_⟩) hS ?_
  rotate_left
  · intro wl hSw
    obtain ⟨s0, s1, s2, s3, s4, s5, s6, s7, s8, s9, s10⟩ := hSw
    go_simp
    with_reducible rfl
  simp only [Act.put, List.setIfInBounds_toArray, List.set_cons_zero, List.set_cons_succ]
  refine wpAnyJ_take (i := 17) (oi := { dst := some 62, op := .load _ (.tmp 3), type := _, pos := _, after := _, guard := _ }) (v := ?_) rfl (by kernel_rfl) (by kernel_rfl) (by kernel_rfl) (early_sat (by kernel_rfl)) (fun _ _ _ h => h) (Or.inl ⟨by rfl, ?_⟩) hS ?_
  rotate_left
  · intro wl hSw
    obtain ⟨s0, s1, s2, s3, s4, s5, s6, s7, s8, s9, s10⟩ := hSw
    go_simp
    with_reducible rfl
  simp only [Act.put, List.setIfInBounds_toArray, List.set_cons_zero, List.set_cons_succ]
  refine wpAnyJ_take (i := 18) (oi := { dst := some 63, op := .load _ (.tmp 11), type := _, pos := _, after := _, guard := _ }) (v := ?_) rfl (by kernel_rfl) (by kernel_rfl) (by kernel_rfl) (early_sat (by kernel_rfl)) (fun _ _ _ h => h) (Or.inl ⟨by rfl, ?_⟩) hS ?_
  rotate_left
  · intro wl hSw
    obtain ⟨s0, s1, s2, s3, s4, s5, s6, s7, s8, s9, s10⟩ := hSw
    go_simp
    with_reducible rfl
  simp only [Act.put, List.setIfInBounds_toArray, List.set_cons_zero, List.set_cons_succ]
  refine wpAnyJ_only (i := 19) (o := { dst := some 64, op := _, type := _, pos := _, after := _, guard := _ }) (by kernel_rfl) rfl (fun K hK => ?_)
  go_simp
  refine (HSM.out v1 _ _ T1.out T3.out).mono ?_
  rintro e5 v2 ⟨v5, rfl, rfl, hb⟩
  have SG := Lib.hid (SG.out.below hb (Nat.le_refl _))
  have HE := Lib.hid (HE.out.below hb (Nat.le_refl _))
  have BG := Lib.hid (BG.out.below hb (Nat.le_refl _))
  have B1 := Lib.hid (B1.out.below hb (Nat.le_refl _))
  have B2 := Lib.hid (B2.out.below hb (Nat.le_refl _))
  have B3 := Lib.hid (B3.out.below hb (Nat.le_refl _))
  have T1 := Lib.hid (T1.out.below hb (Nat.le_refl _))
  have T2 := Lib.hid (T2.out.below hb (Nat.le_refl _))
  have T3 := Lib.hid (T3.out.below hb (Nat.le_refl _))
  have HQ := Lib.hid (HQ.out.trans (hb.mono (by rw [← hD]; exact HQ.out.size)))
  have hS := (⟨B1.out.cell 0 _ rfl, B1.out.cell 1 _ rfl, B1.out.cell 2 _ rfl, B2.out.cell 0 _ rfl, B2.out.cell 1 _ rfl, B2.out.cell 2 _ rfl, B3.out.cell 0 _ rfl, B3.out.cell 1 _ rfl, B3.out.cell 2 _ rfl, BG.out.cell 0 _ rfl, BG.out.cell 1 _ rfl⟩ : v2.cell? ⟨b1, 0, none⟩ = some (.int .i64 (N : Nat)) ∧ v2.cell? ⟨b1, 1, none⟩ = some (.int .i64 (N : Nat)) ∧ v2.cell? ⟨b1, 2, none⟩ = some (.slice a2 X.length k2) ∧ v2.cell? ⟨b2, 0, none⟩ = some (.int .i64 (N : Nat)) ∧ v2.cell? ⟨b2, 1, none⟩ = some (.int .i64 (N : Nat)) ∧ v2.cell? ⟨b2, 2, none⟩ = some (.slice a3 X.length k3) ∧ v2.cell? ⟨b3, 0, none⟩ = some (.int .i64 (N : Nat)) ∧ v2.cell? ⟨b3, 1, none⟩ = some (.int .i64 (N : Nat)) ∧ v2.cell? ⟨b3, 2, none⟩ = some (.slice a6 X.length k6) ∧ v2.cell? ⟨D, 0, none⟩ = some (.int .i64 (N : Nat)) ∧ v2.cell? ⟨D, 1, none⟩ = some (.slice ad ns.length c))
  clear hb
  refine hK.out _ _ (fun _ => hS) ?_
  try simp only [Act.put, List.setIfInBounds_toArray, List.set_cons_zero, List.set_cons_succ]
  clear hK K
  refine wpAnyJ_take (i := 20) (oi := { dst := some 65, op := _, type := _, pos := _, after := _, guard := _ }) (v := ?_) rfl (by kernel_rfl) (by kernel_rfl) (by kernel_rfl) (early_sat (by kernel_rfl)) (fun _ _ _ h => h) (Or.inl ⟨by rfl, ?_⟩) hS ?_
  rotate_left
  · intro wl hSw
    obtain ⟨s0, s1, s2, s3, s4, s5, s6, s7, s8, s9, s10⟩ := hSw
    go_simp
    with_reducible rfl
  simp only [Act.put, List.setIfInBounds_toArray, List.set_cons_zero, List.set_cons_succ]
  refine wpAnyJ_take (i := 21) (oi := { dst := some 66, op := _, type := _, pos := _, after := _, guard := _ }) (v := ?_) rfl (by kernel_rfl) (by kernel_rfl) (by kernel_rfl) (early_sat (by kernel_rfl)) (fun _ _ _ h => h) (Or.inl ⟨by rfl, ?_⟩) hS ?_
  rotate_left
  · intro wl hSw
    obtain ⟨s0, s1, s2, s3, s4, s5, s6, s7, s8, s9, s10⟩ := hSw
    go_simp
    with_reducible rfl
  simp only [Act.put, List.setIfInBounds_toArray, List.set_cons_zero, List.set_cons_succ]
  refine wpAnyJ_take (i := 22) (oi := { dst := some 67, op := .move (.tmp 66), type := _, pos := _, after := _, guard := _ }) (v := ?_) rfl (by kernel_rfl) (by kernel_rfl) (by kernel_rfl) (early_sat (by kernel_rfl)) (fun _ _ _ h => h) (Or.inl ⟨by rfl, ?_⟩) hS ?_
  rotate_left
  · intro wl hSw
    obtain ⟨s0, s1, s2, s3, s4, s5, s6, s7, s8, s9, s10⟩ := hSw
    go_simp
    with_reducible rfl
  simp only [Act.put, List.setIfInBounds_toArray, List.set_cons_zero, List.set_cons_succ]
  refine wpAnyJ_take (i := 23) (oi := { dst := some 68, op := .move (.tmp 7), type := _, pos := _, after := _, guard := _ }) (v := ?_) rfl (by kernel_rfl) (by kernel_rfl) (by kernel_rfl) (early_sat (by kernel_rfl)) (fun _ _ _ h => h) (Or.inl ⟨by rfl, ?_⟩) hS ?_
  rotate_left
  · intro wl hSw
    obtain ⟨s0, s1, s2, s3, s4, s5, s6, s7, s8, s9, s10⟩ := hSw
    go_simp
    with_reducible rfl
  simp only [Act.put, List.setIfInBounds_toArray, List.set_cons_zero, List.set_cons_succ]
  refine wpAnyJ_take (i := 24) (oi := { dst := some 69, op := .fieldAddr _ (.tmp 1) 0, type := _, pos := _, after := _, guard := _ }) (v := ?_) rfl (by kernel_rfl) (by kernel_rfl) (by kernel_rfl) (early_sat (by kernel_rfl)) (fun _ _ _ h => h) (Or.inl ⟨by rfl, ?_⟩) hS ?_
  rotate_left
  · intro wl hSw
    obtain ⟨s0, s1, s2, s3, s4, s5, s6, s7, s8, s9, s10⟩ := hSw
    go_simp
    with_reducible rfl
  simp only [Act.put, List.setIfInBounds_toArray, List.set_cons_zero, List.set_cons_succ]
  refine wpAnyJ_take (i := 25) (oi := { dst := some 70, op := .load _ (.tmp 69), type := _, pos := _, after := _, guard := _ }) (v := ?_) rfl (by kernel_rfl) (by kernel_rfl) (by kernel_rfl) (early_sat (by kernel_rfl)) (fun _ _ _ h => h) (Or.inl ⟨by rfl, ?_⟩) hS ?_
  rotate_left
  · intro wl hSw
    obtain ⟨s0, s1, s2, s3, s4, s5, s6, s7, s8, s9, s10⟩ := hSw
    go_simp
    with_reducible rfl
  simp only [Act.put, List.setIfInBounds_toArray, List.set_cons_zero, List.set_cons_succ]
  refine wpAnyJ_take (i := 26) (oi := { dst := some 71, op := .load _ (.tmp 1), type := _, pos := _, after := _, guard := _ }) (v := ?_) rfl (by kernel_rfl) (by kernel_rfl) (by kernel_rfl) (early_sat (by kernel_rfl)) (fun _ _ _ h => h) (Or.inl ⟨by rfl, ?_⟩) hS ?_
  rotate_left
  · intro wl hSw
    obtain ⟨s0, s1, s2, s3, s4, s5, s6, s7, s8, s9, s10⟩ := hSw
    go_simp
    with_reducible rfl
  simp only [Act.put, List.setIfInBounds_toArray, List.set_cons_zero, List.set_cons_succ]
  refine wpAnyJ_only (i := 27) (o := { dst := some 72, op := _, type := _, pos := _, after := _, guard := _ }) (by kernel_rfl) rfl (fun K hK => ?_)
  go_simp
  refine (HPT.out v2 SG.out).mono ?_
  rintro e5 v3 ⟨v5, rfl, rfl, hb⟩
  have SG := Lib.hid (SG.out.below hb (Nat.le_refl _))
  have HE := Lib.hid (HE.out.below hb (Nat.le_refl _))
  have BG := Lib.hid (BG.out.below hb (Nat.le_refl _))
  have B1 := Lib.hid (B1.out.below hb (Nat.le_refl _))
  have B2 := Lib.hid (B2.out.below hb (Nat.le_refl _))
  have B3 := Lib.hid (B3.out.below hb (Nat.le_refl _))
  have T1 := Lib.hid (T1.out.below hb (Nat.le_refl _))
  have T2 := Lib.hid (T2.out.below hb (Nat.le_refl _))
  have T3 := Lib.hid (T3.out.below hb (Nat.le_refl _))
  have HQ := Lib.hid (HQ.out.trans (hb.mono (by rw [← hD]; exact HQ.out.size)))
  have hS := (⟨B1.out.cell 0 _ rfl, B1.out.cell 1 _ rfl, B1.out.cell 2 _ rfl, B2.out.cell 0 _ rfl, B2.out.cell 1 _ rfl, B2.out.cell 2 _ rfl, B3.out.cell 0 _ rfl, B3.out.cell 1 _ rfl, B3.out.cell 2 _ rfl, BG.out.cell 0 _ rfl, BG.out.cell 1 _ rfl⟩ : v3.cell? ⟨b1, 0, none⟩ = some (.int .i64 (N : Nat)) ∧ v3.cell? ⟨b1, 1, none⟩ = some (.int .i64 (N : Nat)) ∧ v3.cell? ⟨b1, 2, none⟩ = some (.slice a2 X.length k2) ∧ v3.cell? ⟨b2, 0, none⟩ = some (.int .i64 (N : Nat)) ∧ v3.cell? ⟨b2, 1, none⟩ = some (.int .i64 (N : Nat)) ∧ v3.cell? ⟨b2, 2, none⟩ = some (.slice a3 X.length k3) ∧ v3.cell? ⟨b3, 0, none⟩ = some (.int .i64 (N : Nat)) ∧ v3.cell? ⟨b3, 1, none⟩ = some (.int .i64 (N : Nat)) ∧ v3.cell? ⟨b3, 2, none⟩ = some (.slice a6 X.length k6) ∧ v3.cell? ⟨D, 0, none⟩ = some (.int .i64 (N : Nat)) ∧ v3.cell? ⟨D, 1, none⟩ = some (.slice ad ns.length c))
  clear hb
  refine hK.out _ _ (fun _ => hS) ?_
  try simp only [Act.put, List.setIfInBounds_toArray, List.set_cons_zero, List.set_cons_succ]
  clear hK K
  refine wpAnyJ_take (i := 28) (oi := { dst := some 73, op := .binOp _ _ (.tmp 70) (.tmp 72) _, type := _, pos := _, after := _, guard := _ }) (v := ?_) rfl (by kernel_rfl) (by kernel_rfl) (by kernel_rfl) (early_sat (by kernel_rfl)) (fun _ _ _ h => h) (Or.inl ⟨by rfl, ?_⟩) hS ?_
  rotate_left
  · intro wl hSw
    obtain ⟨s0, s1, s2, s3, s4, s5, s6, s7, s8, s9, s10⟩ := hSw
    go_simp
    with_reducible rfl
  simp only [Act.put, List.setIfInBounds_toArray, List.set_cons_zero, List.set_cons_succ]
  refine wpAnyJ_take (i := 29) (oi := { dst := some 74, op := .binOp _ _ (.tmp 68) (.tmp 73) _, type := _, pos := _, after := _, guard := _ }) (v := ?_) rfl (by kernel_rfl) (by kernel_rfl) (by kernel_rfl) (early_sat (by kernel_rfl)) (fun _ _ _ h => h) (Or.inl ⟨by rfl, ?_⟩) hS ?_
  rotate_left
  · intro wl hSw
    obtain ⟨s0, s1, s2, s3, s4, s5, s6, s7, s8, s9, s10⟩ := hSw
    go_simp
    with_reducible rfl
  simp only [Act.put, List.setIfInBounds_toArray, List.set_cons_zero, List.set_cons_succ]
  refine wpAnyJ_take (i := 30) (oi := { dst := some 75, op := _, type := _, pos := _, after := _, guard := _ }) (v := ?_) rfl (by kernel_rfl) (by kernel_rfl) (by kernel_rfl) (early_sat (by kernel_rfl)) (fun _ _ _ h => h) (Or.inl ⟨by rfl, ?_⟩) hS ?_
  rotate_left
  · intro wl hSw
    obtain ⟨s0, s1, s2, s3, s4, s5, s6, s7, s8, s9, s10⟩ := hSw
    go_simp
    with_reducible rfl
  simp only [Act.put, List.setIfInBounds_toArray, List.set_cons_zero, List.set_cons_succ]
  refine wpAnyJ_done (by kernel_rfl) ?_ _
  clear hS
  have x0 := BG.out.cell 0 _ rfl; have x1 := BG.out.cell 1 _ rfl; have xl := BG.out.lt
  have y0 := B1.out.cell 0 _ rfl; have y1 := B1.out.cell 1 _ rfl; have y2 := B1.out.cell 2 _ rfl; have yl := B1.out.lt
  have HDL := Lib.hid xl; have HBL := Lib.hid yl
  obtain ⟨G, hG⟩ : ∃ G, v3.heap.size = G := ⟨_, rfl⟩
  have HGD := Lib.hid (show D < G by rw [← hG]; exact xl)
  have HGG := Lib.hid hG
  clear hG
  go_wp2_with (at_make; refine mkN elemStr rfl _ _ rfl N rfl rfl rfl rfl (by omega) (by unfold maxLen; omega) HQ.out (by rw [← hD]; exact HQ.out.size) rfl ?_; intro w8 hown hb8 hb9; rw [HGG.out] at hown hb9 ⊢; have HB9 := Lib.hid hb9; have HO := Lib.hid (show w8.ownsRow G 48 1 (.slice (some ⟨G, 0, none⟩) N N) N ((onesAt N 0).map eS) by rw [onesAt_zero]; exact ownsRow_cast hown rfl (by simp [eS])); clear hown hb8 hb9)
  clear x0 x1 xl y0 y1 y2 yl
  go_loopw [81] (fun i wr => ∃ k : Nat, k ≤ N ∧ i = .int .i64 k ∧ Hid (wr.ownsRow G 48 1 (.slice (some ⟨G, 0, none⟩) N N) N ((onesAt N k).map eS)) ∧ Hid (Below G v3 wr)) (fun i _ => N - (intOf i).toNat)
  case atStart => exact ⟨0, Nat.zero_le _, rfl, HO, HB9⟩
  case round =>
    clear HO HB9
    obtain ⟨k, hk, rfl, hO, hB⟩ := hrel
    by_cases hkn : k < N
    · have hkl : k < (onesAt N k).length := by rw [onesAt_len]; exact hkn
      have fz := (own_get hO.out hkl).2; have cz := (own_get hO.out hkl).1
      have p1 : (0 : Int) ≤ (k : Int) := by omega
      have p2 : (k : Int) < (N : Int) := by omega
      go_wp2
      go_roundw
      case rel =>
        obtain ⟨h8, h9⟩ := own_put hO.out hB.out (Nat.le_refl G) k oneT (.string ⟨#[49]⟩) rfl
        exact ⟨k + 1, by omega, by go_num, Lib.hid (by rw [← onesAt_set]; exact h8), Lib.hid h9⟩
      case measure => simp [intOf]; omega
    · obtain rfl : N = k := by omega
      have HOL := Lib.hid (show Sl eS wr (.slice (some ⟨G, 0, none⟩) N N) (List.replicate N oneT) by rw [← onesAt_all]; exact Sl.ofOwns hO.out)
      have BG := Lib.hid (BG.out.below hB.out (Nat.le_of_eq HGG.out)); have B1 := Lib.hid (B1.out.below hB.out (Nat.le_of_eq HGG.out)); have T1 := Lib.hid (T1.out.below hB.out (Nat.le_of_eq HGG.out)); have HE := Lib.hid (HE.out.below hB.out (Nat.le_of_eq HGG.out))
      have HQ := Lib.hid (HQ.out.trans (hB.out.mono (Nat.le_of_lt HGD.out)))
      have x0 := BG.out.cell 0 _ rfl; have x1 := BG.out.cell 1 _ rfl; have xl := BG.out.lt
      have y0 := B1.out.cell 0 _ rfl; have y1 := B1.out.cell 1 _ rfl; have y2 := B1.out.cell 2 _ rfl; have yl := B1.out.lt
      clear hO hB
      go_wp2_with (first
        | (go_at_call 15; (with_reducible refine (awake15 _ HE9.out).mono ?_); rintro e w10 ⟨v10, rfl, rfl, h10⟩; have HQ10 := Lib.hid (HQ9.out.trans (h10.mono (by rw [← hD]; exact HQ9.out.size))))
        | (go_at_call 37; (with_reducible refine (contains_zero _ _ _ HZ9.out (fun s hs => List.eq_of_mem_replicate hs)).mono ?_); rintro e w' ⟨v, rfl, rfl, rfl⟩)
        | (go_at_call 36; (with_reducible refine (HAP.out _ _ _ T1.out HOL.out HE.out).mono ?_); rintro e w9 ⟨v9, rfl, u9, rfl, hs9, hb9⟩; obtain ⟨za, zc, rfl⟩ : ∃ a c, u9 = .slice a N c := sl_formM hs9 (by simp); have HZ9 := Lib.hid hs9; have HE9 := Lib.hid (HE.out.below hb9 (Nat.le_refl _)); have BG9 := Lib.hid (BG.out.below hb9 (Nat.le_refl _)); have HQ9 := Lib.hid (HQ.out.trans (hb9.mono (by rw [← hD]; exact HQ.out.size))); have z0 := BG9.out.cell 0 _ rfl; have z1 := BG9.out.cell 1 _ rfl; have zl := BG9.out.lt; clear hs9 hb9))
      go_ret
      exact ⟨_, rfl, rfl, by rw [hD]; exact HQ10.out⟩
end Go.Proofs.YtkkklfikdoibcaaGreatDoor
