/- The walk of the law LaplacianMoves. -/
import Derived.Test.YtkkklfikdoibcaaGreatDoorPk14
import Derived.Test.YtkkklfikdoibcaaGreatDoorPk13
import Derived.Test.YtkkklfikdoibcaaGreatDoorPk11
namespace Go.Proofs.YtkkklfikdoibcaaGreatDoor
open Go.RowKit
set_option maxRecDepth 100000

theorem sl_formN {α : Type} {enc : α → Value} {w : World} {v : Value} {xs : List α} {N : Nat} (h : Sl enc w v xs) (hl : xs.length = N) : ∃ a c, v = .slice a N c := by subst hl; exact sl_form h
theorem range_snoc (f : Nat → Int) (k : Nat) : ((List.range (k + 1)).map f).map eZ = ((List.range k).map f).map eZ ++ [.int .i64 (f k)] := by
  rw [List.range_succ, List.map_append, List.map_append]; rfl
set_option maxHeartbeats 8000000 in
theorem lapMoves_any (w : World) (n : Int) (v : Value) (es : List (Int × Int × Int)) (sv : Value) (xs : List Int) (tv : Value) (ys : List Int) (hv : SlK e3 3 w v es) (hs : Sl eZ w sv xs) (ht : Sl eZ w tv ys) (he : Env w) :
    Calls Tryz.prog 7 #[.agg #[.int .i64 n, v], sv, tv] w (Rets fun r w' => r = .bool true ∧ Below w.heap.size w w') := by
  obtain ⟨ad, c, rfl⟩ := hv.form
  obtain ⟨sa, sc, rfl⟩ := sl_form hs
  obtain ⟨ta, tc, rfl⟩ := sl_form ht
  have q0 := (Below.refl w.heap.size w).alloc (Nat.le_refl _) (.cells #[.int .i64 n, .slice ad es.length c] 24)
  have SG := Lib.hid (hv.below q0 (Nat.le_refl _))
  have SS := Lib.hid (hs.below q0 (Nat.le_refl _))
  have ST := Lib.hid (ht.below q0 (Nat.le_refl _))
  have HE := Lib.hid (he.below q0 (Nat.le_refl _))
  have BG := Lib.hid (Blk.new w [.int .i64 n, .slice ad es.length c] 24)
  clear hv hs ht he
  by_cases hf : (smallB n es 6 9 && decide (chkG n es = 0)) = true
  rotate_left
  · have HF := Lib.hid (show (smallB n es 6 9 && decide (chkG n es = 0)) = false by simpa using hf)
    clear hf
    go_enter Tryz.func7, Tryz.ntmps7
    go_wp2_with (first
      | (go_at_call 15; (with_reducible refine (awake15 _ HE.out).mono ?_); rintro e w2 ⟨v, rfl, rfl, h2⟩; have SG := Lib.hid (SG.out.below h2 (Nat.le_refl _)); have SS := Lib.hid (SS.out.below h2 (Nat.le_refl _)); have ST := Lib.hid (ST.out.below h2 (Nat.le_refl _)); have HE := Lib.hid (HE.out.below h2 (Nat.le_refl _)); have BG := Lib.hid (BG.out.below h2 (Nat.le_refl _)); have c2_BG_0 := BG.out.cell 0 _ rfl; have c2_BG_1 := BG.out.cell 1 _ rfl; have q2 := q1.trans (h2.mono q1.size))
      | (go_at_call 30; (with_reducible refine (right_any _ n _ es SG.out).mono ?_); rintro e w1 ⟨v, rfl, rfl, h1⟩; rw [HF.out]; have SG := Lib.hid (SG.out.below h1 (Nat.le_refl _)); have SS := Lib.hid (SS.out.below h1 (Nat.le_refl _)); have ST := Lib.hid (ST.out.below h1 (Nat.le_refl _)); have HE := Lib.hid (HE.out.below h1 (Nat.le_refl _)); have BG := Lib.hid (BG.out.below h1 (Nat.le_refl _)); have c1_BG_0 := BG.out.cell 0 _ rfl; have c1_BG_1 := BG.out.cell 1 _ rfl; have q1 := q0.trans (h1.mono q0.size)))
    go_ret
    exact ⟨_, rfl, rfl, q2⟩
  have HF := Lib.hid hf
  by_cases hx : (xs.length : Int) = n
  rotate_left
  · have d1 : ((xs.length : Int) != n) = true := by simp [hx]
    clear hf hx
    go_enter Tryz.func7, Tryz.ntmps7
    go_wp2_with (first
      | (go_at_call 15; (with_reducible refine (awake15 _ HE.out).mono ?_); rintro e w2 ⟨v, rfl, rfl, h2⟩; have SG := Lib.hid (SG.out.below h2 (Nat.le_refl _)); have SS := Lib.hid (SS.out.below h2 (Nat.le_refl _)); have ST := Lib.hid (ST.out.below h2 (Nat.le_refl _)); have HE := Lib.hid (HE.out.below h2 (Nat.le_refl _)); have BG := Lib.hid (BG.out.below h2 (Nat.le_refl _)); have c2_BG_0 := BG.out.cell 0 _ rfl; have c2_BG_1 := BG.out.cell 1 _ rfl; have q2 := q1.trans (h2.mono q1.size))
      | (go_at_call 30; (with_reducible refine (right_any _ n _ es SG.out).mono ?_); rintro e w1 ⟨v, rfl, rfl, h1⟩; rw [HF.out]; have SG := Lib.hid (SG.out.below h1 (Nat.le_refl _)); have SS := Lib.hid (SS.out.below h1 (Nat.le_refl _)); have ST := Lib.hid (ST.out.below h1 (Nat.le_refl _)); have HE := Lib.hid (HE.out.below h1 (Nat.le_refl _)); have BG := Lib.hid (BG.out.below h1 (Nat.le_refl _)); have c1_BG_0 := BG.out.cell 0 _ rfl; have c1_BG_1 := BG.out.cell 1 _ rfl; have q1 := q0.trans (h1.mono q0.size)))
    go_ret
    exact ⟨_, rfl, rfl, q2⟩
  have d1 : ((xs.length : Int) != n) = false := by simp [hx]
  by_cases hy : (ys.length : Int) = n
  rotate_left
  · have d2 : ((ys.length : Int) != n) = true := by simp [hy]
    clear hf hx hy
    go_enter Tryz.func7, Tryz.ntmps7
    go_wp2_with (first
      | (go_at_call 15; (with_reducible refine (awake15 _ HE.out).mono ?_); rintro e w2 ⟨v, rfl, rfl, h2⟩; have SG := Lib.hid (SG.out.below h2 (Nat.le_refl _)); have SS := Lib.hid (SS.out.below h2 (Nat.le_refl _)); have ST := Lib.hid (ST.out.below h2 (Nat.le_refl _)); have HE := Lib.hid (HE.out.below h2 (Nat.le_refl _)); have BG := Lib.hid (BG.out.below h2 (Nat.le_refl _)); have c2_BG_0 := BG.out.cell 0 _ rfl; have c2_BG_1 := BG.out.cell 1 _ rfl; have q2 := q1.trans (h2.mono q1.size))
      | (go_at_call 30; (with_reducible refine (right_any _ n _ es SG.out).mono ?_); rintro e w1 ⟨v, rfl, rfl, h1⟩; rw [HF.out]; have SG := Lib.hid (SG.out.below h1 (Nat.le_refl _)); have SS := Lib.hid (SS.out.below h1 (Nat.le_refl _)); have ST := Lib.hid (ST.out.below h1 (Nat.le_refl _)); have HE := Lib.hid (HE.out.below h1 (Nat.le_refl _)); have BG := Lib.hid (BG.out.below h1 (Nat.le_refl _)); have c1_BG_0 := BG.out.cell 0 _ rfl; have c1_BG_1 := BG.out.cell 1 _ rfl; have q1 := q0.trans (h1.mono q0.size)))
    go_ret
    exact ⟨_, rfl, rfl, q2⟩
  have d2 : ((ys.length : Int) != n) = false := by simp [hy]
  rw [Bool.and_eq_true, decide_eq_true_eq] at hf
  obtain ⟨hf1, hc⟩ := hf
  have hl : es.length ≤ 1000 := by have := few_len hf1; omega
  obtain ⟨h6, h9⟩ := few_six hf1 hc
  obtain ⟨ns, hRG⟩ := rg_of hc
  obtain ⟨N, rfl⟩ : ∃ N : Nat, n = (N : Int) := ⟨n.toNat, by have := hRG.pos; omega⟩
  rw [hRG.nsOf] at h9
  have hxN : xs.length = N := by omega
  have hyN : ys.length = N := by omega
  have hN1 : 1 ≤ N := by have := hRG.pos; omega
  have HXN := Lib.hid hxN; have HYN := Lib.hid hyN
  have d3 : decide ((0 : Int) < (N : Int)) = true := by simp only [decide_eq_true_eq]; omega
  have HIM := Lib.hid (fun bx bY => four_images hRG hc hxN hyN h9 bx bY)
  have HNS := Lib.hid (show ∀ x ∈ ns, x.1 < N ∧ x.2.1 < N ∧ x.1 ≤ x.2.1 from fun x hm => by have := hRG.rng x hm; omega)
  obtain ⟨s, hs0⟩ : ∃ s : Nat → Int, (fun k => xs.getD k 0) = s := ⟨_, rfl⟩
  obtain ⟨t, ht0⟩ : ∃ t : Nat → Int, (fun k => ys.getD k 0) = t := ⟨_, rfl⟩
  have hs1 : ∀ k, xs.getD k 0 = s k := fun k => by rw [← hs0]
  have ht1 : ∀ k, ys.getD k 0 = t k := fun k => by rw [← ht0]
  have HS1 := Lib.hid (show ∀ k (h : k < xs.length), xs[k] = s k from fun k h => by rw [← hs1]; simp [List.getD_eq_getElem?_getD, h])
  have HT1 := Lib.hid (show ∀ k (h : k < ys.length), ys[k] = t k from fun k h => by rw [← ht1]; simp [List.getD_eq_getElem?_getD, h])
  simp only [hs1, ht1] at HIM
  have HN6 := Lib.hid (show N ≤ 6 by omega)
  rw [hxN] at SS d1 ⊢
  rw [hyN] at ST d2 ⊢
  clear hf1 hc h6 h9 hRG hx hy hs0 ht0 hs1 ht1
  go_enter Tryz.func7, Tryz.ntmps7
  go_wp2_with ((go_at_call 30; (with_reducible refine (right_any _ (N : Int) _ es SG.out).mono ?_); rintro e w1 ⟨v, rfl, rfl, h1⟩; rw [HF.out]; have SG := Lib.hid (SG.out.below h1 (Nat.le_refl _)); have SS := Lib.hid (SS.out.below h1 (Nat.le_refl _)); have ST := Lib.hid (ST.out.below h1 (Nat.le_refl _)); have HE := Lib.hid (HE.out.below h1 (Nat.le_refl _)); have BG := Lib.hid (BG.out.below h1 (Nat.le_refl _)); have c1_BG_0 := BG.out.cell 0 _ rfl; have c1_BG_1 := BG.out.cell 1 _ rfl; have q1 := q0.trans (h1.mono q0.size)))
  clear c1_BG_0 c1_BG_1 q0 h1 HF d1 d2
  have Q1 := Lib.hid q1
  clear q1
  obtain ⟨B0, hB0⟩ : ∃ B, w1.heap.size = B := ⟨_, rfl⟩
  obtain ⟨sa', sb, so, sc', hform, hsi, hsp, -, -⟩ := SS.out.open elemScr
  rw [hxN] at hform
  simp only [Value.slice.injEq, true_and] at hform
  obtain ⟨rfl, rfl⟩ := hform
  obtain ⟨ta', tb, tof, tc', hform, hti, htp, -, -⟩ := ST.out.open elemScr
  rw [hyN] at hform
  simp only [Value.slice.injEq, true_and] at hform
  obtain ⟨rfl, rfl⟩ := hform
  rw [hxN] at hsi
  rw [hyN] at hti
  have HSP := Lib.hid hsp; have HTP := Lib.hid htp
  have HN12 := Lib.hid HN6.out
  clear hsp htp hxN hyN
  go_loopw [7, 8, 40] (fun s7 s8 i wr => ∃ k : Nat, k ≤ N ∧ i = .int .i64 k ∧ Hid (Two w1 wr B0 s7 s8 k k (((List.range k).map fun j => s j + t j).map eZ) (((List.range k).map fun _ => s 0).map eZ)) ∧ Hid (∀ j, j < k → -1000 ≤ s j ∧ s j ≤ 1000 ∧ -1000 ≤ t j ∧ t j ≤ 1000)) (fun _ _ i _ => N - (intOf i).toNat)
  case atStart => exact ⟨0, Nat.zero_le _, rfl, Lib.hid ⟨World.ownsRow_nil _ _ _ _, World.ownsRow_nil _ _ _ _, fun g e => (by cases e), (by rw [← hB0]; exact Below.refl _ _), Nat.le_of_eq hB0.symm⟩, Lib.hid (fun j hj => by omega)⟩
  case round =>
    obtain ⟨k, hk, rfl, hW, hBD⟩ := hrel
    obtain ⟨a7, c7, rfl⟩ := own_formK hW.out.o7
    obtain ⟨a8, c8, rfl⟩ := own_formK hW.out.o8
    have HB := Lib.hid (show Below w1.heap.size w1 wr by rw [hB0]; exact hW.out.bel)
    by_cases hkn : k < N
    · have hkx : k < xs.length := by rw [HXN.out]; exact hkn
      have hky : k < ys.length := by rw [HYN.out]; exact hkn
      obtain ⟨x, hx⟩ : ∃ x, s k = x := ⟨_, rfl⟩
      obtain ⟨y, hy⟩ : ∃ y, t k = y := ⟨_, rfl⟩
      obtain ⟨x0, hx0⟩ : ∃ x, s 0 = x := ⟨_, rfl⟩
      have HX0 := Lib.hid hx0; have HX := Lib.hid hx; have HY := Lib.hid hy
      have hcell : ∀ w', Below w1.heap.size w1 w' → w'.cell? ⟨sb, so + k, none⟩ = some (.int .i64 x) ∧ w'.cell? ⟨tb, tof + k, none⟩ = some (.int .i64 y) ∧ w'.cell? ⟨sb, so, none⟩ = some (.int .i64 x0) := fun w' hb => by
        refine ⟨?_, ?_, ?_⟩
        · rw [HSP.out.at hb (Nat.le_refl _) k hkx, HS1.out k hkx, hx]; rfl
        · rw [HTP.out.at hb (Nat.le_refl _) k hky, HT1.out k hky, hy]; rfl
        · have := HSP.out.at hb (Nat.le_refl _) 0 (by omega)
          rw [HS1.out 0 (by omega), hx0] at this
          exact this
      obtain ⟨cx, cy, c0⟩ := hcell wr HB.out
      have HCELL := Lib.hid hcell
      have p1 : (0 : Int) ≤ (k : Int) := by omega
      have p2 : (k : Int) < (N : Int) := by omega
      have p3 : (0 : Int) < (N : Int) := by omega
      have p4 : 0 < N := by omega
      rcases (show (decide (x < -1000) = true ∨ (decide (x < -1000) = false ∧ decide ((1000 : Int) < x) = true) ∨ (decide (x < -1000) = false ∧ decide ((1000 : Int) < x) = false ∧ decide (y < -1000) = true) ∨ (decide (x < -1000) = false ∧ decide ((1000 : Int) < x) = false ∧ decide (y < -1000) = false ∧ decide ((1000 : Int) < y) = true)) ∨ (decide (x < -1000) = false ∧ decide ((1000 : Int) < x) = false ∧ decide (y < -1000) = false ∧ decide ((1000 : Int) < y) = false) by
        by_cases u1 : x < -1000
        · simp [u1]
        · by_cases u2 : 1000 < x
          · simp [u1, u2]
          · by_cases u3 : y < -1000
            · simp [u1, u2, u3]
            · by_cases u4 : 1000 < y
              · simp [u1, u2, u3, u4]
              · simp [u1, u2, u3, u4]) with hbad | ⟨u1, u2, u3, u4⟩
      · have HEW := Lib.hid (HE.out.below HB.out (Nat.le_refl _))
        have HQ := Lib.hid (Q1.out.trans (HB.out.mono Q1.out.size))
        clear hx hy hx0 hcell hW
        rcases hbad with u1 | ⟨u1, u2⟩ | ⟨u1, u2, u3⟩ | ⟨u1, u2, u3, u4⟩
        all_goals
          go_wp2_with ((go_at_call 15); (with_reducible refine (awake15 _ HEW.out).mono ?_); rintro e w5 ⟨v5, rfl, rfl, h5⟩; have q5 := HQ.out.trans (h5.mono HQ.out.size))
          go_ret
          exact ⟨_, rfl, rfl, q5⟩
      · have e1 : IntKind.i64.wrap (x + y) = x + y := by
          simp only [decide_eq_false_iff_not] at u1 u2 u3 u4
          rw [IntKind.wrap_i64]; omega
        have HBN := Lib.hid (show ∀ j, j < k + 1 → -1000 ≤ s j ∧ s j ≤ 1000 ∧ -1000 ≤ t j ∧ t j ≤ 1000 from fun j hj => by
          by_cases e : j < k
          · exact hBD.out j e
          · obtain rfl : j = k := by omega
            simp only [decide_eq_false_iff_not] at u1 u2 u3 u4
            rw [hx, hy]; omega)
        have hk1000 : k ≤ 1000 := by have := HN12.out; omega
        have HK1 := Lib.hid (show (k + 1) * 8 ≤ 140737488355328 by omega)
        have HK2 := Lib.hid (show k + 1 ≤ maxLen by unfold maxLen; omega)
        have HOX := Lib.hid (show ([.int .i64 (x + y)] : List Value) = [.int .i64 ((fun j => s j + t j) k)] by simp only [hx, hy])
        have HOY := Lib.hid (show ([.int .i64 x0] : List Value) = [.int .i64 ((fun _ => s 0) k)] by simp only [hx0])
        obtain ⟨l7, hl7⟩ : ∃ l, ((List.range k).map fun j => s j + t j).map eZ = l := ⟨_, rfl⟩
        obtain ⟨l8, hl8⟩ : ∃ l, ((List.range k).map fun _ => s 0).map eZ = l := ⟨_, rfl⟩
        rw [hl7, hl8] at hW
        have HL7 := Lib.hid hl7; have HL8 := Lib.hid hl8
        clear hx hy hx0 hcell hl7 hl8
        go_wp2_with fail
        have HW := Lib.hid hW.out.drew
        have HB := Lib.hid HB.out.drew
        obtain ⟨v0, hv0⟩ : ∃ x, wr.drew = x := ⟨_, rfl⟩
        refine wp_regionJ (S := fun w' => w'.cell? ⟨sb, so + k, none⟩ = some (.int .i64 x) ∧ w'.cell? ⟨tb, tof + k, none⟩ = some (.int .i64 y) ∧ w'.cell? ⟨sb, so, none⟩ = some (.int .i64 x0)) (A := fun _ => true) (by kernel_rfl) ?_
        rw [hv0] at HW HB ⊢
        clear hv0 hW
        have hS := HCELL.out v0 HB.out
        refine wpAnyJ_take (i := 0) (oi := { dst := some 70, op := .move (.tmp 7), type := _, pos := _, after := _, guard := _ }) (v := ?_) rfl (by kernel_rfl) (by kernel_rfl) (by kernel_rfl) (early_sat (by kernel_rfl)) (fun _ _ _ h => h) (Or.inl ⟨by rfl, ?_⟩) hS ?_
        rotate_left
        · intro wl hSw
          obtain ⟨s0, s1, s2⟩ := hSw
          go_simp
          with_reducible rfl
        simp only [Act.put, List.setIfInBounds_toArray, List.set_cons_zero, List.set_cons_succ]
        refine wpAnyJ_take (i := 1) (oi := { dst := some 71, op := .move (.tmp 1), type := _, pos := _, after := _, guard := _ }) (v := ?_) rfl (by kernel_rfl) (by kernel_rfl) (by kernel_rfl) (early_sat (by kernel_rfl)) (fun _ _ _ h => h) (Or.inl ⟨by rfl, ?_⟩) hS ?_
        rotate_left
        · intro wl hSw
          obtain ⟨s0, s1, s2⟩ := hSw
          go_simp
          with_reducible rfl
        simp only [Act.put, List.setIfInBounds_toArray, List.set_cons_zero, List.set_cons_succ]
        refine wpAnyJ_take (i := 2) (oi := { dst := some 72, op := .move (.tmp 9), type := _, pos := _, after := _, guard := _ }) (v := ?_) rfl (by kernel_rfl) (by kernel_rfl) (by kernel_rfl) (early_sat (by kernel_rfl)) (fun _ _ _ h => h) (Or.inl ⟨by rfl, ?_⟩) hS ?_
        rotate_left
        · intro wl hSw
          obtain ⟨s0, s1, s2⟩ := hSw
          go_simp
          with_reducible rfl
        simp only [Act.put, List.setIfInBounds_toArray, List.set_cons_zero, List.set_cons_succ]
        refine wpAnyJ_take (i := 3) (oi := { dst := some 73, op := .indexAddr _ (.tmp 71) (.tmp 72), type := _, pos := _, after := _, guard := _ }) (v := ?_) rfl (by kernel_rfl) (by kernel_rfl) (by kernel_rfl) (early_sat (by kernel_rfl)) (fun _ _ _ h => h) (Or.inl ⟨by rfl, ?_⟩) hS ?_
        rotate_left
        · intro wl hSw
          obtain ⟨s0, s1, s2⟩ := hSw
          go_simp
          with_reducible rfl
        simp only [Act.put, List.setIfInBounds_toArray, List.set_cons_zero, List.set_cons_succ]
        refine wpAnyJ_take (i := 4) (oi := { dst := some 74, op := .load _ (.tmp 73), type := _, pos := _, after := _, guard := _ }) (v := ?_) rfl (by kernel_rfl) (by kernel_rfl) (by kernel_rfl) (early_sat (by kernel_rfl)) (fun _ _ _ h => h) (Or.inl ⟨by rfl, ?_⟩) hS ?_
        rotate_left
        · intro wl hSw
          obtain ⟨s0, s1, s2⟩ := hSw
          go_simp
          with_reducible rfl
        simp only [Act.put, List.setIfInBounds_toArray, List.set_cons_zero, List.set_cons_succ]
        refine wpAnyJ_take (i := 5) (oi := { dst := some 75, op := .move (.tmp 2), type := _, pos := _, after := _, guard := _ }) (v := ?_) rfl (by kernel_rfl) (by kernel_rfl) (by kernel_rfl) (early_sat (by kernel_rfl)) (fun _ _ _ h => h) (Or.inl ⟨by rfl, ?_⟩) hS ?_
        rotate_left
        · intro wl hSw
          obtain ⟨s0, s1, s2⟩ := hSw
          go_simp
          with_reducible rfl
        simp only [Act.put, List.setIfInBounds_toArray, List.set_cons_zero, List.set_cons_succ]
        refine wpAnyJ_take (i := 6) (oi := { dst := some 76, op := .move (.tmp 9), type := _, pos := _, after := _, guard := _ }) (v := ?_) rfl (by kernel_rfl) (by kernel_rfl) (by kernel_rfl) (early_sat (by kernel_rfl)) (fun _ _ _ h => h) (Or.inl ⟨by rfl, ?_⟩) hS ?_
        rotate_left
        · intro wl hSw
          obtain ⟨s0, s1, s2⟩ := hSw
          go_simp
          with_reducible rfl
        simp only [Act.put, List.setIfInBounds_toArray, List.set_cons_zero, List.set_cons_succ]
        refine wpAnyJ_take (i := 7) (oi := { dst := some 77, op := .indexAddr _ (.tmp 75) (.tmp 76), type := _, pos := _, after := _, guard := _ }) (v := ?_) rfl (by kernel_rfl) (by kernel_rfl) (by kernel_rfl) (early_sat (by kernel_rfl)) (fun _ _ _ h => h) (Or.inl ⟨by rfl, ?_⟩) hS ?_
        rotate_left
        · intro wl hSw
          obtain ⟨s0, s1, s2⟩ := hSw
          go_simp
          with_reducible rfl
        simp only [Act.put, List.setIfInBounds_toArray, List.set_cons_zero, List.set_cons_succ]
        refine wpAnyJ_take (i := 8) (oi := { dst := some 78, op := .load _ (.tmp 77), type := _, pos := _, after := _, guard := _ }) (v := ?_) rfl (by kernel_rfl) (by kernel_rfl) (by kernel_rfl) (early_sat (by kernel_rfl)) (fun _ _ _ h => h) (Or.inl ⟨by rfl, ?_⟩) hS ?_
        rotate_left
        · intro wl hSw
          obtain ⟨s0, s1, s2⟩ := hSw
          go_simp
          with_reducible rfl
        simp only [Act.put, List.setIfInBounds_toArray, List.set_cons_zero, List.set_cons_succ]
        refine wpAnyJ_take (i := 9) (oi := { dst := some 79, op := .binOp _ _ (.tmp 74) (.tmp 78) _, type := _, pos := _, after := _, guard := _ }) (v := ?_) rfl (by kernel_rfl) (by kernel_rfl) (by kernel_rfl) (early_sat (by kernel_rfl)) (fun _ _ _ h => h) (Or.inl ⟨by rfl, ?_⟩) hS ?_
        rotate_left
        · intro wl hSw
          obtain ⟨s0, s1, s2⟩ := hSw
          go_simp
          with_reducible rfl
        simp only [Act.put, List.setIfInBounds_toArray, List.set_cons_zero, List.set_cons_succ]
        refine wpAnyJ_take (i := 12) (oi := { dst := some 82, op := .move (.tmp 8), type := _, pos := _, after := _, guard := _ }) (v := ?_) rfl (by kernel_rfl) (by kernel_rfl) (by kernel_rfl) (early_sat (by kernel_rfl)) (fun _ _ _ h => h) (Or.inl ⟨by rfl, ?_⟩) hS ?_
        rotate_left
        · intro wl hSw
          obtain ⟨s0, s1, s2⟩ := hSw
          go_simp
          with_reducible rfl
        simp only [Act.put, List.setIfInBounds_toArray, List.set_cons_zero, List.set_cons_succ]
        refine wpAnyJ_take (i := 13) (oi := { dst := some 83, op := .move (.tmp 1), type := _, pos := _, after := _, guard := _ }) (v := ?_) rfl (by kernel_rfl) (by kernel_rfl) (by kernel_rfl) (early_sat (by kernel_rfl)) (fun _ _ _ h => h) (Or.inl ⟨by rfl, ?_⟩) hS ?_
        rotate_left
        · intro wl hSw
          obtain ⟨s0, s1, s2⟩ := hSw
          go_simp
          with_reducible rfl
        simp only [Act.put, List.setIfInBounds_toArray, List.set_cons_zero, List.set_cons_succ]
        refine wpAnyJ_take (i := 14) (oi := { dst := some 84, op := .indexAddr _ (.tmp 83) _, type := _, pos := _, after := _, guard := _ }) (v := ?_) rfl (by kernel_rfl) (by kernel_rfl) (by kernel_rfl) (early_sat (by kernel_rfl)) (fun _ _ _ h => h) (Or.inl ⟨by rfl, ?_⟩) hS ?_
        rotate_left
        · intro wl hSw
          obtain ⟨s0, s1, s2⟩ := hSw
          go_simp
          with_reducible rfl
        simp only [Act.put, List.setIfInBounds_toArray, List.set_cons_zero, List.set_cons_succ]
        refine wpAnyJ_take (i := 15) (oi := { dst := some 85, op := .load _ (.tmp 84), type := _, pos := _, after := _, guard := _ }) (v := ?_) rfl (by kernel_rfl) (by kernel_rfl) (by kernel_rfl) (early_sat (by kernel_rfl)) (fun _ _ _ h => h) (Or.inl ⟨by rfl, ?_⟩) hS ?_
        rotate_left
        · intro wl hSw
          obtain ⟨s0, s1, s2⟩ := hSw
          go_simp
          with_reducible rfl
        simp only [Act.put, List.setIfInBounds_toArray, List.set_cons_zero, List.set_cons_succ]
        refine wpAnyJ_twoF (i := 10) (j := 16) (o := { dst := some 80, op := _, type := _, pos := _, after := _, guard := _ }) (o' := { dst := some 86, op := _, type := _, pos := _, after := _, guard := _ }) (by kernel_rfl) rfl rfl (fun K hK => ?_) (fun K hK => ?_)
        · skip
          go_simp
          have HN7 := Lib.hid (Src.new HW.out [.int .i64 (x + y)])
          have HW := Lib.hid (HW.out.alloc (.cells #[.int .i64 (x + y)] 3))
          obtain ⟨g7, hg⟩ : ∃ g, v0.heap.size = g := ⟨_, rfl⟩
          obtain ⟨v1, hv⟩ : ∃ ww, v0.alloc (.cells #[.int .i64 (x + y)] 3) = ww := ⟨_, rfl⟩
          change Hid (Src (v0.alloc (.cells #[.int .i64 (x + y)] 3)) v0.heap.size _ _ _) at HN7
          rw [hv, hg] at HN7
          rw [hg]
          rw [hv] at HW ⊢
          clear hv hg
          have HB := Lib.hid (show Below w1.heap.size w1 v1 by rw [hB0]; exact HW.out.bel)
          have hS := HCELL.out v1 HB.out
          refine hK.out _ _ (fun _ => hS) ?_
          try simp only [Act.put, List.setIfInBounds_toArray, List.set_cons_zero, List.set_cons_succ]
          clear hK K
          refine wpAnyJ_twoF (i := 11) (j := 16) (o := { dst := some 81, op := _, type := _, pos := _, after := _, guard := _ }) (o' := { dst := some 86, op := _, type := _, pos := _, after := _, guard := _ }) (by kernel_rfl) rfl rfl (fun K hK => ?_) (fun K hK => ?_)
          · skip
            refine appB_step (w0 := v1) (m := 1) (news := [.int .i64 (x + y)]) (base := B0) (g := g7) elemScr rfl (.tmp 70) (.tmp 80) rfl (by rfl) (by rfl) HN7.out.blk HW.out.o7 HW.out.sz rfl (by intro u hu; simp at hu; subst hu; rfl) HK1.out HK2.out ?_
            intro v' v2 hown' hg' hat'
            obtain ⟨b7, d7, rfl⟩ := own_formK hown'
            have HW := Lib.hid (HW.out.app hown' hg' hat')
            clear hown' hg' hat'
            have HB := Lib.hid (show Below w1.heap.size w1 v2 by rw [hB0]; exact HW.out.bel)
            have hS := HCELL.out v2 HB.out
            refine hK.out _ _ (fun _ => hS) ?_
            try simp only [Act.put, List.setIfInBounds_toArray, List.set_cons_zero, List.set_cons_succ]
            clear hK K
            refine wpAnyJ_only (i := 16) (o := { dst := some 86, op := _, type := _, pos := _, after := _, guard := _ }) (by kernel_rfl) rfl (fun K hK => ?_)
            go_simp
            have HN8 := Lib.hid (Src.new HW.out [.int .i64 (x0)])
            have HW := Lib.hid (HW.out.alloc (.cells #[.int .i64 (x0)] 3))
            obtain ⟨g8, hg⟩ : ∃ g, v2.heap.size = g := ⟨_, rfl⟩
            obtain ⟨v3, hv⟩ : ∃ ww, v2.alloc (.cells #[.int .i64 (x0)] 3) = ww := ⟨_, rfl⟩
            change Hid (Src (v2.alloc (.cells #[.int .i64 (x0)] 3)) v2.heap.size _ _ _) at HN8
            rw [hv, hg] at HN8
            rw [hg]
            rw [hv] at HW ⊢
            clear hv hg
            have HB := Lib.hid (show Below w1.heap.size w1 v3 by rw [hB0]; exact HW.out.bel)
            have hS := HCELL.out v3 HB.out
            refine hK.out _ _ (fun _ => hS) ?_
            try simp only [Act.put, List.setIfInBounds_toArray, List.set_cons_zero, List.set_cons_succ]
            clear hK K
            refine wpAnyJ_only (i := 17) (o := { dst := some 87, op := _, type := _, pos := _, after := _, guard := _ }) (by kernel_rfl) rfl (fun K hK => ?_)
            refine appB_step (w0 := v3) (m := 1) (news := [.int .i64 x0]) (base := B0) (g := g8) elemScr rfl (.tmp 82) (.tmp 86) rfl (by rfl) (by rfl) HN8.out.blk HW.out.o8 HW.out.sz rfl (by intro u hu; simp at hu; subst hu; rfl) HK1.out HK2.out ?_
            intro v' v4 hown' hg' hat'
            obtain ⟨b8, d8, rfl⟩ := own_formK hown'
            have HW := Lib.hid (HW.out.app8 hown' hg' hat')
            clear hown' hg' hat'
            have HB := Lib.hid (show Below w1.heap.size w1 v4 by rw [hB0]; exact HW.out.bel)
            have hS := HCELL.out v4 HB.out
            refine hK.out _ _ (fun _ => hS) ?_
            try simp only [Act.put, List.setIfInBounds_toArray, List.set_cons_zero, List.set_cons_succ]
            clear hK K
            refine wpAnyJ_take (i := 18) (oi := { dst := some 7, op := .assign (.tmp 81), type := _, pos := _, after := _, guard := _ }) (v := ?_) rfl (by kernel_rfl) (by kernel_rfl) (by kernel_rfl) (early_sat (by kernel_rfl)) (fun _ _ _ h => h) (Or.inl ⟨by rfl, ?_⟩) hS ?_
            rotate_left
            · intro wl hSw
              obtain ⟨s0, s1, s2⟩ := hSw
              go_simp
              with_reducible rfl
            simp only [Act.put, List.setIfInBounds_toArray, List.set_cons_zero, List.set_cons_succ]
            refine wpAnyJ_take (i := 19) (oi := { dst := some 8, op := .assign (.tmp 87), type := _, pos := _, after := _, guard := _ }) (v := ?_) rfl (by kernel_rfl) (by kernel_rfl) (by kernel_rfl) (early_sat (by kernel_rfl)) (fun _ _ _ h => h) (Or.inl ⟨by rfl, ?_⟩) hS ?_
            rotate_left
            · intro wl hSw
              obtain ⟨s0, s1, s2⟩ := hSw
              go_simp
              with_reducible rfl
            simp only [Act.put, List.setIfInBounds_toArray, List.set_cons_zero, List.set_cons_succ]
            refine wpAnyJ_done (by kernel_rfl) ?_ _
            clear hS
            go_wp2
            go_roundw
            case rel => exact ⟨k + 1, by omega, by go_num, Lib.hid (by rw [range_snoc, range_snoc, ← HOX.out, ← HOY.out, HL7.out, HL8.out]; exact HW.out), HBN⟩
            case measure => simp [intOf]; omega
          · skip
            go_simp
            have HN8 := Lib.hid (Src.new HW.out [.int .i64 (x0)])
            have HW := Lib.hid (HW.out.alloc (.cells #[.int .i64 (x0)] 3))
            have HN7 := Lib.hid (HN7.out.alloc (.cells #[.int .i64 (x0)] 3))
            obtain ⟨g8, hg⟩ : ∃ g, v1.heap.size = g := ⟨_, rfl⟩
            obtain ⟨v5, hv⟩ : ∃ ww, v1.alloc (.cells #[.int .i64 (x0)] 3) = ww := ⟨_, rfl⟩
            change Hid (Src (v1.alloc (.cells #[.int .i64 (x0)] 3)) v1.heap.size _ _ _) at HN8
            rw [hv, hg] at HN8
            rw [hg]
            rw [hv] at HW HN7 ⊢
            clear hv hg
            have HB := Lib.hid (show Below w1.heap.size w1 v5 by rw [hB0]; exact HW.out.bel)
            have hS := HCELL.out v5 HB.out
            refine hK.out _ _ (fun _ => hS) ?_
            try simp only [Act.put, List.setIfInBounds_toArray, List.set_cons_zero, List.set_cons_succ]
            clear hK K
            refine wpAnyJ_only (i := 11) (o := { dst := some 81, op := _, type := _, pos := _, after := _, guard := _ }) (by kernel_rfl) rfl (fun K hK => ?_)
            refine appB_step (w0 := v5) (m := 1) (news := [.int .i64 (x + y)]) (base := B0) (g := g7) elemScr rfl (.tmp 70) (.tmp 80) rfl (by rfl) (by rfl) HN7.out.blk HW.out.o7 HW.out.sz rfl (by intro u hu; simp at hu; subst hu; rfl) HK1.out HK2.out ?_
            intro v' v6 hown' hg' hat'
            obtain ⟨b7, d7, rfl⟩ := own_formK hown'
            have HN8 := Lib.hid (HN8.out.app7 hg' hat')
            have HW := Lib.hid (HW.out.app hown' hg' hat')
            clear hown' hg' hat'
            have HB := Lib.hid (show Below w1.heap.size w1 v6 by rw [hB0]; exact HW.out.bel)
            have hS := HCELL.out v6 HB.out
            refine hK.out _ _ (fun _ => hS) ?_
            try simp only [Act.put, List.setIfInBounds_toArray, List.set_cons_zero, List.set_cons_succ]
            clear hK K
            refine wpAnyJ_only (i := 17) (o := { dst := some 87, op := _, type := _, pos := _, after := _, guard := _ }) (by kernel_rfl) rfl (fun K hK => ?_)
            refine appB_step (w0 := v6) (m := 1) (news := [.int .i64 x0]) (base := B0) (g := g8) elemScr rfl (.tmp 82) (.tmp 86) rfl (by rfl) (by rfl) HN8.out.blk HW.out.o8 HW.out.sz rfl (by intro u hu; simp at hu; subst hu; rfl) HK1.out HK2.out ?_
            intro v' v7 hown' hg' hat'
            obtain ⟨b8, d8, rfl⟩ := own_formK hown'
            have HW := Lib.hid (HW.out.app8 hown' hg' hat')
            clear hown' hg' hat'
            have HB := Lib.hid (show Below w1.heap.size w1 v7 by rw [hB0]; exact HW.out.bel)
            have hS := HCELL.out v7 HB.out
            refine hK.out _ _ (fun _ => hS) ?_
            try simp only [Act.put, List.setIfInBounds_toArray, List.set_cons_zero, List.set_cons_succ]
            clear hK K
            refine wpAnyJ_take (i := 18) (oi := { dst := some 7, op := .assign (.tmp 81), type := _, pos := _, after := _, guard := _ }) (v := ?_) rfl (by kernel_rfl) (by kernel_rfl) (by kernel_rfl) (early_sat (by kernel_rfl)) (fun _ _ _ h => h) (Or.inl ⟨by rfl, ?_⟩) hS ?_
            rotate_left
            · intro wl hSw
              obtain ⟨s0, s1, s2⟩ := hSw
              go_simp
              with_reducible rfl
            simp only [Act.put, List.setIfInBounds_toArray, List.set_cons_zero, List.set_cons_succ]
            refine wpAnyJ_take (i := 19) (oi := { dst := some 8, op := .assign (.tmp 87), type := _, pos := _, after := _, guard := _ }) (v := ?_) rfl (by kernel_rfl) (by kernel_rfl) (by kernel_rfl) (early_sat (by kernel_rfl)) (fun _ _ _ h => h) (Or.inl ⟨by rfl, ?_⟩) hS ?_
            rotate_left
            · intro wl hSw
              obtain ⟨s0, s1, s2⟩ := hSw
              go_simp
              with_reducible rfl
            simp only [Act.put, List.setIfInBounds_toArray, List.set_cons_zero, List.set_cons_succ]
            refine wpAnyJ_done (by kernel_rfl) ?_ _
            clear hS
            go_wp2
            go_roundw
            case rel => exact ⟨k + 1, by omega, by go_num, Lib.hid (by rw [range_snoc, range_snoc, ← HOX.out, ← HOY.out, HL7.out, HL8.out]; exact HW.out), HBN⟩
            case measure => simp [intOf]; omega
        · skip
          go_simp
          have HN8 := Lib.hid (Src.new HW.out [.int .i64 (x0)])
          have HW := Lib.hid (HW.out.alloc (.cells #[.int .i64 (x0)] 3))
          obtain ⟨g8, hg⟩ : ∃ g, v0.heap.size = g := ⟨_, rfl⟩
          obtain ⟨v8, hv⟩ : ∃ ww, v0.alloc (.cells #[.int .i64 (x0)] 3) = ww := ⟨_, rfl⟩
          change Hid (Src (v0.alloc (.cells #[.int .i64 (x0)] 3)) v0.heap.size _ _ _) at HN8
          rw [hv, hg] at HN8
          rw [hg]
          rw [hv] at HW ⊢
          clear hv hg
          have HB := Lib.hid (show Below w1.heap.size w1 v8 by rw [hB0]; exact HW.out.bel)
          have hS := HCELL.out v8 HB.out
          refine hK.out _ _ (fun _ => hS) ?_
          try simp only [Act.put, List.setIfInBounds_toArray, List.set_cons_zero, List.set_cons_succ]
          clear hK K
          refine wpAnyJ_only (i := 10) (o := { dst := some 80, op := _, type := _, pos := _, after := _, guard := _ }) (by kernel_rfl) rfl (fun K hK => ?_)
          go_simp
          have HN7 := Lib.hid (Src.new HW.out [.int .i64 (x + y)])
          have HW := Lib.hid (HW.out.alloc (.cells #[.int .i64 (x + y)] 3))
          have HN8 := Lib.hid (HN8.out.alloc (.cells #[.int .i64 (x + y)] 3))
          obtain ⟨g7, hg⟩ : ∃ g, v8.heap.size = g := ⟨_, rfl⟩
          obtain ⟨v9, hv⟩ : ∃ ww, v8.alloc (.cells #[.int .i64 (x + y)] 3) = ww := ⟨_, rfl⟩
          change Hid (Src (v8.alloc (.cells #[.int .i64 (x + y)] 3)) v8.heap.size _ _ _) at HN7
          rw [hv, hg] at HN7
          rw [hg]
          rw [hv] at HW HN8 ⊢
          clear hv hg
          have HB := Lib.hid (show Below w1.heap.size w1 v9 by rw [hB0]; exact HW.out.bel)
          have hS := HCELL.out v9 HB.out
          refine hK.out _ _ (fun _ => hS) ?_
          try simp only [Act.put, List.setIfInBounds_toArray, List.set_cons_zero, List.set_cons_succ]
          clear hK K
          refine wpAnyJ_only (i := 11) (o := { dst := some 81, op := _, type := _, pos := _, after := _, guard := _ }) (by kernel_rfl) rfl (fun K hK => ?_)
          refine appB_step (w0 := v9) (m := 1) (news := [.int .i64 (x + y)]) (base := B0) (g := g7) elemScr rfl (.tmp 70) (.tmp 80) rfl (by rfl) (by rfl) HN7.out.blk HW.out.o7 HW.out.sz rfl (by intro u hu; simp at hu; subst hu; rfl) HK1.out HK2.out ?_
          intro v' v10 hown' hg' hat'
          obtain ⟨b7, d7, rfl⟩ := own_formK hown'
          have HN8 := Lib.hid (HN8.out.app7 hg' hat')
          have HW := Lib.hid (HW.out.app hown' hg' hat')
          clear hown' hg' hat'
          have HB := Lib.hid (show Below w1.heap.size w1 v10 by rw [hB0]; exact HW.out.bel)
          have hS := HCELL.out v10 HB.out
          refine hK.out _ _ (fun _ => hS) ?_
          try simp only [Act.put, List.setIfInBounds_toArray, List.set_cons_zero, List.set_cons_succ]
          clear hK K
          refine wpAnyJ_only (i := 17) (o := { dst := some 87, op := _, type := _, pos := _, after := _, guard := _ }) (by kernel_rfl) rfl (fun K hK => ?_)
          refine appB_step (w0 := v10) (m := 1) (news := [.int .i64 x0]) (base := B0) (g := g8) elemScr rfl (.tmp 82) (.tmp 86) rfl (by rfl) (by rfl) HN8.out.blk HW.out.o8 HW.out.sz rfl (by intro u hu; simp at hu; subst hu; rfl) HK1.out HK2.out ?_
          intro v' v11 hown' hg' hat'
          obtain ⟨b8, d8, rfl⟩ := own_formK hown'
          have HW := Lib.hid (HW.out.app8 hown' hg' hat')
          clear hown' hg' hat'
          have HB := Lib.hid (show Below w1.heap.size w1 v11 by rw [hB0]; exact HW.out.bel)
          have hS := HCELL.out v11 HB.out
          refine hK.out _ _ (fun _ => hS) ?_
          try simp only [Act.put, List.setIfInBounds_toArray, List.set_cons_zero, List.set_cons_succ]
          clear hK K
          refine wpAnyJ_take (i := 18) (oi := { dst := some 7, op := .assign (.tmp 81), type := _, pos := _, after := _, guard := _ }) (v := ?_) rfl (by kernel_rfl) (by kernel_rfl) (by kernel_rfl) (early_sat (by kernel_rfl)) (fun _ _ _ h => h) (Or.inl ⟨by rfl, ?_⟩) hS ?_
          rotate_left
          · intro wl hSw
            obtain ⟨s0, s1, s2⟩ := hSw
            go_simp
            with_reducible rfl
          simp only [Act.put, List.setIfInBounds_toArray, List.set_cons_zero, List.set_cons_succ]
          refine wpAnyJ_take (i := 19) (oi := { dst := some 8, op := .assign (.tmp 87), type := _, pos := _, after := _, guard := _ }) (v := ?_) rfl (by kernel_rfl) (by kernel_rfl) (by kernel_rfl) (early_sat (by kernel_rfl)) (fun _ _ _ h => h) (Or.inl ⟨by rfl, ?_⟩) hS ?_
          rotate_left
          · intro wl hSw
            obtain ⟨s0, s1, s2⟩ := hSw
            go_simp
            with_reducible rfl
          simp only [Act.put, List.setIfInBounds_toArray, List.set_cons_zero, List.set_cons_succ]
          refine wpAnyJ_done (by kernel_rfl) ?_ _
          clear hS
          go_wp2
          go_roundw
          case rel => exact ⟨k + 1, by omega, by go_num, Lib.hid (by rw [range_snoc, range_snoc, ← HOX.out, ← HOY.out, HL7.out, HL8.out]; exact HW.out), HBN⟩
          case measure => simp [intOf]; omega
    · obtain rfl : N = k := by omega
      obtain ⟨i1, i2, i3, i4, ib⟩ := HIM.out (fun k h => by rw [HS1.out k h]; have := hBD.out k (by rw [← HXN.out]; exact h); omega) (fun k h => by rw [HT1.out k h]; have := hBD.out k (by rw [← HYN.out]; exact h); omega)
      have HIB := Lib.hid ib
      have SG := Lib.hid (SG.out.below HB.out (Nat.le_refl _)); have SS := Lib.hid (SS.out.below HB.out (Nat.le_refl _)); have ST := Lib.hid (ST.out.below HB.out (Nat.le_refl _)); have HE := Lib.hid (HE.out.below HB.out (Nat.le_refl _)); have BG := Lib.hid (BG.out.below HB.out (Nat.le_refl _))
      have SA := Lib.hid (Sl.ofOwns hW.out.o7); have SF := Lib.hid (Sl.ofOwns hW.out.o8)
      have HQ := Lib.hid (Q1.out.trans (HB.out.mono Q1.out.size))
      obtain ⟨xa, hxa⟩ : ∃ l, ((List.range N).map fun j => s j + t j) = l := ⟨_, rfl⟩
      obtain ⟨xf, hxf⟩ : ∃ l, ((List.range N).map fun _ => s 0) = l := ⟨_, rfl⟩
      rw [hxa] at i3 SA
      rw [hxf] at i4 SF
      obtain ⟨T1, hT1⟩ : ∃ T, imgL N ns s = T := ⟨_, rfl⟩
      have HL1 := Lib.hid (show T1.length = N by rw [← hT1, imgL_len])
      have HG1 := Lib.hid (show ∀ i (h : i < T1.length), T1[i] = img ns s i from fun i h => by subst hT1; exact imgL_get h)
      have I1 := Lib.hid (show imgS (N : Int) es xs = (T1, 0) by rw [← hT1]; exact i1)
      obtain ⟨T2, hT2⟩ : ∃ T, imgL N ns t = T := ⟨_, rfl⟩
      have HL2 := Lib.hid (show T2.length = N by rw [← hT2, imgL_len])
      have HG2 := Lib.hid (show ∀ i (h : i < T2.length), T2[i] = img ns t i from fun i h => by subst hT2; exact imgL_get h)
      have I2 := Lib.hid (show imgS (N : Int) es ys = (T2, 0) by rw [← hT2]; exact i2)
      obtain ⟨T3, hT3⟩ : ∃ T, imgL N ns (fun k => s k + t k) = T := ⟨_, rfl⟩
      have HL3 := Lib.hid (show T3.length = N by rw [← hT3, imgL_len])
      have HG3 := Lib.hid (show ∀ i (h : i < T3.length), T3[i] = img ns (fun k => s k + t k) i from fun i h => by subst hT3; exact imgL_get h)
      have I3 := Lib.hid (show imgS (N : Int) es xa = (T3, 0) by rw [← hT3]; exact i3)
      obtain ⟨T4, hT4⟩ : ∃ T, imgL N ns (fun _ => s 0) = T := ⟨_, rfl⟩
      have HL4 := Lib.hid (show T4.length = N by rw [← hT4, imgL_len])
      have HG4 := Lib.hid (show ∀ i (h : i < T4.length), T4[i] = img ns (fun _ => s 0) i from fun i h => by subst hT4; exact imgL_get h)
      have I4 := Lib.hid (show imgS (N : Int) es xf = (T4, 0) by rw [← hT4]; exact i4)
      have d5 : ((N : Int) != (N : Int)) = false := by simp
      have g0 := BG.out.cell 0 _ rfl; have g1 := BG.out.cell 1 _ rfl; have gl := BG.out.lt
      clear i1 i2 i3 i4 ib hT1 hT2 hT3 hT4 hxa hxf hW hBD HB HIM
      go_wp2_with (first
        | (go_at_call 21; (with_reducible refine (retL_of (Image_any _ (N : Int) _ _ es xf SG.out SF.out hl) I4.out).mono ?_); rintro e z4 ⟨v, rfl, x4, rfl, s4, h4⟩; obtain ⟨a4, k4, rfl⟩ : ∃ a c, x4 = .slice a N c := sl_formN s4 HL4.out; have TA4 := Lib.hid s4; clear s4; have SG := Lib.hid (SG.out.below h4 (Nat.le_refl _)); have SS := Lib.hid (SS.out.below h4 (Nat.le_refl _)); have ST := Lib.hid (ST.out.below h4 (Nat.le_refl _)); have SA := Lib.hid (SA.out.below h4 (Nat.le_refl _)); have SF := Lib.hid (SF.out.below h4 (Nat.le_refl _)); have HE := Lib.hid (HE.out.below h4 (Nat.le_refl _)); have BG := Lib.hid (BG.out.below h4 (Nat.le_refl _)); have TA1 := Lib.hid (TA1.out.below h4 (Nat.le_refl _)); have TA2 := Lib.hid (TA2.out.below h4 (Nat.le_refl _)); have TA3 := Lib.hid (TA3.out.below h4 (Nat.le_refl _)); have HQ := Lib.hid (HQ.out.trans (h4.mono HQ.out.size)); have g40 := BG.out.cell 0 _ rfl; have g41 := BG.out.cell 1 _ rfl; have gl4 := BG.out.lt; clear h4)
        | (go_at_call 21; (with_reducible refine (retL_of (Image_any _ (N : Int) _ _ es xa SG.out SA.out hl) I3.out).mono ?_); rintro e z3 ⟨v, rfl, x3, rfl, s3, h3⟩; obtain ⟨a3, k3, rfl⟩ : ∃ a c, x3 = .slice a N c := sl_formN s3 HL3.out; have TA3 := Lib.hid s3; clear s3; have SG := Lib.hid (SG.out.below h3 (Nat.le_refl _)); have SS := Lib.hid (SS.out.below h3 (Nat.le_refl _)); have ST := Lib.hid (ST.out.below h3 (Nat.le_refl _)); have SA := Lib.hid (SA.out.below h3 (Nat.le_refl _)); have SF := Lib.hid (SF.out.below h3 (Nat.le_refl _)); have HE := Lib.hid (HE.out.below h3 (Nat.le_refl _)); have BG := Lib.hid (BG.out.below h3 (Nat.le_refl _)); have TA1 := Lib.hid (TA1.out.below h3 (Nat.le_refl _)); have TA2 := Lib.hid (TA2.out.below h3 (Nat.le_refl _)); have HQ := Lib.hid (HQ.out.trans (h3.mono HQ.out.size)); have g30 := BG.out.cell 0 _ rfl; have g31 := BG.out.cell 1 _ rfl; have gl3 := BG.out.lt; clear h3)
        | (go_at_call 21; (with_reducible refine (retL_of (Image_any _ (N : Int) _ _ es ys SG.out ST.out hl) I2.out).mono ?_); rintro e z2 ⟨v, rfl, x2, rfl, s2, h2⟩; obtain ⟨a2, k2, rfl⟩ : ∃ a c, x2 = .slice a N c := sl_formN s2 HL2.out; have TA2 := Lib.hid s2; clear s2; have SG := Lib.hid (SG.out.below h2 (Nat.le_refl _)); have SS := Lib.hid (SS.out.below h2 (Nat.le_refl _)); have ST := Lib.hid (ST.out.below h2 (Nat.le_refl _)); have SA := Lib.hid (SA.out.below h2 (Nat.le_refl _)); have SF := Lib.hid (SF.out.below h2 (Nat.le_refl _)); have HE := Lib.hid (HE.out.below h2 (Nat.le_refl _)); have BG := Lib.hid (BG.out.below h2 (Nat.le_refl _)); have TA1 := Lib.hid (TA1.out.below h2 (Nat.le_refl _)); have HQ := Lib.hid (HQ.out.trans (h2.mono HQ.out.size)); have g20 := BG.out.cell 0 _ rfl; have g21 := BG.out.cell 1 _ rfl; have gl2 := BG.out.lt; clear h2)
        | (go_at_call 21; (with_reducible refine (retL_of (Image_any _ (N : Int) _ _ es xs SG.out SS.out hl) I1.out).mono ?_); rintro e z1 ⟨v, rfl, x1, rfl, s1, h1⟩; obtain ⟨a1, k1, rfl⟩ : ∃ a c, x1 = .slice a N c := sl_formN s1 HL1.out; have TA1 := Lib.hid s1; clear s1; have SG := Lib.hid (SG.out.below h1 (Nat.le_refl _)); have SS := Lib.hid (SS.out.below h1 (Nat.le_refl _)); have ST := Lib.hid (ST.out.below h1 (Nat.le_refl _)); have SA := Lib.hid (SA.out.below h1 (Nat.le_refl _)); have SF := Lib.hid (SF.out.below h1 (Nat.le_refl _)); have HE := Lib.hid (HE.out.below h1 (Nat.le_refl _)); have BG := Lib.hid (BG.out.below h1 (Nat.le_refl _)); have HQ := Lib.hid (HQ.out.trans (h1.mono HQ.out.size)); have g10 := BG.out.cell 0 _ rfl; have g11 := BG.out.cell 1 _ rfl; have gl1 := BG.out.lt; clear h1))
      clear g0 g1 gl g10 g11 gl1 g20 g21 gl2 g30 g31 gl3 g40 g41 gl4
      obtain ⟨a', b1, o1, c', hform, hi1, hp1, -, -⟩ := TA1.out.open elemDiv
      rw [HL1.out] at hform hi1
      simp only [Value.slice.injEq, true_and] at hform
      obtain ⟨rfl, rfl⟩ := hform
      have HP1 := Lib.hid hp1
      clear hp1
      obtain ⟨a', b2, o2, c', hform, hi2, hp2, -, -⟩ := TA2.out.open elemDiv
      rw [HL2.out] at hform hi2
      simp only [Value.slice.injEq, true_and] at hform
      obtain ⟨rfl, rfl⟩ := hform
      have HP2 := Lib.hid hp2
      clear hp2
      obtain ⟨a', b3, o3, c', hform, hi3, hp3, -, -⟩ := TA3.out.open elemDiv
      rw [HL3.out] at hform hi3
      simp only [Value.slice.injEq, true_and] at hform
      obtain ⟨rfl, rfl⟩ := hform
      have HP3 := Lib.hid hp3
      clear hp3
      obtain ⟨a', b4, o4, c', hform, hi4, hp4, -, -⟩ := TA4.out.open elemDiv
      rw [HL4.out] at hform hi4
      simp only [Value.slice.injEq, true_and] at hform
      obtain ⟨rfl, rfl⟩ := hform
      have HP4 := Lib.hid hp4
      clear hp4
      go_loopw [18, 151] (fun d i wr => ∃ (k : Nat) (z : Int), k ≤ N ∧ i = .int .i64 k ∧ d = .int .i64 z ∧ Hid (z = sK (img ns s) k) ∧ Hid (Below z4.heap.size z4 wr)) (fun _ i _ => N - (intOf i).toNat)
      case atStart => exact ⟨0, 0, Nat.zero_le _, rfl, rfl, Lib.hid rfl, Lib.hid (Below.refl _ _)⟩
      case round =>
        obtain ⟨k, z, hk, rfl, rfl, hz, hB⟩ := hrel
        by_cases hkn : k < N
        · have k1 : k < T1.length := by rw [HL1.out]; exact hkn
          have k2 : k < T2.length := by rw [HL2.out]; exact hkn
          have k3 : k < T3.length := by rw [HL3.out]; exact hkn
          have k4 : k < T4.length := by rw [HL4.out]; exact hkn
          obtain ⟨y1, hy1⟩ : ∃ y, img ns s k = y := ⟨_, rfl⟩
          obtain ⟨y2, hy2⟩ : ∃ y, img ns t k = y := ⟨_, rfl⟩
          have f1 : wr.cell? ⟨b1, o1 + k, none⟩ = some (.int .i64 y1) := by rw [HP1.out.at hB.out (Nat.le_refl _) k k1, HG1.out k k1, hy1]; rfl
          have f2 : wr.cell? ⟨b2, o2 + k, none⟩ = some (.int .i64 y2) := by rw [HP2.out.at hB.out (Nat.le_refl _) k k2, HG2.out k k2, hy2]; rfl
          have f3 : wr.cell? ⟨b3, o3 + k, none⟩ = some (.int .i64 (y1 + y2)) := by rw [HP3.out.at hB.out (Nat.le_refl _) k k3, HG3.out k k3, img_add, hy1, hy2]; rfl
          have f4 : wr.cell? ⟨b4, o4 + k, none⟩ = some (.int .i64 0) := by rw [HP4.out.at hB.out (Nat.le_refl _) k k4, HG4.out k k4, img_flat]; rfl
          have hb := HIB.out k
          rw [show (fun k => s k) = s from rfl, show (fun k => t k) = t from rfl, hy1, hy2] at hb
          have hzb := sK_le (img ns s) 18000 (fun k => by have := HIB.out k; exact ⟨this.1, this.2.1⟩) k
          rw [← hz.out] at hzb
          have hN6 := HN6.out
          have W1 : IntKind.i64.wrap (z + y1) = z + y1 := by rw [IntKind.wrap_i64]; omega
          have W2 : IntKind.i64.wrap (y1 + y2) = y1 + y2 := by rw [IntKind.wrap_i64]; omega
          have E3 : ((y1 + y2 : Int) != (y1 + y2)) = false := by simp
          have E4 : ((0 : Int) != 0) = false := rfl
          have p1 : (0 : Int) ≤ (k : Int) := by omega
          have p2 : (k : Int) < (N : Int) := by omega
          have HZN := Lib.hid (show z + y1 = sK (img ns s) (k + 1) by rw [hz.out, ← hy1]; rfl)
          clear hy1 hy2 hb hzb
          go_wp2_with fail
          go_quiet (fail)
          have b3 := below_drewN hB.out nq
          go_wp2
          go_roundw
          case rel => exact ⟨k + 1, z + y1, by omega, by go_num, rfl, HZN, Lib.hid b3⟩
          case measure => simp [intOf]; omega
        · obtain rfl : N = k := by omega
          have hz0 : z = 0 := by rw [hz.out]; exact img_degree N s HNS.out
          subst hz0
          have HEW := Lib.hid (HE.out.below hB.out (Nat.le_refl _))
          have HQ := Lib.hid (HQ.out.trans (hB.out.mono HQ.out.size))
          clear hz
          go_wp2_with ((go_at_call 15); (with_reducible refine (awake15 _ HEW.out).mono ?_); rintro e w5 ⟨v5, rfl, rfl, h5⟩; have q5 := HQ.out.trans (h5.mono HQ.out.size))
          go_ret
          exact ⟨_, rfl, rfl, q5⟩
end Go.Proofs.YtkkklfikdoibcaaGreatDoor
