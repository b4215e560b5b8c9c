/- The walk of the matrix law's square. -/
import Derived.Test.YtfhdmhifdaiehaaGreatDoorPk8
namespace Go.Proofs.YtfhdmhifdaiehaaGreatDoor
open Go.RowKit
set_option maxRecDepth 100000

/-- A right square matrix, small. -/
def sq1 (R C : Int) (xs : List ByteArray) : Bool := few03 6 R C xs && decide (mchkM R C xs = 0) && decide (R = C)
theorem sq1_rm {R C : Int} {xs : List ByteArray} (h : sq1 R C xs = true) : ∃ n : Nat, R = (n : Int) ∧ C = (n : Int) ∧ n ≤ 6 ∧ RM (n : Nat) (n : Nat) xs n n ∧ Fit 9 xs := by
  unfold sq1 at h
  simp only [Bool.and_eq_true, decide_eq_true_iff] at h
  obtain ⟨⟨h1, h2⟩, h3⟩ := h
  obtain ⟨h9, hm⟩ := few03_rm h1
  obtain ⟨r, c, hrm⟩ := rm_of h2
  have e1 := hrm.rows; have e2 := hrm.cols
  obtain rfl : r = c := by omega
  exact ⟨r, e1, e2, by have := hm h2; omega, hrm.self, h9⟩
/-- A matrix in a box, and a cell elsewhere. -/
theorem held_sq {h g1 g2 : Nat} {W : World} {a b c d : Value} {cs : List Value} {T T' : TypeId} (h1 : Blk W g1 [a, b, c] T) (h2 : Blk W g2 cs T') (hd : cs[0]? = some d) (hg1 : g1 < h) (hg2 : g2 < h) : ∀ w', Up h W w' → Up h W w' ∧ (w'.cell? ⟨g1, 0, none⟩ = some a ∧ w'.cell? ⟨g1, 1, none⟩ = some b ∧ w'.cell? ⟨g1, 2, none⟩ = some c) ∧ w'.cell? ⟨g2, 0, none⟩ = some d :=
  fun _ H => ⟨H, ⟨(H.box h1 hg1).cell 0 _ rfl, (H.box h1 hg1).cell 1 _ rfl, (H.box h1 hg1).cell 2 _ rfl⟩, (H.box h2 hg2).cell 0 _ hd⟩
set_option maxHeartbeats 8000000 in
theorem square1_any (w : World) (g : Nat) (R C : Int) (v : Value) (xs : List ByteArray) (hk : Blk w g [.int .i64 R, .int .i64 C, v] 24) (hv : Sl eS w v xs) (hsz : ∀ s ∈ xs, s.size ≤ 9223372036854775807) :
    Calls Tryz.prog 18 #[.slice (some ⟨g, 0, none⟩) 1 1] w (Rets fun r w' => r = .bool (sq1 R C xs) ∧ Below w.heap.size w w') := by
  have HV := Lib.hid hv; have HS := Lib.hid hsz; have HKL := Lib.hid hk
  obtain ⟨a, cap, rfl⟩ := sl_form hv
  clear hv hsz hk
  go_enter Tryz.func18, Tryz.ntmps18
  go_wp2
  go_loopw [7] (fun i wr => ∃ q : Nat, q ≤ 1 ∧ i = .int .i64 q ∧ Hid (1 ≤ q → sq1 R C xs = true) ∧ Below w.heap.size w wr) (fun i _ => 1 - (intOf i).toNat)
  case atStart => exact ⟨0, Nat.zero_le _, rfl, Lib.hid (by omega), Below.refl _ _⟩
  case round =>
    obtain ⟨q, hq, rfl, hA, hb⟩ := hrel
    have hkr := HKL.out.below hb (Nat.le_refl _)
    have c0 := hkr.cell 0 _ rfl; have c1 := hkr.cell 1 _ rfl; have c2 := hkr.cell 2 _ rfl
    clear hkr
    rcases (show q = 0 ∨ q = 1 by omega) with rfl | rfl
    · obtain ⟨W, hWW⟩ : ∃ W, wr.alloc (.cells #[.int .i64 R, .int .i64 C, .slice a xs.length cap] 24) = W := ⟨_, rfl⟩
      have HBT := Lib.hid (show Below w.heap.size w W by rw [← hWW]; exact hb.alloc hb.size _)
      have HH := Lib.hid (held_sq (h := W.heap.size) (show Blk W wr.heap.size [.int .i64 R, .int .i64 C, .slice a xs.length cap] 24 by rw [← hWW]; exact Blk.new wr _ _) (HKL.out.below HBT.out (Nat.le_refl _)) (d := .int .i64 R) rfl (by rw [← hWW]; simp) (Nat.lt_of_lt_of_le HKL.out.lt HBT.out.size))
      have HU0 := Lib.hid (Up.start W)
      have HVW := Lib.hid (HV.out.below HBT.out (Nat.le_refl _))
      have HVd := Lib.hid (HVW.out.below (Below.refl W.heap.size W).drew (Nat.le_refl _))
      have HH4 := Lib.hid (fun w' (H : Up W.heap.size W w') => show w'.cell? ⟨wr.heap.size, 0, none⟩ = some (.int .i64 R) ∧ w'.cell? ⟨wr.heap.size, 1, none⟩ = some (.int .i64 C) ∧ w'.cell? ⟨wr.heap.size, 2, none⟩ = some (.slice a xs.length cap) ∧ w'.cell? ⟨g, 0, none⟩ = some (.int .i64 R) from ⟨(HH.out w' H).2.1.1, (HH.out w' H).2.1.2.1, (HH.out w' H).2.1.2.2, (HH.out w' H).2.2⟩)
      obtain ⟨-, ⟨y0, y1, y2⟩, y3⟩ := HH.out W (Up.start W)
      cases hf : few03 6 R C xs
      · have HF := Lib.hid hf
        have HQ := Lib.hid (show sq1 R C xs = false by unfold sq1; rw [hf]; rfl)
        clear hf
        go_wp2_with fail
        have hSd : W.drew.cell? ⟨wr.heap.size, 0, none⟩ = some (.int .i64 R) ∧ W.drew.cell? ⟨wr.heap.size, 1, none⟩ = some (.int .i64 C) ∧ W.drew.cell? ⟨wr.heap.size, 2, none⟩ = some (.slice a xs.length cap) ∧ W.drew.cell? ⟨g, 0, none⟩ = some (.int .i64 R) := ⟨y0, y1, y2, y3⟩
        refine wp_regionJ (S := fun w' => w'.cell? ⟨wr.heap.size, 0, none⟩ = some (.int .i64 R) ∧ w'.cell? ⟨wr.heap.size, 1, none⟩ = some (.int .i64 C) ∧ w'.cell? ⟨wr.heap.size, 2, none⟩ = some (.slice a xs.length cap) ∧ w'.cell? ⟨g, 0, none⟩ = some (.int .i64 R)) (A := fun _ => true) (by kernel_rfl) ?_
        refine wpAnyJ_take (i := 0) (oi := { dst := some 11, op := .load _ (.tmp 4), type := _, pos := _, after := _, guard := _ }) (v := ?_) rfl (by kernel_rfl) (by kernel_rfl) (by kernel_rfl) (by kernel_rfl) (fun _ _ _ h => h) (Or.inl ⟨by rfl, ?_⟩) hSd ?_
        rotate_left
        · intro wl hSw
          obtain ⟨s0, s1, s2, s3⟩ := hSw
          go_simp
          with_reducible rfl
        simp only [Act.put, List.setIfInBounds_toArray, List.set_cons_zero, List.set_cons_succ]
        refine wpAnyJ_only (i := 1) (o := { dst := some 12, op := _, type := _, pos := _, after := _, guard := _ }) (by kernel_rfl) rfl (fun K hK => ?_)
        go_simp
        refine (Few03_any _ 6 R C _ xs HVd.out HS.out).mono ?_
        rintro e w4 ⟨u4, rfl, rfl, hb4⟩
        rw [HF.out]
        have hU4 := HU0.out.drew.call hb4
        have HV4 := Lib.hid (HVd.out.below hb4 (Nat.le_refl _))
        have hU5 := hU4
        have hS4 := HH4.out w4 hU4
        refine hK.out _ _ (fun _ => hS4) ?_
        try simp only [Act.put, List.setIfInBounds_toArray, List.set_cons_zero, List.set_cons_succ]
        clear hK K
        refine wpAnyJ_take (i := 2) (oi := { dst := some 13, op := _, type := _, pos := _, after := _, guard := _ }) (v := ?_) rfl (by kernel_rfl) (by kernel_rfl) (by kernel_rfl) (by kernel_rfl) (fun _ _ _ h => h) (Or.inl ⟨by rfl, ?_⟩) hS4 ?_
        rotate_left
        · intro wl hSw
          obtain ⟨s0, s1, s2, s3⟩ := hSw
          go_simp
          with_reducible rfl
        simp only [Act.put, List.setIfInBounds_toArray, List.set_cons_zero, List.set_cons_succ]
        refine wpAnyJ_take (i := 3) (oi := { dst := some 14, op := .move (.tmp 13), type := _, pos := _, after := _, guard := _ }) (v := ?_) rfl (by kernel_rfl) (by kernel_rfl) (by kernel_rfl) (by kernel_rfl) (fun _ _ _ h => h) (Or.inl ⟨by rfl, ?_⟩) hS4 ?_
        rotate_left
        · intro wl hSw
          obtain ⟨s0, s1, s2, s3⟩ := hSw
          go_simp
          with_reducible rfl
        simp only [Act.put, List.setIfInBounds_toArray, List.set_cons_zero, List.set_cons_succ]
        refine wpAnyJ_take (i := 4) (oi := { dst := some 15, op := .load _ (.tmp 4), type := _, pos := _, after := _, guard := _ }) (v := undef) rfl (by kernel_rfl) (by kernel_rfl) (by kernel_rfl) (by kernel_rfl) (fun _ _ _ h => h) (Or.inr ⟨by rfl, rfl⟩) hS4 ?_
        simp only [Act.put, List.setIfInBounds_toArray, List.set_cons_zero, List.set_cons_succ]
        refine wpAnyJ_take (i := 5) (oi := { dst := some 16, op := _, type := _, pos := _, after := _, guard := _ }) (v := undef) rfl (by kernel_rfl) (by kernel_rfl) (by kernel_rfl) (by kernel_rfl) (fun _ _ _ h => h) (Or.inr ⟨by rfl, rfl⟩) hS4 ?_
        simp only [Act.put, List.setIfInBounds_toArray, List.set_cons_zero, List.set_cons_succ]
        refine wpAnyJ_take (i := 6) (oi := { dst := some 17, op := .binOp _ _ (.tmp 16) _ _, type := _, pos := _, after := _, guard := _ }) (v := undef) rfl (by kernel_rfl) (by kernel_rfl) (by kernel_rfl) (by kernel_rfl) (fun _ _ _ h => h) (Or.inr ⟨by rfl, rfl⟩) hS4 ?_
        simp only [Act.put, List.setIfInBounds_toArray, List.set_cons_zero, List.set_cons_succ]
        refine wpAnyJ_take (i := 7) (oi := { dst := some 18, op := _, type := _, pos := _, after := _, guard := _ }) (v := ?_) rfl (by kernel_rfl) (by kernel_rfl) (by kernel_rfl) (by kernel_rfl) (fun _ _ _ h => h) (Or.inl ⟨by rfl, ?_⟩) hS4 ?_
        rotate_left
        · intro wl hSw
          obtain ⟨s0, s1, s2, s3⟩ := hSw
          go_simp
          with_reducible rfl
        simp only [Act.put, List.setIfInBounds_toArray, List.set_cons_zero, List.set_cons_succ]
        refine wpAnyJ_take (i := 8) (oi := { dst := some 19, op := .move (.tmp 18), type := _, pos := _, after := _, guard := _ }) (v := ?_) rfl (by kernel_rfl) (by kernel_rfl) (by kernel_rfl) (by kernel_rfl) (fun _ _ _ h => h) (Or.inl ⟨by rfl, ?_⟩) hS4 ?_
        rotate_left
        · intro wl hSw
          obtain ⟨s0, s1, s2, s3⟩ := hSw
          go_simp
          with_reducible rfl
        simp only [Act.put, List.setIfInBounds_toArray, List.set_cons_zero, List.set_cons_succ]
        refine wpAnyJ_take (i := 9) (oi := { dst := some 20, op := .fieldAddr _ (.tmp 4) 0, type := _, pos := _, after := _, guard := _ }) (v := undef) rfl (by kernel_rfl) (by kernel_rfl) (by kernel_rfl) (by kernel_rfl) (fun _ _ _ h => h) (Or.inr ⟨by rfl, rfl⟩) hS4 ?_
        simp only [Act.put, List.setIfInBounds_toArray, List.set_cons_zero, List.set_cons_succ]
        refine wpAnyJ_take (i := 10) (oi := { dst := some 21, op := .load _ (.tmp 20), type := _, pos := _, after := _, guard := _ }) (v := undef) rfl (by kernel_rfl) (by kernel_rfl) (by kernel_rfl) (by kernel_rfl) (fun _ _ _ h => h) (Or.inr ⟨by rfl, rfl⟩) hS4 ?_
        simp only [Act.put, List.setIfInBounds_toArray, List.set_cons_zero, List.set_cons_succ]
        refine wpAnyJ_take (i := 11) (oi := { dst := some 22, op := .fieldAddr _ (.tmp 4) 1, type := _, pos := _, after := _, guard := _ }) (v := undef) rfl (by kernel_rfl) (by kernel_rfl) (by kernel_rfl) (by kernel_rfl) (fun _ _ _ h => h) (Or.inr ⟨by rfl, rfl⟩) hS4 ?_
        simp only [Act.put, List.setIfInBounds_toArray, List.set_cons_zero, List.set_cons_succ]
        refine wpAnyJ_take (i := 12) (oi := { dst := some 23, op := .load _ (.tmp 22), type := _, pos := _, after := _, guard := _ }) (v := undef) rfl (by kernel_rfl) (by kernel_rfl) (by kernel_rfl) (by kernel_rfl) (fun _ _ _ h => h) (Or.inr ⟨by rfl, rfl⟩) hS4 ?_
        simp only [Act.put, List.setIfInBounds_toArray, List.set_cons_zero, List.set_cons_succ]
        refine wpAnyJ_take (i := 13) (oi := { dst := some 24, op := .binOp _ _ (.tmp 21) (.tmp 23) _, type := _, pos := _, after := _, guard := _ }) (v := undef) rfl (by kernel_rfl) (by kernel_rfl) (by kernel_rfl) (by kernel_rfl) (fun _ _ _ h => h) (Or.inr ⟨by rfl, rfl⟩) hS4 ?_
        simp only [Act.put, List.setIfInBounds_toArray, List.set_cons_zero, List.set_cons_succ]
        refine wpAnyJ_take (i := 14) (oi := { dst := some 25, op := _, type := _, pos := _, after := _, guard := _ }) (v := ?_) rfl (by kernel_rfl) (by kernel_rfl) (by kernel_rfl) (by kernel_rfl) (fun _ _ _ h => h) (Or.inl ⟨by rfl, ?_⟩) hS4 ?_
        rotate_left
        · intro wl hSw
          obtain ⟨s0, s1, s2, s3⟩ := hSw
          go_simp
          with_reducible rfl
        simp only [Act.put, List.setIfInBounds_toArray, List.set_cons_zero, List.set_cons_succ]
        refine wpAnyJ_take (i := 15) (oi := { dst := some 26, op := .move (.tmp 25), type := _, pos := _, after := _, guard := _ }) (v := ?_) rfl (by kernel_rfl) (by kernel_rfl) (by kernel_rfl) (by kernel_rfl) (fun _ _ _ h => h) (Or.inl ⟨by rfl, ?_⟩) hS4 ?_
        rotate_left
        · intro wl hSw
          obtain ⟨s0, s1, s2, s3⟩ := hSw
          go_simp
          with_reducible rfl
        simp only [Act.put, List.setIfInBounds_toArray, List.set_cons_zero, List.set_cons_succ]
        refine wpAnyJ_take (i := 16) (oi := { dst := some 27, op := .fieldAddr _ (.tmp 4) 0, type := _, pos := _, after := _, guard := _ }) (v := undef) rfl (by kernel_rfl) (by kernel_rfl) (by kernel_rfl) (by kernel_rfl) (fun _ _ _ h => h) (Or.inr ⟨by rfl, rfl⟩) hS4 ?_
        simp only [Act.put, List.setIfInBounds_toArray, List.set_cons_zero, List.set_cons_succ]
        refine wpAnyJ_take (i := 17) (oi := { dst := some 28, op := .load _ (.tmp 27), type := _, pos := _, after := _, guard := _ }) (v := undef) rfl (by kernel_rfl) (by kernel_rfl) (by kernel_rfl) (by kernel_rfl) (fun _ _ _ h => h) (Or.inr ⟨by rfl, rfl⟩) hS4 ?_
        simp only [Act.put, List.setIfInBounds_toArray, List.set_cons_zero, List.set_cons_succ]
        refine wpAnyJ_take (i := 18) (oi := { dst := some 29, op := .move (.tmp 0), type := _, pos := _, after := _, guard := _ }) (v := undef) rfl (by kernel_rfl) (by kernel_rfl) (by kernel_rfl) (by kernel_rfl) (fun _ _ _ h => h) (Or.inr ⟨by rfl, rfl⟩) hS4 ?_
        simp only [Act.put, List.setIfInBounds_toArray, List.set_cons_zero, List.set_cons_succ]
        refine wpAnyJ_take (i := 19) (oi := { dst := some 30, op := .indexAddr _ (.tmp 29) _, type := _, pos := _, after := _, guard := _ }) (v := undef) rfl (by kernel_rfl) (by kernel_rfl) (by kernel_rfl) (by kernel_rfl) (fun _ _ _ h => h) (Or.inr ⟨by rfl, rfl⟩) hS4 ?_
        simp only [Act.put, List.setIfInBounds_toArray, List.set_cons_zero, List.set_cons_succ]
        refine wpAnyJ_take (i := 20) (oi := { dst := some 31, op := .fieldAddr _ (.tmp 30) 0, type := _, pos := _, after := _, guard := _ }) (v := undef) rfl (by kernel_rfl) (by kernel_rfl) (by kernel_rfl) (by kernel_rfl) (fun _ _ _ h => h) (Or.inr ⟨by rfl, rfl⟩) hS4 ?_
        simp only [Act.put, List.setIfInBounds_toArray, List.set_cons_zero, List.set_cons_succ]
        refine wpAnyJ_take (i := 21) (oi := { dst := some 32, op := .load _ (.tmp 31), type := _, pos := _, after := _, guard := _ }) (v := undef) rfl (by kernel_rfl) (by kernel_rfl) (by kernel_rfl) (by kernel_rfl) (fun _ _ _ h => h) (Or.inr ⟨by rfl, rfl⟩) hS4 ?_
        simp only [Act.put, List.setIfInBounds_toArray, List.set_cons_zero, List.set_cons_succ]
        refine wpAnyJ_take (i := 22) (oi := { dst := some 33, op := .binOp _ _ (.tmp 28) (.tmp 32) _, type := _, pos := _, after := _, guard := _ }) (v := undef) rfl (by kernel_rfl) (by kernel_rfl) (by kernel_rfl) (by kernel_rfl) (fun _ _ _ h => h) (Or.inr ⟨by rfl, rfl⟩) hS4 ?_
        simp only [Act.put, List.setIfInBounds_toArray, List.set_cons_zero, List.set_cons_succ]
        refine wpAnyJ_take (i := 23) (oi := { dst := some 34, op := _, type := _, pos := _, after := _, guard := _ }) (v := ?_) rfl (by kernel_rfl) (by kernel_rfl) (by kernel_rfl) (by kernel_rfl) (fun _ _ _ h => h) (Or.inl ⟨by rfl, ?_⟩) hS4 ?_
        rotate_left
        · intro wl hSw
          obtain ⟨s0, s1, s2, s3⟩ := hSw
          go_simp
          with_reducible rfl
        simp only [Act.put, List.setIfInBounds_toArray, List.set_cons_zero, List.set_cons_succ]
        refine wpAnyJ_done (by kernel_rfl) ?_ _
        go_wp2_with fail
        go_ret
        exact ⟨_, rfl, by rw [HQ.out]; rfl, HBT.out.trans ((Up.bel hU5).mono HBT.out.size)⟩
      · have HF := Lib.hid hf
        have H9 := Lib.hid (few03_rm hf).1
        by_cases hc : mchkM R C xs = 0
        · have HC := Lib.hid hc
          by_cases hs : R = C
          · have hne1 : (R != C) = false := by rw [hs]; simp
            have hne2 : (R != R) = false := by simp
            have HT := Lib.hid (show sq1 R C xs = true by unfold sq1; rw [hf, decide_eq_true hc, decide_eq_true hs]; rfl)
            clear hf hc hs
            go_wp2_with fail
            have hSd : W.drew.cell? ⟨wr.heap.size, 0, none⟩ = some (.int .i64 R) ∧ W.drew.cell? ⟨wr.heap.size, 1, none⟩ = some (.int .i64 C) ∧ W.drew.cell? ⟨wr.heap.size, 2, none⟩ = some (.slice a xs.length cap) ∧ W.drew.cell? ⟨g, 0, none⟩ = some (.int .i64 R) := ⟨y0, y1, y2, y3⟩
            refine wp_regionJ (S := fun w' => w'.cell? ⟨wr.heap.size, 0, none⟩ = some (.int .i64 R) ∧ w'.cell? ⟨wr.heap.size, 1, none⟩ = some (.int .i64 C) ∧ w'.cell? ⟨wr.heap.size, 2, none⟩ = some (.slice a xs.length cap) ∧ w'.cell? ⟨g, 0, none⟩ = some (.int .i64 R)) (A := fun _ => true) (by kernel_rfl) ?_
            refine wpAnyJ_take (i := 0) (oi := { dst := some 11, op := .load _ (.tmp 4), type := _, pos := _, after := _, guard := _ }) (v := ?_) rfl (by kernel_rfl) (by kernel_rfl) (by kernel_rfl) (by kernel_rfl) (fun _ _ _ h => h) (Or.inl ⟨by rfl, ?_⟩) hSd ?_
            rotate_left
            · intro wl hSw
              obtain ⟨s0, s1, s2, s3⟩ := hSw
              go_simp
              with_reducible rfl
            simp only [Act.put, List.setIfInBounds_toArray, List.set_cons_zero, List.set_cons_succ]
            refine wpAnyJ_only (i := 1) (o := { dst := some 12, op := _, type := _, pos := _, after := _, guard := _ }) (by kernel_rfl) rfl (fun K hK => ?_)
            go_simp
            refine (Few03_any _ 6 R C _ xs HVd.out HS.out).mono ?_
            rintro e w4 ⟨u4, rfl, rfl, hb4⟩
            rw [HF.out]
            have hU4 := HU0.out.drew.call hb4
            have HV4 := Lib.hid (HVd.out.below hb4 (Nat.le_refl _))
            have hS4 := HH4.out w4 hU4
            refine hK.out _ _ (fun _ => hS4) ?_
            try simp only [Act.put, List.setIfInBounds_toArray, List.set_cons_zero, List.set_cons_succ]
            clear hK K
            refine wpAnyJ_take (i := 2) (oi := { dst := some 13, op := _, type := _, pos := _, after := _, guard := _ }) (v := ?_) rfl (by kernel_rfl) (by kernel_rfl) (by kernel_rfl) (by kernel_rfl) (fun _ _ _ h => h) (Or.inl ⟨by rfl, ?_⟩) hS4 ?_
            rotate_left
            · intro wl hSw
              obtain ⟨s0, s1, s2, s3⟩ := hSw
              go_simp
              with_reducible rfl
            simp only [Act.put, List.setIfInBounds_toArray, List.set_cons_zero, List.set_cons_succ]
            refine wpAnyJ_take (i := 3) (oi := { dst := some 14, op := .move (.tmp 13), type := _, pos := _, after := _, guard := _ }) (v := ?_) rfl (by kernel_rfl) (by kernel_rfl) (by kernel_rfl) (by kernel_rfl) (fun _ _ _ h => h) (Or.inl ⟨by rfl, ?_⟩) hS4 ?_
            rotate_left
            · intro wl hSw
              obtain ⟨s0, s1, s2, s3⟩ := hSw
              go_simp
              with_reducible rfl
            simp only [Act.put, List.setIfInBounds_toArray, List.set_cons_zero, List.set_cons_succ]
            refine wpAnyJ_take (i := 4) (oi := { dst := some 15, op := .load _ (.tmp 4), type := _, pos := _, after := _, guard := _ }) (v := ?_) rfl (by kernel_rfl) (by kernel_rfl) (by kernel_rfl) (by kernel_rfl) (fun _ _ _ h => h) (Or.inl ⟨by rfl, ?_⟩) hS4 ?_
            rotate_left
            · intro wl hSw
              obtain ⟨s0, s1, s2, s3⟩ := hSw
              go_simp
              with_reducible rfl
            simp only [Act.put, List.setIfInBounds_toArray, List.set_cons_zero, List.set_cons_succ]
            refine wpAnyJ_only (i := 5) (o := { dst := some 16, op := _, type := _, pos := _, after := _, guard := _ }) (by kernel_rfl) rfl (fun K hK => ?_)
            go_simp
            refine (rMCheck_any _ R C _ xs HV4.out (fun _ => H9.out.big (by omega))).mono ?_
            rintro e w5 ⟨u5, rfl, rfl, hb5⟩
            rw [HC.out]
            have hU5 := hU4.call hb5
            have hS5 := HH4.out w5 hU5
            refine hK.out _ _ (fun _ => hS5) ?_
            try simp only [Act.put, List.setIfInBounds_toArray, List.set_cons_zero, List.set_cons_succ]
            clear hK K
            refine wpAnyJ_take (i := 6) (oi := { dst := some 17, op := .binOp _ _ (.tmp 16) _ _, type := _, pos := _, after := _, guard := _ }) (v := ?_) rfl (by kernel_rfl) (by kernel_rfl) (by kernel_rfl) (by kernel_rfl) (fun _ _ _ h => h) (Or.inl ⟨by rfl, ?_⟩) hS5 ?_
            rotate_left
            · intro wl hSw
              obtain ⟨s0, s1, s2, s3⟩ := hSw
              go_simp
              with_reducible rfl
            simp only [Act.put, List.setIfInBounds_toArray, List.set_cons_zero, List.set_cons_succ]
            refine wpAnyJ_take (i := 7) (oi := { dst := some 18, op := _, type := _, pos := _, after := _, guard := _ }) (v := ?_) rfl (by kernel_rfl) (by kernel_rfl) (by kernel_rfl) (by kernel_rfl) (fun _ _ _ h => h) (Or.inl ⟨by rfl, ?_⟩) hS5 ?_
            rotate_left
            · intro wl hSw
              obtain ⟨s0, s1, s2, s3⟩ := hSw
              go_simp
              with_reducible rfl
            simp only [Act.put, List.setIfInBounds_toArray, List.set_cons_zero, List.set_cons_succ]
            refine wpAnyJ_take (i := 8) (oi := { dst := some 19, op := .move (.tmp 18), type := _, pos := _, after := _, guard := _ }) (v := ?_) rfl (by kernel_rfl) (by kernel_rfl) (by kernel_rfl) (by kernel_rfl) (fun _ _ _ h => h) (Or.inl ⟨by rfl, ?_⟩) hS5 ?_
            rotate_left
            · intro wl hSw
              obtain ⟨s0, s1, s2, s3⟩ := hSw
              go_simp
              with_reducible rfl
            simp only [Act.put, List.setIfInBounds_toArray, List.set_cons_zero, List.set_cons_succ]
            refine wpAnyJ_take (i := 9) (oi := { dst := some 20, op := .fieldAddr _ (.tmp 4) 0, type := _, pos := _, after := _, guard := _ }) (v := ?_) rfl (by kernel_rfl) (by kernel_rfl) (by kernel_rfl) (by kernel_rfl) (fun _ _ _ h => h) (Or.inl ⟨by rfl, ?_⟩) hS5 ?_
            rotate_left
            · intro wl hSw
              obtain ⟨s0, s1, s2, s3⟩ := hSw
              go_simp
              with_reducible rfl
            simp only [Act.put, List.setIfInBounds_toArray, List.set_cons_zero, List.set_cons_succ]
            refine wpAnyJ_take (i := 10) (oi := { dst := some 21, op := .load _ (.tmp 20), type := _, pos := _, after := _, guard := _ }) (v := ?_) rfl (by kernel_rfl) (by kernel_rfl) (by kernel_rfl) (by kernel_rfl) (fun _ _ _ h => h) (Or.inl ⟨by rfl, ?_⟩) hS5 ?_
            rotate_left
            · intro wl hSw
              obtain ⟨s0, s1, s2, s3⟩ := hSw
              go_simp
              with_reducible rfl
            simp only [Act.put, List.setIfInBounds_toArray, List.set_cons_zero, List.set_cons_succ]
            refine wpAnyJ_take (i := 11) (oi := { dst := some 22, op := .fieldAddr _ (.tmp 4) 1, type := _, pos := _, after := _, guard := _ }) (v := ?_) rfl (by kernel_rfl) (by kernel_rfl) (by kernel_rfl) (by kernel_rfl) (fun _ _ _ h => h) (Or.inl ⟨by rfl, ?_⟩) hS5 ?_
            rotate_left
            · intro wl hSw
              obtain ⟨s0, s1, s2, s3⟩ := hSw
              go_simp
              with_reducible rfl
            simp only [Act.put, List.setIfInBounds_toArray, List.set_cons_zero, List.set_cons_succ]
            refine wpAnyJ_take (i := 12) (oi := { dst := some 23, op := .load _ (.tmp 22), type := _, pos := _, after := _, guard := _ }) (v := ?_) rfl (by kernel_rfl) (by kernel_rfl) (by kernel_rfl) (by kernel_rfl) (fun _ _ _ h => h) (Or.inl ⟨by rfl, ?_⟩) hS5 ?_
            rotate_left
            · intro wl hSw
              obtain ⟨s0, s1, s2, s3⟩ := hSw
              go_simp
              with_reducible rfl
            simp only [Act.put, List.setIfInBounds_toArray, List.set_cons_zero, List.set_cons_succ]
            refine wpAnyJ_take (i := 13) (oi := { dst := some 24, op := .binOp _ _ (.tmp 21) (.tmp 23) _, type := _, pos := _, after := _, guard := _ }) (v := ?_) rfl (by kernel_rfl) (by kernel_rfl) (by kernel_rfl) (by kernel_rfl) (fun _ _ _ h => h) (Or.inl ⟨by rfl, ?_⟩) hS5 ?_
            rotate_left
            · intro wl hSw
              obtain ⟨s0, s1, s2, s3⟩ := hSw
              go_simp
              with_reducible rfl
            simp only [Act.put, List.setIfInBounds_toArray, List.set_cons_zero, List.set_cons_succ]
            refine wpAnyJ_take (i := 14) (oi := { dst := some 25, op := _, type := _, pos := _, after := _, guard := _ }) (v := ?_) rfl (by kernel_rfl) (by kernel_rfl) (by kernel_rfl) (by kernel_rfl) (fun _ _ _ h => h) (Or.inl ⟨by rfl, ?_⟩) hS5 ?_
            rotate_left
            · intro wl hSw
              obtain ⟨s0, s1, s2, s3⟩ := hSw
              go_simp
              with_reducible rfl
            simp only [Act.put, List.setIfInBounds_toArray, List.set_cons_zero, List.set_cons_succ]
            refine wpAnyJ_take (i := 15) (oi := { dst := some 26, op := .move (.tmp 25), type := _, pos := _, after := _, guard := _ }) (v := ?_) rfl (by kernel_rfl) (by kernel_rfl) (by kernel_rfl) (by kernel_rfl) (fun _ _ _ h => h) (Or.inl ⟨by rfl, ?_⟩) hS5 ?_
            rotate_left
            · intro wl hSw
              obtain ⟨s0, s1, s2, s3⟩ := hSw
              go_simp
              with_reducible rfl
            simp only [Act.put, List.setIfInBounds_toArray, List.set_cons_zero, List.set_cons_succ]
            refine wpAnyJ_take (i := 16) (oi := { dst := some 27, op := .fieldAddr _ (.tmp 4) 0, type := _, pos := _, after := _, guard := _ }) (v := ?_) rfl (by kernel_rfl) (by kernel_rfl) (by kernel_rfl) (by kernel_rfl) (fun _ _ _ h => h) (Or.inl ⟨by rfl, ?_⟩) hS5 ?_
            rotate_left
            · intro wl hSw
              obtain ⟨s0, s1, s2, s3⟩ := hSw
              go_simp
              with_reducible rfl
            simp only [Act.put, List.setIfInBounds_toArray, List.set_cons_zero, List.set_cons_succ]
            refine wpAnyJ_take (i := 17) (oi := { dst := some 28, op := .load _ (.tmp 27), type := _, pos := _, after := _, guard := _ }) (v := ?_) rfl (by kernel_rfl) (by kernel_rfl) (by kernel_rfl) (by kernel_rfl) (fun _ _ _ h => h) (Or.inl ⟨by rfl, ?_⟩) hS5 ?_
            rotate_left
            · intro wl hSw
              obtain ⟨s0, s1, s2, s3⟩ := hSw
              go_simp
              with_reducible rfl
            simp only [Act.put, List.setIfInBounds_toArray, List.set_cons_zero, List.set_cons_succ]
            refine wpAnyJ_take (i := 18) (oi := { dst := some 29, op := .move (.tmp 0), type := _, pos := _, after := _, guard := _ }) (v := ?_) rfl (by kernel_rfl) (by kernel_rfl) (by kernel_rfl) (by kernel_rfl) (fun _ _ _ h => h) (Or.inl ⟨by rfl, ?_⟩) hS5 ?_
            rotate_left
            · intro wl hSw
              obtain ⟨s0, s1, s2, s3⟩ := hSw
              go_simp
              with_reducible rfl
            simp only [Act.put, List.setIfInBounds_toArray, List.set_cons_zero, List.set_cons_succ]
            refine wpAnyJ_take (i := 19) (oi := { dst := some 30, op := .indexAddr _ (.tmp 29) _, type := _, pos := _, after := _, guard := _ }) (v := ?_) rfl (by kernel_rfl) (by kernel_rfl) (by kernel_rfl) (by kernel_rfl) (fun _ _ _ h => h) (Or.inl ⟨by rfl, ?_⟩) hS5 ?_
            rotate_left
            · intro wl hSw
              obtain ⟨s0, s1, s2, s3⟩ := hSw
              go_simp
              with_reducible rfl
            simp only [Act.put, List.setIfInBounds_toArray, List.set_cons_zero, List.set_cons_succ]
            refine wpAnyJ_take (i := 20) (oi := { dst := some 31, op := .fieldAddr _ (.tmp 30) 0, type := _, pos := _, after := _, guard := _ }) (v := ?_) rfl (by kernel_rfl) (by kernel_rfl) (by kernel_rfl) (by kernel_rfl) (fun _ _ _ h => h) (Or.inl ⟨by rfl, ?_⟩) hS5 ?_
            rotate_left
            · intro wl hSw
              obtain ⟨s0, s1, s2, s3⟩ := hSw
              go_simp
              with_reducible rfl
            simp only [Act.put, List.setIfInBounds_toArray, List.set_cons_zero, List.set_cons_succ]
            refine wpAnyJ_take (i := 21) (oi := { dst := some 32, op := .load _ (.tmp 31), type := _, pos := _, after := _, guard := _ }) (v := ?_) rfl (by kernel_rfl) (by kernel_rfl) (by kernel_rfl) (by kernel_rfl) (fun _ _ _ h => h) (Or.inl ⟨by rfl, ?_⟩) hS5 ?_
            rotate_left
            · intro wl hSw
              obtain ⟨s0, s1, s2, s3⟩ := hSw
              go_simp
              with_reducible rfl
            simp only [Act.put, List.setIfInBounds_toArray, List.set_cons_zero, List.set_cons_succ]
            refine wpAnyJ_take (i := 22) (oi := { dst := some 33, op := .binOp _ _ (.tmp 28) (.tmp 32) _, type := _, pos := _, after := _, guard := _ }) (v := ?_) rfl (by kernel_rfl) (by kernel_rfl) (by kernel_rfl) (by kernel_rfl) (fun _ _ _ h => h) (Or.inl ⟨by rfl, ?_⟩) hS5 ?_
            rotate_left
            · intro wl hSw
              obtain ⟨s0, s1, s2, s3⟩ := hSw
              go_simp
              with_reducible rfl
            simp only [Act.put, List.setIfInBounds_toArray, List.set_cons_zero, List.set_cons_succ]
            refine wpAnyJ_take (i := 23) (oi := { dst := some 34, op := _, type := _, pos := _, after := _, guard := _ }) (v := ?_) rfl (by kernel_rfl) (by kernel_rfl) (by kernel_rfl) (by kernel_rfl) (fun _ _ _ h => h) (Or.inl ⟨by rfl, ?_⟩) hS5 ?_
            rotate_left
            · intro wl hSw
              obtain ⟨s0, s1, s2, s3⟩ := hSw
              go_simp
              with_reducible rfl
            simp only [Act.put, List.setIfInBounds_toArray, List.set_cons_zero, List.set_cons_succ]
            refine wpAnyJ_done (by kernel_rfl) ?_ _
            go_wp2_with fail
            go_roundw
            case rel => exact ⟨1, by omega, by go_num, Lib.hid (fun _ => HT.out), HBT.out.trans ((Up.bel hU5).mono HBT.out.size)⟩
            case measure => simp [intOf]
          · have hne1 : (R != C) = true := by simp [hs]
            have HQ := Lib.hid (show sq1 R C xs = false by unfold sq1; simp [hs])
            clear hf hc hs
            go_wp2_with fail
            have hSd : W.drew.cell? ⟨wr.heap.size, 0, none⟩ = some (.int .i64 R) ∧ W.drew.cell? ⟨wr.heap.size, 1, none⟩ = some (.int .i64 C) ∧ W.drew.cell? ⟨wr.heap.size, 2, none⟩ = some (.slice a xs.length cap) ∧ W.drew.cell? ⟨g, 0, none⟩ = some (.int .i64 R) := ⟨y0, y1, y2, y3⟩
            refine wp_regionJ (S := fun w' => w'.cell? ⟨wr.heap.size, 0, none⟩ = some (.int .i64 R) ∧ w'.cell? ⟨wr.heap.size, 1, none⟩ = some (.int .i64 C) ∧ w'.cell? ⟨wr.heap.size, 2, none⟩ = some (.slice a xs.length cap) ∧ w'.cell? ⟨g, 0, none⟩ = some (.int .i64 R)) (A := fun _ => true) (by kernel_rfl) ?_
            refine wpAnyJ_take (i := 0) (oi := { dst := some 11, op := .load _ (.tmp 4), type := _, pos := _, after := _, guard := _ }) (v := ?_) rfl (by kernel_rfl) (by kernel_rfl) (by kernel_rfl) (by kernel_rfl) (fun _ _ _ h => h) (Or.inl ⟨by rfl, ?_⟩) hSd ?_
            rotate_left
            · intro wl hSw
              obtain ⟨s0, s1, s2, s3⟩ := hSw
              go_simp
              with_reducible rfl
            simp only [Act.put, List.setIfInBounds_toArray, List.set_cons_zero, List.set_cons_succ]
            refine wpAnyJ_only (i := 1) (o := { dst := some 12, op := _, type := _, pos := _, after := _, guard := _ }) (by kernel_rfl) rfl (fun K hK => ?_)
            go_simp
            refine (Few03_any _ 6 R C _ xs HVd.out HS.out).mono ?_
            rintro e w4 ⟨u4, rfl, rfl, hb4⟩
            rw [HF.out]
            have hU4 := HU0.out.drew.call hb4
            have HV4 := Lib.hid (HVd.out.below hb4 (Nat.le_refl _))
            have hS4 := HH4.out w4 hU4
            refine hK.out _ _ (fun _ => hS4) ?_
            try simp only [Act.put, List.setIfInBounds_toArray, List.set_cons_zero, List.set_cons_succ]
            clear hK K
            refine wpAnyJ_take (i := 2) (oi := { dst := some 13, op := _, type := _, pos := _, after := _, guard := _ }) (v := ?_) rfl (by kernel_rfl) (by kernel_rfl) (by kernel_rfl) (by kernel_rfl) (fun _ _ _ h => h) (Or.inl ⟨by rfl, ?_⟩) hS4 ?_
            rotate_left
            · intro wl hSw
              obtain ⟨s0, s1, s2, s3⟩ := hSw
              go_simp
              with_reducible rfl
            simp only [Act.put, List.setIfInBounds_toArray, List.set_cons_zero, List.set_cons_succ]
            refine wpAnyJ_take (i := 3) (oi := { dst := some 14, op := .move (.tmp 13), type := _, pos := _, after := _, guard := _ }) (v := ?_) rfl (by kernel_rfl) (by kernel_rfl) (by kernel_rfl) (by kernel_rfl) (fun _ _ _ h => h) (Or.inl ⟨by rfl, ?_⟩) hS4 ?_
            rotate_left
            · intro wl hSw
              obtain ⟨s0, s1, s2, s3⟩ := hSw
              go_simp
              with_reducible rfl
            simp only [Act.put, List.setIfInBounds_toArray, List.set_cons_zero, List.set_cons_succ]
            refine wpAnyJ_take (i := 4) (oi := { dst := some 15, op := .load _ (.tmp 4), type := _, pos := _, after := _, guard := _ }) (v := ?_) rfl (by kernel_rfl) (by kernel_rfl) (by kernel_rfl) (by kernel_rfl) (fun _ _ _ h => h) (Or.inl ⟨by rfl, ?_⟩) hS4 ?_
            rotate_left
            · intro wl hSw
              obtain ⟨s0, s1, s2, s3⟩ := hSw
              go_simp
              with_reducible rfl
            simp only [Act.put, List.setIfInBounds_toArray, List.set_cons_zero, List.set_cons_succ]
            refine wpAnyJ_only (i := 5) (o := { dst := some 16, op := _, type := _, pos := _, after := _, guard := _ }) (by kernel_rfl) rfl (fun K hK => ?_)
            go_simp
            refine (rMCheck_any _ R C _ xs HV4.out (fun _ => H9.out.big (by omega))).mono ?_
            rintro e w5 ⟨u5, rfl, rfl, hb5⟩
            rw [HC.out]
            have hU5 := hU4.call hb5
            have hS5 := HH4.out w5 hU5
            refine hK.out _ _ (fun _ => hS5) ?_
            try simp only [Act.put, List.setIfInBounds_toArray, List.set_cons_zero, List.set_cons_succ]
            clear hK K
            refine wpAnyJ_take (i := 6) (oi := { dst := some 17, op := .binOp _ _ (.tmp 16) _ _, type := _, pos := _, after := _, guard := _ }) (v := ?_) rfl (by kernel_rfl) (by kernel_rfl) (by kernel_rfl) (by kernel_rfl) (fun _ _ _ h => h) (Or.inl ⟨by rfl, ?_⟩) hS5 ?_
            rotate_left
            · intro wl hSw
              obtain ⟨s0, s1, s2, s3⟩ := hSw
              go_simp
              with_reducible rfl
            simp only [Act.put, List.setIfInBounds_toArray, List.set_cons_zero, List.set_cons_succ]
            refine wpAnyJ_take (i := 7) (oi := { dst := some 18, op := _, type := _, pos := _, after := _, guard := _ }) (v := ?_) rfl (by kernel_rfl) (by kernel_rfl) (by kernel_rfl) (by kernel_rfl) (fun _ _ _ h => h) (Or.inl ⟨by rfl, ?_⟩) hS5 ?_
            rotate_left
            · intro wl hSw
              obtain ⟨s0, s1, s2, s3⟩ := hSw
              go_simp
              with_reducible rfl
            simp only [Act.put, List.setIfInBounds_toArray, List.set_cons_zero, List.set_cons_succ]
            refine wpAnyJ_take (i := 8) (oi := { dst := some 19, op := .move (.tmp 18), type := _, pos := _, after := _, guard := _ }) (v := ?_) rfl (by kernel_rfl) (by kernel_rfl) (by kernel_rfl) (by kernel_rfl) (fun _ _ _ h => h) (Or.inl ⟨by rfl, ?_⟩) hS5 ?_
            rotate_left
            · intro wl hSw
              obtain ⟨s0, s1, s2, s3⟩ := hSw
              go_simp
              with_reducible rfl
            simp only [Act.put, List.setIfInBounds_toArray, List.set_cons_zero, List.set_cons_succ]
            refine wpAnyJ_take (i := 9) (oi := { dst := some 20, op := .fieldAddr _ (.tmp 4) 0, type := _, pos := _, after := _, guard := _ }) (v := ?_) rfl (by kernel_rfl) (by kernel_rfl) (by kernel_rfl) (by kernel_rfl) (fun _ _ _ h => h) (Or.inl ⟨by rfl, ?_⟩) hS5 ?_
            rotate_left
            · intro wl hSw
              obtain ⟨s0, s1, s2, s3⟩ := hSw
              go_simp
              with_reducible rfl
            simp only [Act.put, List.setIfInBounds_toArray, List.set_cons_zero, List.set_cons_succ]
            refine wpAnyJ_take (i := 10) (oi := { dst := some 21, op := .load _ (.tmp 20), type := _, pos := _, after := _, guard := _ }) (v := ?_) rfl (by kernel_rfl) (by kernel_rfl) (by kernel_rfl) (by kernel_rfl) (fun _ _ _ h => h) (Or.inl ⟨by rfl, ?_⟩) hS5 ?_
            rotate_left
            · intro wl hSw
              obtain ⟨s0, s1, s2, s3⟩ := hSw
              go_simp
              with_reducible rfl
            simp only [Act.put, List.setIfInBounds_toArray, List.set_cons_zero, List.set_cons_succ]
            refine wpAnyJ_take (i := 11) (oi := { dst := some 22, op := .fieldAddr _ (.tmp 4) 1, type := _, pos := _, after := _, guard := _ }) (v := ?_) rfl (by kernel_rfl) (by kernel_rfl) (by kernel_rfl) (by kernel_rfl) (fun _ _ _ h => h) (Or.inl ⟨by rfl, ?_⟩) hS5 ?_
            rotate_left
            · intro wl hSw
              obtain ⟨s0, s1, s2, s3⟩ := hSw
              go_simp
              with_reducible rfl
            simp only [Act.put, List.setIfInBounds_toArray, List.set_cons_zero, List.set_cons_succ]
            refine wpAnyJ_take (i := 12) (oi := { dst := some 23, op := .load _ (.tmp 22), type := _, pos := _, after := _, guard := _ }) (v := ?_) rfl (by kernel_rfl) (by kernel_rfl) (by kernel_rfl) (by kernel_rfl) (fun _ _ _ h => h) (Or.inl ⟨by rfl, ?_⟩) hS5 ?_
            rotate_left
            · intro wl hSw
              obtain ⟨s0, s1, s2, s3⟩ := hSw
              go_simp
              with_reducible rfl
            simp only [Act.put, List.setIfInBounds_toArray, List.set_cons_zero, List.set_cons_succ]
            refine wpAnyJ_take (i := 13) (oi := { dst := some 24, op := .binOp _ _ (.tmp 21) (.tmp 23) _, type := _, pos := _, after := _, guard := _ }) (v := ?_) rfl (by kernel_rfl) (by kernel_rfl) (by kernel_rfl) (by kernel_rfl) (fun _ _ _ h => h) (Or.inl ⟨by rfl, ?_⟩) hS5 ?_
            rotate_left
            · intro wl hSw
              obtain ⟨s0, s1, s2, s3⟩ := hSw
              go_simp
              with_reducible rfl
            simp only [Act.put, List.setIfInBounds_toArray, List.set_cons_zero, List.set_cons_succ]
            refine wpAnyJ_take (i := 14) (oi := { dst := some 25, op := _, type := _, pos := _, after := _, guard := _ }) (v := ?_) rfl (by kernel_rfl) (by kernel_rfl) (by kernel_rfl) (by kernel_rfl) (fun _ _ _ h => h) (Or.inl ⟨by rfl, ?_⟩) hS5 ?_
            rotate_left
            · intro wl hSw
              obtain ⟨s0, s1, s2, s3⟩ := hSw
              go_simp
              with_reducible rfl
            simp only [Act.put, List.setIfInBounds_toArray, List.set_cons_zero, List.set_cons_succ]
            refine wpAnyJ_take (i := 15) (oi := { dst := some 26, op := .move (.tmp 25), type := _, pos := _, after := _, guard := _ }) (v := ?_) rfl (by kernel_rfl) (by kernel_rfl) (by kernel_rfl) (by kernel_rfl) (fun _ _ _ h => h) (Or.inl ⟨by rfl, ?_⟩) hS5 ?_
            rotate_left
            · intro wl hSw
              obtain ⟨s0, s1, s2, s3⟩ := hSw
              go_simp
              with_reducible rfl
            simp only [Act.put, List.setIfInBounds_toArray, List.set_cons_zero, List.set_cons_succ]
            refine wpAnyJ_take (i := 16) (oi := { dst := some 27, op := .fieldAddr _ (.tmp 4) 0, type := _, pos := _, after := _, guard := _ }) (v := undef) rfl (by kernel_rfl) (by kernel_rfl) (by kernel_rfl) (by kernel_rfl) (fun _ _ _ h => h) (Or.inr ⟨by rfl, rfl⟩) hS5 ?_
            simp only [Act.put, List.setIfInBounds_toArray, List.set_cons_zero, List.set_cons_succ]
            refine wpAnyJ_take (i := 17) (oi := { dst := some 28, op := .load _ (.tmp 27), type := _, pos := _, after := _, guard := _ }) (v := undef) rfl (by kernel_rfl) (by kernel_rfl) (by kernel_rfl) (by kernel_rfl) (fun _ _ _ h => h) (Or.inr ⟨by rfl, rfl⟩) hS5 ?_
            simp only [Act.put, List.setIfInBounds_toArray, List.set_cons_zero, List.set_cons_succ]
            refine wpAnyJ_take (i := 18) (oi := { dst := some 29, op := .move (.tmp 0), type := _, pos := _, after := _, guard := _ }) (v := undef) rfl (by kernel_rfl) (by kernel_rfl) (by kernel_rfl) (by kernel_rfl) (fun _ _ _ h => h) (Or.inr ⟨by rfl, rfl⟩) hS5 ?_
            simp only [Act.put, List.setIfInBounds_toArray, List.set_cons_zero, List.set_cons_succ]
            refine wpAnyJ_take (i := 19) (oi := { dst := some 30, op := .indexAddr _ (.tmp 29) _, type := _, pos := _, after := _, guard := _ }) (v := undef) rfl (by kernel_rfl) (by kernel_rfl) (by kernel_rfl) (by kernel_rfl) (fun _ _ _ h => h) (Or.inr ⟨by rfl, rfl⟩) hS5 ?_
            simp only [Act.put, List.setIfInBounds_toArray, List.set_cons_zero, List.set_cons_succ]
            refine wpAnyJ_take (i := 20) (oi := { dst := some 31, op := .fieldAddr _ (.tmp 30) 0, type := _, pos := _, after := _, guard := _ }) (v := undef) rfl (by kernel_rfl) (by kernel_rfl) (by kernel_rfl) (by kernel_rfl) (fun _ _ _ h => h) (Or.inr ⟨by rfl, rfl⟩) hS5 ?_
            simp only [Act.put, List.setIfInBounds_toArray, List.set_cons_zero, List.set_cons_succ]
            refine wpAnyJ_take (i := 21) (oi := { dst := some 32, op := .load _ (.tmp 31), type := _, pos := _, after := _, guard := _ }) (v := undef) rfl (by kernel_rfl) (by kernel_rfl) (by kernel_rfl) (by kernel_rfl) (fun _ _ _ h => h) (Or.inr ⟨by rfl, rfl⟩) hS5 ?_
            simp only [Act.put, List.setIfInBounds_toArray, List.set_cons_zero, List.set_cons_succ]
            refine wpAnyJ_take (i := 22) (oi := { dst := some 33, op := .binOp _ _ (.tmp 28) (.tmp 32) _, type := _, pos := _, after := _, guard := _ }) (v := undef) rfl (by kernel_rfl) (by kernel_rfl) (by kernel_rfl) (by kernel_rfl) (fun _ _ _ h => h) (Or.inr ⟨by rfl, rfl⟩) hS5 ?_
            simp only [Act.put, List.setIfInBounds_toArray, List.set_cons_zero, List.set_cons_succ]
            refine wpAnyJ_take (i := 23) (oi := { dst := some 34, op := _, type := _, pos := _, after := _, guard := _ }) (v := ?_) rfl (by kernel_rfl) (by kernel_rfl) (by kernel_rfl) (by kernel_rfl) (fun _ _ _ h => h) (Or.inl ⟨by rfl, ?_⟩) hS5 ?_
            rotate_left
            · intro wl hSw
              obtain ⟨s0, s1, s2, s3⟩ := hSw
              go_simp
              with_reducible rfl
            simp only [Act.put, List.setIfInBounds_toArray, List.set_cons_zero, List.set_cons_succ]
            refine wpAnyJ_done (by kernel_rfl) ?_ _
            go_wp2_with fail
            go_ret
            exact ⟨_, rfl, by rw [HQ.out]; rfl, HBT.out.trans ((Up.bel hU5).mono HBT.out.size)⟩
        · have hne0 : (mchkM R C xs != 0) = true := by simp [hc]
          have HQ := Lib.hid (show sq1 R C xs = false by unfold sq1; simp [hc])
          clear hf hc
          go_wp2_with fail
          have hSd : W.drew.cell? ⟨wr.heap.size, 0, none⟩ = some (.int .i64 R) ∧ W.drew.cell? ⟨wr.heap.size, 1, none⟩ = some (.int .i64 C) ∧ W.drew.cell? ⟨wr.heap.size, 2, none⟩ = some (.slice a xs.length cap) ∧ W.drew.cell? ⟨g, 0, none⟩ = some (.int .i64 R) := ⟨y0, y1, y2, y3⟩
          refine wp_regionJ (S := fun w' => w'.cell? ⟨wr.heap.size, 0, none⟩ = some (.int .i64 R) ∧ w'.cell? ⟨wr.heap.size, 1, none⟩ = some (.int .i64 C) ∧ w'.cell? ⟨wr.heap.size, 2, none⟩ = some (.slice a xs.length cap) ∧ w'.cell? ⟨g, 0, none⟩ = some (.int .i64 R)) (A := fun _ => true) (by kernel_rfl) ?_
          refine wpAnyJ_take (i := 0) (oi := { dst := some 11, op := .load _ (.tmp 4), type := _, pos := _, after := _, guard := _ }) (v := ?_) rfl (by kernel_rfl) (by kernel_rfl) (by kernel_rfl) (by kernel_rfl) (fun _ _ _ h => h) (Or.inl ⟨by rfl, ?_⟩) hSd ?_
          rotate_left
          · intro wl hSw
            obtain ⟨s0, s1, s2, s3⟩ := hSw
            go_simp
            with_reducible rfl
          simp only [Act.put, List.setIfInBounds_toArray, List.set_cons_zero, List.set_cons_succ]
          refine wpAnyJ_only (i := 1) (o := { dst := some 12, op := _, type := _, pos := _, after := _, guard := _ }) (by kernel_rfl) rfl (fun K hK => ?_)
          go_simp
          refine (Few03_any _ 6 R C _ xs HVd.out HS.out).mono ?_
          rintro e w4 ⟨u4, rfl, rfl, hb4⟩
          rw [HF.out]
          have hU4 := HU0.out.drew.call hb4
          have HV4 := Lib.hid (HVd.out.below hb4 (Nat.le_refl _))
          have hS4 := HH4.out w4 hU4
          refine hK.out _ _ (fun _ => hS4) ?_
          try simp only [Act.put, List.setIfInBounds_toArray, List.set_cons_zero, List.set_cons_succ]
          clear hK K
          refine wpAnyJ_take (i := 2) (oi := { dst := some 13, op := _, type := _, pos := _, after := _, guard := _ }) (v := ?_) rfl (by kernel_rfl) (by kernel_rfl) (by kernel_rfl) (by kernel_rfl) (fun _ _ _ h => h) (Or.inl ⟨by rfl, ?_⟩) hS4 ?_
          rotate_left
          · intro wl hSw
            obtain ⟨s0, s1, s2, s3⟩ := hSw
            go_simp
            with_reducible rfl
          simp only [Act.put, List.setIfInBounds_toArray, List.set_cons_zero, List.set_cons_succ]
          refine wpAnyJ_take (i := 3) (oi := { dst := some 14, op := .move (.tmp 13), type := _, pos := _, after := _, guard := _ }) (v := ?_) rfl (by kernel_rfl) (by kernel_rfl) (by kernel_rfl) (by kernel_rfl) (fun _ _ _ h => h) (Or.inl ⟨by rfl, ?_⟩) hS4 ?_
          rotate_left
          · intro wl hSw
            obtain ⟨s0, s1, s2, s3⟩ := hSw
            go_simp
            with_reducible rfl
          simp only [Act.put, List.setIfInBounds_toArray, List.set_cons_zero, List.set_cons_succ]
          refine wpAnyJ_take (i := 4) (oi := { dst := some 15, op := .load _ (.tmp 4), type := _, pos := _, after := _, guard := _ }) (v := ?_) rfl (by kernel_rfl) (by kernel_rfl) (by kernel_rfl) (by kernel_rfl) (fun _ _ _ h => h) (Or.inl ⟨by rfl, ?_⟩) hS4 ?_
          rotate_left
          · intro wl hSw
            obtain ⟨s0, s1, s2, s3⟩ := hSw
            go_simp
            with_reducible rfl
          simp only [Act.put, List.setIfInBounds_toArray, List.set_cons_zero, List.set_cons_succ]
          refine wpAnyJ_only (i := 5) (o := { dst := some 16, op := _, type := _, pos := _, after := _, guard := _ }) (by kernel_rfl) rfl (fun K hK => ?_)
          go_simp
          refine (rMCheck_any _ R C _ xs HV4.out (fun _ => H9.out.big (by omega))).mono ?_
          rintro e w5 ⟨u5, rfl, rfl, hb5⟩
          have hU5 := hU4.call hb5
          have hS5 := HH4.out w5 hU5
          refine hK.out _ _ (fun _ => hS5) ?_
          try simp only [Act.put, List.setIfInBounds_toArray, List.set_cons_zero, List.set_cons_succ]
          clear hK K
          refine wpAnyJ_take (i := 6) (oi := { dst := some 17, op := .binOp _ _ (.tmp 16) _ _, type := _, pos := _, after := _, guard := _ }) (v := ?_) rfl (by kernel_rfl) (by kernel_rfl) (by kernel_rfl) (by kernel_rfl) (fun _ _ _ h => h) (Or.inl ⟨by rfl, ?_⟩) hS5 ?_
          rotate_left
          · intro wl hSw
            obtain ⟨s0, s1, s2, s3⟩ := hSw
            go_simp
            with_reducible rfl
          simp only [Act.put, List.setIfInBounds_toArray, List.set_cons_zero, List.set_cons_succ]
          refine wpAnyJ_take (i := 7) (oi := { dst := some 18, op := _, type := _, pos := _, after := _, guard := _ }) (v := ?_) rfl (by kernel_rfl) (by kernel_rfl) (by kernel_rfl) (by kernel_rfl) (fun _ _ _ h => h) (Or.inl ⟨by rfl, ?_⟩) hS5 ?_
          rotate_left
          · intro wl hSw
            obtain ⟨s0, s1, s2, s3⟩ := hSw
            go_simp
            with_reducible rfl
          simp only [Act.put, List.setIfInBounds_toArray, List.set_cons_zero, List.set_cons_succ]
          refine wpAnyJ_take (i := 8) (oi := { dst := some 19, op := .move (.tmp 18), type := _, pos := _, after := _, guard := _ }) (v := ?_) rfl (by kernel_rfl) (by kernel_rfl) (by kernel_rfl) (by kernel_rfl) (fun _ _ _ h => h) (Or.inl ⟨by rfl, ?_⟩) hS5 ?_
          rotate_left
          · intro wl hSw
            obtain ⟨s0, s1, s2, s3⟩ := hSw
            go_simp
            with_reducible rfl
          simp only [Act.put, List.setIfInBounds_toArray, List.set_cons_zero, List.set_cons_succ]
          refine wpAnyJ_take (i := 9) (oi := { dst := some 20, op := .fieldAddr _ (.tmp 4) 0, type := _, pos := _, after := _, guard := _ }) (v := undef) rfl (by kernel_rfl) (by kernel_rfl) (by kernel_rfl) (by kernel_rfl) (fun _ _ _ h => h) (Or.inr ⟨by rfl, rfl⟩) hS5 ?_
          simp only [Act.put, List.setIfInBounds_toArray, List.set_cons_zero, List.set_cons_succ]
          refine wpAnyJ_take (i := 10) (oi := { dst := some 21, op := .load _ (.tmp 20), type := _, pos := _, after := _, guard := _ }) (v := undef) rfl (by kernel_rfl) (by kernel_rfl) (by kernel_rfl) (by kernel_rfl) (fun _ _ _ h => h) (Or.inr ⟨by rfl, rfl⟩) hS5 ?_
          simp only [Act.put, List.setIfInBounds_toArray, List.set_cons_zero, List.set_cons_succ]
          refine wpAnyJ_take (i := 11) (oi := { dst := some 22, op := .fieldAddr _ (.tmp 4) 1, type := _, pos := _, after := _, guard := _ }) (v := undef) rfl (by kernel_rfl) (by kernel_rfl) (by kernel_rfl) (by kernel_rfl) (fun _ _ _ h => h) (Or.inr ⟨by rfl, rfl⟩) hS5 ?_
          simp only [Act.put, List.setIfInBounds_toArray, List.set_cons_zero, List.set_cons_succ]
          refine wpAnyJ_take (i := 12) (oi := { dst := some 23, op := .load _ (.tmp 22), type := _, pos := _, after := _, guard := _ }) (v := undef) rfl (by kernel_rfl) (by kernel_rfl) (by kernel_rfl) (by kernel_rfl) (fun _ _ _ h => h) (Or.inr ⟨by rfl, rfl⟩) hS5 ?_
          simp only [Act.put, List.setIfInBounds_toArray, List.set_cons_zero, List.set_cons_succ]
          refine wpAnyJ_take (i := 13) (oi := { dst := some 24, op := .binOp _ _ (.tmp 21) (.tmp 23) _, type := _, pos := _, after := _, guard := _ }) (v := undef) rfl (by kernel_rfl) (by kernel_rfl) (by kernel_rfl) (by kernel_rfl) (fun _ _ _ h => h) (Or.inr ⟨by rfl, rfl⟩) hS5 ?_
          simp only [Act.put, List.setIfInBounds_toArray, List.set_cons_zero, List.set_cons_succ]
          refine wpAnyJ_take (i := 14) (oi := { dst := some 25, op := _, type := _, pos := _, after := _, guard := _ }) (v := ?_) rfl (by kernel_rfl) (by kernel_rfl) (by kernel_rfl) (by kernel_rfl) (fun _ _ _ h => h) (Or.inl ⟨by rfl, ?_⟩) hS5 ?_
          rotate_left
          · intro wl hSw
            obtain ⟨s0, s1, s2, s3⟩ := hSw
            go_simp
            with_reducible rfl
          simp only [Act.put, List.setIfInBounds_toArray, List.set_cons_zero, List.set_cons_succ]
          refine wpAnyJ_take (i := 15) (oi := { dst := some 26, op := .move (.tmp 25), type := _, pos := _, after := _, guard := _ }) (v := ?_) rfl (by kernel_rfl) (by kernel_rfl) (by kernel_rfl) (by kernel_rfl) (fun _ _ _ h => h) (Or.inl ⟨by rfl, ?_⟩) hS5 ?_
          rotate_left
          · intro wl hSw
            obtain ⟨s0, s1, s2, s3⟩ := hSw
            go_simp
            with_reducible rfl
          simp only [Act.put, List.setIfInBounds_toArray, List.set_cons_zero, List.set_cons_succ]
          refine wpAnyJ_take (i := 16) (oi := { dst := some 27, op := .fieldAddr _ (.tmp 4) 0, type := _, pos := _, after := _, guard := _ }) (v := undef) rfl (by kernel_rfl) (by kernel_rfl) (by kernel_rfl) (by kernel_rfl) (fun _ _ _ h => h) (Or.inr ⟨by rfl, rfl⟩) hS5 ?_
          simp only [Act.put, List.setIfInBounds_toArray, List.set_cons_zero, List.set_cons_succ]
          refine wpAnyJ_take (i := 17) (oi := { dst := some 28, op := .load _ (.tmp 27), type := _, pos := _, after := _, guard := _ }) (v := undef) rfl (by kernel_rfl) (by kernel_rfl) (by kernel_rfl) (by kernel_rfl) (fun _ _ _ h => h) (Or.inr ⟨by rfl, rfl⟩) hS5 ?_
          simp only [Act.put, List.setIfInBounds_toArray, List.set_cons_zero, List.set_cons_succ]
          refine wpAnyJ_take (i := 18) (oi := { dst := some 29, op := .move (.tmp 0), type := _, pos := _, after := _, guard := _ }) (v := undef) rfl (by kernel_rfl) (by kernel_rfl) (by kernel_rfl) (by kernel_rfl) (fun _ _ _ h => h) (Or.inr ⟨by rfl, rfl⟩) hS5 ?_
          simp only [Act.put, List.setIfInBounds_toArray, List.set_cons_zero, List.set_cons_succ]
          refine wpAnyJ_take (i := 19) (oi := { dst := some 30, op := .indexAddr _ (.tmp 29) _, type := _, pos := _, after := _, guard := _ }) (v := undef) rfl (by kernel_rfl) (by kernel_rfl) (by kernel_rfl) (by kernel_rfl) (fun _ _ _ h => h) (Or.inr ⟨by rfl, rfl⟩) hS5 ?_
          simp only [Act.put, List.setIfInBounds_toArray, List.set_cons_zero, List.set_cons_succ]
          refine wpAnyJ_take (i := 20) (oi := { dst := some 31, op := .fieldAddr _ (.tmp 30) 0, type := _, pos := _, after := _, guard := _ }) (v := undef) rfl (by kernel_rfl) (by kernel_rfl) (by kernel_rfl) (by kernel_rfl) (fun _ _ _ h => h) (Or.inr ⟨by rfl, rfl⟩) hS5 ?_
          simp only [Act.put, List.setIfInBounds_toArray, List.set_cons_zero, List.set_cons_succ]
          refine wpAnyJ_take (i := 21) (oi := { dst := some 32, op := .load _ (.tmp 31), type := _, pos := _, after := _, guard := _ }) (v := undef) rfl (by kernel_rfl) (by kernel_rfl) (by kernel_rfl) (by kernel_rfl) (fun _ _ _ h => h) (Or.inr ⟨by rfl, rfl⟩) hS5 ?_
          simp only [Act.put, List.setIfInBounds_toArray, List.set_cons_zero, List.set_cons_succ]
          refine wpAnyJ_take (i := 22) (oi := { dst := some 33, op := .binOp _ _ (.tmp 28) (.tmp 32) _, type := _, pos := _, after := _, guard := _ }) (v := undef) rfl (by kernel_rfl) (by kernel_rfl) (by kernel_rfl) (by kernel_rfl) (fun _ _ _ h => h) (Or.inr ⟨by rfl, rfl⟩) hS5 ?_
          simp only [Act.put, List.setIfInBounds_toArray, List.set_cons_zero, List.set_cons_succ]
          refine wpAnyJ_take (i := 23) (oi := { dst := some 34, op := _, type := _, pos := _, after := _, guard := _ }) (v := ?_) rfl (by kernel_rfl) (by kernel_rfl) (by kernel_rfl) (by kernel_rfl) (fun _ _ _ h => h) (Or.inl ⟨by rfl, ?_⟩) hS5 ?_
          rotate_left
          · intro wl hSw
            obtain ⟨s0, s1, s2, s3⟩ := hSw
            go_simp
            with_reducible rfl
          simp only [Act.put, List.setIfInBounds_toArray, List.set_cons_zero, List.set_cons_succ]
          refine wpAnyJ_done (by kernel_rfl) ?_ _
          go_wp2_with fail
          go_ret
          exact ⟨_, rfl, by rw [HQ.out]; rfl, HBT.out.trans ((Up.bel hU5).mono HBT.out.size)⟩
    · have HQ := Lib.hid (hA.out (Nat.le_refl _))
      go_wp2
      go_ret
      exact ⟨_, rfl, by rw [HQ.out]; rfl, hb⟩
set_option maxHeartbeats 8000000 in
theorem square2_any (w : World) (g : Nat) (R C R' C' : Int) (v u : Value) (xs ys : List ByteArray) (hk : Blk w g [.int .i64 R, .int .i64 C, v, .int .i64 R', .int .i64 C', u] 24) (hv : Sl eS w v xs) (hu : Sl eS w u ys) (hsz : ∀ s ∈ xs, s.size ≤ 9223372036854775807) (hsz' : ∀ s ∈ ys, s.size ≤ 9223372036854775807) :
    Calls Tryz.prog 18 #[.slice (some ⟨g, 0, none⟩) 2 2] w (Rets fun r w' => r = .bool (sq1 R C xs && (sq1 R' C' ys && decide (R' = R))) ∧ Below w.heap.size w w') := by
  have HV := Lib.hid hv; have HU := Lib.hid hu; have HS := Lib.hid hsz; have HS' := Lib.hid hsz'; have HKL := Lib.hid hk
  obtain ⟨a, cap, rfl⟩ := sl_form hv
  obtain ⟨a', cap', rfl⟩ := sl_form hu
  clear hv hu hsz hsz' hk
  obtain ⟨QQ, hQQ⟩ : ∃ q, (sq1 R C xs && (sq1 R' C' ys && decide (R' = R))) = q := ⟨_, rfl⟩
  have HQQ := Lib.hid hQQ
  rw [hQQ]
  clear hQQ
  go_enter Tryz.func18, Tryz.ntmps18
  go_wp2
  go_loopw [7] (fun i wr => ∃ q : Nat, q ≤ 2 ∧ i = .int .i64 q ∧ Hid (1 ≤ q → sq1 R C xs = true) ∧ Hid (2 ≤ q → sq1 R' C' ys = true ∧ R' = R) ∧ Below w.heap.size w wr) (fun i _ => 2 - (intOf i).toNat)
  case atStart => exact ⟨0, Nat.zero_le _, rfl, Lib.hid (by omega), Lib.hid (by omega), Below.refl _ _⟩
  case round =>
    obtain ⟨q, hq, rfl, hA, hB, hb⟩ := hrel
    have hkr := HKL.out.below hb (Nat.le_refl _)
    have c0 := hkr.cell 0 _ rfl; have c1 := hkr.cell 1 _ rfl; have c2 := hkr.cell 2 _ rfl; have c3 := hkr.cell 3 _ rfl; have c4 := hkr.cell 4 _ rfl; have c5 := hkr.cell 5 _ rfl
    clear hkr
    rcases (show q = 0 ∨ q = 1 ∨ q = 2 by omega) with rfl | rfl | rfl
    · obtain ⟨W, hWW⟩ : ∃ W, wr.alloc (.cells #[.int .i64 R, .int .i64 C, .slice a xs.length cap] 24) = W := ⟨_, rfl⟩
      have HBT := Lib.hid (show Below w.heap.size w W by rw [← hWW]; exact hb.alloc hb.size _)
      have HH := Lib.hid (held_sq (h := W.heap.size) (show Blk W wr.heap.size [.int .i64 R, .int .i64 C, .slice a xs.length cap] 24 by rw [← hWW]; exact Blk.new wr _ _) (HKL.out.below HBT.out (Nat.le_refl _)) (d := .int .i64 R) rfl (by rw [← hWW]; simp) (Nat.lt_of_lt_of_le HKL.out.lt HBT.out.size))
      have HU0 := Lib.hid (Up.start W)
      have HVW := Lib.hid (HV.out.below HBT.out (Nat.le_refl _))
      have HVd := Lib.hid (HVW.out.below (Below.refl W.heap.size W).drew (Nat.le_refl _))
      have HH4 := Lib.hid (fun w' (H : Up W.heap.size W w') => show w'.cell? ⟨wr.heap.size, 0, none⟩ = some (.int .i64 R) ∧ w'.cell? ⟨wr.heap.size, 1, none⟩ = some (.int .i64 C) ∧ w'.cell? ⟨wr.heap.size, 2, none⟩ = some (.slice a xs.length cap) ∧ w'.cell? ⟨g, 0, none⟩ = some (.int .i64 R) from ⟨(HH.out w' H).2.1.1, (HH.out w' H).2.1.2.1, (HH.out w' H).2.1.2.2, (HH.out w' H).2.2⟩)
      obtain ⟨-, ⟨y0, y1, y2⟩, y3⟩ := HH.out W (Up.start W)
      cases hf : few03 6 R C xs
      · have HF := Lib.hid hf
        have HQ := Lib.hid (show (sq1 R C xs && (sq1 R' C' ys && decide (R' = R))) = false by unfold sq1; rw [hf]; rfl)
        clear hf
        go_wp2_with fail
        have hSd : W.drew.cell? ⟨wr.heap.size, 0, none⟩ = some (.int .i64 R) ∧ W.drew.cell? ⟨wr.heap.size, 1, none⟩ = some (.int .i64 C) ∧ W.drew.cell? ⟨wr.heap.size, 2, none⟩ = some (.slice a xs.length cap) ∧ W.drew.cell? ⟨g, 0, none⟩ = some (.int .i64 R) := ⟨y0, y1, y2, y3⟩
        refine wp_regionJ (S := fun w' => w'.cell? ⟨wr.heap.size, 0, none⟩ = some (.int .i64 R) ∧ w'.cell? ⟨wr.heap.size, 1, none⟩ = some (.int .i64 C) ∧ w'.cell? ⟨wr.heap.size, 2, none⟩ = some (.slice a xs.length cap) ∧ w'.cell? ⟨g, 0, none⟩ = some (.int .i64 R)) (A := fun _ => true) (by kernel_rfl) ?_
        refine wpAnyJ_take (i := 0) (oi := { dst := some 11, op := .load _ (.tmp 4), type := _, pos := _, after := _, guard := _ }) (v := ?_) rfl (by kernel_rfl) (by kernel_rfl) (by kernel_rfl) (by kernel_rfl) (fun _ _ _ h => h) (Or.inl ⟨by rfl, ?_⟩) hSd ?_
        rotate_left
        · intro wl hSw
          obtain ⟨s0, s1, s2, s3⟩ := hSw
          go_simp
          with_reducible rfl
        simp only [Act.put, List.setIfInBounds_toArray, List.set_cons_zero, List.set_cons_succ]
        refine wpAnyJ_only (i := 1) (o := { dst := some 12, op := _, type := _, pos := _, after := _, guard := _ }) (by kernel_rfl) rfl (fun K hK => ?_)
        go_simp
        refine (Few03_any _ 6 R C _ xs HVd.out HS.out).mono ?_
        rintro e w4 ⟨u4, rfl, rfl, hb4⟩
        rw [HF.out]
        have hU4 := HU0.out.drew.call hb4
        have HV4 := Lib.hid (HVd.out.below hb4 (Nat.le_refl _))
        have hU5 := hU4
        have hS4 := HH4.out w4 hU4
        refine hK.out _ _ (fun _ => hS4) ?_
        try simp only [Act.put, List.setIfInBounds_toArray, List.set_cons_zero, List.set_cons_succ]
        clear hK K
        refine wpAnyJ_take (i := 2) (oi := { dst := some 13, op := _, type := _, pos := _, after := _, guard := _ }) (v := ?_) rfl (by kernel_rfl) (by kernel_rfl) (by kernel_rfl) (by kernel_rfl) (fun _ _ _ h => h) (Or.inl ⟨by rfl, ?_⟩) hS4 ?_
        rotate_left
        · intro wl hSw
          obtain ⟨s0, s1, s2, s3⟩ := hSw
          go_simp
          with_reducible rfl
        simp only [Act.put, List.setIfInBounds_toArray, List.set_cons_zero, List.set_cons_succ]
        refine wpAnyJ_take (i := 3) (oi := { dst := some 14, op := .move (.tmp 13), type := _, pos := _, after := _, guard := _ }) (v := ?_) rfl (by kernel_rfl) (by kernel_rfl) (by kernel_rfl) (by kernel_rfl) (fun _ _ _ h => h) (Or.inl ⟨by rfl, ?_⟩) hS4 ?_
        rotate_left
        · intro wl hSw
          obtain ⟨s0, s1, s2, s3⟩ := hSw
          go_simp
          with_reducible rfl
        simp only [Act.put, List.setIfInBounds_toArray, List.set_cons_zero, List.set_cons_succ]
        refine wpAnyJ_take (i := 4) (oi := { dst := some 15, op := .load _ (.tmp 4), type := _, pos := _, after := _, guard := _ }) (v := undef) rfl (by kernel_rfl) (by kernel_rfl) (by kernel_rfl) (by kernel_rfl) (fun _ _ _ h => h) (Or.inr ⟨by rfl, rfl⟩) hS4 ?_
        simp only [Act.put, List.setIfInBounds_toArray, List.set_cons_zero, List.set_cons_succ]
        refine wpAnyJ_take (i := 5) (oi := { dst := some 16, op := _, type := _, pos := _, after := _, guard := _ }) (v := undef) rfl (by kernel_rfl) (by kernel_rfl) (by kernel_rfl) (by kernel_rfl) (fun _ _ _ h => h) (Or.inr ⟨by rfl, rfl⟩) hS4 ?_
        simp only [Act.put, List.setIfInBounds_toArray, List.set_cons_zero, List.set_cons_succ]
        refine wpAnyJ_take (i := 6) (oi := { dst := some 17, op := .binOp _ _ (.tmp 16) _ _, type := _, pos := _, after := _, guard := _ }) (v := undef) rfl (by kernel_rfl) (by kernel_rfl) (by kernel_rfl) (by kernel_rfl) (fun _ _ _ h => h) (Or.inr ⟨by rfl, rfl⟩) hS4 ?_
        simp only [Act.put, List.setIfInBounds_toArray, List.set_cons_zero, List.set_cons_succ]
        refine wpAnyJ_take (i := 7) (oi := { dst := some 18, op := _, type := _, pos := _, after := _, guard := _ }) (v := ?_) rfl (by kernel_rfl) (by kernel_rfl) (by kernel_rfl) (by kernel_rfl) (fun _ _ _ h => h) (Or.inl ⟨by rfl, ?_⟩) hS4 ?_
        rotate_left
        · intro wl hSw
          obtain ⟨s0, s1, s2, s3⟩ := hSw
          go_simp
          with_reducible rfl
        simp only [Act.put, List.setIfInBounds_toArray, List.set_cons_zero, List.set_cons_succ]
        refine wpAnyJ_take (i := 8) (oi := { dst := some 19, op := .move (.tmp 18), type := _, pos := _, after := _, guard := _ }) (v := ?_) rfl (by kernel_rfl) (by kernel_rfl) (by kernel_rfl) (by kernel_rfl) (fun _ _ _ h => h) (Or.inl ⟨by rfl, ?_⟩) hS4 ?_
        rotate_left
        · intro wl hSw
          obtain ⟨s0, s1, s2, s3⟩ := hSw
          go_simp
          with_reducible rfl
        simp only [Act.put, List.setIfInBounds_toArray, List.set_cons_zero, List.set_cons_succ]
        refine wpAnyJ_take (i := 9) (oi := { dst := some 20, op := .fieldAddr _ (.tmp 4) 0, type := _, pos := _, after := _, guard := _ }) (v := undef) rfl (by kernel_rfl) (by kernel_rfl) (by kernel_rfl) (by kernel_rfl) (fun _ _ _ h => h) (Or.inr ⟨by rfl, rfl⟩) hS4 ?_
        simp only [Act.put, List.setIfInBounds_toArray, List.set_cons_zero, List.set_cons_succ]
        refine wpAnyJ_take (i := 10) (oi := { dst := some 21, op := .load _ (.tmp 20), type := _, pos := _, after := _, guard := _ }) (v := undef) rfl (by kernel_rfl) (by kernel_rfl) (by kernel_rfl) (by kernel_rfl) (fun _ _ _ h => h) (Or.inr ⟨by rfl, rfl⟩) hS4 ?_
        simp only [Act.put, List.setIfInBounds_toArray, List.set_cons_zero, List.set_cons_succ]
        refine wpAnyJ_take (i := 11) (oi := { dst := some 22, op := .fieldAddr _ (.tmp 4) 1, type := _, pos := _, after := _, guard := _ }) (v := undef) rfl (by kernel_rfl) (by kernel_rfl) (by kernel_rfl) (by kernel_rfl) (fun _ _ _ h => h) (Or.inr ⟨by rfl, rfl⟩) hS4 ?_
        simp only [Act.put, List.setIfInBounds_toArray, List.set_cons_zero, List.set_cons_succ]
        refine wpAnyJ_take (i := 12) (oi := { dst := some 23, op := .load _ (.tmp 22), type := _, pos := _, after := _, guard := _ }) (v := undef) rfl (by kernel_rfl) (by kernel_rfl) (by kernel_rfl) (by kernel_rfl) (fun _ _ _ h => h) (Or.inr ⟨by rfl, rfl⟩) hS4 ?_
        simp only [Act.put, List.setIfInBounds_toArray, List.set_cons_zero, List.set_cons_succ]
        refine wpAnyJ_take (i := 13) (oi := { dst := some 24, op := .binOp _ _ (.tmp 21) (.tmp 23) _, type := _, pos := _, after := _, guard := _ }) (v := undef) rfl (by kernel_rfl) (by kernel_rfl) (by kernel_rfl) (by kernel_rfl) (fun _ _ _ h => h) (Or.inr ⟨by rfl, rfl⟩) hS4 ?_
        simp only [Act.put, List.setIfInBounds_toArray, List.set_cons_zero, List.set_cons_succ]
        refine wpAnyJ_take (i := 14) (oi := { dst := some 25, op := _, type := _, pos := _, after := _, guard := _ }) (v := ?_) rfl (by kernel_rfl) (by kernel_rfl) (by kernel_rfl) (by kernel_rfl) (fun _ _ _ h => h) (Or.inl ⟨by rfl, ?_⟩) hS4 ?_
        rotate_left
        · intro wl hSw
          obtain ⟨s0, s1, s2, s3⟩ := hSw
          go_simp
          with_reducible rfl
        simp only [Act.put, List.setIfInBounds_toArray, List.set_cons_zero, List.set_cons_succ]
        refine wpAnyJ_take (i := 15) (oi := { dst := some 26, op := .move (.tmp 25), type := _, pos := _, after := _, guard := _ }) (v := ?_) rfl (by kernel_rfl) (by kernel_rfl) (by kernel_rfl) (by kernel_rfl) (fun _ _ _ h => h) (Or.inl ⟨by rfl, ?_⟩) hS4 ?_
        rotate_left
        · intro wl hSw
          obtain ⟨s0, s1, s2, s3⟩ := hSw
          go_simp
          with_reducible rfl
        simp only [Act.put, List.setIfInBounds_toArray, List.set_cons_zero, List.set_cons_succ]
        refine wpAnyJ_take (i := 16) (oi := { dst := some 27, op := .fieldAddr _ (.tmp 4) 0, type := _, pos := _, after := _, guard := _ }) (v := undef) rfl (by kernel_rfl) (by kernel_rfl) (by kernel_rfl) (by kernel_rfl) (fun _ _ _ h => h) (Or.inr ⟨by rfl, rfl⟩) hS4 ?_
        simp only [Act.put, List.setIfInBounds_toArray, List.set_cons_zero, List.set_cons_succ]
        refine wpAnyJ_take (i := 17) (oi := { dst := some 28, op := .load _ (.tmp 27), type := _, pos := _, after := _, guard := _ }) (v := undef) rfl (by kernel_rfl) (by kernel_rfl) (by kernel_rfl) (by kernel_rfl) (fun _ _ _ h => h) (Or.inr ⟨by rfl, rfl⟩) hS4 ?_
        simp only [Act.put, List.setIfInBounds_toArray, List.set_cons_zero, List.set_cons_succ]
        refine wpAnyJ_take (i := 18) (oi := { dst := some 29, op := .move (.tmp 0), type := _, pos := _, after := _, guard := _ }) (v := undef) rfl (by kernel_rfl) (by kernel_rfl) (by kernel_rfl) (by kernel_rfl) (fun _ _ _ h => h) (Or.inr ⟨by rfl, rfl⟩) hS4 ?_
        simp only [Act.put, List.setIfInBounds_toArray, List.set_cons_zero, List.set_cons_succ]
        refine wpAnyJ_take (i := 19) (oi := { dst := some 30, op := .indexAddr _ (.tmp 29) _, type := _, pos := _, after := _, guard := _ }) (v := undef) rfl (by kernel_rfl) (by kernel_rfl) (by kernel_rfl) (by kernel_rfl) (fun _ _ _ h => h) (Or.inr ⟨by rfl, rfl⟩) hS4 ?_
        simp only [Act.put, List.setIfInBounds_toArray, List.set_cons_zero, List.set_cons_succ]
        refine wpAnyJ_take (i := 20) (oi := { dst := some 31, op := .fieldAddr _ (.tmp 30) 0, type := _, pos := _, after := _, guard := _ }) (v := undef) rfl (by kernel_rfl) (by kernel_rfl) (by kernel_rfl) (by kernel_rfl) (fun _ _ _ h => h) (Or.inr ⟨by rfl, rfl⟩) hS4 ?_
        simp only [Act.put, List.setIfInBounds_toArray, List.set_cons_zero, List.set_cons_succ]
        refine wpAnyJ_take (i := 21) (oi := { dst := some 32, op := .load _ (.tmp 31), type := _, pos := _, after := _, guard := _ }) (v := undef) rfl (by kernel_rfl) (by kernel_rfl) (by kernel_rfl) (by kernel_rfl) (fun _ _ _ h => h) (Or.inr ⟨by rfl, rfl⟩) hS4 ?_
        simp only [Act.put, List.setIfInBounds_toArray, List.set_cons_zero, List.set_cons_succ]
        refine wpAnyJ_take (i := 22) (oi := { dst := some 33, op := .binOp _ _ (.tmp 28) (.tmp 32) _, type := _, pos := _, after := _, guard := _ }) (v := undef) rfl (by kernel_rfl) (by kernel_rfl) (by kernel_rfl) (by kernel_rfl) (fun _ _ _ h => h) (Or.inr ⟨by rfl, rfl⟩) hS4 ?_
        simp only [Act.put, List.setIfInBounds_toArray, List.set_cons_zero, List.set_cons_succ]
        refine wpAnyJ_take (i := 23) (oi := { dst := some 34, op := _, type := _, pos := _, after := _, guard := _ }) (v := ?_) rfl (by kernel_rfl) (by kernel_rfl) (by kernel_rfl) (by kernel_rfl) (fun _ _ _ h => h) (Or.inl ⟨by rfl, ?_⟩) hS4 ?_
        rotate_left
        · intro wl hSw
          obtain ⟨s0, s1, s2, s3⟩ := hSw
          go_simp
          with_reducible rfl
        simp only [Act.put, List.setIfInBounds_toArray, List.set_cons_zero, List.set_cons_succ]
        refine wpAnyJ_done (by kernel_rfl) ?_ _
        go_wp2_with fail
        go_ret
        exact ⟨_, rfl, by rw [← HQQ.out, HQ.out]; rfl, HBT.out.trans ((Up.bel hU5).mono HBT.out.size)⟩
      · have HF := Lib.hid hf
        have H9 := Lib.hid (few03_rm hf).1
        by_cases hc : mchkM R C xs = 0
        · have HC := Lib.hid hc
          by_cases hs : R = C
          · have hne1 : (R != C) = false := by rw [hs]; simp
            have hne2 : (R != R) = false := by simp
            have HT := Lib.hid (show sq1 R C xs = true by unfold sq1; rw [hf, decide_eq_true hc, decide_eq_true hs]; rfl)
            clear hf hc hs
            go_wp2_with fail
            have hSd : W.drew.cell? ⟨wr.heap.size, 0, none⟩ = some (.int .i64 R) ∧ W.drew.cell? ⟨wr.heap.size, 1, none⟩ = some (.int .i64 C) ∧ W.drew.cell? ⟨wr.heap.size, 2, none⟩ = some (.slice a xs.length cap) ∧ W.drew.cell? ⟨g, 0, none⟩ = some (.int .i64 R) := ⟨y0, y1, y2, y3⟩
            refine wp_regionJ (S := fun w' => w'.cell? ⟨wr.heap.size, 0, none⟩ = some (.int .i64 R) ∧ w'.cell? ⟨wr.heap.size, 1, none⟩ = some (.int .i64 C) ∧ w'.cell? ⟨wr.heap.size, 2, none⟩ = some (.slice a xs.length cap) ∧ w'.cell? ⟨g, 0, none⟩ = some (.int .i64 R)) (A := fun _ => true) (by kernel_rfl) ?_
            refine wpAnyJ_take (i := 0) (oi := { dst := some 11, op := .load _ (.tmp 4), type := _, pos := _, after := _, guard := _ }) (v := ?_) rfl (by kernel_rfl) (by kernel_rfl) (by kernel_rfl) (by kernel_rfl) (fun _ _ _ h => h) (Or.inl ⟨by rfl, ?_⟩) hSd ?_
            rotate_left
            · intro wl hSw
              obtain ⟨s0, s1, s2, s3⟩ := hSw
              go_simp
              with_reducible rfl
            simp only [Act.put, List.setIfInBounds_toArray, List.set_cons_zero, List.set_cons_succ]
            refine wpAnyJ_only (i := 1) (o := { dst := some 12, op := _, type := _, pos := _, after := _, guard := _ }) (by kernel_rfl) rfl (fun K hK => ?_)
            go_simp
            refine (Few03_any _ 6 R C _ xs HVd.out HS.out).mono ?_
            rintro e w4 ⟨u4, rfl, rfl, hb4⟩
            rw [HF.out]
            have hU4 := HU0.out.drew.call hb4
            have HV4 := Lib.hid (HVd.out.below hb4 (Nat.le_refl _))
            have hS4 := HH4.out w4 hU4
            refine hK.out _ _ (fun _ => hS4) ?_
            try simp only [Act.put, List.setIfInBounds_toArray, List.set_cons_zero, List.set_cons_succ]
            clear hK K
            refine wpAnyJ_take (i := 2) (oi := { dst := some 13, op := _, type := _, pos := _, after := _, guard := _ }) (v := ?_) rfl (by kernel_rfl) (by kernel_rfl) (by kernel_rfl) (by kernel_rfl) (fun _ _ _ h => h) (Or.inl ⟨by rfl, ?_⟩) hS4 ?_
            rotate_left
            · intro wl hSw
              obtain ⟨s0, s1, s2, s3⟩ := hSw
              go_simp
              with_reducible rfl
            simp only [Act.put, List.setIfInBounds_toArray, List.set_cons_zero, List.set_cons_succ]
            refine wpAnyJ_take (i := 3) (oi := { dst := some 14, op := .move (.tmp 13), type := _, pos := _, after := _, guard := _ }) (v := ?_) rfl (by kernel_rfl) (by kernel_rfl) (by kernel_rfl) (by kernel_rfl) (fun _ _ _ h => h) (Or.inl ⟨by rfl, ?_⟩) hS4 ?_
            rotate_left
            · intro wl hSw
              obtain ⟨s0, s1, s2, s3⟩ := hSw
              go_simp
              with_reducible rfl
            simp only [Act.put, List.setIfInBounds_toArray, List.set_cons_zero, List.set_cons_succ]
            refine wpAnyJ_take (i := 4) (oi := { dst := some 15, op := .load _ (.tmp 4), type := _, pos := _, after := _, guard := _ }) (v := ?_) rfl (by kernel_rfl) (by kernel_rfl) (by kernel_rfl) (by kernel_rfl) (fun _ _ _ h => h) (Or.inl ⟨by rfl, ?_⟩) hS4 ?_
            rotate_left
            · intro wl hSw
              obtain ⟨s0, s1, s2, s3⟩ := hSw
              go_simp
              with_reducible rfl
            simp only [Act.put, List.setIfInBounds_toArray, List.set_cons_zero, List.set_cons_succ]
            refine wpAnyJ_only (i := 5) (o := { dst := some 16, op := _, type := _, pos := _, after := _, guard := _ }) (by kernel_rfl) rfl (fun K hK => ?_)
            go_simp
            refine (rMCheck_any _ R C _ xs HV4.out (fun _ => H9.out.big (by omega))).mono ?_
            rintro e w5 ⟨u5, rfl, rfl, hb5⟩
            rw [HC.out]
            have hU5 := hU4.call hb5
            have hS5 := HH4.out w5 hU5
            refine hK.out _ _ (fun _ => hS5) ?_
            try simp only [Act.put, List.setIfInBounds_toArray, List.set_cons_zero, List.set_cons_succ]
            clear hK K
            refine wpAnyJ_take (i := 6) (oi := { dst := some 17, op := .binOp _ _ (.tmp 16) _ _, type := _, pos := _, after := _, guard := _ }) (v := ?_) rfl (by kernel_rfl) (by kernel_rfl) (by kernel_rfl) (by kernel_rfl) (fun _ _ _ h => h) (Or.inl ⟨by rfl, ?_⟩) hS5 ?_
            rotate_left
            · intro wl hSw
              obtain ⟨s0, s1, s2, s3⟩ := hSw
              go_simp
              with_reducible rfl
            simp only [Act.put, List.setIfInBounds_toArray, List.set_cons_zero, List.set_cons_succ]
            refine wpAnyJ_take (i := 7) (oi := { dst := some 18, op := _, type := _, pos := _, after := _, guard := _ }) (v := ?_) rfl (by kernel_rfl) (by kernel_rfl) (by kernel_rfl) (by kernel_rfl) (fun _ _ _ h => h) (Or.inl ⟨by rfl, ?_⟩) hS5 ?_
            rotate_left
            · intro wl hSw
              obtain ⟨s0, s1, s2, s3⟩ := hSw
              go_simp
              with_reducible rfl
            simp only [Act.put, List.setIfInBounds_toArray, List.set_cons_zero, List.set_cons_succ]
            refine wpAnyJ_take (i := 8) (oi := { dst := some 19, op := .move (.tmp 18), type := _, pos := _, after := _, guard := _ }) (v := ?_) rfl (by kernel_rfl) (by kernel_rfl) (by kernel_rfl) (by kernel_rfl) (fun _ _ _ h => h) (Or.inl ⟨by rfl, ?_⟩) hS5 ?_
            rotate_left
            · intro wl hSw
              obtain ⟨s0, s1, s2, s3⟩ := hSw
              go_simp
              with_reducible rfl
            simp only [Act.put, List.setIfInBounds_toArray, List.set_cons_zero, List.set_cons_succ]
            refine wpAnyJ_take (i := 9) (oi := { dst := some 20, op := .fieldAddr _ (.tmp 4) 0, type := _, pos := _, after := _, guard := _ }) (v := ?_) rfl (by kernel_rfl) (by kernel_rfl) (by kernel_rfl) (by kernel_rfl) (fun _ _ _ h => h) (Or.inl ⟨by rfl, ?_⟩) hS5 ?_
            rotate_left
            · intro wl hSw
              obtain ⟨s0, s1, s2, s3⟩ := hSw
              go_simp
              with_reducible rfl
            simp only [Act.put, List.setIfInBounds_toArray, List.set_cons_zero, List.set_cons_succ]
            refine wpAnyJ_take (i := 10) (oi := { dst := some 21, op := .load _ (.tmp 20), type := _, pos := _, after := _, guard := _ }) (v := ?_) rfl (by kernel_rfl) (by kernel_rfl) (by kernel_rfl) (by kernel_rfl) (fun _ _ _ h => h) (Or.inl ⟨by rfl, ?_⟩) hS5 ?_
            rotate_left
            · intro wl hSw
              obtain ⟨s0, s1, s2, s3⟩ := hSw
              go_simp
              with_reducible rfl
            simp only [Act.put, List.setIfInBounds_toArray, List.set_cons_zero, List.set_cons_succ]
            refine wpAnyJ_take (i := 11) (oi := { dst := some 22, op := .fieldAddr _ (.tmp 4) 1, type := _, pos := _, after := _, guard := _ }) (v := ?_) rfl (by kernel_rfl) (by kernel_rfl) (by kernel_rfl) (by kernel_rfl) (fun _ _ _ h => h) (Or.inl ⟨by rfl, ?_⟩) hS5 ?_
            rotate_left
            · intro wl hSw
              obtain ⟨s0, s1, s2, s3⟩ := hSw
              go_simp
              with_reducible rfl
            simp only [Act.put, List.setIfInBounds_toArray, List.set_cons_zero, List.set_cons_succ]
            refine wpAnyJ_take (i := 12) (oi := { dst := some 23, op := .load _ (.tmp 22), type := _, pos := _, after := _, guard := _ }) (v := ?_) rfl (by kernel_rfl) (by kernel_rfl) (by kernel_rfl) (by kernel_rfl) (fun _ _ _ h => h) (Or.inl ⟨by rfl, ?_⟩) hS5 ?_
            rotate_left
            · intro wl hSw
              obtain ⟨s0, s1, s2, s3⟩ := hSw
              go_simp
              with_reducible rfl
            simp only [Act.put, List.setIfInBounds_toArray, List.set_cons_zero, List.set_cons_succ]
            refine wpAnyJ_take (i := 13) (oi := { dst := some 24, op := .binOp _ _ (.tmp 21) (.tmp 23) _, type := _, pos := _, after := _, guard := _ }) (v := ?_) rfl (by kernel_rfl) (by kernel_rfl) (by kernel_rfl) (by kernel_rfl) (fun _ _ _ h => h) (Or.inl ⟨by rfl, ?_⟩) hS5 ?_
            rotate_left
            · intro wl hSw
              obtain ⟨s0, s1, s2, s3⟩ := hSw
              go_simp
              with_reducible rfl
            simp only [Act.put, List.setIfInBounds_toArray, List.set_cons_zero, List.set_cons_succ]
            refine wpAnyJ_take (i := 14) (oi := { dst := some 25, op := _, type := _, pos := _, after := _, guard := _ }) (v := ?_) rfl (by kernel_rfl) (by kernel_rfl) (by kernel_rfl) (by kernel_rfl) (fun _ _ _ h => h) (Or.inl ⟨by rfl, ?_⟩) hS5 ?_
            rotate_left
            · intro wl hSw
              obtain ⟨s0, s1, s2, s3⟩ := hSw
              go_simp
              with_reducible rfl
            simp only [Act.put, List.setIfInBounds_toArray, List.set_cons_zero, List.set_cons_succ]
            refine wpAnyJ_take (i := 15) (oi := { dst := some 26, op := .move (.tmp 25), type := _, pos := _, after := _, guard := _ }) (v := ?_) rfl (by kernel_rfl) (by kernel_rfl) (by kernel_rfl) (by kernel_rfl) (fun _ _ _ h => h) (Or.inl ⟨by rfl, ?_⟩) hS5 ?_
            rotate_left
            · intro wl hSw
              obtain ⟨s0, s1, s2, s3⟩ := hSw
              go_simp
              with_reducible rfl
            simp only [Act.put, List.setIfInBounds_toArray, List.set_cons_zero, List.set_cons_succ]
            refine wpAnyJ_take (i := 16) (oi := { dst := some 27, op := .fieldAddr _ (.tmp 4) 0, type := _, pos := _, after := _, guard := _ }) (v := ?_) rfl (by kernel_rfl) (by kernel_rfl) (by kernel_rfl) (by kernel_rfl) (fun _ _ _ h => h) (Or.inl ⟨by rfl, ?_⟩) hS5 ?_
            rotate_left
            · intro wl hSw
              obtain ⟨s0, s1, s2, s3⟩ := hSw
              go_simp
              with_reducible rfl
            simp only [Act.put, List.setIfInBounds_toArray, List.set_cons_zero, List.set_cons_succ]
            refine wpAnyJ_take (i := 17) (oi := { dst := some 28, op := .load _ (.tmp 27), type := _, pos := _, after := _, guard := _ }) (v := ?_) rfl (by kernel_rfl) (by kernel_rfl) (by kernel_rfl) (by kernel_rfl) (fun _ _ _ h => h) (Or.inl ⟨by rfl, ?_⟩) hS5 ?_
            rotate_left
            · intro wl hSw
              obtain ⟨s0, s1, s2, s3⟩ := hSw
              go_simp
              with_reducible rfl
            simp only [Act.put, List.setIfInBounds_toArray, List.set_cons_zero, List.set_cons_succ]
            refine wpAnyJ_take (i := 18) (oi := { dst := some 29, op := .move (.tmp 0), type := _, pos := _, after := _, guard := _ }) (v := ?_) rfl (by kernel_rfl) (by kernel_rfl) (by kernel_rfl) (by kernel_rfl) (fun _ _ _ h => h) (Or.inl ⟨by rfl, ?_⟩) hS5 ?_
            rotate_left
            · intro wl hSw
              obtain ⟨s0, s1, s2, s3⟩ := hSw
              go_simp
              with_reducible rfl
            simp only [Act.put, List.setIfInBounds_toArray, List.set_cons_zero, List.set_cons_succ]
            refine wpAnyJ_take (i := 19) (oi := { dst := some 30, op := .indexAddr _ (.tmp 29) _, type := _, pos := _, after := _, guard := _ }) (v := ?_) rfl (by kernel_rfl) (by kernel_rfl) (by kernel_rfl) (by kernel_rfl) (fun _ _ _ h => h) (Or.inl ⟨by rfl, ?_⟩) hS5 ?_
            rotate_left
            · intro wl hSw
              obtain ⟨s0, s1, s2, s3⟩ := hSw
              go_simp
              with_reducible rfl
            simp only [Act.put, List.setIfInBounds_toArray, List.set_cons_zero, List.set_cons_succ]
            refine wpAnyJ_take (i := 20) (oi := { dst := some 31, op := .fieldAddr _ (.tmp 30) 0, type := _, pos := _, after := _, guard := _ }) (v := ?_) rfl (by kernel_rfl) (by kernel_rfl) (by kernel_rfl) (by kernel_rfl) (fun _ _ _ h => h) (Or.inl ⟨by rfl, ?_⟩) hS5 ?_
            rotate_left
            · intro wl hSw
              obtain ⟨s0, s1, s2, s3⟩ := hSw
              go_simp
              with_reducible rfl
            simp only [Act.put, List.setIfInBounds_toArray, List.set_cons_zero, List.set_cons_succ]
            refine wpAnyJ_take (i := 21) (oi := { dst := some 32, op := .load _ (.tmp 31), type := _, pos := _, after := _, guard := _ }) (v := ?_) rfl (by kernel_rfl) (by kernel_rfl) (by kernel_rfl) (by kernel_rfl) (fun _ _ _ h => h) (Or.inl ⟨by rfl, ?_⟩) hS5 ?_
            rotate_left
            · intro wl hSw
              obtain ⟨s0, s1, s2, s3⟩ := hSw
              go_simp
              with_reducible rfl
            simp only [Act.put, List.setIfInBounds_toArray, List.set_cons_zero, List.set_cons_succ]
            refine wpAnyJ_take (i := 22) (oi := { dst := some 33, op := .binOp _ _ (.tmp 28) (.tmp 32) _, type := _, pos := _, after := _, guard := _ }) (v := ?_) rfl (by kernel_rfl) (by kernel_rfl) (by kernel_rfl) (by kernel_rfl) (fun _ _ _ h => h) (Or.inl ⟨by rfl, ?_⟩) hS5 ?_
            rotate_left
            · intro wl hSw
              obtain ⟨s0, s1, s2, s3⟩ := hSw
              go_simp
              with_reducible rfl
            simp only [Act.put, List.setIfInBounds_toArray, List.set_cons_zero, List.set_cons_succ]
            refine wpAnyJ_take (i := 23) (oi := { dst := some 34, op := _, type := _, pos := _, after := _, guard := _ }) (v := ?_) rfl (by kernel_rfl) (by kernel_rfl) (by kernel_rfl) (by kernel_rfl) (fun _ _ _ h => h) (Or.inl ⟨by rfl, ?_⟩) hS5 ?_
            rotate_left
            · intro wl hSw
              obtain ⟨s0, s1, s2, s3⟩ := hSw
              go_simp
              with_reducible rfl
            simp only [Act.put, List.setIfInBounds_toArray, List.set_cons_zero, List.set_cons_succ]
            refine wpAnyJ_done (by kernel_rfl) ?_ _
            go_wp2_with fail
            go_roundw
            case rel => exact ⟨1, by omega, by go_num, Lib.hid (fun _ => HT.out), Lib.hid (by omega), HBT.out.trans ((Up.bel hU5).mono HBT.out.size)⟩
            case measure => simp [intOf]
          · have hne1 : (R != C) = true := by simp [hs]
            have HQ := Lib.hid (show (sq1 R C xs && (sq1 R' C' ys && decide (R' = R))) = false by unfold sq1; simp [hs])
            clear hf hc hs
            go_wp2_with fail
            have hSd : W.drew.cell? ⟨wr.heap.size, 0, none⟩ = some (.int .i64 R) ∧ W.drew.cell? ⟨wr.heap.size, 1, none⟩ = some (.int .i64 C) ∧ W.drew.cell? ⟨wr.heap.size, 2, none⟩ = some (.slice a xs.length cap) ∧ W.drew.cell? ⟨g, 0, none⟩ = some (.int .i64 R) := ⟨y0, y1, y2, y3⟩
            refine wp_regionJ (S := fun w' => w'.cell? ⟨wr.heap.size, 0, none⟩ = some (.int .i64 R) ∧ w'.cell? ⟨wr.heap.size, 1, none⟩ = some (.int .i64 C) ∧ w'.cell? ⟨wr.heap.size, 2, none⟩ = some (.slice a xs.length cap) ∧ w'.cell? ⟨g, 0, none⟩ = some (.int .i64 R)) (A := fun _ => true) (by kernel_rfl) ?_
            refine wpAnyJ_take (i := 0) (oi := { dst := some 11, op := .load _ (.tmp 4), type := _, pos := _, after := _, guard := _ }) (v := ?_) rfl (by kernel_rfl) (by kernel_rfl) (by kernel_rfl) (by kernel_rfl) (fun _ _ _ h => h) (Or.inl ⟨by rfl, ?_⟩) hSd ?_
            rotate_left
            · intro wl hSw
              obtain ⟨s0, s1, s2, s3⟩ := hSw
              go_simp
              with_reducible rfl
            simp only [Act.put, List.setIfInBounds_toArray, List.set_cons_zero, List.set_cons_succ]
            refine wpAnyJ_only (i := 1) (o := { dst := some 12, op := _, type := _, pos := _, after := _, guard := _ }) (by kernel_rfl) rfl (fun K hK => ?_)
            go_simp
            refine (Few03_any _ 6 R C _ xs HVd.out HS.out).mono ?_
            rintro e w4 ⟨u4, rfl, rfl, hb4⟩
            rw [HF.out]
            have hU4 := HU0.out.drew.call hb4
            have HV4 := Lib.hid (HVd.out.below hb4 (Nat.le_refl _))
            have hS4 := HH4.out w4 hU4
            refine hK.out _ _ (fun _ => hS4) ?_
            try simp only [Act.put, List.setIfInBounds_toArray, List.set_cons_zero, List.set_cons_succ]
            clear hK K
            refine wpAnyJ_take (i := 2) (oi := { dst := some 13, op := _, type := _, pos := _, after := _, guard := _ }) (v := ?_) rfl (by kernel_rfl) (by kernel_rfl) (by kernel_rfl) (by kernel_rfl) (fun _ _ _ h => h) (Or.inl ⟨by rfl, ?_⟩) hS4 ?_
            rotate_left
            · intro wl hSw
              obtain ⟨s0, s1, s2, s3⟩ := hSw
              go_simp
              with_reducible rfl
            simp only [Act.put, List.setIfInBounds_toArray, List.set_cons_zero, List.set_cons_succ]
            refine wpAnyJ_take (i := 3) (oi := { dst := some 14, op := .move (.tmp 13), type := _, pos := _, after := _, guard := _ }) (v := ?_) rfl (by kernel_rfl) (by kernel_rfl) (by kernel_rfl) (by kernel_rfl) (fun _ _ _ h => h) (Or.inl ⟨by rfl, ?_⟩) hS4 ?_
            rotate_left
            · intro wl hSw
              obtain ⟨s0, s1, s2, s3⟩ := hSw
              go_simp
              with_reducible rfl
            simp only [Act.put, List.setIfInBounds_toArray, List.set_cons_zero, List.set_cons_succ]
            refine wpAnyJ_take (i := 4) (oi := { dst := some 15, op := .load _ (.tmp 4), type := _, pos := _, after := _, guard := _ }) (v := ?_) rfl (by kernel_rfl) (by kernel_rfl) (by kernel_rfl) (by kernel_rfl) (fun _ _ _ h => h) (Or.inl ⟨by rfl, ?_⟩) hS4 ?_
            rotate_left
            · intro wl hSw
              obtain ⟨s0, s1, s2, s3⟩ := hSw
              go_simp
              with_reducible rfl
            simp only [Act.put, List.setIfInBounds_toArray, List.set_cons_zero, List.set_cons_succ]
            refine wpAnyJ_only (i := 5) (o := { dst := some 16, op := _, type := _, pos := _, after := _, guard := _ }) (by kernel_rfl) rfl (fun K hK => ?_)
            go_simp
            refine (rMCheck_any _ R C _ xs HV4.out (fun _ => H9.out.big (by omega))).mono ?_
            rintro e w5 ⟨u5, rfl, rfl, hb5⟩
            rw [HC.out]
            have hU5 := hU4.call hb5
            have hS5 := HH4.out w5 hU5
            refine hK.out _ _ (fun _ => hS5) ?_
            try simp only [Act.put, List.setIfInBounds_toArray, List.set_cons_zero, List.set_cons_succ]
            clear hK K
            refine wpAnyJ_take (i := 6) (oi := { dst := some 17, op := .binOp _ _ (.tmp 16) _ _, type := _, pos := _, after := _, guard := _ }) (v := ?_) rfl (by kernel_rfl) (by kernel_rfl) (by kernel_rfl) (by kernel_rfl) (fun _ _ _ h => h) (Or.inl ⟨by rfl, ?_⟩) hS5 ?_
            rotate_left
            · intro wl hSw
              obtain ⟨s0, s1, s2, s3⟩ := hSw
              go_simp
              with_reducible rfl
            simp only [Act.put, List.setIfInBounds_toArray, List.set_cons_zero, List.set_cons_succ]
            refine wpAnyJ_take (i := 7) (oi := { dst := some 18, op := _, type := _, pos := _, after := _, guard := _ }) (v := ?_) rfl (by kernel_rfl) (by kernel_rfl) (by kernel_rfl) (by kernel_rfl) (fun _ _ _ h => h) (Or.inl ⟨by rfl, ?_⟩) hS5 ?_
            rotate_left
            · intro wl hSw
              obtain ⟨s0, s1, s2, s3⟩ := hSw
              go_simp
              with_reducible rfl
            simp only [Act.put, List.setIfInBounds_toArray, List.set_cons_zero, List.set_cons_succ]
            refine wpAnyJ_take (i := 8) (oi := { dst := some 19, op := .move (.tmp 18), type := _, pos := _, after := _, guard := _ }) (v := ?_) rfl (by kernel_rfl) (by kernel_rfl) (by kernel_rfl) (by kernel_rfl) (fun _ _ _ h => h) (Or.inl ⟨by rfl, ?_⟩) hS5 ?_
            rotate_left
            · intro wl hSw
              obtain ⟨s0, s1, s2, s3⟩ := hSw
              go_simp
              with_reducible rfl
            simp only [Act.put, List.setIfInBounds_toArray, List.set_cons_zero, List.set_cons_succ]
            refine wpAnyJ_take (i := 9) (oi := { dst := some 20, op := .fieldAddr _ (.tmp 4) 0, type := _, pos := _, after := _, guard := _ }) (v := ?_) rfl (by kernel_rfl) (by kernel_rfl) (by kernel_rfl) (by kernel_rfl) (fun _ _ _ h => h) (Or.inl ⟨by rfl, ?_⟩) hS5 ?_
            rotate_left
            · intro wl hSw
              obtain ⟨s0, s1, s2, s3⟩ := hSw
              go_simp
              with_reducible rfl
            simp only [Act.put, List.setIfInBounds_toArray, List.set_cons_zero, List.set_cons_succ]
            refine wpAnyJ_take (i := 10) (oi := { dst := some 21, op := .load _ (.tmp 20), type := _, pos := _, after := _, guard := _ }) (v := ?_) rfl (by kernel_rfl) (by kernel_rfl) (by kernel_rfl) (by kernel_rfl) (fun _ _ _ h => h) (Or.inl ⟨by rfl, ?_⟩) hS5 ?_
            rotate_left
            · intro wl hSw
              obtain ⟨s0, s1, s2, s3⟩ := hSw
              go_simp
              with_reducible rfl
            simp only [Act.put, List.setIfInBounds_toArray, List.set_cons_zero, List.set_cons_succ]
            refine wpAnyJ_take (i := 11) (oi := { dst := some 22, op := .fieldAddr _ (.tmp 4) 1, type := _, pos := _, after := _, guard := _ }) (v := ?_) rfl (by kernel_rfl) (by kernel_rfl) (by kernel_rfl) (by kernel_rfl) (fun _ _ _ h => h) (Or.inl ⟨by rfl, ?_⟩) hS5 ?_
            rotate_left
            · intro wl hSw
              obtain ⟨s0, s1, s2, s3⟩ := hSw
              go_simp
              with_reducible rfl
            simp only [Act.put, List.setIfInBounds_toArray, List.set_cons_zero, List.set_cons_succ]
            refine wpAnyJ_take (i := 12) (oi := { dst := some 23, op := .load _ (.tmp 22), type := _, pos := _, after := _, guard := _ }) (v := ?_) rfl (by kernel_rfl) (by kernel_rfl) (by kernel_rfl) (by kernel_rfl) (fun _ _ _ h => h) (Or.inl ⟨by rfl, ?_⟩) hS5 ?_
            rotate_left
            · intro wl hSw
              obtain ⟨s0, s1, s2, s3⟩ := hSw
              go_simp
              with_reducible rfl
            simp only [Act.put, List.setIfInBounds_toArray, List.set_cons_zero, List.set_cons_succ]
            refine wpAnyJ_take (i := 13) (oi := { dst := some 24, op := .binOp _ _ (.tmp 21) (.tmp 23) _, type := _, pos := _, after := _, guard := _ }) (v := ?_) rfl (by kernel_rfl) (by kernel_rfl) (by kernel_rfl) (by kernel_rfl) (fun _ _ _ h => h) (Or.inl ⟨by rfl, ?_⟩) hS5 ?_
            rotate_left
            · intro wl hSw
              obtain ⟨s0, s1, s2, s3⟩ := hSw
              go_simp
              with_reducible rfl
            simp only [Act.put, List.setIfInBounds_toArray, List.set_cons_zero, List.set_cons_succ]
            refine wpAnyJ_take (i := 14) (oi := { dst := some 25, op := _, type := _, pos := _, after := _, guard := _ }) (v := ?_) rfl (by kernel_rfl) (by kernel_rfl) (by kernel_rfl) (by kernel_rfl) (fun _ _ _ h => h) (Or.inl ⟨by rfl, ?_⟩) hS5 ?_
            rotate_left
            · intro wl hSw
              obtain ⟨s0, s1, s2, s3⟩ := hSw
              go_simp
              with_reducible rfl
            simp only [Act.put, List.setIfInBounds_toArray, List.set_cons_zero, List.set_cons_succ]
            refine wpAnyJ_take (i := 15) (oi := { dst := some 26, op := .move (.tmp 25), type := _, pos := _, after := _, guard := _ }) (v := ?_) rfl (by kernel_rfl) (by kernel_rfl) (by kernel_rfl) (by kernel_rfl) (fun _ _ _ h => h) (Or.inl ⟨by rfl, ?_⟩) hS5 ?_
            rotate_left
            · intro wl hSw
              obtain ⟨s0, s1, s2, s3⟩ := hSw
              go_simp
              with_reducible rfl
            simp only [Act.put, List.setIfInBounds_toArray, List.set_cons_zero, List.set_cons_succ]
            refine wpAnyJ_take (i := 16) (oi := { dst := some 27, op := .fieldAddr _ (.tmp 4) 0, type := _, pos := _, after := _, guard := _ }) (v := undef) rfl (by kernel_rfl) (by kernel_rfl) (by kernel_rfl) (by kernel_rfl) (fun _ _ _ h => h) (Or.inr ⟨by rfl, rfl⟩) hS5 ?_
            simp only [Act.put, List.setIfInBounds_toArray, List.set_cons_zero, List.set_cons_succ]
            refine wpAnyJ_take (i := 17) (oi := { dst := some 28, op := .load _ (.tmp 27), type := _, pos := _, after := _, guard := _ }) (v := undef) rfl (by kernel_rfl) (by kernel_rfl) (by kernel_rfl) (by kernel_rfl) (fun _ _ _ h => h) (Or.inr ⟨by rfl, rfl⟩) hS5 ?_
            simp only [Act.put, List.setIfInBounds_toArray, List.set_cons_zero, List.set_cons_succ]
            refine wpAnyJ_take (i := 18) (oi := { dst := some 29, op := .move (.tmp 0), type := _, pos := _, after := _, guard := _ }) (v := undef) rfl (by kernel_rfl) (by kernel_rfl) (by kernel_rfl) (by kernel_rfl) (fun _ _ _ h => h) (Or.inr ⟨by rfl, rfl⟩) hS5 ?_
            simp only [Act.put, List.setIfInBounds_toArray, List.set_cons_zero, List.set_cons_succ]
            refine wpAnyJ_take (i := 19) (oi := { dst := some 30, op := .indexAddr _ (.tmp 29) _, type := _, pos := _, after := _, guard := _ }) (v := undef) rfl (by kernel_rfl) (by kernel_rfl) (by kernel_rfl) (by kernel_rfl) (fun _ _ _ h => h) (Or.inr ⟨by rfl, rfl⟩) hS5 ?_
            simp only [Act.put, List.setIfInBounds_toArray, List.set_cons_zero, List.set_cons_succ]
            refine wpAnyJ_take (i := 20) (oi := { dst := some 31, op := .fieldAddr _ (.tmp 30) 0, type := _, pos := _, after := _, guard := _ }) (v := undef) rfl (by kernel_rfl) (by kernel_rfl) (by kernel_rfl) (by kernel_rfl) (fun _ _ _ h => h) (Or.inr ⟨by rfl, rfl⟩) hS5 ?_
            simp only [Act.put, List.setIfInBounds_toArray, List.set_cons_zero, List.set_cons_succ]
            refine wpAnyJ_take (i := 21) (oi := { dst := some 32, op := .load _ (.tmp 31), type := _, pos := _, after := _, guard := _ }) (v := undef) rfl (by kernel_rfl) (by kernel_rfl) (by kernel_rfl) (by kernel_rfl) (fun _ _ _ h => h) (Or.inr ⟨by rfl, rfl⟩) hS5 ?_
            simp only [Act.put, List.setIfInBounds_toArray, List.set_cons_zero, List.set_cons_succ]
            refine wpAnyJ_take (i := 22) (oi := { dst := some 33, op := .binOp _ _ (.tmp 28) (.tmp 32) _, type := _, pos := _, after := _, guard := _ }) (v := undef) rfl (by kernel_rfl) (by kernel_rfl) (by kernel_rfl) (by kernel_rfl) (fun _ _ _ h => h) (Or.inr ⟨by rfl, rfl⟩) hS5 ?_
            simp only [Act.put, List.setIfInBounds_toArray, List.set_cons_zero, List.set_cons_succ]
            refine wpAnyJ_take (i := 23) (oi := { dst := some 34, op := _, type := _, pos := _, after := _, guard := _ }) (v := ?_) rfl (by kernel_rfl) (by kernel_rfl) (by kernel_rfl) (by kernel_rfl) (fun _ _ _ h => h) (Or.inl ⟨by rfl, ?_⟩) hS5 ?_
            rotate_left
            · intro wl hSw
              obtain ⟨s0, s1, s2, s3⟩ := hSw
              go_simp
              with_reducible rfl
            simp only [Act.put, List.setIfInBounds_toArray, List.set_cons_zero, List.set_cons_succ]
            refine wpAnyJ_done (by kernel_rfl) ?_ _
            go_wp2_with fail
            go_ret
            exact ⟨_, rfl, by rw [← HQQ.out, HQ.out]; rfl, HBT.out.trans ((Up.bel hU5).mono HBT.out.size)⟩
        · have hne0 : (mchkM R C xs != 0) = true := by simp [hc]
          have HQ := Lib.hid (show (sq1 R C xs && (sq1 R' C' ys && decide (R' = R))) = false by unfold sq1; simp [hc])
          clear hf hc
          go_wp2_with fail
          have hSd : W.drew.cell? ⟨wr.heap.size, 0, none⟩ = some (.int .i64 R) ∧ W.drew.cell? ⟨wr.heap.size, 1, none⟩ = some (.int .i64 C) ∧ W.drew.cell? ⟨wr.heap.size, 2, none⟩ = some (.slice a xs.length cap) ∧ W.drew.cell? ⟨g, 0, none⟩ = some (.int .i64 R) := ⟨y0, y1, y2, y3⟩
          refine wp_regionJ (S := fun w' => w'.cell? ⟨wr.heap.size, 0, none⟩ = some (.int .i64 R) ∧ w'.cell? ⟨wr.heap.size, 1, none⟩ = some (.int .i64 C) ∧ w'.cell? ⟨wr.heap.size, 2, none⟩ = some (.slice a xs.length cap) ∧ w'.cell? ⟨g, 0, none⟩ = some (.int .i64 R)) (A := fun _ => true) (by kernel_rfl) ?_
          refine wpAnyJ_take (i := 0) (oi := { dst := some 11, op := .load _ (.tmp 4), type := _, pos := _, after := _, guard := _ }) (v := ?_) rfl (by kernel_rfl) (by kernel_rfl) (by kernel_rfl) (by kernel_rfl) (fun _ _ _ h => h) (Or.inl ⟨by rfl, ?_⟩) hSd ?_
          rotate_left
          · intro wl hSw
            obtain ⟨s0, s1, s2, s3⟩ := hSw
            go_simp
            with_reducible rfl
          simp only [Act.put, List.setIfInBounds_toArray, List.set_cons_zero, List.set_cons_succ]
          refine wpAnyJ_only (i := 1) (o := { dst := some 12, op := _, type := _, pos := _, after := _, guard := _ }) (by kernel_rfl) rfl (fun K hK => ?_)
          go_simp
          refine (Few03_any _ 6 R C _ xs HVd.out HS.out).mono ?_
          rintro e w4 ⟨u4, rfl, rfl, hb4⟩
          rw [HF.out]
          have hU4 := HU0.out.drew.call hb4
          have HV4 := Lib.hid (HVd.out.below hb4 (Nat.le_refl _))
          have hS4 := HH4.out w4 hU4
          refine hK.out _ _ (fun _ => hS4) ?_
          try simp only [Act.put, List.setIfInBounds_toArray, List.set_cons_zero, List.set_cons_succ]
          clear hK K
          refine wpAnyJ_take (i := 2) (oi := { dst := some 13, op := _, type := _, pos := _, after := _, guard := _ }) (v := ?_) rfl (by kernel_rfl) (by kernel_rfl) (by kernel_rfl) (by kernel_rfl) (fun _ _ _ h => h) (Or.inl ⟨by rfl, ?_⟩) hS4 ?_
          rotate_left
          · intro wl hSw
            obtain ⟨s0, s1, s2, s3⟩ := hSw
            go_simp
            with_reducible rfl
          simp only [Act.put, List.setIfInBounds_toArray, List.set_cons_zero, List.set_cons_succ]
          refine wpAnyJ_take (i := 3) (oi := { dst := some 14, op := .move (.tmp 13), type := _, pos := _, after := _, guard := _ }) (v := ?_) rfl (by kernel_rfl) (by kernel_rfl) (by kernel_rfl) (by kernel_rfl) (fun _ _ _ h => h) (Or.inl ⟨by rfl, ?_⟩) hS4 ?_
          rotate_left
          · intro wl hSw
            obtain ⟨s0, s1, s2, s3⟩ := hSw
            go_simp
            with_reducible rfl
          simp only [Act.put, List.setIfInBounds_toArray, List.set_cons_zero, List.set_cons_succ]
          refine wpAnyJ_take (i := 4) (oi := { dst := some 15, op := .load _ (.tmp 4), type := _, pos := _, after := _, guard := _ }) (v := ?_) rfl (by kernel_rfl) (by kernel_rfl) (by kernel_rfl) (by kernel_rfl) (fun _ _ _ h => h) (Or.inl ⟨by rfl, ?_⟩) hS4 ?_
          rotate_left
          · intro wl hSw
            obtain ⟨s0, s1, s2, s3⟩ := hSw
            go_simp
            with_reducible rfl
          simp only [Act.put, List.setIfInBounds_toArray, List.set_cons_zero, List.set_cons_succ]
          refine wpAnyJ_only (i := 5) (o := { dst := some 16, op := _, type := _, pos := _, after := _, guard := _ }) (by kernel_rfl) rfl (fun K hK => ?_)
          go_simp
          refine (rMCheck_any _ R C _ xs HV4.out (fun _ => H9.out.big (by omega))).mono ?_
          rintro e w5 ⟨u5, rfl, rfl, hb5⟩
          have hU5 := hU4.call hb5
          have hS5 := HH4.out w5 hU5
          refine hK.out _ _ (fun _ => hS5) ?_
          try simp only [Act.put, List.setIfInBounds_toArray, List.set_cons_zero, List.set_cons_succ]
          clear hK K
          refine wpAnyJ_take (i := 6) (oi := { dst := some 17, op := .binOp _ _ (.tmp 16) _ _, type := _, pos := _, after := _, guard := _ }) (v := ?_) rfl (by kernel_rfl) (by kernel_rfl) (by kernel_rfl) (by kernel_rfl) (fun _ _ _ h => h) (Or.inl ⟨by rfl, ?_⟩) hS5 ?_
          rotate_left
          · intro wl hSw
            obtain ⟨s0, s1, s2, s3⟩ := hSw
            go_simp
            with_reducible rfl
          simp only [Act.put, List.setIfInBounds_toArray, List.set_cons_zero, List.set_cons_succ]
          refine wpAnyJ_take (i := 7) (oi := { dst := some 18, op := _, type := _, pos := _, after := _, guard := _ }) (v := ?_) rfl (by kernel_rfl) (by kernel_rfl) (by kernel_rfl) (by kernel_rfl) (fun _ _ _ h => h) (Or.inl ⟨by rfl, ?_⟩) hS5 ?_
          rotate_left
          · intro wl hSw
            obtain ⟨s0, s1, s2, s3⟩ := hSw
            go_simp
            with_reducible rfl
          simp only [Act.put, List.setIfInBounds_toArray, List.set_cons_zero, List.set_cons_succ]
          refine wpAnyJ_take (i := 8) (oi := { dst := some 19, op := .move (.tmp 18), type := _, pos := _, after := _, guard := _ }) (v := ?_) rfl (by kernel_rfl) (by kernel_rfl) (by kernel_rfl) (by kernel_rfl) (fun _ _ _ h => h) (Or.inl ⟨by rfl, ?_⟩) hS5 ?_
          rotate_left
          · intro wl hSw
            obtain ⟨s0, s1, s2, s3⟩ := hSw
            go_simp
            with_reducible rfl
          simp only [Act.put, List.setIfInBounds_toArray, List.set_cons_zero, List.set_cons_succ]
          refine wpAnyJ_take (i := 9) (oi := { dst := some 20, op := .fieldAddr _ (.tmp 4) 0, type := _, pos := _, after := _, guard := _ }) (v := undef) rfl (by kernel_rfl) (by kernel_rfl) (by kernel_rfl) (by kernel_rfl) (fun _ _ _ h => h) (Or.inr ⟨by rfl, rfl⟩) hS5 ?_
          simp only [Act.put, List.setIfInBounds_toArray, List.set_cons_zero, List.set_cons_succ]
          refine wpAnyJ_take (i := 10) (oi := { dst := some 21, op := .load _ (.tmp 20), type := _, pos := _, after := _, guard := _ }) (v := undef) rfl (by kernel_rfl) (by kernel_rfl) (by kernel_rfl) (by kernel_rfl) (fun _ _ _ h => h) (Or.inr ⟨by rfl, rfl⟩) hS5 ?_
          simp only [Act.put, List.setIfInBounds_toArray, List.set_cons_zero, List.set_cons_succ]
          refine wpAnyJ_take (i := 11) (oi := { dst := some 22, op := .fieldAddr _ (.tmp 4) 1, type := _, pos := _, after := _, guard := _ }) (v := undef) rfl (by kernel_rfl) (by kernel_rfl) (by kernel_rfl) (by kernel_rfl) (fun _ _ _ h => h) (Or.inr ⟨by rfl, rfl⟩) hS5 ?_
          simp only [Act.put, List.setIfInBounds_toArray, List.set_cons_zero, List.set_cons_succ]
          refine wpAnyJ_take (i := 12) (oi := { dst := some 23, op := .load _ (.tmp 22), type := _, pos := _, after := _, guard := _ }) (v := undef) rfl (by kernel_rfl) (by kernel_rfl) (by kernel_rfl) (by kernel_rfl) (fun _ _ _ h => h) (Or.inr ⟨by rfl, rfl⟩) hS5 ?_
          simp only [Act.put, List.setIfInBounds_toArray, List.set_cons_zero, List.set_cons_succ]
          refine wpAnyJ_take (i := 13) (oi := { dst := some 24, op := .binOp _ _ (.tmp 21) (.tmp 23) _, type := _, pos := _, after := _, guard := _ }) (v := undef) rfl (by kernel_rfl) (by kernel_rfl) (by kernel_rfl) (by kernel_rfl) (fun _ _ _ h => h) (Or.inr ⟨by rfl, rfl⟩) hS5 ?_
          simp only [Act.put, List.setIfInBounds_toArray, List.set_cons_zero, List.set_cons_succ]
          refine wpAnyJ_take (i := 14) (oi := { dst := some 25, op := _, type := _, pos := _, after := _, guard := _ }) (v := ?_) rfl (by kernel_rfl) (by kernel_rfl) (by kernel_rfl) (by kernel_rfl) (fun _ _ _ h => h) (Or.inl ⟨by rfl, ?_⟩) hS5 ?_
          rotate_left
          · intro wl hSw
            obtain ⟨s0, s1, s2, s3⟩ := hSw
            go_simp
            with_reducible rfl
          simp only [Act.put, List.setIfInBounds_toArray, List.set_cons_zero, List.set_cons_succ]
          refine wpAnyJ_take (i := 15) (oi := { dst := some 26, op := .move (.tmp 25), type := _, pos := _, after := _, guard := _ }) (v := ?_) rfl (by kernel_rfl) (by kernel_rfl) (by kernel_rfl) (by kernel_rfl) (fun _ _ _ h => h) (Or.inl ⟨by rfl, ?_⟩) hS5 ?_
          rotate_left
          · intro wl hSw
            obtain ⟨s0, s1, s2, s3⟩ := hSw
            go_simp
            with_reducible rfl
          simp only [Act.put, List.setIfInBounds_toArray, List.set_cons_zero, List.set_cons_succ]
          refine wpAnyJ_take (i := 16) (oi := { dst := some 27, op := .fieldAddr _ (.tmp 4) 0, type := _, pos := _, after := _, guard := _ }) (v := undef) rfl (by kernel_rfl) (by kernel_rfl) (by kernel_rfl) (by kernel_rfl) (fun _ _ _ h => h) (Or.inr ⟨by rfl, rfl⟩) hS5 ?_
          simp only [Act.put, List.setIfInBounds_toArray, List.set_cons_zero, List.set_cons_succ]
          refine wpAnyJ_take (i := 17) (oi := { dst := some 28, op := .load _ (.tmp 27), type := _, pos := _, after := _, guard := _ }) (v := undef) rfl (by kernel_rfl) (by kernel_rfl) (by kernel_rfl) (by kernel_rfl) (fun _ _ _ h => h) (Or.inr ⟨by rfl, rfl⟩) hS5 ?_
          simp only [Act.put, List.setIfInBounds_toArray, List.set_cons_zero, List.set_cons_succ]
          refine wpAnyJ_take (i := 18) (oi := { dst := some 29, op := .move (.tmp 0), type := _, pos := _, after := _, guard := _ }) (v := undef) rfl (by kernel_rfl) (by kernel_rfl) (by kernel_rfl) (by kernel_rfl) (fun _ _ _ h => h) (Or.inr ⟨by rfl, rfl⟩) hS5 ?_
          simp only [Act.put, List.setIfInBounds_toArray, List.set_cons_zero, List.set_cons_succ]
          refine wpAnyJ_take (i := 19) (oi := { dst := some 30, op := .indexAddr _ (.tmp 29) _, type := _, pos := _, after := _, guard := _ }) (v := undef) rfl (by kernel_rfl) (by kernel_rfl) (by kernel_rfl) (by kernel_rfl) (fun _ _ _ h => h) (Or.inr ⟨by rfl, rfl⟩) hS5 ?_
          simp only [Act.put, List.setIfInBounds_toArray, List.set_cons_zero, List.set_cons_succ]
          refine wpAnyJ_take (i := 20) (oi := { dst := some 31, op := .fieldAddr _ (.tmp 30) 0, type := _, pos := _, after := _, guard := _ }) (v := undef) rfl (by kernel_rfl) (by kernel_rfl) (by kernel_rfl) (by kernel_rfl) (fun _ _ _ h => h) (Or.inr ⟨by rfl, rfl⟩) hS5 ?_
          simp only [Act.put, List.setIfInBounds_toArray, List.set_cons_zero, List.set_cons_succ]
          refine wpAnyJ_take (i := 21) (oi := { dst := some 32, op := .load _ (.tmp 31), type := _, pos := _, after := _, guard := _ }) (v := undef) rfl (by kernel_rfl) (by kernel_rfl) (by kernel_rfl) (by kernel_rfl) (fun _ _ _ h => h) (Or.inr ⟨by rfl, rfl⟩) hS5 ?_
          simp only [Act.put, List.setIfInBounds_toArray, List.set_cons_zero, List.set_cons_succ]
          refine wpAnyJ_take (i := 22) (oi := { dst := some 33, op := .binOp _ _ (.tmp 28) (.tmp 32) _, type := _, pos := _, after := _, guard := _ }) (v := undef) rfl (by kernel_rfl) (by kernel_rfl) (by kernel_rfl) (by kernel_rfl) (fun _ _ _ h => h) (Or.inr ⟨by rfl, rfl⟩) hS5 ?_
          simp only [Act.put, List.setIfInBounds_toArray, List.set_cons_zero, List.set_cons_succ]
          refine wpAnyJ_take (i := 23) (oi := { dst := some 34, op := _, type := _, pos := _, after := _, guard := _ }) (v := ?_) rfl (by kernel_rfl) (by kernel_rfl) (by kernel_rfl) (by kernel_rfl) (fun _ _ _ h => h) (Or.inl ⟨by rfl, ?_⟩) hS5 ?_
          rotate_left
          · intro wl hSw
            obtain ⟨s0, s1, s2, s3⟩ := hSw
            go_simp
            with_reducible rfl
          simp only [Act.put, List.setIfInBounds_toArray, List.set_cons_zero, List.set_cons_succ]
          refine wpAnyJ_done (by kernel_rfl) ?_ _
          go_wp2_with fail
          go_ret
          exact ⟨_, rfl, by rw [← HQQ.out, HQ.out]; rfl, HBT.out.trans ((Up.bel hU5).mono HBT.out.size)⟩
    · have hA0 : Hid (1 ≤ 2 → sq1 R C xs = true) := Lib.hid (fun _ => hA.out (Nat.le_refl _))
      obtain ⟨W, hWW⟩ : ∃ W, wr.alloc (.cells #[.int .i64 R', .int .i64 C', .slice a' ys.length cap'] 24) = W := ⟨_, rfl⟩
      have HBT := Lib.hid (show Below w.heap.size w W by rw [← hWW]; exact hb.alloc hb.size _)
      have HH := Lib.hid (held_sq (h := W.heap.size) (show Blk W wr.heap.size [.int .i64 R', .int .i64 C', .slice a' ys.length cap'] 24 by rw [← hWW]; exact Blk.new wr _ _) (HKL.out.below HBT.out (Nat.le_refl _)) (d := .int .i64 R) rfl (by rw [← hWW]; simp) (Nat.lt_of_lt_of_le HKL.out.lt HBT.out.size))
      have HU0 := Lib.hid (Up.start W)
      have HVW := Lib.hid (HU.out.below HBT.out (Nat.le_refl _))
      have HVd := Lib.hid (HVW.out.below (Below.refl W.heap.size W).drew (Nat.le_refl _))
      have HH4 := Lib.hid (fun w' (H : Up W.heap.size W w') => show w'.cell? ⟨wr.heap.size, 0, none⟩ = some (.int .i64 R') ∧ w'.cell? ⟨wr.heap.size, 1, none⟩ = some (.int .i64 C') ∧ w'.cell? ⟨wr.heap.size, 2, none⟩ = some (.slice a' ys.length cap') ∧ w'.cell? ⟨g, 0, none⟩ = some (.int .i64 R) from ⟨(HH.out w' H).2.1.1, (HH.out w' H).2.1.2.1, (HH.out w' H).2.1.2.2, (HH.out w' H).2.2⟩)
      obtain ⟨-, ⟨y0, y1, y2⟩, y3⟩ := HH.out W (Up.start W)
      cases hf : few03 6 R' C' ys
      · have HF := Lib.hid hf
        have HQ := Lib.hid (show (sq1 R C xs && (sq1 R' C' ys && decide (R' = R))) = false by rw [show sq1 R' C' ys = false by unfold sq1; rw [hf]; rfl]; simp)
        clear hf
        go_wp2_with fail
        have hSd : W.drew.cell? ⟨wr.heap.size, 0, none⟩ = some (.int .i64 R') ∧ W.drew.cell? ⟨wr.heap.size, 1, none⟩ = some (.int .i64 C') ∧ W.drew.cell? ⟨wr.heap.size, 2, none⟩ = some (.slice a' ys.length cap') ∧ W.drew.cell? ⟨g, 0, none⟩ = some (.int .i64 R) := ⟨y0, y1, y2, y3⟩
        refine wp_regionJ (S := fun w' => w'.cell? ⟨wr.heap.size, 0, none⟩ = some (.int .i64 R') ∧ w'.cell? ⟨wr.heap.size, 1, none⟩ = some (.int .i64 C') ∧ w'.cell? ⟨wr.heap.size, 2, none⟩ = some (.slice a' ys.length cap') ∧ w'.cell? ⟨g, 0, none⟩ = some (.int .i64 R)) (A := fun _ => true) (by kernel_rfl) ?_
        refine wpAnyJ_take (i := 0) (oi := { dst := some 11, op := .load _ (.tmp 4), type := _, pos := _, after := _, guard := _ }) (v := ?_) rfl (by kernel_rfl) (by kernel_rfl) (by kernel_rfl) (by kernel_rfl) (fun _ _ _ h => h) (Or.inl ⟨by rfl, ?_⟩) hSd ?_
        rotate_left
        · intro wl hSw
          obtain ⟨s0, s1, s2, s3⟩ := hSw
          go_simp
          with_reducible rfl
        simp only [Act.put, List.setIfInBounds_toArray, List.set_cons_zero, List.set_cons_succ]
        refine wpAnyJ_only (i := 1) (o := { dst := some 12, op := _, type := _, pos := _, after := _, guard := _ }) (by kernel_rfl) rfl (fun K hK => ?_)
        go_simp
        refine (Few03_any _ 6 R' C' _ ys HVd.out HS'.out).mono ?_
        rintro e w4 ⟨u4, rfl, rfl, hb4⟩
        rw [HF.out]
        have hU4 := HU0.out.drew.call hb4
        have HV4 := Lib.hid (HVd.out.below hb4 (Nat.le_refl _))
        have hU5 := hU4
        have hS4 := HH4.out w4 hU4
        refine hK.out _ _ (fun _ => hS4) ?_
        try simp only [Act.put, List.setIfInBounds_toArray, List.set_cons_zero, List.set_cons_succ]
        clear hK K
        refine wpAnyJ_take (i := 2) (oi := { dst := some 13, op := _, type := _, pos := _, after := _, guard := _ }) (v := ?_) rfl (by kernel_rfl) (by kernel_rfl) (by kernel_rfl) (by kernel_rfl) (fun _ _ _ h => h) (Or.inl ⟨by rfl, ?_⟩) hS4 ?_
        rotate_left
        · intro wl hSw
          obtain ⟨s0, s1, s2, s3⟩ := hSw
          go_simp
          with_reducible rfl
        simp only [Act.put, List.setIfInBounds_toArray, List.set_cons_zero, List.set_cons_succ]
        refine wpAnyJ_take (i := 3) (oi := { dst := some 14, op := .move (.tmp 13), type := _, pos := _, after := _, guard := _ }) (v := ?_) rfl (by kernel_rfl) (by kernel_rfl) (by kernel_rfl) (by kernel_rfl) (fun _ _ _ h => h) (Or.inl ⟨by rfl, ?_⟩) hS4 ?_
        rotate_left
        · intro wl hSw
          obtain ⟨s0, s1, s2, s3⟩ := hSw
          go_simp
          with_reducible rfl
        simp only [Act.put, List.setIfInBounds_toArray, List.set_cons_zero, List.set_cons_succ]
        refine wpAnyJ_take (i := 4) (oi := { dst := some 15, op := .load _ (.tmp 4), type := _, pos := _, after := _, guard := _ }) (v := undef) rfl (by kernel_rfl) (by kernel_rfl) (by kernel_rfl) (by kernel_rfl) (fun _ _ _ h => h) (Or.inr ⟨by rfl, rfl⟩) hS4 ?_
        simp only [Act.put, List.setIfInBounds_toArray, List.set_cons_zero, List.set_cons_succ]
        refine wpAnyJ_take (i := 5) (oi := { dst := some 16, op := _, type := _, pos := _, after := _, guard := _ }) (v := undef) rfl (by kernel_rfl) (by kernel_rfl) (by kernel_rfl) (by kernel_rfl) (fun _ _ _ h => h) (Or.inr ⟨by rfl, rfl⟩) hS4 ?_
        simp only [Act.put, List.setIfInBounds_toArray, List.set_cons_zero, List.set_cons_succ]
        refine wpAnyJ_take (i := 6) (oi := { dst := some 17, op := .binOp _ _ (.tmp 16) _ _, type := _, pos := _, after := _, guard := _ }) (v := undef) rfl (by kernel_rfl) (by kernel_rfl) (by kernel_rfl) (by kernel_rfl) (fun _ _ _ h => h) (Or.inr ⟨by rfl, rfl⟩) hS4 ?_
        simp only [Act.put, List.setIfInBounds_toArray, List.set_cons_zero, List.set_cons_succ]
        refine wpAnyJ_take (i := 7) (oi := { dst := some 18, op := _, type := _, pos := _, after := _, guard := _ }) (v := ?_) rfl (by kernel_rfl) (by kernel_rfl) (by kernel_rfl) (by kernel_rfl) (fun _ _ _ h => h) (Or.inl ⟨by rfl, ?_⟩) hS4 ?_
        rotate_left
        · intro wl hSw
          obtain ⟨s0, s1, s2, s3⟩ := hSw
          go_simp
          with_reducible rfl
        simp only [Act.put, List.setIfInBounds_toArray, List.set_cons_zero, List.set_cons_succ]
        refine wpAnyJ_take (i := 8) (oi := { dst := some 19, op := .move (.tmp 18), type := _, pos := _, after := _, guard := _ }) (v := ?_) rfl (by kernel_rfl) (by kernel_rfl) (by kernel_rfl) (by kernel_rfl) (fun _ _ _ h => h) (Or.inl ⟨by rfl, ?_⟩) hS4 ?_
        rotate_left
        · intro wl hSw
          obtain ⟨s0, s1, s2, s3⟩ := hSw
          go_simp
          with_reducible rfl
        simp only [Act.put, List.setIfInBounds_toArray, List.set_cons_zero, List.set_cons_succ]
        refine wpAnyJ_take (i := 9) (oi := { dst := some 20, op := .fieldAddr _ (.tmp 4) 0, type := _, pos := _, after := _, guard := _ }) (v := undef) rfl (by kernel_rfl) (by kernel_rfl) (by kernel_rfl) (by kernel_rfl) (fun _ _ _ h => h) (Or.inr ⟨by rfl, rfl⟩) hS4 ?_
        simp only [Act.put, List.setIfInBounds_toArray, List.set_cons_zero, List.set_cons_succ]
        refine wpAnyJ_take (i := 10) (oi := { dst := some 21, op := .load _ (.tmp 20), type := _, pos := _, after := _, guard := _ }) (v := undef) rfl (by kernel_rfl) (by kernel_rfl) (by kernel_rfl) (by kernel_rfl) (fun _ _ _ h => h) (Or.inr ⟨by rfl, rfl⟩) hS4 ?_
        simp only [Act.put, List.setIfInBounds_toArray, List.set_cons_zero, List.set_cons_succ]
        refine wpAnyJ_take (i := 11) (oi := { dst := some 22, op := .fieldAddr _ (.tmp 4) 1, type := _, pos := _, after := _, guard := _ }) (v := undef) rfl (by kernel_rfl) (by kernel_rfl) (by kernel_rfl) (by kernel_rfl) (fun _ _ _ h => h) (Or.inr ⟨by rfl, rfl⟩) hS4 ?_
        simp only [Act.put, List.setIfInBounds_toArray, List.set_cons_zero, List.set_cons_succ]
        refine wpAnyJ_take (i := 12) (oi := { dst := some 23, op := .load _ (.tmp 22), type := _, pos := _, after := _, guard := _ }) (v := undef) rfl (by kernel_rfl) (by kernel_rfl) (by kernel_rfl) (by kernel_rfl) (fun _ _ _ h => h) (Or.inr ⟨by rfl, rfl⟩) hS4 ?_
        simp only [Act.put, List.setIfInBounds_toArray, List.set_cons_zero, List.set_cons_succ]
        refine wpAnyJ_take (i := 13) (oi := { dst := some 24, op := .binOp _ _ (.tmp 21) (.tmp 23) _, type := _, pos := _, after := _, guard := _ }) (v := undef) rfl (by kernel_rfl) (by kernel_rfl) (by kernel_rfl) (by kernel_rfl) (fun _ _ _ h => h) (Or.inr ⟨by rfl, rfl⟩) hS4 ?_
        simp only [Act.put, List.setIfInBounds_toArray, List.set_cons_zero, List.set_cons_succ]
        refine wpAnyJ_take (i := 14) (oi := { dst := some 25, op := _, type := _, pos := _, after := _, guard := _ }) (v := ?_) rfl (by kernel_rfl) (by kernel_rfl) (by kernel_rfl) (by kernel_rfl) (fun _ _ _ h => h) (Or.inl ⟨by rfl, ?_⟩) hS4 ?_
        rotate_left
        · intro wl hSw
          obtain ⟨s0, s1, s2, s3⟩ := hSw
          go_simp
          with_reducible rfl
        simp only [Act.put, List.setIfInBounds_toArray, List.set_cons_zero, List.set_cons_succ]
        refine wpAnyJ_take (i := 15) (oi := { dst := some 26, op := .move (.tmp 25), type := _, pos := _, after := _, guard := _ }) (v := ?_) rfl (by kernel_rfl) (by kernel_rfl) (by kernel_rfl) (by kernel_rfl) (fun _ _ _ h => h) (Or.inl ⟨by rfl, ?_⟩) hS4 ?_
        rotate_left
        · intro wl hSw
          obtain ⟨s0, s1, s2, s3⟩ := hSw
          go_simp
          with_reducible rfl
        simp only [Act.put, List.setIfInBounds_toArray, List.set_cons_zero, List.set_cons_succ]
        refine wpAnyJ_take (i := 16) (oi := { dst := some 27, op := .fieldAddr _ (.tmp 4) 0, type := _, pos := _, after := _, guard := _ }) (v := undef) rfl (by kernel_rfl) (by kernel_rfl) (by kernel_rfl) (by kernel_rfl) (fun _ _ _ h => h) (Or.inr ⟨by rfl, rfl⟩) hS4 ?_
        simp only [Act.put, List.setIfInBounds_toArray, List.set_cons_zero, List.set_cons_succ]
        refine wpAnyJ_take (i := 17) (oi := { dst := some 28, op := .load _ (.tmp 27), type := _, pos := _, after := _, guard := _ }) (v := undef) rfl (by kernel_rfl) (by kernel_rfl) (by kernel_rfl) (by kernel_rfl) (fun _ _ _ h => h) (Or.inr ⟨by rfl, rfl⟩) hS4 ?_
        simp only [Act.put, List.setIfInBounds_toArray, List.set_cons_zero, List.set_cons_succ]
        refine wpAnyJ_take (i := 18) (oi := { dst := some 29, op := .move (.tmp 0), type := _, pos := _, after := _, guard := _ }) (v := undef) rfl (by kernel_rfl) (by kernel_rfl) (by kernel_rfl) (by kernel_rfl) (fun _ _ _ h => h) (Or.inr ⟨by rfl, rfl⟩) hS4 ?_
        simp only [Act.put, List.setIfInBounds_toArray, List.set_cons_zero, List.set_cons_succ]
        refine wpAnyJ_take (i := 19) (oi := { dst := some 30, op := .indexAddr _ (.tmp 29) _, type := _, pos := _, after := _, guard := _ }) (v := undef) rfl (by kernel_rfl) (by kernel_rfl) (by kernel_rfl) (by kernel_rfl) (fun _ _ _ h => h) (Or.inr ⟨by rfl, rfl⟩) hS4 ?_
        simp only [Act.put, List.setIfInBounds_toArray, List.set_cons_zero, List.set_cons_succ]
        refine wpAnyJ_take (i := 20) (oi := { dst := some 31, op := .fieldAddr _ (.tmp 30) 0, type := _, pos := _, after := _, guard := _ }) (v := undef) rfl (by kernel_rfl) (by kernel_rfl) (by kernel_rfl) (by kernel_rfl) (fun _ _ _ h => h) (Or.inr ⟨by rfl, rfl⟩) hS4 ?_
        simp only [Act.put, List.setIfInBounds_toArray, List.set_cons_zero, List.set_cons_succ]
        refine wpAnyJ_take (i := 21) (oi := { dst := some 32, op := .load _ (.tmp 31), type := _, pos := _, after := _, guard := _ }) (v := undef) rfl (by kernel_rfl) (by kernel_rfl) (by kernel_rfl) (by kernel_rfl) (fun _ _ _ h => h) (Or.inr ⟨by rfl, rfl⟩) hS4 ?_
        simp only [Act.put, List.setIfInBounds_toArray, List.set_cons_zero, List.set_cons_succ]
        refine wpAnyJ_take (i := 22) (oi := { dst := some 33, op := .binOp _ _ (.tmp 28) (.tmp 32) _, type := _, pos := _, after := _, guard := _ }) (v := undef) rfl (by kernel_rfl) (by kernel_rfl) (by kernel_rfl) (by kernel_rfl) (fun _ _ _ h => h) (Or.inr ⟨by rfl, rfl⟩) hS4 ?_
        simp only [Act.put, List.setIfInBounds_toArray, List.set_cons_zero, List.set_cons_succ]
        refine wpAnyJ_take (i := 23) (oi := { dst := some 34, op := _, type := _, pos := _, after := _, guard := _ }) (v := ?_) rfl (by kernel_rfl) (by kernel_rfl) (by kernel_rfl) (by kernel_rfl) (fun _ _ _ h => h) (Or.inl ⟨by rfl, ?_⟩) hS4 ?_
        rotate_left
        · intro wl hSw
          obtain ⟨s0, s1, s2, s3⟩ := hSw
          go_simp
          with_reducible rfl
        simp only [Act.put, List.setIfInBounds_toArray, List.set_cons_zero, List.set_cons_succ]
        refine wpAnyJ_done (by kernel_rfl) ?_ _
        go_wp2_with fail
        go_ret
        exact ⟨_, rfl, by rw [← HQQ.out, HQ.out]; rfl, HBT.out.trans ((Up.bel hU5).mono HBT.out.size)⟩
      · have HF := Lib.hid hf
        have H9 := Lib.hid (few03_rm hf).1
        by_cases hc : mchkM R' C' ys = 0
        · have HC := Lib.hid hc
          by_cases hs : R' = C'
          · have hne1 : (R' != C') = false := by rw [hs]; simp
            by_cases h0 : R' = R
            · have hne2 : (R' != R) = false := by simp [h0]
              have HT := Lib.hid (show sq1 R' C' ys = true by unfold sq1; rw [hf, decide_eq_true hc, decide_eq_true hs]; rfl)
              have HR0 := Lib.hid h0
              clear hf hc hs h0
              go_wp2_with fail
              have hSd : W.drew.cell? ⟨wr.heap.size, 0, none⟩ = some (.int .i64 R') ∧ W.drew.cell? ⟨wr.heap.size, 1, none⟩ = some (.int .i64 C') ∧ W.drew.cell? ⟨wr.heap.size, 2, none⟩ = some (.slice a' ys.length cap') ∧ W.drew.cell? ⟨g, 0, none⟩ = some (.int .i64 R) := ⟨y0, y1, y2, y3⟩
              refine wp_regionJ (S := fun w' => w'.cell? ⟨wr.heap.size, 0, none⟩ = some (.int .i64 R') ∧ w'.cell? ⟨wr.heap.size, 1, none⟩ = some (.int .i64 C') ∧ w'.cell? ⟨wr.heap.size, 2, none⟩ = some (.slice a' ys.length cap') ∧ w'.cell? ⟨g, 0, none⟩ = some (.int .i64 R)) (A := fun _ => true) (by kernel_rfl) ?_
              refine wpAnyJ_take (i := 0) (oi := { dst := some 11, op := .load _ (.tmp 4), type := _, pos := _, after := _, guard := _ }) (v := ?_) rfl (by kernel_rfl) (by kernel_rfl) (by kernel_rfl) (by kernel_rfl) (fun _ _ _ h => h) (Or.inl ⟨by rfl, ?_⟩) hSd ?_
              rotate_left
              · intro wl hSw
                obtain ⟨s0, s1, s2, s3⟩ := hSw
                go_simp
                with_reducible rfl
              simp only [Act.put, List.setIfInBounds_toArray, List.set_cons_zero, List.set_cons_succ]
              refine wpAnyJ_only (i := 1) (o := { dst := some 12, op := _, type := _, pos := _, after := _, guard := _ }) (by kernel_rfl) rfl (fun K hK => ?_)
              go_simp
              refine (Few03_any _ 6 R' C' _ ys HVd.out HS'.out).mono ?_
              rintro e w4 ⟨u4, rfl, rfl, hb4⟩
              rw [HF.out]
              have hU4 := HU0.out.drew.call hb4
              have HV4 := Lib.hid (HVd.out.below hb4 (Nat.le_refl _))
              have hS4 := HH4.out w4 hU4
              refine hK.out _ _ (fun _ => hS4) ?_
              try simp only [Act.put, List.setIfInBounds_toArray, List.set_cons_zero, List.set_cons_succ]
              clear hK K
              refine wpAnyJ_take (i := 2) (oi := { dst := some 13, op := _, type := _, pos := _, after := _, guard := _ }) (v := ?_) rfl (by kernel_rfl) (by kernel_rfl) (by kernel_rfl) (by kernel_rfl) (fun _ _ _ h => h) (Or.inl ⟨by rfl, ?_⟩) hS4 ?_
              rotate_left
              · intro wl hSw
                obtain ⟨s0, s1, s2, s3⟩ := hSw
                go_simp
                with_reducible rfl
              simp only [Act.put, List.setIfInBounds_toArray, List.set_cons_zero, List.set_cons_succ]
              refine wpAnyJ_take (i := 3) (oi := { dst := some 14, op := .move (.tmp 13), type := _, pos := _, after := _, guard := _ }) (v := ?_) rfl (by kernel_rfl) (by kernel_rfl) (by kernel_rfl) (by kernel_rfl) (fun _ _ _ h => h) (Or.inl ⟨by rfl, ?_⟩) hS4 ?_
              rotate_left
              · intro wl hSw
                obtain ⟨s0, s1, s2, s3⟩ := hSw
                go_simp
                with_reducible rfl
              simp only [Act.put, List.setIfInBounds_toArray, List.set_cons_zero, List.set_cons_succ]
              refine wpAnyJ_take (i := 4) (oi := { dst := some 15, op := .load _ (.tmp 4), type := _, pos := _, after := _, guard := _ }) (v := ?_) rfl (by kernel_rfl) (by kernel_rfl) (by kernel_rfl) (by kernel_rfl) (fun _ _ _ h => h) (Or.inl ⟨by rfl, ?_⟩) hS4 ?_
              rotate_left
              · intro wl hSw
                obtain ⟨s0, s1, s2, s3⟩ := hSw
                go_simp
                with_reducible rfl
              simp only [Act.put, List.setIfInBounds_toArray, List.set_cons_zero, List.set_cons_succ]
              refine wpAnyJ_only (i := 5) (o := { dst := some 16, op := _, type := _, pos := _, after := _, guard := _ }) (by kernel_rfl) rfl (fun K hK => ?_)
              go_simp
              refine (rMCheck_any _ R' C' _ ys HV4.out (fun _ => H9.out.big (by omega))).mono ?_
              rintro e w5 ⟨u5, rfl, rfl, hb5⟩
              rw [HC.out]
              have hU5 := hU4.call hb5
              have hS5 := HH4.out w5 hU5
              refine hK.out _ _ (fun _ => hS5) ?_
              try simp only [Act.put, List.setIfInBounds_toArray, List.set_cons_zero, List.set_cons_succ]
              clear hK K
              refine wpAnyJ_take (i := 6) (oi := { dst := some 17, op := .binOp _ _ (.tmp 16) _ _, type := _, pos := _, after := _, guard := _ }) (v := ?_) rfl (by kernel_rfl) (by kernel_rfl) (by kernel_rfl) (by kernel_rfl) (fun _ _ _ h => h) (Or.inl ⟨by rfl, ?_⟩) hS5 ?_
              rotate_left
              · intro wl hSw
                obtain ⟨s0, s1, s2, s3⟩ := hSw
                go_simp
                with_reducible rfl
              simp only [Act.put, List.setIfInBounds_toArray, List.set_cons_zero, List.set_cons_succ]
              refine wpAnyJ_take (i := 7) (oi := { dst := some 18, op := _, type := _, pos := _, after := _, guard := _ }) (v := ?_) rfl (by kernel_rfl) (by kernel_rfl) (by kernel_rfl) (by kernel_rfl) (fun _ _ _ h => h) (Or.inl ⟨by rfl, ?_⟩) hS5 ?_
              rotate_left
              · intro wl hSw
                obtain ⟨s0, s1, s2, s3⟩ := hSw
                go_simp
                with_reducible rfl
              simp only [Act.put, List.setIfInBounds_toArray, List.set_cons_zero, List.set_cons_succ]
              refine wpAnyJ_take (i := 8) (oi := { dst := some 19, op := .move (.tmp 18), type := _, pos := _, after := _, guard := _ }) (v := ?_) rfl (by kernel_rfl) (by kernel_rfl) (by kernel_rfl) (by kernel_rfl) (fun _ _ _ h => h) (Or.inl ⟨by rfl, ?_⟩) hS5 ?_
              rotate_left
              · intro wl hSw
                obtain ⟨s0, s1, s2, s3⟩ := hSw
                go_simp
                with_reducible rfl
              simp only [Act.put, List.setIfInBounds_toArray, List.set_cons_zero, List.set_cons_succ]
              refine wpAnyJ_take (i := 9) (oi := { dst := some 20, op := .fieldAddr _ (.tmp 4) 0, type := _, pos := _, after := _, guard := _ }) (v := ?_) rfl (by kernel_rfl) (by kernel_rfl) (by kernel_rfl) (by kernel_rfl) (fun _ _ _ h => h) (Or.inl ⟨by rfl, ?_⟩) hS5 ?_
              rotate_left
              · intro wl hSw
                obtain ⟨s0, s1, s2, s3⟩ := hSw
                go_simp
                with_reducible rfl
              simp only [Act.put, List.setIfInBounds_toArray, List.set_cons_zero, List.set_cons_succ]
              refine wpAnyJ_take (i := 10) (oi := { dst := some 21, op := .load _ (.tmp 20), type := _, pos := _, after := _, guard := _ }) (v := ?_) rfl (by kernel_rfl) (by kernel_rfl) (by kernel_rfl) (by kernel_rfl) (fun _ _ _ h => h) (Or.inl ⟨by rfl, ?_⟩) hS5 ?_
              rotate_left
              · intro wl hSw
                obtain ⟨s0, s1, s2, s3⟩ := hSw
                go_simp
                with_reducible rfl
              simp only [Act.put, List.setIfInBounds_toArray, List.set_cons_zero, List.set_cons_succ]
              refine wpAnyJ_take (i := 11) (oi := { dst := some 22, op := .fieldAddr _ (.tmp 4) 1, type := _, pos := _, after := _, guard := _ }) (v := ?_) rfl (by kernel_rfl) (by kernel_rfl) (by kernel_rfl) (by kernel_rfl) (fun _ _ _ h => h) (Or.inl ⟨by rfl, ?_⟩) hS5 ?_
              rotate_left
              · intro wl hSw
                obtain ⟨s0, s1, s2, s3⟩ := hSw
                go_simp
                with_reducible rfl
              simp only [Act.put, List.setIfInBounds_toArray, List.set_cons_zero, List.set_cons_succ]
              refine wpAnyJ_take (i := 12) (oi := { dst := some 23, op := .load _ (.tmp 22), type := _, pos := _, after := _, guard := _ }) (v := ?_) rfl (by kernel_rfl) (by kernel_rfl) (by kernel_rfl) (by kernel_rfl) (fun _ _ _ h => h) (Or.inl ⟨by rfl, ?_⟩) hS5 ?_
              rotate_left
              · intro wl hSw
                obtain ⟨s0, s1, s2, s3⟩ := hSw
                go_simp
                with_reducible rfl
              simp only [Act.put, List.setIfInBounds_toArray, List.set_cons_zero, List.set_cons_succ]
              refine wpAnyJ_take (i := 13) (oi := { dst := some 24, op := .binOp _ _ (.tmp 21) (.tmp 23) _, type := _, pos := _, after := _, guard := _ }) (v := ?_) rfl (by kernel_rfl) (by kernel_rfl) (by kernel_rfl) (by kernel_rfl) (fun _ _ _ h => h) (Or.inl ⟨by rfl, ?_⟩) hS5 ?_
              rotate_left
              · intro wl hSw
                obtain ⟨s0, s1, s2, s3⟩ := hSw
                go_simp
                with_reducible rfl
              simp only [Act.put, List.setIfInBounds_toArray, List.set_cons_zero, List.set_cons_succ]
              refine wpAnyJ_take (i := 14) (oi := { dst := some 25, op := _, type := _, pos := _, after := _, guard := _ }) (v := ?_) rfl (by kernel_rfl) (by kernel_rfl) (by kernel_rfl) (by kernel_rfl) (fun _ _ _ h => h) (Or.inl ⟨by rfl, ?_⟩) hS5 ?_
              rotate_left
              · intro wl hSw
                obtain ⟨s0, s1, s2, s3⟩ := hSw
                go_simp
                with_reducible rfl
              simp only [Act.put, List.setIfInBounds_toArray, List.set_cons_zero, List.set_cons_succ]
              refine wpAnyJ_take (i := 15) (oi := { dst := some 26, op := .move (.tmp 25), type := _, pos := _, after := _, guard := _ }) (v := ?_) rfl (by kernel_rfl) (by kernel_rfl) (by kernel_rfl) (by kernel_rfl) (fun _ _ _ h => h) (Or.inl ⟨by rfl, ?_⟩) hS5 ?_
              rotate_left
              · intro wl hSw
                obtain ⟨s0, s1, s2, s3⟩ := hSw
                go_simp
                with_reducible rfl
              simp only [Act.put, List.setIfInBounds_toArray, List.set_cons_zero, List.set_cons_succ]
              refine wpAnyJ_take (i := 16) (oi := { dst := some 27, op := .fieldAddr _ (.tmp 4) 0, type := _, pos := _, after := _, guard := _ }) (v := ?_) rfl (by kernel_rfl) (by kernel_rfl) (by kernel_rfl) (by kernel_rfl) (fun _ _ _ h => h) (Or.inl ⟨by rfl, ?_⟩) hS5 ?_
              rotate_left
              · intro wl hSw
                obtain ⟨s0, s1, s2, s3⟩ := hSw
                go_simp
                with_reducible rfl
              simp only [Act.put, List.setIfInBounds_toArray, List.set_cons_zero, List.set_cons_succ]
              refine wpAnyJ_take (i := 17) (oi := { dst := some 28, op := .load _ (.tmp 27), type := _, pos := _, after := _, guard := _ }) (v := ?_) rfl (by kernel_rfl) (by kernel_rfl) (by kernel_rfl) (by kernel_rfl) (fun _ _ _ h => h) (Or.inl ⟨by rfl, ?_⟩) hS5 ?_
              rotate_left
              · intro wl hSw
                obtain ⟨s0, s1, s2, s3⟩ := hSw
                go_simp
                with_reducible rfl
              simp only [Act.put, List.setIfInBounds_toArray, List.set_cons_zero, List.set_cons_succ]
              refine wpAnyJ_take (i := 18) (oi := { dst := some 29, op := .move (.tmp 0), type := _, pos := _, after := _, guard := _ }) (v := ?_) rfl (by kernel_rfl) (by kernel_rfl) (by kernel_rfl) (by kernel_rfl) (fun _ _ _ h => h) (Or.inl ⟨by rfl, ?_⟩) hS5 ?_
              rotate_left
              · intro wl hSw
                obtain ⟨s0, s1, s2, s3⟩ := hSw
                go_simp
                with_reducible rfl
              simp only [Act.put, List.setIfInBounds_toArray, List.set_cons_zero, List.set_cons_succ]
              refine wpAnyJ_take (i := 19) (oi := { dst := some 30, op := .indexAddr _ (.tmp 29) _, type := _, pos := _, after := _, guard := _ }) (v := ?_) rfl (by kernel_rfl) (by kernel_rfl) (by kernel_rfl) (by kernel_rfl) (fun _ _ _ h => h) (Or.inl ⟨by rfl, ?_⟩) hS5 ?_
              rotate_left
              · intro wl hSw
                obtain ⟨s0, s1, s2, s3⟩ := hSw
                go_simp
                with_reducible rfl
              simp only [Act.put, List.setIfInBounds_toArray, List.set_cons_zero, List.set_cons_succ]
              refine wpAnyJ_take (i := 20) (oi := { dst := some 31, op := .fieldAddr _ (.tmp 30) 0, type := _, pos := _, after := _, guard := _ }) (v := ?_) rfl (by kernel_rfl) (by kernel_rfl) (by kernel_rfl) (by kernel_rfl) (fun _ _ _ h => h) (Or.inl ⟨by rfl, ?_⟩) hS5 ?_
              rotate_left
              · intro wl hSw
                obtain ⟨s0, s1, s2, s3⟩ := hSw
                go_simp
                with_reducible rfl
              simp only [Act.put, List.setIfInBounds_toArray, List.set_cons_zero, List.set_cons_succ]
              refine wpAnyJ_take (i := 21) (oi := { dst := some 32, op := .load _ (.tmp 31), type := _, pos := _, after := _, guard := _ }) (v := ?_) rfl (by kernel_rfl) (by kernel_rfl) (by kernel_rfl) (by kernel_rfl) (fun _ _ _ h => h) (Or.inl ⟨by rfl, ?_⟩) hS5 ?_
              rotate_left
              · intro wl hSw
                obtain ⟨s0, s1, s2, s3⟩ := hSw
                go_simp
                with_reducible rfl
              simp only [Act.put, List.setIfInBounds_toArray, List.set_cons_zero, List.set_cons_succ]
              refine wpAnyJ_take (i := 22) (oi := { dst := some 33, op := .binOp _ _ (.tmp 28) (.tmp 32) _, type := _, pos := _, after := _, guard := _ }) (v := ?_) rfl (by kernel_rfl) (by kernel_rfl) (by kernel_rfl) (by kernel_rfl) (fun _ _ _ h => h) (Or.inl ⟨by rfl, ?_⟩) hS5 ?_
              rotate_left
              · intro wl hSw
                obtain ⟨s0, s1, s2, s3⟩ := hSw
                go_simp
                with_reducible rfl
              simp only [Act.put, List.setIfInBounds_toArray, List.set_cons_zero, List.set_cons_succ]
              refine wpAnyJ_take (i := 23) (oi := { dst := some 34, op := _, type := _, pos := _, after := _, guard := _ }) (v := ?_) rfl (by kernel_rfl) (by kernel_rfl) (by kernel_rfl) (by kernel_rfl) (fun _ _ _ h => h) (Or.inl ⟨by rfl, ?_⟩) hS5 ?_
              rotate_left
              · intro wl hSw
                obtain ⟨s0, s1, s2, s3⟩ := hSw
                go_simp
                with_reducible rfl
              simp only [Act.put, List.setIfInBounds_toArray, List.set_cons_zero, List.set_cons_succ]
              refine wpAnyJ_done (by kernel_rfl) ?_ _
              go_wp2_with fail
              go_roundw
              case rel => exact ⟨2, by omega, by go_num, hA0, Lib.hid (fun _ => ⟨HT.out, HR0.out⟩), HBT.out.trans ((Up.bel hU5).mono HBT.out.size)⟩
              case measure => simp [intOf]
            · have hne2 : (R' != R) = true := by simp [h0]
              have HQ := Lib.hid (show (sq1 R C xs && (sq1 R' C' ys && decide (R' = R))) = false by simp [h0])
              clear hf hc hs h0
              go_wp2_with fail
              have hSd : W.drew.cell? ⟨wr.heap.size, 0, none⟩ = some (.int .i64 R') ∧ W.drew.cell? ⟨wr.heap.size, 1, none⟩ = some (.int .i64 C') ∧ W.drew.cell? ⟨wr.heap.size, 2, none⟩ = some (.slice a' ys.length cap') ∧ W.drew.cell? ⟨g, 0, none⟩ = some (.int .i64 R) := ⟨y0, y1, y2, y3⟩
              refine wp_regionJ (S := fun w' => w'.cell? ⟨wr.heap.size, 0, none⟩ = some (.int .i64 R') ∧ w'.cell? ⟨wr.heap.size, 1, none⟩ = some (.int .i64 C') ∧ w'.cell? ⟨wr.heap.size, 2, none⟩ = some (.slice a' ys.length cap') ∧ w'.cell? ⟨g, 0, none⟩ = some (.int .i64 R)) (A := fun _ => true) (by kernel_rfl) ?_
              refine wpAnyJ_take (i := 0) (oi := { dst := some 11, op := .load _ (.tmp 4), type := _, pos := _, after := _, guard := _ }) (v := ?_) rfl (by kernel_rfl) (by kernel_rfl) (by kernel_rfl) (by kernel_rfl) (fun _ _ _ h => h) (Or.inl ⟨by rfl, ?_⟩) hSd ?_
              rotate_left
              · intro wl hSw
                obtain ⟨s0, s1, s2, s3⟩ := hSw
                go_simp
                with_reducible rfl
              simp only [Act.put, List.setIfInBounds_toArray, List.set_cons_zero, List.set_cons_succ]
              refine wpAnyJ_only (i := 1) (o := { dst := some 12, op := _, type := _, pos := _, after := _, guard := _ }) (by kernel_rfl) rfl (fun K hK => ?_)
              go_simp
              refine (Few03_any _ 6 R' C' _ ys HVd.out HS'.out).mono ?_
              rintro e w4 ⟨u4, rfl, rfl, hb4⟩
              rw [HF.out]
              have hU4 := HU0.out.drew.call hb4
              have HV4 := Lib.hid (HVd.out.below hb4 (Nat.le_refl _))
              have hS4 := HH4.out w4 hU4
              refine hK.out _ _ (fun _ => hS4) ?_
              try simp only [Act.put, List.setIfInBounds_toArray, List.set_cons_zero, List.set_cons_succ]
              clear hK K
              refine wpAnyJ_take (i := 2) (oi := { dst := some 13, op := _, type := _, pos := _, after := _, guard := _ }) (v := ?_) rfl (by kernel_rfl) (by kernel_rfl) (by kernel_rfl) (by kernel_rfl) (fun _ _ _ h => h) (Or.inl ⟨by rfl, ?_⟩) hS4 ?_
              rotate_left
              · intro wl hSw
                obtain ⟨s0, s1, s2, s3⟩ := hSw
                go_simp
                with_reducible rfl
              simp only [Act.put, List.setIfInBounds_toArray, List.set_cons_zero, List.set_cons_succ]
              refine wpAnyJ_take (i := 3) (oi := { dst := some 14, op := .move (.tmp 13), type := _, pos := _, after := _, guard := _ }) (v := ?_) rfl (by kernel_rfl) (by kernel_rfl) (by kernel_rfl) (by kernel_rfl) (fun _ _ _ h => h) (Or.inl ⟨by rfl, ?_⟩) hS4 ?_
              rotate_left
              · intro wl hSw
                obtain ⟨s0, s1, s2, s3⟩ := hSw
                go_simp
                with_reducible rfl
              simp only [Act.put, List.setIfInBounds_toArray, List.set_cons_zero, List.set_cons_succ]
              refine wpAnyJ_take (i := 4) (oi := { dst := some 15, op := .load _ (.tmp 4), type := _, pos := _, after := _, guard := _ }) (v := ?_) rfl (by kernel_rfl) (by kernel_rfl) (by kernel_rfl) (by kernel_rfl) (fun _ _ _ h => h) (Or.inl ⟨by rfl, ?_⟩) hS4 ?_
              rotate_left
              · intro wl hSw
                obtain ⟨s0, s1, s2, s3⟩ := hSw
                go_simp
                with_reducible rfl
              simp only [Act.put, List.setIfInBounds_toArray, List.set_cons_zero, List.set_cons_succ]
              refine wpAnyJ_only (i := 5) (o := { dst := some 16, op := _, type := _, pos := _, after := _, guard := _ }) (by kernel_rfl) rfl (fun K hK => ?_)
              go_simp
              refine (rMCheck_any _ R' C' _ ys HV4.out (fun _ => H9.out.big (by omega))).mono ?_
              rintro e w5 ⟨u5, rfl, rfl, hb5⟩
              rw [HC.out]
              have hU5 := hU4.call hb5
              have hS5 := HH4.out w5 hU5
              refine hK.out _ _ (fun _ => hS5) ?_
              try simp only [Act.put, List.setIfInBounds_toArray, List.set_cons_zero, List.set_cons_succ]
              clear hK K
              refine wpAnyJ_take (i := 6) (oi := { dst := some 17, op := .binOp _ _ (.tmp 16) _ _, type := _, pos := _, after := _, guard := _ }) (v := ?_) rfl (by kernel_rfl) (by kernel_rfl) (by kernel_rfl) (by kernel_rfl) (fun _ _ _ h => h) (Or.inl ⟨by rfl, ?_⟩) hS5 ?_
              rotate_left
              · intro wl hSw
                obtain ⟨s0, s1, s2, s3⟩ := hSw
                go_simp
                with_reducible rfl
              simp only [Act.put, List.setIfInBounds_toArray, List.set_cons_zero, List.set_cons_succ]
              refine wpAnyJ_take (i := 7) (oi := { dst := some 18, op := _, type := _, pos := _, after := _, guard := _ }) (v := ?_) rfl (by kernel_rfl) (by kernel_rfl) (by kernel_rfl) (by kernel_rfl) (fun _ _ _ h => h) (Or.inl ⟨by rfl, ?_⟩) hS5 ?_
              rotate_left
              · intro wl hSw
                obtain ⟨s0, s1, s2, s3⟩ := hSw
                go_simp
                with_reducible rfl
              simp only [Act.put, List.setIfInBounds_toArray, List.set_cons_zero, List.set_cons_succ]
              refine wpAnyJ_take (i := 8) (oi := { dst := some 19, op := .move (.tmp 18), type := _, pos := _, after := _, guard := _ }) (v := ?_) rfl (by kernel_rfl) (by kernel_rfl) (by kernel_rfl) (by kernel_rfl) (fun _ _ _ h => h) (Or.inl ⟨by rfl, ?_⟩) hS5 ?_
              rotate_left
              · intro wl hSw
                obtain ⟨s0, s1, s2, s3⟩ := hSw
                go_simp
                with_reducible rfl
              simp only [Act.put, List.setIfInBounds_toArray, List.set_cons_zero, List.set_cons_succ]
              refine wpAnyJ_take (i := 9) (oi := { dst := some 20, op := .fieldAddr _ (.tmp 4) 0, type := _, pos := _, after := _, guard := _ }) (v := ?_) rfl (by kernel_rfl) (by kernel_rfl) (by kernel_rfl) (by kernel_rfl) (fun _ _ _ h => h) (Or.inl ⟨by rfl, ?_⟩) hS5 ?_
              rotate_left
              · intro wl hSw
                obtain ⟨s0, s1, s2, s3⟩ := hSw
                go_simp
                with_reducible rfl
              simp only [Act.put, List.setIfInBounds_toArray, List.set_cons_zero, List.set_cons_succ]
              refine wpAnyJ_take (i := 10) (oi := { dst := some 21, op := .load _ (.tmp 20), type := _, pos := _, after := _, guard := _ }) (v := ?_) rfl (by kernel_rfl) (by kernel_rfl) (by kernel_rfl) (by kernel_rfl) (fun _ _ _ h => h) (Or.inl ⟨by rfl, ?_⟩) hS5 ?_
              rotate_left
              · intro wl hSw
                obtain ⟨s0, s1, s2, s3⟩ := hSw
                go_simp
                with_reducible rfl
              simp only [Act.put, List.setIfInBounds_toArray, List.set_cons_zero, List.set_cons_succ]
              refine wpAnyJ_take (i := 11) (oi := { dst := some 22, op := .fieldAddr _ (.tmp 4) 1, type := _, pos := _, after := _, guard := _ }) (v := ?_) rfl (by kernel_rfl) (by kernel_rfl) (by kernel_rfl) (by kernel_rfl) (fun _ _ _ h => h) (Or.inl ⟨by rfl, ?_⟩) hS5 ?_
              rotate_left
              · intro wl hSw
                obtain ⟨s0, s1, s2, s3⟩ := hSw
                go_simp
                with_reducible rfl
              simp only [Act.put, List.setIfInBounds_toArray, List.set_cons_zero, List.set_cons_succ]
              refine wpAnyJ_take (i := 12) (oi := { dst := some 23, op := .load _ (.tmp 22), type := _, pos := _, after := _, guard := _ }) (v := ?_) rfl (by kernel_rfl) (by kernel_rfl) (by kernel_rfl) (by kernel_rfl) (fun _ _ _ h => h) (Or.inl ⟨by rfl, ?_⟩) hS5 ?_
              rotate_left
              · intro wl hSw
                obtain ⟨s0, s1, s2, s3⟩ := hSw
                go_simp
                with_reducible rfl
              simp only [Act.put, List.setIfInBounds_toArray, List.set_cons_zero, List.set_cons_succ]
              refine wpAnyJ_take (i := 13) (oi := { dst := some 24, op := .binOp _ _ (.tmp 21) (.tmp 23) _, type := _, pos := _, after := _, guard := _ }) (v := ?_) rfl (by kernel_rfl) (by kernel_rfl) (by kernel_rfl) (by kernel_rfl) (fun _ _ _ h => h) (Or.inl ⟨by rfl, ?_⟩) hS5 ?_
              rotate_left
              · intro wl hSw
                obtain ⟨s0, s1, s2, s3⟩ := hSw
                go_simp
                with_reducible rfl
              simp only [Act.put, List.setIfInBounds_toArray, List.set_cons_zero, List.set_cons_succ]
              refine wpAnyJ_take (i := 14) (oi := { dst := some 25, op := _, type := _, pos := _, after := _, guard := _ }) (v := ?_) rfl (by kernel_rfl) (by kernel_rfl) (by kernel_rfl) (by kernel_rfl) (fun _ _ _ h => h) (Or.inl ⟨by rfl, ?_⟩) hS5 ?_
              rotate_left
              · intro wl hSw
                obtain ⟨s0, s1, s2, s3⟩ := hSw
                go_simp
                with_reducible rfl
              simp only [Act.put, List.setIfInBounds_toArray, List.set_cons_zero, List.set_cons_succ]
              refine wpAnyJ_take (i := 15) (oi := { dst := some 26, op := .move (.tmp 25), type := _, pos := _, after := _, guard := _ }) (v := ?_) rfl (by kernel_rfl) (by kernel_rfl) (by kernel_rfl) (by kernel_rfl) (fun _ _ _ h => h) (Or.inl ⟨by rfl, ?_⟩) hS5 ?_
              rotate_left
              · intro wl hSw
                obtain ⟨s0, s1, s2, s3⟩ := hSw
                go_simp
                with_reducible rfl
              simp only [Act.put, List.setIfInBounds_toArray, List.set_cons_zero, List.set_cons_succ]
              refine wpAnyJ_take (i := 16) (oi := { dst := some 27, op := .fieldAddr _ (.tmp 4) 0, type := _, pos := _, after := _, guard := _ }) (v := ?_) rfl (by kernel_rfl) (by kernel_rfl) (by kernel_rfl) (by kernel_rfl) (fun _ _ _ h => h) (Or.inl ⟨by rfl, ?_⟩) hS5 ?_
              rotate_left
              · intro wl hSw
                obtain ⟨s0, s1, s2, s3⟩ := hSw
                go_simp
                with_reducible rfl
              simp only [Act.put, List.setIfInBounds_toArray, List.set_cons_zero, List.set_cons_succ]
              refine wpAnyJ_take (i := 17) (oi := { dst := some 28, op := .load _ (.tmp 27), type := _, pos := _, after := _, guard := _ }) (v := ?_) rfl (by kernel_rfl) (by kernel_rfl) (by kernel_rfl) (by kernel_rfl) (fun _ _ _ h => h) (Or.inl ⟨by rfl, ?_⟩) hS5 ?_
              rotate_left
              · intro wl hSw
                obtain ⟨s0, s1, s2, s3⟩ := hSw
                go_simp
                with_reducible rfl
              simp only [Act.put, List.setIfInBounds_toArray, List.set_cons_zero, List.set_cons_succ]
              refine wpAnyJ_take (i := 18) (oi := { dst := some 29, op := .move (.tmp 0), type := _, pos := _, after := _, guard := _ }) (v := ?_) rfl (by kernel_rfl) (by kernel_rfl) (by kernel_rfl) (by kernel_rfl) (fun _ _ _ h => h) (Or.inl ⟨by rfl, ?_⟩) hS5 ?_
              rotate_left
              · intro wl hSw
                obtain ⟨s0, s1, s2, s3⟩ := hSw
                go_simp
                with_reducible rfl
              simp only [Act.put, List.setIfInBounds_toArray, List.set_cons_zero, List.set_cons_succ]
              refine wpAnyJ_take (i := 19) (oi := { dst := some 30, op := .indexAddr _ (.tmp 29) _, type := _, pos := _, after := _, guard := _ }) (v := ?_) rfl (by kernel_rfl) (by kernel_rfl) (by kernel_rfl) (by kernel_rfl) (fun _ _ _ h => h) (Or.inl ⟨by rfl, ?_⟩) hS5 ?_
              rotate_left
              · intro wl hSw
                obtain ⟨s0, s1, s2, s3⟩ := hSw
                go_simp
                with_reducible rfl
              simp only [Act.put, List.setIfInBounds_toArray, List.set_cons_zero, List.set_cons_succ]
              refine wpAnyJ_take (i := 20) (oi := { dst := some 31, op := .fieldAddr _ (.tmp 30) 0, type := _, pos := _, after := _, guard := _ }) (v := ?_) rfl (by kernel_rfl) (by kernel_rfl) (by kernel_rfl) (by kernel_rfl) (fun _ _ _ h => h) (Or.inl ⟨by rfl, ?_⟩) hS5 ?_
              rotate_left
              · intro wl hSw
                obtain ⟨s0, s1, s2, s3⟩ := hSw
                go_simp
                with_reducible rfl
              simp only [Act.put, List.setIfInBounds_toArray, List.set_cons_zero, List.set_cons_succ]
              refine wpAnyJ_take (i := 21) (oi := { dst := some 32, op := .load _ (.tmp 31), type := _, pos := _, after := _, guard := _ }) (v := ?_) rfl (by kernel_rfl) (by kernel_rfl) (by kernel_rfl) (by kernel_rfl) (fun _ _ _ h => h) (Or.inl ⟨by rfl, ?_⟩) hS5 ?_
              rotate_left
              · intro wl hSw
                obtain ⟨s0, s1, s2, s3⟩ := hSw
                go_simp
                with_reducible rfl
              simp only [Act.put, List.setIfInBounds_toArray, List.set_cons_zero, List.set_cons_succ]
              refine wpAnyJ_take (i := 22) (oi := { dst := some 33, op := .binOp _ _ (.tmp 28) (.tmp 32) _, type := _, pos := _, after := _, guard := _ }) (v := ?_) rfl (by kernel_rfl) (by kernel_rfl) (by kernel_rfl) (by kernel_rfl) (fun _ _ _ h => h) (Or.inl ⟨by rfl, ?_⟩) hS5 ?_
              rotate_left
              · intro wl hSw
                obtain ⟨s0, s1, s2, s3⟩ := hSw
                go_simp
                with_reducible rfl
              simp only [Act.put, List.setIfInBounds_toArray, List.set_cons_zero, List.set_cons_succ]
              refine wpAnyJ_take (i := 23) (oi := { dst := some 34, op := _, type := _, pos := _, after := _, guard := _ }) (v := ?_) rfl (by kernel_rfl) (by kernel_rfl) (by kernel_rfl) (by kernel_rfl) (fun _ _ _ h => h) (Or.inl ⟨by rfl, ?_⟩) hS5 ?_
              rotate_left
              · intro wl hSw
                obtain ⟨s0, s1, s2, s3⟩ := hSw
                go_simp
                with_reducible rfl
              simp only [Act.put, List.setIfInBounds_toArray, List.set_cons_zero, List.set_cons_succ]
              refine wpAnyJ_done (by kernel_rfl) ?_ _
              go_wp2_with fail
              go_ret
              exact ⟨_, rfl, by rw [← HQQ.out, HQ.out]; rfl, HBT.out.trans ((Up.bel hU5).mono HBT.out.size)⟩
          · have hne1 : (R' != C') = true := by simp [hs]
            have HQ := Lib.hid (show (sq1 R C xs && (sq1 R' C' ys && decide (R' = R))) = false by rw [show sq1 R' C' ys = false by unfold sq1; simp [hs]]; simp)
            clear hf hc hs
            go_wp2_with fail
            have hSd : W.drew.cell? ⟨wr.heap.size, 0, none⟩ = some (.int .i64 R') ∧ W.drew.cell? ⟨wr.heap.size, 1, none⟩ = some (.int .i64 C') ∧ W.drew.cell? ⟨wr.heap.size, 2, none⟩ = some (.slice a' ys.length cap') ∧ W.drew.cell? ⟨g, 0, none⟩ = some (.int .i64 R) := ⟨y0, y1, y2, y3⟩
            refine wp_regionJ (S := fun w' => w'.cell? ⟨wr.heap.size, 0, none⟩ = some (.int .i64 R') ∧ w'.cell? ⟨wr.heap.size, 1, none⟩ = some (.int .i64 C') ∧ w'.cell? ⟨wr.heap.size, 2, none⟩ = some (.slice a' ys.length cap') ∧ w'.cell? ⟨g, 0, none⟩ = some (.int .i64 R)) (A := fun _ => true) (by kernel_rfl) ?_
            refine wpAnyJ_take (i := 0) (oi := { dst := some 11, op := .load _ (.tmp 4), type := _, pos := _, after := _, guard := _ }) (v := ?_) rfl (by kernel_rfl) (by kernel_rfl) (by kernel_rfl) (by kernel_rfl) (fun _ _ _ h => h) (Or.inl ⟨by rfl, ?_⟩) hSd ?_
            rotate_left
            · intro wl hSw
              obtain ⟨s0, s1, s2, s3⟩ := hSw
              go_simp
              with_reducible rfl
            simp only [Act.put, List.setIfInBounds_toArray, List.set_cons_zero, List.set_cons_succ]
            refine wpAnyJ_only (i := 1) (o := { dst := some 12, op := _, type := _, pos := _, after := _, guard := _ }) (by kernel_rfl) rfl (fun K hK => ?_)
            go_simp
            refine (Few03_any _ 6 R' C' _ ys HVd.out HS'.out).mono ?_
            rintro e w4 ⟨u4, rfl, rfl, hb4⟩
            rw [HF.out]
            have hU4 := HU0.out.drew.call hb4
            have HV4 := Lib.hid (HVd.out.below hb4 (Nat.le_refl _))
            have hS4 := HH4.out w4 hU4
            refine hK.out _ _ (fun _ => hS4) ?_
            try simp only [Act.put, List.setIfInBounds_toArray, List.set_cons_zero, List.set_cons_succ]
            clear hK K
            refine wpAnyJ_take (i := 2) (oi := { dst := some 13, op := _, type := _, pos := _, after := _, guard := _ }) (v := ?_) rfl (by kernel_rfl) (by kernel_rfl) (by kernel_rfl) (by kernel_rfl) (fun _ _ _ h => h) (Or.inl ⟨by rfl, ?_⟩) hS4 ?_
            rotate_left
            · intro wl hSw
              obtain ⟨s0, s1, s2, s3⟩ := hSw
              go_simp
              with_reducible rfl
            simp only [Act.put, List.setIfInBounds_toArray, List.set_cons_zero, List.set_cons_succ]
            refine wpAnyJ_take (i := 3) (oi := { dst := some 14, op := .move (.tmp 13), type := _, pos := _, after := _, guard := _ }) (v := ?_) rfl (by kernel_rfl) (by kernel_rfl) (by kernel_rfl) (by kernel_rfl) (fun _ _ _ h => h) (Or.inl ⟨by rfl, ?_⟩) hS4 ?_
            rotate_left
            · intro wl hSw
              obtain ⟨s0, s1, s2, s3⟩ := hSw
              go_simp
              with_reducible rfl
            simp only [Act.put, List.setIfInBounds_toArray, List.set_cons_zero, List.set_cons_succ]
            refine wpAnyJ_take (i := 4) (oi := { dst := some 15, op := .load _ (.tmp 4), type := _, pos := _, after := _, guard := _ }) (v := ?_) rfl (by kernel_rfl) (by kernel_rfl) (by kernel_rfl) (by kernel_rfl) (fun _ _ _ h => h) (Or.inl ⟨by rfl, ?_⟩) hS4 ?_
            rotate_left
            · intro wl hSw
              obtain ⟨s0, s1, s2, s3⟩ := hSw
              go_simp
              with_reducible rfl
            simp only [Act.put, List.setIfInBounds_toArray, List.set_cons_zero, List.set_cons_succ]
            refine wpAnyJ_only (i := 5) (o := { dst := some 16, op := _, type := _, pos := _, after := _, guard := _ }) (by kernel_rfl) rfl (fun K hK => ?_)
            go_simp
            refine (rMCheck_any _ R' C' _ ys HV4.out (fun _ => H9.out.big (by omega))).mono ?_
            rintro e w5 ⟨u5, rfl, rfl, hb5⟩
            rw [HC.out]
            have hU5 := hU4.call hb5
            have hS5 := HH4.out w5 hU5
            refine hK.out _ _ (fun _ => hS5) ?_
            try simp only [Act.put, List.setIfInBounds_toArray, List.set_cons_zero, List.set_cons_succ]
            clear hK K
            refine wpAnyJ_take (i := 6) (oi := { dst := some 17, op := .binOp _ _ (.tmp 16) _ _, type := _, pos := _, after := _, guard := _ }) (v := ?_) rfl (by kernel_rfl) (by kernel_rfl) (by kernel_rfl) (by kernel_rfl) (fun _ _ _ h => h) (Or.inl ⟨by rfl, ?_⟩) hS5 ?_
            rotate_left
            · intro wl hSw
              obtain ⟨s0, s1, s2, s3⟩ := hSw
              go_simp
              with_reducible rfl
            simp only [Act.put, List.setIfInBounds_toArray, List.set_cons_zero, List.set_cons_succ]
            refine wpAnyJ_take (i := 7) (oi := { dst := some 18, op := _, type := _, pos := _, after := _, guard := _ }) (v := ?_) rfl (by kernel_rfl) (by kernel_rfl) (by kernel_rfl) (by kernel_rfl) (fun _ _ _ h => h) (Or.inl ⟨by rfl, ?_⟩) hS5 ?_
            rotate_left
            · intro wl hSw
              obtain ⟨s0, s1, s2, s3⟩ := hSw
              go_simp
              with_reducible rfl
            simp only [Act.put, List.setIfInBounds_toArray, List.set_cons_zero, List.set_cons_succ]
            refine wpAnyJ_take (i := 8) (oi := { dst := some 19, op := .move (.tmp 18), type := _, pos := _, after := _, guard := _ }) (v := ?_) rfl (by kernel_rfl) (by kernel_rfl) (by kernel_rfl) (by kernel_rfl) (fun _ _ _ h => h) (Or.inl ⟨by rfl, ?_⟩) hS5 ?_
            rotate_left
            · intro wl hSw
              obtain ⟨s0, s1, s2, s3⟩ := hSw
              go_simp
              with_reducible rfl
            simp only [Act.put, List.setIfInBounds_toArray, List.set_cons_zero, List.set_cons_succ]
            refine wpAnyJ_take (i := 9) (oi := { dst := some 20, op := .fieldAddr _ (.tmp 4) 0, type := _, pos := _, after := _, guard := _ }) (v := ?_) rfl (by kernel_rfl) (by kernel_rfl) (by kernel_rfl) (by kernel_rfl) (fun _ _ _ h => h) (Or.inl ⟨by rfl, ?_⟩) hS5 ?_
            rotate_left
            · intro wl hSw
              obtain ⟨s0, s1, s2, s3⟩ := hSw
              go_simp
              with_reducible rfl
            simp only [Act.put, List.setIfInBounds_toArray, List.set_cons_zero, List.set_cons_succ]
            refine wpAnyJ_take (i := 10) (oi := { dst := some 21, op := .load _ (.tmp 20), type := _, pos := _, after := _, guard := _ }) (v := ?_) rfl (by kernel_rfl) (by kernel_rfl) (by kernel_rfl) (by kernel_rfl) (fun _ _ _ h => h) (Or.inl ⟨by rfl, ?_⟩) hS5 ?_
            rotate_left
            · intro wl hSw
              obtain ⟨s0, s1, s2, s3⟩ := hSw
              go_simp
              with_reducible rfl
            simp only [Act.put, List.setIfInBounds_toArray, List.set_cons_zero, List.set_cons_succ]
            refine wpAnyJ_take (i := 11) (oi := { dst := some 22, op := .fieldAddr _ (.tmp 4) 1, type := _, pos := _, after := _, guard := _ }) (v := ?_) rfl (by kernel_rfl) (by kernel_rfl) (by kernel_rfl) (by kernel_rfl) (fun _ _ _ h => h) (Or.inl ⟨by rfl, ?_⟩) hS5 ?_
            rotate_left
            · intro wl hSw
              obtain ⟨s0, s1, s2, s3⟩ := hSw
              go_simp
              with_reducible rfl
            simp only [Act.put, List.setIfInBounds_toArray, List.set_cons_zero, List.set_cons_succ]
            refine wpAnyJ_take (i := 12) (oi := { dst := some 23, op := .load _ (.tmp 22), type := _, pos := _, after := _, guard := _ }) (v := ?_) rfl (by kernel_rfl) (by kernel_rfl) (by kernel_rfl) (by kernel_rfl) (fun _ _ _ h => h) (Or.inl ⟨by rfl, ?_⟩) hS5 ?_
            rotate_left
            · intro wl hSw
              obtain ⟨s0, s1, s2, s3⟩ := hSw
              go_simp
              with_reducible rfl
            simp only [Act.put, List.setIfInBounds_toArray, List.set_cons_zero, List.set_cons_succ]
            refine wpAnyJ_take (i := 13) (oi := { dst := some 24, op := .binOp _ _ (.tmp 21) (.tmp 23) _, type := _, pos := _, after := _, guard := _ }) (v := ?_) rfl (by kernel_rfl) (by kernel_rfl) (by kernel_rfl) (by kernel_rfl) (fun _ _ _ h => h) (Or.inl ⟨by rfl, ?_⟩) hS5 ?_
            rotate_left
            · intro wl hSw
              obtain ⟨s0, s1, s2, s3⟩ := hSw
              go_simp
              with_reducible rfl
            simp only [Act.put, List.setIfInBounds_toArray, List.set_cons_zero, List.set_cons_succ]
            refine wpAnyJ_take (i := 14) (oi := { dst := some 25, op := _, type := _, pos := _, after := _, guard := _ }) (v := ?_) rfl (by kernel_rfl) (by kernel_rfl) (by kernel_rfl) (by kernel_rfl) (fun _ _ _ h => h) (Or.inl ⟨by rfl, ?_⟩) hS5 ?_
            rotate_left
            · intro wl hSw
              obtain ⟨s0, s1, s2, s3⟩ := hSw
              go_simp
              with_reducible rfl
            simp only [Act.put, List.setIfInBounds_toArray, List.set_cons_zero, List.set_cons_succ]
            refine wpAnyJ_take (i := 15) (oi := { dst := some 26, op := .move (.tmp 25), type := _, pos := _, after := _, guard := _ }) (v := ?_) rfl (by kernel_rfl) (by kernel_rfl) (by kernel_rfl) (by kernel_rfl) (fun _ _ _ h => h) (Or.inl ⟨by rfl, ?_⟩) hS5 ?_
            rotate_left
            · intro wl hSw
              obtain ⟨s0, s1, s2, s3⟩ := hSw
              go_simp
              with_reducible rfl
            simp only [Act.put, List.setIfInBounds_toArray, List.set_cons_zero, List.set_cons_succ]
            refine wpAnyJ_take (i := 16) (oi := { dst := some 27, op := .fieldAddr _ (.tmp 4) 0, type := _, pos := _, after := _, guard := _ }) (v := undef) rfl (by kernel_rfl) (by kernel_rfl) (by kernel_rfl) (by kernel_rfl) (fun _ _ _ h => h) (Or.inr ⟨by rfl, rfl⟩) hS5 ?_
            simp only [Act.put, List.setIfInBounds_toArray, List.set_cons_zero, List.set_cons_succ]
            refine wpAnyJ_take (i := 17) (oi := { dst := some 28, op := .load _ (.tmp 27), type := _, pos := _, after := _, guard := _ }) (v := undef) rfl (by kernel_rfl) (by kernel_rfl) (by kernel_rfl) (by kernel_rfl) (fun _ _ _ h => h) (Or.inr ⟨by rfl, rfl⟩) hS5 ?_
            simp only [Act.put, List.setIfInBounds_toArray, List.set_cons_zero, List.set_cons_succ]
            refine wpAnyJ_take (i := 18) (oi := { dst := some 29, op := .move (.tmp 0), type := _, pos := _, after := _, guard := _ }) (v := undef) rfl (by kernel_rfl) (by kernel_rfl) (by kernel_rfl) (by kernel_rfl) (fun _ _ _ h => h) (Or.inr ⟨by rfl, rfl⟩) hS5 ?_
            simp only [Act.put, List.setIfInBounds_toArray, List.set_cons_zero, List.set_cons_succ]
            refine wpAnyJ_take (i := 19) (oi := { dst := some 30, op := .indexAddr _ (.tmp 29) _, type := _, pos := _, after := _, guard := _ }) (v := undef) rfl (by kernel_rfl) (by kernel_rfl) (by kernel_rfl) (by kernel_rfl) (fun _ _ _ h => h) (Or.inr ⟨by rfl, rfl⟩) hS5 ?_
            simp only [Act.put, List.setIfInBounds_toArray, List.set_cons_zero, List.set_cons_succ]
            refine wpAnyJ_take (i := 20) (oi := { dst := some 31, op := .fieldAddr _ (.tmp 30) 0, type := _, pos := _, after := _, guard := _ }) (v := undef) rfl (by kernel_rfl) (by kernel_rfl) (by kernel_rfl) (by kernel_rfl) (fun _ _ _ h => h) (Or.inr ⟨by rfl, rfl⟩) hS5 ?_
            simp only [Act.put, List.setIfInBounds_toArray, List.set_cons_zero, List.set_cons_succ]
            refine wpAnyJ_take (i := 21) (oi := { dst := some 32, op := .load _ (.tmp 31), type := _, pos := _, after := _, guard := _ }) (v := undef) rfl (by kernel_rfl) (by kernel_rfl) (by kernel_rfl) (by kernel_rfl) (fun _ _ _ h => h) (Or.inr ⟨by rfl, rfl⟩) hS5 ?_
            simp only [Act.put, List.setIfInBounds_toArray, List.set_cons_zero, List.set_cons_succ]
            refine wpAnyJ_take (i := 22) (oi := { dst := some 33, op := .binOp _ _ (.tmp 28) (.tmp 32) _, type := _, pos := _, after := _, guard := _ }) (v := undef) rfl (by kernel_rfl) (by kernel_rfl) (by kernel_rfl) (by kernel_rfl) (fun _ _ _ h => h) (Or.inr ⟨by rfl, rfl⟩) hS5 ?_
            simp only [Act.put, List.setIfInBounds_toArray, List.set_cons_zero, List.set_cons_succ]
            refine wpAnyJ_take (i := 23) (oi := { dst := some 34, op := _, type := _, pos := _, after := _, guard := _ }) (v := ?_) rfl (by kernel_rfl) (by kernel_rfl) (by kernel_rfl) (by kernel_rfl) (fun _ _ _ h => h) (Or.inl ⟨by rfl, ?_⟩) hS5 ?_
            rotate_left
            · intro wl hSw
              obtain ⟨s0, s1, s2, s3⟩ := hSw
              go_simp
              with_reducible rfl
            simp only [Act.put, List.setIfInBounds_toArray, List.set_cons_zero, List.set_cons_succ]
            refine wpAnyJ_done (by kernel_rfl) ?_ _
            go_wp2_with fail
            go_ret
            exact ⟨_, rfl, by rw [← HQQ.out, HQ.out]; rfl, HBT.out.trans ((Up.bel hU5).mono HBT.out.size)⟩
        · have hne0 : (mchkM R' C' ys != 0) = true := by simp [hc]
          have HQ := Lib.hid (show (sq1 R C xs && (sq1 R' C' ys && decide (R' = R))) = false by rw [show sq1 R' C' ys = false by unfold sq1; simp [hc]]; simp)
          clear hf hc
          go_wp2_with fail
          have hSd : W.drew.cell? ⟨wr.heap.size, 0, none⟩ = some (.int .i64 R') ∧ W.drew.cell? ⟨wr.heap.size, 1, none⟩ = some (.int .i64 C') ∧ W.drew.cell? ⟨wr.heap.size, 2, none⟩ = some (.slice a' ys.length cap') ∧ W.drew.cell? ⟨g, 0, none⟩ = some (.int .i64 R) := ⟨y0, y1, y2, y3⟩
          refine wp_regionJ (S := fun w' => w'.cell? ⟨wr.heap.size, 0, none⟩ = some (.int .i64 R') ∧ w'.cell? ⟨wr.heap.size, 1, none⟩ = some (.int .i64 C') ∧ w'.cell? ⟨wr.heap.size, 2, none⟩ = some (.slice a' ys.length cap') ∧ w'.cell? ⟨g, 0, none⟩ = some (.int .i64 R)) (A := fun _ => true) (by kernel_rfl) ?_
          refine wpAnyJ_take (i := 0) (oi := { dst := some 11, op := .load _ (.tmp 4), type := _, pos := _, after := _, guard := _ }) (v := ?_) rfl (by kernel_rfl) (by kernel_rfl) (by kernel_rfl) (by kernel_rfl) (fun _ _ _ h => h) (Or.inl ⟨by rfl, ?_⟩) hSd ?_
          rotate_left
          · intro wl hSw
            obtain ⟨s0, s1, s2, s3⟩ := hSw
            go_simp
            with_reducible rfl
          simp only [Act.put, List.setIfInBounds_toArray, List.set_cons_zero, List.set_cons_succ]
          refine wpAnyJ_only (i := 1) (o := { dst := some 12, op := _, type := _, pos := _, after := _, guard := _ }) (by kernel_rfl) rfl (fun K hK => ?_)
          go_simp
          refine (Few03_any _ 6 R' C' _ ys HVd.out HS'.out).mono ?_
          rintro e w4 ⟨u4, rfl, rfl, hb4⟩
          rw [HF.out]
          have hU4 := HU0.out.drew.call hb4
          have HV4 := Lib.hid (HVd.out.below hb4 (Nat.le_refl _))
          have hS4 := HH4.out w4 hU4
          refine hK.out _ _ (fun _ => hS4) ?_
          try simp only [Act.put, List.setIfInBounds_toArray, List.set_cons_zero, List.set_cons_succ]
          clear hK K
          refine wpAnyJ_take (i := 2) (oi := { dst := some 13, op := _, type := _, pos := _, after := _, guard := _ }) (v := ?_) rfl (by kernel_rfl) (by kernel_rfl) (by kernel_rfl) (by kernel_rfl) (fun _ _ _ h => h) (Or.inl ⟨by rfl, ?_⟩) hS4 ?_
          rotate_left
          · intro wl hSw
            obtain ⟨s0, s1, s2, s3⟩ := hSw
            go_simp
            with_reducible rfl
          simp only [Act.put, List.setIfInBounds_toArray, List.set_cons_zero, List.set_cons_succ]
          refine wpAnyJ_take (i := 3) (oi := { dst := some 14, op := .move (.tmp 13), type := _, pos := _, after := _, guard := _ }) (v := ?_) rfl (by kernel_rfl) (by kernel_rfl) (by kernel_rfl) (by kernel_rfl) (fun _ _ _ h => h) (Or.inl ⟨by rfl, ?_⟩) hS4 ?_
          rotate_left
          · intro wl hSw
            obtain ⟨s0, s1, s2, s3⟩ := hSw
            go_simp
            with_reducible rfl
          simp only [Act.put, List.setIfInBounds_toArray, List.set_cons_zero, List.set_cons_succ]
          refine wpAnyJ_take (i := 4) (oi := { dst := some 15, op := .load _ (.tmp 4), type := _, pos := _, after := _, guard := _ }) (v := ?_) rfl (by kernel_rfl) (by kernel_rfl) (by kernel_rfl) (by kernel_rfl) (fun _ _ _ h => h) (Or.inl ⟨by rfl, ?_⟩) hS4 ?_
          rotate_left
          · intro wl hSw
            obtain ⟨s0, s1, s2, s3⟩ := hSw
            go_simp
            with_reducible rfl
          simp only [Act.put, List.setIfInBounds_toArray, List.set_cons_zero, List.set_cons_succ]
          refine wpAnyJ_only (i := 5) (o := { dst := some 16, op := _, type := _, pos := _, after := _, guard := _ }) (by kernel_rfl) rfl (fun K hK => ?_)
          go_simp
          refine (rMCheck_any _ R' C' _ ys HV4.out (fun _ => H9.out.big (by omega))).mono ?_
          rintro e w5 ⟨u5, rfl, rfl, hb5⟩
          have hU5 := hU4.call hb5
          have hS5 := HH4.out w5 hU5
          refine hK.out _ _ (fun _ => hS5) ?_
          try simp only [Act.put, List.setIfInBounds_toArray, List.set_cons_zero, List.set_cons_succ]
          clear hK K
          refine wpAnyJ_take (i := 6) (oi := { dst := some 17, op := .binOp _ _ (.tmp 16) _ _, type := _, pos := _, after := _, guard := _ }) (v := ?_) rfl (by kernel_rfl) (by kernel_rfl) (by kernel_rfl) (by kernel_rfl) (fun _ _ _ h => h) (Or.inl ⟨by rfl, ?_⟩) hS5 ?_
          rotate_left
          · intro wl hSw
            obtain ⟨s0, s1, s2, s3⟩ := hSw
            go_simp
            with_reducible rfl
          simp only [Act.put, List.setIfInBounds_toArray, List.set_cons_zero, List.set_cons_succ]
          refine wpAnyJ_take (i := 7) (oi := { dst := some 18, op := _, type := _, pos := _, after := _, guard := _ }) (v := ?_) rfl (by kernel_rfl) (by kernel_rfl) (by kernel_rfl) (by kernel_rfl) (fun _ _ _ h => h) (Or.inl ⟨by rfl, ?_⟩) hS5 ?_
          rotate_left
          · intro wl hSw
            obtain ⟨s0, s1, s2, s3⟩ := hSw
            go_simp
            with_reducible rfl
          simp only [Act.put, List.setIfInBounds_toArray, List.set_cons_zero, List.set_cons_succ]
          refine wpAnyJ_take (i := 8) (oi := { dst := some 19, op := .move (.tmp 18), type := _, pos := _, after := _, guard := _ }) (v := ?_) rfl (by kernel_rfl) (by kernel_rfl) (by kernel_rfl) (by kernel_rfl) (fun _ _ _ h => h) (Or.inl ⟨by rfl, ?_⟩) hS5 ?_
          rotate_left
          · intro wl hSw
            obtain ⟨s0, s1, s2, s3⟩ := hSw
            go_simp
            with_reducible rfl
          simp only [Act.put, List.setIfInBounds_toArray, List.set_cons_zero, List.set_cons_succ]
          refine wpAnyJ_take (i := 9) (oi := { dst := some 20, op := .fieldAddr _ (.tmp 4) 0, type := _, pos := _, after := _, guard := _ }) (v := undef) rfl (by kernel_rfl) (by kernel_rfl) (by kernel_rfl) (by kernel_rfl) (fun _ _ _ h => h) (Or.inr ⟨by rfl, rfl⟩) hS5 ?_
          simp only [Act.put, List.setIfInBounds_toArray, List.set_cons_zero, List.set_cons_succ]
          refine wpAnyJ_take (i := 10) (oi := { dst := some 21, op := .load _ (.tmp 20), type := _, pos := _, after := _, guard := _ }) (v := undef) rfl (by kernel_rfl) (by kernel_rfl) (by kernel_rfl) (by kernel_rfl) (fun _ _ _ h => h) (Or.inr ⟨by rfl, rfl⟩) hS5 ?_
          simp only [Act.put, List.setIfInBounds_toArray, List.set_cons_zero, List.set_cons_succ]
          refine wpAnyJ_take (i := 11) (oi := { dst := some 22, op := .fieldAddr _ (.tmp 4) 1, type := _, pos := _, after := _, guard := _ }) (v := undef) rfl (by kernel_rfl) (by kernel_rfl) (by kernel_rfl) (by kernel_rfl) (fun _ _ _ h => h) (Or.inr ⟨by rfl, rfl⟩) hS5 ?_
          simp only [Act.put, List.setIfInBounds_toArray, List.set_cons_zero, List.set_cons_succ]
          refine wpAnyJ_take (i := 12) (oi := { dst := some 23, op := .load _ (.tmp 22), type := _, pos := _, after := _, guard := _ }) (v := undef) rfl (by kernel_rfl) (by kernel_rfl) (by kernel_rfl) (by kernel_rfl) (fun _ _ _ h => h) (Or.inr ⟨by rfl, rfl⟩) hS5 ?_
          simp only [Act.put, List.setIfInBounds_toArray, List.set_cons_zero, List.set_cons_succ]
          refine wpAnyJ_take (i := 13) (oi := { dst := some 24, op := .binOp _ _ (.tmp 21) (.tmp 23) _, type := _, pos := _, after := _, guard := _ }) (v := undef) rfl (by kernel_rfl) (by kernel_rfl) (by kernel_rfl) (by kernel_rfl) (fun _ _ _ h => h) (Or.inr ⟨by rfl, rfl⟩) hS5 ?_
          simp only [Act.put, List.setIfInBounds_toArray, List.set_cons_zero, List.set_cons_succ]
          refine wpAnyJ_take (i := 14) (oi := { dst := some 25, op := _, type := _, pos := _, after := _, guard := _ }) (v := ?_) rfl (by kernel_rfl) (by kernel_rfl) (by kernel_rfl) (by kernel_rfl) (fun _ _ _ h => h) (Or.inl ⟨by rfl, ?_⟩) hS5 ?_
          rotate_left
          · intro wl hSw
            obtain ⟨s0, s1, s2, s3⟩ := hSw
            go_simp
            with_reducible rfl
          simp only [Act.put, List.setIfInBounds_toArray, List.set_cons_zero, List.set_cons_succ]
          refine wpAnyJ_take (i := 15) (oi := { dst := some 26, op := .move (.tmp 25), type := _, pos := _, after := _, guard := _ }) (v := ?_) rfl (by kernel_rfl) (by kernel_rfl) (by kernel_rfl) (by kernel_rfl) (fun _ _ _ h => h) (Or.inl ⟨by rfl, ?_⟩) hS5 ?_
          rotate_left
          · intro wl hSw
            obtain ⟨s0, s1, s2, s3⟩ := hSw
            go_simp
            with_reducible rfl
          simp only [Act.put, List.setIfInBounds_toArray, List.set_cons_zero, List.set_cons_succ]
          refine wpAnyJ_take (i := 16) (oi := { dst := some 27, op := .fieldAddr _ (.tmp 4) 0, type := _, pos := _, after := _, guard := _ }) (v := undef) rfl (by kernel_rfl) (by kernel_rfl) (by kernel_rfl) (by kernel_rfl) (fun _ _ _ h => h) (Or.inr ⟨by rfl, rfl⟩) hS5 ?_
          simp only [Act.put, List.setIfInBounds_toArray, List.set_cons_zero, List.set_cons_succ]
          refine wpAnyJ_take (i := 17) (oi := { dst := some 28, op := .load _ (.tmp 27), type := _, pos := _, after := _, guard := _ }) (v := undef) rfl (by kernel_rfl) (by kernel_rfl) (by kernel_rfl) (by kernel_rfl) (fun _ _ _ h => h) (Or.inr ⟨by rfl, rfl⟩) hS5 ?_
          simp only [Act.put, List.setIfInBounds_toArray, List.set_cons_zero, List.set_cons_succ]
          refine wpAnyJ_take (i := 18) (oi := { dst := some 29, op := .move (.tmp 0), type := _, pos := _, after := _, guard := _ }) (v := undef) rfl (by kernel_rfl) (by kernel_rfl) (by kernel_rfl) (by kernel_rfl) (fun _ _ _ h => h) (Or.inr ⟨by rfl, rfl⟩) hS5 ?_
          simp only [Act.put, List.setIfInBounds_toArray, List.set_cons_zero, List.set_cons_succ]
          refine wpAnyJ_take (i := 19) (oi := { dst := some 30, op := .indexAddr _ (.tmp 29) _, type := _, pos := _, after := _, guard := _ }) (v := undef) rfl (by kernel_rfl) (by kernel_rfl) (by kernel_rfl) (by kernel_rfl) (fun _ _ _ h => h) (Or.inr ⟨by rfl, rfl⟩) hS5 ?_
          simp only [Act.put, List.setIfInBounds_toArray, List.set_cons_zero, List.set_cons_succ]
          refine wpAnyJ_take (i := 20) (oi := { dst := some 31, op := .fieldAddr _ (.tmp 30) 0, type := _, pos := _, after := _, guard := _ }) (v := undef) rfl (by kernel_rfl) (by kernel_rfl) (by kernel_rfl) (by kernel_rfl) (fun _ _ _ h => h) (Or.inr ⟨by rfl, rfl⟩) hS5 ?_
          simp only [Act.put, List.setIfInBounds_toArray, List.set_cons_zero, List.set_cons_succ]
          refine wpAnyJ_take (i := 21) (oi := { dst := some 32, op := .load _ (.tmp 31), type := _, pos := _, after := _, guard := _ }) (v := undef) rfl (by kernel_rfl) (by kernel_rfl) (by kernel_rfl) (by kernel_rfl) (fun _ _ _ h => h) (Or.inr ⟨by rfl, rfl⟩) hS5 ?_
          simp only [Act.put, List.setIfInBounds_toArray, List.set_cons_zero, List.set_cons_succ]
          refine wpAnyJ_take (i := 22) (oi := { dst := some 33, op := .binOp _ _ (.tmp 28) (.tmp 32) _, type := _, pos := _, after := _, guard := _ }) (v := undef) rfl (by kernel_rfl) (by kernel_rfl) (by kernel_rfl) (by kernel_rfl) (fun _ _ _ h => h) (Or.inr ⟨by rfl, rfl⟩) hS5 ?_
          simp only [Act.put, List.setIfInBounds_toArray, List.set_cons_zero, List.set_cons_succ]
          refine wpAnyJ_take (i := 23) (oi := { dst := some 34, op := _, type := _, pos := _, after := _, guard := _ }) (v := ?_) rfl (by kernel_rfl) (by kernel_rfl) (by kernel_rfl) (by kernel_rfl) (fun _ _ _ h => h) (Or.inl ⟨by rfl, ?_⟩) hS5 ?_
          rotate_left
          · intro wl hSw
            obtain ⟨s0, s1, s2, s3⟩ := hSw
            go_simp
            with_reducible rfl
          simp only [Act.put, List.setIfInBounds_toArray, List.set_cons_zero, List.set_cons_succ]
          refine wpAnyJ_done (by kernel_rfl) ?_ _
          go_wp2_with fail
          go_ret
          exact ⟨_, rfl, by rw [← HQQ.out, HQ.out]; rfl, HBT.out.trans ((Up.bel hU5).mono HBT.out.size)⟩
    · have HQ := Lib.hid (show (sq1 R C xs && (sq1 R' C' ys && decide (R' = R))) = true by rw [hA.out (by omega), (hB.out (Nat.le_refl _)).1]; simp [(hB.out (Nat.le_refl _)).2])
      go_wp2
      go_ret
      exact ⟨_, rfl, by rw [← HQQ.out, HQ.out]; rfl, hb⟩
end Go.Proofs.YtfhdmhifdaiehaaGreatDoor
