/- The walk of the matrix law's square. The condition 'early' of XJ by one closure in place of all orders. The walks of the reference's two, bounded and Add of matrices. Plain laws for MatrixRows: columns exchanged one by one, a row added bit by bit; two own rows in two boxes. The condition 'early' of XJ by a certificate: a set of operations that is closed without i. What the rows' lists of package-level variables give; a world for the witnesses. Arrays of two bytes and lists of texts as arguments: opened; an argument reads as it did behind a call that turns nothing old. Lists of texts and structs as arguments: opened by their cells. -/
import Derived.Test.YtajkhbpffakmfaaGreatDoorPk7
import Derived.Test.YtajkhbpffakmfaaGreatDoorPk5
import Derived.Test.YtajkhbpffakmfaaGreatDoorPk6
import Derived.Test.YtajkhbpffakmfaaGreatDoorPk3
import Derived.Laws.EntriesVeiled
import Derived.Test.YtajkhbpffakmfaaGreatDoorCards
import Derived.Test.YtajkhbpffakmfaaGreatDoorTie
import Derived.Test.YtajkhbpffakmfaaGreatDoorPk1
import Derived.ProofKit
import Derived.OpenShut
import Derived.Deep.DeepHandedRow
import Derived.Deep.DeepWitnessRowRef
import Derived.Lib.LaidTab
import Derived.Stop.LaidErr
import Derived.SliceStrings
import Derived.Carry
import Derived.ChangeOld
import Derived.Deep.Strs
namespace Go.Proofs.YtajkhbpffakmfaaGreatDoor
open Go.RowKit
set_option maxRecDepth 100000

/-- A right square matrix, small. -/
def sq1 (R C : Int) (xs : List ByteArray) : Bool := few03 6 R C xs && decide (mchkM R C xs = 0) && decide (R = C)
theorem sq1_rm {R C : Int} {xs : List ByteArray} (h : sq1 R C xs = true) : ∃ n : Nat, R = (n : Int) ∧ C = (n : Int) ∧ n ≤ 6 ∧ RM (n : Nat) (n : Nat) xs n n ∧ Fit 9 xs := by
  unfold sq1 at h
  simp only [Bool.and_eq_true, decide_eq_true_iff] at h
  obtain ⟨⟨h1, h2⟩, h3⟩ := h
  obtain ⟨h9, hm⟩ := few03_rm h1
  obtain ⟨r, c, hrm⟩ := rm_of h2
  have e1 := hrm.rows; have e2 := hrm.cols
  obtain rfl : r = c := by omega
  exact ⟨r, e1, e2, by have := hm h2; omega, hrm.self, h9⟩
/-- A matrix in a box, and a cell elsewhere. -/
theorem held_sq {h g1 g2 : Nat} {W : World} {a b c d : Value} {cs : List Value} {T T' : TypeId} (h1 : Blk W g1 [a, b, c] T) (h2 : Blk W g2 cs T') (hd : cs[0]? = some d) (hg1 : g1 < h) (hg2 : g2 < h) : ∀ w', Up h W w' → Up h W w' ∧ (w'.cell? ⟨g1, 0, none⟩ = some a ∧ w'.cell? ⟨g1, 1, none⟩ = some b ∧ w'.cell? ⟨g1, 2, none⟩ = some c) ∧ w'.cell? ⟨g2, 0, none⟩ = some d :=
  fun _ H => ⟨H, ⟨(H.box h1 hg1).cell 0 _ rfl, (H.box h1 hg1).cell 1 _ rfl, (H.box h1 hg1).cell 2 _ rfl⟩, (H.box h2 hg2).cell 0 _ hd⟩
set_option maxHeartbeats 8000000 in
theorem square1_any (w : World) (g : Nat) (R C : Int) (v : Value) (xs : List ByteArray) (hk : Blk w g [.int .i64 R, .int .i64 C, v] 24) (hv : Sl eS w v xs) (hsz : ∀ s ∈ xs, s.size ≤ 9223372036854775807) :
    Calls Tryz.prog 6 #[.slice (some ⟨g, 0, none⟩) 1 1] w (Rets fun r w' => r = .bool (sq1 R C xs) ∧ Below w.heap.size w w') := by
  have HV := Lib.hid hv; have HS := Lib.hid hsz; have HKL := Lib.hid hk
  obtain ⟨a, cap, rfl⟩ := sl_form hv
  clear hv hsz hk
  go_enter Tryz.func6, Tryz.ntmps6
  go_wp2
  go_loopw [7] (fun i wr => ∃ q : Nat, q ≤ 1 ∧ i = .int .i64 q ∧ Hid (1 ≤ q → sq1 R C xs = true) ∧ Below w.heap.size w wr) (fun i _ => 1 - (intOf i).toNat)
  case atStart => exact ⟨0, Nat.zero_le _, rfl, Lib.hid (by omega), Below.refl _ _⟩
  case round =>
    obtain ⟨q, hq, rfl, hA, hb⟩ := hrel
    have hkr := HKL.out.below hb (Nat.le_refl _)
    have c0 := hkr.cell 0 _ rfl; have c1 := hkr.cell 1 _ rfl; have c2 := hkr.cell 2 _ rfl
    clear hkr
    rcases (show q = 0 ∨ q = 1 by omega) with rfl | rfl
    · obtain ⟨W, hWW⟩ : ∃ W, wr.alloc (.cells #[.int .i64 R, .int .i64 C, .slice a xs.length cap] 24) = W := ⟨_, rfl⟩
      have HBT := Lib.hid (show Below w.heap.size w W by rw [← hWW]; exact hb.alloc hb.size _)
      have HH := Lib.hid (held_sq (h := W.heap.size) (show Blk W wr.heap.size [.int .i64 R, .int .i64 C, .slice a xs.length cap] 24 by rw [← hWW]; exact Blk.new wr _ _) (HKL.out.below HBT.out (Nat.le_refl _)) (d := .int .i64 R) rfl (by rw [← hWW]; simp) (Nat.lt_of_lt_of_le HKL.out.lt HBT.out.size))
      have HU0 := Lib.hid (Up.start W)
      have HVW := Lib.hid (HV.out.below HBT.out (Nat.le_refl _))
      have HVd := Lib.hid (HVW.out.below (Below.refl W.heap.size W).drew (Nat.le_refl _))
      have HH4 := Lib.hid (fun w' (H : Up W.heap.size W w') => show w'.cell? ⟨wr.heap.size, 0, none⟩ = some (.int .i64 R) ∧ w'.cell? ⟨wr.heap.size, 1, none⟩ = some (.int .i64 C) ∧ w'.cell? ⟨wr.heap.size, 2, none⟩ = some (.slice a xs.length cap) ∧ w'.cell? ⟨g, 0, none⟩ = some (.int .i64 R) from ⟨(HH.out w' H).2.1.1, (HH.out w' H).2.1.2.1, (HH.out w' H).2.1.2.2, (HH.out w' H).2.2⟩)
      obtain ⟨-, ⟨y0, y1, y2⟩, y3⟩ := HH.out W (Up.start W)
      cases hf : few03 6 R C xs
      · have HF := Lib.hid hf
        have HQ := Lib.hid (show sq1 R C xs = false by unfold sq1; rw [hf]; rfl)
        clear hf
        go_wp2_with fail
        have hSd : W.drew.cell? ⟨wr.heap.size, 0, none⟩ = some (.int .i64 R) ∧ W.drew.cell? ⟨wr.heap.size, 1, none⟩ = some (.int .i64 C) ∧ W.drew.cell? ⟨wr.heap.size, 2, none⟩ = some (.slice a xs.length cap) ∧ W.drew.cell? ⟨g, 0, none⟩ = some (.int .i64 R) := ⟨y0, y1, y2, y3⟩
        refine wp_regionJ (S := fun w' => w'.cell? ⟨wr.heap.size, 0, none⟩ = some (.int .i64 R) ∧ w'.cell? ⟨wr.heap.size, 1, none⟩ = some (.int .i64 C) ∧ w'.cell? ⟨wr.heap.size, 2, none⟩ = some (.slice a xs.length cap) ∧ w'.cell? ⟨g, 0, none⟩ = some (.int .i64 R)) (A := fun _ => true) (by kernel_rfl) ?_
        refine wpAnyJ_take (i := 0) (oi := { dst := some 11, op := .load _ (.tmp 4), type := _, pos := _, after := _, guard := _ }) (v := ?_) rfl (by kernel_rfl) (by kernel_rfl) (by kernel_rfl) (by kernel_rfl) (fun _ _ _ h => h) (Or.inl ⟨by rfl, ?_⟩) hSd ?_
        rotate_left
        · intro wl hSw
          obtain ⟨s0, s1, s2, s3⟩ := hSw
          go_simp
          with_reducible rfl
        simp only [Act.put, List.setIfInBounds_toArray, List.set_cons_zero, List.set_cons_succ]
        refine wpAnyJ_only (i := 1) (o := { dst := some 12, op := _, type := _, pos := _, after := _, guard := _ }) (by kernel_rfl) rfl (fun K hK => ?_)
        go_simp
        refine (Few03_any _ 6 R C _ xs HVd.out HS.out).mono ?_
        rintro e w4 ⟨u4, rfl, rfl, hb4⟩
        rw [HF.out]
        have hU4 := HU0.out.drew.call hb4
        have HV4 := Lib.hid (HVd.out.below hb4 (Nat.le_refl _))
        have hU5 := hU4
        have hS4 := HH4.out w4 hU4
        refine hK.out _ _ (fun _ => hS4) ?_
        try simp only [Act.put, List.setIfInBounds_toArray, List.set_cons_zero, List.set_cons_succ]
        clear hK K
        refine wpAnyJ_take (i := 2) (oi := { dst := some 13, op := _, type := _, pos := _, after := _, guard := _ }) (v := ?_) rfl (by kernel_rfl) (by kernel_rfl) (by kernel_rfl) (by kernel_rfl) (fun _ _ _ h => h) (Or.inl ⟨by rfl, ?_⟩) hS4 ?_
        rotate_left
        · intro wl hSw
          obtain ⟨s0, s1, s2, s3⟩ := hSw
          go_simp
          with_reducible rfl
        simp only [Act.put, List.setIfInBounds_toArray, List.set_cons_zero, List.set_cons_succ]
        refine wpAnyJ_take (i := 3) (oi := { dst := some 14, op := .move (.tmp 13), type := _, pos := _, after := _, guard := _ }) (v := ?_) rfl (by kernel_rfl) (by kernel_rfl) (by kernel_rfl) (by kernel_rfl) (fun _ _ _ h => h) (Or.inl ⟨by rfl, ?_⟩) hS4 ?_
        rotate_left
        · intro wl hSw
          obtain ⟨s0, s1, s2, s3⟩ := hSw
          go_simp
          with_reducible rfl
        simp only [Act.put, List.setIfInBounds_toArray, List.set_cons_zero, List.set_cons_succ]
        refine wpAnyJ_take (i := 4) (oi := { dst := some 15, op := .load _ (.tmp 4), type := _, pos := _, after := _, guard := _ }) (v := undef) rfl (by kernel_rfl) (by kernel_rfl) (by kernel_rfl) (by kernel_rfl) (fun _ _ _ h => h) (Or.inr ⟨by rfl, rfl⟩) hS4 ?_
        simp only [Act.put, List.setIfInBounds_toArray, List.set_cons_zero, List.set_cons_succ]
        refine wpAnyJ_take (i := 5) (oi := { dst := some 16, op := _, type := _, pos := _, after := _, guard := _ }) (v := undef) rfl (by kernel_rfl) (by kernel_rfl) (by kernel_rfl) (by kernel_rfl) (fun _ _ _ h => h) (Or.inr ⟨by rfl, rfl⟩) hS4 ?_
        simp only [Act.put, List.setIfInBounds_toArray, List.set_cons_zero, List.set_cons_succ]
        refine wpAnyJ_take (i := 6) (oi := { dst := some 17, op := .binOp _ _ (.tmp 16) _ _, type := _, pos := _, after := _, guard := _ }) (v := undef) rfl (by kernel_rfl) (by kernel_rfl) (by kernel_rfl) (by kernel_rfl) (fun _ _ _ h => h) (Or.inr ⟨by rfl, rfl⟩) hS4 ?_
        simp only [Act.put, List.setIfInBounds_toArray, List.set_cons_zero, List.set_cons_succ]
        refine wpAnyJ_take (i := 7) (oi := { dst := some 18, op := _, type := _, pos := _, after := _, guard := _ }) (v := ?_) rfl (by kernel_rfl) (by kernel_rfl) (by kernel_rfl) (by kernel_rfl) (fun _ _ _ h => h) (Or.inl ⟨by rfl, ?_⟩) hS4 ?_
        rotate_left
        · intro wl hSw
          obtain ⟨s0, s1, s2, s3⟩ := hSw
          go_simp
          with_reducible rfl
        simp only [Act.put, List.setIfInBounds_toArray, List.set_cons_zero, List.set_cons_succ]
        refine wpAnyJ_take (i := 8) (oi := { dst := some 19, op := .move (.tmp 18), type := _, pos := _, after := _, guard := _ }) (v := ?_) rfl (by kernel_rfl) (by kernel_rfl) (by kernel_rfl) (by kernel_rfl) (fun _ _ _ h => h) (Or.inl ⟨by rfl, ?_⟩) hS4 ?_
        rotate_left
        · intro wl hSw
          obtain ⟨s0, s1, s2, s3⟩ := hSw
          go_simp
          with_reducible rfl
        simp only [Act.put, List.setIfInBounds_toArray, List.set_cons_zero, List.set_cons_succ]
        refine wpAnyJ_take (i := 9) (oi := { dst := some 20, op := .fieldAddr _ (.tmp 4) 0, type := _, pos := _, after := _, guard := _ }) (v := undef) rfl (by kernel_rfl) (by kernel_rfl) (by kernel_rfl) (by kernel_rfl) (fun _ _ _ h => h) (Or.inr ⟨by rfl, rfl⟩) hS4 ?_
        simp only [Act.put, List.setIfInBounds_toArray, List.set_cons_zero, List.set_cons_succ]
        refine wpAnyJ_take (i := 10) (oi := { dst := some 21, op := .load _ (.tmp 20), type := _, pos := _, after := _, guard := _ }) (v := undef) rfl (by kernel_rfl) (by kernel_rfl) (by kernel_rfl) (by kernel_rfl) (fun _ _ _ h => h) (Or.inr ⟨by rfl, rfl⟩) hS4 ?_
        simp only [Act.put, List.setIfInBounds_toArray, List.set_cons_zero, List.set_cons_succ]
        refine wpAnyJ_take (i := 11) (oi := { dst := some 22, op := .fieldAddr _ (.tmp 4) 1, type := _, pos := _, after := _, guard := _ }) (v := undef) rfl (by kernel_rfl) (by kernel_rfl) (by kernel_rfl) (by kernel_rfl) (fun _ _ _ h => h) (Or.inr ⟨by rfl, rfl⟩) hS4 ?_
        simp only [Act.put, List.setIfInBounds_toArray, List.set_cons_zero, List.set_cons_succ]
        refine wpAnyJ_take (i := 12) (oi := { dst := some 23, op := .load _ (.tmp 22), type := _, pos := _, after := _, guard := _ }) (v := undef) rfl (by kernel_rfl) (by kernel_rfl) (by kernel_rfl) (by kernel_rfl) (fun _ _ _ h => h) (Or.inr ⟨by rfl, rfl⟩) hS4 ?_
        simp only [Act.put, List.setIfInBounds_toArray, List.set_cons_zero, List.set_cons_succ]
        refine wpAnyJ_take (i := 13) (oi := { dst := some 24, op := .binOp _ _ (.tmp 21) (.tmp 23) _, type := _, pos := _, after := _, guard := _ }) (v := undef) rfl (by kernel_rfl) (by kernel_rfl) (by kernel_rfl) (by kernel_rfl) (fun _ _ _ h => h) (Or.inr ⟨by rfl, rfl⟩) hS4 ?_
        simp only [Act.put, List.setIfInBounds_toArray, List.set_cons_zero, List.set_cons_succ]
        refine wpAnyJ_take (i := 14) (oi := { dst := some 25, op := _, type := _, pos := _, after := _, guard := _ }) (v := ?_) rfl (by kernel_rfl) (by kernel_rfl) (by kernel_rfl) (by kernel_rfl) (fun _ _ _ h => h) (Or.inl ⟨by rfl, ?_⟩) hS4 ?_
        rotate_left
        · intro wl hSw
          obtain ⟨s0, s1, s2, s3⟩ := hSw
          go_simp
          with_reducible rfl
        simp only [Act.put, List.setIfInBounds_toArray, List.set_cons_zero, List.set_cons_succ]
        refine wpAnyJ_take (i := 15) (oi := { dst := some 26, op := .move (.tmp 25), type := _, pos := _, after := _, guard := _ }) (v := ?_) rfl (by kernel_rfl) (by kernel_rfl) (by kernel_rfl) (by kernel_rfl) (fun _ _ _ h => h) (Or.inl ⟨by rfl, ?_⟩) hS4 ?_
        rotate_left
        · intro wl hSw
          obtain ⟨s0, s1, s2, s3⟩ := hSw
          go_simp
          with_reducible rfl
        simp only [Act.put, List.setIfInBounds_toArray, List.set_cons_zero, List.set_cons_succ]
        refine wpAnyJ_take (i := 16) (oi := { dst := some 27, op := .fieldAddr _ (.tmp 4) 0, type := _, pos := _, after := _, guard := _ }) (v := undef) rfl (by kernel_rfl) (by kernel_rfl) (by kernel_rfl) (by kernel_rfl) (fun _ _ _ h => h) (Or.inr ⟨by rfl, rfl⟩) hS4 ?_
        simp only [Act.put, List.setIfInBounds_toArray, List.set_cons_zero, List.set_cons_succ]
        refine wpAnyJ_take (i := 17) (oi := { dst := some 28, op := .load _ (.tmp 27), type := _, pos := _, after := _, guard := _ }) (v := undef) rfl (by kernel_rfl) (by kernel_rfl) (by kernel_rfl) (by kernel_rfl) (fun _ _ _ h => h) (Or.inr ⟨by rfl, rfl⟩) hS4 ?_
        simp only [Act.put, List.setIfInBounds_toArray, List.set_cons_zero, List.set_cons_succ]
        refine wpAnyJ_take (i := 18) (oi := { dst := some 29, op := .move (.tmp 0), type := _, pos := _, after := _, guard := _ }) (v := undef) rfl (by kernel_rfl) (by kernel_rfl) (by kernel_rfl) (by kernel_rfl) (fun _ _ _ h => h) (Or.inr ⟨by rfl, rfl⟩) hS4 ?_
        simp only [Act.put, List.setIfInBounds_toArray, List.set_cons_zero, List.set_cons_succ]
        refine wpAnyJ_take (i := 19) (oi := { dst := some 30, op := .indexAddr _ (.tmp 29) _, type := _, pos := _, after := _, guard := _ }) (v := undef) rfl (by kernel_rfl) (by kernel_rfl) (by kernel_rfl) (by kernel_rfl) (fun _ _ _ h => h) (Or.inr ⟨by rfl, rfl⟩) hS4 ?_
        simp only [Act.put, List.setIfInBounds_toArray, List.set_cons_zero, List.set_cons_succ]
        refine wpAnyJ_take (i := 20) (oi := { dst := some 31, op := .fieldAddr _ (.tmp 30) 0, type := _, pos := _, after := _, guard := _ }) (v := undef) rfl (by kernel_rfl) (by kernel_rfl) (by kernel_rfl) (by kernel_rfl) (fun _ _ _ h => h) (Or.inr ⟨by rfl, rfl⟩) hS4 ?_
        simp only [Act.put, List.setIfInBounds_toArray, List.set_cons_zero, List.set_cons_succ]
        refine wpAnyJ_take (i := 21) (oi := { dst := some 32, op := .load _ (.tmp 31), type := _, pos := _, after := _, guard := _ }) (v := undef) rfl (by kernel_rfl) (by kernel_rfl) (by kernel_rfl) (by kernel_rfl) (fun _ _ _ h => h) (Or.inr ⟨by rfl, rfl⟩) hS4 ?_
        simp only [Act.put, List.setIfInBounds_toArray, List.set_cons_zero, List.set_cons_succ]
        refine wpAnyJ_take (i := 22) (oi := { dst := some 33, op := .binOp _ _ (.tmp 28) (.tmp 32) _, type := _, pos := _, after := _, guard := _ }) (v := undef) rfl (by kernel_rfl) (by kernel_rfl) (by kernel_rfl) (by kernel_rfl) (fun _ _ _ h => h) (Or.inr ⟨by rfl, rfl⟩) hS4 ?_
        simp only [Act.put, List.setIfInBounds_toArray, List.set_cons_zero, List.set_cons_succ]
        refine wpAnyJ_take (i := 23) (oi := { dst := some 34, op := _, type := _, pos := _, after := _, guard := _ }) (v := ?_) rfl (by kernel_rfl) (by kernel_rfl) (by kernel_rfl) (by kernel_rfl) (fun _ _ _ h => h) (Or.inl ⟨by rfl, ?_⟩) hS4 ?_
        rotate_left
        · intro wl hSw
          obtain ⟨s0, s1, s2, s3⟩ := hSw
          go_simp
          with_reducible rfl
        simp only [Act.put, List.setIfInBounds_toArray, List.set_cons_zero, List.set_cons_succ]
        refine wpAnyJ_done (by kernel_rfl) ?_ _
        go_wp2_with fail
        go_ret
        exact ⟨_, rfl, by rw [HQ.out]; rfl, HBT.out.trans ((Up.bel hU5).mono HBT.out.size)⟩
      · have HF := Lib.hid hf
        have H9 := Lib.hid (few03_rm hf).1
        by_cases hc : mchkM R C xs = 0
        · have HC := Lib.hid hc
          by_cases hs : R = C
          · have hne1 : (R != C) = false := by rw [hs]; simp
            have hne2 : (R != R) = false := by simp
            have HT := Lib.hid (show sq1 R C xs = true by unfold sq1; rw [hf, decide_eq_true hc, decide_eq_true hs]; rfl)
            clear hf hc hs
            go_wp2_with fail
            have hSd : W.drew.cell? ⟨wr.heap.size, 0, none⟩ = some (.int .i64 R) ∧ W.drew.cell? ⟨wr.heap.size, 1, none⟩ = some (.int .i64 C) ∧ W.drew.cell? ⟨wr.heap.size, 2, none⟩ = some (.slice a xs.length cap) ∧ W.drew.cell? ⟨g, 0, none⟩ = some (.int .i64 R) := ⟨y0, y1, y2, y3⟩
            refine wp_regionJ (S := fun w' => w'.cell? ⟨wr.heap.size, 0, none⟩ = some (.int .i64 R) ∧ w'.cell? ⟨wr.heap.size, 1, none⟩ = some (.int .i64 C) ∧ w'.cell? ⟨wr.heap.size, 2, none⟩ = some (.slice a xs.length cap) ∧ w'.cell? ⟨g, 0, none⟩ = some (.int .i64 R)) (A := fun _ => true) (by kernel_rfl) ?_
            refine wpAnyJ_take (i := 0) (oi := { dst := some 11, op := .load _ (.tmp 4), type := _, pos := _, after := _, guard := _ }) (v := ?_) rfl (by kernel_rfl) (by kernel_rfl) (by kernel_rfl) (by kernel_rfl) (fun _ _ _ h => h) (Or.inl ⟨by rfl, ?_⟩) hSd ?_
            rotate_left
            · intro wl hSw
              obtain ⟨s0, s1, s2, s3⟩ := hSw
              go_simp
              with_reducible rfl
            simp only [Act.put, List.setIfInBounds_toArray, List.set_cons_zero, List.set_cons_succ]
            refine wpAnyJ_only (i := 1) (o := { dst := some 12, op := _, type := _, pos := _, after := _, guard := _ }) (by kernel_rfl) rfl (fun K hK => ?_)
            go_simp
            refine (Few03_any _ 6 R C _ xs HVd.out HS.out).mono ?_
            rintro e w4 ⟨u4, rfl, rfl, hb4⟩
            rw [HF.out]
            have hU4 := HU0.out.drew.call hb4
            have HV4 := Lib.hid (HVd.out.below hb4 (Nat.le_refl _))
            have hS4 := HH4.out w4 hU4
            refine hK.out _ _ (fun _ => hS4) ?_
            try simp only [Act.put, List.setIfInBounds_toArray, List.set_cons_zero, List.set_cons_succ]
            clear hK K
            refine wpAnyJ_take (i := 2) (oi := { dst := some 13, op := _, type := _, pos := _, after := _, guard := _ }) (v := ?_) rfl (by kernel_rfl) (by kernel_rfl) (by kernel_rfl) (by kernel_rfl) (fun _ _ _ h => h) (Or.inl ⟨by rfl, ?_⟩) hS4 ?_
            rotate_left
            · intro wl hSw
              obtain ⟨s0, s1, s2, s3⟩ := hSw
              go_simp
              with_reducible rfl
            simp only [Act.put, List.setIfInBounds_toArray, List.set_cons_zero, List.set_cons_succ]
            refine wpAnyJ_take (i := 3) (oi := { dst := some 14, op := .move (.tmp 13), type := _, pos := _, after := _, guard := _ }) (v := ?_) rfl (by kernel_rfl) (by kernel_rfl) (by kernel_rfl) (by kernel_rfl) (fun _ _ _ h => h) (Or.inl ⟨by rfl, ?_⟩) hS4 ?_
            rotate_left
            · intro wl hSw
              obtain ⟨s0, s1, s2, s3⟩ := hSw
              go_simp
              with_reducible rfl
            simp only [Act.put, List.setIfInBounds_toArray, List.set_cons_zero, List.set_cons_succ]
            refine wpAnyJ_take (i := 4) (oi := { dst := some 15, op := .load _ (.tmp 4), type := _, pos := _, after := _, guard := _ }) (v := ?_) rfl (by kernel_rfl) (by kernel_rfl) (by kernel_rfl) (by kernel_rfl) (fun _ _ _ h => h) (Or.inl ⟨by rfl, ?_⟩) hS4 ?_
            rotate_left
            · intro wl hSw
              obtain ⟨s0, s1, s2, s3⟩ := hSw
              go_simp
              with_reducible rfl
            simp only [Act.put, List.setIfInBounds_toArray, List.set_cons_zero, List.set_cons_succ]
            refine wpAnyJ_only (i := 5) (o := { dst := some 16, op := _, type := _, pos := _, after := _, guard := _ }) (by kernel_rfl) rfl (fun K hK => ?_)
            go_simp
            refine (rMCheck_any _ R C _ xs HV4.out (fun _ => H9.out.big (by omega))).mono ?_
            rintro e w5 ⟨u5, rfl, rfl, hb5⟩
            rw [HC.out]
            have hU5 := hU4.call hb5
            have hS5 := HH4.out w5 hU5
            refine hK.out _ _ (fun _ => hS5) ?_
            try simp only [Act.put, List.setIfInBounds_toArray, List.set_cons_zero, List.set_cons_succ]
            clear hK K
            refine wpAnyJ_take (i := 6) (oi := { dst := some 17, op := .binOp _ _ (.tmp 16) _ _, type := _, pos := _, after := _, guard := _ }) (v := ?_) rfl (by kernel_rfl) (by kernel_rfl) (by kernel_rfl) (by kernel_rfl) (fun _ _ _ h => h) (Or.inl ⟨by rfl, ?_⟩) hS5 ?_
            rotate_left
            · intro wl hSw
              obtain ⟨s0, s1, s2, s3⟩ := hSw
              go_simp
              with_reducible rfl
            simp only [Act.put, List.setIfInBounds_toArray, List.set_cons_zero, List.set_cons_succ]
            refine wpAnyJ_take (i := 7) (oi := { dst := some 18, op := _, type := _, pos := _, after := _, guard := _ }) (v := ?_) rfl (by kernel_rfl) (by kernel_rfl) (by kernel_rfl) (by kernel_rfl) (fun _ _ _ h => h) (Or.inl ⟨by rfl, ?_⟩) hS5 ?_
            rotate_left
            · intro wl hSw
              obtain ⟨s0, s1, s2, s3⟩ := hSw
              go_simp
              with_reducible rfl
            simp only [Act.put, List.setIfInBounds_toArray, List.set_cons_zero, List.set_cons_succ]
            refine wpAnyJ_take (i := 8) (oi := { dst := some 19, op := .move (.tmp 18), type := _, pos := _, after := _, guard := _ }) (v := ?_) rfl (by kernel_rfl) (by kernel_rfl) (by kernel_rfl) (by kernel_rfl) (fun _ _ _ h => h) (Or.inl ⟨by rfl, ?_⟩) hS5 ?_
            rotate_left
            · intro wl hSw
              obtain ⟨s0, s1, s2, s3⟩ := hSw
              go_simp
              with_reducible rfl
            simp only [Act.put, List.setIfInBounds_toArray, List.set_cons_zero, List.set_cons_succ]
            refine wpAnyJ_take (i := 9) (oi := { dst := some 20, op := .fieldAddr _ (.tmp 4) 0, type := _, pos := _, after := _, guard := _ }) (v := ?_) rfl (by kernel_rfl) (by kernel_rfl) (by kernel_rfl) (by kernel_rfl) (fun _ _ _ h => h) (Or.inl ⟨by rfl, ?_⟩) hS5 ?_
            rotate_left
            · intro wl hSw
              obtain ⟨s0, s1, s2, s3⟩ := hSw
              go_simp
              with_reducible rfl
            simp only [Act.put, List.setIfInBounds_toArray, List.set_cons_zero, List.set_cons_succ]
            refine wpAnyJ_take (i := 10) (oi := { dst := some 21, op := .load _ (.tmp 20), type := _, pos := _, after := _, guard := _ }) (v := ?_) rfl (by kernel_rfl) (by kernel_rfl) (by kernel_rfl) (by kernel_rfl) (fun _ _ _ h => h) (Or.inl ⟨by rfl, ?_⟩) hS5 ?_
            rotate_left
            · intro wl hSw
              obtain ⟨s0, s1, s2, s3⟩ := hSw
              go_simp
              with_reducible rfl
            simp only [Act.put, List.setIfInBounds_toArray, List.set_cons_zero, List.set_cons_succ]
            refine wpAnyJ_take (i := 11) (oi := { dst := some 22, op := .fieldAddr _ (.tmp 4) 1, type := _, pos := _, after := _, guard := _ }) (v := ?_) rfl (by kernel_rfl) (by kernel_rfl) (by kernel_rfl) (by kernel_rfl) (fun _ _ _ h => h) (Or.inl ⟨by rfl, ?_⟩) hS5 ?_
            rotate_left
            · intro wl hSw
              obtain ⟨s0, s1, s2, s3⟩ := hSw
              go_simp
              with_reducible rfl
            simp only [Act.put, List.setIfInBounds_toArray, List.set_cons_zero, List.set_cons_succ]
            refine wpAnyJ_take (i := 12) (oi := { dst := some 23, op := .load _ (.tmp 22), type := _, pos := _, after := _, guard := _ }) (v := ?_) rfl (by kernel_rfl) (by kernel_rfl) (by kernel_rfl) (by kernel_rfl) (fun _ _ _ h => h) (Or.inl ⟨by rfl, ?_⟩) hS5 ?_
            rotate_left
            · intro wl hSw
              obtain ⟨s0, s1, s2, s3⟩ := hSw
              go_simp
              with_reducible rfl
            simp only [Act.put, List.setIfInBounds_toArray, List.set_cons_zero, List.set_cons_succ]
            refine wpAnyJ_take (i := 13) (oi := { dst := some 24, op := .binOp _ _ (.tmp 21) (.tmp 23) _, type := _, pos := _, after := _, guard := _ }) (v := ?_) rfl (by kernel_rfl) (by kernel_rfl) (by kernel_rfl) (by kernel_rfl) (fun _ _ _ h => h) (Or.inl ⟨by rfl, ?_⟩) hS5 ?_
            rotate_left
            · intro wl hSw
              obtain ⟨s0, s1, s2, s3⟩ := hSw
              go_simp
              with_reducible rfl
            simp only [Act.put, List.setIfInBounds_toArray, List.set_cons_zero, List.set_cons_succ]
            refine wpAnyJ_take (i := 14) (oi := { dst := some 25, op := _, type := _, pos := _, after := _, guard := _ }) (v := ?_) rfl (by kernel_rfl) (by kernel_rfl) (by kernel_rfl) (by kernel_rfl) (fun _ _ _ h => h) (Or.inl ⟨by rfl, ?_⟩) hS5 ?_
            rotate_left
            · intro wl hSw
              obtain ⟨s0, s1, s2, s3⟩ := hSw
              go_simp
              with_reducible rfl
            simp only [Act.put, List.setIfInBounds_toArray, List.set_cons_zero, List.set_cons_succ]
            refine wpAnyJ_take (i := 15) (oi := { dst := some 26, op := .move (.tmp 25), type := _, pos := _, after := _, guard := _ }) (v := ?_) rfl (by kernel_rfl) (by kernel_rfl) (by kernel_rfl) (by kernel_rfl) (fun _ _ _ h => h) (Or.inl ⟨by rfl, ?_⟩) hS5 ?_
            rotate_left
            · intro wl hSw
              obtain ⟨s0, s1, s2, s3⟩ := hSw
              go_simp
              with_reducible rfl
            simp only [Act.put, List.setIfInBounds_toArray, List.set_cons_zero, List.set_cons_succ]
            refine wpAnyJ_take (i := 16) (oi := { dst := some 27, op := .fieldAddr _ (.tmp 4) 0, type := _, pos := _, after := _, guard := _ }) (v := ?_) rfl (by kernel_rfl) (by kernel_rfl) (by kernel_rfl) (by kernel_rfl) (fun _ _ _ h => h) (Or.inl ⟨by rfl, ?_⟩) hS5 ?_
            rotate_left
            · intro wl hSw
              obtain ⟨s0, s1, s2, s3⟩ := hSw
              go_simp
              with_reducible rfl
            simp only [Act.put, List.setIfInBounds_toArray, List.set_cons_zero, List.set_cons_succ]
            refine wpAnyJ_take (i := 17) (oi := { dst := some 28, op := .load _ (.tmp 27), type := _, pos := _, after := _, guard := _ }) (v := ?_) rfl (by kernel_rfl) (by kernel_rfl) (by kernel_rfl) (by kernel_rfl) (fun _ _ _ h => h) (Or.inl ⟨by rfl, ?_⟩) hS5 ?_
            rotate_left
            · intro wl hSw
              obtain ⟨s0, s1, s2, s3⟩ := hSw
              go_simp
              with_reducible rfl
            simp only [Act.put, List.setIfInBounds_toArray, List.set_cons_zero, List.set_cons_succ]
            refine wpAnyJ_take (i := 18) (oi := { dst := some 29, op := .move (.tmp 0), type := _, pos := _, after := _, guard := _ }) (v := ?_) rfl (by kernel_rfl) (by kernel_rfl) (by kernel_rfl) (by kernel_rfl) (fun _ _ _ h => h) (Or.inl ⟨by rfl, ?_⟩) hS5 ?_
            rotate_left
            · intro wl hSw
              obtain ⟨s0, s1, s2, s3⟩ := hSw
              go_simp
              with_reducible rfl
            simp only [Act.put, List.setIfInBounds_toArray, List.set_cons_zero, List.set_cons_succ]
            refine wpAnyJ_take (i := 19) (oi := { dst := some 30, op := .indexAddr _ (.tmp 29) _, type := _, pos := _, after := _, guard := _ }) (v := ?_) rfl (by kernel_rfl) (by kernel_rfl) (by kernel_rfl) (by kernel_rfl) (fun _ _ _ h => h) (Or.inl ⟨by rfl, ?_⟩) hS5 ?_
            rotate_left
            · intro wl hSw
              obtain ⟨s0, s1, s2, s3⟩ := hSw
              go_simp
              with_reducible rfl
            simp only [Act.put, List.setIfInBounds_toArray, List.set_cons_zero, List.set_cons_succ]
            refine wpAnyJ_take (i := 20) (oi := { dst := some 31, op := .fieldAddr _ (.tmp 30) 0, type := _, pos := _, after := _, guard := _ }) (v := ?_) rfl (by kernel_rfl) (by kernel_rfl) (by kernel_rfl) (by kernel_rfl) (fun _ _ _ h => h) (Or.inl ⟨by rfl, ?_⟩) hS5 ?_
            rotate_left
            · intro wl hSw
              obtain ⟨s0, s1, s2, s3⟩ := hSw
              go_simp
              with_reducible rfl
            simp only [Act.put, List.setIfInBounds_toArray, List.set_cons_zero, List.set_cons_succ]
            refine wpAnyJ_take (i := 21) (oi := { dst := some 32, op := .load _ (.tmp 31), type := _, pos := _, after := _, guard := _ }) (v := ?_) rfl (by kernel_rfl) (by kernel_rfl) (by kernel_rfl) (by kernel_rfl) (fun _ _ _ h => h) (Or.inl ⟨by rfl, ?_⟩) hS5 ?_
            rotate_left
            · intro wl hSw
              obtain ⟨s0, s1, s2, s3⟩ := hSw
              go_simp
              with_reducible rfl
            simp only [Act.put, List.setIfInBounds_toArray, List.set_cons_zero, List.set_cons_succ]
            refine wpAnyJ_take (i := 22) (oi := { dst := some 33, op := .binOp _ _ (.tmp 28) (.tmp 32) _, type := _, pos := _, after := _, guard := _ }) (v := ?_) rfl (by kernel_rfl) (by kernel_rfl) (by kernel_rfl) (by kernel_rfl) (fun _ _ _ h => h) (Or.inl ⟨by rfl, ?_⟩) hS5 ?_
            rotate_left
            · intro wl hSw
              obtain ⟨s0, s1, s2, s3⟩ := hSw
              go_simp
              with_reducible rfl
            simp only [Act.put, List.setIfInBounds_toArray, List.set_cons_zero, List.set_cons_succ]
            refine wpAnyJ_take (i := 23) (oi := { dst := some 34, op := _, type := _, pos := _, after := _, guard := _ }) (v := ?_) rfl (by kernel_rfl) (by kernel_rfl) (by kernel_rfl) (by kernel_rfl) (fun _ _ _ h => h) (Or.inl ⟨by rfl, ?_⟩) hS5 ?_
            rotate_left
            · intro wl hSw
              obtain ⟨s0, s1, s2, s3⟩ := hSw
              go_simp
              with_reducible rfl
            simp only [Act.put, List.setIfInBounds_toArray, List.set_cons_zero, List.set_cons_succ]
            refine wpAnyJ_done (by kernel_rfl) ?_ _
            go_wp2_with fail
            go_roundw
            case rel => exact ⟨1, by omega, by go_num, Lib.hid (fun _ => HT.out), HBT.out.trans ((Up.bel hU5).mono HBT.out.size)⟩
            case measure => simp [intOf]
          · have hne1 : (R != C) = true := by simp [hs]
            have HQ := Lib.hid (show sq1 R C xs = false by unfold sq1; simp [hs])
            clear hf hc hs
            go_wp2_with fail
            have hSd : W.drew.cell? ⟨wr.heap.size, 0, none⟩ = some (.int .i64 R) ∧ W.drew.cell? ⟨wr.heap.size, 1, none⟩ = some (.int .i64 C) ∧ W.drew.cell? ⟨wr.heap.size, 2, none⟩ = some (.slice a xs.length cap) ∧ W.drew.cell? ⟨g, 0, none⟩ = some (.int .i64 R) := ⟨y0, y1, y2, y3⟩
            refine wp_regionJ (S := fun w' => w'.cell? ⟨wr.heap.size, 0, none⟩ = some (.int .i64 R) ∧ w'.cell? ⟨wr.heap.size, 1, none⟩ = some (.int .i64 C) ∧ w'.cell? ⟨wr.heap.size, 2, none⟩ = some (.slice a xs.length cap) ∧ w'.cell? ⟨g, 0, none⟩ = some (.int .i64 R)) (A := fun _ => true) (by kernel_rfl) ?_
            refine wpAnyJ_take (i := 0) (oi := { dst := some 11, op := .load _ (.tmp 4), type := _, pos := _, after := _, guard := _ }) (v := ?_) rfl (by kernel_rfl) (by kernel_rfl) (by kernel_rfl) (by kernel_rfl) (fun _ _ _ h => h) (Or.inl ⟨by rfl, ?_⟩) hSd ?_
            rotate_left
            · intro wl hSw
              obtain ⟨s0, s1, s2, s3⟩ := hSw
              go_simp
              with_reducible rfl
            simp only [Act.put, List.setIfInBounds_toArray, List.set_cons_zero, List.set_cons_succ]
            refine wpAnyJ_only (i := 1) (o := { dst := some 12, op := _, type := _, pos := _, after := _, guard := _ }) (by kernel_rfl) rfl (fun K hK => ?_)
            go_simp
            refine (Few03_any _ 6 R C _ xs HVd.out HS.out).mono ?_
            rintro e w4 ⟨u4, rfl, rfl, hb4⟩
            rw [HF.out]
            have hU4 := HU0.out.drew.call hb4
            have HV4 := Lib.hid (HVd.out.below hb4 (Nat.le_refl _))
            have hS4 := HH4.out w4 hU4
            refine hK.out _ _ (fun _ => hS4) ?_
            try simp only [Act.put, List.setIfInBounds_toArray, List.set_cons_zero, List.set_cons_succ]
            clear hK K
            refine wpAnyJ_take (i := 2) (oi := { dst := some 13, op := _, type := _, pos := _, after := _, guard := _ }) (v := ?_) rfl (by kernel_rfl) (by kernel_rfl) (by kernel_rfl) (by kernel_rfl) (fun _ _ _ h => h) (Or.inl ⟨by rfl, ?_⟩) hS4 ?_
            rotate_left
            · intro wl hSw
              obtain ⟨s0, s1, s2, s3⟩ := hSw
              go_simp
              with_reducible rfl
            simp only [Act.put, List.setIfInBounds_toArray, List.set_cons_zero, List.set_cons_succ]
            refine wpAnyJ_take (i := 3) (oi := { dst := some 14, op := .move (.tmp 13), type := _, pos := _, after := _, guard := _ }) (v := ?_) rfl (by kernel_rfl) (by kernel_rfl) (by kernel_rfl) (by kernel_rfl) (fun _ _ _ h => h) (Or.inl ⟨by rfl, ?_⟩) hS4 ?_
            rotate_left
            · intro wl hSw
              obtain ⟨s0, s1, s2, s3⟩ := hSw
              go_simp
              with_reducible rfl
            simp only [Act.put, List.setIfInBounds_toArray, List.set_cons_zero, List.set_cons_succ]
            refine wpAnyJ_take (i := 4) (oi := { dst := some 15, op := .load _ (.tmp 4), type := _, pos := _, after := _, guard := _ }) (v := ?_) rfl (by kernel_rfl) (by kernel_rfl) (by kernel_rfl) (by kernel_rfl) (fun _ _ _ h => h) (Or.inl ⟨by rfl, ?_⟩) hS4 ?_
            rotate_left
            · intro wl hSw
              obtain ⟨s0, s1, s2, s3⟩ := hSw
              go_simp
              with_reducible rfl
            simp only [Act.put, List.setIfInBounds_toArray, List.set_cons_zero, List.set_cons_succ]
            refine wpAnyJ_only (i := 5) (o := { dst := some 16, op := _, type := _, pos := _, after := _, guard := _ }) (by kernel_rfl) rfl (fun K hK => ?_)
            go_simp
            refine (rMCheck_any _ R C _ xs HV4.out (fun _ => H9.out.big (by omega))).mono ?_
            rintro e w5 ⟨u5, rfl, rfl, hb5⟩
            rw [HC.out]
            have hU5 := hU4.call hb5
            have hS5 := HH4.out w5 hU5
            refine hK.out _ _ (fun _ => hS5) ?_
            try simp only [Act.put, List.setIfInBounds_toArray, List.set_cons_zero, List.set_cons_succ]
            clear hK K
            refine wpAnyJ_take (i := 6) (oi := { dst := some 17, op := .binOp _ _ (.tmp 16) _ _, type := _, pos := _, after := _, guard := _ }) (v := ?_) rfl (by kernel_rfl) (by kernel_rfl) (by kernel_rfl) (by kernel_rfl) (fun _ _ _ h => h) (Or.inl ⟨by rfl, ?_⟩) hS5 ?_
            rotate_left
            · intro wl hSw
              obtain ⟨s0, s1, s2, s3⟩ := hSw
              go_simp
              with_reducible rfl
            simp only [Act.put, List.setIfInBounds_toArray, List.set_cons_zero, List.set_cons_succ]
            refine wpAnyJ_take (i := 7) (oi := { dst := some 18, op := _, type := _, pos := _, after := _, guard := _ }) (v := ?_) rfl (by kernel_rfl) (by kernel_rfl) (by kernel_rfl) (by kernel_rfl) (fun _ _ _ h => h) (Or.inl ⟨by rfl, ?_⟩) hS5 ?_
            rotate_left
            · intro wl hSw
              obtain ⟨s0, s1, s2, s3⟩ := hSw
              go_simp
              with_reducible rfl
            simp only [Act.put, List.setIfInBounds_toArray, List.set_cons_zero, List.set_cons_succ]
            refine wpAnyJ_take (i := 8) (oi := { dst := some 19, op := .move (.tmp 18), type := _, pos := _, after := _, guard := _ }) (v := ?_) rfl (by kernel_rfl) (by kernel_rfl) (by kernel_rfl) (by kernel_rfl) (fun _ _ _ h => h) (Or.inl ⟨by rfl, ?_⟩) hS5 ?_
            rotate_left
            · intro wl hSw
              obtain ⟨s0, s1, s2, s3⟩ := hSw
              go_simp
              with_reducible rfl
            simp only [Act.put, List.setIfInBounds_toArray, List.set_cons_zero, List.set_cons_succ]
            refine wpAnyJ_take (i := 9) (oi := { dst := some 20, op := .fieldAddr _ (.tmp 4) 0, type := _, pos := _, after := _, guard := _ }) (v := ?_) rfl (by kernel_rfl) (by kernel_rfl) (by kernel_rfl) (by kernel_rfl) (fun _ _ _ h => h) (Or.inl ⟨by rfl, ?_⟩) hS5 ?_
            rotate_left
            · intro wl hSw
              obtain ⟨s0, s1, s2, s3⟩ := hSw
              go_simp
              with_reducible rfl
            simp only [Act.put, List.setIfInBounds_toArray, List.set_cons_zero, List.set_cons_succ]
            refine wpAnyJ_take (i := 10) (oi := { dst := some 21, op := .load _ (.tmp 20), type := _, pos := _, after := _, guard := _ }) (v := ?_) rfl (by kernel_rfl) (by kernel_rfl) (by kernel_rfl) (by kernel_rfl) (fun _ _ _ h => h) (Or.inl ⟨by rfl, ?_⟩) hS5 ?_
            rotate_left
            · intro wl hSw
              obtain ⟨s0, s1, s2, s3⟩ := hSw
              go_simp
              with_reducible rfl
            simp only [Act.put, List.setIfInBounds_toArray, List.set_cons_zero, List.set_cons_succ]
            refine wpAnyJ_take (i := 11) (oi := { dst := some 22, op := .fieldAddr _ (.tmp 4) 1, type := _, pos := _, after := _, guard := _ }) (v := ?_) rfl (by kernel_rfl) (by kernel_rfl) (by kernel_rfl) (by kernel_rfl) (fun _ _ _ h => h) (Or.inl ⟨by rfl, ?_⟩) hS5 ?_
            rotate_left
            · intro wl hSw
              obtain ⟨s0, s1, s2, s3⟩ := hSw
              go_simp
              with_reducible rfl
            simp only [Act.put, List.setIfInBounds_toArray, List.set_cons_zero, List.set_cons_succ]
            refine wpAnyJ_take (i := 12) (oi := { dst := some 23, op := .load _ (.tmp 22), type := _, pos := _, after := _, guard := _ }) (v := ?_) rfl (by kernel_rfl) (by kernel_rfl) (by kernel_rfl) (by kernel_rfl) (fun _ _ _ h => h) (Or.inl ⟨by rfl, ?_⟩) hS5 ?_
            rotate_left
            · intro wl hSw
              obtain ⟨s0, s1, s2, s3⟩ := hSw
              go_simp
              with_reducible rfl
            simp only [Act.put, List.setIfInBounds_toArray, List.set_cons_zero, List.set_cons_succ]
            refine wpAnyJ_take (i := 13) (oi := { dst := some 24, op := .binOp _ _ (.tmp 21) (.tmp 23) _, type := _, pos := _, after := _, guard := _ }) (v := ?_) rfl (by kernel_rfl) (by kernel_rfl) (by kernel_rfl) (by kernel_rfl) (fun _ _ _ h => h) (Or.inl ⟨by rfl, ?_⟩) hS5 ?_
            rotate_left
            · intro wl hSw
              obtain ⟨s0, s1, s2, s3⟩ := hSw
              go_simp
              with_reducible rfl
            simp only [Act.put, List.setIfInBounds_toArray, List.set_cons_zero, List.set_cons_succ]
            refine wpAnyJ_take (i := 14) (oi := { dst := some 25, op := _, type := _, pos := _, after := _, guard := _ }) (v := ?_) rfl (by kernel_rfl) (by kernel_rfl) (by kernel_rfl) (by kernel_rfl) (fun _ _ _ h => h) (Or.inl ⟨by rfl, ?_⟩) hS5 ?_
            rotate_left
            · intro wl hSw
              obtain ⟨s0, s1, s2, s3⟩ := hSw
              go_simp
              with_reducible rfl
            simp only [Act.put, List.setIfInBounds_toArray, List.set_cons_zero, List.set_cons_succ]
            refine wpAnyJ_take (i := 15) (oi := { dst := some 26, op := .move (.tmp 25), type := _, pos := _, after := _, guard := _ }) (v := ?_) rfl (by kernel_rfl) (by kernel_rfl) (by kernel_rfl) (by kernel_rfl) (fun _ _ _ h => h) (Or.inl ⟨by rfl, ?_⟩) hS5 ?_
            rotate_left
            · intro wl hSw
              obtain ⟨s0, s1, s2, s3⟩ := hSw
              go_simp
              with_reducible rfl
            simp only [Act.put, List.setIfInBounds_toArray, List.set_cons_zero, List.set_cons_succ]
            refine wpAnyJ_take (i := 16) (oi := { dst := some 27, op := .fieldAddr _ (.tmp 4) 0, type := _, pos := _, after := _, guard := _ }) (v := undef) rfl (by kernel_rfl) (by kernel_rfl) (by kernel_rfl) (by kernel_rfl) (fun _ _ _ h => h) (Or.inr ⟨by rfl, rfl⟩) hS5 ?_
            simp only [Act.put, List.setIfInBounds_toArray, List.set_cons_zero, List.set_cons_succ]
            refine wpAnyJ_take (i := 17) (oi := { dst := some 28, op := .load _ (.tmp 27), type := _, pos := _, after := _, guard := _ }) (v := undef) rfl (by kernel_rfl) (by kernel_rfl) (by kernel_rfl) (by kernel_rfl) (fun _ _ _ h => h) (Or.inr ⟨by rfl, rfl⟩) hS5 ?_
            simp only [Act.put, List.setIfInBounds_toArray, List.set_cons_zero, List.set_cons_succ]
            refine wpAnyJ_take (i := 18) (oi := { dst := some 29, op := .move (.tmp 0), type := _, pos := _, after := _, guard := _ }) (v := undef) rfl (by kernel_rfl) (by kernel_rfl) (by kernel_rfl) (by kernel_rfl) (fun _ _ _ h => h) (Or.inr ⟨by rfl, rfl⟩) hS5 ?_
            simp only [Act.put, List.setIfInBounds_toArray, List.set_cons_zero, List.set_cons_succ]
            refine wpAnyJ_take (i := 19) (oi := { dst := some 30, op := .indexAddr _ (.tmp 29) _, type := _, pos := _, after := _, guard := _ }) (v := undef) rfl (by kernel_rfl) (by kernel_rfl) (by kernel_rfl) (by kernel_rfl) (fun _ _ _ h => h) (Or.inr ⟨by rfl, rfl⟩) hS5 ?_
            simp only [Act.put, List.setIfInBounds_toArray, List.set_cons_zero, List.set_cons_succ]
            refine wpAnyJ_take (i := 20) (oi := { dst := some 31, op := .fieldAddr _ (.tmp 30) 0, type := _, pos := _, after := _, guard := _ }) (v := undef) rfl (by kernel_rfl) (by kernel_rfl) (by kernel_rfl) (by kernel_rfl) (fun _ _ _ h => h) (Or.inr ⟨by rfl, rfl⟩) hS5 ?_
            simp only [Act.put, List.setIfInBounds_toArray, List.set_cons_zero, List.set_cons_succ]
            refine wpAnyJ_take (i := 21) (oi := { dst := some 32, op := .load _ (.tmp 31), type := _, pos := _, after := _, guard := _ }) (v := undef) rfl (by kernel_rfl) (by kernel_rfl) (by kernel_rfl) (by kernel_rfl) (fun _ _ _ h => h) (Or.inr ⟨by rfl, rfl⟩) hS5 ?_
            simp only [Act.put, List.setIfInBounds_toArray, List.set_cons_zero, List.set_cons_succ]
            refine wpAnyJ_take (i := 22) (oi := { dst := some 33, op := .binOp _ _ (.tmp 28) (.tmp 32) _, type := _, pos := _, after := _, guard := _ }) (v := undef) rfl (by kernel_rfl) (by kernel_rfl) (by kernel_rfl) (by kernel_rfl) (fun _ _ _ h => h) (Or.inr ⟨by rfl, rfl⟩) hS5 ?_
            simp only [Act.put, List.setIfInBounds_toArray, List.set_cons_zero, List.set_cons_succ]
            refine wpAnyJ_take (i := 23) (oi := { dst := some 34, op := _, type := _, pos := _, after := _, guard := _ }) (v := ?_) rfl (by kernel_rfl) (by kernel_rfl) (by kernel_rfl) (by kernel_rfl) (fun _ _ _ h => h) (Or.inl ⟨by rfl, ?_⟩) hS5 ?_
            rotate_left
            · intro wl hSw
              obtain ⟨s0, s1, s2, s3⟩ := hSw
              go_simp
              with_reducible rfl
            simp only [Act.put, List.setIfInBounds_toArray, List.set_cons_zero, List.set_cons_succ]
            refine wpAnyJ_done (by kernel_rfl) ?_ _
            go_wp2_with fail
            go_ret
            exact ⟨_, rfl, by rw [HQ.out]; rfl, HBT.out.trans ((Up.bel hU5).mono HBT.out.size)⟩
        · have hne0 : (mchkM R C xs != 0) = true := by simp [hc]
          have HQ := Lib.hid (show sq1 R C xs = false by unfold sq1; simp [hc])
          clear hf hc
          go_wp2_with fail
          have hSd : W.drew.cell? ⟨wr.heap.size, 0, none⟩ = some (.int .i64 R) ∧ W.drew.cell? ⟨wr.heap.size, 1, none⟩ = some (.int .i64 C) ∧ W.drew.cell? ⟨wr.heap.size, 2, none⟩ = some (.slice a xs.length cap) ∧ W.drew.cell? ⟨g, 0, none⟩ = some (.int .i64 R) := ⟨y0, y1, y2, y3⟩
          refine wp_regionJ (S := fun w' => w'.cell? ⟨wr.heap.size, 0, none⟩ = some (.int .i64 R) ∧ w'.cell? ⟨wr.heap.size, 1, none⟩ = some (.int .i64 C) ∧ w'.cell? ⟨wr.heap.size, 2, none⟩ = some (.slice a xs.length cap) ∧ w'.cell? ⟨g, 0, none⟩ = some (.int .i64 R)) (A := fun _ => true) (by kernel_rfl) ?_
          refine wpAnyJ_take (i := 0) (oi := { dst := some 11, op := .load _ (.tmp 4), type := _, pos := _, after := _, guard := _ }) (v := ?_) rfl (by kernel_rfl) (by kernel_rfl) (by kernel_rfl) (by kernel_rfl) (fun _ _ _ h => h) (Or.inl ⟨by rfl, ?_⟩) hSd ?_
          rotate_left
          · intro wl hSw
            obtain ⟨s0, s1, s2, s3⟩ := hSw
            go_simp
            with_reducible rfl
          simp only [Act.put, List.setIfInBounds_toArray, List.set_cons_zero, List.set_cons_succ]
          refine wpAnyJ_only (i := 1) (o := { dst := some 12, op := _, type := _, pos := _, after := _, guard := _ }) (by kernel_rfl) rfl (fun K hK => ?_)
          go_simp
          refine (Few03_any _ 6 R C _ xs HVd.out HS.out).mono ?_
          rintro e w4 ⟨u4, rfl, rfl, hb4⟩
          rw [HF.out]
          have hU4 := HU0.out.drew.call hb4
          have HV4 := Lib.hid (HVd.out.below hb4 (Nat.le_refl _))
          have hS4 := HH4.out w4 hU4
          refine hK.out _ _ (fun _ => hS4) ?_
          try simp only [Act.put, List.setIfInBounds_toArray, List.set_cons_zero, List.set_cons_succ]
          clear hK K
          refine wpAnyJ_take (i := 2) (oi := { dst := some 13, op := _, type := _, pos := _, after := _, guard := _ }) (v := ?_) rfl (by kernel_rfl) (by kernel_rfl) (by kernel_rfl) (by kernel_rfl) (fun _ _ _ h => h) (Or.inl ⟨by rfl, ?_⟩) hS4 ?_
          rotate_left
          · intro wl hSw
            obtain ⟨s0, s1, s2, s3⟩ := hSw
            go_simp
            with_reducible rfl
          simp only [Act.put, List.setIfInBounds_toArray, List.set_cons_zero, List.set_cons_succ]
          refine wpAnyJ_take (i := 3) (oi := { dst := some 14, op := .move (.tmp 13), type := _, pos := _, after := _, guard := _ }) (v := ?_) rfl (by kernel_rfl) (by kernel_rfl) (by kernel_rfl) (by kernel_rfl) (fun _ _ _ h => h) (Or.inl ⟨by rfl, ?_⟩) hS4 ?_
          rotate_left
          · intro wl hSw
            obtain ⟨s0, s1, s2, s3⟩ := hSw
            go_simp
            with_reducible rfl
          simp only [Act.put, List.setIfInBounds_toArray, List.set_cons_zero, List.set_cons_succ]
          refine wpAnyJ_take (i := 4) (oi := { dst := some 15, op := .load _ (.tmp 4), type := _, pos := _, after := _, guard := _ }) (v := ?_) rfl (by kernel_rfl) (by kernel_rfl) (by kernel_rfl) (by kernel_rfl) (fun _ _ _ h => h) (Or.inl ⟨by rfl, ?_⟩) hS4 ?_
          rotate_left
          · intro wl hSw
            obtain ⟨s0, s1, s2, s3⟩ := hSw
            go_simp
            with_reducible rfl
          simp only [Act.put, List.setIfInBounds_toArray, List.set_cons_zero, List.set_cons_succ]
          refine wpAnyJ_only (i := 5) (o := { dst := some 16, op := _, type := _, pos := _, after := _, guard := _ }) (by kernel_rfl) rfl (fun K hK => ?_)
          go_simp
          refine (rMCheck_any _ R C _ xs HV4.out (fun _ => H9.out.big (by omega))).mono ?_
          rintro e w5 ⟨u5, rfl, rfl, hb5⟩
          have hU5 := hU4.call hb5
          have hS5 := HH4.out w5 hU5
          refine hK.out _ _ (fun _ => hS5) ?_
          try simp only [Act.put, List.setIfInBounds_toArray, List.set_cons_zero, List.set_cons_succ]
          clear hK K
          refine wpAnyJ_take (i := 6) (oi := { dst := some 17, op := .binOp _ _ (.tmp 16) _ _, type := _, pos := _, after := _, guard := _ }) (v := ?_) rfl (by kernel_rfl) (by kernel_rfl) (by kernel_rfl) (by kernel_rfl) (fun _ _ _ h => h) (Or.inl ⟨by rfl, ?_⟩) hS5 ?_
          rotate_left
          · intro wl hSw
            obtain ⟨s0, s1, s2, s3⟩ := hSw
            go_simp
            with_reducible rfl
          simp only [Act.put, List.setIfInBounds_toArray, List.set_cons_zero, List.set_cons_succ]
          refine wpAnyJ_take (i := 7) (oi := { dst := some 18, op := _, type := _, pos := _, after := _, guard := _ }) (v := ?_) rfl (by kernel_rfl) (by kernel_rfl) (by kernel_rfl) (by kernel_rfl) (fun _ _ _ h => h) (Or.inl ⟨by rfl, ?_⟩) hS5 ?_
          rotate_left
          · intro wl hSw
            obtain ⟨s0, s1, s2, s3⟩ := hSw
            go_simp
            with_reducible rfl
          simp only [Act.put, List.setIfInBounds_toArray, List.set_cons_zero, List.set_cons_succ]
          refine wpAnyJ_take (i := 8) (oi := { dst := some 19, op := .move (.tmp 18), type := _, pos := _, after := _, guard := _ }) (v := ?_) rfl (by kernel_rfl) (by kernel_rfl) (by kernel_rfl) (by kernel_rfl) (fun _ _ _ h => h) (Or.inl ⟨by rfl, ?_⟩) hS5 ?_
          rotate_left
          · intro wl hSw
            obtain ⟨s0, s1, s2, s3⟩ := hSw
            go_simp
            with_reducible rfl
          simp only [Act.put, List.setIfInBounds_toArray, List.set_cons_zero, List.set_cons_succ]
          refine wpAnyJ_take (i := 9) (oi := { dst := some 20, op := .fieldAddr _ (.tmp 4) 0, type := _, pos := _, after := _, guard := _ }) (v := undef) rfl (by kernel_rfl) (by kernel_rfl) (by kernel_rfl) (by kernel_rfl) (fun _ _ _ h => h) (Or.inr ⟨by rfl, rfl⟩) hS5 ?_
          simp only [Act.put, List.setIfInBounds_toArray, List.set_cons_zero, List.set_cons_succ]
          refine wpAnyJ_take (i := 10) (oi := { dst := some 21, op := .load _ (.tmp 20), type := _, pos := _, after := _, guard := _ }) (v := undef) rfl (by kernel_rfl) (by kernel_rfl) (by kernel_rfl) (by kernel_rfl) (fun _ _ _ h => h) (Or.inr ⟨by rfl, rfl⟩) hS5 ?_
          simp only [Act.put, List.setIfInBounds_toArray, List.set_cons_zero, List.set_cons_succ]
          refine wpAnyJ_take (i := 11) (oi := { dst := some 22, op := .fieldAddr _ (.tmp 4) 1, type := _, pos := _, after := _, guard := _ }) (v := undef) rfl (by kernel_rfl) (by kernel_rfl) (by kernel_rfl) (by kernel_rfl) (fun _ _ _ h => h) (Or.inr ⟨by rfl, rfl⟩) hS5 ?_
          simp only [Act.put, List.setIfInBounds_toArray, List.set_cons_zero, List.set_cons_succ]
          refine wpAnyJ_take (i := 12) (oi := { dst := some 23, op := .load _ (.tmp 22), type := _, pos := _, after := _, guard := _ }) (v := undef) rfl (by kernel_rfl) (by kernel_rfl) (by kernel_rfl) (by kernel_rfl) (fun _ _ _ h => h) (Or.inr ⟨by rfl, rfl⟩) hS5 ?_
          simp only [Act.put, List.setIfInBounds_toArray, List.set_cons_zero, List.set_cons_succ]
          refine wpAnyJ_take (i := 13) (oi := { dst := some 24, op := .binOp _ _ (.tmp 21) (.tmp 23) _, type := _, pos := _, after := _, guard := _ }) (v := undef) rfl (by kernel_rfl) (by kernel_rfl) (by kernel_rfl) (by kernel_rfl) (fun _ _ _ h => h) (Or.inr ⟨by rfl, rfl⟩) hS5 ?_
          simp only [Act.put, List.setIfInBounds_toArray, List.set_cons_zero, List.set_cons_succ]
          refine wpAnyJ_take (i := 14) (oi := { dst := some 25, op := _, type := _, pos := _, after := _, guard := _ }) (v := ?_) rfl (by kernel_rfl) (by kernel_rfl) (by kernel_rfl) (by kernel_rfl) (fun _ _ _ h => h) (Or.inl ⟨by rfl, ?_⟩) hS5 ?_
          rotate_left
          · intro wl hSw
            obtain ⟨s0, s1, s2, s3⟩ := hSw
            go_simp
            with_reducible rfl
          simp only [Act.put, List.setIfInBounds_toArray, List.set_cons_zero, List.set_cons_succ]
          refine wpAnyJ_take (i := 15) (oi := { dst := some 26, op := .move (.tmp 25), type := _, pos := _, after := _, guard := _ }) (v := ?_) rfl (by kernel_rfl) (by kernel_rfl) (by kernel_rfl) (by kernel_rfl) (fun _ _ _ h => h) (Or.inl ⟨by rfl, ?_⟩) hS5 ?_
          rotate_left
          · intro wl hSw
            obtain ⟨s0, s1, s2, s3⟩ := hSw
            go_simp
            with_reducible rfl
          simp only [Act.put, List.setIfInBounds_toArray, List.set_cons_zero, List.set_cons_succ]
          refine wpAnyJ_take (i := 16) (oi := { dst := some 27, op := .fieldAddr _ (.tmp 4) 0, type := _, pos := _, after := _, guard := _ }) (v := undef) rfl (by kernel_rfl) (by kernel_rfl) (by kernel_rfl) (by kernel_rfl) (fun _ _ _ h => h) (Or.inr ⟨by rfl, rfl⟩) hS5 ?_
          simp only [Act.put, List.setIfInBounds_toArray, List.set_cons_zero, List.set_cons_succ]
          refine wpAnyJ_take (i := 17) (oi := { dst := some 28, op := .load _ (.tmp 27), type := _, pos := _, after := _, guard := _ }) (v := undef) rfl (by kernel_rfl) (by kernel_rfl) (by kernel_rfl) (by kernel_rfl) (fun _ _ _ h => h) (Or.inr ⟨by rfl, rfl⟩) hS5 ?_
          simp only [Act.put, List.setIfInBounds_toArray, List.set_cons_zero, List.set_cons_succ]
          refine wpAnyJ_take (i := 18) (oi := { dst := some 29, op := .move (.tmp 0), type := _, pos := _, after := _, guard := _ }) (v := undef) rfl (by kernel_rfl) (by kernel_rfl) (by kernel_rfl) (by kernel_rfl) (fun _ _ _ h => h) (Or.inr ⟨by rfl, rfl⟩) hS5 ?_
          simp only [Act.put, List.setIfInBounds_toArray, List.set_cons_zero, List.set_cons_succ]
          refine wpAnyJ_take (i := 19) (oi := { dst := some 30, op := .indexAddr _ (.tmp 29) _, type := _, pos := _, after := _, guard := _ }) (v := undef) rfl (by kernel_rfl) (by kernel_rfl) (by kernel_rfl) (by kernel_rfl) (fun _ _ _ h => h) (Or.inr ⟨by rfl, rfl⟩) hS5 ?_
          simp only [Act.put, List.setIfInBounds_toArray, List.set_cons_zero, List.set_cons_succ]
          refine wpAnyJ_take (i := 20) (oi := { dst := some 31, op := .fieldAddr _ (.tmp 30) 0, type := _, pos := _, after := _, guard := _ }) (v := undef) rfl (by kernel_rfl) (by kernel_rfl) (by kernel_rfl) (by kernel_rfl) (fun _ _ _ h => h) (Or.inr ⟨by rfl, rfl⟩) hS5 ?_
          simp only [Act.put, List.setIfInBounds_toArray, List.set_cons_zero, List.set_cons_succ]
          refine wpAnyJ_take (i := 21) (oi := { dst := some 32, op := .load _ (.tmp 31), type := _, pos := _, after := _, guard := _ }) (v := undef) rfl (by kernel_rfl) (by kernel_rfl) (by kernel_rfl) (by kernel_rfl) (fun _ _ _ h => h) (Or.inr ⟨by rfl, rfl⟩) hS5 ?_
          simp only [Act.put, List.setIfInBounds_toArray, List.set_cons_zero, List.set_cons_succ]
          refine wpAnyJ_take (i := 22) (oi := { dst := some 33, op := .binOp _ _ (.tmp 28) (.tmp 32) _, type := _, pos := _, after := _, guard := _ }) (v := undef) rfl (by kernel_rfl) (by kernel_rfl) (by kernel_rfl) (by kernel_rfl) (fun _ _ _ h => h) (Or.inr ⟨by rfl, rfl⟩) hS5 ?_
          simp only [Act.put, List.setIfInBounds_toArray, List.set_cons_zero, List.set_cons_succ]
          refine wpAnyJ_take (i := 23) (oi := { dst := some 34, op := _, type := _, pos := _, after := _, guard := _ }) (v := ?_) rfl (by kernel_rfl) (by kernel_rfl) (by kernel_rfl) (by kernel_rfl) (fun _ _ _ h => h) (Or.inl ⟨by rfl, ?_⟩) hS5 ?_
          rotate_left
          · intro wl hSw
            obtain ⟨s0, s1, s2, s3⟩ := hSw
            go_simp
            with_reducible rfl
          simp only [Act.put, List.setIfInBounds_toArray, List.set_cons_zero, List.set_cons_succ]
          refine wpAnyJ_done (by kernel_rfl) ?_ _
          go_wp2_with fail
          go_ret
          exact ⟨_, rfl, by rw [HQ.out]; rfl, HBT.out.trans ((Up.bel hU5).mono HBT.out.size)⟩
    · have HQ := Lib.hid (hA.out (Nat.le_refl _))
      go_wp2
      go_ret
      exact ⟨_, rfl, by rw [HQ.out]; rfl, hb⟩
set_option maxHeartbeats 8000000 in
theorem square2_any (w : World) (g : Nat) (R C R' C' : Int) (v u : Value) (xs ys : List ByteArray) (hk : Blk w g [.int .i64 R, .int .i64 C, v, .int .i64 R', .int .i64 C', u] 24) (hv : Sl eS w v xs) (hu : Sl eS w u ys) (hsz : ∀ s ∈ xs, s.size ≤ 9223372036854775807) (hsz' : ∀ s ∈ ys, s.size ≤ 9223372036854775807) :
    Calls Tryz.prog 6 #[.slice (some ⟨g, 0, none⟩) 2 2] w (Rets fun r w' => r = .bool (sq1 R C xs && (sq1 R' C' ys && decide (R' = R))) ∧ Below w.heap.size w w') := by
  have HV := Lib.hid hv; have HU := Lib.hid hu; have HS := Lib.hid hsz; have HS' := Lib.hid hsz'; have HKL := Lib.hid hk
  obtain ⟨a, cap, rfl⟩ := sl_form hv
  obtain ⟨a', cap', rfl⟩ := sl_form hu
  clear hv hu hsz hsz' hk
  obtain ⟨QQ, hQQ⟩ : ∃ q, (sq1 R C xs && (sq1 R' C' ys && decide (R' = R))) = q := ⟨_, rfl⟩
  have HQQ := Lib.hid hQQ
  rw [hQQ]
  clear hQQ
  go_enter Tryz.func6, Tryz.ntmps6
  go_wp2
  go_loopw [7] (fun i wr => ∃ q : Nat, q ≤ 2 ∧ i = .int .i64 q ∧ Hid (1 ≤ q → sq1 R C xs = true) ∧ Hid (2 ≤ q → sq1 R' C' ys = true ∧ R' = R) ∧ Below w.heap.size w wr) (fun i _ => 2 - (intOf i).toNat)
  case atStart => exact ⟨0, Nat.zero_le _, rfl, Lib.hid (by omega), Lib.hid (by omega), Below.refl _ _⟩
  case round =>
    obtain ⟨q, hq, rfl, hA, hB, hb⟩ := hrel
    have hkr := HKL.out.below hb (Nat.le_refl _)
    have c0 := hkr.cell 0 _ rfl; have c1 := hkr.cell 1 _ rfl; have c2 := hkr.cell 2 _ rfl; have c3 := hkr.cell 3 _ rfl; have c4 := hkr.cell 4 _ rfl; have c5 := hkr.cell 5 _ rfl
    clear hkr
    rcases (show q = 0 ∨ q = 1 ∨ q = 2 by omega) with rfl | rfl | rfl
    · obtain ⟨W, hWW⟩ : ∃ W, wr.alloc (.cells #[.int .i64 R, .int .i64 C, .slice a xs.length cap] 24) = W := ⟨_, rfl⟩
      have HBT := Lib.hid (show Below w.heap.size w W by rw [← hWW]; exact hb.alloc hb.size _)
      have HH := Lib.hid (held_sq (h := W.heap.size) (show Blk W wr.heap.size [.int .i64 R, .int .i64 C, .slice a xs.length cap] 24 by rw [← hWW]; exact Blk.new wr _ _) (HKL.out.below HBT.out (Nat.le_refl _)) (d := .int .i64 R) rfl (by rw [← hWW]; simp) (Nat.lt_of_lt_of_le HKL.out.lt HBT.out.size))
      have HU0 := Lib.hid (Up.start W)
      have HVW := Lib.hid (HV.out.below HBT.out (Nat.le_refl _))
      have HVd := Lib.hid (HVW.out.below (Below.refl W.heap.size W).drew (Nat.le_refl _))
      have HH4 := Lib.hid (fun w' (H : Up W.heap.size W w') => show w'.cell? ⟨wr.heap.size, 0, none⟩ = some (.int .i64 R) ∧ w'.cell? ⟨wr.heap.size, 1, none⟩ = some (.int .i64 C) ∧ w'.cell? ⟨wr.heap.size, 2, none⟩ = some (.slice a xs.length cap) ∧ w'.cell? ⟨g, 0, none⟩ = some (.int .i64 R) from ⟨(HH.out w' H).2.1.1, (HH.out w' H).2.1.2.1, (HH.out w' H).2.1.2.2, (HH.out w' H).2.2⟩)
      obtain ⟨-, ⟨y0, y1, y2⟩, y3⟩ := HH.out W (Up.start W)
      cases hf : few03 6 R C xs
      · have HF := Lib.hid hf
        have HQ := Lib.hid (show (sq1 R C xs && (sq1 R' C' ys && decide (R' = R))) = false by unfold sq1; rw [hf]; rfl)
        clear hf
        go_wp2_with fail
        have hSd : W.drew.cell? ⟨wr.heap.size, 0, none⟩ = some (.int .i64 R) ∧ W.drew.cell? ⟨wr.heap.size, 1, none⟩ = some (.int .i64 C) ∧ W.drew.cell? ⟨wr.heap.size, 2, none⟩ = some (.slice a xs.length cap) ∧ W.drew.cell? ⟨g, 0, none⟩ = some (.int .i64 R) := ⟨y0, y1, y2, y3⟩
        refine wp_regionJ (S := fun w' => w'.cell? ⟨wr.heap.size, 0, none⟩ = some (.int .i64 R) ∧ w'.cell? ⟨wr.heap.size, 1, none⟩ = some (.int .i64 C) ∧ w'.cell? ⟨wr.heap.size, 2, none⟩ = some (.slice a xs.length cap) ∧ w'.cell? ⟨g, 0, none⟩ = some (.int .i64 R)) (A := fun _ => true) (by kernel_rfl) ?_
        refine wpAnyJ_take (i := 0) (oi := { dst := some 11, op := .load _ (.tmp 4), type := _, pos := _, after := _, guard := _ }) (v := ?_) rfl (by kernel_rfl) (by kernel_rfl) (by kernel_rfl) (by kernel_rfl) (fun _ _ _ h => h) (Or.inl ⟨by rfl, ?_⟩) hSd ?_
        rotate_left
        · intro wl hSw
          obtain ⟨s0, s1, s2, s3⟩ := hSw
          go_simp
          with_reducible rfl
        simp only [Act.put, List.setIfInBounds_toArray, List.set_cons_zero, List.set_cons_succ]
        refine wpAnyJ_only (i := 1) (o := { dst := some 12, op := _, type := _, pos := _, after := _, guard := _ }) (by kernel_rfl) rfl (fun K hK => ?_)
        go_simp
        refine (Few03_any _ 6 R C _ xs HVd.out HS.out).mono ?_
        rintro e w4 ⟨u4, rfl, rfl, hb4⟩
        rw [HF.out]
        have hU4 := HU0.out.drew.call hb4
        have HV4 := Lib.hid (HVd.out.below hb4 (Nat.le_refl _))
        have hU5 := hU4
        have hS4 := HH4.out w4 hU4
        refine hK.out _ _ (fun _ => hS4) ?_
        try simp only [Act.put, List.setIfInBounds_toArray, List.set_cons_zero, List.set_cons_succ]
        clear hK K
        refine wpAnyJ_take (i := 2) (oi := { dst := some 13, op := _, type := _, pos := _, after := _, guard := _ }) (v := ?_) rfl (by kernel_rfl) (by kernel_rfl) (by kernel_rfl) (by kernel_rfl) (fun _ _ _ h => h) (Or.inl ⟨by rfl, ?_⟩) hS4 ?_
        rotate_left
        · intro wl hSw
          obtain ⟨s0, s1, s2, s3⟩ := hSw
          go_simp
          with_reducible rfl
        simp only [Act.put, List.setIfInBounds_toArray, List.set_cons_zero, List.set_cons_succ]
        refine wpAnyJ_take (i := 3) (oi := { dst := some 14, op := .move (.tmp 13), type := _, pos := _, after := _, guard := _ }) (v := ?_) rfl (by kernel_rfl) (by kernel_rfl) (by kernel_rfl) (by kernel_rfl) (fun _ _ _ h => h) (Or.inl ⟨by rfl, ?_⟩) hS4 ?_
        rotate_left
        · intro wl hSw
          obtain ⟨s0, s1, s2, s3⟩ := hSw
          go_simp
          with_reducible rfl
        simp only [Act.put, List.setIfInBounds_toArray, List.set_cons_zero, List.set_cons_succ]
        refine wpAnyJ_take (i := 4) (oi := { dst := some 15, op := .load _ (.tmp 4), type := _, pos := _, after := _, guard := _ }) (v := undef) rfl (by kernel_rfl) (by kernel_rfl) (by kernel_rfl) (by kernel_rfl) (fun _ _ _ h => h) (Or.inr ⟨by rfl, rfl⟩) hS4 ?_
        simp only [Act.put, List.setIfInBounds_toArray, List.set_cons_zero, List.set_cons_succ]
        refine wpAnyJ_take (i := 5) (oi := { dst := some 16, op := _, type := _, pos := _, after := _, guard := _ }) (v := undef) rfl (by kernel_rfl) (by kernel_rfl) (by kernel_rfl) (by kernel_rfl) (fun _ _ _ h => h) (Or.inr ⟨by rfl, rfl⟩) hS4 ?_
        simp only [Act.put, List.setIfInBounds_toArray, List.set_cons_zero, List.set_cons_succ]
        refine wpAnyJ_take (i := 6) (oi := { dst := some 17, op := .binOp _ _ (.tmp 16) _ _, type := _, pos := _, after := _, guard := _ }) (v := undef) rfl (by kernel_rfl) (by kernel_rfl) (by kernel_rfl) (by kernel_rfl) (fun _ _ _ h => h) (Or.inr ⟨by rfl, rfl⟩) hS4 ?_
        simp only [Act.put, List.setIfInBounds_toArray, List.set_cons_zero, List.set_cons_succ]
        refine wpAnyJ_take (i := 7) (oi := { dst := some 18, op := _, type := _, pos := _, after := _, guard := _ }) (v := ?_) rfl (by kernel_rfl) (by kernel_rfl) (by kernel_rfl) (by kernel_rfl) (fun _ _ _ h => h) (Or.inl ⟨by rfl, ?_⟩) hS4 ?_
        rotate_left
        · intro wl hSw
          obtain ⟨s0, s1, s2, s3⟩ := hSw
          go_simp
          with_reducible rfl
        simp only [Act.put, List.setIfInBounds_toArray, List.set_cons_zero, List.set_cons_succ]
        refine wpAnyJ_take (i := 8) (oi := { dst := some 19, op := .move (.tmp 18), type := _, pos := _, after := _, guard := _ }) (v := ?_) rfl (by kernel_rfl) (by kernel_rfl) (by kernel_rfl) (by kernel_rfl) (fun _ _ _ h => h) (Or.inl ⟨by rfl, ?_⟩) hS4 ?_
        rotate_left
        · intro wl hSw
          obtain ⟨s0, s1, s2, s3⟩ := hSw
          go_simp
          with_reducible rfl
        simp only [Act.put, List.setIfInBounds_toArray, List.set_cons_zero, List.set_cons_succ]
        refine wpAnyJ_take (i := 9) (oi := { dst := some 20, op := .fieldAddr _ (.tmp 4) 0, type := _, pos := _, after := _, guard := _ }) (v := undef) rfl (by kernel_rfl) (by kernel_rfl) (by kernel_rfl) (by kernel_rfl) (fun _ _ _ h => h) (Or.inr ⟨by rfl, rfl⟩) hS4 ?_
        simp only [Act.put, List.setIfInBounds_toArray, List.set_cons_zero, List.set_cons_succ]
        refine wpAnyJ_take (i := 10) (oi := { dst := some 21, op := .load _ (.tmp 20), type := _, pos := _, after := _, guard := _ }) (v := undef) rfl (by kernel_rfl) (by kernel_rfl) (by kernel_rfl) (by kernel_rfl) (fun _ _ _ h => h) (Or.inr ⟨by rfl, rfl⟩) hS4 ?_
        simp only [Act.put, List.setIfInBounds_toArray, List.set_cons_zero, List.set_cons_succ]
        refine wpAnyJ_take (i := 11) (oi := { dst := some 22, op := .fieldAddr _ (.tmp 4) 1, type := _, pos := _, after := _, guard := _ }) (v := undef) rfl (by kernel_rfl) (by kernel_rfl) (by kernel_rfl) (by kernel_rfl) (fun _ _ _ h => h) (Or.inr ⟨by rfl, rfl⟩) hS4 ?_
        simp only [Act.put, List.setIfInBounds_toArray, List.set_cons_zero, List.set_cons_succ]
        refine wpAnyJ_take (i := 12) (oi := { dst := some 23, op := .load _ (.tmp 22), type := _, pos := _, after := _, guard := _ }) (v := undef) rfl (by kernel_rfl) (by kernel_rfl) (by kernel_rfl) (by kernel_rfl) (fun _ _ _ h => h) (Or.inr ⟨by rfl, rfl⟩) hS4 ?_
        simp only [Act.put, List.setIfInBounds_toArray, List.set_cons_zero, List.set_cons_succ]
        refine wpAnyJ_take (i := 13) (oi := { dst := some 24, op := .binOp _ _ (.tmp 21) (.tmp 23) _, type := _, pos := _, after := _, guard := _ }) (v := undef) rfl (by kernel_rfl) (by kernel_rfl) (by kernel_rfl) (by kernel_rfl) (fun _ _ _ h => h) (Or.inr ⟨by rfl, rfl⟩) hS4 ?_
        simp only [Act.put, List.setIfInBounds_toArray, List.set_cons_zero, List.set_cons_succ]
        refine wpAnyJ_take (i := 14) (oi := { dst := some 25, op := _, type := _, pos := _, after := _, guard := _ }) (v := ?_) rfl (by kernel_rfl) (by kernel_rfl) (by kernel_rfl) (by kernel_rfl) (fun _ _ _ h => h) (Or.inl ⟨by rfl, ?_⟩) hS4 ?_
        rotate_left
        · intro wl hSw
          obtain ⟨s0, s1, s2, s3⟩ := hSw
          go_simp
          with_reducible rfl
        simp only [Act.put, List.setIfInBounds_toArray, List.set_cons_zero, List.set_cons_succ]
        refine wpAnyJ_take (i := 15) (oi := { dst := some 26, op := .move (.tmp 25), type := _, pos := _, after := _, guard := _ }) (v := ?_) rfl (by kernel_rfl) (by kernel_rfl) (by kernel_rfl) (by kernel_rfl) (fun _ _ _ h => h) (Or.inl ⟨by rfl, ?_⟩) hS4 ?_
        rotate_left
        · intro wl hSw
          obtain ⟨s0, s1, s2, s3⟩ := hSw
          go_simp
          with_reducible rfl
        simp only [Act.put, List.setIfInBounds_toArray, List.set_cons_zero, List.set_cons_succ]
        refine wpAnyJ_take (i := 16) (oi := { dst := some 27, op := .fieldAddr _ (.tmp 4) 0, type := _, pos := _, after := _, guard := _ }) (v := undef) rfl (by kernel_rfl) (by kernel_rfl) (by kernel_rfl) (by kernel_rfl) (fun _ _ _ h => h) (Or.inr ⟨by rfl, rfl⟩) hS4 ?_
        simp only [Act.put, List.setIfInBounds_toArray, List.set_cons_zero, List.set_cons_succ]
        refine wpAnyJ_take (i := 17) (oi := { dst := some 28, op := .load _ (.tmp 27), type := _, pos := _, after := _, guard := _ }) (v := undef) rfl (by kernel_rfl) (by kernel_rfl) (by kernel_rfl) (by kernel_rfl) (fun _ _ _ h => h) (Or.inr ⟨by rfl, rfl⟩) hS4 ?_
        simp only [Act.put, List.setIfInBounds_toArray, List.set_cons_zero, List.set_cons_succ]
        refine wpAnyJ_take (i := 18) (oi := { dst := some 29, op := .move (.tmp 0), type := _, pos := _, after := _, guard := _ }) (v := undef) rfl (by kernel_rfl) (by kernel_rfl) (by kernel_rfl) (by kernel_rfl) (fun _ _ _ h => h) (Or.inr ⟨by rfl, rfl⟩) hS4 ?_
        simp only [Act.put, List.setIfInBounds_toArray, List.set_cons_zero, List.set_cons_succ]
        refine wpAnyJ_take (i := 19) (oi := { dst := some 30, op := .indexAddr _ (.tmp 29) _, type := _, pos := _, after := _, guard := _ }) (v := undef) rfl (by kernel_rfl) (by kernel_rfl) (by kernel_rfl) (by kernel_rfl) (fun _ _ _ h => h) (Or.inr ⟨by rfl, rfl⟩) hS4 ?_
        simp only [Act.put, List.setIfInBounds_toArray, List.set_cons_zero, List.set_cons_succ]
        refine wpAnyJ_take (i := 20) (oi := { dst := some 31, op := .fieldAddr _ (.tmp 30) 0, type := _, pos := _, after := _, guard := _ }) (v := undef) rfl (by kernel_rfl) (by kernel_rfl) (by kernel_rfl) (by kernel_rfl) (fun _ _ _ h => h) (Or.inr ⟨by rfl, rfl⟩) hS4 ?_
        simp only [Act.put, List.setIfInBounds_toArray, List.set_cons_zero, List.set_cons_succ]
        refine wpAnyJ_take (i := 21) (oi := { dst := some 32, op := .load _ (.tmp 31), type := _, pos := _, after := _, guard := _ }) (v := undef) rfl (by kernel_rfl) (by kernel_rfl) (by kernel_rfl) (by kernel_rfl) (fun _ _ _ h => h) (Or.inr ⟨by rfl, rfl⟩) hS4 ?_
        simp only [Act.put, List.setIfInBounds_toArray, List.set_cons_zero, List.set_cons_succ]
        refine wpAnyJ_take (i := 22) (oi := { dst := some 33, op := .binOp _ _ (.tmp 28) (.tmp 32) _, type := _, pos := _, after := _, guard := _ }) (v := undef) rfl (by kernel_rfl) (by kernel_rfl) (by kernel_rfl) (by kernel_rfl) (fun _ _ _ h => h) (Or.inr ⟨by rfl, rfl⟩) hS4 ?_
        simp only [Act.put, List.setIfInBounds_toArray, List.set_cons_zero, List.set_cons_succ]
        refine wpAnyJ_take (i := 23) (oi := { dst := some 34, op := _, type := _, pos := _, after := _, guard := _ }) (v := ?_) rfl (by kernel_rfl) (by kernel_rfl) (by kernel_rfl) (by kernel_rfl) (fun _ _ _ h => h) (Or.inl ⟨by rfl, ?_⟩) hS4 ?_
        rotate_left
        · intro wl hSw
          obtain ⟨s0, s1, s2, s3⟩ := hSw
          go_simp
          with_reducible rfl
        simp only [Act.put, List.setIfInBounds_toArray, List.set_cons_zero, List.set_cons_succ]
        refine wpAnyJ_done (by kernel_rfl) ?_ _
        go_wp2_with fail
        go_ret
        exact ⟨_, rfl, by rw [← HQQ.out, HQ.out]; rfl, HBT.out.trans ((Up.bel hU5).mono HBT.out.size)⟩
      · have HF := Lib.hid hf
        have H9 := Lib.hid (few03_rm hf).1
        by_cases hc : mchkM R C xs = 0
        · have HC := Lib.hid hc
          by_cases hs : R = C
          · have hne1 : (R != C) = false := by rw [hs]; simp
            have hne2 : (R != R) = false := by simp
            have HT := Lib.hid (show sq1 R C xs = true by unfold sq1; rw [hf, decide_eq_true hc, decide_eq_true hs]; rfl)
            clear hf hc hs
            go_wp2_with fail
            have hSd : W.drew.cell? ⟨wr.heap.size, 0, none⟩ = some (.int .i64 R) ∧ W.drew.cell? ⟨wr.heap.size, 1, none⟩ = some (.int .i64 C) ∧ W.drew.cell? ⟨wr.heap.size, 2, none⟩ = some (.slice a xs.length cap) ∧ W.drew.cell? ⟨g, 0, none⟩ = some (.int .i64 R) := ⟨y0, y1, y2, y3⟩
            refine wp_regionJ (S := fun w' => w'.cell? ⟨wr.heap.size, 0, none⟩ = some (.int .i64 R) ∧ w'.cell? ⟨wr.heap.size, 1, none⟩ = some (.int .i64 C) ∧ w'.cell? ⟨wr.heap.size, 2, none⟩ = some (.slice a xs.length cap) ∧ w'.cell? ⟨g, 0, none⟩ = some (.int .i64 R)) (A := fun _ => true) (by kernel_rfl) ?_
            refine wpAnyJ_take (i := 0) (oi := { dst := some 11, op := .load _ (.tmp 4), type := _, pos := _, after := _, guard := _ }) (v := ?_) rfl (by kernel_rfl) (by kernel_rfl) (by kernel_rfl) (by kernel_rfl) (fun _ _ _ h => h) (Or.inl ⟨by rfl, ?_⟩) hSd ?_
            rotate_left
            · intro wl hSw
              obtain ⟨s0, s1, s2, s3⟩ := hSw
              go_simp
              with_reducible rfl
            simp only [Act.put, List.setIfInBounds_toArray, List.set_cons_zero, List.set_cons_succ]
            refine wpAnyJ_only (i := 1) (o := { dst := some 12, op := _, type := _, pos := _, after := _, guard := _ }) (by kernel_rfl) rfl (fun K hK => ?_)
            go_simp
            refine (Few03_any _ 6 R C _ xs HVd.out HS.out).mono ?_
            rintro e w4 ⟨u4, rfl, rfl, hb4⟩
            rw [HF.out]
            have hU4 := HU0.out.drew.call hb4
            have HV4 := Lib.hid (HVd.out.below hb4 (Nat.le_refl _))
            have hS4 := HH4.out w4 hU4
            refine hK.out _ _ (fun _ => hS4) ?_
            try simp only [Act.put, List.setIfInBounds_toArray, List.set_cons_zero, List.set_cons_succ]
            clear hK K
            refine wpAnyJ_take (i := 2) (oi := { dst := some 13, op := _, type := _, pos := _, after := _, guard := _ }) (v := ?_) rfl (by kernel_rfl) (by kernel_rfl) (by kernel_rfl) (by kernel_rfl) (fun _ _ _ h => h) (Or.inl ⟨by rfl, ?_⟩) hS4 ?_
            rotate_left
            · intro wl hSw
              obtain ⟨s0, s1, s2, s3⟩ := hSw
              go_simp
              with_reducible rfl
            simp only [Act.put, List.setIfInBounds_toArray, List.set_cons_zero, List.set_cons_succ]
            refine wpAnyJ_take (i := 3) (oi := { dst := some 14, op := .move (.tmp 13), type := _, pos := _, after := _, guard := _ }) (v := ?_) rfl (by kernel_rfl) (by kernel_rfl) (by kernel_rfl) (by kernel_rfl) (fun _ _ _ h => h) (Or.inl ⟨by rfl, ?_⟩) hS4 ?_
            rotate_left
            · intro wl hSw
              obtain ⟨s0, s1, s2, s3⟩ := hSw
              go_simp
              with_reducible rfl
            simp only [Act.put, List.setIfInBounds_toArray, List.set_cons_zero, List.set_cons_succ]
            refine wpAnyJ_take (i := 4) (oi := { dst := some 15, op := .load _ (.tmp 4), type := _, pos := _, after := _, guard := _ }) (v := ?_) rfl (by kernel_rfl) (by kernel_rfl) (by kernel_rfl) (by kernel_rfl) (fun _ _ _ h => h) (Or.inl ⟨by rfl, ?_⟩) hS4 ?_
            rotate_left
            · intro wl hSw
              obtain ⟨s0, s1, s2, s3⟩ := hSw
              go_simp
              with_reducible rfl
            simp only [Act.put, List.setIfInBounds_toArray, List.set_cons_zero, List.set_cons_succ]
            refine wpAnyJ_only (i := 5) (o := { dst := some 16, op := _, type := _, pos := _, after := _, guard := _ }) (by kernel_rfl) rfl (fun K hK => ?_)
            go_simp
            refine (rMCheck_any _ R C _ xs HV4.out (fun _ => H9.out.big (by omega))).mono ?_
            rintro e w5 ⟨u5, rfl, rfl, hb5⟩
            rw [HC.out]
            have hU5 := hU4.call hb5
            have hS5 := HH4.out w5 hU5
            refine hK.out _ _ (fun _ => hS5) ?_
            try simp only [Act.put, List.setIfInBounds_toArray, List.set_cons_zero, List.set_cons_succ]
            clear hK K
            refine wpAnyJ_take (i := 6) (oi := { dst := some 17, op := .binOp _ _ (.tmp 16) _ _, type := _, pos := _, after := _, guard := _ }) (v := ?_) rfl (by kernel_rfl) (by kernel_rfl) (by kernel_rfl) (by kernel_rfl) (fun _ _ _ h => h) (Or.inl ⟨by rfl, ?_⟩) hS5 ?_
            rotate_left
            · intro wl hSw
              obtain ⟨s0, s1, s2, s3⟩ := hSw
              go_simp
              with_reducible rfl
            simp only [Act.put, List.setIfInBounds_toArray, List.set_cons_zero, List.set_cons_succ]
            refine wpAnyJ_take (i := 7) (oi := { dst := some 18, op := _, type := _, pos := _, after := _, guard := _ }) (v := ?_) rfl (by kernel_rfl) (by kernel_rfl) (by kernel_rfl) (by kernel_rfl) (fun _ _ _ h => h) (Or.inl ⟨by rfl, ?_⟩) hS5 ?_
            rotate_left
            · intro wl hSw
              obtain ⟨s0, s1, s2, s3⟩ := hSw
              go_simp
              with_reducible rfl
            simp only [Act.put, List.setIfInBounds_toArray, List.set_cons_zero, List.set_cons_succ]
            refine wpAnyJ_take (i := 8) (oi := { dst := some 19, op := .move (.tmp 18), type := _, pos := _, after := _, guard := _ }) (v := ?_) rfl (by kernel_rfl) (by kernel_rfl) (by kernel_rfl) (by kernel_rfl) (fun _ _ _ h => h) (Or.inl ⟨by rfl, ?_⟩) hS5 ?_
            rotate_left
            · intro wl hSw
              obtain ⟨s0, s1, s2, s3⟩ := hSw
              go_simp
              with_reducible rfl
            simp only [Act.put, List.setIfInBounds_toArray, List.set_cons_zero, List.set_cons_succ]
            refine wpAnyJ_take (i := 9) (oi := { dst := some 20, op := .fieldAddr _ (.tmp 4) 0, type := _, pos := _, after := _, guard := _ }) (v := ?_) rfl (by kernel_rfl) (by kernel_rfl) (by kernel_rfl) (by kernel_rfl) (fun _ _ _ h => h) (Or.inl ⟨by rfl, ?_⟩) hS5 ?_
            rotate_left
            · intro wl hSw
              obtain ⟨s0, s1, s2, s3⟩ := hSw
              go_simp
              with_reducible rfl
            simp only [Act.put, List.setIfInBounds_toArray, List.set_cons_zero, List.set_cons_succ]
            refine wpAnyJ_take (i := 10) (oi := { dst := some 21, op := .load _ (.tmp 20), type := _, pos := _, after := _, guard := _ }) (v := ?_) rfl (by kernel_rfl) (by kernel_rfl) (by kernel_rfl) (by kernel_rfl) (fun _ _ _ h => h) (Or.inl ⟨by rfl, ?_⟩) hS5 ?_
            rotate_left
            · intro wl hSw
              obtain ⟨s0, s1, s2, s3⟩ := hSw
              go_simp
              with_reducible rfl
            simp only [Act.put, List.setIfInBounds_toArray, List.set_cons_zero, List.set_cons_succ]
            refine wpAnyJ_take (i := 11) (oi := { dst := some 22, op := .fieldAddr _ (.tmp 4) 1, type := _, pos := _, after := _, guard := _ }) (v := ?_) rfl (by kernel_rfl) (by kernel_rfl) (by kernel_rfl) (by kernel_rfl) (fun _ _ _ h => h) (Or.inl ⟨by rfl, ?_⟩) hS5 ?_
            rotate_left
            · intro wl hSw
              obtain ⟨s0, s1, s2, s3⟩ := hSw
              go_simp
              with_reducible rfl
            simp only [Act.put, List.setIfInBounds_toArray, List.set_cons_zero, List.set_cons_succ]
            refine wpAnyJ_take (i := 12) (oi := { dst := some 23, op := .load _ (.tmp 22), type := _, pos := _, after := _, guard := _ }) (v := ?_) rfl (by kernel_rfl) (by kernel_rfl) (by kernel_rfl) (by kernel_rfl) (fun _ _ _ h => h) (Or.inl ⟨by rfl, ?_⟩) hS5 ?_
            rotate_left
            · intro wl hSw
              obtain ⟨s0, s1, s2, s3⟩ := hSw
              go_simp
              with_reducible rfl
            simp only [Act.put, List.setIfInBounds_toArray, List.set_cons_zero, List.set_cons_succ]
            refine wpAnyJ_take (i := 13) (oi := { dst := some 24, op := .binOp _ _ (.tmp 21) (.tmp 23) _, type := _, pos := _, after := _, guard := _ }) (v := ?_) rfl (by kernel_rfl) (by kernel_rfl) (by kernel_rfl) (by kernel_rfl) (fun _ _ _ h => h) (Or.inl ⟨by rfl, ?_⟩) hS5 ?_
            rotate_left
            · intro wl hSw
              obtain ⟨s0, s1, s2, s3⟩ := hSw
              go_simp
              with_reducible rfl
            simp only [Act.put, List.setIfInBounds_toArray, List.set_cons_zero, List.set_cons_succ]
            refine wpAnyJ_take (i := 14) (oi := { dst := some 25, op := _, type := _, pos := _, after := _, guard := _ }) (v := ?_) rfl (by kernel_rfl) (by kernel_rfl) (by kernel_rfl) (by kernel_rfl) (fun _ _ _ h => h) (Or.inl ⟨by rfl, ?_⟩) hS5 ?_
            rotate_left
            · intro wl hSw
              obtain ⟨s0, s1, s2, s3⟩ := hSw
              go_simp
              with_reducible rfl
            simp only [Act.put, List.setIfInBounds_toArray, List.set_cons_zero, List.set_cons_succ]
            refine wpAnyJ_take (i := 15) (oi := { dst := some 26, op := .move (.tmp 25), type := _, pos := _, after := _, guard := _ }) (v := ?_) rfl (by kernel_rfl) (by kernel_rfl) (by kernel_rfl) (by kernel_rfl) (fun _ _ _ h => h) (Or.inl ⟨by rfl, ?_⟩) hS5 ?_
            rotate_left
            · intro wl hSw
              obtain ⟨s0, s1, s2, s3⟩ := hSw
              go_simp
              with_reducible rfl
            simp only [Act.put, List.setIfInBounds_toArray, List.set_cons_zero, List.set_cons_succ]
            refine wpAnyJ_take (i := 16) (oi := { dst := some 27, op := .fieldAddr _ (.tmp 4) 0, type := _, pos := _, after := _, guard := _ }) (v := ?_) rfl (by kernel_rfl) (by kernel_rfl) (by kernel_rfl) (by kernel_rfl) (fun _ _ _ h => h) (Or.inl ⟨by rfl, ?_⟩) hS5 ?_
            rotate_left
            · intro wl hSw
              obtain ⟨s0, s1, s2, s3⟩ := hSw
              go_simp
              with_reducible rfl
            simp only [Act.put, List.setIfInBounds_toArray, List.set_cons_zero, List.set_cons_succ]
            refine wpAnyJ_take (i := 17) (oi := { dst := some 28, op := .load _ (.tmp 27), type := _, pos := _, after := _, guard := _ }) (v := ?_) rfl (by kernel_rfl) (by kernel_rfl) (by kernel_rfl) (by kernel_rfl) (fun _ _ _ h => h) (Or.inl ⟨by rfl, ?_⟩) hS5 ?_
            rotate_left
            · intro wl hSw
              obtain ⟨s0, s1, s2, s3⟩ := hSw
              go_simp
              with_reducible rfl
            simp only [Act.put, List.setIfInBounds_toArray, List.set_cons_zero, List.set_cons_succ]
            refine wpAnyJ_take (i := 18) (oi := { dst := some 29, op := .move (.tmp 0), type := _, pos := _, after := _, guard := _ }) (v := ?_) rfl (by kernel_rfl) (by kernel_rfl) (by kernel_rfl) (by kernel_rfl) (fun _ _ _ h => h) (Or.inl ⟨by rfl, ?_⟩) hS5 ?_
            rotate_left
            · intro wl hSw
              obtain ⟨s0, s1, s2, s3⟩ := hSw
              go_simp
              with_reducible rfl
            simp only [Act.put, List.setIfInBounds_toArray, List.set_cons_zero, List.set_cons_succ]
            refine wpAnyJ_take (i := 19) (oi := { dst := some 30, op := .indexAddr _ (.tmp 29) _, type := _, pos := _, after := _, guard := _ }) (v := ?_) rfl (by kernel_rfl) (by kernel_rfl) (by kernel_rfl) (by kernel_rfl) (fun _ _ _ h => h) (Or.inl ⟨by rfl, ?_⟩) hS5 ?_
            rotate_left
            · intro wl hSw
              obtain ⟨s0, s1, s2, s3⟩ := hSw
              go_simp
              with_reducible rfl
            simp only [Act.put, List.setIfInBounds_toArray, List.set_cons_zero, List.set_cons_succ]
            refine wpAnyJ_take (i := 20) (oi := { dst := some 31, op := .fieldAddr _ (.tmp 30) 0, type := _, pos := _, after := _, guard := _ }) (v := ?_) rfl (by kernel_rfl) (by kernel_rfl) (by kernel_rfl) (by kernel_rfl) (fun _ _ _ h => h) (Or.inl ⟨by rfl, ?_⟩) hS5 ?_
            rotate_left
            · intro wl hSw
              obtain ⟨s0, s1, s2, s3⟩ := hSw
              go_simp
              with_reducible rfl
            simp only [Act.put, List.setIfInBounds_toArray, List.set_cons_zero, List.set_cons_succ]
            refine wpAnyJ_take (i := 21) (oi := { dst := some 32, op := .load _ (.tmp 31), type := _, pos := _, after := _, guard := _ }) (v := ?_) rfl (by kernel_rfl) (by kernel_rfl) (by kernel_rfl) (by kernel_rfl) (fun _ _ _ h => h) (Or.inl ⟨by rfl, ?_⟩) hS5 ?_
            rotate_left
            · intro wl hSw
              obtain ⟨s0, s1, s2, s3⟩ := hSw
              go_simp
              with_reducible rfl
            simp only [Act.put, List.setIfInBounds_toArray, List.set_cons_zero, List.set_cons_succ]
            refine wpAnyJ_take (i := 22) (oi := { dst := some 33, op := .binOp _ _ (.tmp 28) (.tmp 32) _, type := _, pos := _, after := _, guard := _ }) (v := ?_) rfl (by kernel_rfl) (by kernel_rfl) (by kernel_rfl) (by kernel_rfl) (fun _ _ _ h => h) (Or.inl ⟨by rfl, ?_⟩) hS5 ?_
            rotate_left
            · intro wl hSw
              obtain ⟨s0, s1, s2, s3⟩ := hSw
              go_simp
              with_reducible rfl
            simp only [Act.put, List.setIfInBounds_toArray, List.set_cons_zero, List.set_cons_succ]
            refine wpAnyJ_take (i := 23) (oi := { dst := some 34, op := _, type := _, pos := _, after := _, guard := _ }) (v := ?_) rfl (by kernel_rfl) (by kernel_rfl) (by kernel_rfl) (by kernel_rfl) (fun _ _ _ h => h) (Or.inl ⟨by rfl, ?_⟩) hS5 ?_
            rotate_left
            · intro wl hSw
              obtain ⟨s0, s1, s2, s3⟩ := hSw
              go_simp
              with_reducible rfl
            simp only [Act.put, List.setIfInBounds_toArray, List.set_cons_zero, List.set_cons_succ]
            refine wpAnyJ_done (by kernel_rfl) ?_ _
            go_wp2_with fail
            go_roundw
            case rel => exact ⟨1, by omega, by go_num, Lib.hid (fun _ => HT.out), Lib.hid (by omega), HBT.out.trans ((Up.bel hU5).mono HBT.out.size)⟩
            case measure => simp [intOf]
          · have hne1 : (R != C) = true := by simp [hs]
            have HQ := Lib.hid (show (sq1 R C xs && (sq1 R' C' ys && decide (R' = R))) = false by unfold sq1; simp [hs])
            clear hf hc hs
            go_wp2_with fail
            have hSd : W.drew.cell? ⟨wr.heap.size, 0, none⟩ = some (.int .i64 R) ∧ W.drew.cell? ⟨wr.heap.size, 1, none⟩ = some (.int .i64 C) ∧ W.drew.cell? ⟨wr.heap.size, 2, none⟩ = some (.slice a xs.length cap) ∧ W.drew.cell? ⟨g, 0, none⟩ = some (.int .i64 R) := ⟨y0, y1, y2, y3⟩
            refine wp_regionJ (S := fun w' => w'.cell? ⟨wr.heap.size, 0, none⟩ = some (.int .i64 R) ∧ w'.cell? ⟨wr.heap.size, 1, none⟩ = some (.int .i64 C) ∧ w'.cell? ⟨wr.heap.size, 2, none⟩ = some (.slice a xs.length cap) ∧ w'.cell? ⟨g, 0, none⟩ = some (.int .i64 R)) (A := fun _ => true) (by kernel_rfl) ?_
            refine wpAnyJ_take (i := 0) (oi := { dst := some 11, op := .load _ (.tmp 4), type := _, pos := _, after := _, guard := _ }) (v := ?_) rfl (by kernel_rfl) (by kernel_rfl) (by kernel_rfl) (by kernel_rfl) (fun _ _ _ h => h) (Or.inl ⟨by rfl, ?_⟩) hSd ?_
            rotate_left
            · intro wl hSw
              obtain ⟨s0, s1, s2, s3⟩ := hSw
              go_simp
              with_reducible rfl
            simp only [Act.put, List.setIfInBounds_toArray, List.set_cons_zero, List.set_cons_succ]
            refine wpAnyJ_only (i := 1) (o := { dst := some 12, op := _, type := _, pos := _, after := _, guard := _ }) (by kernel_rfl) rfl (fun K hK => ?_)
            go_simp
            refine (Few03_any _ 6 R C _ xs HVd.out HS.out).mono ?_
            rintro e w4 ⟨u4, rfl, rfl, hb4⟩
            rw [HF.out]
            have hU4 := HU0.out.drew.call hb4
            have HV4 := Lib.hid (HVd.out.below hb4 (Nat.le_refl _))
            have hS4 := HH4.out w4 hU4
            refine hK.out _ _ (fun _ => hS4) ?_
            try simp only [Act.put, List.setIfInBounds_toArray, List.set_cons_zero, List.set_cons_succ]
            clear hK K
            refine wpAnyJ_take (i := 2) (oi := { dst := some 13, op := _, type := _, pos := _, after := _, guard := _ }) (v := ?_) rfl (by kernel_rfl) (by kernel_rfl) (by kernel_rfl) (by kernel_rfl) (fun _ _ _ h => h) (Or.inl ⟨by rfl, ?_⟩) hS4 ?_
            rotate_left
            · intro wl hSw
              obtain ⟨s0, s1, s2, s3⟩ := hSw
              go_simp
              with_reducible rfl
            simp only [Act.put, List.setIfInBounds_toArray, List.set_cons_zero, List.set_cons_succ]
            refine wpAnyJ_take (i := 3) (oi := { dst := some 14, op := .move (.tmp 13), type := _, pos := _, after := _, guard := _ }) (v := ?_) rfl (by kernel_rfl) (by kernel_rfl) (by kernel_rfl) (by kernel_rfl) (fun _ _ _ h => h) (Or.inl ⟨by rfl, ?_⟩) hS4 ?_
            rotate_left
            · intro wl hSw
              obtain ⟨s0, s1, s2, s3⟩ := hSw
              go_simp
              with_reducible rfl
            simp only [Act.put, List.setIfInBounds_toArray, List.set_cons_zero, List.set_cons_succ]
            refine wpAnyJ_take (i := 4) (oi := { dst := some 15, op := .load _ (.tmp 4), type := _, pos := _, after := _, guard := _ }) (v := ?_) rfl (by kernel_rfl) (by kernel_rfl) (by kernel_rfl) (by kernel_rfl) (fun _ _ _ h => h) (Or.inl ⟨by rfl, ?_⟩) hS4 ?_
            rotate_left
            · intro wl hSw
              obtain ⟨s0, s1, s2, s3⟩ := hSw
              go_simp
              with_reducible rfl
            simp only [Act.put, List.setIfInBounds_toArray, List.set_cons_zero, List.set_cons_succ]
            refine wpAnyJ_only (i := 5) (o := { dst := some 16, op := _, type := _, pos := _, after := _, guard := _ }) (by kernel_rfl) rfl (fun K hK => ?_)
            go_simp
            refine (rMCheck_any _ R C _ xs HV4.out (fun _ => H9.out.big (by omega))).mono ?_
            rintro e w5 ⟨u5, rfl, rfl, hb5⟩
            rw [HC.out]
            have hU5 := hU4.call hb5
            have hS5 := HH4.out w5 hU5
            refine hK.out _ _ (fun _ => hS5) ?_
            try simp only [Act.put, List.setIfInBounds_toArray, List.set_cons_zero, List.set_cons_succ]
            clear hK K
            refine wpAnyJ_take (i := 6) (oi := { dst := some 17, op := .binOp _ _ (.tmp 16) _ _, type := _, pos := _, after := _, guard := _ }) (v := ?_) rfl (by kernel_rfl) (by kernel_rfl) (by kernel_rfl) (by kernel_rfl) (fun _ _ _ h => h) (Or.inl ⟨by rfl, ?_⟩) hS5 ?_
            rotate_left
            · intro wl hSw
              obtain ⟨s0, s1, s2, s3⟩ := hSw
              go_simp
              with_reducible rfl
            simp only [Act.put, List.setIfInBounds_toArray, List.set_cons_zero, List.set_cons_succ]
            refine wpAnyJ_take (i := 7) (oi := { dst := some 18, op := _, type := _, pos := _, after := _, guard := _ }) (v := ?_) rfl (by kernel_rfl) (by kernel_rfl) (by kernel_rfl) (by kernel_rfl) (fun _ _ _ h => h) (Or.inl ⟨by rfl, ?_⟩) hS5 ?_
            rotate_left
            · intro wl hSw
              obtain ⟨s0, s1, s2, s3⟩ := hSw
              go_simp
              with_reducible rfl
            simp only [Act.put, List.setIfInBounds_toArray, List.set_cons_zero, List.set_cons_succ]
            refine wpAnyJ_take (i := 8) (oi := { dst := some 19, op := .move (.tmp 18), type := _, pos := _, after := _, guard := _ }) (v := ?_) rfl (by kernel_rfl) (by kernel_rfl) (by kernel_rfl) (by kernel_rfl) (fun _ _ _ h => h) (Or.inl ⟨by rfl, ?_⟩) hS5 ?_
            rotate_left
            · intro wl hSw
              obtain ⟨s0, s1, s2, s3⟩ := hSw
              go_simp
              with_reducible rfl
            simp only [Act.put, List.setIfInBounds_toArray, List.set_cons_zero, List.set_cons_succ]
            refine wpAnyJ_take (i := 9) (oi := { dst := some 20, op := .fieldAddr _ (.tmp 4) 0, type := _, pos := _, after := _, guard := _ }) (v := ?_) rfl (by kernel_rfl) (by kernel_rfl) (by kernel_rfl) (by kernel_rfl) (fun _ _ _ h => h) (Or.inl ⟨by rfl, ?_⟩) hS5 ?_
            rotate_left
            · intro wl hSw
              obtain ⟨s0, s1, s2, s3⟩ := hSw
              go_simp
              with_reducible rfl
            simp only [Act.put, List.setIfInBounds_toArray, List.set_cons_zero, List.set_cons_succ]
            refine wpAnyJ_take (i := 10) (oi := { dst := some 21, op := .load _ (.tmp 20), type := _, pos := _, after := _, guard := _ }) (v := ?_) rfl (by kernel_rfl) (by kernel_rfl) (by kernel_rfl) (by kernel_rfl) (fun _ _ _ h => h) (Or.inl ⟨by rfl, ?_⟩) hS5 ?_
            rotate_left
            · intro wl hSw
              obtain ⟨s0, s1, s2, s3⟩ := hSw
              go_simp
              with_reducible rfl
            simp only [Act.put, List.setIfInBounds_toArray, List.set_cons_zero, List.set_cons_succ]
            refine wpAnyJ_take (i := 11) (oi := { dst := some 22, op := .fieldAddr _ (.tmp 4) 1, type := _, pos := _, after := _, guard := _ }) (v := ?_) rfl (by kernel_rfl) (by kernel_rfl) (by kernel_rfl) (by kernel_rfl) (fun _ _ _ h => h) (Or.inl ⟨by rfl, ?_⟩) hS5 ?_
            rotate_left
            · intro wl hSw
              obtain ⟨s0, s1, s2, s3⟩ := hSw
              go_simp
              with_reducible rfl
            simp only [Act.put, List.setIfInBounds_toArray, List.set_cons_zero, List.set_cons_succ]
            refine wpAnyJ_take (i := 12) (oi := { dst := some 23, op := .load _ (.tmp 22), type := _, pos := _, after := _, guard := _ }) (v := ?_) rfl (by kernel_rfl) (by kernel_rfl) (by kernel_rfl) (by kernel_rfl) (fun _ _ _ h => h) (Or.inl ⟨by rfl, ?_⟩) hS5 ?_
            rotate_left
            · intro wl hSw
              obtain ⟨s0, s1, s2, s3⟩ := hSw
              go_simp
              with_reducible rfl
            simp only [Act.put, List.setIfInBounds_toArray, List.set_cons_zero, List.set_cons_succ]
            refine wpAnyJ_take (i := 13) (oi := { dst := some 24, op := .binOp _ _ (.tmp 21) (.tmp 23) _, type := _, pos := _, after := _, guard := _ }) (v := ?_) rfl (by kernel_rfl) (by kernel_rfl) (by kernel_rfl) (by kernel_rfl) (fun _ _ _ h => h) (Or.inl ⟨by rfl, ?_⟩) hS5 ?_
            rotate_left
            · intro wl hSw
              obtain ⟨s0, s1, s2, s3⟩ := hSw
              go_simp
              with_reducible rfl
            simp only [Act.put, List.setIfInBounds_toArray, List.set_cons_zero, List.set_cons_succ]
            refine wpAnyJ_take (i := 14) (oi := { dst := some 25, op := _, type := _, pos := _, after := _, guard := _ }) (v := ?_) rfl (by kernel_rfl) (by kernel_rfl) (by kernel_rfl) (by kernel_rfl) (fun _ _ _ h => h) (Or.inl ⟨by rfl, ?_⟩) hS5 ?_
            rotate_left
            · intro wl hSw
              obtain ⟨s0, s1, s2, s3⟩ := hSw
              go_simp
              with_reducible rfl
            simp only [Act.put, List.setIfInBounds_toArray, List.set_cons_zero, List.set_cons_succ]
            refine wpAnyJ_take (i := 15) (oi := { dst := some 26, op := .move (.tmp 25), type := _, pos := _, after := _, guard := _ }) (v := ?_) rfl (by kernel_rfl) (by kernel_rfl) (by kernel_rfl) (by kernel_rfl) (fun _ _ _ h => h) (Or.inl ⟨by rfl, ?_⟩) hS5 ?_
            rotate_left
            · intro wl hSw
              obtain ⟨s0, s1, s2, s3⟩ := hSw
              go_simp
              with_reducible rfl
            simp only [Act.put, List.setIfInBounds_toArray, List.set_cons_zero, List.set_cons_succ]
            refine wpAnyJ_take (i := 16) (oi := { dst := some 27, op := .fieldAddr _ (.tmp 4) 0, type := _, pos := _, after := _, guard := _ }) (v := undef) rfl (by kernel_rfl) (by kernel_rfl) (by kernel_rfl) (by kernel_rfl) (fun _ _ _ h => h) (Or.inr ⟨by rfl, rfl⟩) hS5 ?_
            simp only [Act.put, List.setIfInBounds_toArray, List.set_cons_zero, List.set_cons_succ]
            refine wpAnyJ_take (i := 17) (oi := { dst := some 28, op := .load _ (.tmp 27), type := _, pos := _, after := _, guard := _ }) (v := undef) rfl (by kernel_rfl) (by kernel_rfl) (by kernel_rfl) (by kernel_rfl) (fun _ _ _ h => h) (Or.inr ⟨by rfl, rfl⟩) hS5 ?_
            simp only [Act.put, List.setIfInBounds_toArray, List.set_cons_zero, List.set_cons_succ]
            refine wpAnyJ_take (i := 18) (oi := { dst := some 29, op := .move (.tmp 0), type := _, pos := _, after := _, guard := _ }) (v := undef) rfl (by kernel_rfl) (by kernel_rfl) (by kernel_rfl) (by kernel_rfl) (fun _ _ _ h => h) (Or.inr ⟨by rfl, rfl⟩) hS5 ?_
            simp only [Act.put, List.setIfInBounds_toArray, List.set_cons_zero, List.set_cons_succ]
            refine wpAnyJ_take (i := 19) (oi := { dst := some 30, op := .indexAddr _ (.tmp 29) _, type := _, pos := _, after := _, guard := _ }) (v := undef) rfl (by kernel_rfl) (by kernel_rfl) (by kernel_rfl) (by kernel_rfl) (fun _ _ _ h => h) (Or.inr ⟨by rfl, rfl⟩) hS5 ?_
            simp only [Act.put, List.setIfInBounds_toArray, List.set_cons_zero, List.set_cons_succ]
            refine wpAnyJ_take (i := 20) (oi := { dst := some 31, op := .fieldAddr _ (.tmp 30) 0, type := _, pos := _, after := _, guard := _ }) (v := undef) rfl (by kernel_rfl) (by kernel_rfl) (by kernel_rfl) (by kernel_rfl) (fun _ _ _ h => h) (Or.inr ⟨by rfl, rfl⟩) hS5 ?_
            simp only [Act.put, List.setIfInBounds_toArray, List.set_cons_zero, List.set_cons_succ]
            refine wpAnyJ_take (i := 21) (oi := { dst := some 32, op := .load _ (.tmp 31), type := _, pos := _, after := _, guard := _ }) (v := undef) rfl (by kernel_rfl) (by kernel_rfl) (by kernel_rfl) (by kernel_rfl) (fun _ _ _ h => h) (Or.inr ⟨by rfl, rfl⟩) hS5 ?_
            simp only [Act.put, List.setIfInBounds_toArray, List.set_cons_zero, List.set_cons_succ]
            refine wpAnyJ_take (i := 22) (oi := { dst := some 33, op := .binOp _ _ (.tmp 28) (.tmp 32) _, type := _, pos := _, after := _, guard := _ }) (v := undef) rfl (by kernel_rfl) (by kernel_rfl) (by kernel_rfl) (by kernel_rfl) (fun _ _ _ h => h) (Or.inr ⟨by rfl, rfl⟩) hS5 ?_
            simp only [Act.put, List.setIfInBounds_toArray, List.set_cons_zero, List.set_cons_succ]
            refine wpAnyJ_take (i := 23) (oi := { dst := some 34, op := _, type := _, pos := _, after := _, guard := _ }) (v := ?_) rfl (by kernel_rfl) (by kernel_rfl) (by kernel_rfl) (by kernel_rfl) (fun _ _ _ h => h) (Or.inl ⟨by rfl, ?_⟩) hS5 ?_
            rotate_left
            · intro wl hSw
              obtain ⟨s0, s1, s2, s3⟩ := hSw
              go_simp
              with_reducible rfl
            simp only [Act.put, List.setIfInBounds_toArray, List.set_cons_zero, List.set_cons_succ]
            refine wpAnyJ_done (by kernel_rfl) ?_ _
            go_wp2_with fail
            go_ret
            exact ⟨_, rfl, by rw [← HQQ.out, HQ.out]; rfl, HBT.out.trans ((Up.bel hU5).mono HBT.out.size)⟩
        · have hne0 : (mchkM R C xs != 0) = true := by simp [hc]
          have HQ := Lib.hid (show (sq1 R C xs && (sq1 R' C' ys && decide (R' = R))) = false by unfold sq1; simp [hc])
          clear hf hc
          go_wp2_with fail
          have hSd : W.drew.cell? ⟨wr.heap.size, 0, none⟩ = some (.int .i64 R) ∧ W.drew.cell? ⟨wr.heap.size, 1, none⟩ = some (.int .i64 C) ∧ W.drew.cell? ⟨wr.heap.size, 2, none⟩ = some (.slice a xs.length cap) ∧ W.drew.cell? ⟨g, 0, none⟩ = some (.int .i64 R) := ⟨y0, y1, y2, y3⟩
          refine wp_regionJ (S := fun w' => w'.cell? ⟨wr.heap.size, 0, none⟩ = some (.int .i64 R) ∧ w'.cell? ⟨wr.heap.size, 1, none⟩ = some (.int .i64 C) ∧ w'.cell? ⟨wr.heap.size, 2, none⟩ = some (.slice a xs.length cap) ∧ w'.cell? ⟨g, 0, none⟩ = some (.int .i64 R)) (A := fun _ => true) (by kernel_rfl) ?_
          refine wpAnyJ_take (i := 0) (oi := { dst := some 11, op := .load _ (.tmp 4), type := _, pos := _, after := _, guard := _ }) (v := ?_) rfl (by kernel_rfl) (by kernel_rfl) (by kernel_rfl) (by kernel_rfl) (fun _ _ _ h => h) (Or.inl ⟨by rfl, ?_⟩) hSd ?_
          rotate_left
          · intro wl hSw
            obtain ⟨s0, s1, s2, s3⟩ := hSw
            go_simp
            with_reducible rfl
          simp only [Act.put, List.setIfInBounds_toArray, List.set_cons_zero, List.set_cons_succ]
          refine wpAnyJ_only (i := 1) (o := { dst := some 12, op := _, type := _, pos := _, after := _, guard := _ }) (by kernel_rfl) rfl (fun K hK => ?_)
          go_simp
          refine (Few03_any _ 6 R C _ xs HVd.out HS.out).mono ?_
          rintro e w4 ⟨u4, rfl, rfl, hb4⟩
          rw [HF.out]
          have hU4 := HU0.out.drew.call hb4
          have HV4 := Lib.hid (HVd.out.below hb4 (Nat.le_refl _))
          have hS4 := HH4.out w4 hU4
          refine hK.out _ _ (fun _ => hS4) ?_
          try simp only [Act.put, List.setIfInBounds_toArray, List.set_cons_zero, List.set_cons_succ]
          clear hK K
          refine wpAnyJ_take (i := 2) (oi := { dst := some 13, op := _, type := _, pos := _, after := _, guard := _ }) (v := ?_) rfl (by kernel_rfl) (by kernel_rfl) (by kernel_rfl) (by kernel_rfl) (fun _ _ _ h => h) (Or.inl ⟨by rfl, ?_⟩) hS4 ?_
          rotate_left
          · intro wl hSw
            obtain ⟨s0, s1, s2, s3⟩ := hSw
            go_simp
            with_reducible rfl
          simp only [Act.put, List.setIfInBounds_toArray, List.set_cons_zero, List.set_cons_succ]
          refine wpAnyJ_take (i := 3) (oi := { dst := some 14, op := .move (.tmp 13), type := _, pos := _, after := _, guard := _ }) (v := ?_) rfl (by kernel_rfl) (by kernel_rfl) (by kernel_rfl) (by kernel_rfl) (fun _ _ _ h => h) (Or.inl ⟨by rfl, ?_⟩) hS4 ?_
          rotate_left
          · intro wl hSw
            obtain ⟨s0, s1, s2, s3⟩ := hSw
            go_simp
            with_reducible rfl
          simp only [Act.put, List.setIfInBounds_toArray, List.set_cons_zero, List.set_cons_succ]
          refine wpAnyJ_take (i := 4) (oi := { dst := some 15, op := .load _ (.tmp 4), type := _, pos := _, after := _, guard := _ }) (v := ?_) rfl (by kernel_rfl) (by kernel_rfl) (by kernel_rfl) (by kernel_rfl) (fun _ _ _ h => h) (Or.inl ⟨by rfl, ?_⟩) hS4 ?_
          rotate_left
          · intro wl hSw
            obtain ⟨s0, s1, s2, s3⟩ := hSw
            go_simp
            with_reducible rfl
          simp only [Act.put, List.setIfInBounds_toArray, List.set_cons_zero, List.set_cons_succ]
          refine wpAnyJ_only (i := 5) (o := { dst := some 16, op := _, type := _, pos := _, after := _, guard := _ }) (by kernel_rfl) rfl (fun K hK => ?_)
          go_simp
          refine (rMCheck_any _ R C _ xs HV4.out (fun _ => H9.out.big (by omega))).mono ?_
          rintro e w5 ⟨u5, rfl, rfl, hb5⟩
          have hU5 := hU4.call hb5
          have hS5 := HH4.out w5 hU5
          refine hK.out _ _ (fun _ => hS5) ?_
          try simp only [Act.put, List.setIfInBounds_toArray, List.set_cons_zero, List.set_cons_succ]
          clear hK K
          refine wpAnyJ_take (i := 6) (oi := { dst := some 17, op := .binOp _ _ (.tmp 16) _ _, type := _, pos := _, after := _, guard := _ }) (v := ?_) rfl (by kernel_rfl) (by kernel_rfl) (by kernel_rfl) (by kernel_rfl) (fun _ _ _ h => h) (Or.inl ⟨by rfl, ?_⟩) hS5 ?_
          rotate_left
          · intro wl hSw
            obtain ⟨s0, s1, s2, s3⟩ := hSw
            go_simp
            with_reducible rfl
          simp only [Act.put, List.setIfInBounds_toArray, List.set_cons_zero, List.set_cons_succ]
          refine wpAnyJ_take (i := 7) (oi := { dst := some 18, op := _, type := _, pos := _, after := _, guard := _ }) (v := ?_) rfl (by kernel_rfl) (by kernel_rfl) (by kernel_rfl) (by kernel_rfl) (fun _ _ _ h => h) (Or.inl ⟨by rfl, ?_⟩) hS5 ?_
          rotate_left
          · intro wl hSw
            obtain ⟨s0, s1, s2, s3⟩ := hSw
            go_simp
            with_reducible rfl
          simp only [Act.put, List.setIfInBounds_toArray, List.set_cons_zero, List.set_cons_succ]
          refine wpAnyJ_take (i := 8) (oi := { dst := some 19, op := .move (.tmp 18), type := _, pos := _, after := _, guard := _ }) (v := ?_) rfl (by kernel_rfl) (by kernel_rfl) (by kernel_rfl) (by kernel_rfl) (fun _ _ _ h => h) (Or.inl ⟨by rfl, ?_⟩) hS5 ?_
          rotate_left
          · intro wl hSw
            obtain ⟨s0, s1, s2, s3⟩ := hSw
            go_simp
            with_reducible rfl
          simp only [Act.put, List.setIfInBounds_toArray, List.set_cons_zero, List.set_cons_succ]
          refine wpAnyJ_take (i := 9) (oi := { dst := some 20, op := .fieldAddr _ (.tmp 4) 0, type := _, pos := _, after := _, guard := _ }) (v := undef) rfl (by kernel_rfl) (by kernel_rfl) (by kernel_rfl) (by kernel_rfl) (fun _ _ _ h => h) (Or.inr ⟨by rfl, rfl⟩) hS5 ?_
          simp only [Act.put, List.setIfInBounds_toArray, List.set_cons_zero, List.set_cons_succ]
          refine wpAnyJ_take (i := 10) (oi := { dst := some 21, op := .load _ (.tmp 20), type := _, pos := _, after := _, guard := _ }) (v := undef) rfl (by kernel_rfl) (by kernel_rfl) (by kernel_rfl) (by kernel_rfl) (fun _ _ _ h => h) (Or.inr ⟨by rfl, rfl⟩) hS5 ?_
          simp only [Act.put, List.setIfInBounds_toArray, List.set_cons_zero, List.set_cons_succ]
          refine wpAnyJ_take (i := 11) (oi := { dst := some 22, op := .fieldAddr _ (.tmp 4) 1, type := _, pos := _, after := _, guard := _ }) (v := undef) rfl (by kernel_rfl) (by kernel_rfl) (by kernel_rfl) (by kernel_rfl) (fun _ _ _ h => h) (Or.inr ⟨by rfl, rfl⟩) hS5 ?_
          simp only [Act.put, List.setIfInBounds_toArray, List.set_cons_zero, List.set_cons_succ]
          refine wpAnyJ_take (i := 12) (oi := { dst := some 23, op := .load _ (.tmp 22), type := _, pos := _, after := _, guard := _ }) (v := undef) rfl (by kernel_rfl) (by kernel_rfl) (by kernel_rfl) (by kernel_rfl) (fun _ _ _ h => h) (Or.inr ⟨by rfl, rfl⟩) hS5 ?_
          simp only [Act.put, List.setIfInBounds_toArray, List.set_cons_zero, List.set_cons_succ]
          refine wpAnyJ_take (i := 13) (oi := { dst := some 24, op := .binOp _ _ (.tmp 21) (.tmp 23) _, type := _, pos := _, after := _, guard := _ }) (v := undef) rfl (by kernel_rfl) (by kernel_rfl) (by kernel_rfl) (by kernel_rfl) (fun _ _ _ h => h) (Or.inr ⟨by rfl, rfl⟩) hS5 ?_
          simp only [Act.put, List.setIfInBounds_toArray, List.set_cons_zero, List.set_cons_succ]
          refine wpAnyJ_take (i := 14) (oi := { dst := some 25, op := _, type := _, pos := _, after := _, guard := _ }) (v := ?_) rfl (by kernel_rfl) (by kernel_rfl) (by kernel_rfl) (by kernel_rfl) (fun _ _ _ h => h) (Or.inl ⟨by rfl, ?_⟩) hS5 ?_
          rotate_left
          · intro wl hSw
            obtain ⟨s0, s1, s2, s3⟩ := hSw
            go_simp
            with_reducible rfl
          simp only [Act.put, List.setIfInBounds_toArray, List.set_cons_zero, List.set_cons_succ]
          refine wpAnyJ_take (i := 15) (oi := { dst := some 26, op := .move (.tmp 25), type := _, pos := _, after := _, guard := _ }) (v := ?_) rfl (by kernel_rfl) (by kernel_rfl) (by kernel_rfl) (by kernel_rfl) (fun _ _ _ h => h) (Or.inl ⟨by rfl, ?_⟩) hS5 ?_
          rotate_left
          · intro wl hSw
            obtain ⟨s0, s1, s2, s3⟩ := hSw
            go_simp
            with_reducible rfl
          simp only [Act.put, List.setIfInBounds_toArray, List.set_cons_zero, List.set_cons_succ]
          refine wpAnyJ_take (i := 16) (oi := { dst := some 27, op := .fieldAddr _ (.tmp 4) 0, type := _, pos := _, after := _, guard := _ }) (v := undef) rfl (by kernel_rfl) (by kernel_rfl) (by kernel_rfl) (by kernel_rfl) (fun _ _ _ h => h) (Or.inr ⟨by rfl, rfl⟩) hS5 ?_
          simp only [Act.put, List.setIfInBounds_toArray, List.set_cons_zero, List.set_cons_succ]
          refine wpAnyJ_take (i := 17) (oi := { dst := some 28, op := .load _ (.tmp 27), type := _, pos := _, after := _, guard := _ }) (v := undef) rfl (by kernel_rfl) (by kernel_rfl) (by kernel_rfl) (by kernel_rfl) (fun _ _ _ h => h) (Or.inr ⟨by rfl, rfl⟩) hS5 ?_
          simp only [Act.put, List.setIfInBounds_toArray, List.set_cons_zero, List.set_cons_succ]
          refine wpAnyJ_take (i := 18) (oi := { dst := some 29, op := .move (.tmp 0), type := _, pos := _, after := _, guard := _ }) (v := undef) rfl (by kernel_rfl) (by kernel_rfl) (by kernel_rfl) (by kernel_rfl) (fun _ _ _ h => h) (Or.inr ⟨by rfl, rfl⟩) hS5 ?_
          simp only [Act.put, List.setIfInBounds_toArray, List.set_cons_zero, List.set_cons_succ]
          refine wpAnyJ_take (i := 19) (oi := { dst := some 30, op := .indexAddr _ (.tmp 29) _, type := _, pos := _, after := _, guard := _ }) (v := undef) rfl (by kernel_rfl) (by kernel_rfl) (by kernel_rfl) (by kernel_rfl) (fun _ _ _ h => h) (Or.inr ⟨by rfl, rfl⟩) hS5 ?_
          simp only [Act.put, List.setIfInBounds_toArray, List.set_cons_zero, List.set_cons_succ]
          refine wpAnyJ_take (i := 20) (oi := { dst := some 31, op := .fieldAddr _ (.tmp 30) 0, type := _, pos := _, after := _, guard := _ }) (v := undef) rfl (by kernel_rfl) (by kernel_rfl) (by kernel_rfl) (by kernel_rfl) (fun _ _ _ h => h) (Or.inr ⟨by rfl, rfl⟩) hS5 ?_
          simp only [Act.put, List.setIfInBounds_toArray, List.set_cons_zero, List.set_cons_succ]
          refine wpAnyJ_take (i := 21) (oi := { dst := some 32, op := .load _ (.tmp 31), type := _, pos := _, after := _, guard := _ }) (v := undef) rfl (by kernel_rfl) (by kernel_rfl) (by kernel_rfl) (by kernel_rfl) (fun _ _ _ h => h) (Or.inr ⟨by rfl, rfl⟩) hS5 ?_
          simp only [Act.put, List.setIfInBounds_toArray, List.set_cons_zero, List.set_cons_succ]
          refine wpAnyJ_take (i := 22) (oi := { dst := some 33, op := .binOp _ _ (.tmp 28) (.tmp 32) _, type := _, pos := _, after := _, guard := _ }) (v := undef) rfl (by kernel_rfl) (by kernel_rfl) (by kernel_rfl) (by kernel_rfl) (fun _ _ _ h => h) (Or.inr ⟨by rfl, rfl⟩) hS5 ?_
          simp only [Act.put, List.setIfInBounds_toArray, List.set_cons_zero, List.set_cons_succ]
          refine wpAnyJ_take (i := 23) (oi := { dst := some 34, op := _, type := _, pos := _, after := _, guard := _ }) (v := ?_) rfl (by kernel_rfl) (by kernel_rfl) (by kernel_rfl) (by kernel_rfl) (fun _ _ _ h => h) (Or.inl ⟨by rfl, ?_⟩) hS5 ?_
          rotate_left
          · intro wl hSw
            obtain ⟨s0, s1, s2, s3⟩ := hSw
            go_simp
            with_reducible rfl
          simp only [Act.put, List.setIfInBounds_toArray, List.set_cons_zero, List.set_cons_succ]
          refine wpAnyJ_done (by kernel_rfl) ?_ _
          go_wp2_with fail
          go_ret
          exact ⟨_, rfl, by rw [← HQQ.out, HQ.out]; rfl, HBT.out.trans ((Up.bel hU5).mono HBT.out.size)⟩
    · have hA0 : Hid (1 ≤ 2 → sq1 R C xs = true) := Lib.hid (fun _ => hA.out (Nat.le_refl _))
      obtain ⟨W, hWW⟩ : ∃ W, wr.alloc (.cells #[.int .i64 R', .int .i64 C', .slice a' ys.length cap'] 24) = W := ⟨_, rfl⟩
      have HBT := Lib.hid (show Below w.heap.size w W by rw [← hWW]; exact hb.alloc hb.size _)
      have HH := Lib.hid (held_sq (h := W.heap.size) (show Blk W wr.heap.size [.int .i64 R', .int .i64 C', .slice a' ys.length cap'] 24 by rw [← hWW]; exact Blk.new wr _ _) (HKL.out.below HBT.out (Nat.le_refl _)) (d := .int .i64 R) rfl (by rw [← hWW]; simp) (Nat.lt_of_lt_of_le HKL.out.lt HBT.out.size))
      have HU0 := Lib.hid (Up.start W)
      have HVW := Lib.hid (HU.out.below HBT.out (Nat.le_refl _))
      have HVd := Lib.hid (HVW.out.below (Below.refl W.heap.size W).drew (Nat.le_refl _))
      have HH4 := Lib.hid (fun w' (H : Up W.heap.size W w') => show w'.cell? ⟨wr.heap.size, 0, none⟩ = some (.int .i64 R') ∧ w'.cell? ⟨wr.heap.size, 1, none⟩ = some (.int .i64 C') ∧ w'.cell? ⟨wr.heap.size, 2, none⟩ = some (.slice a' ys.length cap') ∧ w'.cell? ⟨g, 0, none⟩ = some (.int .i64 R) from ⟨(HH.out w' H).2.1.1, (HH.out w' H).2.1.2.1, (HH.out w' H).2.1.2.2, (HH.out w' H).2.2⟩)
      obtain ⟨-, ⟨y0, y1, y2⟩, y3⟩ := HH.out W (Up.start W)
      cases hf : few03 6 R' C' ys
      · have HF := Lib.hid hf
        have HQ := Lib.hid (show (sq1 R C xs && (sq1 R' C' ys && decide (R' = R))) = false by rw [show sq1 R' C' ys = false by unfold sq1; rw [hf]; rfl]; simp)
        clear hf
        go_wp2_with fail
        have hSd : W.drew.cell? ⟨wr.heap.size, 0, none⟩ = some (.int .i64 R') ∧ W.drew.cell? ⟨wr.heap.size, 1, none⟩ = some (.int .i64 C') ∧ W.drew.cell? ⟨wr.heap.size, 2, none⟩ = some (.slice a' ys.length cap') ∧ W.drew.cell? ⟨g, 0, none⟩ = some (.int .i64 R) := ⟨y0, y1, y2, y3⟩
        refine wp_regionJ (S := fun w' => w'.cell? ⟨wr.heap.size, 0, none⟩ = some (.int .i64 R') ∧ w'.cell? ⟨wr.heap.size, 1, none⟩ = some (.int .i64 C') ∧ w'.cell? ⟨wr.heap.size, 2, none⟩ = some (.slice a' ys.length cap') ∧ w'.cell? ⟨g, 0, none⟩ = some (.int .i64 R)) (A := fun _ => true) (by kernel_rfl) ?_
        refine wpAnyJ_take (i := 0) (oi := { dst := some 11, op := .load _ (.tmp 4), type := _, pos := _, after := _, guard := _ }) (v := ?_) rfl (by kernel_rfl) (by kernel_rfl) (by kernel_rfl) (by kernel_rfl) (fun _ _ _ h => h) (Or.inl ⟨by rfl, ?_⟩) hSd ?_
        rotate_left
        · intro wl hSw
          obtain ⟨s0, s1, s2, s3⟩ := hSw
          go_simp
          with_reducible rfl
        simp only [Act.put, List.setIfInBounds_toArray, List.set_cons_zero, List.set_cons_succ]
        refine wpAnyJ_only (i := 1) (o := { dst := some 12, op := _, type := _, pos := _, after := _, guard := _ }) (by kernel_rfl) rfl (fun K hK => ?_)
        go_simp
        refine (Few03_any _ 6 R' C' _ ys HVd.out HS'.out).mono ?_
        rintro e w4 ⟨u4, rfl, rfl, hb4⟩
        rw [HF.out]
        have hU4 := HU0.out.drew.call hb4
        have HV4 := Lib.hid (HVd.out.below hb4 (Nat.le_refl _))
        have hU5 := hU4
        have hS4 := HH4.out w4 hU4
        refine hK.out _ _ (fun _ => hS4) ?_
        try simp only [Act.put, List.setIfInBounds_toArray, List.set_cons_zero, List.set_cons_succ]
        clear hK K
        refine wpAnyJ_take (i := 2) (oi := { dst := some 13, op := _, type := _, pos := _, after := _, guard := _ }) (v := ?_) rfl (by kernel_rfl) (by kernel_rfl) (by kernel_rfl) (by kernel_rfl) (fun _ _ _ h => h) (Or.inl ⟨by rfl, ?_⟩) hS4 ?_
        rotate_left
        · intro wl hSw
          obtain ⟨s0, s1, s2, s3⟩ := hSw
          go_simp
          with_reducible rfl
        simp only [Act.put, List.setIfInBounds_toArray, List.set_cons_zero, List.set_cons_succ]
        refine wpAnyJ_take (i := 3) (oi := { dst := some 14, op := .move (.tmp 13), type := _, pos := _, after := _, guard := _ }) (v := ?_) rfl (by kernel_rfl) (by kernel_rfl) (by kernel_rfl) (by kernel_rfl) (fun _ _ _ h => h) (Or.inl ⟨by rfl, ?_⟩) hS4 ?_
        rotate_left
        · intro wl hSw
          obtain ⟨s0, s1, s2, s3⟩ := hSw
          go_simp
          with_reducible rfl
        simp only [Act.put, List.setIfInBounds_toArray, List.set_cons_zero, List.set_cons_succ]
        refine wpAnyJ_take (i := 4) (oi := { dst := some 15, op := .load _ (.tmp 4), type := _, pos := _, after := _, guard := _ }) (v := undef) rfl (by kernel_rfl) (by kernel_rfl) (by kernel_rfl) (by kernel_rfl) (fun _ _ _ h => h) (Or.inr ⟨by rfl, rfl⟩) hS4 ?_
        simp only [Act.put, List.setIfInBounds_toArray, List.set_cons_zero, List.set_cons_succ]
        refine wpAnyJ_take (i := 5) (oi := { dst := some 16, op := _, type := _, pos := _, after := _, guard := _ }) (v := undef) rfl (by kernel_rfl) (by kernel_rfl) (by kernel_rfl) (by kernel_rfl) (fun _ _ _ h => h) (Or.inr ⟨by rfl, rfl⟩) hS4 ?_
        simp only [Act.put, List.setIfInBounds_toArray, List.set_cons_zero, List.set_cons_succ]
        refine wpAnyJ_take (i := 6) (oi := { dst := some 17, op := .binOp _ _ (.tmp 16) _ _, type := _, pos := _, after := _, guard := _ }) (v := undef) rfl (by kernel_rfl) (by kernel_rfl) (by kernel_rfl) (by kernel_rfl) (fun _ _ _ h => h) (Or.inr ⟨by rfl, rfl⟩) hS4 ?_
        simp only [Act.put, List.setIfInBounds_toArray, List.set_cons_zero, List.set_cons_succ]
        refine wpAnyJ_take (i := 7) (oi := { dst := some 18, op := _, type := _, pos := _, after := _, guard := _ }) (v := ?_) rfl (by kernel_rfl) (by kernel_rfl) (by kernel_rfl) (by kernel_rfl) (fun _ _ _ h => h) (Or.inl ⟨by rfl, ?_⟩) hS4 ?_
        rotate_left
        · intro wl hSw
          obtain ⟨s0, s1, s2, s3⟩ := hSw
          go_simp
          with_reducible rfl
        simp only [Act.put, List.setIfInBounds_toArray, List.set_cons_zero, List.set_cons_succ]
        refine wpAnyJ_take (i := 8) (oi := { dst := some 19, op := .move (.tmp 18), type := _, pos := _, after := _, guard := _ }) (v := ?_) rfl (by kernel_rfl) (by kernel_rfl) (by kernel_rfl) (by kernel_rfl) (fun _ _ _ h => h) (Or.inl ⟨by rfl, ?_⟩) hS4 ?_
        rotate_left
        · intro wl hSw
          obtain ⟨s0, s1, s2, s3⟩ := hSw
          go_simp
          with_reducible rfl
        simp only [Act.put, List.setIfInBounds_toArray, List.set_cons_zero, List.set_cons_succ]
        refine wpAnyJ_take (i := 9) (oi := { dst := some 20, op := .fieldAddr _ (.tmp 4) 0, type := _, pos := _, after := _, guard := _ }) (v := undef) rfl (by kernel_rfl) (by kernel_rfl) (by kernel_rfl) (by kernel_rfl) (fun _ _ _ h => h) (Or.inr ⟨by rfl, rfl⟩) hS4 ?_
        simp only [Act.put, List.setIfInBounds_toArray, List.set_cons_zero, List.set_cons_succ]
        refine wpAnyJ_take (i := 10) (oi := { dst := some 21, op := .load _ (.tmp 20), type := _, pos := _, after := _, guard := _ }) (v := undef) rfl (by kernel_rfl) (by kernel_rfl) (by kernel_rfl) (by kernel_rfl) (fun _ _ _ h => h) (Or.inr ⟨by rfl, rfl⟩) hS4 ?_
        simp only [Act.put, List.setIfInBounds_toArray, List.set_cons_zero, List.set_cons_succ]
        refine wpAnyJ_take (i := 11) (oi := { dst := some 22, op := .fieldAddr _ (.tmp 4) 1, type := _, pos := _, after := _, guard := _ }) (v := undef) rfl (by kernel_rfl) (by kernel_rfl) (by kernel_rfl) (by kernel_rfl) (fun _ _ _ h => h) (Or.inr ⟨by rfl, rfl⟩) hS4 ?_
        simp only [Act.put, List.setIfInBounds_toArray, List.set_cons_zero, List.set_cons_succ]
        refine wpAnyJ_take (i := 12) (oi := { dst := some 23, op := .load _ (.tmp 22), type := _, pos := _, after := _, guard := _ }) (v := undef) rfl (by kernel_rfl) (by kernel_rfl) (by kernel_rfl) (by kernel_rfl) (fun _ _ _ h => h) (Or.inr ⟨by rfl, rfl⟩) hS4 ?_
        simp only [Act.put, List.setIfInBounds_toArray, List.set_cons_zero, List.set_cons_succ]
        refine wpAnyJ_take (i := 13) (oi := { dst := some 24, op := .binOp _ _ (.tmp 21) (.tmp 23) _, type := _, pos := _, after := _, guard := _ }) (v := undef) rfl (by kernel_rfl) (by kernel_rfl) (by kernel_rfl) (by kernel_rfl) (fun _ _ _ h => h) (Or.inr ⟨by rfl, rfl⟩) hS4 ?_
        simp only [Act.put, List.setIfInBounds_toArray, List.set_cons_zero, List.set_cons_succ]
        refine wpAnyJ_take (i := 14) (oi := { dst := some 25, op := _, type := _, pos := _, after := _, guard := _ }) (v := ?_) rfl (by kernel_rfl) (by kernel_rfl) (by kernel_rfl) (by kernel_rfl) (fun _ _ _ h => h) (Or.inl ⟨by rfl, ?_⟩) hS4 ?_
        rotate_left
        · intro wl hSw
          obtain ⟨s0, s1, s2, s3⟩ := hSw
          go_simp
          with_reducible rfl
        simp only [Act.put, List.setIfInBounds_toArray, List.set_cons_zero, List.set_cons_succ]
        refine wpAnyJ_take (i := 15) (oi := { dst := some 26, op := .move (.tmp 25), type := _, pos := _, after := _, guard := _ }) (v := ?_) rfl (by kernel_rfl) (by kernel_rfl) (by kernel_rfl) (by kernel_rfl) (fun _ _ _ h => h) (Or.inl ⟨by rfl, ?_⟩) hS4 ?_
        rotate_left
        · intro wl hSw
          obtain ⟨s0, s1, s2, s3⟩ := hSw
          go_simp
          with_reducible rfl
        simp only [Act.put, List.setIfInBounds_toArray, List.set_cons_zero, List.set_cons_succ]
        refine wpAnyJ_take (i := 16) (oi := { dst := some 27, op := .fieldAddr _ (.tmp 4) 0, type := _, pos := _, after := _, guard := _ }) (v := undef) rfl (by kernel_rfl) (by kernel_rfl) (by kernel_rfl) (by kernel_rfl) (fun _ _ _ h => h) (Or.inr ⟨by rfl, rfl⟩) hS4 ?_
        simp only [Act.put, List.setIfInBounds_toArray, List.set_cons_zero, List.set_cons_succ]
        refine wpAnyJ_take (i := 17) (oi := { dst := some 28, op := .load _ (.tmp 27), type := _, pos := _, after := _, guard := _ }) (v := undef) rfl (by kernel_rfl) (by kernel_rfl) (by kernel_rfl) (by kernel_rfl) (fun _ _ _ h => h) (Or.inr ⟨by rfl, rfl⟩) hS4 ?_
        simp only [Act.put, List.setIfInBounds_toArray, List.set_cons_zero, List.set_cons_succ]
        refine wpAnyJ_take (i := 18) (oi := { dst := some 29, op := .move (.tmp 0), type := _, pos := _, after := _, guard := _ }) (v := undef) rfl (by kernel_rfl) (by kernel_rfl) (by kernel_rfl) (by kernel_rfl) (fun _ _ _ h => h) (Or.inr ⟨by rfl, rfl⟩) hS4 ?_
        simp only [Act.put, List.setIfInBounds_toArray, List.set_cons_zero, List.set_cons_succ]
        refine wpAnyJ_take (i := 19) (oi := { dst := some 30, op := .indexAddr _ (.tmp 29) _, type := _, pos := _, after := _, guard := _ }) (v := undef) rfl (by kernel_rfl) (by kernel_rfl) (by kernel_rfl) (by kernel_rfl) (fun _ _ _ h => h) (Or.inr ⟨by rfl, rfl⟩) hS4 ?_
        simp only [Act.put, List.setIfInBounds_toArray, List.set_cons_zero, List.set_cons_succ]
        refine wpAnyJ_take (i := 20) (oi := { dst := some 31, op := .fieldAddr _ (.tmp 30) 0, type := _, pos := _, after := _, guard := _ }) (v := undef) rfl (by kernel_rfl) (by kernel_rfl) (by kernel_rfl) (by kernel_rfl) (fun _ _ _ h => h) (Or.inr ⟨by rfl, rfl⟩) hS4 ?_
        simp only [Act.put, List.setIfInBounds_toArray, List.set_cons_zero, List.set_cons_succ]
        refine wpAnyJ_take (i := 21) (oi := { dst := some 32, op := .load _ (.tmp 31), type := _, pos := _, after := _, guard := _ }) (v := undef) rfl (by kernel_rfl) (by kernel_rfl) (by kernel_rfl) (by kernel_rfl) (fun _ _ _ h => h) (Or.inr ⟨by rfl, rfl⟩) hS4 ?_
        simp only [Act.put, List.setIfInBounds_toArray, List.set_cons_zero, List.set_cons_succ]
        refine wpAnyJ_take (i := 22) (oi := { dst := some 33, op := .binOp _ _ (.tmp 28) (.tmp 32) _, type := _, pos := _, after := _, guard := _ }) (v := undef) rfl (by kernel_rfl) (by kernel_rfl) (by kernel_rfl) (by kernel_rfl) (fun _ _ _ h => h) (Or.inr ⟨by rfl, rfl⟩) hS4 ?_
        simp only [Act.put, List.setIfInBounds_toArray, List.set_cons_zero, List.set_cons_succ]
        refine wpAnyJ_take (i := 23) (oi := { dst := some 34, op := _, type := _, pos := _, after := _, guard := _ }) (v := ?_) rfl (by kernel_rfl) (by kernel_rfl) (by kernel_rfl) (by kernel_rfl) (fun _ _ _ h => h) (Or.inl ⟨by rfl, ?_⟩) hS4 ?_
        rotate_left
        · intro wl hSw
          obtain ⟨s0, s1, s2, s3⟩ := hSw
          go_simp
          with_reducible rfl
        simp only [Act.put, List.setIfInBounds_toArray, List.set_cons_zero, List.set_cons_succ]
        refine wpAnyJ_done (by kernel_rfl) ?_ _
        go_wp2_with fail
        go_ret
        exact ⟨_, rfl, by rw [← HQQ.out, HQ.out]; rfl, HBT.out.trans ((Up.bel hU5).mono HBT.out.size)⟩
      · have HF := Lib.hid hf
        have H9 := Lib.hid (few03_rm hf).1
        by_cases hc : mchkM R' C' ys = 0
        · have HC := Lib.hid hc
          by_cases hs : R' = C'
          · have hne1 : (R' != C') = false := by rw [hs]; simp
            by_cases h0 : R' = R
            · have hne2 : (R' != R) = false := by simp [h0]
              have HT := Lib.hid (show sq1 R' C' ys = true by unfold sq1; rw [hf, decide_eq_true hc, decide_eq_true hs]; rfl)
              have HR0 := Lib.hid h0
              clear hf hc hs h0
              go_wp2_with fail
              have hSd : W.drew.cell? ⟨wr.heap.size, 0, none⟩ = some (.int .i64 R') ∧ W.drew.cell? ⟨wr.heap.size, 1, none⟩ = some (.int .i64 C') ∧ W.drew.cell? ⟨wr.heap.size, 2, none⟩ = some (.slice a' ys.length cap') ∧ W.drew.cell? ⟨g, 0, none⟩ = some (.int .i64 R) := ⟨y0, y1, y2, y3⟩
              refine wp_regionJ (S := fun w' => w'.cell? ⟨wr.heap.size, 0, none⟩ = some (.int .i64 R') ∧ w'.cell? ⟨wr.heap.size, 1, none⟩ = some (.int .i64 C') ∧ w'.cell? ⟨wr.heap.size, 2, none⟩ = some (.slice a' ys.length cap') ∧ w'.cell? ⟨g, 0, none⟩ = some (.int .i64 R)) (A := fun _ => true) (by kernel_rfl) ?_
              refine wpAnyJ_take (i := 0) (oi := { dst := some 11, op := .load _ (.tmp 4), type := _, pos := _, after := _, guard := _ }) (v := ?_) rfl (by kernel_rfl) (by kernel_rfl) (by kernel_rfl) (by kernel_rfl) (fun _ _ _ h => h) (Or.inl ⟨by rfl, ?_⟩) hSd ?_
              rotate_left
              · intro wl hSw
                obtain ⟨s0, s1, s2, s3⟩ := hSw
                go_simp
                with_reducible rfl
              simp only [Act.put, List.setIfInBounds_toArray, List.set_cons_zero, List.set_cons_succ]
              refine wpAnyJ_only (i := 1) (o := { dst := some 12, op := _, type := _, pos := _, after := _, guard := _ }) (by kernel_rfl) rfl (fun K hK => ?_)
              go_simp
              refine (Few03_any _ 6 R' C' _ ys HVd.out HS'.out).mono ?_
              rintro e w4 ⟨u4, rfl, rfl, hb4⟩
              rw [HF.out]
              have hU4 := HU0.out.drew.call hb4
              have HV4 := Lib.hid (HVd.out.below hb4 (Nat.le_refl _))
              have hS4 := HH4.out w4 hU4
              refine hK.out _ _ (fun _ => hS4) ?_
              try simp only [Act.put, List.setIfInBounds_toArray, List.set_cons_zero, List.set_cons_succ]
              clear hK K
              refine wpAnyJ_take (i := 2) (oi := { dst := some 13, op := _, type := _, pos := _, after := _, guard := _ }) (v := ?_) rfl (by kernel_rfl) (by kernel_rfl) (by kernel_rfl) (by kernel_rfl) (fun _ _ _ h => h) (Or.inl ⟨by rfl, ?_⟩) hS4 ?_
              rotate_left
              · intro wl hSw
                obtain ⟨s0, s1, s2, s3⟩ := hSw
                go_simp
                with_reducible rfl
              simp only [Act.put, List.setIfInBounds_toArray, List.set_cons_zero, List.set_cons_succ]
              refine wpAnyJ_take (i := 3) (oi := { dst := some 14, op := .move (.tmp 13), type := _, pos := _, after := _, guard := _ }) (v := ?_) rfl (by kernel_rfl) (by kernel_rfl) (by kernel_rfl) (by kernel_rfl) (fun _ _ _ h => h) (Or.inl ⟨by rfl, ?_⟩) hS4 ?_
              rotate_left
              · intro wl hSw
                obtain ⟨s0, s1, s2, s3⟩ := hSw
                go_simp
                with_reducible rfl
              simp only [Act.put, List.setIfInBounds_toArray, List.set_cons_zero, List.set_cons_succ]
              refine wpAnyJ_take (i := 4) (oi := { dst := some 15, op := .load _ (.tmp 4), type := _, pos := _, after := _, guard := _ }) (v := ?_) rfl (by kernel_rfl) (by kernel_rfl) (by kernel_rfl) (by kernel_rfl) (fun _ _ _ h => h) (Or.inl ⟨by rfl, ?_⟩) hS4 ?_
              rotate_left
              · intro wl hSw
                obtain ⟨s0, s1, s2, s3⟩ := hSw
                go_simp
                with_reducible rfl
              simp only [Act.put, List.setIfInBounds_toArray, List.set_cons_zero, List.set_cons_succ]
              refine wpAnyJ_only (i := 5) (o := { dst := some 16, op := _, type := _, pos := _, after := _, guard := _ }) (by kernel_rfl) rfl (fun K hK => ?_)
              go_simp
              refine (rMCheck_any _ R' C' _ ys HV4.out (fun _ => H9.out.big (by omega))).mono ?_
              rintro e w5 ⟨u5, rfl, rfl, hb5⟩
              rw [HC.out]
              have hU5 := hU4.call hb5
              have hS5 := HH4.out w5 hU5
              refine hK.out _ _ (fun _ => hS5) ?_
              try simp only [Act.put, List.setIfInBounds_toArray, List.set_cons_zero, List.set_cons_succ]
              clear hK K
              refine wpAnyJ_take (i := 6) (oi := { dst := some 17, op := .binOp _ _ (.tmp 16) _ _, type := _, pos := _, after := _, guard := _ }) (v := ?_) rfl (by kernel_rfl) (by kernel_rfl) (by kernel_rfl) (by kernel_rfl) (fun _ _ _ h => h) (Or.inl ⟨by rfl, ?_⟩) hS5 ?_
              rotate_left
              · intro wl hSw
                obtain ⟨s0, s1, s2, s3⟩ := hSw
                go_simp
                with_reducible rfl
              simp only [Act.put, List.setIfInBounds_toArray, List.set_cons_zero, List.set_cons_succ]
              refine wpAnyJ_take (i := 7) (oi := { dst := some 18, op := _, type := _, pos := _, after := _, guard := _ }) (v := ?_) rfl (by kernel_rfl) (by kernel_rfl) (by kernel_rfl) (by kernel_rfl) (fun _ _ _ h => h) (Or.inl ⟨by rfl, ?_⟩) hS5 ?_
              rotate_left
              · intro wl hSw
                obtain ⟨s0, s1, s2, s3⟩ := hSw
                go_simp
                with_reducible rfl
              simp only [Act.put, List.setIfInBounds_toArray, List.set_cons_zero, List.set_cons_succ]
              refine wpAnyJ_take (i := 8) (oi := { dst := some 19, op := .move (.tmp 18), type := _, pos := _, after := _, guard := _ }) (v := ?_) rfl (by kernel_rfl) (by kernel_rfl) (by kernel_rfl) (by kernel_rfl) (fun _ _ _ h => h) (Or.inl ⟨by rfl, ?_⟩) hS5 ?_
              rotate_left
              · intro wl hSw
                obtain ⟨s0, s1, s2, s3⟩ := hSw
                go_simp
                with_reducible rfl
              simp only [Act.put, List.setIfInBounds_toArray, List.set_cons_zero, List.set_cons_succ]
              refine wpAnyJ_take (i := 9) (oi := { dst := some 20, op := .fieldAddr _ (.tmp 4) 0, type := _, pos := _, after := _, guard := _ }) (v := ?_) rfl (by kernel_rfl) (by kernel_rfl) (by kernel_rfl) (by kernel_rfl) (fun _ _ _ h => h) (Or.inl ⟨by rfl, ?_⟩) hS5 ?_
              rotate_left
              · intro wl hSw
                obtain ⟨s0, s1, s2, s3⟩ := hSw
                go_simp
                with_reducible rfl
              simp only [Act.put, List.setIfInBounds_toArray, List.set_cons_zero, List.set_cons_succ]
              refine wpAnyJ_take (i := 10) (oi := { dst := some 21, op := .load _ (.tmp 20), type := _, pos := _, after := _, guard := _ }) (v := ?_) rfl (by kernel_rfl) (by kernel_rfl) (by kernel_rfl) (by kernel_rfl) (fun _ _ _ h => h) (Or.inl ⟨by rfl, ?_⟩) hS5 ?_
              rotate_left
              · intro wl hSw
                obtain ⟨s0, s1, s2, s3⟩ := hSw
                go_simp
                with_reducible rfl
              simp only [Act.put, List.setIfInBounds_toArray, List.set_cons_zero, List.set_cons_succ]
              refine wpAnyJ_take (i := 11) (oi := { dst := some 22, op := .fieldAddr _ (.tmp 4) 1, type := _, pos := _, after := _, guard := _ }) (v := ?_) rfl (by kernel_rfl) (by kernel_rfl) (by kernel_rfl) (by kernel_rfl) (fun _ _ _ h => h) (Or.inl ⟨by rfl, ?_⟩) hS5 ?_
              rotate_left
              · intro wl hSw
                obtain ⟨s0, s1, s2, s3⟩ := hSw
                go_simp
                with_reducible rfl
              simp only [Act.put, List.setIfInBounds_toArray, List.set_cons_zero, List.set_cons_succ]
              refine wpAnyJ_take (i := 12) (oi := { dst := some 23, op := .load _ (.tmp 22), type := _, pos := _, after := _, guard := _ }) (v := ?_) rfl (by kernel_rfl) (by kernel_rfl) (by kernel_rfl) (by kernel_rfl) (fun _ _ _ h => h) (Or.inl ⟨by rfl, ?_⟩) hS5 ?_
              rotate_left
              · intro wl hSw
                obtain ⟨s0, s1, s2, s3⟩ := hSw
                go_simp
                with_reducible rfl
              simp only [Act.put, List.setIfInBounds_toArray, List.set_cons_zero, List.set_cons_succ]
              refine wpAnyJ_take (i := 13) (oi := { dst := some 24, op := .binOp _ _ (.tmp 21) (.tmp 23) _, type := _, pos := _, after := _, guard := _ }) (v := ?_) rfl (by kernel_rfl) (by kernel_rfl) (by kernel_rfl) (by kernel_rfl) (fun _ _ _ h => h) (Or.inl ⟨by rfl, ?_⟩) hS5 ?_
              rotate_left
              · intro wl hSw
                obtain ⟨s0, s1, s2, s3⟩ := hSw
                go_simp
                with_reducible rfl
              simp only [Act.put, List.setIfInBounds_toArray, List.set_cons_zero, List.set_cons_succ]
              refine wpAnyJ_take (i := 14) (oi := { dst := some 25, op := _, type := _, pos := _, after := _, guard := _ }) (v := ?_) rfl (by kernel_rfl) (by kernel_rfl) (by kernel_rfl) (by kernel_rfl) (fun _ _ _ h => h) (Or.inl ⟨by rfl, ?_⟩) hS5 ?_
              rotate_left
              · intro wl hSw
                obtain ⟨s0, s1, s2, s3⟩ := hSw
                go_simp
                with_reducible rfl
              simp only [Act.put, List.setIfInBounds_toArray, List.set_cons_zero, List.set_cons_succ]
              refine wpAnyJ_take (i := 15) (oi := { dst := some 26, op := .move (.tmp 25), type := _, pos := _, after := _, guard := _ }) (v := ?_) rfl (by kernel_rfl) (by kernel_rfl) (by kernel_rfl) (by kernel_rfl) (fun _ _ _ h => h) (Or.inl ⟨by rfl, ?_⟩) hS5 ?_
              rotate_left
              · intro wl hSw
                obtain ⟨s0, s1, s2, s3⟩ := hSw
                go_simp
                with_reducible rfl
              simp only [Act.put, List.setIfInBounds_toArray, List.set_cons_zero, List.set_cons_succ]
              refine wpAnyJ_take (i := 16) (oi := { dst := some 27, op := .fieldAddr _ (.tmp 4) 0, type := _, pos := _, after := _, guard := _ }) (v := ?_) rfl (by kernel_rfl) (by kernel_rfl) (by kernel_rfl) (by kernel_rfl) (fun _ _ _ h => h) (Or.inl ⟨by rfl, ?_⟩) hS5 ?_
              rotate_left
              · intro wl hSw
                obtain ⟨s0, s1, s2, s3⟩ := hSw
                go_simp
                with_reducible rfl
              simp only [Act.put, List.setIfInBounds_toArray, List.set_cons_zero, List.set_cons_succ]
              refine wpAnyJ_take (i := 17) (oi := { dst := some 28, op := .load _ (.tmp 27), type := _, pos := _, after := _, guard := _ }) (v := ?_) rfl (by kernel_rfl) (by kernel_rfl) (by kernel_rfl) (by kernel_rfl) (fun _ _ _ h => h) (Or.inl ⟨by rfl, ?_⟩) hS5 ?_
              rotate_left
              · intro wl hSw
                obtain ⟨s0, s1, s2, s3⟩ := hSw
                go_simp
                with_reducible rfl
              simp only [Act.put, List.setIfInBounds_toArray, List.set_cons_zero, List.set_cons_succ]
              refine wpAnyJ_take (i := 18) (oi := { dst := some 29, op := .move (.tmp 0), type := _, pos := _, after := _, guard := _ }) (v := ?_) rfl (by kernel_rfl) (by kernel_rfl) (by kernel_rfl) (by kernel_rfl) (fun _ _ _ h => h) (Or.inl ⟨by rfl, ?_⟩) hS5 ?_
              rotate_left
              · intro wl hSw
                obtain ⟨s0, s1, s2, s3⟩ := hSw
                go_simp
                with_reducible rfl
              simp only [Act.put, List.setIfInBounds_toArray, List.set_cons_zero, List.set_cons_succ]
              refine wpAnyJ_take (i := 19) (oi := { dst := some 30, op := .indexAddr _ (.tmp 29) _, type := _, pos := _, after := _, guard := _ }) (v := ?_) rfl (by kernel_rfl) (by kernel_rfl) (by kernel_rfl) (by kernel_rfl) (fun _ _ _ h => h) (Or.inl ⟨by rfl, ?_⟩) hS5 ?_
              rotate_left
              · intro wl hSw
                obtain ⟨s0, s1, s2, s3⟩ := hSw
                go_simp
                with_reducible rfl
              simp only [Act.put, List.setIfInBounds_toArray, List.set_cons_zero, List.set_cons_succ]
              refine wpAnyJ_take (i := 20) (oi := { dst := some 31, op := .fieldAddr _ (.tmp 30) 0, type := _, pos := _, after := _, guard := _ }) (v := ?_) rfl (by kernel_rfl) (by kernel_rfl) (by kernel_rfl) (by kernel_rfl) (fun _ _ _ h => h) (Or.inl ⟨by rfl, ?_⟩) hS5 ?_
              rotate_left
              · intro wl hSw
                obtain ⟨s0, s1, s2, s3⟩ := hSw
                go_simp
                with_reducible rfl
              simp only [Act.put, List.setIfInBounds_toArray, List.set_cons_zero, List.set_cons_succ]
              refine wpAnyJ_take (i := 21) (oi := { dst := some 32, op := .load _ (.tmp 31), type := _, pos := _, after := _, guard := _ }) (v := ?_) rfl (by kernel_rfl) (by kernel_rfl) (by kernel_rfl) (by kernel_rfl) (fun _ _ _ h => h) (Or.inl ⟨by rfl, ?_⟩) hS5 ?_
              rotate_left
              · intro wl hSw
                obtain ⟨s0, s1, s2, s3⟩ := hSw
                go_simp
                with_reducible rfl
              simp only [Act.put, List.setIfInBounds_toArray, List.set_cons_zero, List.set_cons_succ]
              refine wpAnyJ_take (i := 22) (oi := { dst := some 33, op := .binOp _ _ (.tmp 28) (.tmp 32) _, type := _, pos := _, after := _, guard := _ }) (v := ?_) rfl (by kernel_rfl) (by kernel_rfl) (by kernel_rfl) (by kernel_rfl) (fun _ _ _ h => h) (Or.inl ⟨by rfl, ?_⟩) hS5 ?_
              rotate_left
              · intro wl hSw
                obtain ⟨s0, s1, s2, s3⟩ := hSw
                go_simp
                with_reducible rfl
              simp only [Act.put, List.setIfInBounds_toArray, List.set_cons_zero, List.set_cons_succ]
              refine wpAnyJ_take (i := 23) (oi := { dst := some 34, op := _, type := _, pos := _, after := _, guard := _ }) (v := ?_) rfl (by kernel_rfl) (by kernel_rfl) (by kernel_rfl) (by kernel_rfl) (fun _ _ _ h => h) (Or.inl ⟨by rfl, ?_⟩) hS5 ?_
              rotate_left
              · intro wl hSw
                obtain ⟨s0, s1, s2, s3⟩ := hSw
                go_simp
                with_reducible rfl
              simp only [Act.put, List.setIfInBounds_toArray, List.set_cons_zero, List.set_cons_succ]
              refine wpAnyJ_done (by kernel_rfl) ?_ _
              go_wp2_with fail
              go_roundw
              case rel => exact ⟨2, by omega, by go_num, hA0, Lib.hid (fun _ => ⟨HT.out, HR0.out⟩), HBT.out.trans ((Up.bel hU5).mono HBT.out.size)⟩
              case measure => simp [intOf]
            · have hne2 : (R' != R) = true := by simp [h0]
              have HQ := Lib.hid (show (sq1 R C xs && (sq1 R' C' ys && decide (R' = R))) = false by simp [h0])
              clear hf hc hs h0
              go_wp2_with fail
              have hSd : W.drew.cell? ⟨wr.heap.size, 0, none⟩ = some (.int .i64 R') ∧ W.drew.cell? ⟨wr.heap.size, 1, none⟩ = some (.int .i64 C') ∧ W.drew.cell? ⟨wr.heap.size, 2, none⟩ = some (.slice a' ys.length cap') ∧ W.drew.cell? ⟨g, 0, none⟩ = some (.int .i64 R) := ⟨y0, y1, y2, y3⟩
              refine wp_regionJ (S := fun w' => w'.cell? ⟨wr.heap.size, 0, none⟩ = some (.int .i64 R') ∧ w'.cell? ⟨wr.heap.size, 1, none⟩ = some (.int .i64 C') ∧ w'.cell? ⟨wr.heap.size, 2, none⟩ = some (.slice a' ys.length cap') ∧ w'.cell? ⟨g, 0, none⟩ = some (.int .i64 R)) (A := fun _ => true) (by kernel_rfl) ?_
              refine wpAnyJ_take (i := 0) (oi := { dst := some 11, op := .load _ (.tmp 4), type := _, pos := _, after := _, guard := _ }) (v := ?_) rfl (by kernel_rfl) (by kernel_rfl) (by kernel_rfl) (by kernel_rfl) (fun _ _ _ h => h) (Or.inl ⟨by rfl, ?_⟩) hSd ?_
              rotate_left
              · intro wl hSw
                obtain ⟨s0, s1, s2, s3⟩ := hSw
                go_simp
                with_reducible rfl
              simp only [Act.put, List.setIfInBounds_toArray, List.set_cons_zero, List.set_cons_succ]
              refine wpAnyJ_only (i := 1) (o := { dst := some 12, op := _, type := _, pos := _, after := _, guard := _ }) (by kernel_rfl) rfl (fun K hK => ?_)
              go_simp
              refine (Few03_any _ 6 R' C' _ ys HVd.out HS'.out).mono ?_
              rintro e w4 ⟨u4, rfl, rfl, hb4⟩
              rw [HF.out]
              have hU4 := HU0.out.drew.call hb4
              have HV4 := Lib.hid (HVd.out.below hb4 (Nat.le_refl _))
              have hS4 := HH4.out w4 hU4
              refine hK.out _ _ (fun _ => hS4) ?_
              try simp only [Act.put, List.setIfInBounds_toArray, List.set_cons_zero, List.set_cons_succ]
              clear hK K
              refine wpAnyJ_take (i := 2) (oi := { dst := some 13, op := _, type := _, pos := _, after := _, guard := _ }) (v := ?_) rfl (by kernel_rfl) (by kernel_rfl) (by kernel_rfl) (by kernel_rfl) (fun _ _ _ h => h) (Or.inl ⟨by rfl, ?_⟩) hS4 ?_
              rotate_left
              · intro wl hSw
                obtain ⟨s0, s1, s2, s3⟩ := hSw
                go_simp
                with_reducible rfl
              simp only [Act.put, List.setIfInBounds_toArray, List.set_cons_zero, List.set_cons_succ]
              refine wpAnyJ_take (i := 3) (oi := { dst := some 14, op := .move (.tmp 13), type := _, pos := _, after := _, guard := _ }) (v := ?_) rfl (by kernel_rfl) (by kernel_rfl) (by kernel_rfl) (by kernel_rfl) (fun _ _ _ h => h) (Or.inl ⟨by rfl, ?_⟩) hS4 ?_
              rotate_left
              · intro wl hSw
                obtain ⟨s0, s1, s2, s3⟩ := hSw
                go_simp
                with_reducible rfl
              simp only [Act.put, List.setIfInBounds_toArray, List.set_cons_zero, List.set_cons_succ]
              refine wpAnyJ_take (i := 4) (oi := { dst := some 15, op := .load _ (.tmp 4), type := _, pos := _, after := _, guard := _ }) (v := ?_) rfl (by kernel_rfl) (by kernel_rfl) (by kernel_rfl) (by kernel_rfl) (fun _ _ _ h => h) (Or.inl ⟨by rfl, ?_⟩) hS4 ?_
              rotate_left
              · intro wl hSw
                obtain ⟨s0, s1, s2, s3⟩ := hSw
                go_simp
                with_reducible rfl
              simp only [Act.put, List.setIfInBounds_toArray, List.set_cons_zero, List.set_cons_succ]
              refine wpAnyJ_only (i := 5) (o := { dst := some 16, op := _, type := _, pos := _, after := _, guard := _ }) (by kernel_rfl) rfl (fun K hK => ?_)
              go_simp
              refine (rMCheck_any _ R' C' _ ys HV4.out (fun _ => H9.out.big (by omega))).mono ?_
              rintro e w5 ⟨u5, rfl, rfl, hb5⟩
              rw [HC.out]
              have hU5 := hU4.call hb5
              have hS5 := HH4.out w5 hU5
              refine hK.out _ _ (fun _ => hS5) ?_
              try simp only [Act.put, List.setIfInBounds_toArray, List.set_cons_zero, List.set_cons_succ]
              clear hK K
              refine wpAnyJ_take (i := 6) (oi := { dst := some 17, op := .binOp _ _ (.tmp 16) _ _, type := _, pos := _, after := _, guard := _ }) (v := ?_) rfl (by kernel_rfl) (by kernel_rfl) (by kernel_rfl) (by kernel_rfl) (fun _ _ _ h => h) (Or.inl ⟨by rfl, ?_⟩) hS5 ?_
              rotate_left
              · intro wl hSw
                obtain ⟨s0, s1, s2, s3⟩ := hSw
                go_simp
                with_reducible rfl
              simp only [Act.put, List.setIfInBounds_toArray, List.set_cons_zero, List.set_cons_succ]
              refine wpAnyJ_take (i := 7) (oi := { dst := some 18, op := _, type := _, pos := _, after := _, guard := _ }) (v := ?_) rfl (by kernel_rfl) (by kernel_rfl) (by kernel_rfl) (by kernel_rfl) (fun _ _ _ h => h) (Or.inl ⟨by rfl, ?_⟩) hS5 ?_
              rotate_left
              · intro wl hSw
                obtain ⟨s0, s1, s2, s3⟩ := hSw
                go_simp
                with_reducible rfl
              simp only [Act.put, List.setIfInBounds_toArray, List.set_cons_zero, List.set_cons_succ]
              refine wpAnyJ_take (i := 8) (oi := { dst := some 19, op := .move (.tmp 18), type := _, pos := _, after := _, guard := _ }) (v := ?_) rfl (by kernel_rfl) (by kernel_rfl) (by kernel_rfl) (by kernel_rfl) (fun _ _ _ h => h) (Or.inl ⟨by rfl, ?_⟩) hS5 ?_
              rotate_left
              · intro wl hSw
                obtain ⟨s0, s1, s2, s3⟩ := hSw
                go_simp
                with_reducible rfl
              simp only [Act.put, List.setIfInBounds_toArray, List.set_cons_zero, List.set_cons_succ]
              refine wpAnyJ_take (i := 9) (oi := { dst := some 20, op := .fieldAddr _ (.tmp 4) 0, type := _, pos := _, after := _, guard := _ }) (v := ?_) rfl (by kernel_rfl) (by kernel_rfl) (by kernel_rfl) (by kernel_rfl) (fun _ _ _ h => h) (Or.inl ⟨by rfl, ?_⟩) hS5 ?_
              rotate_left
              · intro wl hSw
                obtain ⟨s0, s1, s2, s3⟩ := hSw
                go_simp
                with_reducible rfl
              simp only [Act.put, List.setIfInBounds_toArray, List.set_cons_zero, List.set_cons_succ]
              refine wpAnyJ_take (i := 10) (oi := { dst := some 21, op := .load _ (.tmp 20), type := _, pos := _, after := _, guard := _ }) (v := ?_) rfl (by kernel_rfl) (by kernel_rfl) (by kernel_rfl) (by kernel_rfl) (fun _ _ _ h => h) (Or.inl ⟨by rfl, ?_⟩) hS5 ?_
              rotate_left
              · intro wl hSw
                obtain ⟨s0, s1, s2, s3⟩ := hSw
                go_simp
                with_reducible rfl
              simp only [Act.put, List.setIfInBounds_toArray, List.set_cons_zero, List.set_cons_succ]
              refine wpAnyJ_take (i := 11) (oi := { dst := some 22, op := .fieldAddr _ (.tmp 4) 1, type := _, pos := _, after := _, guard := _ }) (v := ?_) rfl (by kernel_rfl) (by kernel_rfl) (by kernel_rfl) (by kernel_rfl) (fun _ _ _ h => h) (Or.inl ⟨by rfl, ?_⟩) hS5 ?_
              rotate_left
              · intro wl hSw
                obtain ⟨s0, s1, s2, s3⟩ := hSw
                go_simp
                with_reducible rfl
              simp only [Act.put, List.setIfInBounds_toArray, List.set_cons_zero, List.set_cons_succ]
              refine wpAnyJ_take (i := 12) (oi := { dst := some 23, op := .load _ (.tmp 22), type := _, pos := _, after := _, guard := _ }) (v := ?_) rfl (by kernel_rfl) (by kernel_rfl) (by kernel_rfl) (by kernel_rfl) (fun _ _ _ h => h) (Or.inl ⟨by rfl, ?_⟩) hS5 ?_
              rotate_left
              · intro wl hSw
                obtain ⟨s0, s1, s2, s3⟩ := hSw
                go_simp
                with_reducible rfl
              simp only [Act.put, List.setIfInBounds_toArray, List.set_cons_zero, List.set_cons_succ]
              refine wpAnyJ_take (i := 13) (oi := { dst := some 24, op := .binOp _ _ (.tmp 21) (.tmp 23) _, type := _, pos := _, after := _, guard := _ }) (v := ?_) rfl (by kernel_rfl) (by kernel_rfl) (by kernel_rfl) (by kernel_rfl) (fun _ _ _ h => h) (Or.inl ⟨by rfl, ?_⟩) hS5 ?_
              rotate_left
              · intro wl hSw
                obtain ⟨s0, s1, s2, s3⟩ := hSw
                go_simp
                with_reducible rfl
              simp only [Act.put, List.setIfInBounds_toArray, List.set_cons_zero, List.set_cons_succ]
              refine wpAnyJ_take (i := 14) (oi := { dst := some 25, op := _, type := _, pos := _, after := _, guard := _ }) (v := ?_) rfl (by kernel_rfl) (by kernel_rfl) (by kernel_rfl) (by kernel_rfl) (fun _ _ _ h => h) (Or.inl ⟨by rfl, ?_⟩) hS5 ?_
              rotate_left
              · intro wl hSw
                obtain ⟨s0, s1, s2, s3⟩ := hSw
                go_simp
                with_reducible rfl
              simp only [Act.put, List.setIfInBounds_toArray, List.set_cons_zero, List.set_cons_succ]
              refine wpAnyJ_take (i := 15) (oi := { dst := some 26, op := .move (.tmp 25), type := _, pos := _, after := _, guard := _ }) (v := ?_) rfl (by kernel_rfl) (by kernel_rfl) (by kernel_rfl) (by kernel_rfl) (fun _ _ _ h => h) (Or.inl ⟨by rfl, ?_⟩) hS5 ?_
              rotate_left
              · intro wl hSw
                obtain ⟨s0, s1, s2, s3⟩ := hSw
                go_simp
                with_reducible rfl
              simp only [Act.put, List.setIfInBounds_toArray, List.set_cons_zero, List.set_cons_succ]
              refine wpAnyJ_take (i := 16) (oi := { dst := some 27, op := .fieldAddr _ (.tmp 4) 0, type := _, pos := _, after := _, guard := _ }) (v := ?_) rfl (by kernel_rfl) (by kernel_rfl) (by kernel_rfl) (by kernel_rfl) (fun _ _ _ h => h) (Or.inl ⟨by rfl, ?_⟩) hS5 ?_
              rotate_left
              · intro wl hSw
                obtain ⟨s0, s1, s2, s3⟩ := hSw
                go_simp
                with_reducible rfl
              simp only [Act.put, List.setIfInBounds_toArray, List.set_cons_zero, List.set_cons_succ]
              refine wpAnyJ_take (i := 17) (oi := { dst := some 28, op := .load _ (.tmp 27), type := _, pos := _, after := _, guard := _ }) (v := ?_) rfl (by kernel_rfl) (by kernel_rfl) (by kernel_rfl) (by kernel_rfl) (fun _ _ _ h => h) (Or.inl ⟨by rfl, ?_⟩) hS5 ?_
              rotate_left
              · intro wl hSw
                obtain ⟨s0, s1, s2, s3⟩ := hSw
                go_simp
                with_reducible rfl
              simp only [Act.put, List.setIfInBounds_toArray, List.set_cons_zero, List.set_cons_succ]
              refine wpAnyJ_take (i := 18) (oi := { dst := some 29, op := .move (.tmp 0), type := _, pos := _, after := _, guard := _ }) (v := ?_) rfl (by kernel_rfl) (by kernel_rfl) (by kernel_rfl) (by kernel_rfl) (fun _ _ _ h => h) (Or.inl ⟨by rfl, ?_⟩) hS5 ?_
              rotate_left
              · intro wl hSw
                obtain ⟨s0, s1, s2, s3⟩ := hSw
                go_simp
                with_reducible rfl
              simp only [Act.put, List.setIfInBounds_toArray, List.set_cons_zero, List.set_cons_succ]
              refine wpAnyJ_take (i := 19) (oi := { dst := some 30, op := .indexAddr _ (.tmp 29) _, type := _, pos := _, after := _, guard := _ }) (v := ?_) rfl (by kernel_rfl) (by kernel_rfl) (by kernel_rfl) (by kernel_rfl) (fun _ _ _ h => h) (Or.inl ⟨by rfl, ?_⟩) hS5 ?_
              rotate_left
              · intro wl hSw
                obtain ⟨s0, s1, s2, s3⟩ := hSw
                go_simp
                with_reducible rfl
              simp only [Act.put, List.setIfInBounds_toArray, List.set_cons_zero, List.set_cons_succ]
              refine wpAnyJ_take (i := 20) (oi := { dst := some 31, op := .fieldAddr _ (.tmp 30) 0, type := _, pos := _, after := _, guard := _ }) (v := ?_) rfl (by kernel_rfl) (by kernel_rfl) (by kernel_rfl) (by kernel_rfl) (fun _ _ _ h => h) (Or.inl ⟨by rfl, ?_⟩) hS5 ?_
              rotate_left
              · intro wl hSw
                obtain ⟨s0, s1, s2, s3⟩ := hSw
                go_simp
                with_reducible rfl
              simp only [Act.put, List.setIfInBounds_toArray, List.set_cons_zero, List.set_cons_succ]
              refine wpAnyJ_take (i := 21) (oi := { dst := some 32, op := .load _ (.tmp 31), type := _, pos := _, after := _, guard := _ }) (v := ?_) rfl (by kernel_rfl) (by kernel_rfl) (by kernel_rfl) (by kernel_rfl) (fun _ _ _ h => h) (Or.inl ⟨by rfl, ?_⟩) hS5 ?_
              rotate_left
              · intro wl hSw
                obtain ⟨s0, s1, s2, s3⟩ := hSw
                go_simp
                with_reducible rfl
              simp only [Act.put, List.setIfInBounds_toArray, List.set_cons_zero, List.set_cons_succ]
              refine wpAnyJ_take (i := 22) (oi := { dst := some 33, op := .binOp _ _ (.tmp 28) (.tmp 32) _, type := _, pos := _, after := _, guard := _ }) (v := ?_) rfl (by kernel_rfl) (by kernel_rfl) (by kernel_rfl) (by kernel_rfl) (fun _ _ _ h => h) (Or.inl ⟨by rfl, ?_⟩) hS5 ?_
              rotate_left
              · intro wl hSw
                obtain ⟨s0, s1, s2, s3⟩ := hSw
                go_simp
                with_reducible rfl
              simp only [Act.put, List.setIfInBounds_toArray, List.set_cons_zero, List.set_cons_succ]
              refine wpAnyJ_take (i := 23) (oi := { dst := some 34, op := _, type := _, pos := _, after := _, guard := _ }) (v := ?_) rfl (by kernel_rfl) (by kernel_rfl) (by kernel_rfl) (by kernel_rfl) (fun _ _ _ h => h) (Or.inl ⟨by rfl, ?_⟩) hS5 ?_
              rotate_left
              · intro wl hSw
                obtain ⟨s0, s1, s2, s3⟩ := hSw
                go_simp
                with_reducible rfl
              simp only [Act.put, List.setIfInBounds_toArray, List.set_cons_zero, List.set_cons_succ]
              refine wpAnyJ_done (by kernel_rfl) ?_ _
              go_wp2_with fail
              go_ret
              exact ⟨_, rfl, by rw [← HQQ.out, HQ.out]; rfl, HBT.out.trans ((Up.bel hU5).mono HBT.out.size)⟩
          · have hne1 : (R' != C') = true := by simp [hs]
            have HQ := Lib.hid (show (sq1 R C xs && (sq1 R' C' ys && decide (R' = R))) = false by rw [show sq1 R' C' ys = false by unfold sq1; simp [hs]]; simp)
            clear hf hc hs
            go_wp2_with fail
            have hSd : W.drew.cell? ⟨wr.heap.size, 0, none⟩ = some (.int .i64 R') ∧ W.drew.cell? ⟨wr.heap.size, 1, none⟩ = some (.int .i64 C') ∧ W.drew.cell? ⟨wr.heap.size, 2, none⟩ = some (.slice a' ys.length cap') ∧ W.drew.cell? ⟨g, 0, none⟩ = some (.int .i64 R) := ⟨y0, y1, y2, y3⟩
            refine wp_regionJ (S := fun w' => w'.cell? ⟨wr.heap.size, 0, none⟩ = some (.int .i64 R') ∧ w'.cell? ⟨wr.heap.size, 1, none⟩ = some (.int .i64 C') ∧ w'.cell? ⟨wr.heap.size, 2, none⟩ = some (.slice a' ys.length cap') ∧ w'.cell? ⟨g, 0, none⟩ = some (.int .i64 R)) (A := fun _ => true) (by kernel_rfl) ?_
            refine wpAnyJ_take (i := 0) (oi := { dst := some 11, op := .load _ (.tmp 4), type := _, pos := _, after := _, guard := _ }) (v := ?_) rfl (by kernel_rfl) (by kernel_rfl) (by kernel_rfl) (by kernel_rfl) (fun _ _ _ h => h) (Or.inl ⟨by rfl, ?_⟩) hSd ?_
            rotate_left
            · intro wl hSw
              obtain ⟨s0, s1, s2, s3⟩ := hSw
              go_simp
              with_reducible rfl
            simp only [Act.put, List.setIfInBounds_toArray, List.set_cons_zero, List.set_cons_succ]
            refine wpAnyJ_only (i := 1) (o := { dst := some 12, op := _, type := _, pos := _, after := _, guard := _ }) (by kernel_rfl) rfl (fun K hK => ?_)
            go_simp
            refine (Few03_any _ 6 R' C' _ ys HVd.out HS'.out).mono ?_
            rintro e w4 ⟨u4, rfl, rfl, hb4⟩
            rw [HF.out]
            have hU4 := HU0.out.drew.call hb4
            have HV4 := Lib.hid (HVd.out.below hb4 (Nat.le_refl _))
            have hS4 := HH4.out w4 hU4
            refine hK.out _ _ (fun _ => hS4) ?_
            try simp only [Act.put, List.setIfInBounds_toArray, List.set_cons_zero, List.set_cons_succ]
            clear hK K
            refine wpAnyJ_take (i := 2) (oi := { dst := some 13, op := _, type := _, pos := _, after := _, guard := _ }) (v := ?_) rfl (by kernel_rfl) (by kernel_rfl) (by kernel_rfl) (by kernel_rfl) (fun _ _ _ h => h) (Or.inl ⟨by rfl, ?_⟩) hS4 ?_
            rotate_left
            · intro wl hSw
              obtain ⟨s0, s1, s2, s3⟩ := hSw
              go_simp
              with_reducible rfl
            simp only [Act.put, List.setIfInBounds_toArray, List.set_cons_zero, List.set_cons_succ]
            refine wpAnyJ_take (i := 3) (oi := { dst := some 14, op := .move (.tmp 13), type := _, pos := _, after := _, guard := _ }) (v := ?_) rfl (by kernel_rfl) (by kernel_rfl) (by kernel_rfl) (by kernel_rfl) (fun _ _ _ h => h) (Or.inl ⟨by rfl, ?_⟩) hS4 ?_
            rotate_left
            · intro wl hSw
              obtain ⟨s0, s1, s2, s3⟩ := hSw
              go_simp
              with_reducible rfl
            simp only [Act.put, List.setIfInBounds_toArray, List.set_cons_zero, List.set_cons_succ]
            refine wpAnyJ_take (i := 4) (oi := { dst := some 15, op := .load _ (.tmp 4), type := _, pos := _, after := _, guard := _ }) (v := ?_) rfl (by kernel_rfl) (by kernel_rfl) (by kernel_rfl) (by kernel_rfl) (fun _ _ _ h => h) (Or.inl ⟨by rfl, ?_⟩) hS4 ?_
            rotate_left
            · intro wl hSw
              obtain ⟨s0, s1, s2, s3⟩ := hSw
              go_simp
              with_reducible rfl
            simp only [Act.put, List.setIfInBounds_toArray, List.set_cons_zero, List.set_cons_succ]
            refine wpAnyJ_only (i := 5) (o := { dst := some 16, op := _, type := _, pos := _, after := _, guard := _ }) (by kernel_rfl) rfl (fun K hK => ?_)
            go_simp
            refine (rMCheck_any _ R' C' _ ys HV4.out (fun _ => H9.out.big (by omega))).mono ?_
            rintro e w5 ⟨u5, rfl, rfl, hb5⟩
            rw [HC.out]
            have hU5 := hU4.call hb5
            have hS5 := HH4.out w5 hU5
            refine hK.out _ _ (fun _ => hS5) ?_
            try simp only [Act.put, List.setIfInBounds_toArray, List.set_cons_zero, List.set_cons_succ]
            clear hK K
            refine wpAnyJ_take (i := 6) (oi := { dst := some 17, op := .binOp _ _ (.tmp 16) _ _, type := _, pos := _, after := _, guard := _ }) (v := ?_) rfl (by kernel_rfl) (by kernel_rfl) (by kernel_rfl) (by kernel_rfl) (fun _ _ _ h => h) (Or.inl ⟨by rfl, ?_⟩) hS5 ?_
            rotate_left
            · intro wl hSw
              obtain ⟨s0, s1, s2, s3⟩ := hSw
              go_simp
              with_reducible rfl
            simp only [Act.put, List.setIfInBounds_toArray, List.set_cons_zero, List.set_cons_succ]
            refine wpAnyJ_take (i := 7) (oi := { dst := some 18, op := _, type := _, pos := _, after := _, guard := _ }) (v := ?_) rfl (by kernel_rfl) (by kernel_rfl) (by kernel_rfl) (by kernel_rfl) (fun _ _ _ h => h) (Or.inl ⟨by rfl, ?_⟩) hS5 ?_
            rotate_left
            · intro wl hSw
              obtain ⟨s0, s1, s2, s3⟩ := hSw
              go_simp
              with_reducible rfl
            simp only [Act.put, List.setIfInBounds_toArray, List.set_cons_zero, List.set_cons_succ]
            refine wpAnyJ_take (i := 8) (oi := { dst := some 19, op := .move (.tmp 18), type := _, pos := _, after := _, guard := _ }) (v := ?_) rfl (by kernel_rfl) (by kernel_rfl) (by kernel_rfl) (by kernel_rfl) (fun _ _ _ h => h) (Or.inl ⟨by rfl, ?_⟩) hS5 ?_
            rotate_left
            · intro wl hSw
              obtain ⟨s0, s1, s2, s3⟩ := hSw
              go_simp
              with_reducible rfl
            simp only [Act.put, List.setIfInBounds_toArray, List.set_cons_zero, List.set_cons_succ]
            refine wpAnyJ_take (i := 9) (oi := { dst := some 20, op := .fieldAddr _ (.tmp 4) 0, type := _, pos := _, after := _, guard := _ }) (v := ?_) rfl (by kernel_rfl) (by kernel_rfl) (by kernel_rfl) (by kernel_rfl) (fun _ _ _ h => h) (Or.inl ⟨by rfl, ?_⟩) hS5 ?_
            rotate_left
            · intro wl hSw
              obtain ⟨s0, s1, s2, s3⟩ := hSw
              go_simp
              with_reducible rfl
            simp only [Act.put, List.setIfInBounds_toArray, List.set_cons_zero, List.set_cons_succ]
            refine wpAnyJ_take (i := 10) (oi := { dst := some 21, op := .load _ (.tmp 20), type := _, pos := _, after := _, guard := _ }) (v := ?_) rfl (by kernel_rfl) (by kernel_rfl) (by kernel_rfl) (by kernel_rfl) (fun _ _ _ h => h) (Or.inl ⟨by rfl, ?_⟩) hS5 ?_
            rotate_left
            · intro wl hSw
              obtain ⟨s0, s1, s2, s3⟩ := hSw
              go_simp
              with_reducible rfl
            simp only [Act.put, List.setIfInBounds_toArray, List.set_cons_zero, List.set_cons_succ]
            refine wpAnyJ_take (i := 11) (oi := { dst := some 22, op := .fieldAddr _ (.tmp 4) 1, type := _, pos := _, after := _, guard := _ }) (v := ?_) rfl (by kernel_rfl) (by kernel_rfl) (by kernel_rfl) (by kernel_rfl) (fun _ _ _ h => h) (Or.inl ⟨by rfl, ?_⟩) hS5 ?_
            rotate_left
            · intro wl hSw
              obtain ⟨s0, s1, s2, s3⟩ := hSw
              go_simp
              with_reducible rfl
            simp only [Act.put, List.setIfInBounds_toArray, List.set_cons_zero, List.set_cons_succ]
            refine wpAnyJ_take (i := 12) (oi := { dst := some 23, op := .load _ (.tmp 22), type := _, pos := _, after := _, guard := _ }) (v := ?_) rfl (by kernel_rfl) (by kernel_rfl) (by kernel_rfl) (by kernel_rfl) (fun _ _ _ h => h) (Or.inl ⟨by rfl, ?_⟩) hS5 ?_
            rotate_left
            · intro wl hSw
              obtain ⟨s0, s1, s2, s3⟩ := hSw
              go_simp
              with_reducible rfl
            simp only [Act.put, List.setIfInBounds_toArray, List.set_cons_zero, List.set_cons_succ]
            refine wpAnyJ_take (i := 13) (oi := { dst := some 24, op := .binOp _ _ (.tmp 21) (.tmp 23) _, type := _, pos := _, after := _, guard := _ }) (v := ?_) rfl (by kernel_rfl) (by kernel_rfl) (by kernel_rfl) (by kernel_rfl) (fun _ _ _ h => h) (Or.inl ⟨by rfl, ?_⟩) hS5 ?_
            rotate_left
            · intro wl hSw
              obtain ⟨s0, s1, s2, s3⟩ := hSw
              go_simp
              with_reducible rfl
            simp only [Act.put, List.setIfInBounds_toArray, List.set_cons_zero, List.set_cons_succ]
            refine wpAnyJ_take (i := 14) (oi := { dst := some 25, op := _, type := _, pos := _, after := _, guard := _ }) (v := ?_) rfl (by kernel_rfl) (by kernel_rfl) (by kernel_rfl) (by kernel_rfl) (fun _ _ _ h => h) (Or.inl ⟨by rfl, ?_⟩) hS5 ?_
            rotate_left
            · intro wl hSw
              obtain ⟨s0, s1, s2, s3⟩ := hSw
              go_simp
              with_reducible rfl
            simp only [Act.put, List.setIfInBounds_toArray, List.set_cons_zero, List.set_cons_succ]
            refine wpAnyJ_take (i := 15) (oi := { dst := some 26, op := .move (.tmp 25), type := _, pos := _, after := _, guard := _ }) (v := ?_) rfl (by kernel_rfl) (by kernel_rfl) (by kernel_rfl) (by kernel_rfl) (fun _ _ _ h => h) (Or.inl ⟨by rfl, ?_⟩) hS5 ?_
            rotate_left
            · intro wl hSw
              obtain ⟨s0, s1, s2, s3⟩ := hSw
              go_simp
              with_reducible rfl
            simp only [Act.put, List.setIfInBounds_toArray, List.set_cons_zero, List.set_cons_succ]
            refine wpAnyJ_take (i := 16) (oi := { dst := some 27, op := .fieldAddr _ (.tmp 4) 0, type := _, pos := _, after := _, guard := _ }) (v := undef) rfl (by kernel_rfl) (by kernel_rfl) (by kernel_rfl) (by kernel_rfl) (fun _ _ _ h => h) (Or.inr ⟨by rfl, rfl⟩) hS5 ?_
            simp only [Act.put, List.setIfInBounds_toArray, List.set_cons_zero, List.set_cons_succ]
            refine wpAnyJ_take (i := 17) (oi := { dst := some 28, op := .load _ (.tmp 27), type := _, pos := _, after := _, guard := _ }) (v := undef) rfl (by kernel_rfl) (by kernel_rfl) (by kernel_rfl) (by kernel_rfl) (fun _ _ _ h => h) (Or.inr ⟨by rfl, rfl⟩) hS5 ?_
            simp only [Act.put, List.setIfInBounds_toArray, List.set_cons_zero, List.set_cons_succ]
            refine wpAnyJ_take (i := 18) (oi := { dst := some 29, op := .move (.tmp 0), type := _, pos := _, after := _, guard := _ }) (v := undef) rfl (by kernel_rfl) (by kernel_rfl) (by kernel_rfl) (by kernel_rfl) (fun _ _ _ h => h) (Or.inr ⟨by rfl, rfl⟩) hS5 ?_
            simp only [Act.put, List.setIfInBounds_toArray, List.set_cons_zero, List.set_cons_succ]
            refine wpAnyJ_take (i := 19) (oi := { dst := some 30, op := .indexAddr _ (.tmp 29) _, type := _, pos := _, after := _, guard := _ }) (v := undef) rfl (by kernel_rfl) (by kernel_rfl) (by kernel_rfl) (by kernel_rfl) (fun _ _ _ h => h) (Or.inr ⟨by rfl, rfl⟩) hS5 ?_
            simp only [Act.put, List.setIfInBounds_toArray, List.set_cons_zero, List.set_cons_succ]
            refine wpAnyJ_take (i := 20) (oi := { dst := some 31, op := .fieldAddr _ (.tmp 30) 0, type := _, pos := _, after := _, guard := _ }) (v := undef) rfl (by kernel_rfl) (by kernel_rfl) (by kernel_rfl) (by kernel_rfl) (fun _ _ _ h => h) (Or.inr ⟨by rfl, rfl⟩) hS5 ?_
            simp only [Act.put, List.setIfInBounds_toArray, List.set_cons_zero, List.set_cons_succ]
            refine wpAnyJ_take (i := 21) (oi := { dst := some 32, op := .load _ (.tmp 31), type := _, pos := _, after := _, guard := _ }) (v := undef) rfl (by kernel_rfl) (by kernel_rfl) (by kernel_rfl) (by kernel_rfl) (fun _ _ _ h => h) (Or.inr ⟨by rfl, rfl⟩) hS5 ?_
            simp only [Act.put, List.setIfInBounds_toArray, List.set_cons_zero, List.set_cons_succ]
            refine wpAnyJ_take (i := 22) (oi := { dst := some 33, op := .binOp _ _ (.tmp 28) (.tmp 32) _, type := _, pos := _, after := _, guard := _ }) (v := undef) rfl (by kernel_rfl) (by kernel_rfl) (by kernel_rfl) (by kernel_rfl) (fun _ _ _ h => h) (Or.inr ⟨by rfl, rfl⟩) hS5 ?_
            simp only [Act.put, List.setIfInBounds_toArray, List.set_cons_zero, List.set_cons_succ]
            refine wpAnyJ_take (i := 23) (oi := { dst := some 34, op := _, type := _, pos := _, after := _, guard := _ }) (v := ?_) rfl (by kernel_rfl) (by kernel_rfl) (by kernel_rfl) (by kernel_rfl) (fun _ _ _ h => h) (Or.inl ⟨by rfl, ?_⟩) hS5 ?_
            rotate_left
            · intro wl hSw
              obtain ⟨s0, s1, s2, s3⟩ := hSw
              go_simp
              with_reducible rfl
            simp only [Act.put, List.setIfInBounds_toArray, List.set_cons_zero, List.set_cons_succ]
            refine wpAnyJ_done (by kernel_rfl) ?_ _
            go_wp2_with fail
            go_ret
            exact ⟨_, rfl, by rw [← HQQ.out, HQ.out]; rfl, HBT.out.trans ((Up.bel hU5).mono HBT.out.size)⟩
        · have hne0 : (mchkM R' C' ys != 0) = true := by simp [hc]
          have HQ := Lib.hid (show (sq1 R C xs && (sq1 R' C' ys && decide (R' = R))) = false by rw [show sq1 R' C' ys = false by unfold sq1; simp [hc]]; simp)
          clear hf hc
          go_wp2_with fail
          have hSd : W.drew.cell? ⟨wr.heap.size, 0, none⟩ = some (.int .i64 R') ∧ W.drew.cell? ⟨wr.heap.size, 1, none⟩ = some (.int .i64 C') ∧ W.drew.cell? ⟨wr.heap.size, 2, none⟩ = some (.slice a' ys.length cap') ∧ W.drew.cell? ⟨g, 0, none⟩ = some (.int .i64 R) := ⟨y0, y1, y2, y3⟩
          refine wp_regionJ (S := fun w' => w'.cell? ⟨wr.heap.size, 0, none⟩ = some (.int .i64 R') ∧ w'.cell? ⟨wr.heap.size, 1, none⟩ = some (.int .i64 C') ∧ w'.cell? ⟨wr.heap.size, 2, none⟩ = some (.slice a' ys.length cap') ∧ w'.cell? ⟨g, 0, none⟩ = some (.int .i64 R)) (A := fun _ => true) (by kernel_rfl) ?_
          refine wpAnyJ_take (i := 0) (oi := { dst := some 11, op := .load _ (.tmp 4), type := _, pos := _, after := _, guard := _ }) (v := ?_) rfl (by kernel_rfl) (by kernel_rfl) (by kernel_rfl) (by kernel_rfl) (fun _ _ _ h => h) (Or.inl ⟨by rfl, ?_⟩) hSd ?_
          rotate_left
          · intro wl hSw
            obtain ⟨s0, s1, s2, s3⟩ := hSw
            go_simp
            with_reducible rfl
          simp only [Act.put, List.setIfInBounds_toArray, List.set_cons_zero, List.set_cons_succ]
          refine wpAnyJ_only (i := 1) (o := { dst := some 12, op := _, type := _, pos := _, after := _, guard := _ }) (by kernel_rfl) rfl (fun K hK => ?_)
          go_simp
          refine (Few03_any _ 6 R' C' _ ys HVd.out HS'.out).mono ?_
          rintro e w4 ⟨u4, rfl, rfl, hb4⟩
          rw [HF.out]
          have hU4 := HU0.out.drew.call hb4
          have HV4 := Lib.hid (HVd.out.below hb4 (Nat.le_refl _))
          have hS4 := HH4.out w4 hU4
          refine hK.out _ _ (fun _ => hS4) ?_
          try simp only [Act.put, List.setIfInBounds_toArray, List.set_cons_zero, List.set_cons_succ]
          clear hK K
          refine wpAnyJ_take (i := 2) (oi := { dst := some 13, op := _, type := _, pos := _, after := _, guard := _ }) (v := ?_) rfl (by kernel_rfl) (by kernel_rfl) (by kernel_rfl) (by kernel_rfl) (fun _ _ _ h => h) (Or.inl ⟨by rfl, ?_⟩) hS4 ?_
          rotate_left
          · intro wl hSw
            obtain ⟨s0, s1, s2, s3⟩ := hSw
            go_simp
            with_reducible rfl
          simp only [Act.put, List.setIfInBounds_toArray, List.set_cons_zero, List.set_cons_succ]
          refine wpAnyJ_take (i := 3) (oi := { dst := some 14, op := .move (.tmp 13), type := _, pos := _, after := _, guard := _ }) (v := ?_) rfl (by kernel_rfl) (by kernel_rfl) (by kernel_rfl) (by kernel_rfl) (fun _ _ _ h => h) (Or.inl ⟨by rfl, ?_⟩) hS4 ?_
          rotate_left
          · intro wl hSw
            obtain ⟨s0, s1, s2, s3⟩ := hSw
            go_simp
            with_reducible rfl
          simp only [Act.put, List.setIfInBounds_toArray, List.set_cons_zero, List.set_cons_succ]
          refine wpAnyJ_take (i := 4) (oi := { dst := some 15, op := .load _ (.tmp 4), type := _, pos := _, after := _, guard := _ }) (v := ?_) rfl (by kernel_rfl) (by kernel_rfl) (by kernel_rfl) (by kernel_rfl) (fun _ _ _ h => h) (Or.inl ⟨by rfl, ?_⟩) hS4 ?_
          rotate_left
          · intro wl hSw
            obtain ⟨s0, s1, s2, s3⟩ := hSw
            go_simp
            with_reducible rfl
          simp only [Act.put, List.setIfInBounds_toArray, List.set_cons_zero, List.set_cons_succ]
          refine wpAnyJ_only (i := 5) (o := { dst := some 16, op := _, type := _, pos := _, after := _, guard := _ }) (by kernel_rfl) rfl (fun K hK => ?_)
          go_simp
          refine (rMCheck_any _ R' C' _ ys HV4.out (fun _ => H9.out.big (by omega))).mono ?_
          rintro e w5 ⟨u5, rfl, rfl, hb5⟩
          have hU5 := hU4.call hb5
          have hS5 := HH4.out w5 hU5
          refine hK.out _ _ (fun _ => hS5) ?_
          try simp only [Act.put, List.setIfInBounds_toArray, List.set_cons_zero, List.set_cons_succ]
          clear hK K
          refine wpAnyJ_take (i := 6) (oi := { dst := some 17, op := .binOp _ _ (.tmp 16) _ _, type := _, pos := _, after := _, guard := _ }) (v := ?_) rfl (by kernel_rfl) (by kernel_rfl) (by kernel_rfl) (by kernel_rfl) (fun _ _ _ h => h) (Or.inl ⟨by rfl, ?_⟩) hS5 ?_
          rotate_left
          · intro wl hSw
            obtain ⟨s0, s1, s2, s3⟩ := hSw
            go_simp
            with_reducible rfl
          simp only [Act.put, List.setIfInBounds_toArray, List.set_cons_zero, List.set_cons_succ]
          refine wpAnyJ_take (i := 7) (oi := { dst := some 18, op := _, type := _, pos := _, after := _, guard := _ }) (v := ?_) rfl (by kernel_rfl) (by kernel_rfl) (by kernel_rfl) (by kernel_rfl) (fun _ _ _ h => h) (Or.inl ⟨by rfl, ?_⟩) hS5 ?_
          rotate_left
          · intro wl hSw
            obtain ⟨s0, s1, s2, s3⟩ := hSw
            go_simp
            with_reducible rfl
          simp only [Act.put, List.setIfInBounds_toArray, List.set_cons_zero, List.set_cons_succ]
          refine wpAnyJ_take (i := 8) (oi := { dst := some 19, op := .move (.tmp 18), type := _, pos := _, after := _, guard := _ }) (v := ?_) rfl (by kernel_rfl) (by kernel_rfl) (by kernel_rfl) (by kernel_rfl) (fun _ _ _ h => h) (Or.inl ⟨by rfl, ?_⟩) hS5 ?_
          rotate_left
          · intro wl hSw
            obtain ⟨s0, s1, s2, s3⟩ := hSw
            go_simp
            with_reducible rfl
          simp only [Act.put, List.setIfInBounds_toArray, List.set_cons_zero, List.set_cons_succ]
          refine wpAnyJ_take (i := 9) (oi := { dst := some 20, op := .fieldAddr _ (.tmp 4) 0, type := _, pos := _, after := _, guard := _ }) (v := undef) rfl (by kernel_rfl) (by kernel_rfl) (by kernel_rfl) (by kernel_rfl) (fun _ _ _ h => h) (Or.inr ⟨by rfl, rfl⟩) hS5 ?_
          simp only [Act.put, List.setIfInBounds_toArray, List.set_cons_zero, List.set_cons_succ]
          refine wpAnyJ_take (i := 10) (oi := { dst := some 21, op := .load _ (.tmp 20), type := _, pos := _, after := _, guard := _ }) (v := undef) rfl (by kernel_rfl) (by kernel_rfl) (by kernel_rfl) (by kernel_rfl) (fun _ _ _ h => h) (Or.inr ⟨by rfl, rfl⟩) hS5 ?_
          simp only [Act.put, List.setIfInBounds_toArray, List.set_cons_zero, List.set_cons_succ]
          refine wpAnyJ_take (i := 11) (oi := { dst := some 22, op := .fieldAddr _ (.tmp 4) 1, type := _, pos := _, after := _, guard := _ }) (v := undef) rfl (by kernel_rfl) (by kernel_rfl) (by kernel_rfl) (by kernel_rfl) (fun _ _ _ h => h) (Or.inr ⟨by rfl, rfl⟩) hS5 ?_
          simp only [Act.put, List.setIfInBounds_toArray, List.set_cons_zero, List.set_cons_succ]
          refine wpAnyJ_take (i := 12) (oi := { dst := some 23, op := .load _ (.tmp 22), type := _, pos := _, after := _, guard := _ }) (v := undef) rfl (by kernel_rfl) (by kernel_rfl) (by kernel_rfl) (by kernel_rfl) (fun _ _ _ h => h) (Or.inr ⟨by rfl, rfl⟩) hS5 ?_
          simp only [Act.put, List.setIfInBounds_toArray, List.set_cons_zero, List.set_cons_succ]
          refine wpAnyJ_take (i := 13) (oi := { dst := some 24, op := .binOp _ _ (.tmp 21) (.tmp 23) _, type := _, pos := _, after := _, guard := _ }) (v := undef) rfl (by kernel_rfl) (by kernel_rfl) (by kernel_rfl) (by kernel_rfl) (fun _ _ _ h => h) (Or.inr ⟨by rfl, rfl⟩) hS5 ?_
          simp only [Act.put, List.setIfInBounds_toArray, List.set_cons_zero, List.set_cons_succ]
          refine wpAnyJ_take (i := 14) (oi := { dst := some 25, op := _, type := _, pos := _, after := _, guard := _ }) (v := ?_) rfl (by kernel_rfl) (by kernel_rfl) (by kernel_rfl) (by kernel_rfl) (fun _ _ _ h => h) (Or.inl ⟨by rfl, ?_⟩) hS5 ?_
          rotate_left
          · intro wl hSw
            obtain ⟨s0, s1, s2, s3⟩ := hSw
            go_simp
            with_reducible rfl
          simp only [Act.put, List.setIfInBounds_toArray, List.set_cons_zero, List.set_cons_succ]
          refine wpAnyJ_take (i := 15) (oi := { dst := some 26, op := .move (.tmp 25), type := _, pos := _, after := _, guard := _ }) (v := ?_) rfl (by kernel_rfl) (by kernel_rfl) (by kernel_rfl) (by kernel_rfl) (fun _ _ _ h => h) (Or.inl ⟨by rfl, ?_⟩) hS5 ?_
          rotate_left
          · intro wl hSw
            obtain ⟨s0, s1, s2, s3⟩ := hSw
            go_simp
            with_reducible rfl
          simp only [Act.put, List.setIfInBounds_toArray, List.set_cons_zero, List.set_cons_succ]
          refine wpAnyJ_take (i := 16) (oi := { dst := some 27, op := .fieldAddr _ (.tmp 4) 0, type := _, pos := _, after := _, guard := _ }) (v := undef) rfl (by kernel_rfl) (by kernel_rfl) (by kernel_rfl) (by kernel_rfl) (fun _ _ _ h => h) (Or.inr ⟨by rfl, rfl⟩) hS5 ?_
          simp only [Act.put, List.setIfInBounds_toArray, List.set_cons_zero, List.set_cons_succ]
          refine wpAnyJ_take (i := 17) (oi := { dst := some 28, op := .load _ (.tmp 27), type := _, pos := _, after := _, guard := _ }) (v := undef) rfl (by kernel_rfl) (by kernel_rfl) (by kernel_rfl) (by kernel_rfl) (fun _ _ _ h => h) (Or.inr ⟨by rfl, rfl⟩) hS5 ?_
          simp only [Act.put, List.setIfInBounds_toArray, List.set_cons_zero, List.set_cons_succ]
          refine wpAnyJ_take (i := 18) (oi := { dst := some 29, op := .move (.tmp 0), type := _, pos := _, after := _, guard := _ }) (v := undef) rfl (by kernel_rfl) (by kernel_rfl) (by kernel_rfl) (by kernel_rfl) (fun _ _ _ h => h) (Or.inr ⟨by rfl, rfl⟩) hS5 ?_
          simp only [Act.put, List.setIfInBounds_toArray, List.set_cons_zero, List.set_cons_succ]
          refine wpAnyJ_take (i := 19) (oi := { dst := some 30, op := .indexAddr _ (.tmp 29) _, type := _, pos := _, after := _, guard := _ }) (v := undef) rfl (by kernel_rfl) (by kernel_rfl) (by kernel_rfl) (by kernel_rfl) (fun _ _ _ h => h) (Or.inr ⟨by rfl, rfl⟩) hS5 ?_
          simp only [Act.put, List.setIfInBounds_toArray, List.set_cons_zero, List.set_cons_succ]
          refine wpAnyJ_take (i := 20) (oi := { dst := some 31, op := .fieldAddr _ (.tmp 30) 0, type := _, pos := _, after := _, guard := _ }) (v := undef) rfl (by kernel_rfl) (by kernel_rfl) (by kernel_rfl) (by kernel_rfl) (fun _ _ _ h => h) (Or.inr ⟨by rfl, rfl⟩) hS5 ?_
          simp only [Act.put, List.setIfInBounds_toArray, List.set_cons_zero, List.set_cons_succ]
          refine wpAnyJ_take (i := 21) (oi := { dst := some 32, op := .load _ (.tmp 31), type := _, pos := _, after := _, guard := _ }) (v := undef) rfl (by kernel_rfl) (by kernel_rfl) (by kernel_rfl) (by kernel_rfl) (fun _ _ _ h => h) (Or.inr ⟨by rfl, rfl⟩) hS5 ?_
          simp only [Act.put, List.setIfInBounds_toArray, List.set_cons_zero, List.set_cons_succ]
          refine wpAnyJ_take (i := 22) (oi := { dst := some 33, op := .binOp _ _ (.tmp 28) (.tmp 32) _, type := _, pos := _, after := _, guard := _ }) (v := undef) rfl (by kernel_rfl) (by kernel_rfl) (by kernel_rfl) (by kernel_rfl) (fun _ _ _ h => h) (Or.inr ⟨by rfl, rfl⟩) hS5 ?_
          simp only [Act.put, List.setIfInBounds_toArray, List.set_cons_zero, List.set_cons_succ]
          refine wpAnyJ_take (i := 23) (oi := { dst := some 34, op := _, type := _, pos := _, after := _, guard := _ }) (v := ?_) rfl (by kernel_rfl) (by kernel_rfl) (by kernel_rfl) (by kernel_rfl) (fun _ _ _ h => h) (Or.inl ⟨by rfl, ?_⟩) hS5 ?_
          rotate_left
          · intro wl hSw
            obtain ⟨s0, s1, s2, s3⟩ := hSw
            go_simp
            with_reducible rfl
          simp only [Act.put, List.setIfInBounds_toArray, List.set_cons_zero, List.set_cons_succ]
          refine wpAnyJ_done (by kernel_rfl) ?_ _
          go_wp2_with fail
          go_ret
          exact ⟨_, rfl, by rw [← HQQ.out, HQ.out]; rfl, HBT.out.trans ((Up.bel hU5).mono HBT.out.size)⟩
    · have HQ := Lib.hid (show (sq1 R C xs && (sq1 R' C' ys && decide (R' = R))) = true by rw [hA.out (by omega), (hB.out (Nat.le_refl _)).1]; simp [(hB.out (Nat.le_refl _)).2])
      go_wp2
      go_ret
      exact ⟨_, rfl, by rw [← HQQ.out, HQ.out]; rfl, hb⟩
end Go.Proofs.YtajkhbpffakmfaaGreatDoor

namespace Go.Proofs.YtajkhbpffakmfaaGreatDoor
open Go.RowKit
set_option maxRecDepth 100000

section
variable {ops : Array Oper} {md : Region.Mode} {A : Nat → Bool}
def gro1 (i : Nat) (L : Array Bool) (j : Nat) : Array Bool := if j == i then L else L.setIfInBounds j true
def grow (i : Nat) (rs : List Nat) (L : Array Bool) : Array Bool := rs.foldl (fun L j => gro1 i L j) L
/-- All that can come up before i is not late: the closure of what is ready without i. -/
def sat (md : Region.Mode) (ops : Array Oper) (A : Nat → Bool) (i : Nat) : Nat → Array Bool → Bool
  | 0, _ => true
  | n + 1, L => (Region.ready md ops L).all (fun j => j == i || A j) && sat md ops A i n (grow i (Region.ready md ops L) L)
theorem getD_setB (L : Array Bool) (j k : Nat) : (L.setIfInBounds j true).getD k false = if k = j ∧ j < L.size then true else L.getD k false := by
  simp only [Array.getD_eq_getD_getElem?, Array.getElem?_setIfInBounds]
  by_cases h : j = k
  · subst h
    by_cases hj : j < L.size
    · simp [hj]
    · simp [hj]
  · simp [h, Ne.symm h]
theorem grow_size (i : Nat) : ∀ (rs : List Nat) (L : Array Bool), (grow i rs L).size = L.size
  | [], _ => rfl
  | j :: rs, L => by
    show (grow i rs _).size = _
    rw [grow_size]
    show (gro1 i L j).size = _
    unfold gro1; split <;> simp
theorem grow_mono (i : Nat) : ∀ (rs : List Nat) (L : Array Bool) (k : Nat), L.getD k false = true → (grow i rs L).getD k false = true
  | [], _, _, h => h
  | j :: rs, L, k, h => by
    show (grow i rs _).getD k false = true
    refine grow_mono i rs _ k ?_
    show (gro1 i L j).getD k false = true
    unfold gro1
    split
    · exact h
    · rw [getD_setB]; split <;> simp_all
theorem grow_mem (i : Nat) : ∀ (rs : List Nat) (L : Array Bool) (j : Nat), j ∈ rs → j ≠ i → j < L.size → (grow i rs L).getD j false = true
  | [], _, _, h, _, _ => by cases h
  | q :: rs, L, j, h, hji, hj => by
    show (grow i rs _).getD j false = true
    rcases List.mem_cons.1 h with rfl | h
    · refine grow_mono i rs _ j ?_
      show (gro1 i L j).getD j false = true
      unfold gro1
      rw [if_neg (by simpa using hji), getD_setB, if_pos ⟨rfl, hj⟩]
    · refine grow_mem i rs _ j h hji ?_
      show j < (gro1 i L q).size
      unfold gro1
      split
      · exact hj
      · simpa using hj
theorem grow_true (i : Nat) : ∀ (rs : List Nat) (L : Array Bool) (k : Nat), (grow i rs L).getD k false = true → L.getD k false = true ∨ (k ∈ rs ∧ k ≠ i)
  | [], _, _, h => Or.inl h
  | q :: rs, L, k, h => by
    rcases grow_true i rs _ k h with h1 | ⟨h1, h2⟩
    · have h1 : (gro1 i L q).getD k false = true := h1
      unfold gro1 at h1
      by_cases hq : q == i
      · rw [if_pos hq] at h1; exact Or.inl h1
      · rw [if_neg hq, getD_setB] at h1
        by_cases e : k = q ∧ q < L.size
        · refine Or.inr ⟨by rw [e.1]; exact List.mem_cons_self, ?_⟩
          rw [e.1]; simpa using hq
        · rw [if_neg e] at h1; exact Or.inl h1
    · exact Or.inr ⟨List.mem_cons_of_mem _ h1, h2⟩
theorem un_lt {l : Array Bool} {j : Nat} (h : l.getD j true = false) : j < l.size ∧ l.getD j false = false := by
  rcases Nat.lt_or_ge j l.size with h' | h'
  · refine ⟨h', ?_⟩
    simp [Array.getD_eq_getD_getElem?, h'] at h ⊢
    exact h
  · simp [Array.getD_eq_getD_getElem?, Array.getElem?_eq_none h'] at h
theorem un_of {l : Array Bool} {j : Nat} (h : j < l.size) (h0 : l.getD j false = false) : l.getD j true = false := by
  simp [Array.getD_eq_getD_getElem?, h] at h0 ⊢
  exact h0
theorem early_of (i : Nat) : ∀ (n : Nat) (l L : Array Bool), sat md ops A i n L = true → l.size = L.size → (∀ k, l.getD k false = true → L.getD k false = true) →
    (∀ k, L.getD k false = true → l.getD k false = true ∨ A k = true) → early md ops A i n l = true
  | 0, _, _, _, _, _, _ => rfl
  | n + 1, l, L, h, hsz, hsub, hA => by
    unfold sat at h
    simp only [Bool.and_eq_true] at h
    obtain ⟨h1, h2⟩ := h
    have h1 := List.all_eq_true.1 h1
    unfold early
    refine List.all_eq_true.2 fun j hj => ?_
    by_cases hji : j = i
    · simp [hji]
    · have hm := mem_ready.1 hj
      obtain ⟨hu, o, ho, hall⟩ := hm
      obtain ⟨hjl, hjf⟩ := un_lt hu
      have hrd : L.getD j false = false → j ∈ Region.ready md ops L := fun e => mem_ready.2 ⟨un_of (by omega) e, o, ho, fun e' he hb => hsub _ (hall e' he hb)⟩
      have hAj : A j = true := by
        by_cases e : L.getD j false = true
        · rcases hA j e with e' | e'
          · rw [hjf] at e'; cases e'
          · exact e'
        · have := h1 j (hrd (by simpa using e))
          simpa [hji] using this
      simp only [Bool.or_eq_true, Bool.and_eq_true]
      refine Or.inr ⟨hAj, early_of i n _ (grow i (Region.ready md ops L) L) h2 (by rw [grow_size]; simpa using hsz) (fun k hk => ?_) (fun k hk => ?_)⟩
      · rw [getD_setB] at hk
        by_cases e : k = j ∧ j < l.size
        · obtain ⟨rfl, -⟩ := e
          by_cases e : L.getD k false = true
          · exact grow_mono i _ _ _ e
          · exact grow_mem i _ _ _ (hrd (by simpa using e)) hji (by omega)
        · rw [if_neg e] at hk; exact grow_mono i _ _ _ (hsub k hk)
      · rcases grow_true i _ _ k hk with e | ⟨e, e'⟩
        · rcases hA k e with e2 | e2
          · left; rw [getD_setB]; split
            · rfl
            · exact e2
          · exact Or.inr e2
        · have := h1 k e
          right
          simpa [e'] using this
theorem early_sat {i n : Nat} {l : Array Bool} (h : sat md ops A i n l = true) : early md ops A i n l = true := early_of i n l l h rfl (fun _ h => h) (fun _ h => Or.inl h)
end
end Go.Proofs.YtajkhbpffakmfaaGreatDoor

namespace Go.Proofs.YtajkhbpffakmfaaGreatDoor
open Go.RowKit
set_option maxRecDepth 100000

/-- What holds of a matrix in the making at g; below g all is as in W. -/
structure GB (W : World) (g : Nat) (wr : World) (R C : Int) (v : Value) (os : List ByteArray) : Prop where
  sz : W.heap.size = g
  box : Blk wr g [.int .i64 R, .int .i64 C, v] 24
  row : wr.ownsRow (g + 1) 26 1 v os.length (os.map eS)
  bel : Below g W wr
theorem GB.lt {w wr : World} {h : Nat} {R C : Int} {v : Value} {os : List ByteArray} (H : GB w h wr R C v os) : h < wr.heap.size := H.box.lt
theorem GB.keep {w wr w' : World} {h : Nat} {R C : Int} {v : Value} {os : List ByteArray} (H : GB w h wr R C v os) (hb : Below wr.heap.size wr w') : GB w h w' R C v os :=
  ⟨H.sz, H.box.below hb (Nat.le_refl _), own_below H.row hb (Nat.le_refl _), H.bel.trans (hb.mono (by have := H.lt; omega))⟩
theorem GB.drew {w wr : World} {h : Nat} {R C : Int} {v : Value} {os : List ByteArray} (H : GB w h wr R C v os) : GB w h wr.drew R C v os := H.keep (Below.refl _ _).drew
theorem GB.start (w : World) (R C : Int) : GB w w.heap.size (w.alloc (.cells #[.int .i64 R, .int .i64 C, .slice none 0 0] 24)) R C (.slice none 0 0) [] :=
  ⟨rfl, Blk.new w [.int .i64 R, .int .i64 C, .slice none 0 0] 24, World.ownsRow_nil _ _ _ _, (Below.refl _ _).alloc (Nat.le_refl _) _⟩
theorem GB.push {w w1 w2 : World} {h : Nat} {R C : Int} {v v' : Value} {os : List ByteArray} {s : ByteArray} (H : GB w h w1 R C v os) (hb : Below (h + 1) w1 w2) (ho : w2.ownsRow (h + 1) 26 1 v' (os.length + 1) (os.map eS ++ [.string s])) :
    GB w h (w2.setCell ⟨h, 2, none⟩ v') R C v' (os ++ [s]) := by
  have b2 : Blk w2 h [.int .i64 R, .int .i64 C, v] 24 := (hb.block _ (by omega)).trans H.box
  refine ⟨H.sz, ?_, ?_, (H.bel.trans (hb.mono (by omega))).setCell (by simp) _⟩
  · have := b2.set 2 v'
    simpa using this
  · refine ownsRow_cast (n := os.length + 1) (ys := os.map eS ++ [.string s]) ?_ (by simp) (by simp [eS])
    exact ⟨ho.1, ho.2.imp_right fun ⟨g', cap, cur, h1, h2, h3, r⟩ => ⟨g', cap, cur, h1, h2, (Below.heap_setCell _ _ _ _ (show g' ≠ h by omega)).trans h3, r⟩⟩
theorem GB.box6 {w w1 w2 : World} {h : Nat} {R C : Int} {v : Value} {os : List ByteArray} (H : GB w h w1 R C v os) (hb : Below (h + 1) w1 w2) : Blk w2 h [.int .i64 R, .int .i64 C, v] 24 := (hb.block _ (by omega)).trans H.box
theorem cellsF_idx {r c t : Nat} (A : Mat) (ht : t < r * c) (h : t < (cellsF r c A).length) : (cellsF r c A)[t] = txt (A (t / c) (t % c)) ∧ t / c < r ∧ t % c < c := by
  have hc : 0 < c := by rcases Nat.eq_zero_or_pos c with e | e; · simp [e] at ht
                        · exact e
  exact ⟨by simp [cellsF], Nat.div_lt_of_lt_mul (by rw [Nat.mul_comm]; exact ht), Nat.mod_lt _ hc⟩
end Go.Proofs.YtajkhbpffakmfaaGreatDoor

namespace Go.Proofs.YtajkhbpffakmfaaGreatDoor
open Go.RowKit
set_option maxRecDepth 100000

theorem cellsF_set {r c i k : Nat} (A : Mat) (z : Int) (hi : i < r) (hk : k < c) : (cellsF r c A).set (i * c + k) (txt z) = cellsF r c (fun a b => if a = i ∧ b = k then z else A a b) := by
  apply List.ext_getElem
  · simp [cellsF]
  · intro t h1 h2
    have ht : t < r * c := by simpa [cellsF] using h2
    obtain ⟨e2, e3, e4⟩ := cellsF_idx (fun a b => if a = i ∧ b = k then z else A a b) ht h2
    have h0 : t < (cellsF r c A).length := by rw [cellsF_len]; exact ht
    obtain ⟨e1, -, -⟩ := cellsF_idx A ht h0
    rw [e2, List.getElem_set, e1]
    have hiff : i * c + k = t ↔ (t / c = i ∧ t % c = k) := by
      constructor
      · rintro rfl
        have hc : 0 < c := by omega
        exact ⟨by rw [Nat.mul_comm, Nat.mul_add_div hc, Nat.div_eq_of_lt hk, Nat.add_zero], by rw [Nat.mul_comm, Nat.mul_add_mod, Nat.mod_eq_of_lt hk]⟩
      · rintro ⟨rfl, rfl⟩
        have := Nat.div_add_mod t c
        rw [Nat.mul_comm] at this; exact this
    by_cases e : i * c + k = t
    · rw [if_pos e, if_pos (hiff.1 e)]
    · rw [if_neg e, if_neg (fun h => e (hiff.2 h))]
/-- The first q columns have the rows i and k exchanged. -/
def rsw (q i k : Nat) (A : Mat) : Mat := fun a b => if b < q then swr A i k a b else A a b
/-- In the first q columns z times the row k is added to the row i. -/
def rad (q i k : Nat) (z : Int) (A : Mat) : Mat := fun a b => if b < q then setr A i (fun j => A i j + z * A k j) a b else A a b
theorem rsw_next {n q i k : Nat} (A : Mat) (hi : i < n) (hk : k < n) (hq : q < n) (hne : i ≠ k) :
    ((cellsF n n (rsw q i k A)).set (i * n + q) (txt (A k q))).set (k * n + q) (txt (A i q)) = cellsF n n (rsw (q + 1) i k A) := by
  rw [cellsF_set _ _ hi hq, cellsF_set _ _ hk hq]
  refine cellsF_congr fun a b ha hb => ?_
  unfold rsw swr
  by_cases e : b = q
  · subst e
    by_cases e1 : a = k
    · subst e1; simp [Ne.symm hne]
    · by_cases e2 : a = i
      · subst e2; simp [hne]
      · simp [e1, e2]
  · simp only [e, and_false, if_false]
    by_cases e3 : b < q
    · have e4 : b < q + 1 := by omega
      simp only [e3, e4, if_true]
    · have e4 : ¬ b < q + 1 := by omega
      simp only [e3, e4, if_false]
theorem rad_next {n q i k : Nat} (A : Mat) (z : Int) (hi : i < n) (hq : q < n) :
    (cellsF n n (rad q i k z A)).set (i * n + q) (txt (A i q + z * A k q)) = cellsF n n (rad (q + 1) i k z A) := by
  rw [cellsF_set _ _ hi hq]
  refine cellsF_congr fun a b ha hb => ?_
  unfold rad setr
  by_cases e : b = q
  · subst e
    by_cases e1 : a = i
    · subst e1; simp
    · simp [e1]
  · simp only [e, and_false, if_false]
    by_cases e3 : b < q
    · have e4 : b < q + 1 := by omega
      simp only [e3, e4, if_true]
    · have e4 : ¬ b < q + 1 := by omega
      simp only [e3, e4, if_false]
theorem det_rsw {n i k : Nat} (A : Mat) (hi : i < n) (hk : k < n) (hne : i ≠ k) : det n (rsw n i k A) = -det n A := by
  rw [det_congr (B := swr A i k) fun a b ha hb => by unfold rsw; rw [if_pos hb]]
  exact (det_alt n).swap A i k hne hi hk
theorem det_rad {n i k : Nat} (A : Mat) (z : Int) (hi : i < n) (hk : k < n) (hne : i ≠ k) : det n (rad n i k z A) = det n A := by
  rw [det_congr (B := setr A i (fun j => A i j + z * A k j)) fun a b ha hb => by unfold rad; rw [if_pos hb]]
  exact (det_alt n).addrow A i k hne hi hk z
theorem dn_rsw {n q i k D : Nat} {A : Mat} (hi : i < n) (hk : k < n) (h : ∀ a b, a < n → b < n → dn (A a b) ≤ D) {a b : Nat} (ha : a < n) (hb : b < n) : dn (rsw q i k A a b) ≤ D := by
  unfold rsw swr
  split
  · split
    · exact h _ _ hk hb
    · split
      · exact h _ _ hi hb
      · exact h _ _ ha hb
  · exact h _ _ ha hb
theorem dn_rad {n q i k D E : Nat} {z : Int} {A : Mat} (hi : i < n) (hk : k < n) (h : ∀ a b, a < n → b < n → dn (A a b) ≤ D) (hz : dn z ≤ E) {a b : Nat} (ha : a < n) (hb : b < n) : dn (rad q i k z A a b) ≤ D + E + 1 := by
  unfold rad setr
  have h1 := h _ _ ha hb
  split
  · split
    · have h2 := h _ _ hi hb
      have h3 := h _ _ hk hb
      have h4 := dn_mul z (A k b)
      have h5 := dn_add (A i b) (z * A k b)
      show dn (A i b + z * A k b) ≤ _
      omega
    · omega
  · omega

/-- Two boxes whose matrices have rows of their own. -/
structure RX (W wr : World) (g9 g10 ra rb N ca cb : Nat) (n : Int) (xs9 xs10 : List ByteArray) : Prop where
  bel : Below W.heap.size W wr
  p9 : W.heap.size ≤ g9
  p10 : W.heap.size ≤ g10
  pa : W.heap.size ≤ ra
  pb : W.heap.size ≤ rb
  n1 : g9 ≠ ra
  n2 : g9 ≠ rb
  n3 : g10 ≠ ra
  n4 : g10 ≠ rb
  n5 : ra ≠ rb
  b9 : Blk wr g9 [.int .i64 n, .int .i64 n, .slice (some ⟨ra, 0, none⟩) N ca] 24
  b10 : Blk wr g10 [.int .i64 n, .int .i64 n, .slice (some ⟨rb, 0, none⟩) N cb] 24
  r9 : wr.ownsRow W.heap.size 26 1 (.slice (some ⟨ra, 0, none⟩) N ca) N (xs9.map eS)
  r10 : wr.ownsRow W.heap.size 26 1 (.slice (some ⟨rb, 0, none⟩) N cb) N (xs10.map eS)
variable {W wr : World} {g9 g10 ra rb N ca cb : Nat} {n : Int} {xs9 xs10 : List ByteArray}
theorem RX.keep (H : RX W wr g9 g10 ra rb N ca cb n xs9 xs10) {w' : World} (hb : Below wr.heap.size wr w') : RX W w' g9 g10 ra rb N ca cb n xs9 xs10 :=
  ⟨H.bel.trans (hb.mono H.bel.size), H.p9, H.p10, H.pa, H.pb, H.n1, H.n2, H.n3, H.n4, H.n5, H.b9.below hb (Nat.le_refl _), H.b10.below hb (Nat.le_refl _), own_below H.r9 hb (Nat.le_refl _), own_below H.r10 hb (Nat.le_refl _)⟩
theorem RX.st9 (H : RX W wr g9 g10 ra rb N ca cb n xs9 xs10) (j : Nat) (s : ByteArray) : RX W (wr.setCell ⟨ra, j, none⟩ (.string s)) g9 g10 ra rb N ca cb n (xs9.set j s) xs10 :=
  ⟨H.bel.setCell H.pa _, H.p9, H.p10, H.pa, H.pb, H.n1, H.n2, H.n3, H.n4, H.n5, H.b9.setCell H.n1 _, H.b10.setCell H.n3 _,
    by have := (H.r9.stored j (.string s)).1; rwa [show (xs9.map eS).set j (.string s) = (xs9.set j s).map eS by rw [List.map_set]; rfl] at this,
    ownsRow_setCell_other H.r10 (by simp [Value.ownBlock]; exact Ne.symm H.n5) _⟩
theorem RX.st10 (H : RX W wr g9 g10 ra rb N ca cb n xs9 xs10) (j : Nat) (s : ByteArray) : RX W (wr.setCell ⟨rb, j, none⟩ (.string s)) g9 g10 ra rb N ca cb n xs9 (xs10.set j s) :=
  ⟨H.bel.setCell H.pb _, H.p9, H.p10, H.pa, H.pb, H.n1, H.n2, H.n3, H.n4, H.n5, H.b9.setCell H.n2 _, H.b10.setCell H.n4 _,
    ownsRow_setCell_other H.r9 (by simp [Value.ownBlock]; exact H.n5) _,
    by have := (H.r10.stored j (.string s)).1; rwa [show (xs10.map eS).set j (.string s) = (xs10.set j s).map eS by rw [List.map_set]; rfl] at this⟩
/-- Two boxes with the same matrix. -/
structure R6 (W wr : World) (g9 g10 : Nat) (n : Int) (v : Value) : Prop where
  bel : Below W.heap.size W wr
  p9 : W.heap.size ≤ g9
  p10 : W.heap.size ≤ g10
  b9 : Blk wr g9 [.int .i64 n, .int .i64 n, v] 24
  b10 : Blk wr g10 [.int .i64 n, .int .i64 n, v] 24
  ne : g9 ≠ g10
theorem R6.mk2 {W w2 : World} {A B : Nat} {n : Int} {v : Value} {a b c : Value} (hb : Below W.heap.size W w2) (pA : W.heap.size ≤ A) (pB : W.heap.size ≤ B) (ne : A ≠ B) (hA : Blk w2 A [a, b, c] 24) (hB : Blk w2 B [a, b, c] 24) :
    R6 W ((((((w2.setCell ⟨A, 0, none⟩ (.int .i64 n)).setCell ⟨A, 1, none⟩ (.int .i64 n)).setCell ⟨A, 2, none⟩ v).setCell ⟨B, 0, none⟩ (.int .i64 n)).setCell ⟨B, 1, none⟩ (.int .i64 n)).setCell ⟨B, 2, none⟩ v) A B n v :=
  ⟨(((((hb.setCell pA _).setCell pA _).setCell pA _).setCell pB _).setCell pB _).setCell pB _, pA, pB, (((store3 hA).setCell ne _).setCell ne _).setCell ne _, store3 (((hB.setCell (Ne.symm ne) _).setCell (Ne.symm ne) _).setCell (Ne.symm ne) _), ne⟩
section
variable {P : Program} {ops : Array Oper} {Q : Exit → Act → World → Prop} {md : Region.Mode} {S : World → Prop} {A : Nat → Bool}
/-- Two operations may come up (XN4 has the same). -/
theorem wpAnyJ_two' {i j : Nat} {o o' : Oper} {fuel : Nat} {listed : Array Bool} {a : Act} {w : World} (hr : Region.ready md ops listed = [i, j]) (ho : ops[i]? = some o) (ho' : ops[j]? = some o')
    (h : ∀ K' : Act → World → Prop, Shut (∀ a w, (A i = true → S w) → wpAnyJ P md ops Q S A fuel (listed.setIfInBounds i true) a w → K' a w) → if Region.wanted o (yielded ops a.tmps) = true then Oper.wp P o a w K' Q else K' (a.put o.dst undef) w)
    (h' : ∀ K' : Act → World → Prop, Shut (∀ a w, (A j = true → S w) → wpAnyJ P md ops Q S A fuel (listed.setIfInBounds j true) a w → K' a w) → if Region.wanted o' (yielded ops a.tmps) = true then Oper.wp P o' a w K' Q else K' (a.put o'.dst undef) w) :
    wpAnyJ P md ops Q S A (fuel + 1) listed a w :=
  ⟨fun h0 => absurd (hr ▸ h0) (by simp), by
    rw [hr]
    intro k hk
    rcases List.mem_cons.1 hk with rfl | hk
    · exact wpOp_step ho (fun K' hK => h K' (fun a w hS hW => hK a w ⟨hS, hW⟩))
    · rw [List.mem_singleton] at hk
      subst hk
      exact wpOp_step ho' (fun K' hK => h' K' (fun a w hS hW => hK a w ⟨hS, hW⟩))⟩
end
theorem own_base {w : World} {b b' e s n : Nat} {v : Value} {ys : List Value} (h : w.ownsRow b e s v n ys) (hb : b' ≤ b) : w.ownsRow b' e s v n ys :=
  ⟨h.1, h.2.imp_right fun ⟨g', cap, cur, h1, h2, r⟩ => ⟨g', cap, cur, h1, Nat.le_trans hb h2, r⟩⟩
theorem own_some {w : World} {b e s n : Nat} {v : Value} {ys : List Value} (h : w.ownsRow b e s v n ys) (hn : 0 < n) : ∃ g cap, v = .slice (some ⟨g, 0, none⟩) n cap := by
  cases n with
  | zero => omega
  | succ n => exact ownsRow_succ h
theorem R6.keep {W wr w' : World} {g9 g10 : Nat} {n : Int} {v : Value} (H : R6 W wr g9 g10 n v) (hb : Below wr.heap.size wr w') : R6 W w' g9 g10 n v :=
  ⟨H.bel.trans (hb.mono H.bel.size), H.p9, H.p10, H.b9.below hb (Nat.le_refl _), H.b10.below hb (Nat.le_refl _), H.ne⟩
theorem RX.mk7 {W v0 v1 v2 : World} {g9 g10 ra rb N ca cb : Nat} {n : Int} {v : Value} {xs : List ByteArray} (H : R6 W v0 g9 g10 n v) (hb1 : Below v0.heap.size v0 v1) (hb2 : Below v1.heap.size v1 v2)
    (o1 : v1.ownsRow v0.heap.size 26 1 (.slice (some ⟨ra, 0, none⟩) N ca) N (xs.map eS)) (o2 : v2.ownsRow v1.heap.size 26 1 (.slice (some ⟨rb, 0, none⟩) N cb) N (xs.map eS)) :
    RX W ((v2.setCell ⟨g9, 2, none⟩ (.slice (some ⟨ra, 0, none⟩) N ca)).setCell ⟨g10, 2, none⟩ (.slice (some ⟨rb, 0, none⟩) N cb)) g9 g10 ra rb N ca cb n xs xs := by
  have H2 := (H.keep hb1).keep hb2
  have la := o1.lt ra rfl
  have lb := o2.lt rb rfl
  have l9 := H.b9.lt
  have l10 := H.b10.lt
  have s0 := H.bel.size
  have s1 := hb1.size
  have b9 := (H2.b9.set 2 (.slice (some ⟨ra, 0, none⟩) N ca)).setCell (g' := g10) (j := 2) H.ne (.slice (some ⟨rb, 0, none⟩) N cb)
  have b10 := (H2.b10.setCell (g' := g9) (j := 2) (Ne.symm H.ne) (.slice (some ⟨ra, 0, none⟩) N ca)).set 2 (.slice (some ⟨rb, 0, none⟩) N cb)
  refine ⟨(H2.bel.setCell H.p9 _).setCell H.p10 _, H.p9, H.p10, by omega, by omega, by omega, by omega, by omega, by omega, by omega, by simpa using b9, by simpa using b10, ?_, ?_⟩
  · exact own_base (ownsRow_setCell_other (ownsRow_setCell_other (own_below o1 hb2 (Nat.le_refl _)) (by simp [Value.ownBlock]; omega) _) (by simp [Value.ownBlock]; omega) _) s0
  · exact own_base (ownsRow_setCell_other (ownsRow_setCell_other o2 (by simp [Value.ownBlock]; omega) _) (by simp [Value.ownBlock]; omega) _) (by omega)
theorem rsw_zero (i k : Nat) (A : Mat) : rsw 0 i k A = A := by funext a b; simp [rsw]
theorem rad_zero (i k : Nat) (z : Int) (A : Mat) : rad 0 i k z A = A := by funext a b; simp [rad]
end Go.Proofs.YtajkhbpffakmfaaGreatDoor

namespace Go.Proofs.YtajkhbpffakmfaaGreatDoor
open Go.RowKit
set_option maxRecDepth 100000

section
variable {ops : Array Oper} {md : Region.Mode} {A : Nat → Bool}
/-- L holds l, is closed (behind L nothing but i comes up), and what it adds to l is not late. -/
def cert (md : Region.Mode) (ops : Array Oper) (A : Nat → Bool) (i : Nat) (l L : Array Bool) : Bool :=
  (l.size == L.size) && ((Region.ready md ops L).all (fun j => j == i) && ((List.range L.size).all (fun k => !L.getD k false || (l.getD k false || A k)) && (List.range l.size).all (fun k => !l.getD k false || L.getD k false)))
theorem early_closed {i : Nat} {L : Array Bool} (hR : ∀ j ∈ Region.ready md ops L, j = i) : ∀ (n : Nat) (l : Array Bool), l.size = L.size → (∀ k, l.getD k false = true → L.getD k false = true) →
    (∀ k, L.getD k false = true → l.getD k false = true ∨ A k = true) → early md ops A i n l = true
  | 0, _, _, _, _ => rfl
  | n + 1, l, hsz, hsub, hA => by
    unfold early
    refine List.all_eq_true.2 fun j hj => ?_
    by_cases hji : j = i
    · simp [hji]
    · obtain ⟨hu, o, ho, hall⟩ := mem_ready.1 hj
      obtain ⟨hjl, hjf⟩ := un_lt hu
      have hjL : L.getD j false = true := by
        cases e : L.getD j false with
        | true => rfl
        | false => exact absurd (hR j (mem_ready.2 ⟨un_of (by omega) e, o, ho, fun e' he hb => hsub _ (hall e' he hb)⟩)) hji
      have hAj : A j = true := by
        rcases hA j hjL with e | e
        · rw [hjf] at e; cases e
        · exact e
      simp only [Bool.or_eq_true, Bool.and_eq_true]
      refine Or.inr ⟨hAj, early_closed hR n _ (by simpa using hsz) (fun k hk => ?_) (fun k hk => ?_)⟩
      · rw [getD_setB] at hk
        by_cases e : k = j ∧ j < l.size
        · obtain ⟨rfl, -⟩ := e; exact hjL
        · rw [if_neg e] at hk; exact hsub k hk
      · rcases hA k hk with e2 | e2
        · left; rw [getD_setB]; split
          · rfl
          · exact e2
        · exact Or.inr e2
theorem early_cert {i n : Nat} {l L : Array Bool} (h : cert md ops A i l L = true) : early md ops A i n l = true := by
  unfold cert at h
  simp only [Bool.and_eq_true, beq_iff_eq] at h
  obtain ⟨h1, h2, h3, h4⟩ := h
  have h2 := List.all_eq_true.1 h2; have h3 := List.all_eq_true.1 h3; have h4 := List.all_eq_true.1 h4
  have lt : ∀ (B : Array Bool) k, B.getD k false = true → k < B.size := fun B k hk => by
    rcases Nat.lt_or_ge k B.size with h' | h'
    · exact h'
    · simp [Array.getD_eq_getD_getElem?, Array.getElem?_eq_none h'] at hk
  refine early_closed (fun j hj => by simpa using h2 j hj) n l h1 (fun k hk => ?_) (fun k hk => ?_)
  · have := h4 k (List.mem_range.2 (lt l k hk))
    rw [hk] at this; simpa using this
  · have := h3 k (List.mem_range.2 (lt L k hk))
    rw [hk] at this; simpa using this
end
end Go.Proofs.YtajkhbpffakmfaaGreatDoor

namespace Go.Proofs.YtajkhbpffakmfaaGreatDoor
open Go.RowKit

theorem cOwn : ownKnob Tryz.prog.godebug = none := by kernel_rfl
theorem int_wf {n : Int} (h : (Lit.int .i64 n).wf = true) : -9223372036854775808 ≤ n ∧ n ≤ 9223372036854775807 := by
  have e1 : IntKind.i64.min = -9223372036854775808 := rfl
  have e2 : IntKind.i64.max = 9223372036854775807 := rfl
  simp [Lit.wf, e1, e2] at h; exact h
theorem int32_wf {n : Int} (h : (Lit.int .i32 n).wf = true) : -2147483648 ≤ n ∧ n ≤ 2147483647 := by
  have e1 : IntKind.i32.min = -2147483648 := rfl
  have e2 : IntKind.i32.max = 2147483647 := rfl
  simp [Lit.wf, e1, e2] at h; exact h
theorem u8_wf {n : Int} (h : (Lit.int .u8 n).wf = true) : 0 ≤ n ∧ n ≤ 255 := by
  have e1 : IntKind.u8.min = 0 := rfl
  have e2 : IntKind.u8.max = 255 := rfl
  simp [Lit.wf, e1, e2] at h; exact h
theorem cErrT (u : TypeId) (h : Tryz.prog.typeName? 3 u = some "*errors.errorString") : u = 203 :=
  typeName_ptr_named (nm := "errors.errorString") (by rw [show "*" ++ "errors.errorString" = "*errors.errorString" by decide]; kernel_rfl) (by kernel_rfl) (by decide) u (by rw [show "*" ++ "errors.errorString" = "*errors.errorString" by decide]; exact h)

/-- What the five listed variables hold. -/
def laid5 : List (String × DataW Unit) := [("math/bits.deBruijn32tab", Rows.laid_math_bits_deBruijn32tab), ("math/bits.deBruijn64tab", Rows.laid_math_bits_deBruijn64tab), ("internal/strconv.uint64pow10", Rows.laid_internal_strconv_uint64pow10), ("strconv.ErrRange", Rows.laid_strconv_ErrRange), ("strconv.ErrSyntax", Rows.laid_strconv_ErrSyntax)]
theorem env_of {W : World} (h : laidMetH Tryz.prog laid5 W) : Env W := by
  have h1 : laidMet Tryz.prog laid5 W := h
  have h2 := h1.tail.tail
  obtain ⟨a0, t0, hv0, -, -, -⟩ := laid_sentinel (g := 1) h2.tail (by kernel_rfl) (by kernel_rfl) Tryz.underlying134 cErrT Tryz.underlying203 Tryz.underlying205 rfl rfl Tryz.underlying9 (by kernel_rfl) (by kernel_rfl)
  obtain ⟨a1, t1, hv1, -, -, -⟩ := laid_sentinel (g := 0) h2.tail.tail (by kernel_rfl) (by kernel_rfl) Tryz.underlying134 cErrT Tryz.underlying203 Tryz.underlying205 rfl rfl Tryz.underlying9 (by kernel_rfl) (by kernel_rfl)
  exact ⟨Lib.tabIs_of_head (g := 2) (t := 194) (e := 144) (by kernel_rfl) (by kernel_rfl) Tryz.underlying194 Tryz.underlying144 (by kernel_rfl) (by kernel_rfl) h2, ⟨_, _, hv1⟩, ⟨_, _, hv0⟩⟩

/-- The world of a witness: the listed variables hold what their initialisers lay. -/
noncomputable def laidWorld (os : Os) : World :=
  let N := (World.settled Tryz.prog os).heap.size
  let w0 := World.holding Tryz.prog os ⟨#[.cells #[.string ⟨#[118, 97, 108, 117, 101, 32, 111, 117, 116, 32, 111, 102, 32, 114, 97, 110, 103, 101]⟩] 205, .cells #[.string ⟨#[105, 110, 118, 97, 108, 105, 100, 32, 115, 121, 110, 116, 97, 120]⟩] 205], #[], []⟩
  let put (h : Array Obj) (g : Nat) (cs : Array Value) : Array Obj := h.modify g fun
    | .cells _ t frozen => .cells cs t frozen
    | o => o
  let h1 := put w0.heap 3 (([0, 1, 28, 2, 29, 14, 24, 3, 30, 22, 20, 15, 25, 17, 4, 8, 31, 27, 13, 23, 21, 19, 16, 7, 26, 12, 18, 6, 11, 5, 10, 9] : List Int).map fun z => Value.int .u8 z).toArray
  let h2 := put h1 4 (([0, 1, 56, 2, 57, 49, 28, 3, 61, 58, 42, 50, 38, 29, 17, 4, 62, 47, 59, 36, 45, 43, 51, 22, 53, 39, 33, 30, 24, 18, 12, 5, 63, 55, 48, 27, 60, 41, 37, 16, 46, 35, 44, 21, 52, 32, 23, 11, 54, 26, 40, 15, 34, 20, 31, 10, 25, 14, 19, 9, 13, 8, 7, 6] : List Int).map fun z => Value.int .u8 z).toArray
  let h3 := put h2 2 (Lib.pow10Tab.map fun z => Value.int .u64 z).toArray
  let h4 := put h3 1 #[.iface 203 (.pointer (some ⟨N, 0, none⟩))]
  let h5 := put h4 0 #[.iface 203 (.pointer (some ⟨N + 1, 0, none⟩))]
  { w0 with heap := h5 }
theorem laid_met (os : Os) (args : Array Value) : laidMet Tryz.prog laid5 ((laidWorld os).forCall (fun _ _ => 0) ⟨#[], args, []⟩).memory :=
  laidMet_of_run' 8 (by kernel_rfl) (by kernel_rfl)
end Go.Proofs.YtajkhbpffakmfaaGreatDoor

namespace Go.Proofs.YtajkhbpffakmfaaGreatDoor
open Go.ChangeShapes Go.WideShapes Go.RowKit
set_option maxRecDepth 100000

section
variable {H : Type} {enc : TypeId × Value → H} {P : Program} {W : World} {base : Nat} {spare : Nat → Bool} {held : Bool}
theorem open_arr2 {r : Reach} {b0 : Nat} {t e : TypeId} {v : Value} {d : DataW H} {ps : List MemPlace} (ht : P.underlying t = some (.array 2 e)) (he : P.underlying e = some (.int .u8)) (hct : P.cellsOf t = 2) (hce : P.cellsOf e = 1)
    (hval : Value.okWide P W r b0 t v) (hd : DataW.Trod enc P W base spare held t v d ps) :
    ∃ m n, v = .agg #[.int .u8 m, .int .u8 n] ∧ d = .agg [.lit (.int .u8 m), .lit (.int .u8 n)] ∧ ps = [] ∧ (Lit.int .u8 m).wf = true ∧ (Lit.int .u8 n).wf = true := by
  simp only [Value.okWide, ht] at hval
  obtain ⟨cs, rfl, hsz, -⟩ := hval
  rw [hct] at hsz
  obtain ⟨fuel, hf⟩ := hd
  obtain ⟨xs, m, -, hx, hl, hn, hel⟩ := DataW.trod_array ht hf
  obtain ⟨l⟩ := cs
  match l, hsz, xs, hn with
  | [u, v], _, [y0, y1], _ =>
    have h0 := hel 0 (by omega)
    have h1 := hel 1 (by omega)
    simp [hce, Value.cells] at h0 h1
    obtain ⟨a0, e0, rfl, w0⟩ := DataW.trod_int he h0
    obtain ⟨a1, e1, rfl, w1⟩ := DataW.trod_int he h1
    simp at e0 e1
    subst e0 e1
    simp only [Prod.mk.injEq] at hx
    exact ⟨a0, a1, rfl, by simpa using hx.1, by simpa using hx.2, w0, w1⟩
end
/-- A list of texts, as an argument. -/
theorem open_texts {H : Type} {enc : TypeId × Value → H} {W : World} {v : Value} {d : DataW H} {ps : List MemPlace} (hval : Value.okWide Tryz.prog W .any 0 22 v)
    (hd : DataW.Trod enc Tryz.prog W 0 (fun _ => true) true 22 v d ps) :
    ∃ xs : List ByteArray, Sl eS W v xs ∧ ∀ s ∈ xs, s.size ≤ maxLen := by
  obtain ⟨a, len, cap, rfl⟩ := okWide_slice Tryz.underlying22 hval
  obtain ⟨fuel, hf⟩ := hd
  rcases open_strings Tryz.underlying22 Tryz.underlying26 (by kernel_rfl) hf with ⟨hcs, hx⟩ | ⟨a', len', cap', ss, hcs, _, hl, hm, hz, hx, hcell, hsz⟩
  · simp [Value.cells] at hcs
    obtain ⟨rfl, rfl, rfl⟩ := hcs
    exact ⟨[], Sl.nil, by simp⟩
  · simp [Value.cells] at hcs
    obtain ⟨rfl, rfl, rfl⟩ := hcs
    simp only [if_true] at hz
    obtain ⟨b, off, spot⟩ := a'
    have hlen : (ss.take len).length = len := by simp; omega
    have hspot : 0 < len → spot = none := fun h0 => by simpa [Addr.add] using World.cell?_spot (hcell 0 (by omega))
    have hadd : 0 < len → ∀ i, (⟨b, off, spot⟩ : Addr).add i = ⟨b, off + i, none⟩ := fun h0 i => by rw [hspot h0]; simp [Addr.add]
    refine ⟨ss.take len, ⟨some ⟨b, off, spot⟩, b, off, cap, by rw [hlen], fun h => ?_, by omega, hm, (fun h => absurd h (by simp)), ⟨fun h => ?_, fun i hi => ?_⟩⟩, fun s hs => hsz s (List.mem_of_mem_take hs)⟩
    · rw [hlen] at h; rw [hspot h]
    · rw [hlen] at h
      have := hcell 0 (by omega)
      rw [hadd h] at this
      exact World.block_lt_of_cell? _ _ this
    · rw [hlen] at hi
      have := hcell i (by omega)
      rw [hadd (by omega)] at this
      rw [this, List.getElem_take]
      simp [eS, List.getD, show i < ss.length by omega]
theorem again_all {H : Type} {enc : TypeId × Value → H} {P : Program} {W W' : World} (hl : laidOutB P = true) (hb : Below W.heap.size W W') :
    ∀ {ts : List TypeId} {vs : List Value} {ds : List (DataW H)} {ps : List MemPlace}, (∀ t ∈ ts, P.readableRec t = true ∧ t < P.types.size) → DataW.TrodAll enc P W 0 (fun _ => true) true ts vs ds ps →
      DataW.TrodAll enc P W' 0 (fun b => decide (b < W.heap.size)) true ts vs ds ps := by
  intro ts
  induction ts with
  | nil => intro vs ds ps _ h; exact match vs, ds, h with | [], [], h => h
  | cons t ts ih =>
    intro vs ds ps ht h
    obtain ⟨v, vs', d, ds', p, q, rfl, rfl, rfl, h1, h2⟩ := trodAll_cons h
    exact trodAll_cons_mk (Below.trod hl (ht t (by simp)).1 (ht t (by simp)).2 h1 hb (by obtain ⟨n, hn⟩ := h1; exact DataW.trod_lt n _ _ _ hn)) (ih (fun t' h' => ht t' (by simp [h'])) h2)
end Go.Proofs.YtajkhbpffakmfaaGreatDoor

namespace Go.Proofs.YtajkhbpffakmfaaGreatDoor
open Go.ChangeShapes Go.WideShapes Go.RowKit
set_option maxRecDepth 100000

section
variable {H : Type} {enc : TypeId × Value → H} {W : World}
theorem cs_texts {fuel : Nat} {cs : List Value} {x : DataW H × List MemPlace} (h : DataW.trod enc Tryz.prog W 0 (fun _ => true) true fuel 22 cs = some x) :
    ∃ (c : Value) (xs : List ByteArray), cs = [c] ∧ Sl eS W c xs ∧ ∀ s ∈ xs, s.size ≤ maxLen := by
  rcases open_strings Tryz.underlying22 Tryz.underlying26 (by kernel_rfl) h with ⟨hcs, hx⟩ | ⟨a, len, cap, ss, hcs, _, hl, hm, hz, hx, hcell, hsz⟩
  · exact ⟨_, [], hcs, Sl.nil, by simp⟩
  · simp only [if_true] at hz
    obtain ⟨b, off, spot⟩ := a
    have hlen : (ss.take len).length = len := by simp; omega
    have hspot : 0 < len → spot = none := fun h0 => by simpa [Addr.add] using World.cell?_spot (hcell 0 (by omega))
    have hadd : 0 < len → ∀ i, (⟨b, off, spot⟩ : Addr).add i = ⟨b, off + i, none⟩ := fun h0 i => by rw [hspot h0]; simp [Addr.add]
    refine ⟨_, ss.take len, hcs, ⟨some ⟨b, off, spot⟩, b, off, cap, by rw [hlen], fun h => ?_, by omega, hm, (fun h => absurd h (by simp)), ⟨fun h => ?_, fun i hi => ?_⟩⟩, fun s hs => hsz s (List.mem_of_mem_take hs)⟩
    · rw [hlen] at h; rw [hspot h]
    · rw [hlen] at h
      have := hcell 0 (by omega)
      rw [hadd h] at this
      exact World.block_lt_of_cell? _ _ this
    · rw [hlen] at hi
      have := hcell i (by omega)
      rw [hadd (by omega)] at this
      rw [this, List.getElem_take]
      simp [eS, List.getD, show i < ss.length by omega]
theorem cs_text {fuel : Nat} {cs : List Value} {x : DataW H × List MemPlace} (h : DataW.trod enc Tryz.prog W 0 (fun _ => true) true fuel 26 cs = some x) :
    ∃ s : ByteArray, cs = [.string s] ∧ s.size ≤ maxLen := by
  obtain ⟨s, h1, -, h2⟩ := DataW.trod_string Tryz.underlying26 h
  exact ⟨s, h1, h2⟩
end
end Go.Proofs.YtajkhbpffakmfaaGreatDoor
