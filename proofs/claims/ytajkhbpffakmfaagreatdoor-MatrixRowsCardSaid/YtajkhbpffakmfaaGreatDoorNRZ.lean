/- The walk of the law MatrixRows. -/
import Derived.Test.YtajkhbpffakmfaaGreatDoorPk8
import Derived.Deep.DeepCutAuto
namespace Go.Proofs.YtajkhbpffakmfaaGreatDoor
open Go.RowKit
set_option maxRecDepth 100000

set_option maxHeartbeats 16000000 in
theorem rows03_any (w : World) (R C : Int) (v : Value) (xs : List ByteArray) (hv : Sl eS w v xs) (a b : Int) (s : ByteArray) (hsz : ∀ s ∈ xs, s.size ≤ 9223372036854775807) (ha : 0 ≤ a ∧ a ≤ 255) (hb : 0 ≤ b ∧ b ≤ 255) (hs : s.size ≤ 9223372036854775807) (he : Env w) :
    Calls Tryz.prog 3 #[.agg #[.int .i64 R, .int .i64 C, v], .agg #[.int .u8 a, .int .u8 b], .string s] w (Rets fun v w' => v = .bool true ∧ Below w.heap.size w w') := by
  have HS := Lib.hid hsz; have HV0 := Lib.hid hv; have HE0 := Lib.hid he
  obtain ⟨ad, cap, rfl⟩ := sl_form hv
  have A0 := Lib.hid (fun (w1 : World) (o : Obj) => (Below.refl w1.heap.size w1).alloc (Nat.le_refl _) o)
  clear hv hsz he
  cases hq : sq1 R C xs
  · have HQ := Lib.hid hq
    clear hq
    have HB := Lib.hid (((Below.refl w.heap.size w).alloc (Nat.le_refl _) (.cells #[.int .i64 R, .int .i64 C, .slice ad xs.length cap] 24)).alloc (by simp) (.cells #[.int .u8 a, .int .u8 b] 25))
    have HV := Lib.hid (HV0.out.below HB.out (Nat.le_refl _))
    have HE := Lib.hid (HE0.out.below HB.out (Nat.le_refl _))
    have HK := Lib.hid ((Blk.new w [.int .i64 R, .int .i64 C, .slice ad xs.length cap] 24).alloc (.cells #[.int .u8 a, .int .u8 b] 25))
    have HP := Lib.hid (Blk.at1 w (.cells #[.int .i64 R, .int .i64 C, .slice ad xs.length cap] 24) [.int .u8 a, .int .u8 b] 25)
    have b0 := HK.out.cell 0 _ rfl; have b1 := HK.out.cell 1 _ rfl; have b2 := HK.out.cell 2 _ rfl
    go_enter Tryz.func3, Tryz.ntmps3
    go_wp2_with (first
      | (go_at_call 6; (with_reducible refine (square1_any _ _ R C _ xs (Blk.at2 w _ _ [.int .i64 R, .int .i64 C, .slice ad xs.length cap] 24) (HV.out.below (A0.out _ _) (Nat.le_refl _)) HS.out).mono ?_); rintro e w1 ⟨v, rfl, rfl, h1⟩; rw [HQ.out]; have h1 := ((A0.out _ _).trans (h1.mono (by simp))); have HE1 := Lib.hid (HE.out.below h1 (Nat.le_refl _)); have HK1 := Lib.hid (HK.out.below h1 (Nat.le_refl _)); have HP1 := Lib.hid (HP.out.below h1 (Nat.le_refl _)); have HV1 := Lib.hid (HV.out.below h1 (Nat.le_refl _)); have q1 := HB.out.trans (h1.mono HB.out.size); have c0 := HK1.out.cell 0 _ rfl; have c1 := HK1.out.cell 1 _ rfl; have c2 := HK1.out.cell 2 _ rfl; have d0 := HP1.out.cell 0 _ rfl; have d1 := HP1.out.cell 1 _ rfl)
      | (go_at_call 8; (with_reducible refine (awake03 _ HE1.out).mono ?_); rintro e w2 ⟨v, rfl, rfl, h2⟩; have q2 := q1.trans (h2.mono q1.size)))
    go_ret
    exact ⟨_, rfl, rfl, q2⟩
  obtain ⟨n, rfl, rfl, hn6, hrm, h9⟩ := sq1_rm hq
  have HQ := Lib.hid hq
  clear hq
  by_cases hn2 : (n : Int) < 2
  · clear hrm h9
    have HB := Lib.hid (((Below.refl w.heap.size w).alloc (Nat.le_refl _) (.cells #[.int .i64 n, .int .i64 n, .slice ad xs.length cap] 24)).alloc (by simp) (.cells #[.int .u8 a, .int .u8 b] 25))
    have HV := Lib.hid (HV0.out.below HB.out (Nat.le_refl _))
    have HE := Lib.hid (HE0.out.below HB.out (Nat.le_refl _))
    have HK := Lib.hid ((Blk.new w [.int .i64 n, .int .i64 n, .slice ad xs.length cap] 24).alloc (.cells #[.int .u8 a, .int .u8 b] 25))
    have HP := Lib.hid (Blk.at1 w (.cells #[.int .i64 n, .int .i64 n, .slice ad xs.length cap] 24) [.int .u8 a, .int .u8 b] 25)
    have b0 := HK.out.cell 0 _ rfl; have b1 := HK.out.cell 1 _ rfl; have b2 := HK.out.cell 2 _ rfl
    go_enter Tryz.func3, Tryz.ntmps3
    go_wp2_with (first
      | (go_at_call 6; (with_reducible refine (square1_any _ _ n n _ xs (Blk.at2 w _ _ [.int .i64 n, .int .i64 n, .slice ad xs.length cap] 24) (HV.out.below (A0.out _ _) (Nat.le_refl _)) HS.out).mono ?_); rintro e w1 ⟨v, rfl, rfl, h1⟩; rw [HQ.out]; have h1 := ((A0.out _ _).trans (h1.mono (by simp))); have HE1 := Lib.hid (HE.out.below h1 (Nat.le_refl _)); have HK1 := Lib.hid (HK.out.below h1 (Nat.le_refl _)); have HP1 := Lib.hid (HP.out.below h1 (Nat.le_refl _)); have HV1 := Lib.hid (HV.out.below h1 (Nat.le_refl _)); have q1 := HB.out.trans (h1.mono HB.out.size); have c0 := HK1.out.cell 0 _ rfl; have c1 := HK1.out.cell 1 _ rfl; have c2 := HK1.out.cell 2 _ rfl; have d0 := HP1.out.cell 0 _ rfl; have d1 := HP1.out.cell 1 _ rfl)
      | (go_at_call 8; (with_reducible refine (awake03 _ HE1.out).mono ?_); rintro e w2 ⟨v, rfl, rfl, h2⟩; have q2 := q1.trans (h2.mono q1.size)))
    go_ret
    exact ⟨_, rfl, rfl, q2⟩
  by_cases hs9 : (9 : Int) < (s.size : Int)
  · clear hrm h9
    have HB := Lib.hid (((Below.refl w.heap.size w).alloc (Nat.le_refl _) (.cells #[.int .i64 n, .int .i64 n, .slice ad xs.length cap] 24)).alloc (by simp) (.cells #[.int .u8 a, .int .u8 b] 25))
    have HV := Lib.hid (HV0.out.below HB.out (Nat.le_refl _))
    have HE := Lib.hid (HE0.out.below HB.out (Nat.le_refl _))
    have HK := Lib.hid ((Blk.new w [.int .i64 n, .int .i64 n, .slice ad xs.length cap] 24).alloc (.cells #[.int .u8 a, .int .u8 b] 25))
    have HP := Lib.hid (Blk.at1 w (.cells #[.int .i64 n, .int .i64 n, .slice ad xs.length cap] 24) [.int .u8 a, .int .u8 b] 25)
    have b0 := HK.out.cell 0 _ rfl; have b1 := HK.out.cell 1 _ rfl; have b2 := HK.out.cell 2 _ rfl
    go_enter Tryz.func3, Tryz.ntmps3
    go_wp2_with (first
      | (go_at_call 6; (with_reducible refine (square1_any _ _ n n _ xs (Blk.at2 w _ _ [.int .i64 n, .int .i64 n, .slice ad xs.length cap] 24) (HV.out.below (A0.out _ _) (Nat.le_refl _)) HS.out).mono ?_); rintro e w1 ⟨v, rfl, rfl, h1⟩; rw [HQ.out]; have h1 := ((A0.out _ _).trans (h1.mono (by simp))); have HE1 := Lib.hid (HE.out.below h1 (Nat.le_refl _)); have HK1 := Lib.hid (HK.out.below h1 (Nat.le_refl _)); have HP1 := Lib.hid (HP.out.below h1 (Nat.le_refl _)); have HV1 := Lib.hid (HV.out.below h1 (Nat.le_refl _)); have q1 := HB.out.trans (h1.mono HB.out.size); have c0 := HK1.out.cell 0 _ rfl; have c1 := HK1.out.cell 1 _ rfl; have c2 := HK1.out.cell 2 _ rfl; have d0 := HP1.out.cell 0 _ rfl; have d1 := HP1.out.cell 1 _ rfl)
      | (go_at_call 8; (with_reducible refine (awake03 _ HE1.out).mono ?_); rintro e w2 ⟨v, rfl, rfl, h2⟩; have q2 := q1.trans (h2.mono q1.size)))
    go_ret
    exact ⟨_, rfl, rfl, q2⟩
  have hs9' : (s.size : Int) ≤ 9 := by omega
  by_cases hc : chk s.data.toList = 0
  rotate_left
  · have hne : (chk s.data.toList != 0) = true := by simp [hc]
    clear hrm h9 hc
    have HB := Lib.hid (((Below.refl w.heap.size w).alloc (Nat.le_refl _) (.cells #[.int .i64 n, .int .i64 n, .slice ad xs.length cap] 24)).alloc (by simp) (.cells #[.int .u8 a, .int .u8 b] 25))
    have HV := Lib.hid (HV0.out.below HB.out (Nat.le_refl _))
    have HE := Lib.hid (HE0.out.below HB.out (Nat.le_refl _))
    have HK := Lib.hid ((Blk.new w [.int .i64 n, .int .i64 n, .slice ad xs.length cap] 24).alloc (.cells #[.int .u8 a, .int .u8 b] 25))
    have HP := Lib.hid (Blk.at1 w (.cells #[.int .i64 n, .int .i64 n, .slice ad xs.length cap] 24) [.int .u8 a, .int .u8 b] 25)
    have b0 := HK.out.cell 0 _ rfl; have b1 := HK.out.cell 1 _ rfl; have b2 := HK.out.cell 2 _ rfl
    go_enter Tryz.func3, Tryz.ntmps3
    go_wp2_with (first
      | (go_at_call 6; (with_reducible refine (square1_any _ _ n n _ xs (Blk.at2 w _ _ [.int .i64 n, .int .i64 n, .slice ad xs.length cap] 24) (HV.out.below (A0.out _ _) (Nat.le_refl _)) HS.out).mono ?_); rintro e w1 ⟨v, rfl, rfl, h1⟩; rw [HQ.out]; have h1 := ((A0.out _ _).trans (h1.mono (by simp))); have HE1 := Lib.hid (HE.out.below h1 (Nat.le_refl _)); have HK1 := Lib.hid (HK.out.below h1 (Nat.le_refl _)); have HP1 := Lib.hid (HP.out.below h1 (Nat.le_refl _)); have HV1 := Lib.hid (HV.out.below h1 (Nat.le_refl _)); have q1 := HB.out.trans (h1.mono HB.out.size); have c0 := HK1.out.cell 0 _ rfl; have c1 := HK1.out.cell 1 _ rfl; have c2 := HK1.out.cell 2 _ rfl; have d0 := HP1.out.cell 0 _ rfl; have d1 := HP1.out.cell 1 _ rfl)
      | (go_at_call 7; (with_reducible refine (rCheck_any _ s (by omega)).mono ?_); rintro e w9 ⟨v, rfl, rfl, rfl⟩)
      | (go_at_call 8; (with_reducible refine (awake03 _ HE1.out).mono ?_); rintro e w2 ⟨v, rfl, rfl, h2⟩; have q2 := q1.trans (h2.mono q1.size)))
    go_ret
    exact ⟨_, rfl, rfl, q2⟩
  have HC := Lib.hid hc
  have hn0 : ¬ n = 0 := by omega
  have tm : ∀ a : Int, 0 ≤ a ∧ a ≤ 255 → ∃ i : Nat, i < n ∧ (IntKind.i64.wrap a).tmod (n : Int) = (i : Int) := fun a ha => by
    have e1 : IntKind.i64.wrap a = a := by simp [IntKind.wrap, IntKind.bits, IntKind.signed]; omega
    obtain ⟨a', rfl⟩ : ∃ a' : Nat, a = (a' : Int) := ⟨a.toNat, by omega⟩
    exact ⟨a' % n, Nat.mod_lt _ (by omega), by rw [e1]; rfl⟩
  obtain ⟨i, hin, hia⟩ := tm a ha
  obtain ⟨k, hkn, hkb⟩ := tm b hb
  clear tm ha hb
  obtain ⟨z, hz⟩ := good_of hc
  obtain rfl := hz.eq
  clear hc
  have HB := Lib.hid (((Below.refl w.heap.size w).alloc (Nat.le_refl _) (.cells #[.int .i64 n, .int .i64 n, .slice ad xs.length cap] 24)).alloc (by simp) (.cells #[.int .u8 a, .int .u8 b] 25))
  have HV := Lib.hid (HV0.out.below HB.out (Nat.le_refl _))
  have HE := Lib.hid (HE0.out.below HB.out (Nat.le_refl _))
  have HK := Lib.hid ((Blk.new w [.int .i64 n, .int .i64 n, .slice ad xs.length cap] 24).alloc (.cells #[.int .u8 a, .int .u8 b] 25))
  have HP := Lib.hid (Blk.at1 w (.cells #[.int .i64 n, .int .i64 n, .slice ad xs.length cap] 24) [.int .u8 a, .int .u8 b] 25)
  have b0 := HK.out.cell 0 _ rfl; have b1 := HK.out.cell 1 _ rfl; have b2 := HK.out.cell 2 _ rfl
  go_enter Tryz.func3, Tryz.ntmps3
  go_wp2_with (first
    | (go_at_call 6; (with_reducible refine (square1_any _ _ n n _ xs (Blk.at2 w _ _ [.int .i64 n, .int .i64 n, .slice ad xs.length cap] 24) (HV.out.below (A0.out _ _) (Nat.le_refl _)) HS.out).mono ?_); rintro e w1 ⟨v, rfl, rfl, h1⟩; rw [HQ.out]; have h1 := ((A0.out _ _).trans (h1.mono (by simp))); have HE1 := Lib.hid (HE.out.below h1 (Nat.le_refl _)); have HK1 := Lib.hid (HK.out.below h1 (Nat.le_refl _)); have HP1 := Lib.hid (HP.out.below h1 (Nat.le_refl _)); have HV1 := Lib.hid (HV.out.below h1 (Nat.le_refl _)); have q1 := HB.out.trans (h1.mono HB.out.size); have c0 := HK1.out.cell 0 _ rfl; have c1 := HK1.out.cell 1 _ rfl; have c2 := HK1.out.cell 2 _ rfl; have d0 := HP1.out.cell 0 _ rfl; have d1 := HP1.out.cell 1 _ rfl)
    | (go_at_call 7; (with_reducible refine (rCheck_any _ (txt z) (by omega)).mono ?_); rintro e w9 ⟨v, rfl, rfl, rfl⟩; rw [HC.out])
    | (go_at_call 8; (with_reducible refine (awake03 _ HE1.out).mono ?_); rintro e w2 ⟨v, rfl, rfl, h2⟩; have q2 := q1.trans (h2.mono q1.size)))
  have hSd : w1.drew.cell? ⟨w.heap.size, 0, none⟩ = some (.int .i64 n) ∧ w1.drew.cell? ⟨w.heap.size, 1, none⟩ = some (.int .i64 n) ∧ w1.drew.cell? ⟨w.heap.size, 2, none⟩ = some (.slice ad xs.length cap) ∧ w1.drew.cell? ⟨w.heap.size + 1, 0, none⟩ = some (.int .u8 a) ∧ w1.drew.cell? ⟨w.heap.size + 1, 1, none⟩ = some (.int .u8 b) := ⟨c0, c1, c2, d0, d1⟩
  refine wp_regionJ (S := fun w' => w'.cell? ⟨w.heap.size, 0, none⟩ = some (.int .i64 n) ∧ w'.cell? ⟨w.heap.size, 1, none⟩ = some (.int .i64 n) ∧ w'.cell? ⟨w.heap.size, 2, none⟩ = some (.slice ad xs.length cap) ∧ w'.cell? ⟨w.heap.size + 1, 0, none⟩ = some (.int .u8 a) ∧ w'.cell? ⟨w.heap.size + 1, 1, none⟩ = some (.int .u8 b)) (A := fun _ => true) (by kernel_rfl) ?_
  refine wpAnyJ_take (i := 0) (oi := { dst := some 44, op := .indexAddr _ (.tmp 4) _, type := _, pos := _, after := _, guard := _ }) (v := ?_) rfl (by kernel_rfl) (by kernel_rfl) (by kernel_rfl) (early_sat (by kernel_rfl)) (fun _ _ _ h => h) (Or.inl ⟨by rfl, ?_⟩) hSd ?_
  rotate_left
  · intro wl hSw
    obtain ⟨s0, s1, s2, s3, s4⟩ := hSw
    go_simp
    with_reducible rfl
  simp only [Act.put, List.setIfInBounds_toArray, List.set_cons_zero, List.set_cons_succ]
  refine wpAnyJ_take (i := 1) (oi := { dst := some 45, op := .load _ (.tmp 44), type := _, pos := _, after := _, guard := _ }) (v := ?_) rfl (by kernel_rfl) (by kernel_rfl) (by kernel_rfl) (early_sat (by kernel_rfl)) (fun _ _ _ h => h) (Or.inl ⟨by rfl, ?_⟩) hSd ?_
  rotate_left
  · intro wl hSw
    obtain ⟨s0, s1, s2, s3, s4⟩ := hSw
    go_simp
    with_reducible rfl
  simp only [Act.put, List.setIfInBounds_toArray, List.set_cons_zero, List.set_cons_succ]
  refine wpAnyJ_take (i := 2) (oi := { dst := some 46, op := _, type := _, pos := _, after := _, guard := _ }) (v := ?_) rfl (by kernel_rfl) (by kernel_rfl) (by kernel_rfl) (early_sat (by kernel_rfl)) (fun _ _ _ h => h) (Or.inl ⟨by rfl, ?_⟩) hSd ?_
  rotate_left
  · intro wl hSw
    obtain ⟨s0, s1, s2, s3, s4⟩ := hSw
    go_simp
    with_reducible rfl
  simp only [Act.put, List.setIfInBounds_toArray, List.set_cons_zero, List.set_cons_succ]
  refine wpAnyJ_take (i := 3) (oi := { dst := some 47, op := .fieldAddr _ (.tmp 3) 0, type := _, pos := _, after := _, guard := _ }) (v := ?_) rfl (by kernel_rfl) (by kernel_rfl) (by kernel_rfl) (early_sat (by kernel_rfl)) (fun _ _ _ h => h) (Or.inl ⟨by rfl, ?_⟩) hSd ?_
  rotate_left
  · intro wl hSw
    obtain ⟨s0, s1, s2, s3, s4⟩ := hSw
    go_simp
    with_reducible rfl
  simp only [Act.put, List.setIfInBounds_toArray, List.set_cons_zero, List.set_cons_succ]
  refine wpAnyJ_take (i := 4) (oi := { dst := some 48, op := .load _ (.tmp 47), type := _, pos := _, after := _, guard := _ }) (v := ?_) rfl (by kernel_rfl) (by kernel_rfl) (by kernel_rfl) (early_sat (by kernel_rfl)) (fun _ _ _ h => h) (Or.inl ⟨by rfl, ?_⟩) hSd ?_
  rotate_left
  · intro wl hSw
    obtain ⟨s0, s1, s2, s3, s4⟩ := hSw
    go_simp
    with_reducible rfl
  simp only [Act.put, List.setIfInBounds_toArray, List.set_cons_zero, List.set_cons_succ]
  refine wpAnyJ_take (i := 5) (oi := { dst := some 49, op := .binOp _ _ (.tmp 46) (.tmp 48) _, type := _, pos := _, after := _, guard := _ }) (v := ?_) rfl (by kernel_rfl) (by kernel_rfl) (by kernel_rfl) (early_sat (by kernel_rfl)) (fun _ _ _ h => h) (Or.inl ⟨by rfl, ?_⟩) hSd ?_
  rotate_left
  · intro wl hSw
    obtain ⟨s0, s1, s2, s3, s4⟩ := hSw
    go_simp
    with_reducible rfl
  simp only [Act.put, List.setIfInBounds_toArray, List.set_cons_zero, List.set_cons_succ]
  refine wpAnyJ_take (i := 6) (oi := { dst := some 50, op := .indexAddr _ (.tmp 4) _, type := _, pos := _, after := _, guard := _ }) (v := ?_) rfl (by kernel_rfl) (by kernel_rfl) (by kernel_rfl) (early_sat (by kernel_rfl)) (fun _ _ _ h => h) (Or.inl ⟨by rfl, ?_⟩) hSd ?_
  rotate_left
  · intro wl hSw
    obtain ⟨s0, s1, s2, s3, s4⟩ := hSw
    go_simp
    with_reducible rfl
  simp only [Act.put, List.setIfInBounds_toArray, List.set_cons_zero, List.set_cons_succ]
  refine wpAnyJ_take (i := 7) (oi := { dst := some 51, op := .load _ (.tmp 50), type := _, pos := _, after := _, guard := _ }) (v := ?_) rfl (by kernel_rfl) (by kernel_rfl) (by kernel_rfl) (early_sat (by kernel_rfl)) (fun _ _ _ h => h) (Or.inl ⟨by rfl, ?_⟩) hSd ?_
  rotate_left
  · intro wl hSw
    obtain ⟨s0, s1, s2, s3, s4⟩ := hSw
    go_simp
    with_reducible rfl
  simp only [Act.put, List.setIfInBounds_toArray, List.set_cons_zero, List.set_cons_succ]
  refine wpAnyJ_take (i := 8) (oi := { dst := some 52, op := _, type := _, pos := _, after := _, guard := _ }) (v := ?_) rfl (by kernel_rfl) (by kernel_rfl) (by kernel_rfl) (early_sat (by kernel_rfl)) (fun _ _ _ h => h) (Or.inl ⟨by rfl, ?_⟩) hSd ?_
  rotate_left
  · intro wl hSw
    obtain ⟨s0, s1, s2, s3, s4⟩ := hSw
    go_simp
    with_reducible rfl
  simp only [Act.put, List.setIfInBounds_toArray, List.set_cons_zero, List.set_cons_succ]
  refine wpAnyJ_take (i := 9) (oi := { dst := some 53, op := .fieldAddr _ (.tmp 3) 0, type := _, pos := _, after := _, guard := _ }) (v := ?_) rfl (by kernel_rfl) (by kernel_rfl) (by kernel_rfl) (early_sat (by kernel_rfl)) (fun _ _ _ h => h) (Or.inl ⟨by rfl, ?_⟩) hSd ?_
  rotate_left
  · intro wl hSw
    obtain ⟨s0, s1, s2, s3, s4⟩ := hSw
    go_simp
    with_reducible rfl
  simp only [Act.put, List.setIfInBounds_toArray, List.set_cons_zero, List.set_cons_succ]
  refine wpAnyJ_take (i := 10) (oi := { dst := some 54, op := .load _ (.tmp 53), type := _, pos := _, after := _, guard := _ }) (v := ?_) rfl (by kernel_rfl) (by kernel_rfl) (by kernel_rfl) (early_sat (by kernel_rfl)) (fun _ _ _ h => h) (Or.inl ⟨by rfl, ?_⟩) hSd ?_
  rotate_left
  · intro wl hSw
    obtain ⟨s0, s1, s2, s3, s4⟩ := hSw
    go_simp
    with_reducible rfl
  simp only [Act.put, List.setIfInBounds_toArray, List.set_cons_zero, List.set_cons_succ]
  refine wpAnyJ_take (i := 11) (oi := { dst := some 55, op := .binOp _ _ (.tmp 52) (.tmp 54) _, type := _, pos := _, after := _, guard := _ }) (v := ?_) rfl (by kernel_rfl) (by kernel_rfl) (by kernel_rfl) (early_sat (by kernel_rfl)) (fun _ _ _ h => h) (Or.inl ⟨by rfl, ?_⟩) hSd ?_
  rotate_left
  · intro wl hSw
    obtain ⟨s0, s1, s2, s3, s4⟩ := hSw
    go_simp
    with_reducible rfl
  simp only [Act.put, List.setIfInBounds_toArray, List.set_cons_zero, List.set_cons_succ]
  refine wpAnyJ_take (i := 12) (oi := { dst := some 7, op := .assign (.tmp 49), type := _, pos := _, after := _, guard := _ }) (v := ?_) rfl (by kernel_rfl) (by kernel_rfl) (by kernel_rfl) (early_sat (by kernel_rfl)) (fun _ _ _ h => h) (Or.inl ⟨by rfl, ?_⟩) hSd ?_
  rotate_left
  · intro wl hSw
    obtain ⟨s0, s1, s2, s3, s4⟩ := hSw
    go_simp
    with_reducible rfl
  simp only [Act.put, List.setIfInBounds_toArray, List.set_cons_zero, List.set_cons_succ]
  refine wpAnyJ_take (i := 13) (oi := { dst := some 8, op := .assign (.tmp 55), type := _, pos := _, after := _, guard := _ }) (v := ?_) rfl (by kernel_rfl) (by kernel_rfl) (by kernel_rfl) (early_sat (by kernel_rfl)) (fun _ _ _ h => h) (Or.inl ⟨by rfl, ?_⟩) hSd ?_
  rotate_left
  · intro wl hSw
    obtain ⟨s0, s1, s2, s3, s4⟩ := hSw
    go_simp
    with_reducible rfl
  simp only [Act.put, List.setIfInBounds_toArray, List.set_cons_zero, List.set_cons_succ]
  refine wpAnyJ_done (by kernel_rfl) ?_ _
  clear hia hkb
  by_cases hik : i = k
  · have t1 : ((i : Int) == (k : Int)) = true := by simp [hik]
    clear hrm h9 hz
    have HE1 := Lib.hid (HE1.out.below (Below.refl w1.heap.size w1).drew (Nat.le_refl _)); have q1 := q1.trans ((Below.refl w1.heap.size w1).drew.mono q1.size)
    go_wp2_with ((go_at_call 8; (with_reducible refine (awake03 _ HE1.out).mono ?_); rintro e w2 ⟨v, rfl, rfl, h2⟩; have q2 := q1.trans (h2.mono q1.size)))
    go_ret
    exact ⟨_, rfl, rfl, q2⟩
  have t1 : ((i : Int) == (k : Int)) = false := by simp; omega
  obtain ⟨W, hW⟩ : ∃ W, w1.drew = W := ⟨_, rfl⟩
  have HKW := Lib.hid (HK1.out.below (Below.refl w1.heap.size w1).drew (Nat.le_refl _)); have HVW := Lib.hid (HV1.out.below (Below.refl w1.heap.size w1).drew (Nat.le_refl _)); have HEW := Lib.hid (HE1.out.below (Below.refl w1.heap.size w1).drew (Nat.le_refl _)); have HQW := Lib.hid (q1.trans ((Below.refl w1.heap.size w1).drew.mono q1.size))
  rw [hW] at HKW HVW HEW HQW ⊢
  have HNE := Lib.hid hik
  clear hW hSd c0 c1 c2 d0 d1 q1 h1 hik b0 b1 b2
  have c0 := HKW.out.cell 0 _ rfl; have c1 := HKW.out.cell 1 _ rfl; have c2 := HKW.out.cell 2 _ rfl
  have HNL := Lib.hid (show xs.length ≤ 36 by rw [hrm.len]; exact Nat.mul_le_mul hn6 hn6)
  have HNP := Lib.hid (show 0 < xs.length by rw [hrm.len]; exact Nat.mul_pos (by omega) (by omega))
  go_wp2_with fail
  go_cut [9, 10] (fun p9 p10 wx => ∃ g9 g10, p9 = .pointer (some ⟨g9, 0, none⟩) ∧ p10 = .pointer (some ⟨g10, 0, none⟩) ∧ Hid (R6 W wx g9 g10 n (.slice ad xs.length cap)))
  case first =>
    have hSd : W.drew.cell? ⟨w.heap.size, 0, none⟩ = some (.int .i64 n) ∧ W.drew.cell? ⟨w.heap.size, 1, none⟩ = some (.int .i64 n) ∧ W.drew.cell? ⟨w.heap.size, 2, none⟩ = some (.slice ad xs.length cap) := ⟨c0, c1, c2⟩
    refine wp_regionJ (S := fun w' => w'.cell? ⟨w.heap.size, 0, none⟩ = some (.int .i64 n) ∧ w'.cell? ⟨w.heap.size, 1, none⟩ = some (.int .i64 n) ∧ w'.cell? ⟨w.heap.size, 2, none⟩ = some (.slice ad xs.length cap)) (A := fun i => decide (i < 5)) (by kernel_rfl) ?_
    have HKv := Lib.hid (HKW.out.below (Below.refl W.heap.size W).drew (Nat.le_refl _)); have q := Lib.hid (Below.refl W.heap.size W).drew
    obtain ⟨v0, hv0⟩ : ∃ v0, W.drew = v0 := ⟨_, rfl⟩
    rw [hv0] at HKv q hSd ⊢
    clear hv0
    refine wpAnyJ_take (i := 0) (oi := { dst := some 60, op := .load _ (.tmp 3), type := _, pos := _, after := _, guard := _ }) (v := ?_) rfl (by kernel_rfl) (by kernel_rfl) (by kernel_rfl) (early_sat (by kernel_rfl)) (fun _ _ _ h => h) (Or.inl ⟨by rfl, ?_⟩) hSd ?_
    rotate_left
    · intro wl hSw
      obtain ⟨s0, s1, s2⟩ := hSw
      go_simp
      with_reducible rfl
    simp only [Act.put, List.setIfInBounds_toArray, List.set_cons_zero, List.set_cons_succ]
    refine wpAnyJ_take (i := 1) (oi := { dst := some 61, op := .load _ (.tmp 3), type := _, pos := _, after := _, guard := _ }) (v := ?_) rfl (by kernel_rfl) (by kernel_rfl) (by kernel_rfl) (early_sat (by kernel_rfl)) (fun _ _ _ h => h) (Or.inl ⟨by rfl, ?_⟩) hSd ?_
    rotate_left
    · intro wl hSw
      obtain ⟨s0, s1, s2⟩ := hSw
      go_simp
      with_reducible rfl
    simp only [Act.put, List.setIfInBounds_toArray, List.set_cons_zero, List.set_cons_succ]
    have Pv0 := Lib.hid q.out.size; have KLv0 := Lib.hid HKv.out.lt
    refine wpAnyJ_two' (i := 2) (j := 3) (o := { dst := some 9, op := _, type := _, pos := _, after := _, guard := _ }) (o' := { dst := some 10, op := _, type := _, pos := _, after := _, guard := _ }) (by kernel_rfl) rfl rfl (fun K hK => ?_) (fun K hK => ?_)
    · go_simp
      have h0 := (Below.refl v0.heap.size v0).alloc (Nat.le_refl _) (.cells #[.int .i64 0, .int .i64 0, .slice none 0 0] 24)
      have HF := Lib.hid (Blk.new v0 [.int .i64 0, .int .i64 0, .slice none 0 0] 24)
      have HKv := Lib.hid (HKv.out.below h0 (Nat.le_refl _)); have q := Lib.hid (q.out.trans (h0.mono q.out.size))
      obtain ⟨v1, hv1⟩ : ∃ v1, v0.alloc (.cells #[.int .i64 0, .int .i64 0, .slice none 0 0] 24) = v1 := ⟨_, rfl⟩
      have hlt0 : v0.heap.size < v1.heap.size := by rw [← hv1]; simp
      rw [hv1] at HF HKv q
      have hS := (⟨HKv.out.cell 0 _ rfl, HKv.out.cell 1 _ rfl, HKv.out.cell 2 _ rfl⟩ : v1.cell? ⟨w.heap.size, 0, none⟩ = some (.int .i64 n) ∧ v1.cell? ⟨w.heap.size, 1, none⟩ = some (.int .i64 n) ∧ v1.cell? ⟨w.heap.size, 2, none⟩ = some (.slice ad xs.length cap))
      refine hK.out _ _ (fun _ => hv1 ▸ hS) ?_
      rw [hv1]
      try simp only [Act.put, List.setIfInBounds_toArray, List.set_cons_zero, List.set_cons_succ]
      clear hK K h0 hv1
      have Pv1 := Lib.hid q.out.size; have KLv1 := Lib.hid HKv.out.lt
      refine wpAnyJ_only (i := 3) (o := { dst := some 10, op := _, type := _, pos := _, after := _, guard := _ }) (by kernel_rfl) rfl (fun K hK => ?_)
      go_simp
      have h1 := (Below.refl v1.heap.size v1).alloc (Nat.le_refl _) (.cells #[.int .i64 0, .int .i64 0, .slice none 0 0] 24)
      have HG := Lib.hid (Blk.new v1 [.int .i64 0, .int .i64 0, .slice none 0 0] 24)
      have HKv := Lib.hid (HKv.out.below h1 (Nat.le_refl _)); have q := Lib.hid (q.out.trans (h1.mono q.out.size))
      have HF := Lib.hid (HF.out.below h1 (Nat.le_refl _))
      obtain ⟨v2, hv2⟩ : ∃ v2, v1.alloc (.cells #[.int .i64 0, .int .i64 0, .slice none 0 0] 24) = v2 := ⟨_, rfl⟩
      have hlt1 : v1.heap.size < v2.heap.size := by rw [← hv2]; simp
      rw [hv2] at HG HKv q HF
      have hS := (⟨HKv.out.cell 0 _ rfl, HKv.out.cell 1 _ rfl, HKv.out.cell 2 _ rfl⟩ : v2.cell? ⟨w.heap.size, 0, none⟩ = some (.int .i64 n) ∧ v2.cell? ⟨w.heap.size, 1, none⟩ = some (.int .i64 n) ∧ v2.cell? ⟨w.heap.size, 2, none⟩ = some (.slice ad xs.length cap))
      refine hK.out _ _ (fun _ => hv2 ▸ hS) ?_
      rw [hv2]
      try simp only [Act.put, List.setIfInBounds_toArray, List.set_cons_zero, List.set_cons_succ]
      clear hK K h1 hv2
      have g0 := HF.out.free 0; have g1 := HF.out.free 1; have g2 := HF.out.free 2; have g3 := HF.out.cell 0 _ rfl; have g4 := HF.out.cell 1 _ rfl; have g5 := HF.out.cell 2 _ rfl
      refine wpAnyJ_only (i := 4) (o := { dst := none, op := .store _ (.tmp 9) (.tmp 60), type := _, pos := _, after := _, guard := _ }) (by kernel_rfl) rfl (fun K hK => ?_)
      go_simp
      have HK3 := fun a b c => ((HKv.out.setCell (g' := v0.heap.size) (j := 0) (Nat.ne_of_lt KLv0.out) a).setCell (g' := v0.heap.size) (j := 1) (Nat.ne_of_lt KLv0.out) b).setCell (g' := v0.heap.size) (j := 2) (Nat.ne_of_lt KLv0.out) c
      refine hK.out _ _ (fun _ => ⟨(HK3 _ _ _).cell 0 _ rfl, (HK3 _ _ _).cell 1 _ rfl, (HK3 _ _ _).cell 2 _ rfl⟩) ?_
      try simp only [Act.put, List.setIfInBounds_toArray, List.set_cons_zero, List.set_cons_succ]
      clear hK K
      have HB3 := Lib.hid (((HG.out.setCell (g' := v0.heap.size) (j := 0) (Nat.ne_of_gt hlt0) (.int .i64 n)).setCell (g' := v0.heap.size) (j := 1) (Nat.ne_of_gt hlt0) (.int .i64 n)).setCell (g' := v0.heap.size) (j := 2) (Nat.ne_of_gt hlt0) (.slice ad xs.length cap))
      clear g0 g1 g2 g3 g4 g5
      have g0 := HB3.out.free 0; have g1 := HB3.out.free 1; have g2 := HB3.out.free 2; have g3 := HB3.out.cell 0 _ rfl; have g4 := HB3.out.cell 1 _ rfl; have g5 := HB3.out.cell 2 _ rfl
      refine wpAnyJ_only (i := 5) (o := { dst := none, op := .store _ (.tmp 10) (.tmp 61), type := _, pos := _, after := _, guard := _ }) (by kernel_rfl) rfl (fun K hK => ?_)
      go_simp
      refine hK.out _ _ (fun h => absurd h (by decide)) ?_
      try simp only [Act.put, List.setIfInBounds_toArray, List.set_cons_zero, List.set_cons_succ]
      clear hK K
      refine wpAnyJ_done (by kernel_rfl) ?_ _
      clear g0 g1 g2 g3 g4 g5 hS
      go_wp2_with fail
      go_meet
      exact ⟨_, _, rfl, rfl, Lib.hid (R6.mk2 q.out Pv0.out Pv1.out (Nat.ne_of_lt hlt0) HF.out HG.out)⟩
    · go_simp
      have h0 := (Below.refl v0.heap.size v0).alloc (Nat.le_refl _) (.cells #[.int .i64 0, .int .i64 0, .slice none 0 0] 24)
      have HF := Lib.hid (Blk.new v0 [.int .i64 0, .int .i64 0, .slice none 0 0] 24)
      have HKv := Lib.hid (HKv.out.below h0 (Nat.le_refl _)); have q := Lib.hid (q.out.trans (h0.mono q.out.size))
      obtain ⟨v1, hv1⟩ : ∃ v1, v0.alloc (.cells #[.int .i64 0, .int .i64 0, .slice none 0 0] 24) = v1 := ⟨_, rfl⟩
      have hlt0 : v0.heap.size < v1.heap.size := by rw [← hv1]; simp
      rw [hv1] at HF HKv q
      have hS := (⟨HKv.out.cell 0 _ rfl, HKv.out.cell 1 _ rfl, HKv.out.cell 2 _ rfl⟩ : v1.cell? ⟨w.heap.size, 0, none⟩ = some (.int .i64 n) ∧ v1.cell? ⟨w.heap.size, 1, none⟩ = some (.int .i64 n) ∧ v1.cell? ⟨w.heap.size, 2, none⟩ = some (.slice ad xs.length cap))
      refine hK.out _ _ (fun _ => hv1 ▸ hS) ?_
      rw [hv1]
      try simp only [Act.put, List.setIfInBounds_toArray, List.set_cons_zero, List.set_cons_succ]
      clear hK K h0 hv1
      have Pv1 := Lib.hid q.out.size; have KLv1 := Lib.hid HKv.out.lt
      refine wpAnyJ_only (i := 2) (o := { dst := some 9, op := _, type := _, pos := _, after := _, guard := _ }) (by kernel_rfl) rfl (fun K hK => ?_)
      go_simp
      have h1 := (Below.refl v1.heap.size v1).alloc (Nat.le_refl _) (.cells #[.int .i64 0, .int .i64 0, .slice none 0 0] 24)
      have HG := Lib.hid (Blk.new v1 [.int .i64 0, .int .i64 0, .slice none 0 0] 24)
      have HKv := Lib.hid (HKv.out.below h1 (Nat.le_refl _)); have q := Lib.hid (q.out.trans (h1.mono q.out.size))
      have HF := Lib.hid (HF.out.below h1 (Nat.le_refl _))
      obtain ⟨v2, hv2⟩ : ∃ v2, v1.alloc (.cells #[.int .i64 0, .int .i64 0, .slice none 0 0] 24) = v2 := ⟨_, rfl⟩
      have hlt1 : v1.heap.size < v2.heap.size := by rw [← hv2]; simp
      rw [hv2] at HG HKv q HF
      have hS := (⟨HKv.out.cell 0 _ rfl, HKv.out.cell 1 _ rfl, HKv.out.cell 2 _ rfl⟩ : v2.cell? ⟨w.heap.size, 0, none⟩ = some (.int .i64 n) ∧ v2.cell? ⟨w.heap.size, 1, none⟩ = some (.int .i64 n) ∧ v2.cell? ⟨w.heap.size, 2, none⟩ = some (.slice ad xs.length cap))
      refine hK.out _ _ (fun _ => hv2 ▸ hS) ?_
      rw [hv2]
      try simp only [Act.put, List.setIfInBounds_toArray, List.set_cons_zero, List.set_cons_succ]
      clear hK K h1 hv2
      have g0 := HG.out.free 0; have g1 := HG.out.free 1; have g2 := HG.out.free 2; have g3 := HG.out.cell 0 _ rfl; have g4 := HG.out.cell 1 _ rfl; have g5 := HG.out.cell 2 _ rfl
      refine wpAnyJ_only (i := 4) (o := { dst := none, op := .store _ (.tmp 9) (.tmp 60), type := _, pos := _, after := _, guard := _ }) (by kernel_rfl) rfl (fun K hK => ?_)
      go_simp
      have HK3 := fun a b c => ((HKv.out.setCell (g' := v1.heap.size) (j := 0) (Nat.ne_of_lt KLv1.out) a).setCell (g' := v1.heap.size) (j := 1) (Nat.ne_of_lt KLv1.out) b).setCell (g' := v1.heap.size) (j := 2) (Nat.ne_of_lt KLv1.out) c
      refine hK.out _ _ (fun _ => ⟨(HK3 _ _ _).cell 0 _ rfl, (HK3 _ _ _).cell 1 _ rfl, (HK3 _ _ _).cell 2 _ rfl⟩) ?_
      try simp only [Act.put, List.setIfInBounds_toArray, List.set_cons_zero, List.set_cons_succ]
      clear hK K
      have HB3 := Lib.hid (((HF.out.setCell (g' := v1.heap.size) (j := 0) (Nat.ne_of_lt hlt0) (.int .i64 n)).setCell (g' := v1.heap.size) (j := 1) (Nat.ne_of_lt hlt0) (.int .i64 n)).setCell (g' := v1.heap.size) (j := 2) (Nat.ne_of_lt hlt0) (.slice ad xs.length cap))
      clear g0 g1 g2 g3 g4 g5
      have g0 := HB3.out.free 0; have g1 := HB3.out.free 1; have g2 := HB3.out.free 2; have g3 := HB3.out.cell 0 _ rfl; have g4 := HB3.out.cell 1 _ rfl; have g5 := HB3.out.cell 2 _ rfl
      refine wpAnyJ_only (i := 5) (o := { dst := none, op := .store _ (.tmp 10) (.tmp 61), type := _, pos := _, after := _, guard := _ }) (by kernel_rfl) rfl (fun K hK => ?_)
      go_simp
      refine hK.out _ _ (fun h => absurd h (by decide)) ?_
      try simp only [Act.put, List.setIfInBounds_toArray, List.set_cons_zero, List.set_cons_succ]
      clear hK K
      refine wpAnyJ_done (by kernel_rfl) ?_ _
      clear g0 g1 g2 g3 g4 g5 hS
      go_wp2_with fail
      go_meet
      exact ⟨_, _, rfl, rfl, Lib.hid (R6.mk2 q.out Pv1.out Pv0.out (Nat.ne_of_gt hlt0) HG.out HF.out)⟩
  case rest =>
    obtain ⟨g9, g10, rfl, rfl, h6⟩ := hcut
    have H6 := Lib.hid h6.out
    clear h6 c0 c1 c2
    have HVc := Lib.hid (HVW.out.below H6.out.bel (Nat.le_refl _)); have HKc := Lib.hid (HKW.out.below H6.out.bel (Nat.le_refl _))
    have c0 := HKc.out.cell 0 _ rfl; have c1 := HKc.out.cell 1 _ rfl; have c2 := HKc.out.cell 2 _ rfl
    go_wp2_with fail
    go_cut [] (fun wx => ∃ ra rb ca cb, Hid (RX W wx g9 g10 ra rb xs.length ca cb n xs xs))
    case first =>
      have hSd : wc.drew.cell? ⟨w.heap.size, 0, none⟩ = some (.int .i64 n) ∧ wc.drew.cell? ⟨w.heap.size, 1, none⟩ = some (.int .i64 n) ∧ wc.drew.cell? ⟨w.heap.size, 2, none⟩ = some (.slice ad xs.length cap) := ⟨c0, c1, c2⟩
      refine wp_regionJ (S := fun w' => w'.cell? ⟨w.heap.size, 0, none⟩ = some (.int .i64 n) ∧ w'.cell? ⟨w.heap.size, 1, none⟩ = some (.int .i64 n) ∧ w'.cell? ⟨w.heap.size, 2, none⟩ = some (.slice ad xs.length cap)) (A := fun i => decide (i < 7)) (by kernel_rfl) ?_
      have HKv := Lib.hid (HKc.out.below (Below.refl wc.heap.size wc).drew (Nat.le_refl _)); have HVv := Lib.hid (HVc.out.below (Below.refl wc.heap.size wc).drew (Nat.le_refl _)); have H6v := Lib.hid (H6.out.keep (Below.refl wc.heap.size wc).drew)
      obtain ⟨v0, hv0⟩ : ∃ v0, wc.drew = v0 := ⟨_, rfl⟩
      rw [hv0] at HKv HVv H6v hSd ⊢
      clear hv0
      refine wpAnyJ_take (i := 0) (oi := { dst := some 62, op := .fieldAddr _ (.tmp 3) 2, type := _, pos := _, after := _, guard := _ }) (v := ?_) rfl (by kernel_rfl) (by kernel_rfl) (by kernel_rfl) (early_sat (by kernel_rfl)) (fun _ _ _ h => h) (Or.inl ⟨by rfl, ?_⟩) hSd ?_
      rotate_left
      · intro wl hSw
        obtain ⟨s0, s1, s2⟩ := hSw
        go_simp
        with_reducible rfl
      simp only [Act.put, List.setIfInBounds_toArray, List.set_cons_zero, List.set_cons_succ]
      refine wpAnyJ_take (i := 1) (oi := { dst := some 63, op := .load _ (.tmp 62), type := _, pos := _, after := _, guard := _ }) (v := ?_) rfl (by kernel_rfl) (by kernel_rfl) (by kernel_rfl) (early_sat (by kernel_rfl)) (fun _ _ _ h => h) (Or.inl ⟨by rfl, ?_⟩) hSd ?_
      rotate_left
      · intro wl hSw
        obtain ⟨s0, s1, s2⟩ := hSw
        go_simp
        with_reducible rfl
      simp only [Act.put, List.setIfInBounds_toArray, List.set_cons_zero, List.set_cons_succ]
      refine wpAnyJ_take (i := 3) (oi := { dst := some 65, op := .fieldAddr _ (.tmp 3) 2, type := _, pos := _, after := _, guard := _ }) (v := ?_) rfl (by kernel_rfl) (by kernel_rfl) (by kernel_rfl) (early_sat (by kernel_rfl)) (fun _ _ _ h => h) (Or.inl ⟨by rfl, ?_⟩) hSd ?_
      rotate_left
      · intro wl hSw
        obtain ⟨s0, s1, s2⟩ := hSw
        go_simp
        with_reducible rfl
      simp only [Act.put, List.setIfInBounds_toArray, List.set_cons_zero, List.set_cons_succ]
      refine wpAnyJ_take (i := 4) (oi := { dst := some 66, op := .load _ (.tmp 65), type := _, pos := _, after := _, guard := _ }) (v := ?_) rfl (by kernel_rfl) (by kernel_rfl) (by kernel_rfl) (early_sat (by kernel_rfl)) (fun _ _ _ h => h) (Or.inl ⟨by rfl, ?_⟩) hSd ?_
      rotate_left
      · intro wl hSw
        obtain ⟨s0, s1, s2⟩ := hSw
        go_simp
        with_reducible rfl
      simp only [Act.put, List.setIfInBounds_toArray, List.set_cons_zero, List.set_cons_succ]
      refine wpAnyJ_only (i := 2) (o := { dst := some 64, op := _, type := _, pos := _, after := _, guard := _ }) (by kernel_rfl) rfl (fun K hK => ?_)
      go_simp
      refine (clone_any _ _ xs HVv.out (by have := HNL.out; omega)).mono ?_
      rintro e v1 ⟨u1, rfl, own1, hb1⟩
      obtain ⟨r1, cap1, rfl⟩ := own_some own1 (by have := HNP.out; omega)
      have HO1 := Lib.hid own1; have HB1 := Lib.hid hb1
      have HKv := Lib.hid (HKv.out.below hb1 (Nat.le_refl _)); have HVv := Lib.hid (HVv.out.below hb1 (Nat.le_refl _))
      have hS := (⟨HKv.out.cell 0 _ rfl, HKv.out.cell 1 _ rfl, HKv.out.cell 2 _ rfl⟩ : v1.cell? ⟨w.heap.size, 0, none⟩ = some (.int .i64 n) ∧ v1.cell? ⟨w.heap.size, 1, none⟩ = some (.int .i64 n) ∧ v1.cell? ⟨w.heap.size, 2, none⟩ = some (.slice ad xs.length cap))
      clear own1 hb1
      refine hK.out _ _ (fun _ => hS) ?_
      try simp only [Act.put, List.setIfInBounds_toArray, List.set_cons_zero, List.set_cons_succ]
      clear hK K
      refine wpAnyJ_take (i := 6) (oi := { dst := some 68, op := .fieldAddr _ (.tmp 9) 2, type := _, pos := _, after := _, guard := _ }) (v := ?_) rfl (by kernel_rfl) (by kernel_rfl) (by kernel_rfl) (early_sat (by kernel_rfl)) (fun _ _ _ h => h) (Or.inl ⟨by rfl, ?_⟩) hS ?_
      rotate_left
      · intro wl hSw
        obtain ⟨s0, s1, s2⟩ := hSw
        go_simp
        with_reducible rfl
      simp only [Act.put, List.setIfInBounds_toArray, List.set_cons_zero, List.set_cons_succ]
      refine wpAnyJ_only (i := 5) (o := { dst := some 67, op := _, type := _, pos := _, after := _, guard := _ }) (by kernel_rfl) rfl (fun K hK => ?_)
      go_simp
      refine (clone_any _ _ xs HVv.out (by have := HNL.out; omega)).mono ?_
      rintro e v2 ⟨u2, rfl, own2, hb2⟩
      obtain ⟨r2, cap2, rfl⟩ := own_some own2 (by have := HNP.out; omega)
      have HO2 := Lib.hid own2; have HB2 := Lib.hid hb2
      have HKv := Lib.hid (HKv.out.below hb2 (Nat.le_refl _)); have HVv := Lib.hid (HVv.out.below hb2 (Nat.le_refl _))
      have hS := (⟨HKv.out.cell 0 _ rfl, HKv.out.cell 1 _ rfl, HKv.out.cell 2 _ rfl⟩ : v2.cell? ⟨w.heap.size, 0, none⟩ = some (.int .i64 n) ∧ v2.cell? ⟨w.heap.size, 1, none⟩ = some (.int .i64 n) ∧ v2.cell? ⟨w.heap.size, 2, none⟩ = some (.slice ad xs.length cap))
      clear own2 hb2
      refine hK.out _ _ (fun _ => hS) ?_
      try simp only [Act.put, List.setIfInBounds_toArray, List.set_cons_zero, List.set_cons_succ]
      clear hK K
      have H62 := Lib.hid ((H6v.out.keep HB1.out).keep HB2.out)
      have g0 := H62.out.b9.free 2; have g1 := H62.out.b9.cell 2 _ rfl
      refine wpAnyJ_only (i := 7) (o := { dst := none, op := .store _ (.tmp 68) (.tmp 64), type := _, pos := _, after := _, guard := _ }) (by kernel_rfl) rfl (fun K hK => ?_)
      go_simp
      refine hK.out _ _ (fun h => absurd h (by decide)) ?_
      try simp only [Act.put, List.setIfInBounds_toArray, List.set_cons_zero, List.set_cons_succ]
      clear hK K
      clear g0 g1
      refine wpAnyJ_only (i := 8) (o := { dst := some 69, op := .fieldAddr _ (.tmp 10) 2, type := _, pos := _, after := _, guard := _ }) (by kernel_rfl) rfl (fun K hK => ?_)
      go_simp
      refine hK.out _ _ (fun h => absurd h (by decide)) ?_
      try simp only [Act.put, List.setIfInBounds_toArray, List.set_cons_zero, List.set_cons_succ]
      clear hK K
      have HB3 := Lib.hid (H62.out.b10.setCell (g' := g9) (j := 2) (Ne.symm H62.out.ne) (.slice (some ⟨r1, 0, none⟩) xs.length cap1))
      have g0 := HB3.out.free 2; have g1 := HB3.out.cell 2 _ rfl
      refine wpAnyJ_only (i := 9) (o := { dst := none, op := .store _ (.tmp 69) (.tmp 67), type := _, pos := _, after := _, guard := _ }) (by kernel_rfl) rfl (fun K hK => ?_)
      go_simp
      refine hK.out _ _ (fun h => absurd h (by decide)) ?_
      try simp only [Act.put, List.setIfInBounds_toArray, List.set_cons_zero, List.set_cons_succ]
      clear hK K
      refine wpAnyJ_done (by kernel_rfl) ?_ _
      clear g0 g1 hS
      go_wp2_with fail
      go_meet
      exact ⟨_, _, _, _, Lib.hid (RX.mk7 H6v.out HB1.out HB2.out HO1.out HO2.out)⟩
    case rest =>
      obtain ⟨ra, rb, ca, cb, hx⟩ := hcut
      have HX0 := Lib.hid hx.out
      clear hx c0 c1 c2 H6 HVc HKc
      have hAd := fun i k (hi : i < n) (hk : k < n) => hrm.dn h9 hi hk
      have hxs := hrm.cells
      have hdz : dn z ≤ 9 := Nat.le_trans (dn_size hz) (by omega)
      obtain ⟨A, hAA⟩ : ∃ A, matF n xs = A := ⟨_, rfl⟩
      rw [hAA] at hAd hxs
      have hlen : xs.length = n * n := hrm.len
      have HAD := Lib.hid hAd; have HXS := Lib.hid hxs; have HDZ := Lib.hid hdz; have HLN := Lib.hid hlen
      have HX1 : Hid (RX W wc g9 g10 ra rb xs.length ca cb n (cellsF n n (rsw 0 i k A)) (cellsF n n (rad 0 i k z A))) := Lib.hid (by rw [rsw_zero, rad_zero, ← hxs]; exact HX0.out)
      clear hrm h9 hAA hAd hxs hdz hz hlen
      obtain ⟨ad9, bx, o, cap9, ex9, hi9, hp9, hcc9, hm9⟩ := HVW.out.open elemStr
      obtain ⟨rfl, rfl⟩ : ad = ad9 ∧ cap = cap9 := by simpa using ex9
      unfold maxLen at hm9
      have HP9 := Lib.hid hp9
      clear hp9 ex9 HX0
      have HKc := Lib.hid (HKW.out.below HX1.out.bel (Nat.le_refl _))
      have c0 := HKc.out.cell 0 _ rfl; have c1 := HKc.out.cell 1 _ rfl; have c2 := HKc.out.cell 2 _ rfl
      go_wp2_with fail
      clear c0 c1 c2
      go_loopw [72] (fun cv wr => ∃ q : Nat, q ≤ n ∧ cv = .int .i64 q ∧ Hid (RX W wr g9 g10 ra rb xs.length ca cb n (cellsF n n (rsw q i k A)) (cellsF n n (rad q i k z A)))) (fun cv _ => n - (intOf cv).toNat)
      case atStart => exact ⟨0, Nat.zero_le _, rfl, HX1⟩
      case round =>
        clear HX1 HKc
        obtain ⟨q, hq, rfl, hX⟩ := hrel
        have HX := Lib.hid hX.out
        clear hX
        by_cases hqn : q < n
        · obtain ⟨mi, hmi⟩ : ∃ m, i * n = m := ⟨_, rfl⟩
          obtain ⟨mk, hmk⟩ : ∃ m, k * n = m := ⟨_, rfl⟩
          obtain ⟨p1, hp1⟩ : ∃ m, i * n + q = m := ⟨_, rfl⟩
          obtain ⟨p2, hp2⟩ : ∃ m, k * n + q = m := ⟨_, rfl⟩
          have l1 : p1 < xs.length := by rw [HLN.out, ← hp1]; exact mul_lt hin hqn
          have l2 : p2 < xs.length := by rw [HLN.out, ← hp2]; exact mul_lt hkn hqn
          have x1 : xs[p1]'l1 = txt (A i q) := by
            have := cellsF_get? A hin hqn; rw [← HXS.out, hp1, List.getElem?_eq_getElem l1] at this; exact Option.some.inj this
          have x2 : xs[p2]'l2 = txt (A k q) := by
            have := cellsF_get? A hkn hqn; rw [← HXS.out, hp2, List.getElem?_eq_getElem l2] at this; exact Option.some.inj this
          have HN9 := Lib.hid (rsw_next A hin hkn hqn HNE.out)
          have HN10 := Lib.hid (rad_next (k := k) A z hin hqn)
          rw [hp1, hp2] at HN9
          rw [hp1] at HN10
          have e1 : (i : Int) * (n : Int) = (mi : Int) := by rw [← Int.natCast_mul, hmi]
          have e2 : (k : Int) * (n : Int) = (mk : Int) := by rw [← Int.natCast_mul, hmk]
          have e3 : (mi : Int) + (q : Int) = (p1 : Int) := by omega
          have e4 : (mk : Int) + (q : Int) = (p2 : Int) := by omega
          have wr64 : ∀ x : Nat, x ≤ 100 → IntKind.i64.wrap (x : Int) = (x : Int) := fun x hx => by simp [IntKind.wrap, IntKind.bits, IntKind.signed]; omega
          have l36 : xs.length ≤ 36 := HNL.out
          have w1 := wr64 mi (by omega); have w2 := wr64 mk (by omega); have w3 := wr64 p1 (by omega); have w4 := wr64 p2 (by omega)
          have HSf := Lib.hid (fun (w' : World) (l l' : List ByteArray) (H : RX W w' g9 g10 ra rb xs.length ca cb n l l') => show w'.cell? ⟨g9, 2, none⟩ = some (.slice (some ⟨ra, 0, none⟩) xs.length ca) ∧ w'.cell? ⟨w.heap.size, 1, none⟩ = some (.int .i64 n) ∧ w'.cell? ⟨w.heap.size, 2, none⟩ = some (.slice ad xs.length cap) ∧ w'.cell? ⟨bx, o + p1, none⟩ = some (.string (txt (A i q))) ∧ w'.cell? ⟨bx, o + p2, none⟩ = some (.string (txt (A k q))) from
            ⟨H.b9.cell 2 _ rfl, (HKW.out.below H.bel (Nat.le_refl _)).cell 1 _ rfl, (HKW.out.below H.bel (Nat.le_refl _)).cell 2 _ rfl, x1 ▸ HP9.out.at H.bel (Nat.le_refl _) p1 l1, x2 ▸ HP9.out.at H.bel (Nat.le_refl _) p2 l2⟩)
          have hda := HAD.out i q hin hqn; have hdk := HAD.out k q hkn hqn
          have hdm := dn_mul z (A k q)
          have hds := dn_add (A i q) (z * A k q)
          have hdz := HDZ.out
          have GZ := Lib.hid (bigD (show dn z ≤ 1024 by omega)); have GK := Lib.hid (bigD (show dn (A k q) ≤ 1024 by omega)); have GI := Lib.hid (bigD (show dn (A i q) ≤ 1024 by omega)); have GM := Lib.hid (bigD (show dn (z * A k q) ≤ 1024 by omega))
          have HR1 := Lib.hid (show resV (z * A k q) = .tuple #[.string (txt (z * A k q)), .int .i64 0] by unfold resV; rw [GM.out]; rfl)
          have HR2 := Lib.hid (show resV (A i q + z * A k q) = .tuple #[.string (txt (A i q + z * A k q)), .int .i64 0] by unfold resV; rw [bigD (show dn (A i q + z * A k q) ≤ 1024 by omega)]; rfl)
          clear wr64 hmi hmk hp1 hp2 x1 x2 hda hdk hdm hds hdz
          go_wp2_with fail
          refine wp_regionJ (S := fun w' => w'.cell? ⟨g9, 2, none⟩ = some (.slice (some ⟨ra, 0, none⟩) xs.length ca) ∧ w'.cell? ⟨w.heap.size, 1, none⟩ = some (.int .i64 n) ∧ w'.cell? ⟨w.heap.size, 2, none⟩ = some (.slice ad xs.length cap) ∧ w'.cell? ⟨bx, o + p1, none⟩ = some (.string (txt (A i q))) ∧ w'.cell? ⟨bx, o + p2, none⟩ = some (.string (txt (A k q)))) (A := fun i => decide (i < 38)) (by kernel_rfl) ?_
          have HXd := Lib.hid (HX.out.keep (Below.refl wr.heap.size wr).drew)
          have hSd := HSf.out _ _ _ HXd.out
          obtain ⟨v0, hv0⟩ : ∃ v0, wr.drew = v0 := ⟨_, rfl⟩
          rw [hv0] at HXd hSd ⊢
          clear hv0
          refine wpAnyJ_take (i := 0) (oi := { dst := some 75, op := .fieldAddr _ (.tmp 9) 2, type := _, pos := _, after := _, guard := _ }) (v := ?_) rfl (by kernel_rfl) (by kernel_rfl) (by kernel_rfl) (early_cert (L := #[false, false, true, true, true, true, true, true, true, true, true, true, true, true, true, true, true, true, true, true, true, true, true, true, true, true, true, true, true, true, true, true, true, true, true, true, false, false, false, false]) (by kernel_rfl)) (fun _ _ _ h => h) (Or.inl ⟨by rfl, ?_⟩) hSd ?_
          rotate_left
          · intro wl hSw
            obtain ⟨s0, s1, s2, s3, s4⟩ := hSw
            go_simp
            with_reducible rfl
          simp only [Act.put, List.setIfInBounds_toArray, List.set_cons_zero, List.set_cons_succ]
          refine wpAnyJ_take (i := 1) (oi := { dst := some 76, op := .load _ (.tmp 75), type := _, pos := _, after := _, guard := _ }) (v := ?_) rfl (by kernel_rfl) (by kernel_rfl) (by kernel_rfl) (early_cert (L := #[true, false, true, true, true, true, true, true, true, true, true, true, true, true, true, true, true, true, true, true, true, true, true, true, true, true, true, true, true, true, true, true, true, true, true, true, false, false, false, false]) (by kernel_rfl)) (fun _ _ _ h => h) (Or.inl ⟨by rfl, ?_⟩) hSd ?_
          rotate_left
          · intro wl hSw
            obtain ⟨s0, s1, s2, s3, s4⟩ := hSw
            go_simp
            with_reducible rfl
          simp only [Act.put, List.setIfInBounds_toArray, List.set_cons_zero, List.set_cons_succ]
          refine wpAnyJ_take (i := 2) (oi := { dst := some 77, op := .move (.tmp 7), type := _, pos := _, after := _, guard := _ }) (v := ?_) rfl (by kernel_rfl) (by kernel_rfl) (by kernel_rfl) (early_cert (L := #[true, true, false, true, true, false, true, false, true, true, true, true, true, true, true, true, true, true, true, true, true, true, true, true, true, true, true, true, true, true, true, true, true, true, true, true, false, false, false, false]) (by kernel_rfl)) (fun _ _ _ h => h) (Or.inl ⟨by rfl, ?_⟩) hSd ?_
          rotate_left
          · intro wl hSw
            obtain ⟨s0, s1, s2, s3, s4⟩ := hSw
            go_simp
            with_reducible rfl
          simp only [Act.put, List.setIfInBounds_toArray, List.set_cons_zero, List.set_cons_succ]
          refine wpAnyJ_take (i := 3) (oi := { dst := some 78, op := .fieldAddr _ (.tmp 3) 1, type := _, pos := _, after := _, guard := _ }) (v := ?_) rfl (by kernel_rfl) (by kernel_rfl) (by kernel_rfl) (early_cert (L := #[true, true, true, false, false, false, true, false, true, true, true, true, true, true, true, true, true, true, true, true, true, true, true, true, true, true, true, true, true, true, true, true, true, true, true, true, false, false, false, false]) (by kernel_rfl)) (fun _ _ _ h => h) (Or.inl ⟨by rfl, ?_⟩) hSd ?_
          rotate_left
          · intro wl hSw
            obtain ⟨s0, s1, s2, s3, s4⟩ := hSw
            go_simp
            with_reducible rfl
          simp only [Act.put, List.setIfInBounds_toArray, List.set_cons_zero, List.set_cons_succ]
          refine wpAnyJ_take (i := 4) (oi := { dst := some 79, op := .load _ (.tmp 78), type := _, pos := _, after := _, guard := _ }) (v := ?_) rfl (by kernel_rfl) (by kernel_rfl) (by kernel_rfl) (early_cert (L := #[true, true, true, true, false, false, true, false, true, true, true, true, true, true, true, true, true, true, true, true, true, true, true, true, true, true, true, true, true, true, true, true, true, true, true, true, false, false, false, false]) (by kernel_rfl)) (fun _ _ _ h => h) (Or.inl ⟨by rfl, ?_⟩) hSd ?_
          rotate_left
          · intro wl hSw
            obtain ⟨s0, s1, s2, s3, s4⟩ := hSw
            go_simp
            with_reducible rfl
          simp only [Act.put, List.setIfInBounds_toArray, List.set_cons_zero, List.set_cons_succ]
          refine wpAnyJ_take (i := 5) (oi := { dst := some 80, op := .binOp _ _ (.tmp 77) (.tmp 79) _, type := _, pos := _, after := _, guard := _ }) (v := ?_) rfl (by kernel_rfl) (by kernel_rfl) (by kernel_rfl) (early_cert (L := #[true, true, true, true, true, false, true, false, true, true, true, true, true, true, true, true, true, true, true, true, true, true, true, true, true, true, true, true, true, true, true, true, true, true, true, true, false, false, false, false]) (by kernel_rfl)) (fun _ _ _ h => h) (Or.inl ⟨by rfl, ?_⟩) hSd ?_
          rotate_left
          · intro wl hSw
            obtain ⟨s0, s1, s2, s3, s4⟩ := hSw
            go_simp
            with_reducible rfl
          simp only [Act.put, List.setIfInBounds_toArray, List.set_cons_zero, List.set_cons_succ]
          refine wpAnyJ_take (i := 6) (oi := { dst := some 81, op := .move (.tmp 11), type := _, pos := _, after := _, guard := _ }) (v := ?_) rfl (by kernel_rfl) (by kernel_rfl) (by kernel_rfl) (early_cert (L := #[true, true, true, true, true, true, false, false, true, true, true, true, true, true, true, true, true, true, true, true, true, true, true, true, true, true, true, true, true, true, true, true, true, true, true, true, false, false, false, false]) (by kernel_rfl)) (fun _ _ _ h => h) (Or.inl ⟨by rfl, ?_⟩) hSd ?_
          rotate_left
          · intro wl hSw
            obtain ⟨s0, s1, s2, s3, s4⟩ := hSw
            go_simp
            with_reducible rfl
          simp only [Act.put, List.setIfInBounds_toArray, List.set_cons_zero, List.set_cons_succ]
          refine wpAnyJ_take (i := 7) (oi := { dst := some 82, op := .binOp _ _ (.tmp 80) (.tmp 81) _, type := _, pos := _, after := _, guard := _ }) (v := ?_) rfl (by kernel_rfl) (by kernel_rfl) (by kernel_rfl) (early_cert (L := #[true, true, true, true, true, true, true, false, true, true, true, true, true, true, true, true, true, true, true, true, true, true, true, true, true, true, true, true, true, true, true, true, true, true, true, true, false, false, false, false]) (by kernel_rfl)) (fun _ _ _ h => h) (Or.inl ⟨by rfl, ?_⟩) hSd ?_
          rotate_left
          · intro wl hSw
            obtain ⟨s0, s1, s2, s3, s4⟩ := hSw
            go_simp
            with_reducible rfl
          simp only [Act.put, List.setIfInBounds_toArray, List.set_cons_zero, List.set_cons_succ]
          refine wpAnyJ_take (i := 8) (oi := { dst := some 83, op := .fieldAddr _ (.tmp 9) 2, type := _, pos := _, after := _, guard := _ }) (v := ?_) rfl (by kernel_rfl) (by kernel_rfl) (by kernel_rfl) (early_cert (L := #[true, true, true, true, true, true, true, true, false, false, true, true, true, true, true, true, true, true, true, true, true, true, true, true, true, true, true, true, true, true, true, true, true, true, true, true, true, true, false, false]) (by kernel_rfl)) (fun _ _ _ h => h) (Or.inl ⟨by rfl, ?_⟩) hSd ?_
          rotate_left
          · intro wl hSw
            obtain ⟨s0, s1, s2, s3, s4⟩ := hSw
            go_simp
            with_reducible rfl
          simp only [Act.put, List.setIfInBounds_toArray, List.set_cons_zero, List.set_cons_succ]
          refine wpAnyJ_take (i := 9) (oi := { dst := some 84, op := .load _ (.tmp 83), type := _, pos := _, after := _, guard := _ }) (v := ?_) rfl (by kernel_rfl) (by kernel_rfl) (by kernel_rfl) (early_cert (L := #[true, true, true, true, true, true, true, true, true, false, true, true, true, true, true, true, true, true, true, true, true, true, true, true, true, true, true, true, true, true, true, true, true, true, true, true, true, true, false, false]) (by kernel_rfl)) (fun _ _ _ h => h) (Or.inl ⟨by rfl, ?_⟩) hSd ?_
          rotate_left
          · intro wl hSw
            obtain ⟨s0, s1, s2, s3, s4⟩ := hSw
            go_simp
            with_reducible rfl
          simp only [Act.put, List.setIfInBounds_toArray, List.set_cons_zero, List.set_cons_succ]
          refine wpAnyJ_take (i := 10) (oi := { dst := some 85, op := .move (.tmp 8), type := _, pos := _, after := _, guard := _ }) (v := ?_) rfl (by kernel_rfl) (by kernel_rfl) (by kernel_rfl) (early_cert (L := #[true, true, true, true, true, true, true, true, true, true, false, true, true, false, true, false, true, true, true, true, true, true, true, true, true, true, true, true, true, true, true, true, true, true, true, true, true, true, false, false]) (by kernel_rfl)) (fun _ _ _ h => h) (Or.inl ⟨by rfl, ?_⟩) hSd ?_
          rotate_left
          · intro wl hSw
            obtain ⟨s0, s1, s2, s3, s4⟩ := hSw
            go_simp
            with_reducible rfl
          simp only [Act.put, List.setIfInBounds_toArray, List.set_cons_zero, List.set_cons_succ]
          refine wpAnyJ_take (i := 11) (oi := { dst := some 86, op := .fieldAddr _ (.tmp 3) 1, type := _, pos := _, after := _, guard := _ }) (v := ?_) rfl (by kernel_rfl) (by kernel_rfl) (by kernel_rfl) (early_cert (L := #[true, true, true, true, true, true, true, true, true, true, true, false, false, false, true, false, true, true, true, true, true, true, true, true, true, true, true, true, true, true, true, true, true, true, true, true, true, true, false, false]) (by kernel_rfl)) (fun _ _ _ h => h) (Or.inl ⟨by rfl, ?_⟩) hSd ?_
          rotate_left
          · intro wl hSw
            obtain ⟨s0, s1, s2, s3, s4⟩ := hSw
            go_simp
            with_reducible rfl
          simp only [Act.put, List.setIfInBounds_toArray, List.set_cons_zero, List.set_cons_succ]
          refine wpAnyJ_take (i := 12) (oi := { dst := some 87, op := .load _ (.tmp 86), type := _, pos := _, after := _, guard := _ }) (v := ?_) rfl (by kernel_rfl) (by kernel_rfl) (by kernel_rfl) (early_cert (L := #[true, true, true, true, true, true, true, true, true, true, true, true, false, false, true, false, true, true, true, true, true, true, true, true, true, true, true, true, true, true, true, true, true, true, true, true, true, true, false, false]) (by kernel_rfl)) (fun _ _ _ h => h) (Or.inl ⟨by rfl, ?_⟩) hSd ?_
          rotate_left
          · intro wl hSw
            obtain ⟨s0, s1, s2, s3, s4⟩ := hSw
            go_simp
            with_reducible rfl
          simp only [Act.put, List.setIfInBounds_toArray, List.set_cons_zero, List.set_cons_succ]
          refine wpAnyJ_take (i := 13) (oi := { dst := some 88, op := .binOp _ _ (.tmp 85) (.tmp 87) _, type := _, pos := _, after := _, guard := _ }) (v := ?_) rfl (by kernel_rfl) (by kernel_rfl) (by kernel_rfl) (early_cert (L := #[true, true, true, true, true, true, true, true, true, true, true, true, true, false, true, false, true, true, true, true, true, true, true, true, true, true, true, true, true, true, true, true, true, true, true, true, true, true, false, false]) (by kernel_rfl)) (fun _ _ _ h => h) (Or.inl ⟨by rfl, ?_⟩) hSd ?_
          rotate_left
          · intro wl hSw
            obtain ⟨s0, s1, s2, s3, s4⟩ := hSw
            go_simp
            with_reducible rfl
          simp only [Act.put, List.setIfInBounds_toArray, List.set_cons_zero, List.set_cons_succ]
          refine wpAnyJ_take (i := 14) (oi := { dst := some 89, op := .move (.tmp 11), type := _, pos := _, after := _, guard := _ }) (v := ?_) rfl (by kernel_rfl) (by kernel_rfl) (by kernel_rfl) (early_cert (L := #[true, true, true, true, true, true, true, true, true, true, true, true, true, true, false, false, true, true, true, true, true, true, true, true, true, true, true, true, true, true, true, true, true, true, true, true, true, true, false, false]) (by kernel_rfl)) (fun _ _ _ h => h) (Or.inl ⟨by rfl, ?_⟩) hSd ?_
          rotate_left
          · intro wl hSw
            obtain ⟨s0, s1, s2, s3, s4⟩ := hSw
            go_simp
            with_reducible rfl
          simp only [Act.put, List.setIfInBounds_toArray, List.set_cons_zero, List.set_cons_succ]
          refine wpAnyJ_take (i := 15) (oi := { dst := some 90, op := .binOp _ _ (.tmp 88) (.tmp 89) _, type := _, pos := _, after := _, guard := _ }) (v := ?_) rfl (by kernel_rfl) (by kernel_rfl) (by kernel_rfl) (early_cert (L := #[true, true, true, true, true, true, true, true, true, true, true, true, true, true, true, false, true, true, true, true, true, true, true, true, true, true, true, true, true, true, true, true, true, true, true, true, true, true, false, false]) (by kernel_rfl)) (fun _ _ _ h => h) (Or.inl ⟨by rfl, ?_⟩) hSd ?_
          rotate_left
          · intro wl hSw
            obtain ⟨s0, s1, s2, s3, s4⟩ := hSw
            go_simp
            with_reducible rfl
          simp only [Act.put, List.setIfInBounds_toArray, List.set_cons_zero, List.set_cons_succ]
          refine wpAnyJ_take (i := 16) (oi := { dst := some 91, op := .fieldAddr _ (.tmp 3) 2, type := _, pos := _, after := _, guard := _ }) (v := ?_) rfl (by kernel_rfl) (by kernel_rfl) (by kernel_rfl) (early_cert (L := #[true, true, true, true, true, true, true, true, true, true, true, true, true, true, true, true, false, false, true, true, true, true, true, true, false, false, true, true, true, true, true, true, true, true, true, true, false, false, false, false]) (by kernel_rfl)) (fun _ _ _ h => h) (Or.inl ⟨by rfl, ?_⟩) hSd ?_
          rotate_left
          · intro wl hSw
            obtain ⟨s0, s1, s2, s3, s4⟩ := hSw
            go_simp
            with_reducible rfl
          simp only [Act.put, List.setIfInBounds_toArray, List.set_cons_zero, List.set_cons_succ]
          refine wpAnyJ_take (i := 17) (oi := { dst := some 92, op := .load _ (.tmp 91), type := _, pos := _, after := _, guard := _ }) (v := ?_) rfl (by kernel_rfl) (by kernel_rfl) (by kernel_rfl) (early_cert (L := #[true, true, true, true, true, true, true, true, true, true, true, true, true, true, true, true, true, false, true, true, true, true, true, true, false, false, true, true, true, true, true, true, true, true, true, true, false, false, false, false]) (by kernel_rfl)) (fun _ _ _ h => h) (Or.inl ⟨by rfl, ?_⟩) hSd ?_
          rotate_left
          · intro wl hSw
            obtain ⟨s0, s1, s2, s3, s4⟩ := hSw
            go_simp
            with_reducible rfl
          simp only [Act.put, List.setIfInBounds_toArray, List.set_cons_zero, List.set_cons_succ]
          refine wpAnyJ_take (i := 18) (oi := { dst := some 93, op := .move (.tmp 8), type := _, pos := _, after := _, guard := _ }) (v := ?_) rfl (by kernel_rfl) (by kernel_rfl) (by kernel_rfl) (early_cert (L := #[true, true, true, true, true, true, true, true, true, true, true, true, true, true, true, true, true, true, false, true, true, false, true, false, false, false, true, true, true, true, true, true, true, true, true, true, false, false, false, false]) (by kernel_rfl)) (fun _ _ _ h => h) (Or.inl ⟨by rfl, ?_⟩) hSd ?_
          rotate_left
          · intro wl hSw
            obtain ⟨s0, s1, s2, s3, s4⟩ := hSw
            go_simp
            with_reducible rfl
          simp only [Act.put, List.setIfInBounds_toArray, List.set_cons_zero, List.set_cons_succ]
          refine wpAnyJ_take (i := 19) (oi := { dst := some 94, op := .fieldAddr _ (.tmp 3) 1, type := _, pos := _, after := _, guard := _ }) (v := ?_) rfl (by kernel_rfl) (by kernel_rfl) (by kernel_rfl) (early_cert (L := #[true, true, true, true, true, true, true, true, true, true, true, true, true, true, true, true, true, true, true, false, false, false, true, false, false, false, true, true, true, true, true, true, true, true, true, true, false, false, false, false]) (by kernel_rfl)) (fun _ _ _ h => h) (Or.inl ⟨by rfl, ?_⟩) hSd ?_
          rotate_left
          · intro wl hSw
            obtain ⟨s0, s1, s2, s3, s4⟩ := hSw
            go_simp
            with_reducible rfl
          simp only [Act.put, List.setIfInBounds_toArray, List.set_cons_zero, List.set_cons_succ]
          refine wpAnyJ_take (i := 20) (oi := { dst := some 95, op := .load _ (.tmp 94), type := _, pos := _, after := _, guard := _ }) (v := ?_) rfl (by kernel_rfl) (by kernel_rfl) (by kernel_rfl) (early_cert (L := #[true, true, true, true, true, true, true, true, true, true, true, true, true, true, true, true, true, true, true, true, false, false, true, false, false, false, true, true, true, true, true, true, true, true, true, true, false, false, false, false]) (by kernel_rfl)) (fun _ _ _ h => h) (Or.inl ⟨by rfl, ?_⟩) hSd ?_
          rotate_left
          · intro wl hSw
            obtain ⟨s0, s1, s2, s3, s4⟩ := hSw
            go_simp
            with_reducible rfl
          simp only [Act.put, List.setIfInBounds_toArray, List.set_cons_zero, List.set_cons_succ]
          refine wpAnyJ_take (i := 21) (oi := { dst := some 96, op := .binOp _ _ (.tmp 93) (.tmp 95) _, type := _, pos := _, after := _, guard := _ }) (v := ?_) rfl (by kernel_rfl) (by kernel_rfl) (by kernel_rfl) (early_cert (L := #[true, true, true, true, true, true, true, true, true, true, true, true, true, true, true, true, true, true, true, true, true, false, true, false, false, false, true, true, true, true, true, true, true, true, true, true, false, false, false, false]) (by kernel_rfl)) (fun _ _ _ h => h) (Or.inl ⟨by rfl, ?_⟩) hSd ?_
          rotate_left
          · intro wl hSw
            obtain ⟨s0, s1, s2, s3, s4⟩ := hSw
            go_simp
            with_reducible rfl
          simp only [Act.put, List.setIfInBounds_toArray, List.set_cons_zero, List.set_cons_succ]
          refine wpAnyJ_take (i := 22) (oi := { dst := some 97, op := .move (.tmp 11), type := _, pos := _, after := _, guard := _ }) (v := ?_) rfl (by kernel_rfl) (by kernel_rfl) (by kernel_rfl) (early_cert (L := #[true, true, true, true, true, true, true, true, true, true, true, true, true, true, true, true, true, true, true, true, true, true, false, false, false, false, true, true, true, true, true, true, true, true, true, true, false, false, false, false]) (by kernel_rfl)) (fun _ _ _ h => h) (Or.inl ⟨by rfl, ?_⟩) hSd ?_
          rotate_left
          · intro wl hSw
            obtain ⟨s0, s1, s2, s3, s4⟩ := hSw
            go_simp
            with_reducible rfl
          simp only [Act.put, List.setIfInBounds_toArray, List.set_cons_zero, List.set_cons_succ]
          refine wpAnyJ_take (i := 23) (oi := { dst := some 98, op := .binOp _ _ (.tmp 96) (.tmp 97) _, type := _, pos := _, after := _, guard := _ }) (v := ?_) rfl (by kernel_rfl) (by kernel_rfl) (by kernel_rfl) (early_cert (L := #[true, true, true, true, true, true, true, true, true, true, true, true, true, true, true, true, true, true, true, true, true, true, true, false, false, false, true, true, true, true, true, true, true, true, true, true, false, false, false, false]) (by kernel_rfl)) (fun _ _ _ h => h) (Or.inl ⟨by rfl, ?_⟩) hSd ?_
          rotate_left
          · intro wl hSw
            obtain ⟨s0, s1, s2, s3, s4⟩ := hSw
            go_simp
            with_reducible rfl
          simp only [Act.put, List.setIfInBounds_toArray, List.set_cons_zero, List.set_cons_succ]
          refine wpAnyJ_take (i := 24) (oi := { dst := some 99, op := .indexAddr _ (.tmp 92) (.tmp 98), type := _, pos := _, after := _, guard := _ }) (v := ?_) rfl (by kernel_rfl) (by kernel_rfl) (by kernel_rfl) (early_cert (L := #[true, true, true, true, true, true, true, true, true, true, true, true, true, true, true, true, true, true, true, true, true, true, true, true, false, false, true, true, true, true, true, true, true, true, true, true, false, false, false, false]) (by kernel_rfl)) (fun _ _ _ h => h) (Or.inl ⟨by rfl, ?_⟩) hSd ?_
          rotate_left
          · intro wl hSw
            obtain ⟨s0, s1, s2, s3, s4⟩ := hSw
            go_simp
            with_reducible rfl
          simp only [Act.put, List.setIfInBounds_toArray, List.set_cons_zero, List.set_cons_succ]
          refine wpAnyJ_take (i := 25) (oi := { dst := some 100, op := .load _ (.tmp 99), type := _, pos := _, after := _, guard := _ }) (v := ?_) rfl (by kernel_rfl) (by kernel_rfl) (by kernel_rfl) (early_cert (L := #[true, true, true, true, true, true, true, true, true, true, true, true, true, true, true, true, true, true, true, true, true, true, true, true, true, false, true, true, true, true, true, true, true, true, true, true, false, false, false, false]) (by kernel_rfl)) (fun _ _ _ h => h) (Or.inl ⟨by rfl, ?_⟩) hSd ?_
          rotate_left
          · intro wl hSw
            obtain ⟨s0, s1, s2, s3, s4⟩ := hSw
            go_simp
            with_reducible rfl
          simp only [Act.put, List.setIfInBounds_toArray, List.set_cons_zero, List.set_cons_succ]
          refine wpAnyJ_take (i := 26) (oi := { dst := some 101, op := .fieldAddr _ (.tmp 3) 2, type := _, pos := _, after := _, guard := _ }) (v := ?_) rfl (by kernel_rfl) (by kernel_rfl) (by kernel_rfl) (early_cert (L := #[true, true, true, true, true, true, true, true, true, true, true, true, true, true, true, true, true, true, true, true, true, true, true, true, true, true, false, false, true, true, true, true, true, true, false, false, false, false, false, false]) (by kernel_rfl)) (fun _ _ _ h => h) (Or.inl ⟨by rfl, ?_⟩) hSd ?_
          rotate_left
          · intro wl hSw
            obtain ⟨s0, s1, s2, s3, s4⟩ := hSw
            go_simp
            with_reducible rfl
          simp only [Act.put, List.setIfInBounds_toArray, List.set_cons_zero, List.set_cons_succ]
          refine wpAnyJ_take (i := 27) (oi := { dst := some 102, op := .load _ (.tmp 101), type := _, pos := _, after := _, guard := _ }) (v := ?_) rfl (by kernel_rfl) (by kernel_rfl) (by kernel_rfl) (early_cert (L := #[true, true, true, true, true, true, true, true, true, true, true, true, true, true, true, true, true, true, true, true, true, true, true, true, true, true, true, false, true, true, true, true, true, true, false, false, false, false, false, false]) (by kernel_rfl)) (fun _ _ _ h => h) (Or.inl ⟨by rfl, ?_⟩) hSd ?_
          rotate_left
          · intro wl hSw
            obtain ⟨s0, s1, s2, s3, s4⟩ := hSw
            go_simp
            with_reducible rfl
          simp only [Act.put, List.setIfInBounds_toArray, List.set_cons_zero, List.set_cons_succ]
          refine wpAnyJ_take (i := 28) (oi := { dst := some 103, op := .move (.tmp 7), type := _, pos := _, after := _, guard := _ }) (v := ?_) rfl (by kernel_rfl) (by kernel_rfl) (by kernel_rfl) (early_cert (L := #[true, true, true, true, true, true, true, true, true, true, true, true, true, true, true, true, true, true, true, true, true, true, true, true, true, true, true, true, false, true, true, false, true, false, false, false, false, false, false, false]) (by kernel_rfl)) (fun _ _ _ h => h) (Or.inl ⟨by rfl, ?_⟩) hSd ?_
          rotate_left
          · intro wl hSw
            obtain ⟨s0, s1, s2, s3, s4⟩ := hSw
            go_simp
            with_reducible rfl
          simp only [Act.put, List.setIfInBounds_toArray, List.set_cons_zero, List.set_cons_succ]
          refine wpAnyJ_take (i := 29) (oi := { dst := some 104, op := .fieldAddr _ (.tmp 3) 1, type := _, pos := _, after := _, guard := _ }) (v := ?_) rfl (by kernel_rfl) (by kernel_rfl) (by kernel_rfl) (early_cert (L := #[true, true, true, true, true, true, true, true, true, true, true, true, true, true, true, true, true, true, true, true, true, true, true, true, true, true, true, true, true, false, false, false, true, false, false, false, false, false, false, false]) (by kernel_rfl)) (fun _ _ _ h => h) (Or.inl ⟨by rfl, ?_⟩) hSd ?_
          rotate_left
          · intro wl hSw
            obtain ⟨s0, s1, s2, s3, s4⟩ := hSw
            go_simp
            with_reducible rfl
          simp only [Act.put, List.setIfInBounds_toArray, List.set_cons_zero, List.set_cons_succ]
          refine wpAnyJ_take (i := 30) (oi := { dst := some 105, op := .load _ (.tmp 104), type := _, pos := _, after := _, guard := _ }) (v := ?_) rfl (by kernel_rfl) (by kernel_rfl) (by kernel_rfl) (early_cert (L := #[true, true, true, true, true, true, true, true, true, true, true, true, true, true, true, true, true, true, true, true, true, true, true, true, true, true, true, true, true, true, false, false, true, false, false, false, false, false, false, false]) (by kernel_rfl)) (fun _ _ _ h => h) (Or.inl ⟨by rfl, ?_⟩) hSd ?_
          rotate_left
          · intro wl hSw
            obtain ⟨s0, s1, s2, s3, s4⟩ := hSw
            go_simp
            with_reducible rfl
          simp only [Act.put, List.setIfInBounds_toArray, List.set_cons_zero, List.set_cons_succ]
          refine wpAnyJ_take (i := 31) (oi := { dst := some 106, op := .binOp _ _ (.tmp 103) (.tmp 105) _, type := _, pos := _, after := _, guard := _ }) (v := ?_) rfl (by kernel_rfl) (by kernel_rfl) (by kernel_rfl) (early_cert (L := #[true, true, true, true, true, true, true, true, true, true, true, true, true, true, true, true, true, true, true, true, true, true, true, true, true, true, true, true, true, true, true, false, true, false, false, false, false, false, false, false]) (by kernel_rfl)) (fun _ _ _ h => h) (Or.inl ⟨by rfl, ?_⟩) hSd ?_
          rotate_left
          · intro wl hSw
            obtain ⟨s0, s1, s2, s3, s4⟩ := hSw
            go_simp
            with_reducible rfl
          simp only [Act.put, List.setIfInBounds_toArray, List.set_cons_zero, List.set_cons_succ]
          refine wpAnyJ_take (i := 32) (oi := { dst := some 107, op := .move (.tmp 11), type := _, pos := _, after := _, guard := _ }) (v := ?_) rfl (by kernel_rfl) (by kernel_rfl) (by kernel_rfl) (early_cert (L := #[true, true, true, true, true, true, true, true, true, true, true, true, true, true, true, true, true, true, true, true, true, true, true, true, true, true, true, true, true, true, true, true, false, false, false, false, false, false, false, false]) (by kernel_rfl)) (fun _ _ _ h => h) (Or.inl ⟨by rfl, ?_⟩) hSd ?_
          rotate_left
          · intro wl hSw
            obtain ⟨s0, s1, s2, s3, s4⟩ := hSw
            go_simp
            with_reducible rfl
          simp only [Act.put, List.setIfInBounds_toArray, List.set_cons_zero, List.set_cons_succ]
          refine wpAnyJ_take (i := 33) (oi := { dst := some 108, op := .binOp _ _ (.tmp 106) (.tmp 107) _, type := _, pos := _, after := _, guard := _ }) (v := ?_) rfl (by kernel_rfl) (by kernel_rfl) (by kernel_rfl) (early_cert (L := #[true, true, true, true, true, true, true, true, true, true, true, true, true, true, true, true, true, true, true, true, true, true, true, true, true, true, true, true, true, true, true, true, true, false, false, false, false, false, false, false]) (by kernel_rfl)) (fun _ _ _ h => h) (Or.inl ⟨by rfl, ?_⟩) hSd ?_
          rotate_left
          · intro wl hSw
            obtain ⟨s0, s1, s2, s3, s4⟩ := hSw
            go_simp
            with_reducible rfl
          simp only [Act.put, List.setIfInBounds_toArray, List.set_cons_zero, List.set_cons_succ]
          refine wpAnyJ_take (i := 34) (oi := { dst := some 109, op := .indexAddr _ (.tmp 102) (.tmp 108), type := _, pos := _, after := _, guard := _ }) (v := ?_) rfl (by kernel_rfl) (by kernel_rfl) (by kernel_rfl) (early_cert (L := #[true, true, true, true, true, true, true, true, true, true, true, true, true, true, true, true, true, true, true, true, true, true, true, true, true, true, true, true, true, true, true, true, true, true, false, false, false, false, false, false]) (by kernel_rfl)) (fun _ _ _ h => h) (Or.inl ⟨by rfl, ?_⟩) hSd ?_
          rotate_left
          · intro wl hSw
            obtain ⟨s0, s1, s2, s3, s4⟩ := hSw
            go_simp
            with_reducible rfl
          simp only [Act.put, List.setIfInBounds_toArray, List.set_cons_zero, List.set_cons_succ]
          refine wpAnyJ_take (i := 35) (oi := { dst := some 110, op := .load _ (.tmp 109), type := _, pos := _, after := _, guard := _ }) (v := ?_) rfl (by kernel_rfl) (by kernel_rfl) (by kernel_rfl) (early_cert (L := #[true, true, true, true, true, true, true, true, true, true, true, true, true, true, true, true, true, true, true, true, true, true, true, true, true, true, true, true, true, true, true, true, true, true, true, false, false, false, false, false]) (by kernel_rfl)) (fun _ _ _ h => h) (Or.inl ⟨by rfl, ?_⟩) hSd ?_
          rotate_left
          · intro wl hSw
            obtain ⟨s0, s1, s2, s3, s4⟩ := hSw
            go_simp
            with_reducible rfl
          simp only [Act.put, List.setIfInBounds_toArray, List.set_cons_zero, List.set_cons_succ]
          refine wpAnyJ_take (i := 36) (oi := { dst := some 111, op := .indexAddr _ (.tmp 76) (.tmp 82), type := _, pos := _, after := _, guard := _ }) (v := ?_) rfl (by kernel_rfl) (by kernel_rfl) (by kernel_rfl) (early_cert (L := #[true, true, true, true, true, true, true, true, true, true, true, true, true, true, true, true, true, true, true, true, true, true, true, true, true, true, true, true, true, true, true, true, true, true, true, true, false, false, false, false]) (by kernel_rfl)) (fun _ _ _ h => h) (Or.inl ⟨by rfl, ?_⟩) hSd ?_
          rotate_left
          · intro wl hSw
            obtain ⟨s0, s1, s2, s3, s4⟩ := hSw
            go_simp
            with_reducible rfl
          simp only [Act.put, List.setIfInBounds_toArray, List.set_cons_zero, List.set_cons_succ]
          have f1 := HXd.out.r9.frozenAt p1; obtain ⟨u1, f2⟩ : ∃ u, v0.cell? ⟨ra, p1, none⟩ = some u := ⟨_, (HXd.out.r9.cellAt p1 (by omega)).trans (List.getElem?_eq_getElem (by rw [List.length_map, cellsF_len, ← HLN.out]; exact l1))⟩
          have HX5 := Lib.hid (HXd.out.st9 p1 (txt (A k q)))
          have hS5 := HSf.out _ _ _ HX5.out
          refine wpAnyJ_only (i := 37) (o := { dst := none, op := .store _ (.tmp 111) (.tmp 100), type := _, pos := _, after := _, guard := _ }) (by kernel_rfl) rfl (fun K hK => ?_)
          go_simp
          refine hK.out _ _ (fun _ => hS5) ?_
          try simp only [Act.put, List.setIfInBounds_toArray, List.set_cons_zero, List.set_cons_succ]
          clear hK K
          clear f1 f2
          refine wpAnyJ_only (i := 38) (o := { dst := some 112, op := .indexAddr _ (.tmp 84) (.tmp 90), type := _, pos := _, after := _, guard := _ }) (by kernel_rfl) rfl (fun K hK => ?_)
          go_simp
          refine hK.out _ _ (fun h => absurd h (by decide)) ?_
          try simp only [Act.put, List.setIfInBounds_toArray, List.set_cons_zero, List.set_cons_succ]
          clear hK K
          have f1 := HX5.out.r9.frozenAt p2; obtain ⟨u2, f2⟩ : ∃ u, (v0.setCell ⟨ra, p1, none⟩ (.string (txt (A k q)))).cell? ⟨ra, p2, none⟩ = some u := ⟨_, (HX5.out.r9.cellAt p2 (by omega)).trans (List.getElem?_eq_getElem (by rw [List.length_map, List.length_set, cellsF_len, ← HLN.out]; exact l2))⟩
          have HX6 := Lib.hid (HX5.out.st9 p2 (txt (A i q)))
          refine wpAnyJ_only (i := 39) (o := { dst := none, op := .store _ (.tmp 112) (.tmp 110), type := _, pos := _, after := _, guard := _ }) (by kernel_rfl) rfl (fun K hK => ?_)
          go_simp
          refine hK.out _ _ (fun h => absurd h (by decide)) ?_
          try simp only [Act.put, List.setIfInBounds_toArray, List.set_cons_zero, List.set_cons_succ]
          clear hK K
          refine wpAnyJ_done (by kernel_rfl) ?_ _
          obtain ⟨w5, hw5⟩ : ∃ w5, (v0.setCell ⟨ra, p1, none⟩ (.string (txt (A k q)))).setCell ⟨ra, p2, none⟩ (.string (txt (A i q))) = w5 := ⟨_, rfl⟩
          rw [hw5] at HX6 ⊢
          rw [HN9.out] at HX6
          clear hw5 hS5 hSd HX5 HXd f1 f2
          obtain ⟨s0, s1, s2, s3, s4⟩ := HSf.out _ _ _ HX6.out
          have HE5 := Lib.hid (HEW.out.below HX6.out.bel (Nat.le_refl _))
          go_wp2_with (first
            | (go_at_call 10; (with_reducible refine (Mul_ok _ _ _ z (A k q) (.of GZ.out) (.of GK.out) HE5.out).mono ?_); rintro e w6 ⟨v, rfl, rfl, h6⟩; rw [HR1.out]; have HX7 := Lib.hid (HX6.out.keep h6); have HE6 := Lib.hid (HE5.out.below h6 (Nat.le_refl _)); obtain ⟨t0, t1, t2, t3, t4⟩ := HSf.out _ _ _ HX7.out)
            | (go_at_call 11; (with_reducible refine (Add_ok _ _ _ (A i q) (z * A k q) (.of GI.out) (.of GM.out) HE6.out).mono ?_); rintro e w7 ⟨v, rfl, rfl, h7⟩; rw [HR2.out]; have HX8 := Lib.hid (HX7.out.keep h7); obtain ⟨r0, r1, r2, r3, r4⟩ := HSf.out _ _ _ HX8.out; have k2 := HX8.out.b10.cell 2 _ rfl; have f1 := HX8.out.r10.frozenAt p1; obtain ⟨u1, f2⟩ : ∃ u, w7.cell? ⟨rb, p1, none⟩ = some u := ⟨_, (HX8.out.r10.cellAt p1 (by omega)).trans (List.getElem?_eq_getElem (by rw [List.length_map, cellsF_len, ← HLN.out]; exact l1))⟩))
          go_roundw
          case rel => exact ⟨q + 1, by omega, by go_num, Lib.hid (by have := HX8.out.st10 p1 (txt (A i q + z * A k q)); rwa [HN10.out] at this)⟩
          case measure => simp [intOf]; omega
        · obtain rfl : n = q := by omega
          have hl9 : (cellsF n n (rsw n i k A)).length = xs.length := by rw [cellsF_len, HLN.out]
          have hl10 : (cellsF n n (rad n i k z A)).length = xs.length := by rw [cellsF_len, HLN.out]
          have hs9 : Sl eS wr (.slice (some ⟨ra, 0, none⟩) (cellsF n n (rsw n i k A)).length ca) (cellsF n n (rsw n i k A)) := Sl.ofOwns (by rw [hl9]; exact HX.out.r9)
          have hs10 : Sl eS wr (.slice (some ⟨rb, 0, none⟩) (cellsF n n (rad n i k z A)).length cb) (cellsF n n (rad n i k z A)) := Sl.ofOwns (by rw [hl10]; exact HX.out.r10)
          rw [hl9] at hs9; rw [hl10] at hs10
          have hdz := HDZ.out
          have hd2 := det_rsw A hin hkn HNE.out
          have hd3 := det_rad A z hin hkn HNE.out
          have hbd : dn (det n A) ≤ 400 := by
            have h1 := dn_det (D := 9) n A HAD.out
            have h2 := Nat.mul_le_mul hn6 (show 9 + n ≤ 15 by omega)
            omega
          have HD1 := Lib.hid (fun (w1 : World) (v : Value) (hv : Sl eS w1 v xs) (he : Env w1) => det_call hv HXS.out hn6 (show 9 ≤ 58 by omega) HAD.out he)
          have HD2 := Lib.hid (fun (w1 : World) (v : Value) (l : List ByteArray) (hl : cellsF n n (rsw n i k A) = l) (hv : Sl eS w1 v l) (he : Env w1) => det_call hv hl.symm hn6 (show 9 ≤ 58 by omega) (fun a b ha hb => dn_rsw hin hkn HAD.out ha hb) he)
          have HD3 := Lib.hid (fun (w1 : World) (v : Value) (l : List ByteArray) (hl : cellsF n n (rad n i k z A) = l) (hv : Sl eS w1 v l) (he : Env w1) => det_call hv hl.symm hn6 (show 19 ≤ 58 by omega) (fun a b ha hb => Nat.le_trans (dn_rad hin hkn HAD.out hdz ha hb) (by omega)) he)
          rw [hd2] at HD2; rw [hd3] at HD3
          obtain ⟨l9, he9⟩ : ∃ l, cellsF n n (rsw n i k A) = l := ⟨_, rfl⟩
          obtain ⟨l10, he10⟩ : ∃ l, cellsF n n (rad n i k z A) = l := ⟨_, rfl⟩
          rw [he9] at hs9 HX; rw [he10] at hs10 HX
          have HD2 := Lib.hid (fun (w1 : World) (v : Value) => HD2.out w1 v l9 he9)
          have HD3 := Lib.hid (fun (w1 : World) (v : Value) => HD3.out w1 v l10 he10)
          obtain ⟨d, hd⟩ : ∃ d, det n A = d := ⟨_, rfl⟩
          rw [hd] at HD1 HD2 HD3 hbd
          have GD := Lib.hid (bigD (show dn d ≤ 1024 by omega))
          have HRN := Lib.hid (show resV (-d) = .tuple #[.string (txt (-d)), .int .i64 0] by unfold resV; rw [bigD (show dn (-d) ≤ 1024 by rw [dn_neg]; omega)]; rfl)
          have HS9 := Lib.hid hs9; have HS10 := Lib.hid hs10
          have HVr := Lib.hid (HVW.out.below HX.out.bel (Nat.le_refl _)); have HEr := Lib.hid (HEW.out.below HX.out.bel (Nat.le_refl _)); have HKr := Lib.hid (HKW.out.below HX.out.bel (Nat.le_refl _))
          have qr := HQW.out.trans (HX.out.bel.mono HQW.out.size)
          have c0 := HKr.out.cell 0 _ rfl; have c1 := HKr.out.cell 1 _ rfl; have c2 := HKr.out.cell 2 _ rfl
          clear hs9 hs10 hdz hd2 hd3 hbd he9 he10 hd hl9 hl10
          go_wp2_with (first
            | (go_at_call 8; (with_reducible refine (awake03 _ HE5.out).mono ?_); rintro e y6 ⟨v, rfl, rfl, z6⟩; have q6 := q5.trans (z6.mono q5.size))
            | (go_at_call 13; (with_reducible refine (Neg_ok _ (txt d) d (.of GD.out) HE4.out).mono ?_); rintro e y5 ⟨v, rfl, rfl, z5⟩; rw [HRN.out]; have HE5 := Lib.hid (HE4.out.below z5 (Nat.le_refl _)); have q5 := q4.trans (z5.mono q4.size))
            | (go_at_call_of 12 (Value.agg #[Value.int .i64 n, Value.int .i64 n, Value.slice ad xs.length cap]); (with_reducible refine (HD1.out _ _ HVr.out HEr.out).mono ?_); rintro e y2 ⟨v, rfl, rfl, z2⟩; have HX2 := Lib.hid (HX.out.keep z2); have HE2 := Lib.hid (HEr.out.below z2 (Nat.le_refl _)); have HS92 := Lib.hid (HS9.out.below z2 (Nat.le_refl _)); have HS102 := Lib.hid (HS10.out.below z2 (Nat.le_refl _)); have q2 := qr.trans (z2.mono qr.size); have d0 := HX2.out.b9.cell 0 _ rfl; have d1 := HX2.out.b9.cell 1 _ rfl; have d2 := HX2.out.b9.cell 2 _ rfl)
            | (go_at_call_of 12 (Value.agg #[Value.int .i64 n, Value.int .i64 n, Value.slice (some ⟨ra, 0, none⟩) xs.length ca]); (with_reducible refine (HD2.out _ _ HS92.out HE2.out).mono ?_); rintro e y3 ⟨v, rfl, rfl, z3⟩; have HX3 := Lib.hid (HX2.out.keep z3); have HE3 := Lib.hid (HE2.out.below z3 (Nat.le_refl _)); have HS103 := Lib.hid (HS102.out.below z3 (Nat.le_refl _)); have q3 := q2.trans (z3.mono q2.size); have d3 := HX3.out.b10.cell 0 _ rfl; have d4 := HX3.out.b10.cell 1 _ rfl; have d5 := HX3.out.b10.cell 2 _ rfl)
            | (go_at_call_of 12 (Value.agg #[Value.int .i64 n, Value.int .i64 n, Value.slice (some ⟨rb, 0, none⟩) xs.length cb]); (with_reducible refine (HD3.out _ _ HS103.out HE3.out).mono ?_); rintro e y4 ⟨v, rfl, rfl, z4⟩; have HE4 := Lib.hid (HE3.out.below z4 (Nat.le_refl _)); have q4 := q3.trans (z4.mono q3.size)))
          go_ret
          exact ⟨_, rfl, rfl, q6⟩
end Go.Proofs.YtajkhbpffakmfaaGreatDoor
