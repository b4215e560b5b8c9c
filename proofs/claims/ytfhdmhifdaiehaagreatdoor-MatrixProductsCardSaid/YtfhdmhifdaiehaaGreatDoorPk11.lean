/- The walks of the reference's Turned, Transpose, Minor, Get, Of, Make, One and Unit of matrices. The walks of matrix's Same and of the reference's. -/
import Derived.Test.YtfhdmhifdaiehaaGreatDoorPk8
import Derived.Test.YtfhdmhifdaiehaaGreatDoorPk5
import Derived.Test.YtfhdmhifdaiehaaGreatDoorPk4
import Derived.BigQuiet
import Derived.Test.YtfhdmhifdaiehaaGreatDoorPk7
namespace Go.Proofs.YtfhdmhifdaiehaaGreatDoor
open Go.RowKit
set_option maxRecDepth 100000

set_option maxHeartbeats 4000000 in
theorem rTurned_any (w : World) (v : Value) (xs : List ByteArray) (r c : Nat) (A : Mat) (hv : Sl eS w v xs) (hx : xs = cellsF r c A) (hr : r ≤ 16) (hc : c ≤ 16) :
    Calls Tryz.prog 70 #[.agg #[.int .i64 r, .int .i64 c, v]] w (Rets fun v' w' => ∃ u, v' = .agg #[.int .i64 c, .int .i64 r, u] ∧ Sl eS w' u (cellsF c r (tr A)) ∧ Below w.heap.size w w') := by
  have HV := Lib.hid hv
  have HX := Lib.hid hx
  obtain ⟨ad, cap, rfl⟩ := sl_form hv
  clear hv hx
  obtain ⟨L, hL⟩ : ∃ L, cellsF c r (tr A) = L := ⟨_, rfl⟩
  have HLG := Lib.hid (fun a b (ha : a < c) (hb : b < r) (h : a * r + b < L.length) => show L.take (a * r + b + 1) = L.take (a * r + b) ++ [txt (A b a)] by
    rw [List.take_succ_eq_append_getElem h]; subst hL; rw [cellsF_get _ hb h]; rfl)
  have HLL := Lib.hid (show L.length = c * r by rw [← hL, cellsF_len])
  have HLM := Lib.hid (show L.length ≤ 256 by rw [← hL, cellsF_len]; exact Nat.mul_le_mul hc hr)
  rw [hL]
  clear hL
  go_enter Tryz.func70, Tryz.ntmps70
  go_wp2
  have hF0 := FB.start (w.alloc (.cells #[.int .i64 r, .int .i64 c, .slice ad xs.length cap] 24)) (c : Int) (r : Int)
  rw [World.size_alloc] at hF0
  have bM := Blk.new w [.int .i64 r, .int .i64 c, .slice ad xs.length cap] 24
  obtain ⟨W0, hW0⟩ : ∃ W0, w.alloc (.cells #[.int .i64 r, .int .i64 c, .slice ad xs.length cap] 24) = W0 := ⟨_, rfl⟩
  have hbW : Below w.heap.size w W0 := by rw [← hW0]; exact (Below.refl _ _).alloc (Nat.le_refl _) _
  have bM : Blk W0 w.heap.size [.int .i64 r, .int .i64 c, .slice ad xs.length cap] 24 := by rw [← hW0]; exact bM
  have HH := Lib.hid (held_box bM (h := w.heap.size + 1) (by omega))
  have HS0 : Hid (w.heap.size + 1 ≤ W0.heap.size) := Lib.hid (by rw [← hW0]; simp)
  have HBW := Lib.hid hbW
  rw [hW0] at hF0 ⊢
  have HF0 := Lib.hid hF0
  clear hF0 bM hbW hW0
  go_loopw [4] (fun i wr => ∃ k : Nat, k ≤ c ∧ i = .int .i64 k ∧ ∃ v, Hid (FB W0 (w.heap.size + 1) wr (c : Int) (r : Int) v (L.take (k * r)))) (fun i _ => c - (intOf i).toNat)
  case atStart => exact ⟨0, Nat.zero_le _, rfl, _, Lib.hid (by rw [Nat.zero_mul]; exact HF0.out)⟩
  case round =>
    clear HF0
    obtain ⟨k, hk, rfl, v, hB⟩ := hrel
    obtain ⟨WA, rfl⟩ : ∃ W, W = wr := ⟨_, rfl⟩
    have m0 := (HH.out WA ⟨HS0.out, hB.out.bel⟩).2
    by_cases hkc : k < c
    · obtain ⟨m0, m1, m2⟩ := m0
      go_wp2
      go_loopw [5] (fun j wr => ∃ i : Nat, i ≤ r ∧ j = .int .i64 i ∧ ∃ v, Hid (FB W0 (w.heap.size + 1) wr (c : Int) (r : Int) v (L.take (k * r + i)))) (fun j _ => r - (intOf j).toNat)
      case atStart => exact ⟨0, Nat.zero_le _, rfl, _, hB⟩
      case round =>
        clear hB m0 m1 m2
        obtain ⟨i, hi, rfl, v, hB⟩ := hrel
        have hU : Up (w.heap.size + 1) W0 wr := ⟨HS0.out, hB.out.bel⟩
        obtain ⟨-, m0, m1, m2⟩ := HH.out wr hU
        by_cases hir : i < r
        · have hNX := HLG.out k i hkc hir (by rw [HLL.out]; exact mul_lt hkc hir)
          obtain ⟨T, hTT⟩ : ∃ T, L.take (k * r + i) = T := ⟨_, rfl⟩
          rw [hTT] at hB hNX
          have HNX := Lib.hid hNX
          have HG := Lib.hid (show xs[i * c + k]? = some (txt (A i k)) by rw [HX.out]; exact cellsF_get? A hir hkc)
          have HL2 := Lib.hid (show xs.length ≤ 256 by rw [HX.out, cellsF_len]; exact Nat.mul_le_mul hr hc)
          have HTL := Lib.hid (show T.length ≤ 1000000 by rw [← hTT, List.length_take]; have := HLM.out; omega)
          have HVd := Lib.hid (hU.drew.sl HV.out HBW.out (by omega))
          have HU := Lib.hid hU
          have k2 := hB.out.box.cell 2 _ rfl
          have hlt := hB.out.lt
          clear hU hNX hTT
          go_wp2_with fail
          have hSd : wr.drew.cell? ⟨w.heap.size + 1 + 1, 2, none⟩ = some (v) ∧ wr.drew.cell? ⟨w.heap.size, 0, none⟩ = some (.int .i64 r) ∧ wr.drew.cell? ⟨w.heap.size, 1, none⟩ = some (.int .i64 c) ∧ wr.drew.cell? ⟨w.heap.size, 2, none⟩ = some (.slice ad xs.length cap) := ⟨k2, m0, m1, m2⟩
          refine wp_regionJ (S := fun w' => w'.cell? ⟨w.heap.size + 1 + 1, 2, none⟩ = some (v) ∧ w'.cell? ⟨w.heap.size, 0, none⟩ = some (.int .i64 r) ∧ w'.cell? ⟨w.heap.size, 1, none⟩ = some (.int .i64 c) ∧ w'.cell? ⟨w.heap.size, 2, none⟩ = some (.slice ad xs.length cap)) (A := fun i => decide (i < 9)) (by kernel_rfl) ?_
          refine wpAnyJ_take (i := 0) (oi := { dst := some 23, op := .fieldAddr _ (.tmp 3) 2, type := _, pos := _, after := _, guard := _ }) (v := ?_) rfl (by kernel_rfl) (by kernel_rfl) (by kernel_rfl) (by kernel_rfl) (fun _ _ _ h => h) (Or.inl ⟨by rfl, ?_⟩) hSd ?_
          rotate_left
          · intro wl hSw
            obtain ⟨s0, s1, s2, s3⟩ := hSw
            go_simp
            with_reducible rfl
          simp only [Act.put, List.setIfInBounds_toArray, List.set_cons_zero, List.set_cons_succ]
          refine wpAnyJ_take (i := 1) (oi := { dst := some 24, op := .load _ (.tmp 23), type := _, pos := _, after := _, guard := _ }) (v := ?_) rfl (by kernel_rfl) (by kernel_rfl) (by kernel_rfl) (by kernel_rfl) (fun _ _ _ h => h) (Or.inl ⟨by rfl, ?_⟩) hSd ?_
          rotate_left
          · intro wl hSw
            obtain ⟨s0, s1, s2, s3⟩ := hSw
            go_simp
            with_reducible rfl
          simp only [Act.put, List.setIfInBounds_toArray, List.set_cons_zero, List.set_cons_succ]
          refine wpAnyJ_take (i := 2) (oi := { dst := some 25, op := .load _ (.tmp 1), type := _, pos := _, after := _, guard := _ }) (v := ?_) rfl (by kernel_rfl) (by kernel_rfl) (by kernel_rfl) (by kernel_rfl) (fun _ _ _ h => h) (Or.inl ⟨by rfl, ?_⟩) hSd ?_
          rotate_left
          · intro wl hSw
            obtain ⟨s0, s1, s2, s3⟩ := hSw
            go_simp
            with_reducible rfl
          simp only [Act.put, List.setIfInBounds_toArray, List.set_cons_zero, List.set_cons_succ]
          refine wpAnyJ_take (i := 3) (oi := { dst := some 26, op := .move (.tmp 5), type := _, pos := _, after := _, guard := _ }) (v := ?_) rfl (by kernel_rfl) (by kernel_rfl) (by kernel_rfl) (by kernel_rfl) (fun _ _ _ h => h) (Or.inl ⟨by rfl, ?_⟩) hSd ?_
          rotate_left
          · intro wl hSw
            obtain ⟨s0, s1, s2, s3⟩ := hSw
            go_simp
            with_reducible rfl
          simp only [Act.put, List.setIfInBounds_toArray, List.set_cons_zero, List.set_cons_succ]
          refine wpAnyJ_take (i := 4) (oi := { dst := some 27, op := .move (.tmp 4), type := _, pos := _, after := _, guard := _ }) (v := ?_) rfl (by kernel_rfl) (by kernel_rfl) (by kernel_rfl) (by kernel_rfl) (fun _ _ _ h => h) (Or.inl ⟨by rfl, ?_⟩) hSd ?_
          rotate_left
          · intro wl hSw
            obtain ⟨s0, s1, s2, s3⟩ := hSw
            go_simp
            with_reducible rfl
          simp only [Act.put, List.setIfInBounds_toArray, List.set_cons_zero, List.set_cons_succ]
          refine wpAnyJ_only (i := 5) (o := { dst := some 28, op := _, type := _, pos := _, after := _, guard := _ }) (by kernel_rfl) rfl (fun K hK => ?_)
          go_simp
          refine (rMat_any _ (r : Int) (c : Int) _ xs c i k _ HVd.out rfl HL2.out HG.out).mono ?_
          rintro e w3 ⟨u3, rfl, rfl, hb3⟩
          have H3 := Lib.hid (hB.out.drew.keep hb3)
          have hlt3 := H3.out.lt
          have hU3 := HU.out.drew.call hb3
          have hS3 := And.intro (H3.out.box.cell 2 _ rfl) (HH.out w3 hU3).2
          refine hK.out _ _ (fun _ => hS3) ?_
          try simp only [Act.put, List.setIfInBounds_toArray, List.set_cons_zero, List.set_cons_succ]
          clear hK K
          refine wpAnyJ_only (i := 6) (o := { dst := some 29, op := _, type := _, pos := _, after := _, guard := _ }) (by kernel_rfl) rfl (fun K hK => ?_)
          go_simp
          refine hK.out _ _ (fun _ => ⟨(H3.out.box.alloc _).cell 2 _ rfl, (HH.out _ (hU3.alloc _)).2⟩) ?_
          try simp only [Act.put, List.setIfInBounds_toArray, List.set_cons_zero, List.set_cons_succ]
          clear hK K
          refine wpAnyJ_only (i := 7) (o := { dst := some 30, op := _, type := _, pos := _, after := _, guard := _ }) (by kernel_rfl) rfl (fun K hK => ?_)
          refine app1R (news := [_]) elemStr rfl _ _ rfl rfl rfl H3.out.row (Below.refl _ _) (Nat.le_refl _) hlt3 rfl (by simp [Value.oneCell']) (by have := HTL.out; omega) (by unfold maxLen; have := HTL.out; omega) ?_
          intro v5 w5 ho5 hb5
          obtain ⟨g6, cap6, rfl⟩ := ownsRow_succ ho5
          have H5 := Lib.hid (H3.out.push hb5 ho5)
          have B5 := H3.out.box6 hb5
          have j2 := B5.cell 2 _ rfl
          have f2 := B5.free 2
          have hS5 := And.intro j2 (HH.out w5 (hU3.app hb5 (by omega))).2
          clear ho5 B5
          refine hK.out _ _ (fun _ => hS5) ?_
          try simp only [Act.put, List.setIfInBounds_toArray, List.set_cons_zero, List.set_cons_succ]
          clear hK K
          refine wpAnyJ_take (i := 8) (oi := { dst := some 31, op := .fieldAddr _ (.tmp 3) 2, type := _, pos := _, after := _, guard := _ }) (v := ?_) rfl (by kernel_rfl) (by kernel_rfl) (by kernel_rfl) (by kernel_rfl) (fun _ _ _ h => h) (Or.inl ⟨by rfl, ?_⟩) hS5 ?_
          rotate_left
          · intro wl hSw
            obtain ⟨s0, s1, s2, s3⟩ := hSw
            go_simp
            with_reducible rfl
          simp only [Act.put, List.setIfInBounds_toArray, List.set_cons_zero, List.set_cons_succ]
          refine wpAnyJ_only (i := 9) (o := { dst := none, op := .store _ (.tmp 31) (.tmp 30), type := _, pos := _, after := _, guard := _ }) (by kernel_rfl) rfl (fun K hK => ?_)
          go_simp
          refine hK.out _ _ (fun h => absurd h (by decide)) ?_
          try simp only [Act.put, List.setIfInBounds_toArray, List.set_cons_zero, List.set_cons_succ]
          clear hK K
          refine wpAnyJ_done (by kernel_rfl) ?_ _
          go_wp2_with fail
          go_roundw
          case rel => exact ⟨i + 1, by omega, by go_num, _, Lib.hid (by rw [show k * r + (i + 1) = k * r + i + 1 from rfl, HNX.out]; exact H5.out)⟩
          case measure => simp [intOf]; omega
        · obtain rfl : i = r := by omega
          go_wp2
          go_roundw
          case rel => exact ⟨k + 1, by omega, by go_num, v, Lib.hid (by rw [Nat.add_mul, Nat.one_mul]; exact hB.out)⟩
          case measure => simp [intOf]; omega
    · obtain rfl : k = c := by omega
      have H := Lib.hid (show FB W0 (w.heap.size + 1) WA (k : Int) (r : Int) v L by have := hB.out; rwa [← HLL.out, List.take_length] at this)
      obtain ⟨m0, m1, m2⟩ := m0
      obtain ⟨va, vc, rfl⟩ := own_form H.out.row
      have k0 := H.out.box.cell 0 _ rfl; have k1 := H.out.box.cell 1 _ rfl; have k2 := H.out.box.cell 2 _ rfl
      have r0 := H.out.res.cell 0 _ rfl; have r1 := H.out.res.cell 1 _ rfl; have r2 := H.out.res.cell 2 _ rfl
      have f0 := H.out.res.free 0; have f1 := H.out.res.free 1; have f2 := H.out.res.free 2
      clear hB
      go_wp2
      obtain ⟨hR, hS, hW⟩ := H.out.done
      have q0 := hR.cell 0 _ rfl; have q1 := hR.cell 1 _ rfl; have q2 := hR.cell 2 _ rfl
      exact bodyPost_ret (v := .agg #[.int .i64 k, .int .i64 r, .slice va L.length vc]) (by simp [results, Tryz.results70, go_sem, q0, q1, q2]) rfl ⟨_, rfl, _, rfl, hS, HBW.out.trans (hW.mono (Nat.le_trans (Nat.le_succ _) HS0.out))⟩
set_option maxHeartbeats 4000000 in
theorem rMOf_any (w : World) (R C : Int) (v : Value) (ls : List Int) (hv : Sl eZ w v ls) (hl : ls.length ≤ 256) (hz : ∀ z ∈ ls, -9223372036854775808 ≤ z ∧ z ≤ 9223372036854775807) :
    Calls Tryz.prog 74 #[.int .i64 R, .int .i64 C, v] w (Rets fun v' w' => ∃ u, v' = .agg #[.int .i64 R, .int .i64 C, u] ∧ Sl eS w' u (ls.map txt) ∧ Below w.heap.size w w') := by
  have HZ := Lib.hid hz
  obtain ⟨ad, b, o, cap, rfl, hx, hp, hcc, hm⟩ := hv.open elemInt
  have HP := Lib.hid hp
  unfold maxLen at hm
  clear hv hz hp
  go_enter Tryz.func74, Tryz.ntmps74
  go_wp2
  have hF0 := FB.start w R C
  have HF0 := Lib.hid hF0
  clear hF0
  go_loopw [8] (fun i wr => ∃ k : Nat, k ≤ ls.length ∧ i = .int .i64 k ∧ ∃ v, Hid (FB w w.heap.size wr R C v ((ls.take k).map txt))) (fun i _ => ls.length - (intOf i).toNat)
  case atStart => exact ⟨0, Nat.zero_le _, rfl, _, Lib.hid HF0.out⟩
  case round =>
    clear HF0
    obtain ⟨k, hk, rfl, v, hB⟩ := hrel
    by_cases hkl : k < ls.length
    · have hU : Up w.heap.size w wr := ⟨Nat.le_refl _, hB.out.bel⟩
      have h1 : wr.cell? ⟨b, o + k, none⟩ = some (.int .i64 ls[k]) := HP.out.at hB.out.bel (Nat.le_refl _) k hkl
      have hzz := HZ.out _ (List.getElem_mem hkl)
      have hNX : (ls.take (k + 1)).map txt = (ls.take k).map txt ++ [txt ls[k]] := by rw [List.take_succ_eq_append_getElem hkl, List.map_append]; rfl
      have HHx := Lib.hid (fun w' (H : Up w.heap.size w w') => show w'.cell? ⟨b, o + k, none⟩ = some (.int .i64 ls[k]) from HP.out.at H.2 (Nat.le_refl _) k hkl)
      obtain ⟨z, hz⟩ : ∃ z, ls[k] = z := ⟨_, rfl⟩
      rw [hz] at h1 hzz hNX HHx
      have HH := Lib.hid (fun w' (H : Up w.heap.size w w') => And.intro H (HHx.out w' H))
      have HZ0 := Lib.hid hzz.1; have HZ1 := Lib.hid hzz.2
      obtain ⟨T, hTT⟩ : ∃ T, (ls.take k).map txt = T := ⟨_, rfl⟩
      rw [hTT] at hB hNX
      have HNX := Lib.hid hNX
      have HTL := Lib.hid (show T.length ≤ 1000000 by rw [← hTT, List.length_map, List.length_take]; omega)
      have HU := Lib.hid hU
      have k2 := hB.out.box.cell 2 _ rfl
      have hlt := hB.out.lt
      have y0 : (0 : Int) ≤ (k : Int) := by omega
      have y1 : (k : Int) < (ls.length : Int) := by omega
      clear hU hNX hTT hzz hz
      go_wp2_with fail
      have hSd : wr.drew.cell? ⟨w.heap.size + 1, 2, none⟩ = some (v) ∧ wr.drew.cell? ⟨b, o + k, none⟩ = some (.int .i64 z) := ⟨k2, h1⟩
      refine wp_regionJ (S := fun w' => w'.cell? ⟨w.heap.size + 1, 2, none⟩ = some (v) ∧ w'.cell? ⟨b, o + k, none⟩ = some (.int .i64 z)) (A := fun i => decide (i < 10)) (by kernel_rfl) ?_
      refine wpAnyJ_take (i := 0) (oi := { dst := some 18, op := .fieldAddr _ (.tmp 7) 2, type := _, pos := _, after := _, guard := _ }) (v := ?_) rfl (by kernel_rfl) (by kernel_rfl) (by kernel_rfl) (by kernel_rfl) (fun _ _ _ h => h) (Or.inl ⟨by rfl, ?_⟩) hSd ?_
      rotate_left
      · intro wl hSw
        obtain ⟨s0, s1⟩ := hSw
        go_simp
        with_reducible rfl
      simp only [Act.put, List.setIfInBounds_toArray, List.set_cons_zero, List.set_cons_succ]
      refine wpAnyJ_take (i := 1) (oi := { dst := some 19, op := .load _ (.tmp 18), type := _, pos := _, after := _, guard := _ }) (v := ?_) rfl (by kernel_rfl) (by kernel_rfl) (by kernel_rfl) (by kernel_rfl) (fun _ _ _ h => h) (Or.inl ⟨by rfl, ?_⟩) hSd ?_
      rotate_left
      · intro wl hSw
        obtain ⟨s0, s1⟩ := hSw
        go_simp
        with_reducible rfl
      simp only [Act.put, List.setIfInBounds_toArray, List.set_cons_zero, List.set_cons_succ]
      refine wpAnyJ_take (i := 2) (oi := { dst := some 20, op := .move (.tmp 2), type := _, pos := _, after := _, guard := _ }) (v := ?_) rfl (by kernel_rfl) (by kernel_rfl) (by kernel_rfl) (by kernel_rfl) (fun _ _ _ h => h) (Or.inl ⟨by rfl, ?_⟩) hSd ?_
      rotate_left
      · intro wl hSw
        obtain ⟨s0, s1⟩ := hSw
        go_simp
        with_reducible rfl
      simp only [Act.put, List.setIfInBounds_toArray, List.set_cons_zero, List.set_cons_succ]
      refine wpAnyJ_take (i := 3) (oi := { dst := some 21, op := .move (.tmp 8), type := _, pos := _, after := _, guard := _ }) (v := ?_) rfl (by kernel_rfl) (by kernel_rfl) (by kernel_rfl) (by kernel_rfl) (fun _ _ _ h => h) (Or.inl ⟨by rfl, ?_⟩) hSd ?_
      rotate_left
      · intro wl hSw
        obtain ⟨s0, s1⟩ := hSw
        go_simp
        with_reducible rfl
      simp only [Act.put, List.setIfInBounds_toArray, List.set_cons_zero, List.set_cons_succ]
      refine wpAnyJ_take (i := 4) (oi := { dst := some 22, op := .indexAddr _ (.tmp 20) (.tmp 21), type := _, pos := _, after := _, guard := _ }) (v := ?_) rfl (by kernel_rfl) (by kernel_rfl) (by kernel_rfl) (by kernel_rfl) (fun _ _ _ h => h) (Or.inl ⟨by rfl, ?_⟩) hSd ?_
      rotate_left
      · intro wl hSw
        obtain ⟨s0, s1⟩ := hSw
        go_simp
        with_reducible rfl
      simp only [Act.put, List.setIfInBounds_toArray, List.set_cons_zero, List.set_cons_succ]
      refine wpAnyJ_take (i := 5) (oi := { dst := some 23, op := .load _ (.tmp 22), type := _, pos := _, after := _, guard := _ }) (v := ?_) rfl (by kernel_rfl) (by kernel_rfl) (by kernel_rfl) (by kernel_rfl) (fun _ _ _ h => h) (Or.inl ⟨by rfl, ?_⟩) hSd ?_
      rotate_left
      · intro wl hSw
        obtain ⟨s0, s1⟩ := hSw
        go_simp
        with_reducible rfl
      simp only [Act.put, List.setIfInBounds_toArray, List.set_cons_zero, List.set_cons_succ]
      refine wpAnyJ_only (i := 6) (o := { dst := some 24, op := _, type := _, pos := _, after := _, guard := _ }) (by kernel_rfl) rfl (fun K hK => ?_)
      go_simp
      refine (rOf_any _ z HZ0.out HZ1.out).mono ?_
      rintro e w3 ⟨u3, rfl, rfl, hb3⟩
      have H3 := Lib.hid (hB.out.drew.keep hb3)
      have hlt3 := H3.out.lt
      have hU3 := HU.out.drew.call hb3
      have hS3 := And.intro (H3.out.box.cell 2 _ rfl) (HH.out w3 hU3).2
      refine hK.out _ _ (fun _ => hS3) ?_
      try simp only [Act.put, List.setIfInBounds_toArray, List.set_cons_zero, List.set_cons_succ]
      clear hK K
      refine wpAnyJ_only (i := 7) (o := { dst := some 25, op := _, type := _, pos := _, after := _, guard := _ }) (by kernel_rfl) rfl (fun K hK => ?_)
      go_simp
      refine hK.out _ _ (fun _ => ⟨(H3.out.box.alloc _).cell 2 _ rfl, (HH.out _ (hU3.alloc _)).2⟩) ?_
      try simp only [Act.put, List.setIfInBounds_toArray, List.set_cons_zero, List.set_cons_succ]
      clear hK K
      refine wpAnyJ_only (i := 8) (o := { dst := some 26, op := _, type := _, pos := _, after := _, guard := _ }) (by kernel_rfl) rfl (fun K hK => ?_)
      refine app1R (news := [_]) elemStr rfl _ _ rfl rfl rfl H3.out.row (Below.refl _ _) (Nat.le_refl _) hlt3 rfl (by simp [Value.oneCell']) (by have := HTL.out; omega) (by unfold maxLen; have := HTL.out; omega) ?_
      intro v5 w5 ho5 hb5
      obtain ⟨g6, cap6, rfl⟩ := ownsRow_succ ho5
      have H5 := Lib.hid (H3.out.push hb5 ho5)
      have B5 := H3.out.box6 hb5
      have j2 := B5.cell 2 _ rfl
      have f2 := B5.free 2
      have hS5 := And.intro j2 (HH.out w5 (hU3.app hb5 (by omega))).2
      clear ho5 B5
      refine hK.out _ _ (fun _ => hS5) ?_
      try simp only [Act.put, List.setIfInBounds_toArray, List.set_cons_zero, List.set_cons_succ]
      clear hK K
      refine wpAnyJ_take (i := 9) (oi := { dst := some 27, op := .fieldAddr _ (.tmp 7) 2, type := _, pos := _, after := _, guard := _ }) (v := ?_) rfl (by kernel_rfl) (by kernel_rfl) (by kernel_rfl) (by kernel_rfl) (fun _ _ _ h => h) (Or.inl ⟨by rfl, ?_⟩) hS5 ?_
      rotate_left
      · intro wl hSw
        obtain ⟨s0, s1⟩ := hSw
        go_simp
        with_reducible rfl
      simp only [Act.put, List.setIfInBounds_toArray, List.set_cons_zero, List.set_cons_succ]
      refine wpAnyJ_only (i := 10) (o := { dst := none, op := .store _ (.tmp 27) (.tmp 26), type := _, pos := _, after := _, guard := _ }) (by kernel_rfl) rfl (fun K hK => ?_)
      go_simp
      refine hK.out _ _ (fun h => absurd h (by decide)) ?_
      try simp only [Act.put, List.setIfInBounds_toArray, List.set_cons_zero, List.set_cons_succ]
      clear hK K
      refine wpAnyJ_done (by kernel_rfl) ?_ _
      go_wp2_with fail
      go_roundw
      case rel => exact ⟨k + 1, by omega, by go_num, _, Lib.hid (by rw [HNX.out]; exact H5.out)⟩
      case measure => simp [intOf]; omega
    · obtain rfl : k = ls.length := by omega
      have H := Lib.hid (show FB w w.heap.size wr R C v (ls.map txt) by have := hB.out; rwa [List.take_length] at this)
      obtain ⟨va, vc, rfl⟩ := own_form H.out.row
      have k0 := H.out.box.cell 0 _ rfl; have k1 := H.out.box.cell 1 _ rfl; have k2 := H.out.box.cell 2 _ rfl
      have r0 := H.out.res.cell 0 _ rfl; have r1 := H.out.res.cell 1 _ rfl; have r2 := H.out.res.cell 2 _ rfl
      have f0 := H.out.res.free 0; have f1 := H.out.res.free 1; have f2 := H.out.res.free 2
      clear hB
      obtain ⟨N, hN⟩ : ∃ N, (ls.map txt).length = N := ⟨_, rfl⟩
      rw [hN] at k2
      go_wp2
      obtain ⟨hR, hS, hW⟩ := H.out.done
      rw [hN] at hR hS hW
      have q0 := hR.cell 0 _ rfl; have q1 := hR.cell 1 _ rfl; have q2 := hR.cell 2 _ rfl
      exact bodyPost_ret (v := .agg #[.int .i64 R, .int .i64 C, .slice va N vc]) (by simp [results, Tryz.results74, go_sem, q0, q1, q2]) rfl ⟨_, rfl, _, rfl, hS, hW⟩
set_option maxHeartbeats 2000000 in
theorem rTranspose_any (w : World) (R C : Int) (v : Value) (xs : List ByteArray) (hv : Sl eS w v xs) (hsz : xs.length ≤ 256 → ∀ s ∈ xs, s.size ≤ 1000000) :
    Calls Tryz.prog 29 #[.agg #[.int .i64 R, .int .i64 C, v]] w (RetMR w (trS R C xs)) := by
  have HV := Lib.hid hv; have HSZ := Lib.hid hsz
  obtain ⟨ad, cap, rfl⟩ := sl_form hv
  clear hv hsz
  by_cases h : mchkM R C xs = 0
  · obtain ⟨r, c, hrm⟩ := rm_of h
    obtain rfl := hrm.rows; obtain rfl := hrm.cols
    have H := Lib.hid h
    have HTU := Lib.hid (fun (w1 : World) (u : Value) (h1 : Sl eS w1 u xs) => rTurned_any w1 u xs r c (matF c xs) h1 hrm.cells hrm.r16 hrm.c16)
    have htr := tr_of hrm
    obtain ⟨xt, hxt⟩ : ∃ l, cellsF c r (tr (matF c xs)) = l := ⟨_, rfl⟩
    rw [hxt] at HTU htr
    show Calls _ _ _ _ (RetM w (trS r c xs).R (trS r c xs).C (trS r c xs).xs (trS r c xs).k)
    rw [show trS r c xs = ⟨c, r, xt, 0⟩ by exact htr]
    have HB := Lib.hid (((Below.refl w.heap.size w).alloc (Nat.le_refl _) (.cells #[.int .i64 r, .int .i64 c, .slice ad xs.length cap] 24)).alloc (by simp) (.cells #[.int .i64 0, .int .i64 0, .slice none 0 0] 24))
    have q0 := HB.out
    have HK := Lib.hid ((Blk.new w [.int .i64 r, .int .i64 c, .slice ad xs.length cap] 24).alloc (.cells #[.int .i64 0, .int .i64 0, .slice none 0 0] 24))
    have HR := Lib.hid (Blk.at1 w (.cells #[.int .i64 r, .int .i64 c, .slice ad xs.length cap] 24) [.int .i64 0, .int .i64 0, .slice none 0 0] 24)
    have HV := Lib.hid (HV.out.below HB.out (Nat.le_refl _))
    clear h hrm htr hxt
    go_enter Tryz.func29, Tryz.ntmps29
    go_wp2_with (first
      | (go_at_call 70; (with_reducible refine (HTU.out _ _ HV.out).mono ?_); rintro e w2 ⟨v, rfl, x2, rfl, s2, h2⟩; have HS := Lib.hid s2; obtain ⟨a2, k2, rfl⟩ := sl_form s2; clear s2; have HV := Lib.hid (HV.out.below h2 (Nat.le_refl _)); have HK := Lib.hid (HK.out.below h2 (Nat.le_refl _)); have c2_HK_0 := HK.out.cell 0 _ rfl; have c2_HK_1 := HK.out.cell 1 _ rfl; have c2_HK_2 := HK.out.cell 2 _ rfl; have HR := Lib.hid (HR.out.below h2 (Nat.le_refl _)); have f2_HR_0 := HR.out.free 0; have f2_HR_1 := HR.out.free 1; have f2_HR_2 := HR.out.free 2; have c2_HR_0 := HR.out.cell 0 _ rfl; have c2_HR_1 := HR.out.cell 1 _ rfl; have c2_HR_2 := HR.out.cell 2 _ rfl; have q2 := q1.trans (h2.mono q1.size))
      | (go_at_call 27; (with_reducible refine (rMCheck_any _ r c _ xs HV.out HSZ.out).mono ?_); rintro e w1 ⟨v, rfl, rfl, h1⟩; rw [H.out]; have HV := Lib.hid (HV.out.below h1 (Nat.le_refl _)); have HK := Lib.hid (HK.out.below h1 (Nat.le_refl _)); have c1_HK_0 := HK.out.cell 0 _ rfl; have c1_HK_1 := HK.out.cell 1 _ rfl; have c1_HK_2 := HK.out.cell 2 _ rfl; have HR := Lib.hid (HR.out.below h1 (Nat.le_refl _)); have f1_HR_0 := HR.out.free 0; have f1_HR_1 := HR.out.free 1; have f1_HR_2 := HR.out.free 2; have c1_HR_0 := HR.out.cell 0 _ rfl; have c1_HR_1 := HR.out.cell 1 _ rfl; have c1_HR_2 := HR.out.cell 2 _ rfl; have q1 := q0.trans (h1.mono q0.size)))
    obtain ⟨hR, hS, hW⟩ := res_done (R := c) (C := r) q2 (by omega) HR.out HS.out
    have z0 := hR.cell 0 _ rfl; have z1 := hR.cell 1 _ rfl; have z2 := hR.cell 2 _ rfl
    exact bodyPost_ret (v := .tuple #[.agg #[.int .i64 c, .int .i64 r, .slice a2 xt.length k2], .int .i64 0]) (by simp [results, Tryz.results29, go_sem, z0, z1, z2]) rfl ⟨_, rfl, _, rfl, hS, hW⟩
  · have hne : (mchkM R C xs != 0) = true := by simp [h]
    show Calls _ _ _ _ (RetM w (trS R C xs).R (trS R C xs).C (trS R C xs).xs (trS R C xs).k)
    rw [show trS R C xs = .bad (mchkM R C xs) by unfold trS; rw [if_neg h]]
    have HB := Lib.hid (((Below.refl w.heap.size w).alloc (Nat.le_refl _) (.cells #[.int .i64 R, .int .i64 C, .slice ad xs.length cap] 24)).alloc (by simp) (.cells #[.int .i64 0, .int .i64 0, .slice none 0 0] 24))
    have q0 := HB.out
    have HK := Lib.hid ((Blk.new w [.int .i64 R, .int .i64 C, .slice ad xs.length cap] 24).alloc (.cells #[.int .i64 0, .int .i64 0, .slice none 0 0] 24))
    have HR := Lib.hid (Blk.at1 w (.cells #[.int .i64 R, .int .i64 C, .slice ad xs.length cap] 24) [.int .i64 0, .int .i64 0, .slice none 0 0] 24)
    have HV := Lib.hid (HV.out.below HB.out (Nat.le_refl _))
    clear h
    go_enter Tryz.func29, Tryz.ntmps29
    go_wp2_with (first
      | (go_at_call 27; (with_reducible refine (rMCheck_any _ R C _ xs HV.out HSZ.out).mono ?_); rintro e w1 ⟨v, rfl, rfl, h1⟩; have HR := Lib.hid (HR.out.below h1 (Nat.le_refl _)); have f1_HR_0 := HR.out.free 0; have f1_HR_1 := HR.out.free 1; have f1_HR_2 := HR.out.free 2; have c1_HR_0 := HR.out.cell 0 _ rfl; have c1_HR_1 := HR.out.cell 1 _ rfl; have c1_HR_2 := HR.out.cell 2 _ rfl; have q1 := q0.trans (h1.mono q0.size)))
    obtain ⟨hR, hS, hW⟩ := res_done (R := 0) (C := 0) q1 (by omega) HR.out (Sl.nil' eS _)
    have z0 := hR.cell 0 _ rfl; have z1 := hR.cell 1 _ rfl; have z2 := hR.cell 2 _ rfl
    exact bodyPost_ret (v := .tuple #[.agg #[.int .i64 0, .int .i64 0, .slice none 0 0], .int .i64 (mchkM R C xs)]) (by simp [results, Tryz.results29, go_sem, z0, z1, z2]) rfl ⟨_, rfl, _, rfl, hS, hW⟩
set_option maxHeartbeats 2000000 in
theorem rMinor_any (w : World) (R C : Int) (v : Value) (xs : List ByteArray) (i k : Int) (hv : Sl eS w v xs) (hsz : xs.length ≤ 256 → ∀ s ∈ xs, s.size ≤ 1000000) :
    Calls Tryz.prog 28 #[.agg #[.int .i64 R, .int .i64 C, v], .int .i64 i, .int .i64 k] w (RetMR w (minS R C xs i k)) := by
  have HV := Lib.hid hv; have HSZ := Lib.hid hsz
  obtain ⟨ad, cap, rfl⟩ := sl_form hv
  clear hv hsz
  by_cases h : MthereS R C xs i k = 0
  · have H := Lib.hid h
    obtain ⟨r, c, a, b, hrm, rfl, rfl, ha, hb⟩ := there_of h
    obtain rfl := hrm.rows; obtain rfl := hrm.cols
    have HTU := Lib.hid (fun (w1 : World) (u : Value) (h1 : Sl eS w1 u xs) => rWithout_any w1 u xs r c a b (matF c xs) h1 hrm.cells hrm.r16 hrm.c16 ha hb)
    have e1 : (r : Int) - 1 = ((r - 1 : Nat) : Int) := by omega
    have e2 : (c : Int) - 1 = ((c - 1 : Nat) : Int) := by omega
    have hmn : minS r c xs a b = ⟨((r - 1 : Nat) : Int), ((c - 1 : Nat) : Int), cellsF (r - 1) (c - 1) (mnr (matF c xs) a b), 0⟩ := by unfold minS; rw [if_pos h, e1, e2]; rfl
    obtain ⟨xt, hxt⟩ : ∃ l, cellsF (r - 1) (c - 1) (mnr (matF c xs) a b) = l := ⟨_, rfl⟩
    rw [hxt] at HTU hmn
    show Calls _ _ _ _ (RetM w (minS r c xs a b).R (minS r c xs a b).C (minS r c xs a b).xs (minS r c xs a b).k)
    rw [show minS r c xs a b = ⟨((r - 1 : Nat) : Int), ((c - 1 : Nat) : Int), xt, 0⟩ by exact hmn]
    have HB := Lib.hid (((Below.refl w.heap.size w).alloc (Nat.le_refl _) (.cells #[.int .i64 r, .int .i64 c, .slice ad xs.length cap] 24)).alloc (by simp) (.cells #[.int .i64 0, .int .i64 0, .slice none 0 0] 24))
    have q0 := HB.out
    have HK := Lib.hid ((Blk.new w [.int .i64 r, .int .i64 c, .slice ad xs.length cap] 24).alloc (.cells #[.int .i64 0, .int .i64 0, .slice none 0 0] 24))
    have HR := Lib.hid (Blk.at1 w (.cells #[.int .i64 r, .int .i64 c, .slice ad xs.length cap] 24) [.int .i64 0, .int .i64 0, .slice none 0 0] 24)
    have HV := Lib.hid (HV.out.below HB.out (Nat.le_refl _))
    clear h hrm hmn hxt e1 e2
    go_enter Tryz.func28, Tryz.ntmps28
    go_wp2_with (first
      | (go_at_call 69; (with_reducible refine (HTU.out _ _ HV.out).mono ?_); rintro e w2 ⟨v, rfl, x2, rfl, s2, h2⟩; have HS := Lib.hid s2; obtain ⟨a2, k2, rfl⟩ := sl_form s2; clear s2; have HV := Lib.hid (HV.out.below h2 (Nat.le_refl _)); have HK := Lib.hid (HK.out.below h2 (Nat.le_refl _)); have c2_HK_0 := HK.out.cell 0 _ rfl; have c2_HK_1 := HK.out.cell 1 _ rfl; have c2_HK_2 := HK.out.cell 2 _ rfl; have HR := Lib.hid (HR.out.below h2 (Nat.le_refl _)); have f2_HR_0 := HR.out.free 0; have f2_HR_1 := HR.out.free 1; have f2_HR_2 := HR.out.free 2; have c2_HR_0 := HR.out.cell 0 _ rfl; have c2_HR_1 := HR.out.cell 1 _ rfl; have c2_HR_2 := HR.out.cell 2 _ rfl; have q2 := q1.trans (h2.mono q1.size))
      | (go_at_call 68; (with_reducible refine (rMthere_any _ r c _ xs a b HV.out HSZ.out).mono ?_); rintro e w1 ⟨v, rfl, rfl, h1⟩; rw [H.out]; have HV := Lib.hid (HV.out.below h1 (Nat.le_refl _)); have HK := Lib.hid (HK.out.below h1 (Nat.le_refl _)); have c1_HK_0 := HK.out.cell 0 _ rfl; have c1_HK_1 := HK.out.cell 1 _ rfl; have c1_HK_2 := HK.out.cell 2 _ rfl; have HR := Lib.hid (HR.out.below h1 (Nat.le_refl _)); have f1_HR_0 := HR.out.free 0; have f1_HR_1 := HR.out.free 1; have f1_HR_2 := HR.out.free 2; have c1_HR_0 := HR.out.cell 0 _ rfl; have c1_HR_1 := HR.out.cell 1 _ rfl; have c1_HR_2 := HR.out.cell 2 _ rfl; have q1 := q0.trans (h1.mono q0.size)))
    obtain ⟨hR, hS, hW⟩ := res_done (R := ((r - 1 : Nat) : Int)) (C := ((c - 1 : Nat) : Int)) q2 (by omega) HR.out HS.out
    have z0 := hR.cell 0 _ rfl; have z1 := hR.cell 1 _ rfl; have z2 := hR.cell 2 _ rfl
    exact bodyPost_ret (v := .tuple #[.agg #[.int .i64 ((r - 1 : Nat) : Int), .int .i64 ((c - 1 : Nat) : Int), .slice a2 xt.length k2], .int .i64 0]) (by simp [results, Tryz.results28, go_sem, z0, z1, z2]) rfl ⟨_, rfl, _, rfl, hS, hW⟩
  · have hne : (MthereS R C xs i k != 0) = true := by simp [h]
    show Calls _ _ _ _ (RetM w (minS R C xs i k).R (minS R C xs i k).C (minS R C xs i k).xs (minS R C xs i k).k)
    rw [show minS R C xs i k = .bad (MthereS R C xs i k) by unfold minS; rw [if_neg h]]
    have HB := Lib.hid (((Below.refl w.heap.size w).alloc (Nat.le_refl _) (.cells #[.int .i64 R, .int .i64 C, .slice ad xs.length cap] 24)).alloc (by simp) (.cells #[.int .i64 0, .int .i64 0, .slice none 0 0] 24))
    have q0 := HB.out
    have HK := Lib.hid ((Blk.new w [.int .i64 R, .int .i64 C, .slice ad xs.length cap] 24).alloc (.cells #[.int .i64 0, .int .i64 0, .slice none 0 0] 24))
    have HR := Lib.hid (Blk.at1 w (.cells #[.int .i64 R, .int .i64 C, .slice ad xs.length cap] 24) [.int .i64 0, .int .i64 0, .slice none 0 0] 24)
    have HV := Lib.hid (HV.out.below HB.out (Nat.le_refl _))
    clear h
    go_enter Tryz.func28, Tryz.ntmps28
    go_wp2_with (first
      | (go_at_call 68; (with_reducible refine (rMthere_any _ R C _ xs i k HV.out HSZ.out).mono ?_); rintro e w1 ⟨v, rfl, rfl, h1⟩; have HR := Lib.hid (HR.out.below h1 (Nat.le_refl _)); have f1_HR_0 := HR.out.free 0; have f1_HR_1 := HR.out.free 1; have f1_HR_2 := HR.out.free 2; have c1_HR_0 := HR.out.cell 0 _ rfl; have c1_HR_1 := HR.out.cell 1 _ rfl; have c1_HR_2 := HR.out.cell 2 _ rfl; have q1 := q0.trans (h1.mono q0.size)))
    obtain ⟨hR, hS, hW⟩ := res_done (R := 0) (C := 0) q1 (by omega) HR.out (Sl.nil' eS _)
    have z0 := hR.cell 0 _ rfl; have z1 := hR.cell 1 _ rfl; have z2 := hR.cell 2 _ rfl
    exact bodyPost_ret (v := .tuple #[.agg #[.int .i64 0, .int .i64 0, .slice none 0 0], .int .i64 (MthereS R C xs i k)]) (by simp [results, Tryz.results28, go_sem, z0, z1, z2]) rfl ⟨_, rfl, _, rfl, hS, hW⟩
set_option maxHeartbeats 2000000 in
theorem rGet_any (w : World) (R C : Int) (v : Value) (xs : List ByteArray) (i k : Int) (hv : Sl eS w v xs) (hsz : xs.length ≤ 256 → ∀ s ∈ xs, s.size ≤ 1000000) :
    Calls Tryz.prog 33 #[.agg #[.int .i64 R, .int .i64 C, v], .int .i64 i, .int .i64 k] w (Rets fun v w' => v = .tuple #[.string (getS R C xs i k).1, .int .i64 (getS R C xs i k).2] ∧ Below w.heap.size w w') := by
  have HV := Lib.hid hv; have HSZ := Lib.hid hsz
  obtain ⟨ad, cap, rfl⟩ := sl_form hv
  have HB := Lib.hid ((Below.refl w.heap.size w).alloc (Nat.le_refl _) (.cells #[.int .i64 R, .int .i64 C, .slice ad xs.length cap] 24))
  have q0 := HB.out
  have HK := Lib.hid (Blk.new w [.int .i64 R, .int .i64 C, .slice ad xs.length cap] 24)
  by_cases h : MthereS R C xs i k = 0
  · have H := Lib.hid h
    have HG := Lib.hid (show getS R C xs i k = (txt (matF C.toNat xs i.toNat k.toNat), 0) by unfold getS; rw [if_pos h])
    obtain ⟨r, c, a, b, hrm, rfl, rfl, ha, hb⟩ := there_of h
    obtain rfl := hrm.rows; obtain rfl := hrm.cols
    have HRM := Lib.hid hrm
    clear hv hsz h hrm
    go_enter Tryz.func33, Tryz.ntmps33
    go_wp2_with (first
      | (go_at_call 71; (with_reducible refine (rMat_any _ r c _ xs c a b _ HV.out rfl HRM.out.l256 (HRM.out.get ha hb)).mono ?_); rintro e w2 ⟨v, rfl, rfl, h2⟩; have HV := Lib.hid (HV.out.below h2 (Nat.le_refl _)); have HK := Lib.hid (HK.out.below h2 (Nat.le_refl _)); have c2_HK_0 := HK.out.cell 0 _ rfl; have c2_HK_1 := HK.out.cell 1 _ rfl; have c2_HK_2 := HK.out.cell 2 _ rfl; have q2 := q1.trans (h2.mono q1.size))
      | (go_at_call 68; (with_reducible refine (rMthere_any _ r c _ xs a b (HV.out.below HB.out (Nat.le_refl _)) HSZ.out).mono ?_); rintro e w1 ⟨v, rfl, rfl, h1⟩; rw [H.out]; have HV := Lib.hid (HV.out.below HB.out (Nat.le_refl _)); have HV := Lib.hid (HV.out.below h1 (Nat.le_refl _)); have HK := Lib.hid (HK.out.below h1 (Nat.le_refl _)); have c1_HK_0 := HK.out.cell 0 _ rfl; have c1_HK_1 := HK.out.cell 1 _ rfl; have c1_HK_2 := HK.out.cell 2 _ rfl; have q1 := q0.trans (h1.mono q0.size)))
    go_ret2
    exact ⟨_, rfl, by rw [HG.out]; rfl, q2⟩
  · have HG := Lib.hid (show getS R C xs i k = (⟨#[]⟩, MthereS R C xs i k) by unfold getS; rw [if_neg h])
    have hne : (MthereS R C xs i k != 0) = true := by simp [h]
    clear hv hsz h
    go_enter Tryz.func33, Tryz.ntmps33
    go_wp2_with (first
      | (go_at_call 68; (with_reducible refine (rMthere_any _ R C _ xs i k (HV.out.below HB.out (Nat.le_refl _)) HSZ.out).mono ?_); rintro e w1 ⟨v, rfl, rfl, h1⟩; have q1 := q0.trans (h1.mono q0.size)))
    go_ret2
    exact ⟨_, rfl, by rw [HG.out]; rfl, q1⟩
set_option maxHeartbeats 4000000 in
theorem rMake_any (w : World) (R C : Int) (v : Value) (ls : List Int) (hv : Sl eZ w v ls) (hz : ∀ z ∈ ls, -9223372036854775808 ≤ z ∧ z ≤ 9223372036854775807) :
    Calls Tryz.prog 35 #[.int .i64 R, .int .i64 C, v] w (RetMR w (makeS R C ls)) := by
  have HV := Lib.hid hv; have HZ := Lib.hid hz
  obtain ⟨ad, cap, rfl⟩ := sl_form hv
  clear hv hz
  by_cases hR : sideB R = true
  · by_cases hC : sideB C = true
    · have hm2 := side_mul hR hC
      obtain ⟨p, hRC⟩ : ∃ p, R * C = p := ⟨_, rfl⟩
      rw [hRC] at hm2
      have H1 := Lib.hid hR; have H2 := Lib.hid hC
      by_cases hl : (ls.length : Int) = p
      · have hne : ((ls.length : Int) != p) = false := by simp [hl]
        have HTU := Lib.hid (fun (w1 : World) (u : Value) (h1 : Sl eZ w1 u ls) => rMOf_any w1 R C u ls h1 (by omega) HZ.out)
        have hmk : makeS R C ls = ⟨R, C, ls.map txt, 0⟩ := by unfold makeS; rw [if_pos hR, if_pos hC, if_pos (by rw [hRC]; exact hl)]
        obtain ⟨xt, hxt⟩ : ∃ l, ls.map txt = l := ⟨_, rfl⟩
        rw [hxt] at HTU hmk
        show Calls _ _ _ _ (RetM w (makeS R C ls).R (makeS R C ls).C (makeS R C ls).xs (makeS R C ls).k)
        rw [show makeS R C ls = ⟨R, C, xt, 0⟩ by exact hmk]
        have HB := Lib.hid ((Below.refl w.heap.size w).alloc (Nat.le_refl _) (.cells #[.int .i64 0, .int .i64 0, .slice none 0 0] 24))
        have q0 := HB.out
        have HR := Lib.hid (Blk.new w [.int .i64 0, .int .i64 0, .slice none 0 0] 24)
        have HV := Lib.hid (HV.out.below HB.out (Nat.le_refl _))
        clear hR hC hl hmk hxt
        go_enter Tryz.func35, Tryz.ntmps35
        go_wp2_with (first
          | (go_at_call 74; (with_reducible refine (HTU.out _ _ HV.out).mono ?_); rintro e w3 ⟨v, rfl, x3, rfl, s3, h3⟩; have HS := Lib.hid s3; obtain ⟨a3, k3, rfl⟩ := sl_form s3; clear s3; have HR := Lib.hid (HR.out.below h3 (Nat.le_refl _)); have f3_HR_0 := HR.out.free 0; have f3_HR_1 := HR.out.free 1; have f3_HR_2 := HR.out.free 2; have c3_HR_0 := HR.out.cell 0 _ rfl; have c3_HR_1 := HR.out.cell 1 _ rfl; have c3_HR_2 := HR.out.cell 2 _ rfl; have q3 := q2.trans (h3.mono q2.size))
          | (go_at_call_of 46 (Value.int .i64 C); (with_reducible refine (rMside_any _ C).mono ?_); rintro e w' ⟨v, rfl, rfl, rfl⟩; rw [H2.out]; have q2 := q1)
          | (go_at_call_of 46 (Value.int .i64 R); (with_reducible refine (rMside_any _ R).mono ?_); rintro e w' ⟨v, rfl, rfl, rfl⟩; rw [H1.out]; have q1 := q0))
        obtain ⟨hR, hS, hW⟩ := res_done (R := R) (C := C) q3 (by omega) HR.out HS.out
        have z0 := hR.cell 0 _ rfl; have z1 := hR.cell 1 _ rfl; have z2 := hR.cell 2 _ rfl
        exact bodyPost_ret (v := .tuple #[.agg #[.int .i64 R, .int .i64 C, .slice a3 xt.length k3], .int .i64 0]) (by simp [results, Tryz.results35, go_sem, z0, z1, z2]) rfl ⟨_, rfl, _, rfl, hS, hW⟩
      · have hne : ((ls.length : Int) != p) = true := by simp [hl]
        show Calls _ _ _ _ (RetM w (makeS R C ls).R (makeS R C ls).C (makeS R C ls).xs (makeS R C ls).k)
        rw [show makeS R C ls = .bad 8 by unfold makeS; rw [if_pos hR, if_pos hC, if_neg (by rw [hRC]; exact hl)]]
        have HB := Lib.hid ((Below.refl w.heap.size w).alloc (Nat.le_refl _) (.cells #[.int .i64 0, .int .i64 0, .slice none 0 0] 24))
        have q0 := HB.out
        have HR := Lib.hid (Blk.new w [.int .i64 0, .int .i64 0, .slice none 0 0] 24)
        have HV := Lib.hid (HV.out.below HB.out (Nat.le_refl _))
        clear hR hC hl
        go_enter Tryz.func35, Tryz.ntmps35
        go_wp2_with (first
          | (go_at_call_of 46 (Value.int .i64 C); (with_reducible refine (rMside_any _ C).mono ?_); rintro e w' ⟨v, rfl, rfl, rfl⟩; rw [H2.out]; have q2 := q1)
          | (go_at_call_of 46 (Value.int .i64 R); (with_reducible refine (rMside_any _ R).mono ?_); rintro e w' ⟨v, rfl, rfl, rfl⟩; rw [H1.out]; have q1 := q0))
        exact bodyPost_ret (v := .tuple #[.agg #[.int .i64 0, .int .i64 0, .slice none 0 0], .int .i64 8]) (by simp [results, Tryz.results35, go_sem]) rfl ⟨_, rfl, _, rfl, Sl.nil' _ _, HB.out⟩
    · have H1 := Lib.hid hR; have H2 := Lib.hid (show sideB C = false by simpa using hC)
      show Calls _ _ _ _ (RetM w (makeS R C ls).R (makeS R C ls).C (makeS R C ls).xs (makeS R C ls).k)
      rw [show makeS R C ls = .bad 2 by unfold makeS; rw [if_pos hR, if_neg hC]]
      have HB := Lib.hid ((Below.refl w.heap.size w).alloc (Nat.le_refl _) (.cells #[.int .i64 0, .int .i64 0, .slice none 0 0] 24))
      have q0 := HB.out
      have HR := Lib.hid (Blk.new w [.int .i64 0, .int .i64 0, .slice none 0 0] 24)
      have HV := Lib.hid (HV.out.below HB.out (Nat.le_refl _))
      clear hR hC
      go_enter Tryz.func35, Tryz.ntmps35
      go_wp2_with (first
        | (go_at_call_of 46 (Value.int .i64 C); (with_reducible refine (rMside_any _ C).mono ?_); rintro e w' ⟨v, rfl, rfl, rfl⟩; rw [H2.out]; have q2 := q1)
        | (go_at_call_of 46 (Value.int .i64 R); (with_reducible refine (rMside_any _ R).mono ?_); rintro e w' ⟨v, rfl, rfl, rfl⟩; rw [H1.out]; have q1 := q0))
      exact bodyPost_ret (v := .tuple #[.agg #[.int .i64 0, .int .i64 0, .slice none 0 0], .int .i64 2]) (by simp [results, Tryz.results35, go_sem]) rfl ⟨_, rfl, _, rfl, Sl.nil' _ _, HB.out⟩
  · have H1 := Lib.hid (show sideB R = false by simpa using hR)
    show Calls _ _ _ _ (RetM w (makeS R C ls).R (makeS R C ls).C (makeS R C ls).xs (makeS R C ls).k)
    rw [show makeS R C ls = .bad 2 by unfold makeS; rw [if_neg hR]]
    have HB := Lib.hid ((Below.refl w.heap.size w).alloc (Nat.le_refl _) (.cells #[.int .i64 0, .int .i64 0, .slice none 0 0] 24))
    have q0 := HB.out
    have HR := Lib.hid (Blk.new w [.int .i64 0, .int .i64 0, .slice none 0 0] 24)
    have HV := Lib.hid (HV.out.below HB.out (Nat.le_refl _))
    clear hR
    go_enter Tryz.func35, Tryz.ntmps35
    go_wp2_with (first
      | (go_at_call_of 46 (Value.int .i64 R); (with_reducible refine (rMside_any _ R).mono ?_); rintro e w' ⟨v, rfl, rfl, rfl⟩; rw [H1.out]; have q1 := q0))
    exact bodyPost_ret (v := .tuple #[.agg #[.int .i64 0, .int .i64 0, .slice none 0 0], .int .i64 2]) (by simp [results, Tryz.results35, go_sem]) rfl ⟨_, rfl, _, rfl, Sl.nil' _ _, HB.out⟩
theorem one_place {n t : Nat} (h : t < n * n) : t / n < n ∧ t % n < n ∧ 0 < n := by
  have hn : 0 < n := by rcases Nat.eq_zero_or_pos n with e | e; · simp [e] at h
                        · exact e
  exact ⟨Nat.div_lt_of_lt_mul h, Nat.mod_lt _ hn, hn⟩
set_option maxHeartbeats 4000000 in
theorem rOne_any (w : World) (n : Nat) (hn : n ≤ 16) : Calls Tryz.prog 76 #[.int .i64 n] w (Rets fun v' w' => ∃ u, v' = .agg #[.int .i64 n, .int .i64 n, u] ∧ Sl eS w' u (cellsF n n one) ∧ Below w.heap.size w w') := by
  obtain ⟨L, hL⟩ : ∃ L, cellsF n n one = L := ⟨_, rfl⟩
  have HLL := Lib.hid (show L.length = n * n by rw [← hL, cellsF_len])
  have HLG := Lib.hid (fun t (h : t < L.length) => show L.take (t + 1) = L.take t ++ [txt (one (t / n) (t % n))] by
    rw [List.take_succ_eq_append_getElem h]; subst hL; simp [cellsF])
  rw [hL]
  clear hL
  obtain ⟨m, hm⟩ : ∃ m, n * n = m := ⟨_, rfl⟩
  have em : (n : Int) * (n : Int) = (m : Int) := by rw [← Int.natCast_mul, hm]
  have hm256 : m ≤ 256 := by rw [← hm]; exact Nat.mul_le_mul hn hn
  have HM := Lib.hid hm
  rw [hm] at HLL
  clear hm
  go_enter Tryz.func76, Tryz.ntmps76
  go_wp2
  have hF0 := FB.start w (n : Int) (n : Int)
  have HF0 := Lib.hid hF0
  clear hF0
  go_loopw [4] (fun i wr => ∃ t : Nat, t ≤ m ∧ i = .int .i64 t ∧ ∃ v, Hid (FB w w.heap.size wr (n : Int) (n : Int) v (L.take t))) (fun i _ => m - (intOf i).toNat)
  case atStart => exact ⟨0, Nat.zero_le _, rfl, _, Lib.hid HF0.out⟩
  case round =>
    clear HF0
    obtain ⟨t, ht, rfl, v, hB⟩ := hrel
    by_cases htm : t < m
    · obtain ⟨p1, p2, p3⟩ := one_place (show t < n * n by rw [HM.out]; exact htm)
      have hNX := HLG.out t (by rw [HLL.out]; exact htm)
      obtain ⟨T, hTT⟩ : ∃ T, L.take t = T := ⟨_, rfl⟩
      have HTL := Lib.hid (show T.length ≤ 256 by rw [← hTT, List.length_take]; have := HLL.out; omega)
      rw [hTT] at hB hNX
      have k2 := hB.out.box.cell 2 _ rfl
      have z0 : (0 : Int) ≤ (t : Int) := by omega
      have z1 : ((n : Int) == 0) = false := by simp; omega
      have z2 : (n : Int) ≠ 0 := by omega
      have z3 : (0 : Int) < (n : Int) := by omega
      obtain ⟨a, ha⟩ : ∃ a, t / n = a := ⟨_, rfl⟩
      obtain ⟨b, hb⟩ : ∃ b, t % n = b := ⟨_, rfl⟩
      have ea : (t : Int) / (n : Int) = (a : Int) := by rw [← ha]; simp
      have eb : (t : Int) % (n : Int) = (b : Int) := by rw [← hb]; simp
      have ea2 : (t : Int).tdiv (n : Int) = (a : Int) := by rw [Int.tdiv_eq_ediv_of_nonneg z0, ea]
      have eb2 : (t : Int).tmod (n : Int) = (b : Int) := by rw [Int.tmod_eq_emod_of_nonneg z0, eb]
      rw [ha, hb] at hNX
      have w1x : (a : Int) ≤ 256 := by omega
      have w2x : (b : Int) ≤ 256 := by omega
      clear hTT ha hb p1 p2
      by_cases hab : a = b
      · have hq : ((a : Int) == (b : Int)) = true := by simp [hab]
        have HNX := Lib.hid (show L.take (t + 1) = T ++ [⟨#[49]⟩] by rw [hNX, show one a b = 1 by simp [one, hab], txt_one])
        clear hab hNX
        go_wp2_with fail
        go_quiet (fail)
        have H2 := Lib.hid (hB.out.keep (below_drewN (Below.refl _ _) nq))
        clear hB k2
        generalize wr.drewN nq = W1 at *
        have k3 := H2.out.box.cell 2 _ rfl
        go_wp2_with (at_builtin; refine app1 (news := [.string ⟨#[49]⟩]) elemStr rfl _ _ rfl rfl rfl H2.out.row (Below.refl _ _) (Nat.le_refl _) (by have := H2.out.lt; omega) rfl (by simp [Value.oneCell']) (by have := HTL.out; omega) (by unfold maxLen; have := HTL.out; omega) ?_; intro v6 w6 hown6 hb6; obtain ⟨g6, cap6, rfl⟩ := ownsRow_succ hown6; have H6 := Lib.hid (H2.out.push hb6 hown6); have B6 := H2.out.box6 hb6; have j2 := B6.cell 2 _ rfl; have f2 := B6.free 2; clear hown6 B6)
        go_roundw
        case rel => exact ⟨t + 1, by omega, by go_num, _, Lib.hid (by rw [HNX.out]; exact H6.out)⟩
        case measure => simp [intOf]; omega
      · have hq : ((a : Int) == (b : Int)) = false := by simp; omega
        have HNX := Lib.hid (show L.take (t + 1) = T ++ [⟨#[48]⟩] by rw [hNX, show one a b = 0 by simp [one, hab], txt0])
        clear hab hNX
        go_wp2_with fail
        go_quiet (fail)
        have H2 := Lib.hid (hB.out.keep (below_drewN (Below.refl _ _) nq))
        clear hB k2
        generalize wr.drewN nq = W1 at *
        have k3 := H2.out.box.cell 2 _ rfl
        go_wp2_with (at_builtin; refine app1 (news := [.string ⟨#[48]⟩]) elemStr rfl _ _ rfl rfl rfl H2.out.row (Below.refl _ _) (Nat.le_refl _) (by have := H2.out.lt; omega) rfl (by simp [Value.oneCell']) (by have := HTL.out; omega) (by unfold maxLen; have := HTL.out; omega) ?_; intro v6 w6 hown6 hb6; obtain ⟨g6, cap6, rfl⟩ := ownsRow_succ hown6; have H6 := Lib.hid (H2.out.push hb6 hown6); have B6 := H2.out.box6 hb6; have j2 := B6.cell 2 _ rfl; have f2 := B6.free 2; clear hown6 B6)
        go_roundw
        case rel => exact ⟨t + 1, by omega, by go_num, _, Lib.hid (by rw [HNX.out]; exact H6.out)⟩
        case measure => simp [intOf]; omega
    · obtain rfl : t = m := by omega
      have H := Lib.hid (show FB w w.heap.size wr (n : Int) (n : Int) v L by have := hB.out; rwa [← HLL.out, List.take_length] at this)
      obtain ⟨va, vc, rfl⟩ := own_form H.out.row
      have k0 := H.out.box.cell 0 _ rfl; have k1 := H.out.box.cell 1 _ rfl; have k2 := H.out.box.cell 2 _ rfl
      have r0 := H.out.res.cell 0 _ rfl; have r1 := H.out.res.cell 1 _ rfl; have r2 := H.out.res.cell 2 _ rfl
      have f0 := H.out.res.free 0; have f1 := H.out.res.free 1; have f2 := H.out.res.free 2
      clear hB
      go_wp2
      obtain ⟨hR, hS, hW⟩ := H.out.done
      have q0 := hR.cell 0 _ rfl; have q1 := hR.cell 1 _ rfl; have q2 := hR.cell 2 _ rfl
      exact bodyPost_ret (v := .agg #[.int .i64 n, .int .i64 n, .slice va L.length vc]) (by simp [results, Tryz.results76, go_sem, q0, q1, q2]) rfl ⟨_, rfl, _, rfl, hS, hW⟩
set_option maxHeartbeats 2000000 in
theorem rUnit_any (w : World) (n : Int) : Calls Tryz.prog 37 #[.int .i64 n] w (RetMR w (unitS n)) := by
  by_cases h : sideB n = true
  · obtain ⟨h0, h1⟩ := (sideB_iff n).1 h
    have H := Lib.hid h
    obtain ⟨r, rfl⟩ : ∃ r : Nat, n = (r : Int) := ⟨n.toNat, by omega⟩
    have hr : r ≤ 16 := by omega
    have hun : unitS r = ⟨r, r, cellsF r r one, 0⟩ := by unfold unitS; rw [if_pos h]; rfl
    have HTU := Lib.hid (fun (w1 : World) => rOne_any w1 r hr)
    obtain ⟨xt, hxt⟩ : ∃ l, cellsF r r one = l := ⟨_, rfl⟩
    rw [hxt] at HTU hun
    show Calls _ _ _ _ (RetM w (unitS r).R (unitS r).C (unitS r).xs (unitS r).k)
    rw [show unitS r = ⟨r, r, xt, 0⟩ by exact hun]
    have HB := Lib.hid ((Below.refl w.heap.size w).alloc (Nat.le_refl _) (.cells #[.int .i64 0, .int .i64 0, .slice none 0 0] 24))
    have q0 := HB.out
    have HR := Lib.hid (Blk.new w [.int .i64 0, .int .i64 0, .slice none 0 0] 24)
    clear h h0 h1 hun hxt
    go_enter Tryz.func37, Tryz.ntmps37
    go_wp2_with (first
      | (go_at_call 76; (with_reducible refine (HTU.out _).mono ?_); rintro e w2 ⟨v, rfl, x2, rfl, s2, h2⟩; have HS := Lib.hid s2; obtain ⟨a2, k2, rfl⟩ := sl_form s2; clear s2; have HR := Lib.hid (HR.out.below h2 (Nat.le_refl _)); have f2_HR_0 := HR.out.free 0; have f2_HR_1 := HR.out.free 1; have f2_HR_2 := HR.out.free 2; have c2_HR_0 := HR.out.cell 0 _ rfl; have c2_HR_1 := HR.out.cell 1 _ rfl; have c2_HR_2 := HR.out.cell 2 _ rfl; have q2 := q1.trans (h2.mono q1.size))
      | (go_at_call_of 46 (Value.int .i64 r); (with_reducible refine (rMside_any _ r).mono ?_); rintro e w' ⟨v, rfl, rfl, rfl⟩; rw [H.out]; have q1 := q0))
    obtain ⟨hR, hS, hW⟩ := res_done (R := r) (C := r) q2 (by omega) HR.out HS.out
    have z0 := hR.cell 0 _ rfl; have z1 := hR.cell 1 _ rfl; have z2 := hR.cell 2 _ rfl
    exact bodyPost_ret (v := .tuple #[.agg #[.int .i64 r, .int .i64 r, .slice a2 xt.length k2], .int .i64 0]) (by simp [results, Tryz.results37, go_sem, z0, z1, z2]) rfl ⟨_, rfl, _, rfl, hS, hW⟩
  · have H := Lib.hid (show sideB n = false by simpa using h)
    show Calls _ _ _ _ (RetM w (unitS n).R (unitS n).C (unitS n).xs (unitS n).k)
    rw [show unitS n = .bad 2 by unfold unitS; rw [if_neg h]]
    have HB := Lib.hid ((Below.refl w.heap.size w).alloc (Nat.le_refl _) (.cells #[.int .i64 0, .int .i64 0, .slice none 0 0] 24))
    have q0 := HB.out
    have HR := Lib.hid (Blk.new w [.int .i64 0, .int .i64 0, .slice none 0 0] 24)
    clear h
    go_enter Tryz.func37, Tryz.ntmps37
    go_wp2_with (first
      | (go_at_call_of 46 (Value.int .i64 n); (with_reducible refine (rMside_any _ n).mono ?_); rintro e w' ⟨v, rfl, rfl, rfl⟩; rw [H.out]; have q1 := q0))
    exact bodyPost_ret (v := .tuple #[.agg #[.int .i64 0, .int .i64 0, .slice none 0 0], .int .i64 2]) (by simp [results, Tryz.results37, go_sem]) rfl ⟨_, rfl, _, rfl, Sl.nil' _ _, HB.out⟩
end Go.Proofs.YtfhdmhifdaiehaaGreatDoor

namespace Go.Proofs.YtfhdmhifdaiehaaGreatDoor
open Go.RowKit
set_option maxRecDepth 100000

/-- What Same answers. -/
def sameM (R C : Int) (xs : List ByteArray) (R' C' : Int) (ys : List ByteArray) : Bool := decide (R = R') && (decide (C = C') && decide (xs = ys))
set_option maxHeartbeats 2000000 in
theorem MSame_any (w : World) (R C R' C' : Int) (v u : Value) (xs ys : List ByteArray) (hv : Sl eS w v xs) (hu : Sl eS w u ys) :
    Calls Tryz.prog 31 #[.agg #[.int .i64 R, .int .i64 C, v], .agg #[.int .i64 R', .int .i64 C', u]] w (Rets fun r w' => r = .bool (sameM R C xs R' C' ys) ∧ Below w.heap.size w w') := by
  have HV := Lib.hid hv; have HU := Lib.hid hu
  obtain ⟨ad, cap, rfl⟩ := sl_form hv
  obtain ⟨ad', cap', rfl⟩ := sl_form hu
  clear hv hu
  have HB := Lib.hid (((Below.refl w.heap.size w).alloc (Nat.le_refl _) (.cells #[.int .i64 R, .int .i64 C, .slice ad xs.length cap] 24)).alloc (by simp) (.cells #[.int .i64 R', .int .i64 C', .slice ad' ys.length cap'] 24))
  by_cases h1 : R = R'
  · have q1 : (R == R') = true := by simp [h1]
    by_cases h2 : C = C'
    · have q2 : (C == C') = true := by simp [h2]
      have HQ := Lib.hid (show sameM R C xs R' C' ys = decide (xs = ys) by unfold sameM; rw [decide_eq_true h1, decide_eq_true h2]; rfl)
      clear h1 h2
      go_enter Tryz.func31, Tryz.ntmps31
      go_wp2_with (go_at_call 47; (with_reducible refine (EqualM_any _ _ _ xs ys (HV.out.below HB.out (Nat.le_refl _)) (HU.out.below HB.out (Nat.le_refl _))).mono ?_); rintro e w1 ⟨v, rfl, rfl, hb1⟩; rw [← HQ.out])
      go_ret
      exact ⟨_, rfl, rfl, HB.out.trans (hb1.mono HB.out.size)⟩
    · have q2 : (C == C') = false := by simp [h2]
      have HQ := Lib.hid (show sameM R C xs R' C' ys = false by unfold sameM; rw [decide_eq_false h2]; simp)
      clear h1 h2
      go_enter Tryz.func31, Tryz.ntmps31
      go_wp2
      go_ret
      exact ⟨_, rfl, by rw [HQ.out]; rfl, HB.out⟩
  · have q1 : (R == R') = false := by simp [h1]
    have HQ := Lib.hid (show sameM R C xs R' C' ys = false by unfold sameM; rw [decide_eq_false h1]; rfl)
    clear h1
    go_enter Tryz.func31, Tryz.ntmps31
    go_wp2
    go_ret
    exact ⟨_, rfl, by rw [HQ.out]; rfl, HB.out⟩
set_option maxHeartbeats 2000000 in
theorem rMSame_any (w : World) (R C R' C' : Int) (v u : Value) (xs ys : List ByteArray) (hv : Sl eS w v xs) (hu : Sl eS w u ys) :
    Calls Tryz.prog 30 #[.agg #[.int .i64 R, .int .i64 C, v], .agg #[.int .i64 R', .int .i64 C', u]] w (Rets fun r w' => r = .bool (sameM R C xs R' C' ys) ∧ Below w.heap.size w w') := by
  have HV := Lib.hid hv; have HU := Lib.hid hu
  obtain ⟨ad, cap, rfl⟩ := sl_form hv
  obtain ⟨ad', cap', rfl⟩ := sl_form hu
  clear hv hu
  have HB := Lib.hid (((Below.refl w.heap.size w).alloc (Nat.le_refl _) (.cells #[.int .i64 R, .int .i64 C, .slice ad xs.length cap] 24)).alloc (by simp) (.cells #[.int .i64 R', .int .i64 C', .slice ad' ys.length cap'] 24))
  by_cases h1 : R = R'
  · have q1 : (R == R') = true := by simp [h1]
    by_cases h2 : C = C'
    · have q2 : (C == C') = true := by simp [h2]
      have HQ := Lib.hid (show sameM R C xs R' C' ys = decide (xs = ys) by unfold sameM; rw [decide_eq_true h1, decide_eq_true h2]; rfl)
      clear h1 h2
      go_enter Tryz.func30, Tryz.ntmps30
      go_wp2_with (go_at_call 45; (with_reducible refine (rSameM_any _ _ _ xs ys (HV.out.below HB.out (Nat.le_refl _)) (HU.out.below HB.out (Nat.le_refl _))).mono ?_); rintro e w1 ⟨v, rfl, rfl, hb1⟩; rw [← HQ.out])
      go_ret
      exact ⟨_, rfl, rfl, HB.out.trans (hb1.mono HB.out.size)⟩
    · have q2 : (C == C') = false := by simp [h2]
      have HQ := Lib.hid (show sameM R C xs R' C' ys = false by unfold sameM; rw [decide_eq_false h2]; simp)
      clear h1 h2
      go_enter Tryz.func30, Tryz.ntmps30
      go_wp2
      go_ret
      exact ⟨_, rfl, by rw [HQ.out]; rfl, HB.out⟩
  · have q1 : (R == R') = false := by simp [h1]
    have HQ := Lib.hid (show sameM R C xs R' C' ys = false by unfold sameM; rw [decide_eq_false h1]; rfl)
    clear h1
    go_enter Tryz.func30, Tryz.ntmps30
    go_wp2
    go_ret
    exact ⟨_, rfl, by rw [HQ.out]; rfl, HB.out⟩
theorem sameM_self (R C : Int) (xs : List ByteArray) : sameM R C xs R C xs = true := by simp [sameM]
end Go.Proofs.YtfhdmhifdaiehaaGreatDoor
