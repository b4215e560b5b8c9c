/- The walk of euler's Walk at unicycles. -/
import Derived.Test.YtlnhocgjgmhfgaaGreatDoorPk13
namespace Go.Proofs.YtlnhocgjgmhfgaaGreatDoor
open Go.RowKit
set_option maxRecDepth 100000

/-- The rotors behind the arcs l. -/
def rotK (ss : List (Nat × Nat)) (us : List Int) (n : Nat) (l : List Nat) : List Nat := (List.range n).map fun v => (rot us v + Rot.cntS ss l v) % (Rot.outs ss v).length
theorem rotK_len (ss : List (Nat × Nat)) (us : List Int) (n : Nat) (l : List Nat) : (rotK ss us n l).length = n := by simp [rotK]
theorem rotK_zero {n : Nat} {ss : List (Nat × Nat)} {a : Nat} {us : List Int} (h : GoodU n ss a us) : us = (rotK ss us n []).map fun (x : Nat) => (x : Int) := by
  apply List.ext_getElem
  · rw [List.length_map, rotK_len, h.len]
  · intro i h1 h2
    have hi : i < n := by rw [← h.len]; exact h1
    have h3 := h.rng i hi
    have h4 : us.getD i 0 = us[i] := by simp [List.getD_eq_getElem?_getD, h1]
    rw [h4] at h3
    simp only [rotK, List.getElem_map, List.getElem_range, Rot.cntS, List.countP_nil, Nat.add_zero, rot, h4]
    rw [Nat.mod_eq_of_lt (by omega)]
    omega
theorem rotK_step {ss : List (Nat × Nat)} {us : List Int} {n v e : Nat} {l : List Nat} (_ : v < n) (he : Rot.src ss e = v) (h : v < (rotK ss us n l).length) :
    rotK ss us n (l ++ [e]) = (rotK ss us n l).set v (((rotK ss us n l)[v] + 1) % (Rot.outs ss v).length) := by
  apply List.ext_getElem (by simp [rotK])
  intro i h1 h2
  have hin : i < n := by simpa [rotK] using h1
  by_cases e2 : v = i
  · subst e2
    rw [List.getElem_set_self]
    simp only [rotK, List.getElem_map, List.getElem_range, Rot.cntS, List.countP_append]
    simp [he, Nat.add_assoc]
  · rw [List.getElem_set_ne e2]
    simp only [rotK, List.getElem_map, List.getElem_range, Rot.cntS, List.countP_append]
    simp [he, e2]

section
variable {P : Program} {ops : Array Oper} {Q : Exit → Act → World → Prop} {md : Region.Mode} {S : World → Prop} {A : Nat → Bool}
theorem wpAnyJ_pair {i j : Nat} {o o' : Oper} {fuel : Nat} {listed : Array Bool} {a : Act} {w : World} (hr : Region.ready md ops listed = [i, j]) (ho : ops[i]? = some o) (ho' : ops[j]? = some o')
    (h : ∀ K' : Act → World → Prop, Shut (∀ a w, (A i = true → S w) → wpAnyJ P md ops Q S A fuel (listed.setIfInBounds i true) a w → K' a w) → if Region.wanted o (yielded ops a.tmps) = true then Oper.wp P o a w K' Q else K' (a.put o.dst undef) w)
    (h' : ∀ K' : Act → World → Prop, Shut (∀ a w, (A j = true → S w) → wpAnyJ P md ops Q S A fuel (listed.setIfInBounds j true) a w → K' a w) → if Region.wanted o' (yielded ops a.tmps) = true then Oper.wp P o' a w K' Q else K' (a.put o'.dst undef) w) :
    wpAnyJ P md ops Q S A (fuel + 1) listed a w :=
  ⟨fun h0 => absurd (hr ▸ h0) (by simp), by
    rw [hr]
    intro k hk
    rcases List.mem_cons.1 hk with rfl | hk
    · exact wpOp_step ho (fun K' hK => h K' (fun a w hS hW => hK a w ⟨hS, hW⟩))
    · rw [List.mem_singleton] at hk
      subst hk
      exact wpOp_step ho' (fun K' hK => h' K' (fun a w hS hW => hK a w ⟨hS, hW⟩))⟩
end
theorem own_some {w : World} {b e s n : Nat} {v : Value} {ys : List Value} (h : w.ownsRow b e s v n ys) (hv : v ≠ .slice none 0 0) : ∃ g cap, v = .slice (some ⟨g, 0, none⟩) n cap ∧ b ≤ g := by
  rcases h.2 with ⟨h0, -⟩ | ⟨g, cap, cur, h1, h2, -⟩
  · exact absurd h0 hv
  · exact ⟨g, cap, h1, h2⟩

/-- One step of the run. -/
theorem run_step {ss : List (Nat × Nat)} {us : List Int} {n a j v : Nat} {l : List Nat} (_ : n ≤ 12) (h : GoodU n ss a us) (hrg : ∀ x ∈ ss, x.1 < n ∧ x.2 < n) (hr : Rot.run ss (rot us) a j = (v, l)) (hv : v < n) :
    ∃ x e z1 z2, ∃ (h1 : v < (rotK ss us n l).length), (rotK ss us n l)[v] = x ∧ ∃ h2 : (x + 1) % (Rot.outs ss v).length < (Rot.outs ss v).length, (Rot.outs ss v)[(x + 1) % (Rot.outs ss v).length] = e ∧ x < (Rot.outs ss v).length ∧ ∃ h3 : e < ss.length, ss[e] = (z1, z2) ∧ z2 < n ∧
      Rot.run ss (rot us) a (j + 1) = (z2, l ++ [e]) ∧ rotK ss us n (l ++ [e]) = (rotK ss us n l).set v ((x + 1) % (Rot.outs ss v).length) := by
  have hpos := h.pos v hv
  have h1 : v < (rotK ss us n l).length := by rw [rotK_len]; exact hv
  have h2 := Nat.mod_lt ((rotK ss us n l)[v] + 1) hpos
  have hx : (rotK ss us n l)[v] = (rot us v + Rot.cntS ss l v) % (Rot.outs ss v).length := by simp [rotK]
  have hmm : ((rotK ss us n l)[v] + 1) % (Rot.outs ss v).length = (rot us v + Rot.cntS ss l v + 1) % (Rot.outs ss v).length := by rw [hx, Nat.mod_add_mod]
  obtain ⟨e, he⟩ : ∃ e, (Rot.outs ss v)[((rotK ss us n l)[v] + 1) % (Rot.outs ss v).length]'h2 = e := ⟨_, rfl⟩
  have hem : e ∈ Rot.outs ss v := by rw [← he]; exact List.getElem_mem h2
  obtain ⟨h3, hsrc⟩ := Rot.outs_mem.1 hem
  obtain ⟨⟨z1, z2⟩, hz⟩ : ∃ z, ss[e] = z := ⟨_, rfl⟩
  have hnx : Rot.nxt ss (rot us) v (Rot.cntS ss l v) = e := by
    unfold Rot.nxt
    rw [← hmm, List.getD_eq_getElem?_getD, List.getElem?_eq_getElem h2, he]; rfl
  refine ⟨_, e, z1, z2, h1, rfl, h2, he, by rw [hx]; exact Nat.mod_lt _ hpos, h3, hz, ?_, ?_, rotK_step hv hsrc h1⟩
  · have := hrg _ (List.getElem_mem h3); rw [hz] at this; exact this.2
  · rw [Rot.run, hr]
    simp only
    rw [hnx]
    simp [Rot.trg, List.getD_eq_getElem?_getD, h3, hz]

set_option maxHeartbeats 4000000 in
theorem EWalk_ok (w : World) (n : Nat) (v : Value) (ns : List (Nat × Nat × Nat)) (a : Nat) (rv : Value) (us : List Int) (k : Nat) (hR : RD n ns) (hv : SlK e3 3 w v (ns.map n3)) (hl : ns.length ≤ 1000) (hu : SlK iz 1 w rv us) (hE : EulC n ns) (hG : GoodU n (sgl ns) a us) (hk : k ≤ 4096) :
    Calls Tryz.prog 13 #[.agg #[.int .i64 (n : Nat), v], .agg #[.int .i64 (a : Nat), rv], .int .i64 (k : Nat)] w (Rets fun r w' => ∃ q cap way, r = .tuple #[.agg #[.int .i64 (Rot.run (sgl ns) (rot us) a k).1, .slice (some ⟨q, 0, none⟩) n cap], way, .int .i64 0] ∧
      w'.ownsRow w.heap.size 3 1 (.slice (some ⟨q, 0, none⟩) n cap) n (ints (rotK (sgl ns) us n (Rot.run (sgl ns) (rot us) a k).2)) ∧ w'.ownsRow w.heap.size 3 1 way (Rot.run (sgl ns) (rot us) a k).2.length (ints (Rot.run (sgl ns) (rot us) a k).2) ∧ Below w.heap.size w w') := by
  obtain ⟨ad, c, rfl⟩ := hv.form
  have HUV := Lib.hid hu
  obtain ⟨ru, b, o, cu, rfl, hra, hc, hcm, -, hp⟩ := hu
  obtain rfl := hra (by have := hG.len; have := hR.pos; omega)
  unfold maxLen at hcm
  rw [hG.len] at hc HUV ⊢
  have hnl : (ns.map n3).length = ns.length := List.length_map _
  rw [hnl] at hv ⊢
  have n12 := hR.le
  have n1 := hR.pos
  have hul := hG.len
  have HR := Lib.hid hR; have HV := Lib.hid hv; have HP := Lib.hid hp; have HNL := Lib.hid hnl; have HE0 := Lib.hid hE; have HG := Lib.hid hG; have HUL := Lib.hid hul
  have HM := Lib.hid (show ∀ x ∈ ns, x.2.2 ≤ 50 from fun x hx => (hR.rng x hx).2.2.2)
  have hSL := sgl_le ns HM.out ns.length
  rw [List.take_length] at hSL
  have HRG := Lib.hid (sgl_rng hR)
  obtain ⟨W1, hW1⟩ : ∃ W, w.alloc (.cells #[.int .i64 (n : Nat), .slice ad ns.length c] 28) = W := ⟨_, rfl⟩
  obtain ⟨W2, hW2⟩ : ∃ W, W1.alloc (.cells #[.int .i64 (a : Nat), .slice (some ⟨b, o, none⟩) n cu] 38) = W := ⟨_, rfl⟩
  obtain ⟨W, hW⟩ : ∃ W, W2.alloc (.cells #[.int .i64 0, .slice none 0 0] 38) = W := ⟨_, rfl⟩
  have z1 : W1.heap.size = w.heap.size + 1 := by rw [← hW1, World.size_alloc]
  have z2 : W2.heap.size = w.heap.size + 1 + 1 := by rw [← hW2, World.size_alloc, z1]
  have z3 : W.heap.size = w.heap.size + 1 + 1 + 1 := by rw [← hW, World.size_alloc, z2]
  have k1 : Blk W1 w.heap.size [.int .i64 (n : Nat), .slice ad ns.length c] 28 := by rw [← hW1]; exact Blk.new w _ _
  have k2 : Blk W2 (w.heap.size + 1) [.int .i64 (a : Nat), .slice (some ⟨b, o, none⟩) n cu] 38 := by rw [← hW2, ← z1]; exact Blk.new W1 _ _
  have HD := Lib.hid (show Blk W w.heap.size [.int .i64 (n : Nat), .slice ad ns.length c] 28 by rw [← hW, ← hW2]; exact (k1.alloc _).alloc _)
  have HU := Lib.hid (show Blk W (w.heap.size + 1) [.int .i64 (a : Nat), .slice (some ⟨b, o, none⟩) n cu] 38 by rw [← hW]; exact k2.alloc _)
  have HX := Lib.hid (show Blk W (w.heap.size + 1 + 1) [.int .i64 0, .slice none 0 0] 38 by rw [← hW, ← z2]; exact Blk.new W2 _ _)
  have HQ := Lib.hid (show Below w.heap.size w W by
    have q1 : Below w.heap.size w W1 := by rw [← hW1]; exact (Below.refl _ w).alloc (Nat.le_refl _) _
    have q2 : Below w.heap.size w W2 := by rw [← hW2]; exact q1.alloc q1.size _
    rw [← hW]; exact q2.alloc q2.size _)
  have HVW := Lib.hid (HV.out.below HQ.out (Nat.le_refl _))
  have HUW := Lib.hid (HUV.out.below HQ.out (Nat.le_refl _))
  have HW : Hid (((w.alloc (.cells #[.int .i64 (n : Nat), .slice ad ns.length c] 28)).alloc (.cells #[.int .i64 (a : Nat), .slice (some ⟨b, o, none⟩) n cu] 38)).alloc (.cells #[.int .i64 0, .slice none 0 0] 38) = W) := Lib.hid (by rw [hW1, hW2, hW])
  have HZ2 := Lib.hid z3
  have hk0 : ¬ (k : Int) < 0 := by omega
  have hk1 : ¬ (4096 : Int) < (k : Int) := by omega
  have HCK := Lib.hid (EChk_ok W n (.slice ad ns.length c) ns (a : Int) (.slice (some ⟨b, o, none⟩) n cu) us HR.out HVW.out hl HUW.out)
  clear k1 k2 hW1 hW2 hW z1 z2 z3 hp hv hra hR hnl hE hG hul
  go_enter Tryz.func13, Tryz.ntmps13
  go_wp2_with (go_at_call 15; rw [HW.out]; (with_reducible refine HCK.out.mono ?_); rintro e w1 ⟨v, rfl, ee, rfl, hb, hiff⟩; obtain rfl : ee = 0 := hiff.iff.2 ⟨HE0.out, by omega, by simpa using HG.out⟩; have HB1 := Lib.hid hb; clear hb hiff)
  have HD1 := Lib.hid (HD.out.below HB1.out (Nat.le_refl _))
  have HU1 := Lib.hid (HU.out.below HB1.out (Nat.le_refl _))
  have HX1 := Lib.hid (HX.out.below HB1.out (Nat.le_refl _))
  have HS := Lib.hid (fun (w' : World) (hb : Below w1.heap.size w1 w') => (⟨(HD1.out.below hb (Nat.le_refl _)).cell 0 _ rfl, (HD1.out.below hb (Nat.le_refl _)).cell 1 _ rfl⟩ : w'.cell? ⟨w.heap.size, 0, none⟩ = some (.int .i64 (n : Nat)) ∧ w'.cell? ⟨w.heap.size, 1, none⟩ = some (.slice ad ns.length c)))
  have HS1 := Lib.hid (HS.out w1.drew ((Below.refl _ w1).drew))
  have HV1 := Lib.hid (HVW.out.below HB1.out (Nat.le_refl _))
  have HBd := Lib.hid (show Below w1.heap.size w1 w1.drew from (Below.refl _ w1).drew)
  go_region_held3 (fun w' => w'.cell? ⟨w.heap.size, 0, none⟩ = some (.int .i64 (n : Nat)) ∧ w'.cell? ⟨w.heap.size, 1, none⟩ = some (.slice ad ns.length c))
    ((first
      | with_reducible exact HS1.out
      | with_reducible assumption))
    ((first
      | (go_at_call 42; (with_reducible refine (leaving_ok w1.drew n _ ns HR.out (HV1.out.below HBd.out (Nat.le_refl _)) hl).mono ?_); rintro e w2 ⟨v, rfl, vs, L, C, rfl, hRw, hL, hb2⟩; have HRW := Lib.hid hRw; have HB2 := Lib.hid (HBd.out.trans (hb2.mono HBd.out.size)); have HLL := Lib.hid (show w1.heap.size ≤ L from hL); have hs2 := HS.out w2 HB2.out; clear hRw hb2 hL)
      | (go_at_call 43; (with_reducible refine (arcs_ok w2 n _ ns (HV1.out.below HB2.out (Nat.le_refl _)) HM.out (by omega)).mono ?_); rintro e w3 ⟨v, rfl, hO, hb3⟩; obtain ⟨ea, ec, rfl⟩ := own_formK hO; have HE := Lib.hid hO; have HRW3 := Lib.hid (HRW.out.below hb3 (Nat.le_refl _)); have HB3 := Lib.hid (HB2.out.trans (hb3.mono HB2.out.size)); have HZ3 := Lib.hid (show w2.heap.size ≤ w3.heap.size from hb3.size); have hs3 := HS.out w3 HB3.out; clear hO hb3)))
  rename_i hHeld
  clear hs2 hs3 hHeld HS1 HBd
  go_upto_region 7 with fail
  have HSS := Lib.hid (fun (w' : World) (hb : Below w3.heap.size w3 w') => (⟨(HU1.out.below (HB3.out.trans (hb.mono HB3.out.size)) (Nat.le_refl _)).cell 0 _ rfl, (HU1.out.below (HB3.out.trans (hb.mono HB3.out.size)) (Nat.le_refl _)).cell 1 _ rfl⟩ : w'.cell? ⟨w.heap.size + 1, 0, none⟩ = some (.int .i64 (a : Nat)) ∧ w'.cell? ⟨w.heap.size + 1, 1, none⟩ = some (.slice (some ⟨b, o, none⟩) n cu)))
  have HBd3 := Lib.hid (show Below w3.heap.size w3 w3.drew from (Below.refl _ w3).drew)
  have HT0 := Lib.hid (HSS.out w3.drew HBd3.out)
  have HQ3 := Lib.hid (HQ.out.trans ((HB1.out.trans (HB3.out.mono HB1.out.size)).mono HQ.out.size))
  have HCL := Lib.hid (fun (w' : World) (hb : Below w3.heap.size w3 w') => Tryz.slices_Clone_int b o n cu us w' (by rw [HUL.out]; exact Nat.le_refl _) (by omega) (fun j hj => by
    have h1 := HP.out.at (HQ3.out.trans (hb.mono HQ3.out.size)) (Nat.le_refl _) j hj 0 _ rfl
    rw [Nat.mul_one, Nat.add_zero] at h1
    rw [h1]; simp [List.getD_eq_getElem?_getD, hj]))
  go_cut [12] (fun p12 wx => ∃ g q cap, p12 = .pointer (some ⟨g, 0, none⟩) ∧ Hid (Blk wx g [.int .i64 (a : Nat), .slice (some ⟨q, 0, none⟩) n cap] 38) ∧ Hid (wx.ownsRow w3.heap.size 3 1 (.slice (some ⟨q, 0, none⟩) n cap) n (us.map (Value.int .i64))) ∧ Hid (w3.heap.size ≤ g ∧ g ≠ q) ∧ Hid (Below w3.heap.size w3 wx))
  case first =>
    refine wp_regionJ (S := fun w' => w'.cell? ⟨w.heap.size + 1, 0, none⟩ = some (.int .i64 (a : Nat)) ∧ w'.cell? ⟨w.heap.size + 1, 1, none⟩ = some (.slice (some ⟨b, o, none⟩) n cu)) (A := fun i => decide (i < 7)) (by kernel_rfl) ?_
    refine wpAnyJ_take (i := 0) (oi := { dst := some 34, op := .fieldAddr _ (.tmp 4) 0, type := _, pos := _, after := _, guard := _ }) (v := ?_) rfl (by kernel_rfl) (by kernel_rfl) (by kernel_rfl) (early_sat (by kernel_rfl)) (fun _ _ _ h => h) (Or.inl ⟨by rfl, ?_⟩) HT0.out ?_
    rotate_left
    · intro wl hSw
      obtain ⟨s0, s1⟩ := hSw
      go_simp
      with_reducible rfl
    simp only [Act.put, List.setIfInBounds_toArray, List.set_cons_zero, List.set_cons_succ]
    refine wpAnyJ_take (i := 1) (oi := { dst := some 35, op := .load _ (.tmp 34), type := _, pos := _, after := _, guard := _ }) (v := ?_) rfl (by kernel_rfl) (by kernel_rfl) (by kernel_rfl) (early_sat (by kernel_rfl)) (fun _ _ _ h => h) (Or.inl ⟨by rfl, ?_⟩) HT0.out ?_
    rotate_left
    · intro wl hSw
      obtain ⟨s0, s1⟩ := hSw
      go_simp
      with_reducible rfl
    simp only [Act.put, List.setIfInBounds_toArray, List.set_cons_zero, List.set_cons_succ]
    refine wpAnyJ_take (i := 2) (oi := { dst := some 36, op := .fieldAddr _ (.tmp 4) 1, type := _, pos := _, after := _, guard := _ }) (v := ?_) rfl (by kernel_rfl) (by kernel_rfl) (by kernel_rfl) (early_sat (by kernel_rfl)) (fun _ _ _ h => h) (Or.inl ⟨by rfl, ?_⟩) HT0.out ?_
    rotate_left
    · intro wl hSw
      obtain ⟨s0, s1⟩ := hSw
      go_simp
      with_reducible rfl
    simp only [Act.put, List.setIfInBounds_toArray, List.set_cons_zero, List.set_cons_succ]
    refine wpAnyJ_take (i := 3) (oi := { dst := some 37, op := .load _ (.tmp 36), type := _, pos := _, after := _, guard := _ }) (v := ?_) rfl (by kernel_rfl) (by kernel_rfl) (by kernel_rfl) (early_sat (by kernel_rfl)) (fun _ _ _ h => h) (Or.inl ⟨by rfl, ?_⟩) HT0.out ?_
    rotate_left
    · intro wl hSw
      obtain ⟨s0, s1⟩ := hSw
      go_simp
      with_reducible rfl
    simp only [Act.put, List.setIfInBounds_toArray, List.set_cons_zero, List.set_cons_succ]
    refine wpAnyJ_pair (i := 4) (j := 6) (o := { dst := some 38, op := _, type := _, pos := _, after := _, guard := _ }) (o' := { dst := some 12, op := _, type := _, pos := _, after := _, guard := _ }) (by kernel_rfl) rfl rfl (fun K hK => ?_) (fun K hK => ?_)
    · go_simp
      refine (HCL.out (w3.drew) HBd3.out).mono ?_
      rintro e w5 ⟨v5, rfl, hown5, hv5, hb5⟩
      obtain ⟨q, cap, rfl, hq⟩ := own_some hown5 hv5
      have HO5 := Lib.hid hown5; have HB5 := Lib.hid hb5; have HQ5 := Lib.hid hq
      have hS5 := HSS.out w5 (HBd3.out.trans (hb5.mono HBd3.out.size))
      clear hown5 hv5 hq
      refine hK.out _ _ (fun _ => hS5) ?_
      try simp only [Act.put, List.setIfInBounds_toArray, List.set_cons_zero, List.set_cons_succ]
      clear hK K
      refine wpAnyJ_take (i := 5) (oi := { dst := some 39, op := _, type := _, pos := _, after := _, guard := _ }) (v := ?_) rfl (by kernel_rfl) (by kernel_rfl) (by kernel_rfl) (early_sat (by kernel_rfl)) (fun _ _ _ h => h) (Or.inl ⟨by rfl, ?_⟩) hS5 ?_
      rotate_left
      · intro wl hSw
        obtain ⟨s0, s1⟩ := hSw
        go_simp
        with_reducible rfl
      simp only [Act.put, List.setIfInBounds_toArray, List.set_cons_zero, List.set_cons_succ]
      refine wpAnyJ_only (i := 6) (o := { dst := some 12, op := _, type := _, pos := _, after := _, guard := _ }) (by kernel_rfl) rfl (fun K hK => ?_)
      go_simp
      have hS6 := HSS.out (w5.alloc (.cells #[.int .i64 0, .slice none 0 0] 38)) ((HBd3.out.trans (hb5.mono HBd3.out.size)).alloc (Nat.le_trans HBd3.out.size (HB5.out.size)) _)
      refine hK.out _ _ (fun _ => hS6) ?_
      try simp only [Act.put, List.setIfInBounds_toArray, List.set_cons_zero, List.set_cons_succ]
      clear hK K
      refine wpAnyJ_only (i := 7) (o := { dst := none, op := .store _ (.tmp 12) (.tmp 39), type := _, pos := _, after := _, guard := _ }) (by kernel_rfl) rfl (fun K hK => ?_)
      go_simp
      refine hK.out _ _ (fun h => absurd h (by decide)) ?_
      try simp only [Act.put, List.setIfInBounds_toArray, List.set_cons_zero, List.set_cons_succ]
      clear hK K
      refine wpAnyJ_done (by kernel_rfl) ?_ _
      have hto := HO5.out
      rw [List.take_of_length_le (Nat.le_of_eq HUL.out)] at hto
      have hql := (hto.lt q rfl).2
      have HBB := Lib.hid (HBd3.out.trans (HB5.out.mono HBd3.out.size))
      have HTO := Lib.hid hto
      have HQL := Lib.hid hql
      clear hto hql
      go_wp2
      go_meet
      case rel => exact ⟨w5.heap.size, q, cap, rfl, Lib.hid (Blk.new w5 [.int .i64 (a : Nat), .slice (some ⟨q, 0, none⟩) n cap] _), Lib.hid (HTO.out.alloc _), Lib.hid ⟨HBB.out.size, fun e => by have := HQL.out; omega⟩, Lib.hid (HBB.out.alloc HBB.out.size _)⟩
    · go_simp
      have hS4 := HSS.out (w3.drew.alloc (.cells #[.int .i64 0, .slice none 0 0] 38)) (HBd3.out.alloc HBd3.out.size _)
      refine hK.out _ _ (fun _ => hS4) ?_
      try simp only [Act.put, List.setIfInBounds_toArray, List.set_cons_zero, List.set_cons_succ]
      clear hK K
      refine wpAnyJ_only (i := 4) (o := { dst := some 38, op := _, type := _, pos := _, after := _, guard := _ }) (by kernel_rfl) rfl (fun K hK => ?_)
      go_simp
      have HBa := Lib.hid (HBd3.out.alloc HBd3.out.size (.cells #[.int .i64 0, .slice none 0 0] 38))
      refine (HCL.out (w3.drew.alloc (.cells #[.int .i64 0, .slice none 0 0] 38)) HBa.out).mono ?_
      rintro e w5 ⟨v5, rfl, hown5, hv5, hb5⟩
      obtain ⟨q, cap, rfl, hq⟩ := own_some hown5 hv5
      have HO5 := Lib.hid hown5; have HB5 := Lib.hid hb5; have HQ5 := Lib.hid hq
      have hS5 := HSS.out w5 (HBa.out.trans (hb5.mono HBa.out.size))
      clear hown5 hv5 hq
      have HN5 := Lib.hid ((show Blk (w3.drew.alloc (.cells #[.int .i64 0, .slice none 0 0] 38)) w3.heap.size [.int .i64 0, .slice none 0 0] 38 from Blk.new w3.drew _ _).below hb5 (Nat.le_refl _))
      have m0 := HN5.out.cell 0 _ rfl; have m1 := HN5.out.cell 1 _ rfl; have f0 := HN5.out.free 0; have f1 := HN5.out.free 1; have hml := HN5.out.lt
      refine hK.out _ _ (fun _ => hS5) ?_
      try simp only [Act.put, List.setIfInBounds_toArray, List.set_cons_zero, List.set_cons_succ]
      clear hK K
      refine wpAnyJ_take (i := 5) (oi := { dst := some 39, op := _, type := _, pos := _, after := _, guard := _ }) (v := ?_) rfl (by kernel_rfl) (by kernel_rfl) (by kernel_rfl) (early_sat (by kernel_rfl)) (fun _ _ _ h => h) (Or.inl ⟨by rfl, ?_⟩) hS5 ?_
      rotate_left
      · intro wl hSw
        obtain ⟨s0, s1⟩ := hSw
        go_simp
        with_reducible rfl
      simp only [Act.put, List.setIfInBounds_toArray, List.set_cons_zero, List.set_cons_succ]
      refine wpAnyJ_only (i := 7) (o := { dst := none, op := .store _ (.tmp 12) (.tmp 39), type := _, pos := _, after := _, guard := _ }) (by kernel_rfl) rfl (fun K hK => ?_)
      go_simp
      refine hK.out _ _ (fun h => absurd h (by decide)) ?_
      try simp only [Act.put, List.setIfInBounds_toArray, List.set_cons_zero, List.set_cons_succ]
      clear hK K
      refine wpAnyJ_done (by kernel_rfl) ?_ _
      have hto := HO5.out
      rw [List.take_of_length_le (Nat.le_of_eq HUL.out)] at hto
      have HBB := Lib.hid (HBa.out.trans (HB5.out.mono HBa.out.size))
      have hq3 : w3.heap.size < q := by have := HQ5.out; rw [World.size_alloc] at this; exact this
      have HTO := Lib.hid (own_baseK hto (show w3.heap.size ≤ (w3.drew.alloc (.cells #[.int .i64 0, .slice none 0 0] 38)).heap.size by rw [World.size_alloc]; exact Nat.le_succ _))
      have HQ3 := Lib.hid hq3
      have HTO2 := Lib.hid (own_otherK (g := w3.heap.size) (j := 1) (u := .slice (some ⟨q, 0, none⟩) n cap) (own_otherK (g := w3.heap.size) (j := 0) (u := .int .i64 (a : Nat)) HTO.out (fun e => by simp [Value.ownBlock] at e; omega)) (fun e => by simp [Value.ownBlock] at e; omega))
      clear hto hq3 m0 m1 f0 f1 hml
      go_wp2
      go_meet
      case rel => exact ⟨w3.heap.size, q, cap, rfl, Lib.hid ((HN5.out.set 0 (.int .i64 (a : Nat))).set 1 (.slice (some ⟨q, 0, none⟩) n cap)), HTO2, Lib.hid ⟨Nat.le_refl _, fun e => by have := HQ3.out; omega⟩, Lib.hid ((HBB.out.setCell (p := ⟨w3.heap.size, 0, none⟩) (Nat.le_refl _) _).setCell (p := ⟨w3.heap.size, 1, none⟩) (Nat.le_refl _) _)⟩
  case rest =>
    obtain ⟨g, q, cap, rfl, hBX, hOQ, hgq, hBW⟩ := hcut
    have HZC := Lib.hid (show w3.heap.size ≤ wc.heap.size from hBW.out.size)
    have HGL := Lib.hid hBX.out.lt
    have HQL := Lib.hid (hOQ.out.lt q rfl)
    have HES := SlK.ofOwns p2_len HE.out rfl
    obtain ⟨ea', eb, eo, ec', hform, hie, hep, hec, hecm⟩ := HES.open elemEnds
    simp only [Value.slice.injEq, true_and] at hform
    obtain ⟨rfl, rfl⟩ := hform
    have HEP := Lib.hid hep
    have HQT := Lib.hid (HQ.out.trans ((HB1.out.trans (HB3.out.mono HB1.out.size)).mono HQ.out.size))
    have hOR : wc.ownsRow w3.heap.size 3 1 (.slice (some ⟨q, 0, none⟩) n cap) n (ints (rotK (sgl ns) us n (Rot.run (sgl ns) (rot us) a 0).2)) := by
      have h1 : us.map (Value.int .i64) = ints (rotK (sgl ns) us n []) := by
        conv => lhs; rw [rotK_zero HG.out]
        simp [ints]
      have := hOQ.out
      rw [h1] at this; exact this
    have HR0 := Lib.hid hOR
    have HW0 : Hid (wc.ownsRow wc.heap.size 3 1 (.slice none 0 0) (Rot.run (sgl ns) (rot us) a 0).2.length (ints (Rot.run (sgl ns) (rot us) a 0).2)) := Lib.hid (World.ownsRow_nil _ _ _ _)
    have HX3 := Lib.hid (HX1.out.below HB3.out (Nat.le_refl _))
    have hgb := HU1.out.lt
    go_wp2
    clear hOR hOQ hep HES
    go_loopw [13, 41] (fun out i wr => ∃ (j v : Nat) (l : List Nat), j ≤ k ∧ i = .int .i64 j ∧ v < n ∧ Hid (Rot.run (sgl ns) (rot us) a j = (v, l)) ∧ Hid (Blk wr g [.int .i64 (v : Nat), .slice (some ⟨q, 0, none⟩) n cap] 38) ∧ Hid (wr.ownsRow w3.heap.size 3 1 (.slice (some ⟨q, 0, none⟩) n cap) n (ints (rotK (sgl ns) us n l))) ∧ Hid (wr.ownsRow wc.heap.size 3 1 out l.length (ints l)) ∧ Hid (l.length = j) ∧ Hid (Below w3.heap.size w3 wr) ∧ Hid (wc.heap.size ≤ wr.heap.size)) (fun _ i _ => k - (intOf i).toNat)
    case atStart => exact ⟨0, a, [], Nat.zero_le _, rfl, HG.out.at_lt, Lib.hid rfl, hBX, HR0, HW0, Lib.hid rfl, hBW, Lib.hid (Nat.le_refl _)⟩
    case round =>
      clear hBX HR0 HW0 hBW
      obtain ⟨j, v, l, hj, rfl, hv, hrun, hBX, hOQ, hOW, hlj, hBW, hZ⟩ := hrel
      by_cases hjk : j < k
      · obtain ⟨x, e, z1, z2, hv1, hx, h2, he, hxl, h3, hz, hz2n, hrun2, hrot⟩ := run_step n12 HG.out HRG.out hrun.out hv
        have hb3r : Below w3.heap.size w3 wr := hBW.out
        have hlo : v < (outs n (sgl ns)).length := by rw [outs, outsAt_len]; exact hv
        have hor := outs_rot n (sgl ns) v hlo
        obtain ⟨rv2, r03, hrow⟩ := HRW3.out.row v hlo
        have r0 := (World.cell?_of_block (w := w3) (w' := wr) (a := ⟨L, v, none⟩) (hb3r.block L HRW3.out.blk.lt)).trans r03
        have hlL := (HRW3.out.below hb3r (Nat.le_refl _)).blk.lt
        rw [hor] at hrow
        obtain ⟨ra, rb, ro, rc, rfl, hri, hrp, hrc, hrm⟩ := hrow.open elemI
        obtain ⟨T, hT⟩ : ∃ T, Rot.outs (sgl ns) v = T := ⟨_, rfl⟩
        simp only [hT] at h2 he hxl hri hrp hrc hrot r0
        obtain ⟨y, hy⟩ : ∃ y, (x + 1) % T.length = y := ⟨_, rfl⟩
        simp only [hy] at h2 he hrot
        have y0 : wr.cell? ⟨rb, ro + y, none⟩ = some (.int .i64 (e : Nat)) := by
          have := hrp.at hb3r (Nat.le_refl _) y h2 0 (.int .i64 (e : Nat)) (by rw [he]; rfl)
          rwa [Nat.mul_one, Nat.add_zero] at this
        have hrl3 := hrp.1 (by omega)
        have hel3 := HEP.out.1 (by omega)
        have hq3 := own_ge hOQ.out q rfl
        have hg3 := hgq.out.1
        have hrl := Nat.lt_of_lt_of_le hrl3 hb3r.size
        have n1' : rb ≠ q := by omega
        have n2' : rb ≠ g := by omega
        have n3' : eb ≠ q := by omega
        have n4' : eb ≠ g := by omega
        have e1 : wr.cell? ⟨eb, eo + e * 2 + 1, none⟩ = some (.int .i64 (z2 : Nat)) := HEP.out.at hb3r (Nat.le_refl _) e h3 1 _ (by rw [hz]; rfl)
        have hel := (HEP.out.below hb3r (Nat.le_refl _)).1 (by omega)
        have b0 := hBX.out.cell 0 _ rfl
        have b1 := hBX.out.cell 1 _ rfl
        have bf := hBX.out.free 0
        have hgl := hBX.out.lt
        have hql := (hOQ.out.lt q rfl).2
        have c0 : wr.cell? ⟨q, v, none⟩ = some (.int .i64 (x : Nat)) := by
          have := hOQ.out.cells (g := q) rfl v (.int .i64 (x : Nat)) (by rw [ints_at _ _ hv1, hx])
          rwa [addr0] at this
        have cf : wr.frozen? ⟨q, v, none⟩ = false := hOQ.out.frozenAt v
        have v0 : (0 : Int) ≤ (v : Int) := by omega
        have v1 : (v : Int) < (n : Int) := by omega
        have y1 : (0 : Int) ≤ (y : Int) := by omega
        have y2 : (y : Int) < (T.length : Int) := by omega
        have i1' : (e : Int) < ((sgl ns).length : Int) := by omega
        have hTne : ¬ (T.length : Int) = 0 := by omega
        have hmod : Int.tmod ((x : Int) + 1) (T.length : Int) = (y : Int) := by
          rw [← hy]; rw [show (x : Int) + 1 = ((x + 1 : Nat) : Int) by simp]; rfl
        have hTl : T.length ≤ (sgl ns).length := by
          rw [← hT]; unfold Rot.outs; exact Nat.le_trans (List.length_filter_le _ _) (by simp)
        have hgq1 := hgq.out.2
        have hgq2 : q ≠ g := fun e => hgq1 e.symm
        have HRUN2 := Lib.hid hrun2; have HROT := Lib.hid hrot
        obtain ⟨oa, oc, rfl⟩ := own_formK hOW.out
        have HLJ := Lib.hid hlj.out
        have hX : ∃ X, (wr.setCell ⟨q, v, none⟩ (.int .i64 (y : Nat))).drew.drew = X := ⟨_, rfl⟩
        obtain ⟨X, hX⟩ := hX
        have hXS : X.heap.size = wr.heap.size := by rw [← hX]; show (wr.setCell ⟨q, v, none⟩ (.int .i64 (y : Nat))).heap.size = _; simp
        have HXS := Lib.hid hXS
        have XB := Lib.hid (show Blk X g [.int .i64 (v : Nat), .slice (some ⟨q, 0, none⟩) n cap] 38 by rw [← hX]; exact hBX.out.setCell hgq1 _)
        have XQ := Lib.hid (show X.ownsRow w3.heap.size 3 1 (.slice (some ⟨q, 0, none⟩) n cap) n (ints (rotK (sgl ns) us n (l ++ [e]))) by rw [← hX, HROT.out, ← ints_set]; exact (hOQ.out.stored v _).1)
        have XW := Lib.hid (show X.ownsRow wc.heap.size 3 1 (.slice oa l.length oc) l.length (ints l) by rw [← hX]; exact own_otherK hOW.out (fun e => by have := own_ge hOW.out _ e; have := HQL.out.2; omega))
        have X3 := Lib.hid (show Below w3.heap.size w3 X by rw [← hX]; exact (hBW.out.setCell (p := ⟨q, v, none⟩) hq3 _).drew.drew)
        have XC := Lib.hid (show wc.heap.size ≤ X.heap.size by rw [hXS]; exact hZ.out)
        have HKP := Lib.hid (fun (w5 : World) (r : Option Nat) (hr : ∀ t, r = some t → wc.heap.size ≤ t) (hg : (X.alloc (.cells (i1 e).toArray 3)).grownBy w5 r) (t : Nat) (ht : t < wc.heap.size) =>
          ((hg.block t (by rw [World.size_alloc]; have := XC.out; omega) (fun e => by have := hr _ e.symm; omega)).trans (Below.heap_alloc X _ t (by have := XC.out; omega)) : w5.heap[t]? = X.heap[t]?))
        have HOWN := Lib.hid (fun t (e : (Value.slice oa l.length oc).ownBlock = some t) => own_ge hOW.out t e)
        have HQA : Hid (∃ (h : v < (rotK (sgl ns) us n (l ++ [e])).length), (rotK (sgl ns) us n (l ++ [e]))[v] = y) := Lib.hid ⟨by rw [rotK_len]; exact hv, by simp only [HROT.out]; rw [List.getElem_set_self]⟩
        have hlb : (l.length + 1) * 8 ≤ 140737488355328 := by have := hlj.out; omega
        have hlb2 : l.length + 1 ≤ maxLen := by have := hlj.out; unfold maxLen; omega
        have HXX := Lib.hid hX
        have HHP := Lib.hid hrp; have HHE := Lib.hid (show (T)[y]'h2 = e from he); have HZZ := Lib.hid (show (sgl ns)[e]'h3 = (z1, z2) from hz)
        clear hx he hz hrun2 hrot hy hT hor hrow hb3r hXS hX
        go_wp2_with fail
        go_region
        go_wp2_with fail
        go_region
        rw [HXX.out]
        obtain ⟨hqa1, hqa2⟩ := HQA.out
        have HFX := Lib.hid (fun (w5 : World) (h1 : ∀ t, t < wc.heap.size → w5.heap[t]? = X.heap[t]?) => (⟨(World.cell?_of_block (a := ⟨g, 0, none⟩) (h1 g HGL.out)).trans (XB.out.cell 0 _ rfl), (World.cell?_of_block (a := ⟨g, 1, none⟩) (h1 g HGL.out)).trans (XB.out.cell 1 _ rfl), (World.frozen?_of_block (a := ⟨g, 0, none⟩) (h1 g HGL.out)).trans (XB.out.free 0),
            (by
              have := XQ.out.cells (g := q) rfl v (.int .i64 (y : Nat)) (by rw [ints_at _ _ hqa1, hqa2])
              rw [addr0] at this
              exact (World.cell?_of_block (a := ⟨q, v, none⟩) (h1 q HQL.out.2)).trans this),
            (by
              have h2 := HHP.out.at X3.out (Nat.le_refl _) y h2 0 (.int .i64 (e : Nat)) (by rw [HHE.out]; rfl)
              rw [Nat.mul_one, Nat.add_zero] at h2
              exact (World.cell?_of_block (a := ⟨rb, ro + y, none⟩) (h1 rb (Nat.lt_of_lt_of_le hrl3 HZC.out))).trans h2),
            (by
              have h2 := HEP.out.at X3.out (Nat.le_refl _) e h3 1 (.int .i64 (z2 : Nat)) (by rw [HZZ.out]; rfl)
              exact (World.cell?_of_block (a := ⟨eb, eo + e * 2 + 1, none⟩) (h1 eb (Nat.lt_of_lt_of_le hel3 HZC.out))).trans h2)⟩ :
          w5.cell? ⟨g, 0, none⟩ = some (.int .i64 (v : Nat)) ∧ w5.cell? ⟨g, 1, none⟩ = some (.slice (some ⟨q, 0, none⟩) n cap) ∧ w5.frozen? ⟨g, 0, none⟩ = false ∧ w5.cell? ⟨q, v, none⟩ = some (.int .i64 (y : Nat)) ∧ w5.cell? ⟨rb, ro + y, none⟩ = some (.int .i64 (e : Nat)) ∧ w5.cell? ⟨eb, eo + e * 2 + 1, none⟩ = some (.int .i64 (z2 : Nat))))
        clear b0 b1 bf c0 cf y0 e1 r0 hgl hql hrl hel hlL r03 hqa1 hqa2
        obtain ⟨d0, d1, d2, d3, d4, d5⟩ := HFX.out X (fun _ _ => rfl)
        have HGX := Lib.hid (Nat.lt_of_lt_of_le HGL.out XC.out)
        have hgx := HGX.out
        have hqx := Nat.lt_of_lt_of_le HQL.out.2 XC.out
        have hrx := Nat.lt_of_lt_of_le hrl3 (Nat.le_trans HZC.out XC.out)
        have hex := Nat.lt_of_lt_of_le hel3 (Nat.le_trans HZC.out XC.out)
        go_wp2_with (at_builtin; go_loud (refine appMG (w0 := X) (m := 1) (news := i1 e) (B := w3.heap.size) (W := w3) (base := wc.heap.size) elemI rfl (.tmp 63) (.tmp 72) rfl (by rfl) (by rfl) XW.out X3.out HZC.out XC.out rfl (by intro u hu; simp [i1] at hu; subst hu; rfl) hlb hlb2 ?_); intro v' w5 hown' hb' hg' hat'; obtain ⟨va, vc, rfl⟩ := own_formK hown'; have HO5 := Lib.hid hown'; have HB5 := Lib.hid hb'; have HG5 := Lib.hid hg'; clear hown' hb' hg' hat' d0 d1 d2 d3 d4 d5 hgx hqx hrx hex; obtain ⟨d0, d1, d2, d3, d4, d5⟩ := HFX.out w5 (HKP.out w5 _ HOWN.out HG5.out); have hsz5 := HG5.out.size; rw [World.size_alloc] at hsz5; have hgx := Nat.lt_of_lt_of_le HGX.out (Nat.le_trans (Nat.le_succ _) hsz5))
        have kp := HKP.out w5 _ HOWN.out HG5.out
        have t1 : Blk (w5.setCell ⟨g, 0, none⟩ (.int .i64 (z2 : Nat))) g [.int .i64 (z2 : Nat), .slice (some ⟨q, 0, none⟩) n cap] 38 := (show Blk w5 g _ _ from (kp g HGL.out).trans XB.out).set 0 _
        have t2 : (w5.setCell ⟨g, 0, none⟩ (.int .i64 (z2 : Nat))).ownsRow w3.heap.size 3 1 (.slice (some ⟨q, 0, none⟩) n cap) n (ints (rotK (sgl ns) us n (l ++ [e]))) :=
          own_otherK (own_keepG (XQ.out.alloc (.cells (i1 e).toArray 3)) HG5.out (fun t e1 e2 => by have h1 := HOWN.out t e2; have h2 := HQL.out.2; simp [Value.ownBlock] at e1; omega)) (fun e => by simp [Value.ownBlock] at e; exact hgq2 e)
        have t3 : (w5.setCell ⟨g, 0, none⟩ (.int .i64 (z2 : Nat))).ownsRow wc.heap.size 3 1 (.slice va (l.length + 1) vc) (l ++ [e]).length (ints (l ++ [e])) := by
          rw [show (l ++ [e]).length = l.length + 1 by simp, show ints (l ++ [e]) = ints l ++ i1 e by simp [ints, i1]]
          exact own_otherK HO5.out (fun e => by have h1 := own_ge HO5.out _ e; have := HGL.out; omega)
        have t4 := HB5.out.setCell (p := ⟨g, 0, none⟩) hg3 (.int .i64 (z2 : Nat))
        have t5 : wc.heap.size ≤ (w5.setCell ⟨g, 0, none⟩ (.int .i64 (z2 : Nat))).heap.size := by
          have := XC.out
          simp; omega
        go_roundw
        case rel => exact ⟨j + 1, z2, l ++ [e], by omega, by go_num, hz2n, HRUN2, Lib.hid t1, Lib.hid t2, Lib.hid t3, Lib.hid (by simp [HLJ.out]), Lib.hid t4, Lib.hid t5⟩
        case measure => simp [intOf]; omega
      · obtain rfl : k = j := by omega
        have hb3r : Below w3.heap.size w3 wr := hBW.out
        have HXr := HX3.out.below hb3r (Nat.le_refl _)
        have b0 := hBX.out.cell 0 _ rfl
        have b1 := hBX.out.cell 1 _ rfl
        have x0 := HXr.cell 0 _ rfl
        have x1 := HXr.cell 1 _ rfl
        have xf0 := HXr.free 0
        have xf1 := HXr.free 1
        have hgl := hBX.out.lt
        have hxl := HXr.lt
        obtain ⟨oa, oc, rfl⟩ := own_formK hOW.out
        have HXR := Lib.hid HXr
        have HRU := Lib.hid hrun.out; have HOQ := Lib.hid hOQ.out; have HOW := Lib.hid hOW.out; have HLJ := Lib.hid hlj.out
        have HB9 := Lib.hid (HQT.out.trans (hb3r.mono HQT.out.size))
        have hsz := hBW.out.size
        have HX3l := Lib.hid HX3.out.lt
        clear hBX HXr hOQ hOW hlj hrun hBW hb3r
        go_wp2
        have HR4 := (HXR.out.set 0 (.int .i64 (v : Nat))).set 1 (.slice (some ⟨q, 0, none⟩) n cap)
        have t1 := own_baseK (own_otherK (g := w.heap.size + 1 + 1) (j := 1) (u := .slice (some ⟨q, 0, none⟩) n cap) (own_otherK (g := w.heap.size + 1 + 1) (j := 0) (u := .int .i64 (v : Nat)) HOQ.out (fun e => by have h1 := own_ge HOQ.out _ e; have := HX3l.out; omega)) (fun e => by have h1 := own_ge HOQ.out _ e; have := HX3l.out; omega)) (show w.heap.size ≤ w3.heap.size from HQT.out.size)
        have t2 := own_baseK (own_otherK (g := w.heap.size + 1 + 1) (j := 1) (u := .slice (some ⟨q, 0, none⟩) n cap) (own_otherK (g := w.heap.size + 1 + 1) (j := 0) (u := .int .i64 (v : Nat)) HOW.out (fun e => by have h1 := own_ge HOW.out _ e; have := HX3l.out; have := HZC.out; omega)) (fun e => by have h1 := own_ge HOW.out _ e; have := HX3l.out; have := HZC.out; omega)) (show w.heap.size ≤ wc.heap.size from Nat.le_trans HQT.out.size HZC.out)
        have t3 := (HB9.out.setCell (p := ⟨w.heap.size + 1 + 1, 0, none⟩) (by simp; omega) (.int .i64 (v : Nat))).setCell (p := ⟨w.heap.size + 1 + 1, 1, none⟩) (by simp; omega) (.slice (some ⟨q, 0, none⟩) n cap)
        obtain ⟨w9, hw9⟩ : ∃ w9, (wr.setCell ⟨w.heap.size + 1 + 1, 0, none⟩ (.int .i64 (v : Nat))).setCell ⟨w.heap.size + 1 + 1, 1, none⟩ (.slice (some ⟨q, 0, none⟩) n cap) = w9 := ⟨_, rfl⟩
        rw [hw9] at HR4 t1 t2 t3 ⊢
        have z0 := HR4.cell 0 _ rfl
        have z1 := HR4.cell 1 _ rfl
        have HRR := HRU.out
        exact bodyPost_ret (v := .tuple #[.agg #[.int .i64 (v : Nat), .slice (some ⟨q, 0, none⟩) n cap], .slice oa l.length oc, .int .i64 0]) (by simp [results, Tryz.results13, go_sem, z0, z1]) rfl ⟨_, rfl, q, cap, _, by rw [HRR], by rw [HRR]; exact t1, by rw [HRR]; exact t2, t3⟩
end Go.Proofs.YtlnhocgjgmhfgaaGreatDoor
