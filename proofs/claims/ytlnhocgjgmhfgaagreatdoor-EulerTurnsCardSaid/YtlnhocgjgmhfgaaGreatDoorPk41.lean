/- The walk of the reference's Walk at unicycles. The walks of Check and Walk, of euler and of the reference, for every digraph, unicycle and number. -/
import Derived.Test.YtlnhocgjgmhfgaaGreatDoorPk40
import Derived.Test.YtlnhocgjgmhfgaaGreatDoorPk15
import Derived.Test.YtlnhocgjgmhfgaaGreatDoorPk36
import Derived.BigRegion
import Derived.BigQuiet
import Derived.Test.YtlnhocgjgmhfgaaGreatDoorPk35
import Derived.Test.YtlnhocgjgmhfgaaGreatDoorPk7
import Derived.Test.YtlnhocgjgmhfgaaGreatDoorPk16
namespace Go.Proofs.YtlnhocgjgmhfgaaGreatDoor
open Go.RowKit
set_option maxRecDepth 100000

section
variable {P : Program} {t e : TypeId} {z : Value} {size bytes : Nat} {ops : Array Oper} {o : Oper} {a : Act} {Q : Exit → Act → World → Prop} {K : Act → World → Prop} {E : Prop}
/-- An append of another row. -/
theorem appF_step (hE : ElemOk P t e z size bytes) (hgd : o.guard = none) (s x : Operand) (ho : o.op = .call { callee := .builtin .append, args := #[s, x], argTypes := #[t, t] })
    {v : Value} {n m c base : Nat} {xs news : List Value} {w0 : World} {ad : Addr} (hs : a.eval s = v) (hx : a.eval x = .slice (some ad) m c)
    (hown : w0.ownsRow base e size v n xs) (hbase : base ≤ w0.heap.size) (hl : news.length = m * size) (hnews : ∀ j u, news[j]? = some u → w0.cell? (ad.add j) = some u) (h1 : ∀ u ∈ news, u.oneCell' = true)
    (hn : (n + m) * bytes ≤ 140737488355328) (hn' : n + m ≤ maxLen)
    (h : ∀ v' w', w'.ownsRow base e size v' (n + m) (xs ++ news) → w0.grownBy w' v.ownBlock → (v' = .slice none 0 0 ↔ v = .slice none 0 0 ∧ m = 0) → K (a.put o.dst v') w') :
    if Region.wanted o (yielded ops a.tmps) = true then Oper.wp P o a w0 K Q else E := by
  rw [if_pos (by simp [Region.wanted, hgd])]
  obtain ⟨i, hi, hz, hsz, hby⟩ := hE.info
  obtain ⟨v', w', hr, h2, h3, h4, h5⟩ := run_append_own_at (P := P) w0 base t o.type e i z size bytes hE.und hi hz hsz hby hE.cells hE.pos v n xs hown ad m c news hl hnews h1 hn' hn hbase
  unfold Oper.wp execOp
  simp only [ho, resolve, invoke, builtin, Sem.run_bind, Sem.run_pure, Result.andThen_ok, List.map_toArray, List.map_cons, List.map_nil, hs, hx, hr]
  exact h v' w' h2 h3 h4
theorem own_empty (w : World) (base : Nat) (e : TypeId) (hb : base ≤ w.heap.size) : (w.alloc (.cells #[] e)).ownsRow base e 1 (.slice (some ⟨w.heap.size, 0, none⟩) 0 0) 0 [] :=
  ⟨rfl, .inr ⟨w.heap.size, 0, #[], rfl, hb, heap_alloc_new w _, by omega, by simp [maxLen], rfl, rfl⟩⟩
end

set_option maxHeartbeats 8000000 in
theorem rWalk_ok (w : World) (n : Nat) (v : Value) (ns : List (Nat × Nat × Nat)) (a : Nat) (rv : Value) (us : List Int) (k : Nat) (hR : RD n ns) (hv : SlK e3 3 w v (ns.map n3)) (hl : ns.length ≤ 1000) (hu : SlK iz 1 w rv us) (hE : EulC n ns) (hG : GoodU n (sgl ns) a us) (hk : k ≤ 4096) :
    Calls Tryz.prog 14 #[.agg #[.int .i64 (n : Nat), v], .agg #[.int .i64 (a : Nat), rv], .int .i64 (k : Nat)] w (Rets fun r w' => ∃ q cap way, r = .tuple #[.agg #[.int .i64 (Rot.run (sgl ns) (rot us) a k).1, .slice (some ⟨q, 0, none⟩) n cap], way, .int .i64 0] ∧
      w'.ownsRow w.heap.size 3 1 (.slice (some ⟨q, 0, none⟩) n cap) n (ints (rotK (sgl ns) us n (Rot.run (sgl ns) (rot us) a k).2)) ∧ w'.ownsRow w.heap.size 3 1 way (Rot.run (sgl ns) (rot us) a k).2.length (ints (Rot.run (sgl ns) (rot us) a k).2) ∧ Below w.heap.size w w') := by
  obtain ⟨ad, c, rfl⟩ := hv.form
  have HUV := Lib.hid hu
  obtain ⟨ru, b, o, cu, rfl, hra, hc, hcm, -, hp⟩ := hu
  obtain rfl := hra (by have := hG.len; have := hR.pos; omega)
  unfold maxLen at hcm
  rw [hG.len] at hc HUV ⊢
  have hnl : (ns.map n3).length = ns.length := List.length_map _
  rw [hnl] at hv ⊢
  have n12 := hR.le
  have n1 := hR.pos
  have hul := hG.len
  have HR := Lib.hid hR; have HV := Lib.hid hv; have HP := Lib.hid hp; have HNL := Lib.hid hnl; have HE0 := Lib.hid hE; have HG := Lib.hid hG; have HUL := Lib.hid hul
  have HM := Lib.hid (show ∀ x ∈ ns, x.2.2 ≤ 50 from fun x hx => (hR.rng x hx).2.2.2)
  have hSL := sgl_le ns HM.out ns.length
  rw [List.take_length] at hSL
  have HRG := Lib.hid (sgl_rng hR)
  obtain ⟨W1, hW1⟩ : ∃ W, w.alloc (.cells #[.int .i64 (n : Nat), .slice ad ns.length c] 28) = W := ⟨_, rfl⟩
  obtain ⟨W2, hW2⟩ : ∃ W, W1.alloc (.cells #[.int .i64 (a : Nat), .slice (some ⟨b, o, none⟩) n cu] 42) = W := ⟨_, rfl⟩
  obtain ⟨W, hW⟩ : ∃ W, W2.alloc (.cells #[.int .i64 0, .slice none 0 0] 42) = W := ⟨_, rfl⟩
  have z1 : W1.heap.size = w.heap.size + 1 := by rw [← hW1, World.size_alloc]
  have z2 : W2.heap.size = w.heap.size + 1 + 1 := by rw [← hW2, World.size_alloc, z1]
  have z3 : W.heap.size = w.heap.size + 1 + 1 + 1 := by rw [← hW, World.size_alloc, z2]
  have k1 : Blk W1 w.heap.size [.int .i64 (n : Nat), .slice ad ns.length c] 28 := by rw [← hW1]; exact Blk.new w _ _
  have k2 : Blk W2 (w.heap.size + 1) [.int .i64 (a : Nat), .slice (some ⟨b, o, none⟩) n cu] 42 := by rw [← hW2, ← z1]; exact Blk.new W1 _ _
  have HD := Lib.hid (show Blk W w.heap.size [.int .i64 (n : Nat), .slice ad ns.length c] 28 by rw [← hW, ← hW2]; exact (k1.alloc _).alloc _)
  have HU := Lib.hid (show Blk W (w.heap.size + 1) [.int .i64 (a : Nat), .slice (some ⟨b, o, none⟩) n cu] 42 by rw [← hW]; exact k2.alloc _)
  have HX := Lib.hid (show Blk W (w.heap.size + 1 + 1) [.int .i64 0, .slice none 0 0] 42 by rw [← hW, ← z2]; exact Blk.new W2 _ _)
  have HQ := Lib.hid (show Below w.heap.size w W by
    have q1 : Below w.heap.size w W1 := by rw [← hW1]; exact (Below.refl _ w).alloc (Nat.le_refl _) _
    have q2 : Below w.heap.size w W2 := by rw [← hW2]; exact q1.alloc q1.size _
    rw [← hW]; exact q2.alloc q2.size _)
  have HVW := Lib.hid (HV.out.below HQ.out (Nat.le_refl _))
  have HUW := Lib.hid (HUV.out.below HQ.out (Nat.le_refl _))
  have HW : Hid (((w.alloc (.cells #[.int .i64 (n : Nat), .slice ad ns.length c] 28)).alloc (.cells #[.int .i64 (a : Nat), .slice (some ⟨b, o, none⟩) n cu] 42)).alloc (.cells #[.int .i64 0, .slice none 0 0] 42) = W) := Lib.hid (by rw [hW1, hW2, hW])
  have HZ2 := Lib.hid z3
  have hk0 : ¬ (k : Int) < 0 := by omega
  have hk1 : ¬ (4096 : Int) < (k : Int) := by omega
  have HCK := Lib.hid (rChk_any W n (.slice ad ns.length c) ns (a : Int) (.slice (some ⟨b, o, none⟩) n cu) us HR.out HVW.out hl HUW.out)
  clear k1 k2 hW1 hW2 hW z1 z2 z3 hp hv hra hR hnl hE hG hul
  go_enter Tryz.func14, Tryz.ntmps14
  go_wp2_with (go_at_call 16; rw [HW.out]; (with_reducible refine HCK.out.mono ?_); rintro e w1 ⟨v, rfl, ee, rfl, hb, hiff⟩; obtain rfl : ee = 0 := hiff.iff.2 ⟨HE0.out, by omega, by simpa using HG.out⟩; have HB1 := Lib.hid hb; clear hb hiff)
  have HD1 := Lib.hid (HD.out.below HB1.out (Nat.le_refl _))
  have HU1 := Lib.hid (HU.out.below HB1.out (Nat.le_refl _))
  have HX1 := Lib.hid (HX.out.below HB1.out (Nat.le_refl _))
  have HS := Lib.hid (fun (w' : World) (hb : Below w1.heap.size w1 w') => (⟨(HD1.out.below hb (Nat.le_refl _)).cell 0 _ rfl, (HD1.out.below hb (Nat.le_refl _)).cell 1 _ rfl⟩ : w'.cell? ⟨w.heap.size, 0, none⟩ = some (.int .i64 (n : Nat)) ∧ w'.cell? ⟨w.heap.size, 1, none⟩ = some (.slice ad ns.length c)))
  have HS1 := Lib.hid (HS.out w1.drew ((Below.refl _ w1).drew))
  have HV1 := Lib.hid (HVW.out.below HB1.out (Nat.le_refl _))
  have HBd := Lib.hid (show Below w1.heap.size w1 w1.drew from (Below.refl _ w1).drew)
  go_region_held3 (fun w' => w'.cell? ⟨w.heap.size, 0, none⟩ = some (.int .i64 (n : Nat)) ∧ w'.cell? ⟨w.heap.size, 1, none⟩ = some (.slice ad ns.length c))
    ((first
      | with_reducible exact HS1.out
      | with_reducible assumption))
    ((first
      | (go_at_call 45; (with_reducible refine (rOut_any w2 n _ ns HR.out (HV1.out.below HB2.out (Nat.le_refl _)) hl).mono ?_); rintro e w3 ⟨v, rfl, vs, L, C, rfl, hRw, hL, hb3⟩; have HRW3 := Lib.hid hRw; have HES3 := Lib.hid (HE.out.below hb3 (Nat.le_refl _)); have HB3 := Lib.hid (HB2.out.trans (hb3.mono HB2.out.size)); have hs3 := HS.out w3 HB3.out; clear hRw hb3 hL)
      | (go_at_call 28; (with_reducible refine (rSingles_any w1.drew n _ ns (HV1.out.below HBd.out (Nat.le_refl _)) HM.out (by omega)).mono ?_); rintro e w2 ⟨v, rfl, hO, hb2⟩; obtain ⟨ea, ec, rfl⟩ := own_formK hO; have HE := Lib.hid (SlK.ofOwns p2_len hO rfl); have HB2 := Lib.hid (HBd.out.trans (hb2.mono HBd.out.size)); have hs2 := HS.out w2 HB2.out; clear hO hb2)))
  rename_i hHeld
  clear hs2 hs3 hHeld HS1 HBd
  go_upto_region 7 with fail
  have HSS := Lib.hid (fun (w' : World) (hb : Below w3.heap.size w3 w') => (⟨(HU1.out.below (HB3.out.trans (hb.mono HB3.out.size)) (Nat.le_refl _)).cell 0 _ rfl, (HU1.out.below (HB3.out.trans (hb.mono HB3.out.size)) (Nat.le_refl _)).cell 1 _ rfl⟩ : w'.cell? ⟨w.heap.size + 1, 0, none⟩ = some (.int .i64 (a : Nat)) ∧ w'.cell? ⟨w.heap.size + 1, 1, none⟩ = some (.slice (some ⟨b, o, none⟩) n cu)))
  have HBd3 := Lib.hid (show Below w3.heap.size w3 w3.drew from (Below.refl _ w3).drew)
  have HT0 := Lib.hid (HSS.out w3.drew HBd3.out)
  have HQ3 := Lib.hid (HQ.out.trans ((HB1.out.trans (HB3.out.mono HB1.out.size)).mono HQ.out.size))
  go_cut [12] (fun p12 wx => ∃ g q cap, p12 = .pointer (some ⟨g, 0, none⟩) ∧ Hid (Blk wx g [.int .i64 (a : Nat), .slice (some ⟨q, 0, none⟩) n cap] 42) ∧ Hid (wx.ownsRow w3.heap.size 3 1 (.slice (some ⟨q, 0, none⟩) n cap) n (us.map (Value.int .i64))) ∧ Hid (w3.heap.size ≤ g ∧ g ≠ q) ∧ Hid (Below w3.heap.size w3 wx))
  case first =>
    refine wp_regionJ (S := fun w' => w'.cell? ⟨w.heap.size + 1, 0, none⟩ = some (.int .i64 (a : Nat)) ∧ w'.cell? ⟨w.heap.size + 1, 1, none⟩ = some (.slice (some ⟨b, o, none⟩) n cu)) (A := fun i => decide (i < 8)) (by kernel_rfl) ?_
    refine wpAnyJ_take (i := 0) (oi := { dst := some 34, op := .fieldAddr _ (.tmp 4) 0, type := _, pos := _, after := _, guard := _ }) (v := ?_) rfl (by kernel_rfl) (by kernel_rfl) (by kernel_rfl) (early_sat (by kernel_rfl)) (fun _ _ _ h => h) (Or.inl ⟨by rfl, ?_⟩) HT0.out ?_
    rotate_left
    · intro wl hSw
      obtain ⟨s0, s1⟩ := hSw
      go_simp
      with_reducible rfl
    simp only [Act.put, List.setIfInBounds_toArray, List.set_cons_zero, List.set_cons_succ]
    refine wpAnyJ_take (i := 1) (oi := { dst := some 35, op := .load _ (.tmp 34), type := _, pos := _, after := _, guard := _ }) (v := ?_) rfl (by kernel_rfl) (by kernel_rfl) (by kernel_rfl) (early_sat (by kernel_rfl)) (fun _ _ _ h => h) (Or.inl ⟨by rfl, ?_⟩) HT0.out ?_
    rotate_left
    · intro wl hSw
      obtain ⟨s0, s1⟩ := hSw
      go_simp
      with_reducible rfl
    simp only [Act.put, List.setIfInBounds_toArray, List.set_cons_zero, List.set_cons_succ]
    refine wpAnyJ_take (i := 3) (oi := { dst := some 37, op := .fieldAddr _ (.tmp 4) 1, type := _, pos := _, after := _, guard := _ }) (v := ?_) rfl (by kernel_rfl) (by kernel_rfl) (by kernel_rfl) (early_sat (by kernel_rfl)) (fun _ _ _ h => h) (Or.inl ⟨by rfl, ?_⟩) HT0.out ?_
    rotate_left
    · intro wl hSw
      obtain ⟨s0, s1⟩ := hSw
      go_simp
      with_reducible rfl
    simp only [Act.put, List.setIfInBounds_toArray, List.set_cons_zero, List.set_cons_succ]
    refine wpAnyJ_take (i := 4) (oi := { dst := some 38, op := .load _ (.tmp 37), type := _, pos := _, after := _, guard := _ }) (v := ?_) rfl (by kernel_rfl) (by kernel_rfl) (by kernel_rfl) (early_sat (by kernel_rfl)) (fun _ _ _ h => h) (Or.inl ⟨by rfl, ?_⟩) HT0.out ?_
    rotate_left
    · intro wl hSw
      obtain ⟨s0, s1⟩ := hSw
      go_simp
      with_reducible rfl
    simp only [Act.put, List.setIfInBounds_toArray, List.set_cons_zero, List.set_cons_succ]
    have HNL9 := Lib.hid (show (us.map (Value.int .i64)).length = n * 1 by rw [List.length_map, HUL.out, Nat.mul_one])
    have HON := Lib.hid (show ∀ u ∈ us.map (Value.int .i64), u.oneCell' = true from fun u hu => by obtain ⟨y, -, rfl⟩ := List.mem_map.1 hu; rfl)
    have HB1n := Lib.hid (show (0 + n) * 8 ≤ 140737488355328 by omega)
    have HB2n := Lib.hid (show 0 + n ≤ maxLen by unfold maxLen; omega)
    have HNW := Lib.hid (fun (w' : World) (hb : Below w3.heap.size w3 w') => (fun j u hj => by
      have hju : j < us.length := by have := (List.getElem?_eq_some_iff.1 hj).1; simpa using this
      have h1 := HP.out.at (HQ3.out.trans (hb.mono HQ3.out.size)) (Nat.le_refl _) j hju 0 _ rfl
      rw [Nat.mul_one, Nat.add_zero] at h1
      rw [show (⟨b, o, none⟩ : Addr).add j = ⟨b, o + j, none⟩ by simp [Addr.add], h1]
      simpa [hju] using hj : ∀ (j : Nat) (u : Value), (us.map (Value.int .i64))[j]? = some u → w'.cell? ((⟨b, o, none⟩ : Addr).add j) = some u))
    have HCA := Lib.hid (fun (w' : World) (g cap : Nat) (h : w'.ownsRow w3.heap.size 3 1 (.slice (some ⟨g, 0, none⟩) (0 + n) cap) (0 + n) ([] ++ us.map (Value.int .i64))) => (by rw [Nat.zero_add, List.nil_append] at h; exact h : w'.ownsRow w3.heap.size 3 1 (.slice (some ⟨g, 0, none⟩) n cap) n (us.map (Value.int .i64))))
    have HWE := Lib.hid (HBd3.out.alloc HBd3.out.size (.cells #[] 3))
    have HWU := Lib.hid (HBd3.out.alloc HBd3.out.size (.cells #[.int .i64 0, .slice none 0 0] 42))
    have HEU := Lib.hid (HWE.out.alloc HWE.out.size (.cells #[.int .i64 0, .slice none 0 0] 42))
    have HUE := Lib.hid (HWU.out.alloc HWU.out.size (.cells #[] 3))
    refine wpAnyJ_pair (i := 2) (j := 7) (o := { dst := some 36, op := _, type := _, pos := _, after := _, guard := _ }) (o' := { dst := some 12, op := _, type := _, pos := _, after := _, guard := _ }) (by kernel_rfl) rfl rfl (fun K hK => ?_) (fun K hK => ?_)
    · go_simp
      have hS2 := HSS.out (w3.drew.alloc (.cells #[] 3)) HWE.out
      refine hK.out _ _ (fun _ => hS2) ?_
      try simp only [Act.put, List.setIfInBounds_toArray, List.set_cons_zero, List.set_cons_succ]
      clear hK K
      refine wpAnyJ_pair (i := 5) (j := 7) (o := { dst := some 39, op := _, type := _, pos := _, after := _, guard := _ }) (o' := { dst := some 12, op := _, type := _, pos := _, after := _, guard := _ }) (by kernel_rfl) rfl rfl (fun K hK => ?_) (fun K hK => ?_)
      · refine appF_step (w0 := (w3.drew.alloc (.cells #[] 3))) (m := n) (c := cu) (ad := ⟨b, o, none⟩) (news := us.map (Value.int .i64)) (base := w3.heap.size) elemI rfl (.tmp 36) (.tmp 38) rfl (by rfl) (by rfl) (own_empty w3.drew w3.heap.size 3 (Nat.le_refl _)) HWE.out.size HNL9.out (HNW.out _ HWE.out) HON.out HB1n.out HB2n.out ?_
        intro v' w5 hown5 hg5 hv5
        obtain ⟨q, cap, rfl, hq⟩ := own_some hown5 (fun e => by have := (hv5.1 e).1; cases this)
        have HO5 := Lib.hid hown5; have HG5 := Lib.hid hg5; have HQ5 := Lib.hid hq
        clear hown5 hv5 hq hg5
        have HB5 := Lib.hid (HWE.out.grown HG5.out HWE.out.size (fun j hj => by simp [Value.ownBlock] at hj; omega))
        have hS5 := HSS.out w5 HB5.out
        refine hK.out _ _ (fun _ => hS5) ?_
        try simp only [Act.put, List.setIfInBounds_toArray, List.set_cons_zero, List.set_cons_succ]
        clear hK K
        refine wpAnyJ_take (i := 6) (oi := { dst := some 40, op := _, type := _, pos := _, after := _, guard := _ }) (v := ?_) rfl (by kernel_rfl) (by kernel_rfl) (by kernel_rfl) (early_sat (by kernel_rfl)) (fun _ _ _ h => h) (Or.inl ⟨by rfl, ?_⟩) hS5 ?_
        rotate_left
        · intro wl hSw
          obtain ⟨s0, s1⟩ := hSw
          go_simp
          with_reducible rfl
        simp only [Act.put, List.setIfInBounds_toArray, List.set_cons_zero, List.set_cons_succ]
        refine wpAnyJ_only (i := 7) (o := { dst := some 12, op := _, type := _, pos := _, after := _, guard := _ }) (by kernel_rfl) rfl (fun K hK => ?_)
        go_simp
        have hS6 := HSS.out (w5.alloc (.cells #[.int .i64 0, .slice none 0 0] 42)) (HB5.out.alloc HB5.out.size _)
        refine hK.out _ _ (fun _ => hS6) ?_
        try simp only [Act.put, List.setIfInBounds_toArray, List.set_cons_zero, List.set_cons_succ]
        clear hK K
        refine wpAnyJ_only (i := 8) (o := { dst := none, op := .store _ (.tmp 12) (.tmp 40), type := _, pos := _, after := _, guard := _ }) (by kernel_rfl) rfl (fun K hK => ?_)
        go_simp
        refine hK.out _ _ (fun h => absurd h (by decide)) ?_
        try simp only [Act.put, List.setIfInBounds_toArray, List.set_cons_zero, List.set_cons_succ]
        clear hK K
        refine wpAnyJ_done (by kernel_rfl) ?_ _
        have hto := HCA.out _ _ _ HO5.out
        have hql := (hto.lt q rfl).2
        have HTO := Lib.hid hto
        have HQL := Lib.hid hql
        clear hto hql
        go_wp2
        go_meet
        case rel => exact ⟨w5.heap.size, q, cap, rfl, Lib.hid (Blk.new w5 [.int .i64 (a : Nat), .slice (some ⟨q, 0, none⟩) n cap] _), Lib.hid (HTO.out.alloc _), Lib.hid ⟨HB5.out.size, fun e => by have := HQL.out; omega⟩, Lib.hid (HB5.out.alloc HB5.out.size _)⟩
      · go_simp
        have hS2 := HSS.out ((w3.drew.alloc (.cells #[] 3)).alloc (.cells #[.int .i64 0, .slice none 0 0] 42)) HEU.out
        refine hK.out _ _ (fun _ => hS2) ?_
        try simp only [Act.put, List.setIfInBounds_toArray, List.set_cons_zero, List.set_cons_succ]
        clear hK K
        refine wpAnyJ_only (i := 5) (o := { dst := some 39, op := _, type := _, pos := _, after := _, guard := _ }) (by kernel_rfl) rfl (fun K hK => ?_)
        refine appF_step (w0 := ((w3.drew.alloc (.cells #[] 3)).alloc (.cells #[.int .i64 0, .slice none 0 0] 42))) (m := n) (c := cu) (ad := ⟨b, o, none⟩) (news := us.map (Value.int .i64)) (base := w3.heap.size) elemI rfl (.tmp 36) (.tmp 38) rfl (by rfl) (by rfl) ((own_empty w3.drew w3.heap.size 3 (Nat.le_refl _)).alloc _) HEU.out.size HNL9.out (HNW.out _ HEU.out) HON.out HB1n.out HB2n.out ?_
        intro v' w5 hown5 hg5 hv5
        obtain ⟨q, cap, rfl, hq⟩ := own_some hown5 (fun e => by have := (hv5.1 e).1; cases this)
        have HO5 := Lib.hid hown5; have HG5 := Lib.hid hg5; have HQ5 := Lib.hid hq
        clear hown5 hv5 hq hg5
        have HB5 := Lib.hid (HEU.out.grown HG5.out HEU.out.size (fun j hj => by simp [Value.ownBlock] at hj; omega))
        have hS5 := HSS.out w5 HB5.out
        have HN5 := Lib.hid (show Blk w5 (w3.heap.size + 1) [.int .i64 0, .slice none 0 0] 42 from (HG5.out.block (w3.heap.size + 1) (by rw [World.size_alloc, World.size_alloc]; show w3.heap.size + 1 < w3.heap.size + 1 + 1; omega) (fun e => by simp [Value.ownBlock] at e)).trans (show Blk ((w3.drew.alloc (.cells #[] 3)).alloc (.cells #[.int .i64 0, .slice none 0 0] 42)) (w3.heap.size + 1) [.int .i64 0, .slice none 0 0] 42 by have h := Blk.new (w3.drew.alloc (.cells #[] 3)) [.int .i64 0, .slice none 0 0] 42; rw [World.size_alloc] at h; exact h))
        have m0 := HN5.out.cell 0 _ rfl; have m1 := HN5.out.cell 1 _ rfl; have f0 := HN5.out.free 0; have f1 := HN5.out.free 1; have hml := HN5.out.lt
        refine hK.out _ _ (fun _ => hS5) ?_
        try simp only [Act.put, List.setIfInBounds_toArray, List.set_cons_zero, List.set_cons_succ]
        clear hK K
        refine wpAnyJ_take (i := 6) (oi := { dst := some 40, op := _, type := _, pos := _, after := _, guard := _ }) (v := ?_) rfl (by kernel_rfl) (by kernel_rfl) (by kernel_rfl) (early_sat (by kernel_rfl)) (fun _ _ _ h => h) (Or.inl ⟨by rfl, ?_⟩) hS5 ?_
        rotate_left
        · intro wl hSw
          obtain ⟨s0, s1⟩ := hSw
          go_simp
          with_reducible rfl
        simp only [Act.put, List.setIfInBounds_toArray, List.set_cons_zero, List.set_cons_succ]
        refine wpAnyJ_only (i := 8) (o := { dst := none, op := .store _ (.tmp 12) (.tmp 40), type := _, pos := _, after := _, guard := _ }) (by kernel_rfl) rfl (fun K hK => ?_)
        go_simp
        refine hK.out _ _ (fun h => absurd h (by decide)) ?_
        try simp only [Act.put, List.setIfInBounds_toArray, List.set_cons_zero, List.set_cons_succ]
        clear hK K
        refine wpAnyJ_done (by kernel_rfl) ?_ _
        have hto := HCA.out _ _ _ HO5.out
        have HTO := Lib.hid hto
        have hqg : q ≠ (w3.heap.size + 1) := fun e => own_apartB1 hto HN5.out (by decide) (by rw [← e]; rfl)
        have HQG := Lib.hid hqg
        have HTO2 := Lib.hid (own_otherK (g := (w3.heap.size + 1)) (j := 1) (u := .slice (some ⟨q, 0, none⟩) n cap) (own_otherK (g := (w3.heap.size + 1)) (j := 0) (u := .int .i64 (a : Nat)) HTO.out (fun e => by simp [Value.ownBlock] at e; exact hqg e)) (fun e => by simp [Value.ownBlock] at e; exact hqg e))
        clear hto m0 m1 f0 f1 hml hqg
        go_wp2
        go_meet
        case rel => exact ⟨(w3.heap.size + 1), q, cap, rfl, Lib.hid ((HN5.out.set 0 (.int .i64 (a : Nat))).set 1 (.slice (some ⟨q, 0, none⟩) n cap)), HTO2, Lib.hid ⟨by omega, fun e => HQG.out e.symm⟩, Lib.hid ((HB5.out.setCell (p := ⟨(w3.heap.size + 1), 0, none⟩) (by simp) _).setCell (p := ⟨(w3.heap.size + 1), 1, none⟩) (by simp) _)⟩
    · go_simp
      have hS2 := HSS.out (w3.drew.alloc (.cells #[.int .i64 0, .slice none 0 0] 42)) HWU.out
      refine hK.out _ _ (fun _ => hS2) ?_
      try simp only [Act.put, List.setIfInBounds_toArray, List.set_cons_zero, List.set_cons_succ]
      clear hK K
      refine wpAnyJ_only (i := 2) (o := { dst := some 36, op := _, type := _, pos := _, after := _, guard := _ }) (by kernel_rfl) rfl (fun K hK => ?_)
      go_simp
      have hS3 := HSS.out ((w3.drew.alloc (.cells #[.int .i64 0, .slice none 0 0] 42)).alloc (.cells #[] 3)) HUE.out
      refine hK.out _ _ (fun _ => hS3) ?_
      try simp only [Act.put, List.setIfInBounds_toArray, List.set_cons_zero, List.set_cons_succ]
      clear hK K
      refine wpAnyJ_only (i := 5) (o := { dst := some 39, op := _, type := _, pos := _, after := _, guard := _ }) (by kernel_rfl) rfl (fun K hK => ?_)
      refine appF_step (w0 := ((w3.drew.alloc (.cells #[.int .i64 0, .slice none 0 0] 42)).alloc (.cells #[] 3))) (m := n) (c := cu) (ad := ⟨b, o, none⟩) (news := us.map (Value.int .i64)) (base := w3.heap.size) elemI rfl (.tmp 36) (.tmp 38) rfl (by rfl) (by rfl) (show ((w3.drew.alloc (.cells #[.int .i64 0, .slice none 0 0] 42)).alloc (.cells #[] 3)).ownsRow w3.heap.size 3 1 (.slice (some ⟨w3.heap.size + 1, 0, none⟩) 0 0) 0 [] by have h := own_empty (w3.drew.alloc (.cells #[.int .i64 0, .slice none 0 0] 42)) w3.heap.size 3 HWU.out.size; rw [World.size_alloc] at h; exact h) HUE.out.size HNL9.out (HNW.out _ HUE.out) HON.out HB1n.out HB2n.out ?_
      intro v' w5 hown5 hg5 hv5
      obtain ⟨q, cap, rfl, hq⟩ := own_some hown5 (fun e => by have := (hv5.1 e).1; cases this)
      have HO5 := Lib.hid hown5; have HG5 := Lib.hid hg5; have HQ5 := Lib.hid hq
      clear hown5 hv5 hq hg5
      have HB5 := Lib.hid (HUE.out.grown HG5.out HUE.out.size (fun j hj => by simp [Value.ownBlock] at hj; omega))
      have hS5 := HSS.out w5 HB5.out
      have HN5 := Lib.hid (show Blk w5 w3.heap.size [.int .i64 0, .slice none 0 0] 42 from (HG5.out.block w3.heap.size (by rw [World.size_alloc, World.size_alloc]; show w3.heap.size < w3.heap.size + 1 + 1; omega) (fun e => by simp [Value.ownBlock] at e)).trans (show Blk ((w3.drew.alloc (.cells #[.int .i64 0, .slice none 0 0] 42)).alloc (.cells #[] 3)) w3.heap.size _ _ from (Blk.new w3.drew _ _).alloc _))
      have m0 := HN5.out.cell 0 _ rfl; have m1 := HN5.out.cell 1 _ rfl; have f0 := HN5.out.free 0; have f1 := HN5.out.free 1; have hml := HN5.out.lt
      refine hK.out _ _ (fun _ => hS5) ?_
      try simp only [Act.put, List.setIfInBounds_toArray, List.set_cons_zero, List.set_cons_succ]
      clear hK K
      refine wpAnyJ_take (i := 6) (oi := { dst := some 40, op := _, type := _, pos := _, after := _, guard := _ }) (v := ?_) rfl (by kernel_rfl) (by kernel_rfl) (by kernel_rfl) (early_sat (by kernel_rfl)) (fun _ _ _ h => h) (Or.inl ⟨by rfl, ?_⟩) hS5 ?_
      rotate_left
      · intro wl hSw
        obtain ⟨s0, s1⟩ := hSw
        go_simp
        with_reducible rfl
      simp only [Act.put, List.setIfInBounds_toArray, List.set_cons_zero, List.set_cons_succ]
      refine wpAnyJ_only (i := 8) (o := { dst := none, op := .store _ (.tmp 12) (.tmp 40), type := _, pos := _, after := _, guard := _ }) (by kernel_rfl) rfl (fun K hK => ?_)
      go_simp
      refine hK.out _ _ (fun h => absurd h (by decide)) ?_
      try simp only [Act.put, List.setIfInBounds_toArray, List.set_cons_zero, List.set_cons_succ]
      clear hK K
      refine wpAnyJ_done (by kernel_rfl) ?_ _
      have hto := HCA.out _ _ _ HO5.out
      have HTO := Lib.hid hto
      have hqg : q ≠ w3.heap.size := fun e => own_apartB1 hto HN5.out (by decide) (by rw [← e]; rfl)
      have HQG := Lib.hid hqg
      have HTO2 := Lib.hid (own_otherK (g := w3.heap.size) (j := 1) (u := .slice (some ⟨q, 0, none⟩) n cap) (own_otherK (g := w3.heap.size) (j := 0) (u := .int .i64 (a : Nat)) HTO.out (fun e => by simp [Value.ownBlock] at e; exact hqg e)) (fun e => by simp [Value.ownBlock] at e; exact hqg e))
      clear hto m0 m1 f0 f1 hml hqg
      go_wp2
      go_meet
      case rel => exact ⟨w3.heap.size, q, cap, rfl, Lib.hid ((HN5.out.set 0 (.int .i64 (a : Nat))).set 1 (.slice (some ⟨q, 0, none⟩) n cap)), HTO2, Lib.hid ⟨by omega, fun e => HQG.out e.symm⟩, Lib.hid ((HB5.out.setCell (p := ⟨w3.heap.size, 0, none⟩) (by simp) _).setCell (p := ⟨w3.heap.size, 1, none⟩) (by simp) _)⟩
  case rest =>
    obtain ⟨g, q, cap, rfl, hBX, hOQ, hgq, hBW⟩ := hcut
    have HZC := Lib.hid (show w3.heap.size ≤ wc.heap.size from hBW.out.size)
    have HGL := Lib.hid hBX.out.lt
    have HQL := Lib.hid (hOQ.out.lt q rfl)
    obtain ⟨ea', eb, eo, ec', hform, hie, hep, hec, hecm⟩ := HES3.out.open elemEnds
    simp only [Value.slice.injEq, true_and] at hform
    obtain ⟨rfl, rfl⟩ := hform
    have HEP := Lib.hid hep
    have HQT := Lib.hid (HQ.out.trans ((HB1.out.trans (HB3.out.mono HB1.out.size)).mono HQ.out.size))
    have hOR : wc.ownsRow w3.heap.size 3 1 (.slice (some ⟨q, 0, none⟩) n cap) n (ints (rotK (sgl ns) us n (Rot.run (sgl ns) (rot us) a 0).2)) := by
      have h1 : us.map (Value.int .i64) = ints (rotK (sgl ns) us n []) := by
        conv => lhs; rw [rotK_zero HG.out]
        simp [ints]
      have := hOQ.out
      rw [h1] at this; exact this
    have HR0 := Lib.hid hOR
    have HW0 : Hid (wc.ownsRow wc.heap.size 3 1 (.slice none 0 0) (Rot.run (sgl ns) (rot us) a 0).2.length (ints (Rot.run (sgl ns) (rot us) a 0).2)) := Lib.hid (World.ownsRow_nil _ _ _ _)
    have HX3 := Lib.hid (HX1.out.below HB3.out (Nat.le_refl _))
    have hgb := HU1.out.lt
    go_wp2
    clear hOR hOQ hep
    go_loopw [13, 14] (fun out i wr => ∃ (j v : Nat) (l : List Nat), j ≤ k ∧ i = .int .i64 j ∧ v < n ∧ Hid (Rot.run (sgl ns) (rot us) a j = (v, l)) ∧ Hid (Blk wr g [.int .i64 (v : Nat), .slice (some ⟨q, 0, none⟩) n cap] 42) ∧ Hid (wr.ownsRow w3.heap.size 3 1 (.slice (some ⟨q, 0, none⟩) n cap) n (ints (rotK (sgl ns) us n l))) ∧ Hid (wr.ownsRow wc.heap.size 3 1 out l.length (ints l)) ∧ Hid (l.length = j) ∧ Hid (Below w3.heap.size w3 wr) ∧ Hid (wc.heap.size ≤ wr.heap.size)) (fun _ i _ => k - (intOf i).toNat)
    case atStart => exact ⟨0, a, [], Nat.zero_le _, rfl, HG.out.at_lt, Lib.hid rfl, hBX, HR0, HW0, Lib.hid rfl, hBW, Lib.hid (Nat.le_refl _)⟩
    case round =>
      clear hBX HR0 HW0 hBW
      obtain ⟨j, v, l, hj, rfl, hv, hrun, hBX, hOQ, hOW, hlj, hBW, hZ⟩ := hrel
      by_cases hjk : j < k
      · obtain ⟨x, e, z1, z2, hv1, hx, h2, he, hxl, h3, hz, hz2n, hrun2, hrot⟩ := run_step n12 HG.out HRG.out hrun.out hv
        have hb3r : Below w3.heap.size w3 wr := hBW.out
        have hlo : v < (outs n (sgl ns)).length := by rw [outs, outsAt_len]; exact hv
        have hor := outs_rot n (sgl ns) v hlo
        obtain ⟨rv2, r03, hrow⟩ := HRW3.out.row v hlo
        have r0 := (World.cell?_of_block (w := w3) (w' := wr) (a := ⟨L, v, none⟩) (hb3r.block L HRW3.out.blk.lt)).trans r03
        have hlL := (HRW3.out.below hb3r (Nat.le_refl _)).blk.lt
        rw [hor] at hrow
        obtain ⟨ra, rb, ro, rc, rfl, hri, hrp, hrc, hrm⟩ := hrow.open elemI
        obtain ⟨T, hT⟩ : ∃ T, Rot.outs (sgl ns) v = T := ⟨_, rfl⟩
        simp only [hT] at h2 he hxl hri hrp hrc hrot r0 r03
        obtain ⟨y, hy⟩ : ∃ y, (x + 1) % T.length = y := ⟨_, rfl⟩
        simp only [hy] at h2 he hrot
        have y0 : wr.cell? ⟨rb, ro + y, none⟩ = some (.int .i64 (e : Nat)) := by
          have := hrp.at hb3r (Nat.le_refl _) y h2 0 (.int .i64 (e : Nat)) (by rw [he]; rfl)
          rwa [Nat.mul_one, Nat.add_zero] at this
        have hrl3 := hrp.1 (by omega)
        have hel3 := HEP.out.1 (by omega)
        have hq3 := own_ge hOQ.out q rfl
        have hg3 := hgq.out.1
        have hrl := Nat.lt_of_lt_of_le hrl3 hb3r.size
        have n1' : rb ≠ q := by omega
        have n2' : rb ≠ g := by omega
        have n3' : eb ≠ q := by omega
        have n4' : eb ≠ g := by omega
        have hL3 := HRW3.out.blk.lt
        have n5' : L ≠ q := by omega
        have n6' : L ≠ g := by omega
        have i0' : (0 : Int) ≤ (e : Int) := by omega
        have e1 : wr.cell? ⟨eb, eo + e * 2 + 1, none⟩ = some (.int .i64 (z2 : Nat)) := HEP.out.at hb3r (Nat.le_refl _) e h3 1 _ (by rw [hz]; rfl)
        have hel := (HEP.out.below hb3r (Nat.le_refl _)).1 (by omega)
        have b0 := hBX.out.cell 0 _ rfl
        have b1 := hBX.out.cell 1 _ rfl
        have bf := hBX.out.free 0
        have hgl := hBX.out.lt
        have hql := (hOQ.out.lt q rfl).2
        have c0 : wr.cell? ⟨q, v, none⟩ = some (.int .i64 (x : Nat)) := by
          have := hOQ.out.cells (g := q) rfl v (.int .i64 (x : Nat)) (by rw [ints_at _ _ hv1, hx])
          rwa [addr0] at this
        have cf : wr.frozen? ⟨q, v, none⟩ = false := hOQ.out.frozenAt v
        have v0 : (0 : Int) ≤ (v : Int) := by omega
        have v1 : (v : Int) < (n : Int) := by omega
        have y1 : (0 : Int) ≤ (y : Int) := by omega
        have y2 : (y : Int) < (T.length : Int) := by omega
        have i1' : (e : Int) < ((sgl ns).length : Int) := by omega
        have hTne : ¬ (T.length : Int) = 0 := by omega
        have hmod : Int.tmod ((x : Int) + 1) (T.length : Int) = (y : Int) := by
          rw [← hy]; rw [show (x : Int) + 1 = ((x + 1 : Nat) : Int) by simp]; rfl
        have hTl : T.length ≤ (sgl ns).length := by
          rw [← hT]; unfold Rot.outs; exact Nat.le_trans (List.length_filter_le _ _) (by simp)
        have hgq1 := hgq.out.2
        have hgq2 : q ≠ g := fun e => hgq1 e.symm
        have HRUN2 := Lib.hid hrun2; have HROT := Lib.hid hrot
        obtain ⟨oa, oc, rfl⟩ := own_formK hOW.out
        have HLJ := Lib.hid hlj.out
        have hX : ∃ X, (wr.setCell ⟨q, v, none⟩ (.int .i64 (y : Nat))).drew = X := ⟨_, rfl⟩
        obtain ⟨X, hX⟩ := hX
        have hXS : X.heap.size = wr.heap.size := by rw [← hX]; show (wr.setCell ⟨q, v, none⟩ (.int .i64 (y : Nat))).heap.size = _; simp
        have HXS := Lib.hid hXS
        have XB := Lib.hid (show Blk X g [.int .i64 (v : Nat), .slice (some ⟨q, 0, none⟩) n cap] 42 by rw [← hX]; exact hBX.out.setCell hgq1 _)
        have XQ := Lib.hid (show X.ownsRow w3.heap.size 3 1 (.slice (some ⟨q, 0, none⟩) n cap) n (ints (rotK (sgl ns) us n (l ++ [e]))) by rw [← hX, HROT.out, ← ints_set]; exact (hOQ.out.stored v _).1)
        have XW := Lib.hid (show X.ownsRow wc.heap.size 3 1 (.slice oa l.length oc) l.length (ints l) by rw [← hX]; exact own_otherK hOW.out (fun e => by have := own_ge hOW.out _ e; have := HQL.out.2; omega))
        have X3 := Lib.hid (show Below w3.heap.size w3 X by rw [← hX]; exact (hBW.out.setCell (p := ⟨q, v, none⟩) hq3 _).drew)
        have XC := Lib.hid (show wc.heap.size ≤ X.heap.size by rw [hXS]; exact hZ.out)
        have HOWN := Lib.hid (fun t (e : (Value.slice oa l.length oc).ownBlock = some t) => own_ge hOW.out t e)
        have HQA : Hid (∃ (h : v < (rotK (sgl ns) us n (l ++ [e])).length), (rotK (sgl ns) us n (l ++ [e]))[v] = y) := Lib.hid ⟨by rw [rotK_len]; exact hv, by simp only [HROT.out]; rw [List.getElem_set_self]⟩
        have hlb : (l.length + 1) * 8 ≤ 140737488355328 := by have := hlj.out; omega
        have hlb2 : l.length + 1 ≤ maxLen := by have := hlj.out; unfold maxLen; omega
        have HXX := Lib.hid hX
        have HHP := Lib.hid hrp; have HHE := Lib.hid (show (T)[y]'h2 = e from he); have HZZ := Lib.hid (show (sgl ns)[e]'h3 = (z1, z2) from hz)
        clear hx he hz hrun2 hrot hy hT hor hrow hb3r hXS hX
        have hwr : IntKind.i64.wrap ((x : Int) + 1) = (x : Int) + 1 := by rw [IntKind.wrap_i64]; omega
        have hTe : ¬ T = [] := fun e => by rw [e] at hTne; exact hTne rfl
        go_wp2_with fail
        have HS12 := Lib.hid (show wr.drew.cell? ⟨g, 0, none⟩ = some (.int .i64 (v : Nat)) ∧ wr.drew.cell? ⟨g, 1, none⟩ = some (.slice (some ⟨q, 0, none⟩) n cap) ∧ wr.drew.cell? ⟨q, v, none⟩ = some (.int .i64 (x : Nat)) ∧ wr.drew.cell? ⟨L, v, none⟩ = some (.slice ra T.length rc) from ⟨b0, b1, c0, r0⟩)
        refine wp_regionJ (S := fun w' => w'.cell? ⟨g, 0, none⟩ = some (.int .i64 (v : Nat)) ∧ w'.cell? ⟨g, 1, none⟩ = some (.slice (some ⟨q, 0, none⟩) n cap) ∧ w'.cell? ⟨q, v, none⟩ = some (.int .i64 (x : Nat)) ∧ w'.cell? ⟨L, v, none⟩ = some (.slice ra T.length rc)) (A := fun i => decide (i < 19)) (by kernel_rfl) ?_
        refine wpAnyJ_take (i := 0) (oi := { dst := some 46, op := .fieldAddr _ (.tmp 12) 1, type := _, pos := _, after := _, guard := _ }) (v := ?_) rfl (by kernel_rfl) (by kernel_rfl) (by kernel_rfl) (early_sat (by kernel_rfl)) (fun _ _ _ h => h) (Or.inl ⟨by rfl, ?_⟩) HS12.out ?_
        rotate_left
        · intro wl hSw
          obtain ⟨s0, s1, s2, s3⟩ := hSw
          go_simp
          with_reducible rfl
        simp only [Act.put, List.setIfInBounds_toArray, List.set_cons_zero, List.set_cons_succ]
        refine wpAnyJ_take (i := 1) (oi := { dst := some 47, op := .load _ (.tmp 46), type := _, pos := _, after := _, guard := _ }) (v := ?_) rfl (by kernel_rfl) (by kernel_rfl) (by kernel_rfl) (early_sat (by kernel_rfl)) (fun _ _ _ h => h) (Or.inl ⟨by rfl, ?_⟩) HS12.out ?_
        rotate_left
        · intro wl hSw
          obtain ⟨s0, s1, s2, s3⟩ := hSw
          go_simp
          with_reducible rfl
        simp only [Act.put, List.setIfInBounds_toArray, List.set_cons_zero, List.set_cons_succ]
        refine wpAnyJ_take (i := 2) (oi := { dst := some 48, op := .fieldAddr _ (.tmp 12) 0, type := _, pos := _, after := _, guard := _ }) (v := ?_) rfl (by kernel_rfl) (by kernel_rfl) (by kernel_rfl) (early_sat (by kernel_rfl)) (fun _ _ _ h => h) (Or.inl ⟨by rfl, ?_⟩) HS12.out ?_
        rotate_left
        · intro wl hSw
          obtain ⟨s0, s1, s2, s3⟩ := hSw
          go_simp
          with_reducible rfl
        simp only [Act.put, List.setIfInBounds_toArray, List.set_cons_zero, List.set_cons_succ]
        refine wpAnyJ_take (i := 3) (oi := { dst := some 49, op := .load _ (.tmp 48), type := _, pos := _, after := _, guard := _ }) (v := ?_) rfl (by kernel_rfl) (by kernel_rfl) (by kernel_rfl) (early_sat (by kernel_rfl)) (fun _ _ _ h => h) (Or.inl ⟨by rfl, ?_⟩) HS12.out ?_
        rotate_left
        · intro wl hSw
          obtain ⟨s0, s1, s2, s3⟩ := hSw
          go_simp
          with_reducible rfl
        simp only [Act.put, List.setIfInBounds_toArray, List.set_cons_zero, List.set_cons_succ]
        refine wpAnyJ_take (i := 4) (oi := { dst := some 50, op := .fieldAddr _ (.tmp 12) 1, type := _, pos := _, after := _, guard := _ }) (v := ?_) rfl (by kernel_rfl) (by kernel_rfl) (by kernel_rfl) (early_sat (by kernel_rfl)) (fun _ _ _ h => h) (Or.inl ⟨by rfl, ?_⟩) HS12.out ?_
        rotate_left
        · intro wl hSw
          obtain ⟨s0, s1, s2, s3⟩ := hSw
          go_simp
          with_reducible rfl
        simp only [Act.put, List.setIfInBounds_toArray, List.set_cons_zero, List.set_cons_succ]
        refine wpAnyJ_take (i := 5) (oi := { dst := some 51, op := .load _ (.tmp 50), type := _, pos := _, after := _, guard := _ }) (v := ?_) rfl (by kernel_rfl) (by kernel_rfl) (by kernel_rfl) (early_sat (by kernel_rfl)) (fun _ _ _ h => h) (Or.inl ⟨by rfl, ?_⟩) HS12.out ?_
        rotate_left
        · intro wl hSw
          obtain ⟨s0, s1, s2, s3⟩ := hSw
          go_simp
          with_reducible rfl
        simp only [Act.put, List.setIfInBounds_toArray, List.set_cons_zero, List.set_cons_succ]
        refine wpAnyJ_take (i := 6) (oi := { dst := some 52, op := .fieldAddr _ (.tmp 12) 0, type := _, pos := _, after := _, guard := _ }) (v := ?_) rfl (by kernel_rfl) (by kernel_rfl) (by kernel_rfl) (early_sat (by kernel_rfl)) (fun _ _ _ h => h) (Or.inl ⟨by rfl, ?_⟩) HS12.out ?_
        rotate_left
        · intro wl hSw
          obtain ⟨s0, s1, s2, s3⟩ := hSw
          go_simp
          with_reducible rfl
        simp only [Act.put, List.setIfInBounds_toArray, List.set_cons_zero, List.set_cons_succ]
        refine wpAnyJ_take (i := 7) (oi := { dst := some 53, op := .load _ (.tmp 52), type := _, pos := _, after := _, guard := _ }) (v := ?_) rfl (by kernel_rfl) (by kernel_rfl) (by kernel_rfl) (early_sat (by kernel_rfl)) (fun _ _ _ h => h) (Or.inl ⟨by rfl, ?_⟩) HS12.out ?_
        rotate_left
        · intro wl hSw
          obtain ⟨s0, s1, s2, s3⟩ := hSw
          go_simp
          with_reducible rfl
        simp only [Act.put, List.setIfInBounds_toArray, List.set_cons_zero, List.set_cons_succ]
        refine wpAnyJ_take (i := 8) (oi := { dst := some 54, op := .indexAddr _ (.tmp 51) (.tmp 53), type := _, pos := _, after := _, guard := _ }) (v := ?_) rfl (by kernel_rfl) (by kernel_rfl) (by kernel_rfl) (early_sat (by kernel_rfl)) (fun _ _ _ h => h) (Or.inl ⟨by rfl, ?_⟩) HS12.out ?_
        rotate_left
        · intro wl hSw
          obtain ⟨s0, s1, s2, s3⟩ := hSw
          go_simp
          with_reducible rfl
        simp only [Act.put, List.setIfInBounds_toArray, List.set_cons_zero, List.set_cons_succ]
        refine wpAnyJ_take (i := 9) (oi := { dst := some 55, op := .load _ (.tmp 54), type := _, pos := _, after := _, guard := _ }) (v := ?_) rfl (by kernel_rfl) (by kernel_rfl) (by kernel_rfl) (early_sat (by kernel_rfl)) (fun _ _ _ h => h) (Or.inl ⟨by rfl, ?_⟩) HS12.out ?_
        rotate_left
        · intro wl hSw
          obtain ⟨s0, s1, s2, s3⟩ := hSw
          go_simp
          with_reducible rfl
        simp only [Act.put, List.setIfInBounds_toArray, List.set_cons_zero, List.set_cons_succ]
        refine wpAnyJ_take (i := 10) (oi := { dst := some 56, op := .binOp _ _ (.tmp 55) _ _, type := _, pos := _, after := _, guard := _ }) (v := ?_) rfl (by kernel_rfl) (by kernel_rfl) (by kernel_rfl) (early_sat (by kernel_rfl)) (fun _ _ _ h => h) (Or.inl ⟨by rfl, ?_⟩) HS12.out ?_
        rotate_left
        · intro wl hSw
          obtain ⟨s0, s1, s2, s3⟩ := hSw
          go_simp
          with_reducible rfl
        simp only [Act.put, List.setIfInBounds_toArray, List.set_cons_zero, List.set_cons_succ]
        refine wpAnyJ_take (i := 11) (oi := { dst := some 57, op := .move (.tmp 11), type := _, pos := _, after := _, guard := _ }) (v := ?_) rfl (by kernel_rfl) (by kernel_rfl) (by kernel_rfl) (early_sat (by kernel_rfl)) (fun _ _ _ h => h) (Or.inl ⟨by rfl, ?_⟩) HS12.out ?_
        rotate_left
        · intro wl hSw
          obtain ⟨s0, s1, s2, s3⟩ := hSw
          go_simp
          with_reducible rfl
        simp only [Act.put, List.setIfInBounds_toArray, List.set_cons_zero, List.set_cons_succ]
        refine wpAnyJ_take (i := 12) (oi := { dst := some 58, op := .fieldAddr _ (.tmp 12) 0, type := _, pos := _, after := _, guard := _ }) (v := ?_) rfl (by kernel_rfl) (by kernel_rfl) (by kernel_rfl) (early_sat (by kernel_rfl)) (fun _ _ _ h => h) (Or.inl ⟨by rfl, ?_⟩) HS12.out ?_
        rotate_left
        · intro wl hSw
          obtain ⟨s0, s1, s2, s3⟩ := hSw
          go_simp
          with_reducible rfl
        simp only [Act.put, List.setIfInBounds_toArray, List.set_cons_zero, List.set_cons_succ]
        refine wpAnyJ_take (i := 13) (oi := { dst := some 59, op := .load _ (.tmp 58), type := _, pos := _, after := _, guard := _ }) (v := ?_) rfl (by kernel_rfl) (by kernel_rfl) (by kernel_rfl) (early_sat (by kernel_rfl)) (fun _ _ _ h => h) (Or.inl ⟨by rfl, ?_⟩) HS12.out ?_
        rotate_left
        · intro wl hSw
          obtain ⟨s0, s1, s2, s3⟩ := hSw
          go_simp
          with_reducible rfl
        simp only [Act.put, List.setIfInBounds_toArray, List.set_cons_zero, List.set_cons_succ]
        refine wpAnyJ_take (i := 14) (oi := { dst := some 60, op := .indexAddr _ (.tmp 57) (.tmp 59), type := _, pos := _, after := _, guard := _ }) (v := ?_) rfl (by kernel_rfl) (by kernel_rfl) (by kernel_rfl) (early_sat (by kernel_rfl)) (fun _ _ _ h => h) (Or.inl ⟨by rfl, ?_⟩) HS12.out ?_
        rotate_left
        · intro wl hSw
          obtain ⟨s0, s1, s2, s3⟩ := hSw
          go_simp
          with_reducible rfl
        simp only [Act.put, List.setIfInBounds_toArray, List.set_cons_zero, List.set_cons_succ]
        refine wpAnyJ_take (i := 15) (oi := { dst := some 61, op := .load _ (.tmp 60), type := _, pos := _, after := _, guard := _ }) (v := ?_) rfl (by kernel_rfl) (by kernel_rfl) (by kernel_rfl) (early_sat (by kernel_rfl)) (fun _ _ _ h => h) (Or.inl ⟨by rfl, ?_⟩) HS12.out ?_
        rotate_left
        · intro wl hSw
          obtain ⟨s0, s1, s2, s3⟩ := hSw
          go_simp
          with_reducible rfl
        simp only [Act.put, List.setIfInBounds_toArray, List.set_cons_zero, List.set_cons_succ]
        refine wpAnyJ_take (i := 16) (oi := { dst := some 62, op := _, type := _, pos := _, after := _, guard := _ }) (v := ?_) rfl (by kernel_rfl) (by kernel_rfl) (by kernel_rfl) (early_sat (by kernel_rfl)) (fun _ _ _ h => h) (Or.inl ⟨by rfl, ?_⟩) HS12.out ?_
        rotate_left
        · intro wl hSw
          obtain ⟨s0, s1, s2, s3⟩ := hSw
          go_simp
          with_reducible rfl
        simp only [Act.put, List.setIfInBounds_toArray, List.set_cons_zero, List.set_cons_succ]
        refine wpAnyJ_take (i := 17) (oi := { dst := some 63, op := .binOp _ _ (.tmp 56) (.tmp 62) _, type := _, pos := _, after := _, guard := _ }) (v := ?_) rfl (by kernel_rfl) (by kernel_rfl) (by kernel_rfl) (early_sat (by kernel_rfl)) (fun _ _ _ h => h) (Or.inl ⟨by rfl, ?_⟩) HS12.out ?_
        rotate_left
        · intro wl hSw
          obtain ⟨s0, s1, s2, s3⟩ := hSw
          go_simp
          with_reducible rfl
        simp only [Act.put, List.setIfInBounds_toArray, List.set_cons_zero, List.set_cons_succ]
        refine wpAnyJ_take (i := 18) (oi := { dst := some 64, op := .indexAddr _ (.tmp 47) (.tmp 49), type := _, pos := _, after := _, guard := _ }) (v := ?_) rfl (by kernel_rfl) (by kernel_rfl) (by kernel_rfl) (early_sat (by kernel_rfl)) (fun _ _ _ h => h) (Or.inl ⟨by rfl, ?_⟩) HS12.out ?_
        rotate_left
        · intro wl hSw
          obtain ⟨s0, s1, s2, s3⟩ := hSw
          go_simp
          with_reducible rfl
        simp only [Act.put, List.setIfInBounds_toArray, List.set_cons_zero, List.set_cons_succ]
        refine wpAnyJ_only (i := 19) (o := { dst := none, op := .store _ (.tmp 64) (.tmp 63), type := _, pos := _, after := _, guard := _ }) (by kernel_rfl) rfl (fun K hK => ?_)
        go_simp
        refine hK.out _ _ (fun h => absurd h (by decide)) ?_
        try simp only [Act.put, List.setIfInBounds_toArray, List.set_cons_zero, List.set_cons_succ]
        clear hK K
        refine wpAnyJ_done (by kernel_rfl) ?_ _
        rw [HXX.out]
        obtain ⟨hqa1, hqa2⟩ := HQA.out
        have HFX := Lib.hid (fun (w5 : World) (h1 : ∀ t, t < wc.heap.size → w5.heap[t]? = X.heap[t]?) => (⟨(World.cell?_of_block (a := ⟨g, 0, none⟩) (h1 g HGL.out)).trans (XB.out.cell 0 _ rfl), (World.cell?_of_block (a := ⟨g, 1, none⟩) (h1 g HGL.out)).trans (XB.out.cell 1 _ rfl), (World.frozen?_of_block (a := ⟨g, 0, none⟩) (h1 g HGL.out)).trans (XB.out.free 0),
            (by
              have := XQ.out.cells (g := q) rfl v (.int .i64 (y : Nat)) (by rw [ints_at _ _ hqa1, hqa2])
              rw [addr0] at this
              exact (World.cell?_of_block (a := ⟨q, v, none⟩) (h1 q HQL.out.2)).trans this),
            (by
              have h2 := HHP.out.at X3.out (Nat.le_refl _) y h2 0 (.int .i64 (e : Nat)) (by rw [HHE.out]; rfl)
              rw [Nat.mul_one, Nat.add_zero] at h2
              exact (World.cell?_of_block (a := ⟨rb, ro + y, none⟩) (h1 rb (Nat.lt_of_lt_of_le hrl3 HZC.out))).trans h2),
            (by
              have h2 := HEP.out.at X3.out (Nat.le_refl _) e h3 1 (.int .i64 (z2 : Nat)) (by rw [HZZ.out]; rfl)
              exact (World.cell?_of_block (a := ⟨eb, eo + e * 2 + 1, none⟩) (h1 eb (Nat.lt_of_lt_of_le hel3 HZC.out))).trans h2)⟩ :
          w5.cell? ⟨g, 0, none⟩ = some (.int .i64 (v : Nat)) ∧ w5.cell? ⟨g, 1, none⟩ = some (.slice (some ⟨q, 0, none⟩) n cap) ∧ w5.frozen? ⟨g, 0, none⟩ = false ∧ w5.cell? ⟨q, v, none⟩ = some (.int .i64 (y : Nat)) ∧ w5.cell? ⟨rb, ro + y, none⟩ = some (.int .i64 (e : Nat)) ∧ w5.cell? ⟨eb, eo + e * 2 + 1, none⟩ = some (.int .i64 (z2 : Nat))))
        have r9 : X.cell? ⟨L, v, none⟩ = some (.slice ra T.length rc) := (World.cell?_of_block (w := w3) (w' := X) (a := ⟨L, v, none⟩) (X3.out.block L HRW3.out.blk.lt)).trans r03
        have hlX := Nat.lt_of_lt_of_le hL3 X3.out.size
        clear b0 b1 bf c0 cf y0 e1 r0 hgl hql hrl hel hlL r03 hqa1 hqa2
        obtain ⟨d0, d1, d2, d3, d4, d5⟩ := HFX.out X (fun _ _ => rfl)
        have HGX := Lib.hid (Nat.lt_of_lt_of_le HGL.out XC.out)
        have hgx := HGX.out
        have hqx := Nat.lt_of_lt_of_le HQL.out.2 XC.out
        have hrx := Nat.lt_of_lt_of_le hrl3 (Nat.le_trans HZC.out XC.out)
        have hex := Nat.lt_of_lt_of_le hel3 (Nat.le_trans HZC.out XC.out)
        go_wp2_with fail
        go_quiet (fail)
        have HFY := Lib.hid (fun (w5 : World) (h1 : ∀ t, t < wc.heap.size → w5.heap[t]? = (X.drewN nq).heap[t]?) => HFX.out w5 h1)
        have XB := Lib.hid (XB.out.drewN nq)
        have XQ := Lib.hid (show (X.drewN nq).ownsRow w3.heap.size 3 1 (.slice (some ⟨q, 0, none⟩) n cap) n (ints (rotK (sgl ns) us n (l ++ [e]))) from XQ.out)
        have XW := Lib.hid (show (X.drewN nq).ownsRow wc.heap.size 3 1 (.slice oa l.length oc) l.length (ints l) from XW.out)
        have X3 := Lib.hid (below_drewN X3.out nq)
        have XC := Lib.hid (show wc.heap.size ≤ (X.drewN nq).heap.size from XC.out)
        have HGX := Lib.hid (show g < (X.drewN nq).heap.size from HGX.out)
        clear HFX d0 d1 d2 d3 d4 d5 hgx hqx hrx hex r9 hlX
        obtain ⟨Y, hY⟩ : ∃ Y, X.drewN nq = Y := ⟨_, rfl⟩
        rw [hY] at XB XQ XW X3 XC HFY HGX ⊢
        have HFX := HFY
        obtain ⟨d0, d1, d2, d3, d4, d5⟩ := HFX.out Y (fun _ _ => rfl)
        have hgx := HGX.out
        have hqx := Nat.lt_of_lt_of_le HQL.out.2 XC.out
        have hrx := Nat.lt_of_lt_of_le hrl3 (Nat.le_trans HZC.out XC.out)
        have hex := Nat.lt_of_lt_of_le hel3 (Nat.le_trans HZC.out XC.out)
        clear hY
        have HKP := Lib.hid (fun (w5 : World) (r : Option Nat) (hr : ∀ t, r = some t → wc.heap.size ≤ t) (hg : (Y.alloc (.cells (i1 e).toArray 3)).grownBy w5 r) (t : Nat) (ht : t < wc.heap.size) =>
          ((hg.block t (by rw [World.size_alloc]; have := XC.out; omega) (fun e => by have := hr _ e.symm; omega)).trans (Below.heap_alloc Y _ t (by have := XC.out; omega)) : w5.heap[t]? = Y.heap[t]?))
        go_wp2_with (at_builtin; go_loud (refine appMG (w0 := Y) (m := 1) (news := i1 e) (B := w3.heap.size) (W := w3) (base := wc.heap.size) elemI rfl (.tmp 78) (.tmp 80) rfl (by rfl) (by rfl) XW.out X3.out HZC.out XC.out rfl (by intro u hu; simp [i1] at hu; subst hu; rfl) hlb hlb2 ?_); intro v' w5 hown' hb' hg' hat'; obtain ⟨va, vc, rfl⟩ := own_formK hown'; have HO5 := Lib.hid hown'; have HB5 := Lib.hid hb'; have HG5 := Lib.hid hg'; clear hown' hb' hg' hat' d0 d1 d2 d3 d4 d5 hgx hqx hrx hex; obtain ⟨d0, d1, d2, d3, d4, d5⟩ := HFX.out w5 (HKP.out w5 _ HOWN.out HG5.out); have hsz5 := HG5.out.size; rw [World.size_alloc] at hsz5; have hgx := Nat.lt_of_lt_of_le HGX.out (Nat.le_trans (Nat.le_succ _) hsz5))
        have kp := HKP.out w5 _ HOWN.out HG5.out
        have t1 : Blk (w5.setCell ⟨g, 0, none⟩ (.int .i64 (z2 : Nat))) g [.int .i64 (z2 : Nat), .slice (some ⟨q, 0, none⟩) n cap] 42 := (show Blk w5 g _ _ from (kp g HGL.out).trans XB.out).set 0 _
        have t2 : (w5.setCell ⟨g, 0, none⟩ (.int .i64 (z2 : Nat))).ownsRow w3.heap.size 3 1 (.slice (some ⟨q, 0, none⟩) n cap) n (ints (rotK (sgl ns) us n (l ++ [e]))) :=
          own_otherK (own_keepG (XQ.out.alloc (.cells (i1 e).toArray 3)) HG5.out (fun t e1 e2 => by have h1 := HOWN.out t e2; have h2 := HQL.out.2; simp [Value.ownBlock] at e1; omega)) (fun e => by simp [Value.ownBlock] at e; exact hgq2 e)
        have t3 : (w5.setCell ⟨g, 0, none⟩ (.int .i64 (z2 : Nat))).ownsRow wc.heap.size 3 1 (.slice va (l.length + 1) vc) (l ++ [e]).length (ints (l ++ [e])) := by
          rw [show (l ++ [e]).length = l.length + 1 by simp, show ints (l ++ [e]) = ints l ++ i1 e by simp [ints, i1]]
          exact own_otherK HO5.out (fun e => by have h1 := own_ge HO5.out _ e; have := HGL.out; omega)
        have t4 := HB5.out.setCell (p := ⟨g, 0, none⟩) hg3 (.int .i64 (z2 : Nat))
        have t5 : wc.heap.size ≤ (w5.setCell ⟨g, 0, none⟩ (.int .i64 (z2 : Nat))).heap.size := by
          have := XC.out
          simp; omega
        go_roundw
        case rel => exact ⟨j + 1, z2, l ++ [e], by omega, by go_num, hz2n, HRUN2, Lib.hid t1, Lib.hid t2, Lib.hid t3, Lib.hid (by simp [HLJ.out]), Lib.hid t4, Lib.hid t5⟩
        case measure => simp [intOf]; omega
      · obtain rfl : k = j := by omega
        have hb3r : Below w3.heap.size w3 wr := hBW.out
        have HXr := HX3.out.below hb3r (Nat.le_refl _)
        have b0 := hBX.out.cell 0 _ rfl
        have b1 := hBX.out.cell 1 _ rfl
        have x0 := HXr.cell 0 _ rfl
        have x1 := HXr.cell 1 _ rfl
        have xf0 := HXr.free 0
        have xf1 := HXr.free 1
        have hgl := hBX.out.lt
        have hxl := HXr.lt
        obtain ⟨oa, oc, rfl⟩ := own_formK hOW.out
        have HXR := Lib.hid HXr
        have HRU := Lib.hid hrun.out; have HOQ := Lib.hid hOQ.out; have HOW := Lib.hid hOW.out; have HLJ := Lib.hid hlj.out
        have HB9 := Lib.hid (HQT.out.trans (hb3r.mono HQT.out.size))
        have hsz := hBW.out.size
        have HX3l := Lib.hid HX3.out.lt
        clear hBX HXr hOQ hOW hlj hrun hBW hb3r
        go_wp2
        have HR4 := (HXR.out.set 0 (.int .i64 (v : Nat))).set 1 (.slice (some ⟨q, 0, none⟩) n cap)
        have t1 := own_baseK (own_otherK (g := w.heap.size + 1 + 1) (j := 1) (u := .slice (some ⟨q, 0, none⟩) n cap) (own_otherK (g := w.heap.size + 1 + 1) (j := 0) (u := .int .i64 (v : Nat)) HOQ.out (fun e => by have h1 := own_ge HOQ.out _ e; have := HX3l.out; omega)) (fun e => by have h1 := own_ge HOQ.out _ e; have := HX3l.out; omega)) (show w.heap.size ≤ w3.heap.size from HQT.out.size)
        have t2 := own_baseK (own_otherK (g := w.heap.size + 1 + 1) (j := 1) (u := .slice (some ⟨q, 0, none⟩) n cap) (own_otherK (g := w.heap.size + 1 + 1) (j := 0) (u := .int .i64 (v : Nat)) HOW.out (fun e => by have h1 := own_ge HOW.out _ e; have := HX3l.out; have := HZC.out; omega)) (fun e => by have h1 := own_ge HOW.out _ e; have := HX3l.out; have := HZC.out; omega)) (show w.heap.size ≤ wc.heap.size from Nat.le_trans HQT.out.size HZC.out)
        have t3 := (HB9.out.setCell (p := ⟨w.heap.size + 1 + 1, 0, none⟩) (by simp; omega) (.int .i64 (v : Nat))).setCell (p := ⟨w.heap.size + 1 + 1, 1, none⟩) (by simp; omega) (.slice (some ⟨q, 0, none⟩) n cap)
        obtain ⟨w9, hw9⟩ : ∃ w9, (wr.setCell ⟨w.heap.size + 1 + 1, 0, none⟩ (.int .i64 (v : Nat))).setCell ⟨w.heap.size + 1 + 1, 1, none⟩ (.slice (some ⟨q, 0, none⟩) n cap) = w9 := ⟨_, rfl⟩
        rw [hw9] at HR4 t1 t2 t3 ⊢
        have z0 := HR4.cell 0 _ rfl
        have z1 := HR4.cell 1 _ rfl
        have HRR := HRU.out
        exact bodyPost_ret (v := .tuple #[.agg #[.int .i64 (v : Nat), .slice (some ⟨q, 0, none⟩) n cap], .slice oa l.length oc, .int .i64 0]) (by simp [results, Tryz.results14, go_sem, z0, z1]) rfl ⟨_, rfl, q, cap, _, by rw [HRR], by rw [HRR]; exact t1, by rw [HRR]; exact t2, t3⟩
end Go.Proofs.YtlnhocgjgmhfgaaGreatDoor

namespace Go.Proofs.YtlnhocgjgmhfgaaGreatDoor
open Go.RowKit
set_option maxRecDepth 100000

/-- What Walk answers: a unicycle, its way, an error. -/
def RetW (w : World) (A : Int) (R : List Int) (L : List Nat) (k : Int) : Ending → World → Prop := Rets fun r w' => ∃ u v, r = .tuple #[.agg #[.int .i64 A, u], v, .int .i64 k] ∧ SlK iz 1 w' u R ∧ SlK i1 1 w' v L ∧ Below w.heap.size w w'
theorem slk_nilz (w : World) : SlK iz 1 w (.slice none 0 0) [] := ⟨none, 0, 0, 0, rfl, fun h => absurd h (by decide), Nat.le_refl _, by unfold maxLen; omega, fun _ => rfl, fun h => absurd h (by decide), fun i h => absurd h (Nat.not_lt_zero _)⟩
theorem slk_nil1 (w : World) : SlK i1 1 w (.slice none 0 0) [] := ⟨none, 0, 0, 0, rfl, fun h => absurd h (by decide), Nat.le_refl _, by unfold maxLen; omega, fun _ => rfl, fun h => absurd h (by decide), fun i h => absurd h (Nat.not_lt_zero _)⟩
theorem ints_natI (l : List Nat) : ints l = (natI l).flatMap iz := by
  induction l with
  | nil => rfl
  | cons x l ih => unfold natI at *; rw [List.map_cons, List.flatMap_cons, ← ih]; rfl
theorem iz_len (x : Int) : (iz x).length = 1 := rfl
theorem ChkC.total (n : Nat) (ns : List (Nat × Nat × Nat)) (at_ : Int) (us : List Int) : ∃ e, ChkC n ns at_ us e := by
  unfold ChkC
  by_cases h1 : EulC n ns
  · by_cases h2 : [] ∈ outs n (sgl ns)
    · exact ⟨15, .inl ⟨rfl, .inr h2⟩⟩
    · by_cases h3 : at_ < 0 ∨ (n : Int) ≤ at_
      · exact ⟨2, .inr ⟨h1, h2, .inl ⟨rfl, h3⟩⟩⟩
      · by_cases h4 : us.length = n
        · by_cases h5 : ∀ v, v < n → 0 ≤ us.getD v 0 ∧ us.getD v 0 < (Rot.outs (sgl ns) v).length
          · by_cases h6 : ∀ v, v < n → ∃ i, it (ptK (sgl ns) us n) i v = at_.toNat
            · exact ⟨0, .inr ⟨h1, h2, .inr ⟨by omega, by omega, .inr ⟨h4, .inr ⟨h5, .inr ⟨rfl, h6⟩⟩⟩⟩⟩⟩
            · exact ⟨3, .inr ⟨h1, h2, .inr ⟨by omega, by omega, .inr ⟨h4, .inr ⟨h5, .inl ⟨rfl, h6⟩⟩⟩⟩⟩⟩
          · exact ⟨2, .inr ⟨h1, h2, .inr ⟨by omega, by omega, .inr ⟨h4, .inl ⟨rfl, h5⟩⟩⟩⟩⟩
        · exact ⟨8, .inr ⟨h1, h2, .inr ⟨by omega, by omega, .inl ⟨rfl, h4⟩⟩⟩⟩
  · exact ⟨15, .inl ⟨rfl, .inl h1⟩⟩
theorem EChk_bad (w : World) (n : Int) (v : Value) (es : List (Int × Int × Int)) (at_ : Int) (rv : Value) (us : List Int) (hv : SlK e3 3 w v es) (hu : SlK iz 1 w rv us) (hk : chkDg n es ≠ 0) :
    Calls Tryz.prog 15 #[.agg #[.int .i64 n, v], .agg #[.int .i64 at_, rv]] w (Rets fun r w' => r = .int .i64 (chkDg n es) ∧ Below w.heap.size w w') := by
  obtain ⟨ad, c, rfl⟩ := hv.form
  obtain ⟨ru, cu, rfl⟩ := hu.form
  have HV := Lib.hid hv; have HUV := Lib.hid hu
  obtain ⟨D, hD⟩ : ∃ D, w.heap.size = D := ⟨_, rfl⟩
  obtain ⟨W1, hW1⟩ : ∃ W, w.alloc (.cells #[.int .i64 n, .slice ad es.length c] 28) = W := ⟨_, rfl⟩
  obtain ⟨W2, hW2⟩ : ∃ W, W1.alloc (.cells #[.int .i64 at_, .slice ru us.length cu] 38) = W := ⟨_, rfl⟩
  have z1 : W1.heap.size = D + 1 := by rw [← hW1, World.size_alloc, hD]
  have z2 : W2.heap.size = D + 1 + 1 := by rw [← hW2, World.size_alloc, z1]
  have k1 : Blk W1 D [.int .i64 n, .slice ad es.length c] 28 := by rw [← hW1, ← hD]; exact Blk.new w _ _
  have k2 : Blk W2 (D + 1) [.int .i64 at_, .slice ru us.length cu] 38 := by rw [← hW2, ← z1]; exact Blk.new W1 _ _
  have q1 : Below D w W1 := by rw [← hW1, ← hD]; exact (Below.refl _ w).alloc (Nat.le_refl _) _
  have q2 : Below D w W2 := by rw [← hW2]; exact q1.alloc (by rw [z1]; omega) _
  have k3 : Blk W2 D [.int .i64 n, .slice ad es.length c] 28 := by rw [← hW2]; exact k1.alloc _
  have k0 := k3.cell 0 _ rfl; have k1' := k3.cell 1 _ rfl; have kl := k3.lt
  have HC := Lib.hid (NCheck_any W2 n _ es (HV.out.below q2 (Nat.le_of_eq hD)))
  have HW : Hid ((w.alloc (.cells #[.int .i64 n, .slice ad es.length c] 28)).alloc (.cells #[.int .i64 at_, .slice ru us.length cu] 38) = W2) := Lib.hid (by rw [hW1, hW2])
  have HQ := Lib.hid q2
  obtain ⟨K, hK⟩ : ∃ K, chkDg n es = K := ⟨_, rfl⟩
  rw [hK] at hk HC ⊢
  have he : (K == 0) = false := by rw [beq_eq_false_iff_ne]; exact hk
  clear hk hK k1 k2 k3 q1 q2 hW1 hW2 z1 z2 hv hu
  go_enter Tryz.func15, Tryz.ntmps15
  go_wp2_with (go_at_call 46; (try rw [HW.out]); (with_reducible refine HC.out.mono ?_); rintro e w1 ⟨v, rfl, rfl, hb⟩; have HB := Lib.hid (HQ.out.trans (hb.mono (by rw [← hD]; exact HQ.out.size))); clear hb)
  go_ret
  exact ⟨_, rfl, rfl, by first | exact HB.out | (rw [hD]; exact HB.out)⟩
set_option maxHeartbeats 4000000 in
theorem EWalk_bad (w : World) (n : Int) (v : Value) (es : List (Int × Int × Int)) (at_ : Int) (rv : Value) (us : List Int) (k e e2 : Int) (hv : SlK e3 3 w v es) (hu : SlK iz 1 w rv us)
    (hC : ∀ (W : World) (u t : Value), SlK e3 3 W u es → SlK iz 1 W t us → Calls Tryz.prog 15 #[.agg #[.int .i64 n, u], .agg #[.int .i64 at_, t]] W (Rets fun r w' => r = .int .i64 e ∧ Below W.heap.size W w'))
    (h : (e ≠ 0 ∧ e2 = e) ∨ (e = 0 ∧ (k < 0 ∨ 4096 < k) ∧ e2 = 2)) :
    Calls Tryz.prog 13 #[.agg #[.int .i64 n, v], .agg #[.int .i64 at_, rv], .int .i64 k] w (RetW w 0 [] [] e2) := by
  obtain ⟨ad, c, rfl⟩ := hv.form
  obtain ⟨ru, cu, rfl⟩ := hu.form
  have HV := Lib.hid hv; have HUV := Lib.hid hu
  obtain ⟨D, hD⟩ : ∃ D, w.heap.size = D := ⟨_, rfl⟩
  obtain ⟨W1, hW1⟩ : ∃ W, w.alloc (.cells #[.int .i64 n, .slice ad es.length c] 28) = W := ⟨_, rfl⟩
  obtain ⟨W2, hW2⟩ : ∃ W, W1.alloc (.cells #[.int .i64 at_, .slice ru us.length cu] 38) = W := ⟨_, rfl⟩
  have z1 : W1.heap.size = D + 1 := by rw [← hW1, World.size_alloc, hD]
  have z2 : W2.heap.size = D + 1 + 1 := by rw [← hW2, World.size_alloc, z1]
  have k1 : Blk W1 D [.int .i64 n, .slice ad es.length c] 28 := by rw [← hW1, ← hD]; exact Blk.new w _ _
  have k2 : Blk W2 (D + 1) [.int .i64 at_, .slice ru us.length cu] 38 := by rw [← hW2, ← z1]; exact Blk.new W1 _ _
  have q1 : Below D w W1 := by rw [← hW1, ← hD]; exact (Below.refl _ w).alloc (Nat.le_refl _) _
  have q2 : Below D w W2 := by rw [← hW2]; exact q1.alloc (by rw [z1]; omega) _
  have k3 : Blk W2 D [.int .i64 n, .slice ad es.length c] 28 := by rw [← hW2]; exact k1.alloc _
  obtain ⟨W3, hW3⟩ : ∃ W, W2.alloc (.cells #[.int .i64 0, .slice none 0 0] 38) = W := ⟨_, rfl⟩
  have HX := Lib.hid (show Blk W3 (D + 1 + 1) [.int .i64 0, .slice none 0 0] 38 by rw [← hW3, ← z2]; exact Blk.new W2 _ _)
  have q3 : Below D w W3 := by rw [← hW3]; exact q2.alloc (by rw [z2]; omega) _
  have HC := Lib.hid (hC W3 _ _ (HV.out.below q3 (Nat.le_of_eq hD)) (HUV.out.below q3 (Nat.le_of_eq hD)))
  have HW : Hid (((w.alloc (.cells #[.int .i64 n, .slice ad es.length c] 28)).alloc (.cells #[.int .i64 at_, .slice ru us.length cu] 38)).alloc (.cells #[.int .i64 0, .slice none 0 0] 38) = W3) := Lib.hid (by rw [hW1, hW2, hW3])
  have HQ := Lib.hid q3
  clear k1 k2 k3 q1 q2 q3 hW1 hW2 hW3 z1 z2 hv hu hC
  rcases h with ⟨h1, rfl⟩ | ⟨rfl, h2, rfl⟩
  · have he : (e2 == 0) = false := by rw [beq_eq_false_iff_ne]; exact h1
    clear h1
    go_enter Tryz.func13, Tryz.ntmps13
    go_wp2_with (go_at_call 15; (try rw [HW.out]); (with_reducible refine HC.out.mono ?_); rintro e w1 ⟨v, rfl, rfl, hb⟩; have HB := Lib.hid (HQ.out.trans (hb.mono (by rw [← hD]; exact HQ.out.size))); have HX1 := Lib.hid (HX.out.below hb (Nat.le_refl _)); clear hb; have x0 := HX1.out.cell 0 _ rfl; have x1 := HX1.out.cell 1 _ rfl; have xf0 := HX1.out.free 0; have xf1 := HX1.out.free 1; have xl := HX1.out.lt)
    have HR4 := (HX1.out.set 0 (.int .i64 0)).set 1 (.slice none 0 0)
    have t3 := (HB.out.setCell (p := ⟨D + 1 + 1, 0, none⟩) (by simp; omega) (.int .i64 0)).setCell (p := ⟨D + 1 + 1, 1, none⟩) (by simp; omega) (.slice none 0 0)
    obtain ⟨w9, hw9⟩ : ∃ w9, (w1.setCell ⟨D + 1 + 1, 0, none⟩ (.int .i64 0)).setCell ⟨D + 1 + 1, 1, none⟩ (.slice none 0 0) = w9 := ⟨_, rfl⟩
    rw [hw9] at HR4 t3 ⊢
    have z0 := HR4.cell 0 _ rfl
    have z1 := HR4.cell 1 _ rfl
    exact bodyPost_ret (v := .tuple #[.agg #[.int .i64 0, .slice none 0 0], .slice none 0 0, .int .i64 e2]) (by simp [results, Tryz.results13, go_sem, z0, z1]) rfl ⟨_, rfl, _, _, rfl, slk_nilz _, slk_nil1 _, by first | exact t3 | (rw [hD]; exact t3)⟩
  · rcases h2 with h2 | h2
    · have d1 : decide (k < 0) = true := decide_eq_true h2
      go_enter Tryz.func13, Tryz.ntmps13
      go_wp2_with (go_at_call 15; (try rw [HW.out]); (with_reducible refine HC.out.mono ?_); rintro e w1 ⟨v, rfl, rfl, hb⟩; have HB := Lib.hid (HQ.out.trans (hb.mono (by rw [← hD]; exact HQ.out.size))); have HX1 := Lib.hid (HX.out.below hb (Nat.le_refl _)); clear hb; have x0 := HX1.out.cell 0 _ rfl; have x1 := HX1.out.cell 1 _ rfl; have xf0 := HX1.out.free 0; have xf1 := HX1.out.free 1; have xl := HX1.out.lt)
      have HR4 := (HX1.out.set 0 (.int .i64 0)).set 1 (.slice none 0 0)
      have t3 := (HB.out.setCell (p := ⟨D + 1 + 1, 0, none⟩) (by simp; omega) (.int .i64 0)).setCell (p := ⟨D + 1 + 1, 1, none⟩) (by simp; omega) (.slice none 0 0)
      obtain ⟨w9, hw9⟩ : ∃ w9, (w1.setCell ⟨D + 1 + 1, 0, none⟩ (.int .i64 0)).setCell ⟨D + 1 + 1, 1, none⟩ (.slice none 0 0) = w9 := ⟨_, rfl⟩
      rw [hw9] at HR4 t3 ⊢
      have z0 := HR4.cell 0 _ rfl
      have z1 := HR4.cell 1 _ rfl
      exact bodyPost_ret (v := .tuple #[.agg #[.int .i64 0, .slice none 0 0], .slice none 0 0, .int .i64 2]) (by simp [results, Tryz.results13, go_sem, z0, z1]) rfl ⟨_, rfl, _, _, rfl, slk_nilz _, slk_nil1 _, by first | exact t3 | (rw [hD]; exact t3)⟩
    · have d1 : decide (k < 0) = false := decide_eq_false (by omega)
      have d2 : decide (4096 < k) = true := decide_eq_true h2
      go_enter Tryz.func13, Tryz.ntmps13
      go_wp2_with (go_at_call 15; (try rw [HW.out]); (with_reducible refine HC.out.mono ?_); rintro e w1 ⟨v, rfl, rfl, hb⟩; have HB := Lib.hid (HQ.out.trans (hb.mono (by rw [← hD]; exact HQ.out.size))); have HX1 := Lib.hid (HX.out.below hb (Nat.le_refl _)); clear hb; have x0 := HX1.out.cell 0 _ rfl; have x1 := HX1.out.cell 1 _ rfl; have xf0 := HX1.out.free 0; have xf1 := HX1.out.free 1; have xl := HX1.out.lt)
      have HR4 := (HX1.out.set 0 (.int .i64 0)).set 1 (.slice none 0 0)
      have t3 := (HB.out.setCell (p := ⟨D + 1 + 1, 0, none⟩) (by simp; omega) (.int .i64 0)).setCell (p := ⟨D + 1 + 1, 1, none⟩) (by simp; omega) (.slice none 0 0)
      obtain ⟨w9, hw9⟩ : ∃ w9, (w1.setCell ⟨D + 1 + 1, 0, none⟩ (.int .i64 0)).setCell ⟨D + 1 + 1, 1, none⟩ (.slice none 0 0) = w9 := ⟨_, rfl⟩
      rw [hw9] at HR4 t3 ⊢
      have z0 := HR4.cell 0 _ rfl
      have z1 := HR4.cell 1 _ rfl
      exact bodyPost_ret (v := .tuple #[.agg #[.int .i64 0, .slice none 0 0], .slice none 0 0, .int .i64 2]) (by simp [results, Tryz.results13, go_sem, z0, z1]) rfl ⟨_, rfl, _, _, rfl, slk_nilz _, slk_nil1 _, by first | exact t3 | (rw [hD]; exact t3)⟩
theorem rChk_bad (w : World) (n : Int) (v : Value) (es : List (Int × Int × Int)) (at_ : Int) (rv : Value) (us : List Int) (hv : SlK e3 3 w v es) (hu : SlK iz 1 w rv us) (hk : chkDg n es ≠ 0) :
    Calls Tryz.prog 16 #[.agg #[.int .i64 n, v], .agg #[.int .i64 at_, rv]] w (Rets fun r w' => r = .int .i64 (chkDg n es) ∧ Below w.heap.size w w') := by
  obtain ⟨ad, c, rfl⟩ := hv.form
  obtain ⟨ru, cu, rfl⟩ := hu.form
  have HV := Lib.hid hv; have HUV := Lib.hid hu
  obtain ⟨D, hD⟩ : ∃ D, w.heap.size = D := ⟨_, rfl⟩
  obtain ⟨W1, hW1⟩ : ∃ W, w.alloc (.cells #[.int .i64 n, .slice ad es.length c] 28) = W := ⟨_, rfl⟩
  obtain ⟨W2, hW2⟩ : ∃ W, W1.alloc (.cells #[.int .i64 at_, .slice ru us.length cu] 42) = W := ⟨_, rfl⟩
  have z1 : W1.heap.size = D + 1 := by rw [← hW1, World.size_alloc, hD]
  have z2 : W2.heap.size = D + 1 + 1 := by rw [← hW2, World.size_alloc, z1]
  have k1 : Blk W1 D [.int .i64 n, .slice ad es.length c] 28 := by rw [← hW1, ← hD]; exact Blk.new w _ _
  have k2 : Blk W2 (D + 1) [.int .i64 at_, .slice ru us.length cu] 42 := by rw [← hW2, ← z1]; exact Blk.new W1 _ _
  have q1 : Below D w W1 := by rw [← hW1, ← hD]; exact (Below.refl _ w).alloc (Nat.le_refl _) _
  have q2 : Below D w W2 := by rw [← hW2]; exact q1.alloc (by rw [z1]; omega) _
  have k3 : Blk W2 D [.int .i64 n, .slice ad es.length c] 28 := by rw [← hW2]; exact k1.alloc _
  have k0 := k3.cell 0 _ rfl; have k1' := k3.cell 1 _ rfl; have kl := k3.lt
  have HC := Lib.hid (rDCheck_any W2 n _ es (HV.out.below q2 (Nat.le_of_eq hD)))
  have HW : Hid ((w.alloc (.cells #[.int .i64 n, .slice ad es.length c] 28)).alloc (.cells #[.int .i64 at_, .slice ru us.length cu] 42) = W2) := Lib.hid (by rw [hW1, hW2])
  have HQ := Lib.hid q2
  obtain ⟨K, hK⟩ : ∃ K, chkDg n es = K := ⟨_, rfl⟩
  rw [hK] at hk HC ⊢
  have he : (K == 0) = false := by rw [beq_eq_false_iff_ne]; exact hk
  clear hk hK k1 k2 k3 q1 q2 hW1 hW2 z1 z2 hv hu
  go_enter Tryz.func16, Tryz.ntmps16
  go_wp2_with (go_at_call 27; (try rw [HW.out]); (with_reducible refine HC.out.mono ?_); rintro e w1 ⟨v, rfl, rfl, hb⟩; have HB := Lib.hid (HQ.out.trans (hb.mono (by rw [← hD]; exact HQ.out.size))); clear hb)
  go_ret
  exact ⟨_, rfl, rfl, by first | exact HB.out | (rw [hD]; exact HB.out)⟩
set_option maxHeartbeats 4000000 in
theorem rWalk_bad (w : World) (n : Int) (v : Value) (es : List (Int × Int × Int)) (at_ : Int) (rv : Value) (us : List Int) (k e e2 : Int) (hv : SlK e3 3 w v es) (hu : SlK iz 1 w rv us)
    (hC : ∀ (W : World) (u t : Value), SlK e3 3 W u es → SlK iz 1 W t us → Calls Tryz.prog 16 #[.agg #[.int .i64 n, u], .agg #[.int .i64 at_, t]] W (Rets fun r w' => r = .int .i64 e ∧ Below W.heap.size W w'))
    (h : (e ≠ 0 ∧ e2 = e) ∨ (e = 0 ∧ (k < 0 ∨ 4096 < k) ∧ e2 = 2)) :
    Calls Tryz.prog 14 #[.agg #[.int .i64 n, v], .agg #[.int .i64 at_, rv], .int .i64 k] w (RetW w 0 [] [] e2) := by
  obtain ⟨ad, c, rfl⟩ := hv.form
  obtain ⟨ru, cu, rfl⟩ := hu.form
  have HV := Lib.hid hv; have HUV := Lib.hid hu
  obtain ⟨D, hD⟩ : ∃ D, w.heap.size = D := ⟨_, rfl⟩
  obtain ⟨W1, hW1⟩ : ∃ W, w.alloc (.cells #[.int .i64 n, .slice ad es.length c] 28) = W := ⟨_, rfl⟩
  obtain ⟨W2, hW2⟩ : ∃ W, W1.alloc (.cells #[.int .i64 at_, .slice ru us.length cu] 42) = W := ⟨_, rfl⟩
  have z1 : W1.heap.size = D + 1 := by rw [← hW1, World.size_alloc, hD]
  have z2 : W2.heap.size = D + 1 + 1 := by rw [← hW2, World.size_alloc, z1]
  have k1 : Blk W1 D [.int .i64 n, .slice ad es.length c] 28 := by rw [← hW1, ← hD]; exact Blk.new w _ _
  have k2 : Blk W2 (D + 1) [.int .i64 at_, .slice ru us.length cu] 42 := by rw [← hW2, ← z1]; exact Blk.new W1 _ _
  have q1 : Below D w W1 := by rw [← hW1, ← hD]; exact (Below.refl _ w).alloc (Nat.le_refl _) _
  have q2 : Below D w W2 := by rw [← hW2]; exact q1.alloc (by rw [z1]; omega) _
  have k3 : Blk W2 D [.int .i64 n, .slice ad es.length c] 28 := by rw [← hW2]; exact k1.alloc _
  obtain ⟨W3, hW3⟩ : ∃ W, W2.alloc (.cells #[.int .i64 0, .slice none 0 0] 42) = W := ⟨_, rfl⟩
  have HX := Lib.hid (show Blk W3 (D + 1 + 1) [.int .i64 0, .slice none 0 0] 42 by rw [← hW3, ← z2]; exact Blk.new W2 _ _)
  have q3 : Below D w W3 := by rw [← hW3]; exact q2.alloc (by rw [z2]; omega) _
  have HC := Lib.hid (hC W3 _ _ (HV.out.below q3 (Nat.le_of_eq hD)) (HUV.out.below q3 (Nat.le_of_eq hD)))
  have HW : Hid (((w.alloc (.cells #[.int .i64 n, .slice ad es.length c] 28)).alloc (.cells #[.int .i64 at_, .slice ru us.length cu] 42)).alloc (.cells #[.int .i64 0, .slice none 0 0] 42) = W3) := Lib.hid (by rw [hW1, hW2, hW3])
  have HQ := Lib.hid q3
  clear k1 k2 k3 q1 q2 q3 hW1 hW2 hW3 z1 z2 hv hu hC
  rcases h with ⟨h1, rfl⟩ | ⟨rfl, h2, rfl⟩
  · have he : (e2 == 0) = false := by rw [beq_eq_false_iff_ne]; exact h1
    clear h1
    go_enter Tryz.func14, Tryz.ntmps14
    go_wp2_with (go_at_call 16; (try rw [HW.out]); (with_reducible refine HC.out.mono ?_); rintro e w1 ⟨v, rfl, rfl, hb⟩; have HB := Lib.hid (HQ.out.trans (hb.mono (by rw [← hD]; exact HQ.out.size))); have HX1 := Lib.hid (HX.out.below hb (Nat.le_refl _)); clear hb; have x0 := HX1.out.cell 0 _ rfl; have x1 := HX1.out.cell 1 _ rfl; have xf0 := HX1.out.free 0; have xf1 := HX1.out.free 1; have xl := HX1.out.lt)
    have HR4 := (HX1.out.set 0 (.int .i64 0)).set 1 (.slice none 0 0)
    have t3 := (HB.out.setCell (p := ⟨D + 1 + 1, 0, none⟩) (by simp; omega) (.int .i64 0)).setCell (p := ⟨D + 1 + 1, 1, none⟩) (by simp; omega) (.slice none 0 0)
    obtain ⟨w9, hw9⟩ : ∃ w9, (w1.setCell ⟨D + 1 + 1, 0, none⟩ (.int .i64 0)).setCell ⟨D + 1 + 1, 1, none⟩ (.slice none 0 0) = w9 := ⟨_, rfl⟩
    rw [hw9] at HR4 t3 ⊢
    have z0 := HR4.cell 0 _ rfl
    have z1 := HR4.cell 1 _ rfl
    exact bodyPost_ret (v := .tuple #[.agg #[.int .i64 0, .slice none 0 0], .slice none 0 0, .int .i64 e2]) (by simp [results, Tryz.results14, go_sem, z0, z1]) rfl ⟨_, rfl, _, _, rfl, slk_nilz _, slk_nil1 _, by first | exact t3 | (rw [hD]; exact t3)⟩
  · rcases h2 with h2 | h2
    · have d1 : decide (k < 0) = true := decide_eq_true h2
      go_enter Tryz.func14, Tryz.ntmps14
      go_wp2_with (go_at_call 16; (try rw [HW.out]); (with_reducible refine HC.out.mono ?_); rintro e w1 ⟨v, rfl, rfl, hb⟩; have HB := Lib.hid (HQ.out.trans (hb.mono (by rw [← hD]; exact HQ.out.size))); have HX1 := Lib.hid (HX.out.below hb (Nat.le_refl _)); clear hb; have x0 := HX1.out.cell 0 _ rfl; have x1 := HX1.out.cell 1 _ rfl; have xf0 := HX1.out.free 0; have xf1 := HX1.out.free 1; have xl := HX1.out.lt)
      have HR4 := (HX1.out.set 0 (.int .i64 0)).set 1 (.slice none 0 0)
      have t3 := (HB.out.setCell (p := ⟨D + 1 + 1, 0, none⟩) (by simp; omega) (.int .i64 0)).setCell (p := ⟨D + 1 + 1, 1, none⟩) (by simp; omega) (.slice none 0 0)
      obtain ⟨w9, hw9⟩ : ∃ w9, (w1.setCell ⟨D + 1 + 1, 0, none⟩ (.int .i64 0)).setCell ⟨D + 1 + 1, 1, none⟩ (.slice none 0 0) = w9 := ⟨_, rfl⟩
      rw [hw9] at HR4 t3 ⊢
      have z0 := HR4.cell 0 _ rfl
      have z1 := HR4.cell 1 _ rfl
      exact bodyPost_ret (v := .tuple #[.agg #[.int .i64 0, .slice none 0 0], .slice none 0 0, .int .i64 2]) (by simp [results, Tryz.results14, go_sem, z0, z1]) rfl ⟨_, rfl, _, _, rfl, slk_nilz _, slk_nil1 _, by first | exact t3 | (rw [hD]; exact t3)⟩
    · have d1 : decide (k < 0) = false := decide_eq_false (by omega)
      have d2 : decide (4096 < k) = true := decide_eq_true h2
      go_enter Tryz.func14, Tryz.ntmps14
      go_wp2_with (go_at_call 16; (try rw [HW.out]); (with_reducible refine HC.out.mono ?_); rintro e w1 ⟨v, rfl, rfl, hb⟩; have HB := Lib.hid (HQ.out.trans (hb.mono (by rw [← hD]; exact HQ.out.size))); have HX1 := Lib.hid (HX.out.below hb (Nat.le_refl _)); clear hb; have x0 := HX1.out.cell 0 _ rfl; have x1 := HX1.out.cell 1 _ rfl; have xf0 := HX1.out.free 0; have xf1 := HX1.out.free 1; have xl := HX1.out.lt)
      have HR4 := (HX1.out.set 0 (.int .i64 0)).set 1 (.slice none 0 0)
      have t3 := (HB.out.setCell (p := ⟨D + 1 + 1, 0, none⟩) (by simp; omega) (.int .i64 0)).setCell (p := ⟨D + 1 + 1, 1, none⟩) (by simp; omega) (.slice none 0 0)
      obtain ⟨w9, hw9⟩ : ∃ w9, (w1.setCell ⟨D + 1 + 1, 0, none⟩ (.int .i64 0)).setCell ⟨D + 1 + 1, 1, none⟩ (.slice none 0 0) = w9 := ⟨_, rfl⟩
      rw [hw9] at HR4 t3 ⊢
      have z0 := HR4.cell 0 _ rfl
      have z1 := HR4.cell 1 _ rfl
      exact bodyPost_ret (v := .tuple #[.agg #[.int .i64 0, .slice none 0 0], .slice none 0 0, .int .i64 2]) (by simp [results, Tryz.results14, go_sem, z0, z1]) rfl ⟨_, rfl, _, _, rfl, slk_nilz _, slk_nil1 _, by first | exact t3 | (rw [hD]; exact t3)⟩

theorem n3_map_inj {ns ns' : List (Nat × Nat × Nat)} (h : ns.map n3 = ns'.map n3) : ns = ns' := by
  have hinj : ∀ x y, n3 x = n3 y → x = y := fun x y h => by
    obtain ⟨x1, x2, x3⟩ := x; obtain ⟨y1, y2, y3⟩ := y
    simp only [n3, Prod.mk.injEq, Int.ofNat_inj] at h
    rw [h.1, h.2.1, h.2.2]
  induction ns generalizing ns' with
  | nil => cases ns' with
    | nil => rfl
    | cons y l => simp at h
  | cons x l ih => cases ns' with
    | nil => simp at h
    | cons y l' =>
      simp only [List.map_cons, List.cons.injEq] at h
      rw [hinj _ _ h.1, ih h.2]
theorem check_all (n : Int) (es : List (Int × Int × Int)) (at_ : Int) (us : List Int) (hl : es.length ≤ 200) : ∃ e : Int, (∀ (W : World) (u t : Value), SlK e3 3 W u es → SlK iz 1 W t us → Calls Tryz.prog 15 #[.agg #[.int .i64 n, u], .agg #[.int .i64 at_, t]] W (Rets fun r w' => r = .int .i64 e ∧ Below W.heap.size W w')) ∧ (∀ (W : World) (u t : Value), SlK e3 3 W u es → SlK iz 1 W t us → Calls Tryz.prog 16 #[.agg #[.int .i64 n, u], .agg #[.int .i64 at_, t]] W (Rets fun r w' => r = .int .i64 e ∧ Below W.heap.size W w')) ∧
    (e = 0 ↔ ∃ (m : Nat) (ns : List (Nat × Nat × Nat)) (a : Nat), n = (m : Nat) ∧ es = ns.map n3 ∧ at_ = (a : Nat) ∧ RD m ns ∧ EulC m ns ∧ GoodU m (sgl ns) a us) := by
  by_cases hk : chkDg n es = 0
  · obtain ⟨m, ns, rfl, rfl, hR⟩ := rd_of hk
    rw [List.length_map] at hl
    obtain ⟨e, he⟩ := ChkC.total m ns at_ us
    refine ⟨e, fun W u t hu ht => (EChk_ok W m u ns at_ t us hR hu (by omega) ht).mono ?_, fun W u t hu ht => (rChk_any W m u ns at_ t us hR hu (by omega) ht).mono ?_, ?_⟩
    · rintro x w' ⟨v, hx, e', rfl, hb, hc⟩
      exact ⟨_, hx, by rw [he.unique hc], hb⟩
    · rintro x w' ⟨v, hx, e', rfl, hb, hc⟩
      exact ⟨_, hx, by rw [he.unique hc], hb⟩
    · rw [he.iff]
      constructor
      · rintro ⟨h1, h2, h3⟩
        exact ⟨m, ns, at_.toNat, rfl, rfl, by omega, hR, h1, h3⟩
      · rintro ⟨m', ns', a, h1, h2, rfl, h4, h5, h6⟩
        obtain rfl : m = m' := by omega
        have h7 : ns = ns' := n3_map_inj h2
        subst h7
        exact ⟨h5, by omega, by simpa using h6⟩
  · refine ⟨chkDg n es, fun W u t hu ht => EChk_bad W n u es at_ t us hu ht hk, fun W u t hu ht => rChk_bad W n u es at_ t us hu ht hk, ⟨fun h => absurd h hk, ?_⟩⟩
    rintro ⟨m, ns, a, rfl, rfl, -, hR, -, -⟩
    exact chkDg_rd hR
theorem walk_all (n : Int) (es : List (Int × Int × Int)) (at_ : Int) (us : List Int) (k : Int) (hl : es.length ≤ 200) : ∃ (A : Int) (R : List Int) (L : List Nat) (e e2 : Int), (∀ (W : World) (u t : Value), SlK e3 3 W u es → SlK iz 1 W t us → Calls Tryz.prog 15 #[.agg #[.int .i64 n, u], .agg #[.int .i64 at_, t]] W (Rets fun r w' => r = .int .i64 e ∧ Below W.heap.size W w')) ∧ (∀ (W : World) (u t : Value), SlK e3 3 W u es → SlK iz 1 W t us → Calls Tryz.prog 16 #[.agg #[.int .i64 n, u], .agg #[.int .i64 at_, t]] W (Rets fun r w' => r = .int .i64 e ∧ Below W.heap.size W w')) ∧ (∀ (W : World) (u t : Value), SlK e3 3 W u es → SlK iz 1 W t us → Calls Tryz.prog 13 #[.agg #[.int .i64 n, u], .agg #[.int .i64 at_, t], .int .i64 k] W (RetW W A R L e2)) ∧ (∀ (W : World) (u t : Value), SlK e3 3 W u es → SlK iz 1 W t us → Calls Tryz.prog 14 #[.agg #[.int .i64 n, u], .agg #[.int .i64 at_, t], .int .i64 k] W (RetW W A R L e2)) := by
  obtain ⟨e, h1, h2, h3⟩ := check_all n es at_ us hl
  by_cases he : e = 0
  · by_cases hk : k < 0 ∨ 4096 < k
    · exact ⟨0, [], [], e, 2, h1, h2, fun W u t hu ht => EWalk_bad W n u es at_ t us k e 2 hu ht h1 (.inr ⟨he, hk, rfl⟩), fun W u t hu ht => rWalk_bad W n u es at_ t us k e 2 hu ht h2 (.inr ⟨he, hk, rfl⟩)⟩
    · obtain ⟨m, ns, a, rfl, rfl, rfl, hR, hE, hG⟩ := h3.1 he
      rw [List.length_map] at hl
      obtain ⟨kn, rfl⟩ : ∃ kn : Nat, k = (kn : Int) := ⟨k.toNat, by omega⟩
      refine ⟨((Rot.run (sgl ns) (rot us) a kn).1 : Nat), natI (rotK (sgl ns) us m (Rot.run (sgl ns) (rot us) a kn).2), (Rot.run (sgl ns) (rot us) a kn).2, e, 0, h1, h2, fun W u t hu ht => (EWalk_ok W m u ns a t us kn hR hu (by omega) ht hE hG (by omega)).mono ?_, fun W u t hu ht => (rWalk_ok W m u ns a t us kn hR hu (by omega) ht hE hG (by omega)).mono ?_⟩
      all_goals
        rintro x w' ⟨v, hx, q, cap, way, rfl, hq, hw, hb⟩
        refine ⟨_, hx, _, _, rfl, ?_, ?_, hb⟩
        · rw [ints_natI] at hq
          exact SlK.ofOwns iz_len hq (by simp [natI, rotK])
        · rw [ints_flat] at hw
          exact SlK.ofOwns i1_len hw rfl
  · exact ⟨0, [], [], e, e, h1, h2, fun W u t hu ht => EWalk_bad W n u es at_ t us k e e hu ht h1 (.inl ⟨he, rfl⟩), fun W u t hu ht => rWalk_bad W n u es at_ t us k e e hu ht h2 (.inl ⟨he, rfl⟩)⟩
end Go.Proofs.YtlnhocgjgmhfgaaGreatDoor
