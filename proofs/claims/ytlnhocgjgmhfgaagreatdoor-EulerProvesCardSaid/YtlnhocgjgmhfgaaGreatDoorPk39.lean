/- The walk of the reference's Out. Plain: cycles, counted by their least vertices. The walk of the reference's Cycles. Plain: Euler's theorem on trails in digraphs. Plain: euler's Tour never gets stuck on an Eulerian digraph; what it finds is a tour. -/
import Derived.Test.YtlnhocgjgmhfgaaGreatDoorPk9
import Derived.Test.YtlnhocgjgmhfgaaGreatDoorPk11
import Derived.Test.YtlnhocgjgmhfgaaGreatDoorPk13
import Derived.BigQuiet
import Derived.Test.YtlnhocgjgmhfgaaGreatDoorPk14
import Derived.Test.YtlnhocgjgmhfgaaGreatDoorPk35
import Derived.Test.YtlnhocgjgmhfgaaGreatDoorPk36
namespace Go.Proofs.YtlnhocgjgmhfgaaGreatDoor
open Go.RowKit
set_option maxRecDepth 100000

theorem dal_size (w : World) (o : Obj) : (w.drew.alloc o).heap.size = w.heap.size + 1 := by rw [World.size_alloc]; rfl
/-- SlK.open, with the block. -/
theorem SlK.open2 {α : Type} {enc : α → List Value} {k : Nat} {w : World} {v : Value} {xs : List α} {P : Program} {t e : TypeId} {z : Value} {bytes : Nat} (hE : ElemOk P t e z k bytes) (h : SlK enc k w v xs) (h0 : 0 < xs.length) :
    ∃ (b o c : Nat), v = .slice (some ⟨b, o, none⟩) xs.length c ∧
      (∀ (m : Nat) (i : Int) (W : World), (Instr.indexAt t (.slice (some ⟨b, o, none⟩) m c) (.int .i64 i)).run P W = if 0 ≤ i ∧ i < m ∧ m ≤ xs.length then .ok (.pointer (some ⟨b, o + i.toNat * k, none⟩)) W else oob P t (.slice (some ⟨b, o, none⟩) m c) i W) ∧
      CellsK enc k w b o xs := by
  obtain ⟨a, b, o, c, rfl, ha, hc, hm, hn, hx⟩ := h
  obtain rfl := ha h0
  exact ⟨b, o, c, rfl, idxK t (by rw [hE.elem]; exact hE.und) (by rw [hE.elem]; exact hE.sz) (fun _ => rfl), hx⟩
set_option maxHeartbeats 4000000 in
theorem rOut_any (w : World) (n : Nat) (v : Value) (ns : List (Nat × Nat × Nat)) (hR : RD n ns) (hv : SlK e3 3 w v (ns.map n3)) (hl : ns.length ≤ 1000) :
    Calls Tryz.prog 45 #[.agg #[.int .i64 (n : Nat), v]] w (Rets fun r w' => ∃ vs L C, r = .slice (some ⟨L, 0, none⟩) n n ∧ Rws w' L C vs (outs n (sgl ns)) ∧ w.heap.size ≤ L ∧ Below w.heap.size w w') := by
  obtain ⟨ad, c, rfl⟩ := hv.form
  have hnl : (ns.map n3).length = ns.length := List.length_map _
  rw [hnl] at hv ⊢
  have n12 := hR.le
  have n1 := hR.pos
  have HM := Lib.hid (show ∀ x ∈ ns, x.2.2 ≤ 50 from fun x hx => (hR.rng x hx).2.2.2)
  have hsl := sgl_le ns HM.out ns.length
  rw [List.take_length] at hsl
  have HSR := Lib.hid (show ∀ x ∈ sgl ns, x.1 < n ∧ x.2 < n from sgl_rng hR)
  have HV := Lib.hid hv; have HNL := Lib.hid hnl
  have HQ := Lib.hid ((Below.refl w.heap.size w).alloc (Nat.le_refl _) (.cells #[.int .i64 (n : Nat), .slice ad ns.length c] 28))
  have HG := Lib.hid (Blk.new w [.int .i64 (n : Nat), .slice ad ns.length c] 28)
  obtain ⟨W, hW⟩ : ∃ W, w.alloc (.cells #[.int .i64 (n : Nat), .slice ad ns.length c] 28) = W := ⟨_, rfl⟩
  have hWs : W.heap.size = w.heap.size + 1 := by rw [← hW]; simp
  rw [show [Value.int .i64 (n : Nat), .slice ad ns.length c].toArray = #[Value.int .i64 (n : Nat), .slice ad ns.length c] from rfl, hW] at HG
  rw [hW] at HQ
  have HW := Lib.hid hW; have HWS := Lib.hid hWs
  clear hW hv hnl hR hWs
  go_enter Tryz.func45, Tryz.ntmps45
  go_wp2_with (first
    | (at_make; rw [HW.out]; refine mkN elemII rfl _ _ rfl n rfl rfl rfl rfl (by omega) (by unfold maxLen; omega) (Below.refl _ _) (Nat.le_refl _) rfl ?_; intro w1 hown hb hb2; clear hb2; have HO1 := Lib.hid (blk_of_own hown); have HB1 := Lib.hid hb; clear hown hb; have HG1 := Lib.hid (HG.out.below HB1.out (Nat.le_refl _)); have g0 := HG1.out.cell 0 _ rfl; have g1 := HG1.out.cell 1 _ rfl; have hlg := HG1.out.lt)
    | (go_at_call 28; (with_reducible refine (rSingles_any _ n _ ns (HV.out.below (HQ.out.trans (HB1.out.mono HQ.out.size)) (Nat.le_refl _)) HM.out (by omega)).mono ?_); rintro e w2 ⟨v, rfl, hO, hb⟩; obtain ⟨ea, ec, rfl⟩ := own_formK hO; have HE := Lib.hid hO; have HB2 := Lib.hid hb; clear hO hb g0 g1 hlg))
  obtain ⟨SS, hSS⟩ : ∃ SS, sgl ns = SS := ⟨_, rfl⟩
  rw [hSS] at HE hsl HSR ⊢
  have HSS := Lib.hid hSS
  have HO2 := Lib.hid (HO1.out.below HB2.out (Nat.le_refl _))
  have R0 := Lib.hid (Rws.new HO2.out (show W.heap.size < w2.heap.size from HO2.out.lt))
  rw [← outsAt_zero n SS] at R0
  have HBW := Lib.hid (HB1.out.trans (HB2.out.mono HB1.out.size))
  have HE0 := Lib.hid HE.out
  have HW1 := Lib.hid HO1.out.lt
  have HS2 := Lib.hid HB2.out.size
  clear hSS
  go_loopw [5] (fun i wr => ∃ (k : Nat) (vs : List Value), k ≤ SS.length ∧ i = .int .i64 k ∧ Hid (Rws wr W.heap.size w2.heap.size vs (outsAt n SS k)) ∧ Hid (wr.ownsRow w1.heap.size 60 2 (.slice ea SS.length ec) SS.length (SS.flatMap p2)) ∧ Hid (Below W.heap.size W wr) ∧ Hid (w2.heap.size ≤ wr.heap.size)) (fun i _ => SS.length - (intOf i).toNat)
  case atStart => exact ⟨0, _, Nat.zero_le _, rfl, R0, HE0, HBW, Lib.hid (Nat.le_refl _)⟩
  case round =>
    clear R0 HE0 HBW
    obtain ⟨k, vs, hk, rfl, hR, hE, hB, hZ⟩ := hrel
    by_cases hkn : k < SS.length
    · have hES := SlK.ofOwns p2_len hE.out rfl
      obtain ⟨b, o, ec', hform, hi, hp⟩ := hES.open2 elemEnds (by omega)
      simp only [Value.slice.injEq, true_and] at hform
      obtain ⟨rfl, rfl⟩ := hform
      obtain ⟨⟨p, q⟩, hx⟩ : ∃ x, SS[k] = x := ⟨_, rfl⟩
      have hrg := HSR.out _ (List.getElem_mem hkn)
      rw [hx] at hrg
      have a0 : wr.cell? ⟨b, o + k * 2, none⟩ = some (.int .i64 (p : Nat)) := hp.2 k hkn 0 _ (by rw [hx]; rfl)
      have hlb := hp.1 (by omega)
      have hbw2 : b < w2.heap.size := (HE.out.lt b rfl).2
      have hbw1 : w1.heap.size ≤ b := (HE.out.lt b rfl).1
      have hrl := hR.out.len
      rw [outsAt_len] at hrl
      have hpv : p < vs.length := by rw [hrl]; exact hrg.1
      have hpo : p < (outsAt n SS k).length := by rw [outsAt_len]; exact hrg.1
      have hpn : p < n := hrg.1
      have HT := Lib.hid (outsAt_succ n SS k p hkn hrg.1 (by rw [hx]) hpo)
      have hown := hR.out.own p hpv hpo
      obtain ⟨T, hT⟩ : ∃ T, (outsAt n SS k)[p] = T := ⟨_, rfl⟩
      rw [hT] at HT hown
      have hTl : T.length ≤ SS.length := by
        rw [← hT]; simp only [outsAt, List.getElem_map, List.getElem_range]
        exact Nat.le_trans (List.length_filter_le _ _) (by simp; omega)
      obtain ⟨ua, uc, hu⟩ := own_formK hown
      have hvp : vs[p]? = some (.slice ua T.length uc) := by rw [← hu]; simp [hpv]
      have c1 := hR.out.blk.cell p _ hvp
      have f1 := hR.out.blk.free p
      rw [hu] at hown
      have HOW := Lib.hid hown
      have HU := Lib.hid hu
      have hll := hR.out.blk.lt
      have HE1 := Lib.hid hE.out
      clear hT hx hE hown hu hvp
      have hhm := fun (w' : World) (h1 : w'.heap[b]? = wr.heap[b]?) (h2 : w'.heap[W.heap.size]? = wr.heap[W.heap.size]?) => (⟨(World.cell?_of_block (a := ⟨b, o + k * 2, none⟩) h1).trans a0, (World.cell?_of_block (a := ⟨W.heap.size, p, none⟩) h2).trans c1⟩ : w'.cell? ⟨b, o + k * 2, none⟩ = some (.int .i64 (p : Nat)) ∧ w'.cell? ⟨W.heap.size, p, none⟩ = some (.slice ua T.length uc))
      have HH0 := Lib.hid (hhm wr.drew rfl rfl)
      have HH1 := Lib.hid (hhm (wr.drew.alloc (.cells #[.int .i64 k] 3)) (Below.heap_alloc wr.drew _ _ hlb) (Below.heap_alloc wr.drew _ _ hll))
      have HHM := Lib.hid hhm
      have HOA := Lib.hid (show wr.drew.ownsRow w2.heap.size 3 1 (.slice ua T.length uc) T.length (ints T) from HOW.out)
      clear hhm
      have q1 : (0 : Int) ≤ (p : Int) := by omega
      have q2 : (p : Int) < (n : Int) := by omega
      have q4 : (0 : Int) ≤ (k : Int) := by omega
      have q5 : (k : Int) < (SS.length : Int) := by omega
      have h63 : (T.length + 1) * 8 ≤ 140737488355328 := by omega
      have h64 : T.length + 1 ≤ maxLen := by unfold maxLen; omega
      have HBS := Lib.hid (show w2.heap.size ≤ wr.drew.heap.size from hZ.out)
      have HXS := Lib.hid (show wr.drew.heap.size = wr.heap.size from rfl)
      have HBK := Lib.hid (fun (w' : World) (r : Option Nat) (hr : ∀ g, r = some g → w2.heap.size ≤ g ∧ g < wr.heap.size) (hg : (wr.drew.alloc (.cells (i1 k).toArray 3)).grownBy w' r) => by
        have e1 := hg.block b (by rw [dal_size]; omega) (fun e => by have := hr _ e.symm; omega)
        have e2 := hg.block W.heap.size (by rw [dal_size]; omega) (fun e => by have := hr _ e.symm; have := HW1.out; have := HS2.out; omega)
        have e3 : w'.heap[b]? = wr.heap[b]? := e1.trans (Below.heap_alloc wr.drew _ _ hlb)
        have e4 : w'.heap[W.heap.size]? = wr.heap[W.heap.size]? := e2.trans (Below.heap_alloc wr.drew _ _ hll)
        exact (⟨e3, e4, (World.frozen?_of_block (a := ⟨W.heap.size, p, none⟩) e4).trans f1⟩ : w'.heap[b]? = wr.heap[b]? ∧ w'.heap[W.heap.size]? = wr.heap[W.heap.size]? ∧ w'.frozen? ⟨W.heap.size, p, none⟩ = false))
      have HLT := Lib.hid (fun g (e : (Value.slice ua T.length uc).ownBlock = some g) => HOW.out.lt g e)
      go_wp2_with fail
      refine wp_regionJ (S := fun w' => w'.cell? ⟨b, o + k * 2, none⟩ = some (.int .i64 (p : Nat)) ∧ w'.cell? ⟨W.heap.size, p, none⟩ = some (.slice ua T.length uc)) (A := fun i => decide (i < 18)) (by kernel_rfl) ?_
      refine wpAnyJ_take (i := 0) (oi := { dst := some 17, op := .move (.tmp 3), type := _, pos := _, after := _, guard := _ }) (v := ?_) rfl (by kernel_rfl) (by kernel_rfl) (by kernel_rfl) (early_sat (by kernel_rfl)) (fun _ _ _ h => h) (Or.inl ⟨by rfl, ?_⟩) HH0.out ?_
      rotate_left
      · intro wl hSw
        obtain ⟨s0, s1⟩ := hSw
        go_simp
        with_reducible rfl
      simp only [Act.put, List.setIfInBounds_toArray, List.set_cons_zero, List.set_cons_succ]
      refine wpAnyJ_take (i := 1) (oi := { dst := some 18, op := .move (.tmp 4), type := _, pos := _, after := _, guard := _ }) (v := ?_) rfl (by kernel_rfl) (by kernel_rfl) (by kernel_rfl) (early_sat (by kernel_rfl)) (fun _ _ _ h => h) (Or.inl ⟨by rfl, ?_⟩) HH0.out ?_
      rotate_left
      · intro wl hSw
        obtain ⟨s0, s1⟩ := hSw
        go_simp
        with_reducible rfl
      simp only [Act.put, List.setIfInBounds_toArray, List.set_cons_zero, List.set_cons_succ]
      refine wpAnyJ_take (i := 2) (oi := { dst := some 19, op := .move (.tmp 5), type := _, pos := _, after := _, guard := _ }) (v := ?_) rfl (by kernel_rfl) (by kernel_rfl) (by kernel_rfl) (early_sat (by kernel_rfl)) (fun _ _ _ h => h) (Or.inl ⟨by rfl, ?_⟩) HH0.out ?_
      rotate_left
      · intro wl hSw
        obtain ⟨s0, s1⟩ := hSw
        go_simp
        with_reducible rfl
      simp only [Act.put, List.setIfInBounds_toArray, List.set_cons_zero, List.set_cons_succ]
      refine wpAnyJ_take (i := 3) (oi := { dst := some 20, op := .indexAddr _ (.tmp 18) (.tmp 19), type := _, pos := _, after := _, guard := _ }) (v := ?_) rfl (by kernel_rfl) (by kernel_rfl) (by kernel_rfl) (early_sat (by kernel_rfl)) (fun _ _ _ h => h) (Or.inl ⟨by rfl, ?_⟩) HH0.out ?_
      rotate_left
      · intro wl hSw
        obtain ⟨s0, s1⟩ := hSw
        go_simp
        with_reducible rfl
      simp only [Act.put, List.setIfInBounds_toArray, List.set_cons_zero, List.set_cons_succ]
      refine wpAnyJ_take (i := 4) (oi := { dst := some 21, op := .indexAddr _ (.tmp 20) _, type := _, pos := _, after := _, guard := _ }) (v := ?_) rfl (by kernel_rfl) (by kernel_rfl) (by kernel_rfl) (early_sat (by kernel_rfl)) (fun _ _ _ h => h) (Or.inl ⟨by rfl, ?_⟩) HH0.out ?_
      rotate_left
      · intro wl hSw
        obtain ⟨s0, s1⟩ := hSw
        go_simp
        with_reducible rfl
      simp only [Act.put, List.setIfInBounds_toArray, List.set_cons_zero, List.set_cons_succ]
      refine wpAnyJ_take (i := 5) (oi := { dst := some 22, op := .load _ (.tmp 21), type := _, pos := _, after := _, guard := _ }) (v := ?_) rfl (by kernel_rfl) (by kernel_rfl) (by kernel_rfl) (early_sat (by kernel_rfl)) (fun _ _ _ h => h) (Or.inl ⟨by rfl, ?_⟩) HH0.out ?_
      rotate_left
      · intro wl hSw
        obtain ⟨s0, s1⟩ := hSw
        go_simp
        with_reducible rfl
      simp only [Act.put, List.setIfInBounds_toArray, List.set_cons_zero, List.set_cons_succ]
      refine wpAnyJ_take (i := 6) (oi := { dst := some 23, op := .move (.tmp 3), type := _, pos := _, after := _, guard := _ }) (v := ?_) rfl (by kernel_rfl) (by kernel_rfl) (by kernel_rfl) (early_sat (by kernel_rfl)) (fun _ _ _ h => h) (Or.inl ⟨by rfl, ?_⟩) HH0.out ?_
      rotate_left
      · intro wl hSw
        obtain ⟨s0, s1⟩ := hSw
        go_simp
        with_reducible rfl
      simp only [Act.put, List.setIfInBounds_toArray, List.set_cons_zero, List.set_cons_succ]
      refine wpAnyJ_take (i := 7) (oi := { dst := some 24, op := .move (.tmp 4), type := _, pos := _, after := _, guard := _ }) (v := ?_) rfl (by kernel_rfl) (by kernel_rfl) (by kernel_rfl) (early_sat (by kernel_rfl)) (fun _ _ _ h => h) (Or.inl ⟨by rfl, ?_⟩) HH0.out ?_
      rotate_left
      · intro wl hSw
        obtain ⟨s0, s1⟩ := hSw
        go_simp
        with_reducible rfl
      simp only [Act.put, List.setIfInBounds_toArray, List.set_cons_zero, List.set_cons_succ]
      refine wpAnyJ_take (i := 8) (oi := { dst := some 25, op := .move (.tmp 5), type := _, pos := _, after := _, guard := _ }) (v := ?_) rfl (by kernel_rfl) (by kernel_rfl) (by kernel_rfl) (early_sat (by kernel_rfl)) (fun _ _ _ h => h) (Or.inl ⟨by rfl, ?_⟩) HH0.out ?_
      rotate_left
      · intro wl hSw
        obtain ⟨s0, s1⟩ := hSw
        go_simp
        with_reducible rfl
      simp only [Act.put, List.setIfInBounds_toArray, List.set_cons_zero, List.set_cons_succ]
      refine wpAnyJ_take (i := 9) (oi := { dst := some 26, op := .indexAddr _ (.tmp 24) (.tmp 25), type := _, pos := _, after := _, guard := _ }) (v := ?_) rfl (by kernel_rfl) (by kernel_rfl) (by kernel_rfl) (early_sat (by kernel_rfl)) (fun _ _ _ h => h) (Or.inl ⟨by rfl, ?_⟩) HH0.out ?_
      rotate_left
      · intro wl hSw
        obtain ⟨s0, s1⟩ := hSw
        go_simp
        with_reducible rfl
      simp only [Act.put, List.setIfInBounds_toArray, List.set_cons_zero, List.set_cons_succ]
      refine wpAnyJ_take (i := 10) (oi := { dst := some 27, op := .indexAddr _ (.tmp 26) _, type := _, pos := _, after := _, guard := _ }) (v := ?_) rfl (by kernel_rfl) (by kernel_rfl) (by kernel_rfl) (early_sat (by kernel_rfl)) (fun _ _ _ h => h) (Or.inl ⟨by rfl, ?_⟩) HH0.out ?_
      rotate_left
      · intro wl hSw
        obtain ⟨s0, s1⟩ := hSw
        go_simp
        with_reducible rfl
      simp only [Act.put, List.setIfInBounds_toArray, List.set_cons_zero, List.set_cons_succ]
      refine wpAnyJ_take (i := 11) (oi := { dst := some 28, op := .load _ (.tmp 27), type := _, pos := _, after := _, guard := _ }) (v := ?_) rfl (by kernel_rfl) (by kernel_rfl) (by kernel_rfl) (early_sat (by kernel_rfl)) (fun _ _ _ h => h) (Or.inl ⟨by rfl, ?_⟩) HH0.out ?_
      rotate_left
      · intro wl hSw
        obtain ⟨s0, s1⟩ := hSw
        go_simp
        with_reducible rfl
      simp only [Act.put, List.setIfInBounds_toArray, List.set_cons_zero, List.set_cons_succ]
      refine wpAnyJ_take (i := 12) (oi := { dst := some 29, op := .indexAddr _ (.tmp 23) (.tmp 28), type := _, pos := _, after := _, guard := _ }) (v := ?_) rfl (by kernel_rfl) (by kernel_rfl) (by kernel_rfl) (early_sat (by kernel_rfl)) (fun _ _ _ h => h) (Or.inl ⟨by rfl, ?_⟩) HH0.out ?_
      rotate_left
      · intro wl hSw
        obtain ⟨s0, s1⟩ := hSw
        go_simp
        with_reducible rfl
      simp only [Act.put, List.setIfInBounds_toArray, List.set_cons_zero, List.set_cons_succ]
      refine wpAnyJ_take (i := 13) (oi := { dst := some 30, op := .load _ (.tmp 29), type := _, pos := _, after := _, guard := _ }) (v := ?_) rfl (by kernel_rfl) (by kernel_rfl) (by kernel_rfl) (early_sat (by kernel_rfl)) (fun _ _ _ h => h) (Or.inl ⟨by rfl, ?_⟩) HH0.out ?_
      rotate_left
      · intro wl hSw
        obtain ⟨s0, s1⟩ := hSw
        go_simp
        with_reducible rfl
      simp only [Act.put, List.setIfInBounds_toArray, List.set_cons_zero, List.set_cons_succ]
      refine wpAnyJ_take (i := 14) (oi := { dst := some 31, op := .move (.tmp 5), type := _, pos := _, after := _, guard := _ }) (v := ?_) rfl (by kernel_rfl) (by kernel_rfl) (by kernel_rfl) (early_sat (by kernel_rfl)) (fun _ _ _ h => h) (Or.inl ⟨by rfl, ?_⟩) HH0.out ?_
      rotate_left
      · intro wl hSw
        obtain ⟨s0, s1⟩ := hSw
        go_simp
        with_reducible rfl
      simp only [Act.put, List.setIfInBounds_toArray, List.set_cons_zero, List.set_cons_succ]
      refine wpAnyJ_only (i := 15) (o := { dst := some 32, op := _, type := _, pos := _, after := _, guard := _ }) (by kernel_rfl) rfl (fun K hK => ?_)
      go_simp
      refine hK.out _ _ (fun _ => HH1.out) ?_
      try simp only [Act.put, List.setIfInBounds_toArray, List.set_cons_zero, List.set_cons_succ]
      clear hK K
      refine wpAnyJ_only (i := 16) (o := { dst := some 33, op := _, type := _, pos := _, after := _, guard := _ }) (by kernel_rfl) rfl (fun K hK => ?_)
      refine appMG_step (w0 := wr.drew) (m := 1) (news := i1 k) (base := w2.heap.size) elemI rfl (.tmp 30) (.tmp 32) rfl (by rfl) (by rw [HXS.out]; rfl) HOA.out HBS.out rfl (by intro u hu; simp [i1] at hu; subst hu; rfl) h63 h64 ?_
      intro v' w5 hown' hg' hat'
      obtain ⟨va, vc, rfl⟩ := own_formK hown'
      have HN5 := Lib.hid hown'; have HG5 := Lib.hid hg'; have HA5 := Lib.hid hat'
      clear hown' hg' hat'
      have hb5 := HBK.out w5 _ HLT.out HG5.out
      have hh5 := HHM.out w5 hb5.1 hb5.2.1
      have fz5 := hb5.2.2
      clear hb5
      refine hK.out _ _ (fun _ => hh5) ?_
      try simp only [Act.put, List.setIfInBounds_toArray, List.set_cons_zero, List.set_cons_succ]
      clear hK K
      refine wpAnyJ_only (i := 17) (o := { dst := some 34, op := .indexAddr _ (.tmp 17) (.tmp 22), type := _, pos := _, after := _, guard := _ }) (by kernel_rfl) rfl (fun K hK => ?_)
      go_simp
      refine hK.out _ _ (fun _ => hh5) ?_
      try simp only [Act.put, List.setIfInBounds_toArray, List.set_cons_zero, List.set_cons_succ]
      clear hK K
      refine wpAnyJ_only (i := 18) (o := { dst := none, op := .store _ (.tmp 34) (.tmp 33), type := _, pos := _, after := _, guard := _ }) (by kernel_rfl) rfl (fun K hK => ?_)
      go_simp
      refine hK.out _ _ (fun h => absurd h (by decide)) ?_
      try simp only [Act.put, List.setIfInBounds_toArray, List.set_cons_zero, List.set_cons_succ]
      clear hK K
      refine wpAnyJ_done (by kernel_rfl) ?_ _
      go_wp2
      clear hh5 fz5
      go_roundw
      case rel =>
        have ho5 : w5.ownsRow w2.heap.size 3 1 (.slice va (T.length + 1) vc) (T ++ [k]).length (ints (T ++ [k])) := by
          have e1 : (T ++ [k]).length = T.length + 1 := by simp
          have e2 : ints (T ++ [k]) = ints T ++ i1 k := by simp [ints, i1]
          rw [e1, e2]; exact HN5.out
        have hR2 : Rws (wr.drew.alloc (.cells (i1 k).toArray 3)) W.heap.size w2.heap.size vs (outsAt n SS k) := hR.out.drew.alloc (.cells (i1 k).toArray 3)
        have hg5 := HG5.out
        have ha5 := HA5.out
        rw [← HU.out] at hg5 ha5
        refine ⟨k + 1, vs.set p (.slice va (T.length + 1) vc), by omega, by go_num, Lib.hid (by rw [HT.out]; exact hR2.step hpv hg5 ho5 ha5 (by rw [dal_size]; exact Nat.le_refl _)), ?_, ?_, ?_⟩
        · have h0 : (wr.drew.alloc (.cells (i1 k).toArray 3)).ownsRow w1.heap.size 60 2 (.slice (some ⟨b, o, none⟩) SS.length ec) SS.length (SS.flatMap p2) := World.ownsRow.alloc (w := wr.drew) HE1.out _
          exact Lib.hid (own_otherK (own_keepG h0 HG5.out (fun g e e2 => by have h1 := HE.out.lt g e; have h2 := HLT.out g e2; omega)) (fun e => by have h1 := HE.out.lt _ e; have h2 := HW1.out; omega))
        · have hd : Below W.heap.size W wr.drew := hB.out.drew
          exact Lib.hid (((hd.alloc hd.size _).grown HG5.out (Nat.le_trans hB.out.size (by rw [dal_size]; omega)) (fun g e => by have h2 := HLT.out g e; have := HW1.out; have := HS2.out; omega)).setCell (p := ⟨W.heap.size, p, none⟩) (Nat.le_refl _) _)
        · exact Lib.hid (Nat.le_trans hZ.out (Nat.le_trans (show wr.heap.size ≤ w5.heap.size from Nat.le_trans (by rw [dal_size]; omega) HG5.out.size) (by simp)))
      case measure => simp [intOf]; omega
    · obtain rfl : k = SS.length := by omega
      have HRr := Lib.hid hR.out
      have hbo := hB.out
      have HBo := Lib.hid (HQ.out.trans (hbo.mono HQ.out.size))
      clear hR hB hbo hE
      go_wp2
      go_ret
      exact ⟨_, rfl, vs, W.heap.size, w2.heap.size, rfl, by rw [HSS.out]; exact HRr.out, HQ.out.size, HBo.out⟩
end Go.Proofs.YtlnhocgjgmhfgaaGreatDoor

namespace Go.Proofs.YtlnhocgjgmhfgaaGreatDoor

/-- v lies on a cycle. -/
def OnC (p : List Nat) (n v : Nat) : Prop := ∃ d, 1 ≤ d ∧ d ≤ n ∧ it p d v = v
/-- v is the least vertex of its cycle. -/
def LeastC (p : List Nat) (n v : Nat) : Prop := OnC p n v ∧ ∀ j, v ≤ it p j v
theorem onC_of {p : List Nat} {n : Nat} (hp : ∀ v, v < n → p.getD v 0 < n) {v d : Nat} (hv : v < n) (hd : 1 ≤ d) (h : it p d v = v) : OnC p n v := by
  obtain ⟨i, j, hij, hj, he⟩ := pigeon n (fun k => it p k v) (fun k _ => it_lt hp k v hv)
  obtain ⟨m, hm⟩ := it_back hd h i
  refine ⟨j - i, by omega, by omega, ?_⟩
  have h1 : it p (j - i) (it p m (it p i v)) = it p m (it p j v) := by
    rw [← it_add, ← it_add, ← it_add]; congr 1; omega
  rw [hm, ← he, hm] at h1
  exact h1
theorem least_all {p : List Nat} {v d : Nat} (hd : 1 ≤ d) (h : it p d v = v) (hl : ∀ j, j ≤ d → v ≤ it p j v) : ∀ j, v ≤ it p j v := fun j => by
  rw [← it_mod h j]
  exact hl _ (Nat.le_of_lt (Nat.mod_lt _ hd))
theorem least_ex {p : List Nat} {n : Nat} (hp : ∀ v, v < n → p.getD v 0 < n) {c : Nat} (hc : c < n) (h : OnC p n c) : ∃ m, LeastC p n m ∧ m < n ∧ ∃ j, m = it p j c := by
  have key : ∀ k, (∃ j, it p j c ≤ k) → ∃ m, (∃ j, m = it p j c) ∧ ∀ j, m ≤ it p j c := by
    intro k
    induction k with
    | zero =>
      rintro ⟨j, hj⟩
      exact ⟨it p j c, ⟨j, rfl⟩, fun i => by omega⟩
    | succ k ih =>
      rintro ⟨j, hj⟩
      by_cases hx : ∃ i, it p i c ≤ k
      · exact ih hx
      · refine ⟨it p j c, ⟨j, rfl⟩, fun i => ?_⟩
        have : ¬ it p i c ≤ k := fun h => hx ⟨i, h⟩
        omega
  obtain ⟨m, ⟨j, rfl⟩, hl⟩ := key (it p 0 c) ⟨0, Nat.le_refl _⟩
  obtain ⟨d, hd, hdn, hcy⟩ := h
  refine ⟨it p j c, ⟨⟨d, hd, hdn, ?_⟩, fun i => ?_⟩, it_lt hp j c hc, j, rfl⟩
  · rw [← it_add, Nat.add_comm, it_add, hcy]
  · rw [← it_add]; exact hl _
theorem cyc_iff {p : List Nat} {n a : Nat} (hp : ∀ v, v < n → p.getD v 0 < n) (ha : a < n) {ks : List Nat} (hk : ks.Nodup) (hm : ∀ v, v ∈ ks ↔ v < n ∧ LeastC p n v) :
    (ks.length = 1 ∧ OnC p n a) ↔ ∀ v, v < n → ∃ i, it p i v = a := by
  constructor
  · rintro ⟨h1, hon⟩ v hv
    obtain ⟨d, hd, hdn, hper⟩ := periodic hp v hv
    obtain ⟨m, hml, hmn, j, hj⟩ := least_ex hp (it_lt hp n v hv) ⟨d, hd, hdn, hper⟩
    obtain ⟨m', hml', hmn', j', hj'⟩ := least_ex hp ha hon
    have e : m = m' := by
      match ks, h1 with
      | [x], _ =>
        have a1 := (hm m).2 ⟨hmn, hml⟩
        have a2 := (hm m').2 ⟨hmn', hml'⟩
        rw [List.mem_singleton] at a1 a2
        rw [a1, a2]
    obtain ⟨d', hd', -, hper'⟩ := hon
    obtain ⟨e', he'⟩ := it_back hd' hper' j'
    refine ⟨e' + (j + n), ?_⟩
    rw [it_add, it_add, ← hj, e, hj', he']
  · intro h
    have hon : OnC p n a := by
      obtain ⟨i, hi⟩ := h (p.getD a 0) (hp a ha)
      exact onC_of hp ha (d := i + 1) (by omega) (by rw [it_succ']; exact hi)
    refine ⟨?_, hon⟩
    obtain ⟨m, hml, hmn, j, hj⟩ := least_ex hp ha hon
    have huniq : ∀ u, u ∈ ks → u = m := fun u hu => by
      obtain ⟨hun, ⟨d, hd, -, hper⟩, hul⟩ := (hm u).1 hu
      obtain ⟨i, hi⟩ := h u hun
      obtain ⟨e, he⟩ := it_back hd hper i
      rw [hi] at he
      obtain ⟨d', hd', -, hper'⟩ := hon
      obtain ⟨e', he'⟩ := it_back hd' hper' j
      rw [← hj] at he'
      have h1 : u ≤ m := by
        have := hul (j + i)
        rw [it_add, hi, ← hj] at this
        exact this
      have h2 : m ≤ u := by
        have := hml.2 (e + e')
        rw [it_add, he', he] at this
        exact this
      omega
    have hmem : m ∈ ks := (hm m).2 ⟨hmn, hml⟩
    match ks, hk, hmem, huniq with
    | [x], _, _, _ => rfl
    | x :: y :: l, hk, _, hu =>
      have e1 := hu x (by simp)
      have e2 := hu y (by simp)
      have := (List.nodup_cons.1 hk).1
      rw [e1, e2] at this
      simp at this
end Go.Proofs.YtlnhocgjgmhfgaaGreatDoor

namespace Go.Proofs.YtlnhocgjgmhfgaaGreatDoor
open Go.RowKit
set_option maxRecDepth 100000

theorem min_step {p : List Nat} {k i L z : Nat} (h : (∀ j, j ≤ i → L ≤ it p j k) ∧ ∃ j, j ≤ i ∧ L = it p j k) (hz : z = it p (i + 1) k) : (∀ j, j ≤ i + 1 → min L z ≤ it p j k) ∧ ∃ j, j ≤ i + 1 ∧ min L z = it p j k := by
  obtain ⟨h1, j0, h2, h3⟩ := h
  refine ⟨fun j hj => ?_, ?_⟩
  · rcases Nat.lt_or_ge j (i + 1) with h | h
    · have := h1 j (by omega)
      exact Nat.le_trans (Nat.min_le_left _ _) this
    · obtain rfl : j = i + 1 := by omega
      rw [hz]; exact Nat.min_le_right _ _
  · rcases Nat.le_total L z with h | h
    · exact ⟨j0, by omega, by rw [Nat.min_eq_left h]; exact h3⟩
    · exact ⟨i + 1, by omega, by rw [Nat.min_eq_right h]; exact hz⟩
theorem least_iff {p : List Nat} {n k i L : Nat} (hi : i + 1 ≤ n) (h : (∀ j, j ≤ i + 1 → L ≤ it p j k) ∧ ∃ j, j ≤ i + 1 ∧ L = it p j k) (hc : it p (i + 1) k = k) : L = k ↔ LeastC p n k := by
  constructor
  · rintro rfl
    exact ⟨⟨i + 1, by omega, hi, hc⟩, least_all (d := i + 1) (by omega) hc h.1⟩
  · rintro ⟨-, hl⟩
    obtain ⟨h1, j, -, h3⟩ := h
    have a := h1 0 (by omega)
    have b := hl j
    rw [← h3] at b
    have a2 : L ≤ k := a
    omega

theorem fm_no {P : Nat → Prop} {ks : List Nat} {k : Nat} (h : ks.Nodup ∧ ∀ v, v ∈ ks ↔ v < k ∧ P v) (hn : ¬ P k) : ks.Nodup ∧ ∀ v, v ∈ ks ↔ v < k + 1 ∧ P v := by
  refine ⟨h.1, fun v => ?_⟩
  rw [h.2]
  constructor
  · rintro ⟨h1, h2⟩; exact ⟨by omega, h2⟩
  · rintro ⟨h1, h2⟩
    refine ⟨?_, h2⟩
    rcases Nat.lt_or_ge v k with h3 | h3
    · exact h3
    · obtain rfl : v = k := by omega
      exact absurd h2 hn
theorem fm_yes {P : Nat → Prop} {ks : List Nat} {k : Nat} (h : ks.Nodup ∧ ∀ v, v ∈ ks ↔ v < k ∧ P v) (hp : P k) : (ks ++ [k]).Nodup ∧ ∀ v, v ∈ ks ++ [k] ↔ v < k + 1 ∧ P v := by
  refine ⟨List.nodup_append.2 ⟨h.1, by simp, fun a ha b hb => by
    have h1 := ((h.2 a).1 ha).1
    simp at hb; omega⟩, fun v => ?_⟩
  rw [List.mem_append, List.mem_singleton, h.2]
  constructor
  · rintro (⟨h1, h2⟩ | rfl)
    · exact ⟨by omega, h2⟩
    · exact ⟨by omega, hp⟩
  · rintro ⟨h1, h2⟩
    rcases Nat.lt_or_ge v k with h3 | h3
    · exact .inl ⟨h3, h2⟩
    · exact .inr (by omega)
theorem tt_no {P : Nat → Prop} {t : Bool} {a k : Nat} (h : t = true ↔ a < k ∧ P a) (hn : ¬ P k) : t = true ↔ a < k + 1 ∧ P a := by
  rw [h]
  constructor
  · rintro ⟨h1, h2⟩; exact ⟨by omega, h2⟩
  · rintro ⟨h1, h2⟩
    refine ⟨?_, h2⟩
    rcases Nat.lt_or_ge a k with h3 | h3
    · exact h3
    · obtain rfl : a = k := by omega
      exact absurd h2 hn
theorem tt_yes {P : Nat → Prop} {t e : Bool} {a k : Nat} (h : t = true ↔ a < k ∧ P a) (hp : P k) (he : ((k : Int) == (a : Int)) = e) : (t || e) = true ↔ a < k + 1 ∧ P a := by
  rw [Bool.or_eq_true, h, ← he, beq_iff_eq]
  constructor
  · rintro (⟨h1, h2⟩ | h1)
    · exact ⟨by omega, h2⟩
    · obtain rfl : k = a := by omega
      exact ⟨by omega, hp⟩
  · rintro ⟨h1, h2⟩
    rcases Nat.lt_or_ge a k with h3 | h3
    · exact .inl ⟨h3, h2⟩
    · exact .inr (by omega)

theorem tt_tr {P : Nat → Prop} {e : Bool} {a k : Nat} (h : True ↔ a < k ∧ P a) (hp : P k) (he : ((k : Int) == (a : Int)) = e) : true = true ↔ a < k + 1 ∧ P a :=
  (tt_yes (t := true) (by simpa using h) hp he : (true || e) = true ↔ _)
set_option maxHeartbeats 8000000 in
theorem rCycles_any (w : World) (n : Nat) (v : Value) (ns : List (Nat × Nat × Nat)) (a : Nat) (rv : Value) (us : List Int) (hR : RD n ns) (hv : SlK e3 3 w v (ns.map n3)) (hl : ns.length ≤ 1000) (hu : SlK iz 1 w rv us) (han : a < n) (hul : us.length = n)
    (hX : ∀ v, v < n → 0 ≤ us.getD v 0 ∧ us.getD v 0 < (Rot.outs (sgl ns) v).length) :
    Calls Tryz.prog 51 #[.agg #[.int .i64 (n : Nat), v], .agg #[.int .i64 (a : Nat), rv]] w (Rets fun r w' => CycP (ptK (sgl ns) us n) n a r w w') := by
  obtain ⟨ad, c, rfl⟩ := hv.form
  obtain ⟨ru, b, o, cu, rfl, hi, hp, hc, hcm⟩ := hu.open elemI
  unfold maxLen at hcm
  have hnl : (ns.map n3).length = ns.length := List.length_map _
  rw [hnl] at hv ⊢
  have n12 := hR.le
  have n1 := hR.pos
  have HR := Lib.hid hR; have HV := Lib.hid hv; have HP := Lib.hid hp; have HNL := Lib.hid hnl
  have HM := Lib.hid (show ∀ x ∈ ns, x.2.2 ≤ 50 from fun x hx => (hR.rng x hx).2.2.2)
  have hSL := sgl_le ns HM.out ns.length
  rw [List.take_length] at hSL
  have HX := Lib.hid hX; have HUL := Lib.hid hul
  have HPT := Lib.hid (show ∀ v, v < n → (ptK (sgl ns) us n).getD v 0 < n from ptK_lt n12 (sgl_rng hR) hX)
  obtain ⟨D, hD⟩ : ∃ D, w.heap.size = D := ⟨_, rfl⟩
  obtain ⟨W1, hW1⟩ : ∃ W, w.alloc (.cells #[.int .i64 (n : Nat), .slice ad ns.length c] 28) = W := ⟨_, rfl⟩
  obtain ⟨W, hW⟩ : ∃ W, W1.alloc (.cells #[.int .i64 (a : Nat), .slice ru us.length cu] 42) = W := ⟨_, rfl⟩
  have z1 : W1.heap.size = D + 1 := by rw [← hW1, World.size_alloc, hD]
  have z2 : W.heap.size = D + 1 + 1 := by rw [← hW, World.size_alloc, z1]
  have k1 : Blk W1 D [.int .i64 (n : Nat), .slice ad ns.length c] 28 := by rw [← hW1, ← hD]; exact Blk.new w _ _
  have HD := Lib.hid (show Blk W D [.int .i64 (n : Nat), .slice ad ns.length c] 28 by rw [← hW]; exact k1.alloc _)
  have HU := Lib.hid (show Blk W (D + 1) [.int .i64 (a : Nat), .slice ru us.length cu] 42 by rw [← hW, ← z1]; exact Blk.new W1 _ _)
  have HQ := Lib.hid (show Below D w W by
    have q1 : Below D w W1 := by rw [← hW1, ← hD]; exact (Below.refl _ w).alloc (Nat.le_refl _) _
    rw [← hW]; exact q1.alloc (by rw [z1]; omega) _)
  have HVW := Lib.hid (HV.out.below HQ.out (Nat.le_of_eq hD))
  have HW : Hid ((w.alloc (.cells #[.int .i64 (n : Nat), .slice ad ns.length c] 28)).alloc (.cells #[.int .i64 (a : Nat), .slice ru us.length cu] 42) = W) := Lib.hid (by rw [hW1, hW])
  have HZ2 := Lib.hid z2
  have HS := Lib.hid (fun (w' : World) (hb : Below W.heap.size W w') => (⟨(HD.out.below hb (Nat.le_refl _)).cell 0 _ rfl, (HD.out.below hb (Nat.le_refl _)).cell 1 _ rfl⟩ : w'.cell? ⟨D, 0, none⟩ = some (.int .i64 (n : Nat)) ∧ w'.cell? ⟨D, 1, none⟩ = some (.slice ad ns.length c)))
  have HS1 := Lib.hid (HS.out W.drew ((Below.refl _ W).drew))
  have HBd := Lib.hid (show Below W.heap.size W W.drew from (Below.refl _ W).drew)
  clear k1 hW1 hW z1 z2 hu hp hv hR hnl hX hul
  go_enter Tryz.func51, Tryz.ntmps51
  go_wp2_with fail
  rw [HW.out]
  try rw [hD]
  go_region_held3 (fun w' => w'.cell? ⟨D, 0, none⟩ = some (.int .i64 (n : Nat)) ∧ w'.cell? ⟨D, 1, none⟩ = some (.slice ad ns.length c))
    ((first
      | with_reducible exact HS1.out
      | with_reducible assumption))
    ((first
      | (go_at_call 45; (with_reducible refine (rOut_any w2 n _ ns HR.out (HVW.out.below HB2.out (Nat.le_refl _)) hl).mono ?_); rintro e w3 ⟨v, rfl, vs, L, C, rfl, hRw, hL, hb3⟩; have HRW := Lib.hid hRw; have HES := Lib.hid (HE.out.below hb3 (Nat.le_refl _)); have HB3 := Lib.hid (HB2.out.trans (hb3.mono HB2.out.size)); have hs3 := HS.out w3 HB3.out; clear hRw hb3 hL)
      | (go_at_call 28; (with_reducible refine (rSingles_any W.drew n _ ns (HVW.out.below HBd.out (Nat.le_refl _)) HM.out (by omega)).mono ?_); rintro e w2 ⟨v, rfl, hO, hb2⟩; obtain ⟨ea, ec, rfl⟩ := own_formK hO; have HE := Lib.hid (SlK.ofOwns p2_len hO rfl); have HB2 := Lib.hid (HBd.out.trans (hb2.mono HBd.out.size)); have hs2 := HS.out w2 HB2.out; clear hO hb2)))
  rename_i hHeld
  clear hs2 hs3 hHeld HS1 HBd
  obtain ⟨ea', eb, eo, ec', hform, hie, hep, hec, hecm⟩ := HES.out.open elemEnds
  simp only [Value.slice.injEq, true_and] at hform
  obtain ⟨rfl, rfl⟩ := hform
  have HEP := Lib.hid hep
  have HPA := Lib.hid (fun x (hx : x < n) => ptK_get (sgl ns) us n x hx n12)
  obtain ⟨p, hpp⟩ : ∃ p, ptK (sgl ns) us n = p := ⟨_, rfl⟩
  rw [hpp] at HPT HPA
  have HPP := Lib.hid hpp
  have HUD := Lib.hid (HU.out.below HB3.out (Nat.le_refl _)); have HDD := Lib.hid (HD.out.below HB3.out (Nat.le_refl _))
  have HQ3 := Lib.hid (show Below D w w3 from HQ.out.trans (HB3.out.mono (by have := HZ2.out; omega)))
  have HN0 : Hid (([] : List Nat).Nodup ∧ ∀ v, v ∈ ([] : List Nat) ↔ v < 0 ∧ LeastC p n v) := Lib.hid ⟨List.nodup_nil, fun v => by simp⟩
  clear hep hpp HE HES
  go_wp2
  go_loopw [8, 9, 10] (fun c8 c9 i wr => ∃ (k : Nat) (ks : List Nat) (t : Bool), k ≤ n ∧ ks.length ≤ k ∧ c8 = .int .i64 (ks.length : Nat) ∧ c9 = .bool t ∧ i = .int .i64 k ∧ Hid (ks.Nodup ∧ ∀ v, v ∈ ks ↔ v < k ∧ LeastC p n v) ∧ Hid (t = true ↔ a < k ∧ OnC p n a) ∧ Hid (Below w3.heap.size w3 wr)) (fun _ _ i _ => n - (intOf i).toNat)
  case atStart => exact ⟨0, [], false, Nat.zero_le _, Nat.zero_le _, rfl, rfl, rfl, HN0, Lib.hid (by simp), Lib.hid (Below.refl _ _)⟩
  case round =>
    clear HN0
    obtain ⟨k, ks, t, hk, hkl, rfl, rfl, rfl, hN, hT, hB⟩ := hrel
    have hDr := HDD.out.below hB.out (Nat.le_refl _)
    have g0 := hDr.cell 0 _ rfl; have gl := hDr.lt
    clear hDr
    by_cases hkn : k < n
    · have HI0 : Hid ((∀ j, j ≤ 0 → k ≤ it p j k) ∧ ∃ j, j ≤ 0 ∧ k = it p j k) := Lib.hid ⟨fun j hj => by obtain rfl : j = 0 := (by omega); exact Nat.le_refl _, 0, Nat.le_refl _, rfl⟩
      go_wp2
      clear g0 gl
      go_loopw [8, 9, 11, 12, 13] (fun c8 c9 x l i wr => ∃ (m L : Nat), m ≤ n ∧ c8 = .int .i64 (ks.length : Nat) ∧ c9 = .bool t ∧ x = .int .i64 (it p m k : Nat) ∧ l = .int .i64 (L : Nat) ∧ i = .int .i64 m ∧ Hid ((∀ j, j ≤ m → L ≤ it p j k) ∧ ∃ j, j ≤ m ∧ L = it p j k) ∧ Hid (∀ j, 1 ≤ j → j ≤ m → it p j k ≠ k) ∧ Hid (Below w3.heap.size w3 wr)) (fun _ _ _ _ i _ => n - (intOf i).toNat)
      case atStart => exact ⟨0, k, Nat.zero_le _, rfl, rfl, rfl, rfl, rfl, HI0, Lib.hid (fun j h1 h2 => by omega), hB⟩
      case round =>
        clear HI0 hB
        obtain ⟨m, L, hm, rfl, rfl, rfl, rfl, rfl, hI, hJ, hB⟩ := hrel
        have hDr := HDD.out.below hB.out (Nat.le_refl _)
        have g0 := hDr.cell 0 _ rfl; have gl := hDr.lt
        clear hDr
        by_cases hmn : m < n
        · have hxn := it_lt HPT.out m k hkn
          have HNX : Hid (it p (m + 1) k = p.getD (it p m k) 0) := Lib.hid rfl
          obtain ⟨x, hx⟩ : ∃ x, it p m k = x := ⟨_, rfl⟩
          rw [hx] at hxn HNX ⊢
          have hUr := HUD.out.below hB.out (Nat.le_refl _)
          have u0 := hUr.cell 0 _ rfl; have u1 := hUr.cell 1 _ rfl; have ul := hUr.lt
          have hux : x < us.length := by rw [HUL.out]; exact hxn
          have hqw := HQ3.out.trans (hB.out.mono (by rw [← hD]; exact HQ3.out.size))
          have x0 : wr.cell? ⟨b, o + x, none⟩ = some (.int .i64 us[x]) := by
            have := HP.out.at hqw (Nat.le_of_eq hD) x hux 0 _ rfl
            rwa [Nat.mul_one, Nat.add_zero] at this
          have hbl := (HP.out.below hqw (Nat.le_of_eq hD)).1 (by omega)
          have HUK := Lib.hid (show us.getD x 0 = us[x] by simp [List.getD_eq_getElem?_getD, hux])
          obtain ⟨y, hy⟩ : ∃ y, us[x] = y := ⟨_, rfl⟩
          rw [hy] at x0 HUK
          have hrg := HX.out x hxn
          rw [HUK.out] at hrg
          have hlo : x < (outs n (sgl ns)).length := by rw [outs, outsAt_len]; exact hxn
          have hor := outs_rot n (sgl ns) x hlo
          have hRr := HRW.out.below hB.out (Nat.le_refl _)
          obtain ⟨rv, r0, hrow⟩ := hRr.row x hlo
          have hlL := hRr.blk.lt
          rw [hor] at hrow
          obtain ⟨ra, rb, ro, rc, rfl, hri, hrp, hrc, hrm⟩ := hrow.open elemI
          obtain ⟨yn, rfl⟩ : ∃ yn : Nat, y = (yn : Int) := ⟨y.toNat, by omega⟩
          have hyn : yn < (Rot.outs (sgl ns) x).length := by omega
          obtain ⟨T, hT9⟩ : ∃ T, Rot.outs (sgl ns) x = T := ⟨_, rfl⟩
          have HL9 := Lib.hid (show T.length ≤ (sgl ns).length by rw [← hT9]; unfold Rot.outs; exact Nat.le_trans (List.length_filter_le _ _) (by simp))
          rw [hT9] at hyn hri hrp hrc r0
          obtain ⟨e, he⟩ : ∃ e, T[yn] = e := ⟨_, rfl⟩
          have y0 : wr.cell? ⟨rb, ro + yn, none⟩ = some (.int .i64 (e : Nat)) := by
            have := hrp.2 yn hyn 0 (.int .i64 (e : Nat)) (by rw [he]; rfl)
            rwa [Nat.mul_one, Nat.add_zero] at this
          have hrl := hrp.1 (by omega)
          have hes : e < (sgl ns).length := by
            have : e ∈ Rot.outs (sgl ns) x := by rw [hT9, ← he]; exact List.getElem_mem hyn
            exact (Rot.outs_mem.1 this).1
          obtain ⟨⟨s1, z⟩, hz⟩ : ∃ z, (sgl ns)[e] = z := ⟨_, rfl⟩
          have e1 : wr.cell? ⟨eb, eo + e * 2 + 1, none⟩ = some (.int .i64 (z : Nat)) := HEP.out.at hB.out (Nat.le_refl _) e hes 1 _ (by rw [hz]; rfl)
          have hel := (HEP.out.below hB.out (Nat.le_refl _)).1 (by omega)
          have HPZ := Lib.hid (show it p (m + 1) k = z by
            rw [HNX.out, HPA.out x hxn]
            have e2 : rot us x = yn := by unfold rot; rw [HUK.out]; rfl
            unfold Rot.ptr Rot.trg
            rw [e2, hT9]
            simp [List.getD_eq_getElem?_getD, hyn, he, hes, hz])
          have i0 : (0 : Int) ≤ (e : Int) := by omega
          have i1' : (e : Int) < ((sgl ns).length : Int) := by omega
          have i2 : (0 : Int) ≤ (yn : Int) := by omega
          have i3 : (yn : Int) < (T.length : Int) := by omega
          have i4 : (0 : Int) ≤ (x : Int) := by omega
          have i5 : (x : Int) < (n : Int) := by omega
          have i6 : (x : Int) < (us.length : Int) := by omega
          have HMS := Lib.hid (min_step hI.out HPZ.out.symm)
          have HJJ := Lib.hid hJ.out
          have HBQ := Lib.hid hB.out
          have HTT := Lib.hid hT.out
          have HNN := Lib.hid hN.out
          clear hI hJ hx hor hrow hy hrg hT9 he hz hRr hqw hUr hB hT hN HUK HNX
          by_cases hzk : z = k
          · have hne : ((z : Int) == (k : Int)) = true := by rw [beq_iff_eq]; omega
            have HON := Lib.hid (show OnC p n k from ⟨m + 1, by omega, hmn, by rw [HPZ.out, hzk]⟩)
            have HLI := Lib.hid (show min L z = k ↔ LeastC p n k from least_iff hmn HMS.out (by rw [HPZ.out, hzk]))
            obtain ⟨M, hM⟩ : ∃ M : Nat, min L z = M := ⟨_, rfl⟩
            rw [hM] at HLI
            have hM2 : min (L : Int) (z : Int) = (M : Int) := by omega
            obtain ⟨e8, he8⟩ : ∃ e, ((k : Int) == (a : Int)) = e := ⟨_, rfl⟩
            have HE8 := Lib.hid he8
            clear hzk hM
            by_cases hlk : M = k
            · have hne2 : ((M : Int) == (k : Int)) = true := by rw [beq_iff_eq]; omega
              have HN9 := Lib.hid (fm_yes HNN.out (HLI.out.1 hlk))
              clear hlk
              cases t
              · go_wp2_with fail
                go_quiet (fail)
                have b3 := Lib.hid (below_drewN HBQ.out nq)
                go_wp2
                go_roundw
                case rel => exact ⟨k + 1, ks ++ [k], e8, by omega, by simp; omega, by simp, rfl, by go_num, HN9, Lib.hid (tt_yes HTT.out HON.out HE8.out), b3⟩
                case measure => simp [intOf]; omega
              · go_wp2_with fail
                go_quiet (fail)
                have b3 := Lib.hid (below_drewN HBQ.out nq)
                go_wp2
                go_roundw
                case rel => exact ⟨k + 1, ks ++ [k], true, by omega, by simp; omega, by simp, rfl, by go_num, HN9, Lib.hid (tt_tr HTT.out HON.out HE8.out), b3⟩
                case measure => simp [intOf]; omega
            · have hne2 : ((M : Int) == (k : Int)) = false := by rw [beq_eq_false_iff_ne]; omega
              have HN9 := Lib.hid (fm_no HNN.out (fun h => hlk (HLI.out.2 h)))
              clear hlk
              cases t
              · go_wp2_with fail
                go_quiet (fail)
                have b3 := Lib.hid (below_drewN HBQ.out nq)
                go_wp2
                go_roundw
                case rel => exact ⟨k + 1, ks, e8, by omega, by omega, rfl, rfl, by go_num, HN9, Lib.hid (tt_yes HTT.out HON.out HE8.out), b3⟩
                case measure => simp [intOf]; omega
              · go_wp2_with fail
                go_quiet (fail)
                have b3 := Lib.hid (below_drewN HBQ.out nq)
                go_wp2
                go_roundw
                case rel => exact ⟨k + 1, ks, true, by omega, by omega, rfl, rfl, by go_num, HN9, Lib.hid (tt_tr HTT.out HON.out HE8.out), b3⟩
                case measure => simp [intOf]; omega
          · have hne : ((z : Int) == (k : Int)) = false := by rw [beq_eq_false_iff_ne]; omega
            have HJ9 := Lib.hid (show ∀ j, 1 ≤ j → j ≤ m + 1 → it p j k ≠ k from fun j h1 h2 => by
              rcases Nat.lt_or_ge j (m + 1) with h | h
              · exact HJJ.out j h1 (by omega)
              · obtain rfl : j = m + 1 := by omega
                rw [HPZ.out]; exact hzk)
            clear hzk
            go_wp2_with fail
            go_quiet (fail)
            have b3 := Lib.hid (below_drewN HBQ.out nq)
            go_wp2
            go_roundw
            case rel => exact ⟨m + 1, min L z, by omega, rfl, rfl, by rw [HPZ.out], congrArg _ (by omega), by go_num, HMS, HJ9, b3⟩
            case measure => simp [intOf]; omega
        · obtain rfl : n = m := by omega
          have HNO := Lib.hid (show ¬ OnC p n k from fun ⟨d, h1, h2, h3⟩ => hJ.out d h1 h2 h3)
          have HN9 := Lib.hid (fm_no hN.out (fun h => HNO.out h.1))
          have HT9 := Lib.hid (tt_no hT.out HNO.out)
          have HBQ := Lib.hid hB.out
          clear hN hT hB hI hJ
          go_wp2
          go_roundw
          case rel => exact ⟨k + 1, ks, t, by omega, by omega, rfl, rfl, by go_num, HN9, HT9, HBQ⟩
          case measure => simp [intOf]; omega
    · obtain rfl : n = k := by omega
      have HB9 := Lib.hid (HQ3.out.trans (hB.out.mono (by rw [← hD]; exact HQ3.out.size)))
      have HCI := Lib.hid (show ((ks.length : Int) = 1 ∧ t = true) ↔ ∀ v, v < n → ∃ i, it (ptK (sgl ns) us n) i v = a by
        rw [HPP.out, ← cyc_iff HPT.out han hN.out.1 hN.out.2, hT.out]
        constructor
        · rintro ⟨h1, -, h2⟩; exact ⟨by omega, h2⟩
        · rintro ⟨h1, h2⟩; exact ⟨by omega, han, h2⟩)
      clear hN hT hB
      go_wp2
      go_ret2
      exact ⟨_, rfl, _, t, rfl, by rw [hD]; exact HB9.out, HCI.out⟩
end Go.Proofs.YtlnhocgjgmhfgaaGreatDoor

namespace Go.Proofs.YtlnhocgjgmhfgaaGreatDoor
namespace Trail

def Chain : List (Nat × Nat) → Nat → Nat → Prop
  | [], u, v => u = v
  | x :: l, u, v => x.1 = u ∧ Chain l x.2 v
/-- Balanced, but for a way from v to s. -/
def Bal (A : List (Nat × Nat)) (v s : Nat) : Prop := ∀ u, A.countP (fun x => x.1 == u) + (if s = u then 1 else 0) = A.countP (fun x => x.2 == u) + (if v = u then 1 else 0)
def Even (A : List (Nat × Nat)) : Prop := ∀ u, A.countP (fun x => x.1 == u) = A.countP (fun x => x.2 == u)
/-- All arcs begin where one comes to from v. -/
def Reach (A : List (Nat × Nat)) (v : Nat) : Prop := ∀ S : Nat → Prop, (∀ x ∈ A, S x.1 → S x.2) → S v → ∀ x ∈ A, S x.1
theorem Bal.perm {A B : List (Nat × Nat)} {v s : Nat} (h : Bal A v s) (p : A.Perm B) : Bal B v s := fun u => by
  rw [← p.countP_eq, ← p.countP_eq]; exact h u
theorem Even.perm {A B : List (Nat × Nat)} (h : Even A) (p : A.Perm B) : Even B := fun u => by
  rw [← p.countP_eq, ← p.countP_eq]; exact h u
theorem Reach.perm {A B : List (Nat × Nat)} {v : Nat} (h : Reach A v) (p : A.Perm B) : Reach B v := fun S hS hv x hx =>
  h S (fun y hy => hS y (p.mem_iff.1 hy)) hv x (p.mem_iff.2 hx)
theorem Bal.tail {A : List (Nat × Nat)} {x : Nat × Nat} {v s : Nat} (h : Bal (x :: A) v s) (hx : x.1 = v) : Bal A x.2 s := fun u => by
  have h0 := h u
  rw [List.countP_cons, List.countP_cons, hx] at h0
  by_cases h1 : v = u <;> by_cases h2 : x.2 = u <;> by_cases h3 : s = u <;> simp [h1, h2, h3] at h0 ⊢ <;> omega
theorem Bal.nil {v s : Nat} (h : Bal [] v s) : v = s := by
  have h0 := h v
  by_cases h3 : s = v
  · exact h3.symm
  · simp [h3] at h0
theorem Chain.append : ∀ {l m : List (Nat × Nat)} {u v : Nat}, Chain (l ++ m) u v ↔ ∃ w, Chain l u w ∧ Chain m w v
  | [], m, u, v => by simp [Chain]
  | x :: l, m, u, v => by
    rw [List.cons_append, Chain, Chain.append]
    constructor
    · rintro ⟨h1, w, h2, h3⟩; exact ⟨w, ⟨h1, h2⟩, h3⟩
    · rintro ⟨w, ⟨h1, h2⟩, h3⟩; exact ⟨h1, w, h2, h3⟩
theorem Chain.bal : ∀ {l : List (Nat × Nat)} {u v : Nat}, Chain l u v → Bal l u v
  | [], u, v, h => fun a => by
    have h : u = v := h
    subst h; rfl
  | x :: l, u, v, h => fun a => by
    obtain ⟨rfl, h⟩ := h
    have h0 := h.bal a
    rw [List.countP_cons, List.countP_cons]
    by_cases h1 : x.1 = a <;> by_cases h2 : x.2 = a <;> by_cases h3 : v = a <;> simp [h1, h2, h3] at h0 ⊢ <;> omega
theorem Chain.reach : ∀ {l : List (Nat × Nat)} {u v : Nat}, Chain l u v → Reach l u
  | [], _, _, _ => fun S _ _ x hx => by cases hx
  | x :: l, u, v, h => fun S hS hu y hy => by
    obtain ⟨rfl, h⟩ := h
    rcases List.mem_cons.1 hy with rfl | hy
    · exact hu
    · exact h.reach S (fun z hz => hS z (List.mem_cons_of_mem _ hz)) (hS x (List.mem_cons_self ..) hu) y hy
theorem greedy : ∀ (k : Nat) (A : List (Nat × Nat)) (v s : Nat), A.length = k → Bal A v s → ∃ l R, A.Perm (l ++ R) ∧ Chain l v s ∧ ((∃ x ∈ A, x.1 = v) → l ≠ [])
  | 0, A, v, s, hA, h => by
    obtain rfl := List.length_eq_zero_iff.1 hA
    exact ⟨[], [], List.Perm.refl _, h.nil, fun ⟨x, hx, _⟩ => by cases hx⟩
  | k + 1, A, v, s, hA, h => by
    by_cases hx : ∃ x ∈ A, x.1 = v
    · obtain ⟨x, hx, hv⟩ := hx
      have hp := List.perm_cons_erase hx
      have hl : (A.erase x).length = k := by
        have := hp.length_eq
        rw [List.length_cons] at this; omega
      obtain ⟨l, R, h1, h2, -⟩ := greedy k (A.erase x) x.2 s hl ((h.perm hp).tail hv)
      exact ⟨x :: l, R, hp.trans (List.Perm.cons x h1), ⟨hv, h2⟩, fun _ => by simp⟩
    · refine ⟨[], A, List.Perm.refl _, ?_, fun h => absurd h hx⟩
      have h0 := h v
      have h1 : A.countP (fun x => x.1 == v) = 0 := by
        rw [List.countP_eq_zero]
        intro x hx2 hx3
        exact hx ⟨x, hx2, by simpa using hx3⟩
      rw [h1] at h0
      by_cases h3 : s = v
      · exact h3.symm
      · simp [h3] at h0
theorem splice : ∀ (k : Nat) (l R : List (Nat × Nat)) (v s : Nat), R.length ≤ k → Chain l v s → Even R → Reach (l ++ R) v → ∃ l', (l ++ R).Perm l' ∧ Chain l' v s
  | 0, l, R, v, s, hk, hl, _, _ => by
    obtain rfl := List.length_eq_zero_iff.1 (Nat.le_zero.1 hk)
    exact ⟨l, by rw [List.append_nil], hl⟩
  | k + 1, l, R, v, s, hk, hl, hE, hR => by
    by_cases hne : R = []
    · subst hne
      exact ⟨l, by rw [List.append_nil], hl⟩
    have hy : ∃ y ∈ R, y.1 = v ∨ ∃ x ∈ l, y.1 = x.2 := by
      apply Classical.byContradiction
      intro hno
      obtain ⟨r, hr⟩ := List.exists_mem_of_ne_nil R hne
      have := hR (fun j => j = v ∨ ∃ x ∈ l, j = x.2) (fun x hx hS => by
        rcases List.mem_append.1 hx with hx | hx
        · exact .inr ⟨x, hx, rfl⟩
        · exact absurd ⟨x, hx, hS⟩ hno) (.inl rfl) r (List.mem_append_right _ hr)
      exact hno ⟨r, hr, this⟩
    obtain ⟨y, hyR, hy⟩ := hy
    have hsp : ∃ l1 l2, l = l1 ++ l2 ∧ Chain l1 v y.1 ∧ Chain l2 y.1 s := by
      rcases hy with hy | ⟨x, hx, hy⟩
      · exact ⟨[], l, rfl, hy.symm, by rw [hy]; exact hl⟩
      · obtain ⟨a, b, rfl⟩ := List.append_of_mem hx
        obtain ⟨w, h1, h2⟩ := Chain.append.1 hl
        obtain ⟨h3, h4⟩ := h2
        refine ⟨a ++ [x], b, by simp, Chain.append.2 ⟨w, h1, h3, hy.symm⟩, by rw [hy]; exact h4⟩
    obtain ⟨l1, l2, rfl, h1, h2⟩ := hsp
    obtain ⟨c, R', hp, hc, hcn⟩ := greedy R.length R y.1 y.1 rfl (fun u => by rw [hE u])
    have hcn := hcn ⟨y, hyR, rfl⟩
    have hlen : R'.length < R.length := by
      have := hp.length_eq
      rw [List.length_append] at this
      have := List.length_pos_iff.2 hcn
      omega
    have hE' : Even R' := fun u => by
      have a := hE u
      rw [hp.countP_eq, hp.countP_eq, List.countP_append, List.countP_append] at a
      have b := hc.bal u
      omega
    have hpp : ((l1 ++ l2) ++ R).Perm ((l1 ++ (c ++ l2)) ++ R') := List.perm_iff_count.2 fun a => by
      simp only [List.count_append, hp.count_eq]; omega
    obtain ⟨l', h3, h4⟩ := splice k (l1 ++ (c ++ l2)) R' v s (by omega) (Chain.append.2 ⟨_, h1, Chain.append.2 ⟨_, hc, h2⟩⟩) hE' (hR.perm hpp)
    exact ⟨l', hpp.trans h3, h4⟩
/-- Euler's theorem. -/
theorem euler {A : List (Nat × Nat)} {v s : Nat} (hB : Bal A v s) (hR : Reach A v) : ∃ l, A.Perm l ∧ Chain l v s := by
  obtain ⟨l, R, hp, hl, -⟩ := greedy A.length A v s rfl hB
  have hE : Even R := fun u => by
    have a := hB.perm hp u
    rw [List.countP_append, List.countP_append] at a
    have b := hl.bal u
    omega
  obtain ⟨l', h1, h2⟩ := splice R.length l R v s (Nat.le_refl _) hl hE (hR.perm hp)
  exact ⟨l', hp.trans h1, h2⟩
end Trail
end Go.Proofs.YtlnhocgjgmhfgaaGreatDoor

namespace Go.Proofs.YtlnhocgjgmhfgaaGreatDoor
open Go.RowKit

/-- The arcs that are left. -/
def lft : List (Nat × Nat) → List Bool → List (Nat × Nat)
  | x :: SS, u :: us => if u then lft SS us else x :: lft SS us
  | _, _ => []
theorem mem_lft : ∀ {SS : List (Nat × Nat)} {us : List Bool} {x : Nat × Nat}, x ∈ lft SS us ↔ ∃ i : Nat, SS[i]? = some x ∧ us[i]? = some false
  | [], _, _ => by simp [lft]
  | _ :: _, [], _ => by simp [lft]
  | y :: SS, u :: us, x => by
    have ih := mem_lft (SS := SS) (us := us) (x := x)
    have e : (∃ i : Nat, (y :: SS)[i]? = some x ∧ (u :: us)[i]? = some false) ↔ (y = x ∧ u = false) ∨ ∃ i : Nat, SS[i]? = some x ∧ us[i]? = some false := by
      constructor
      · rintro ⟨i, h1, h2⟩
        cases i with
        | zero => exact .inl ⟨by simpa using h1, by simpa using h2⟩
        | succ i => exact .inr ⟨i, by simpa using h1, by simpa using h2⟩
      · rintro (⟨h1, h2⟩ | ⟨i, h1, h2⟩)
        · exact ⟨0, by simpa using h1, by simpa using h2⟩
        · exact ⟨i + 1, by simpa using h1, by simpa using h2⟩
    rw [e, ← ih]
    cases u
    · rw [lft]; simp only [Bool.false_eq_true, if_false, List.mem_cons, and_true]
      exact or_congr_left ⟨fun h => h.symm, fun h => h.symm⟩
    · rw [lft]; simp
theorem lft_set : ∀ {SS : List (Nat × Nat)} {us : List Bool} {i : Nat} {x : Nat × Nat}, SS[i]? = some x → us[i]? = some false → (lft SS us).Perm (x :: lft SS (us.set i true))
  | [], _, _, _, h, _ => by simp at h
  | _ :: _, [], _, _, _, h => by simp at h
  | y :: SS, u :: us, 0, x, h1, h2 => by
    simp only [List.getElem?_cons_zero, Option.some.injEq] at h1 h2
    subst h1; subst h2
    rw [List.set_cons_zero, lft, lft]
    simp
  | y :: SS, u :: us, i + 1, x, h1, h2 => by
    simp only [List.getElem?_cons_succ] at h1 h2
    have ih := lft_set h1 h2
    rw [List.set_cons_succ, lft, lft]
    cases u
    · simp only [Bool.false_eq_true, if_false]
      exact (List.Perm.cons y ih).trans (List.Perm.swap x y _)
    · simpa using ih
theorem lft_rep : ∀ SS : List (Nat × Nat), lft SS (List.replicate SS.length false) = SS
  | [] => rfl
  | x :: SS => by
    rw [List.length_cons, List.replicate_succ, lft, lft_rep SS]; rfl
theorem connB_iff {n v : Nat} {SS : List (Nat × Nat)} {us : List Bool} (hrg : ∀ x ∈ SS, x.1 < n ∧ x.2 < n) (hv : v < n) : connB n v SS us = true ↔ Trail.Reach (lft SS us) v := by
  have hc : ∀ S, Clo SS us S ↔ ∀ x ∈ lft SS us, S x.1 → S x.2 := fun S => by
    constructor
    · intro h x hx
      obtain ⟨i, h1, h2⟩ := mem_lft.1 hx
      exact h i x h1 h2
    · intro h i x h1 h2
      exact h x (mem_lft.2 ⟨i, h1, h2⟩)
  unfold connB
  rw [allB_iff]
  constructor
  · intro h S hS hSv x hx
    obtain ⟨i, h1, h2⟩ := mem_lft.1 hx
    exact (rch_iff hrg hv x.1).1 (h i x h1 h2) S ((hc S).2 hS) hSv
  · intro h i x h1 h2
    exact (rch_iff hrg hv x.1).2 fun S hS hSv => h S ((hc S).1 hS) hSv x (mem_lft.2 ⟨i, h1, h2⟩)
theorem nextA_some {n : Nat} {SS : List (Nat × Nat)} {us : List Bool} : ∀ {l : List Nat}, (∃ i ∈ l, us[i]? = some false ∧ connB n (SS.getD i (0, 0)).2 SS (us.set i true) = true) → ∃ i, nextA n SS us l = some i ∧ i ∈ l ∧ us[i]? = some false ∧ connB n (SS.getD i (0, 0)).2 SS (us.set i true) = true
  | [], h => by obtain ⟨i, hi, _⟩ := h; cases hi
  | j :: l, h => by
    unfold nextA
    by_cases hc : us[j]? = some false ∧ connB n (SS.getD j (0, 0)).2 SS (us.set j true) = true
    · rw [if_pos hc]
      exact ⟨j, rfl, List.mem_cons_self .., hc.1, hc.2⟩
    · rw [if_neg hc]
      obtain ⟨i, hi, h2⟩ := h
      have hi2 : i ∈ l := (List.mem_cons.1 hi).resolve_left fun e => hc (e ▸ h2)
      obtain ⟨k, h3, h4, h5⟩ := nextA_some ⟨i, hi2, h2⟩
      exact ⟨k, h3, List.mem_cons_of_mem _ h4, h5⟩

/-- What holds while Tour runs. -/
structure FI (n : Nat) (SS : List (Nat × Nat)) (s v : Nat) (t : List Nat) (us : List Bool) : Prop where
  len : us.length = SS.length
  use : ∀ i, i ∈ t ↔ us[i]? = some true
  nd : t.Nodup
  bal : Trail.Bal (lft SS us) v s
  con : connB n v SS us = true
  link : ∀ j, j + 1 < t.length → Rot.trg SS (t.getD j 0) = Rot.src SS (t.getD (j + 1) 0)
  last : Rot.trg SS (t.getD (t.length - 1) 0) = v
  head : t.getD 0 0 = 0
  pos : 0 < t.length
  cnt : t.length + (lft SS us).length = SS.length
  vn : v < n
theorem FI.step {n s v : Nat} {SS : List (Nat × Nat)} {t : List Nat} {us : List Bool} (hrg : ∀ x ∈ SS, x.1 < n ∧ x.2 < n) (h : FI n SS s v t us) (hl : t.length < SS.length) :
    ∃ i, nextA n SS us ((outs n SS).getD v []) = some i ∧ FI n SS s (SS.getD i (0, 0)).2 (t ++ [i]) (us.set i true) := by
  have hvo : v < (outs n SS).length := by rw [outs, outsAt_len]; exact h.vn
  have ho : (outs n SS).getD v [] = Rot.outs SS v := by
    rw [List.getD_eq_getElem?_getD, List.getElem?_eq_getElem hvo]
    exact outs_rot n SS v hvo
  rw [ho]
  obtain ⟨l, hp, hc⟩ := Trail.euler h.bal ((connB_iff hrg h.vn).1 h.con)
  have hne : l ≠ [] := fun e => by
    subst e
    have h1 := hp.length_eq
    have h2 := h.cnt
    rw [List.length_nil] at h1
    omega
  obtain ⟨x, l', rfl⟩ := List.exists_cons_of_ne_nil hne
  obtain ⟨hx1, hc2⟩ := hc
  obtain ⟨i, hi1, hi2⟩ := mem_lft.1 (hp.mem_iff.2 (List.mem_cons_self ..))
  have hiS : i < SS.length := (List.getElem?_eq_some_iff.1 hi1).1
  have hgx : SS.getD i (0, 0) = x := by rw [List.getD_eq_getElem?_getD, hi1]; rfl
  have hxm := hrg x (List.mem_of_getElem? hi1)
  have hcn : connB n (SS.getD i (0, 0)).2 SS (us.set i true) = true := by
    rw [hgx, connB_iff hrg hxm.2]
    have hq : (lft SS (us.set i true)).Perm l' := List.Perm.cons_inv ((lft_set hi1 hi2).symm.trans hp)
    exact hc2.reach.perm hq.symm
  obtain ⟨k, hk1, hk2, hk3, hk4⟩ := nextA_some (n := n) (SS := SS) (us := us) (l := Rot.outs SS v) ⟨i, Rot.outs_mem.2 ⟨hiS, by unfold Rot.src; rw [hgx]; exact hx1⟩, hi2, hcn⟩
  refine ⟨k, hk1, ?_⟩
  obtain ⟨hkS, hks⟩ := Rot.outs_mem.1 hk2
  have hku : k < us.length := (List.getElem?_eq_some_iff.1 hk3).1
  obtain ⟨y, hy⟩ : ∃ y, SS[k] = y := ⟨_, rfl⟩
  have hky : SS[k]? = some y := by rw [List.getElem?_eq_getElem hkS, hy]
  have hgy : SS.getD k (0, 0) = y := by rw [List.getD_eq_getElem?_getD, hky]; rfl
  have hy1 : y.1 = v := by unfold Rot.src at hks; rw [hgy] at hks; exact hks
  have hpy := lft_set hky hk3
  have hkt : k ∉ t := fun hm => by
    have := (h.use k).1 hm
    rw [hk3] at this; cases this
  rw [hgy] at hk4 ⊢
  refine ⟨by rw [List.length_set]; exact h.len, fun j => ?_, ?_, (h.bal.perm hpy).tail hy1, hk4, fun j hj => ?_, ?_, ?_, by simp, ?_, (hrg y (List.mem_of_getElem? hky)).2⟩
  · rw [List.mem_append, List.mem_singleton, h.use j]
    by_cases e : k = j
    · subst e; simp [hku]
    · rw [List.getElem?_set_ne e]
      exact ⟨fun h => h.resolve_right fun e2 => e e2.symm, .inl⟩
  · exact List.nodup_append.2 ⟨h.nd, by simp, fun a ha b hb => by simp at hb; subst hb; exact fun e => hkt (e ▸ ha)⟩
  · rw [List.length_append, List.length_singleton] at hj
    have e1 : (t ++ [k]).getD j 0 = t.getD j 0 := by
      rw [List.getD_eq_getElem?_getD, List.getD_eq_getElem?_getD, List.getElem?_append_left (by omega)]
    rw [e1]
    rcases Nat.lt_or_ge (j + 1) t.length with h2 | h2
    · have e2 : (t ++ [k]).getD (j + 1) 0 = t.getD (j + 1) 0 := by
        rw [List.getD_eq_getElem?_getD, List.getD_eq_getElem?_getD, List.getElem?_append_left h2]
      rw [e2]; exact h.link j h2
    · obtain e3 : j = t.length - 1 := by omega
      have e2 : (t ++ [k]).getD (j + 1) 0 = k := by
        rw [List.getD_eq_getElem?_getD, List.getElem?_append_right h2]
        rw [show j + 1 - t.length = 0 by have := h.pos; omega]; rfl
      rw [e2, e3, h.last, hks]
  · have e2 : (t ++ [k]).getD ((t ++ [k]).length - 1) 0 = k := by
      rw [List.getD_eq_getElem?_getD, List.length_append, List.length_singleton, Nat.add_sub_cancel, List.getElem?_append_right (Nat.le_refl _), Nat.sub_self]; rfl
    rw [e2]; unfold Rot.trg; rw [hgy]
  · have := h.pos
    rw [List.getD_eq_getElem?_getD, List.getElem?_append_left this, ← List.getD_eq_getElem?_getD]
    exact h.head
  · have a := hpy.length_eq
    have b := h.cnt
    rw [List.length_cons] at a
    rw [List.length_append, List.length_singleton]
    omega
theorem tourF_ok {n s : Nat} {SS : List (Nat × Nat)} (hrg : ∀ x ∈ SS, x.1 < n ∧ x.2 < n) (hs : s = Rot.src SS 0) : ∀ (f v : Nat) (t : List Nat) (us : List Bool), FI n SS s v t us → SS.length ≤ f + t.length → ∃ T, tourF n SS f v t us = some T ∧ TourL SS T ∧ T.getD 0 0 = 0
  | f, v, t, us, h, hf => by
    unfold tourF
    by_cases hl : SS.length ≤ t.length
    · rw [if_pos hl]
      have hc := h.cnt
      have h0 : (lft SS us).length = 0 := by omega
      have hb := h.bal
      rw [List.length_eq_zero_iff.1 h0] at hb
      have hvs := hb.nil
      have hlen : t.length = SS.length := by omega
      refine ⟨t, rfl, ⟨hlen, h.pos, h.nd, fun e he => ?_, fun i hi => ?_⟩, h.head⟩
      · have := (List.getElem?_eq_some_iff.1 ((h.use e).1 he)).1
        rw [h.len] at this; exact this
      · rcases Nat.lt_or_ge (i + 1) t.length with h2 | h2
        · rw [Nat.mod_eq_of_lt h2]; exact h.link i h2
        · have e : i = t.length - 1 := by omega
          have e2 : (i + 1) % t.length = 0 := by
            rw [show i + 1 = t.length by omega]; exact Nat.mod_self _
          rw [e2, h.head, e, h.last, hvs, hs]
    · rw [if_neg hl]
      cases f with
      | zero => omega
      | succ f =>
        obtain ⟨i, h1, h2⟩ := h.step hrg (by omega)
        rw [h1]
        exact tourF_ok hrg hs f _ _ _ h2 (by simp; omega)
theorem eul_reach {n : Nat} {ns : List Arc3} (hR : RD n ns) (hE : EulC n ns) (h0 : 0 < ns.length) : ∀ S : Nat → Prop, (∀ x ∈ ns, S x.1 → S x.2.1) → S ns[0].1 → ∀ x ∈ ns, S x.1 := fun S hS h1 x hx => by
  have hP := (is_eul hR).2 hE
  have hv0 := (hR.rng _ (List.getElem_mem h0)).1
  have hvx := (hR.rng _ hx).1
  have := (hP.2 ns[0].1 hv0).2 x.1 hvx ((pos_iff hR _ hv0).2 ⟨_, List.getElem_mem h0, rfl⟩) ((pos_iff hR _ hvx).2 ⟨_, hx, rfl⟩)
  exact (rchD_iff hR hv0 _).1 this S hS h1
theorem mem_sgl {ns : List Arc3} {y : Nat × Nat} : y ∈ sgl ns ↔ ∃ x ∈ ns, 0 < x.2.2 ∧ y = (x.1, x.2.1) := by
  unfold sgl
  rw [List.mem_flatMap]
  constructor
  · rintro ⟨x, hx, hy⟩
    rw [List.mem_replicate] at hy
    exact ⟨x, hx, by omega, hy.2⟩
  · rintro ⟨x, hx, h1, h2⟩
    exact ⟨x, hx, by rw [List.mem_replicate]; exact ⟨by omega, h2⟩⟩
theorem tourS_ok {n : Nat} {ns : List Arc3} (hR : RD n ns) (hE : EulC n ns) : ∃ T, tourS n (sgl ns) = some T ∧ TourL (sgl ns) T ∧ T.getD 0 0 = 0 := by
  have hp := sgl_pos hR hE
  have hrg := sgl_rng hR
  have hn0 : 0 < ns.length := List.length_pos_iff.2 hE.1
  have hmul : ∀ x ∈ ns, 0 < x.2.2 := fun x hx => by have := (hR.rng x hx).2.2.1; omega
  have hfst : (sgl ns).getD 0 (0, 0) = (ns[0].1, ns[0].2.1) := by
    rcases ns with _ | ⟨x, l⟩
    · exact absurd hn0 (by simp)
    · have := hmul x (List.mem_cons_self ..)
      have e2 : sgl (x :: l) = List.replicate x.2.2 (x.1, x.2.1) ++ sgl l := by simp [sgl]
      rw [e2, List.getD_eq_getElem?_getD, List.getElem?_append_left (by simpa using this), List.getElem?_replicate, if_pos this]; rfl
  obtain ⟨x0, hx0⟩ : ∃ x, (sgl ns).getD 0 (0, 0) = x := ⟨_, rfl⟩
  have hx1 : x0.1 = ns[0].1 := by rw [← hx0, hfst]
  have hxi : (sgl ns)[0]? = some x0 := by
    rw [List.getElem?_eq_getElem hp]
    rw [List.getD_eq_getElem?_getD, List.getElem?_eq_getElem hp] at hx0
    exact congrArg some hx0
  have hxm : x0 ∈ sgl ns := List.mem_of_getElem? hxi
  have hbal : Trail.Bal (sgl ns) x0.1 x0.1 := fun u => by
    have e : (sgl ns).countP (fun y => y.1 == u) = (sgl ns).countP (fun y => y.2 == u) := by
      by_cases hu : u < n
      · have h := eul_bal hE u hu
        rw [Rot.outs_len] at h
        have h1 : Rot.cntT (sgl ns) (List.range (sgl ns).length) u = (sgl ns).countP (fun y => y.2 == u) := cnt_range (fun y => y.2 == u) (sgl ns)
        have h2 : Rot.cntS (sgl ns) (List.range (sgl ns).length) u = (sgl ns).countP (fun y => y.1 == u) := cnt_range (fun y => y.1 == u) (sgl ns)
        rw [← h1, ← h2, h]
      · rw [List.countP_eq_zero.2 fun y hy h => ?_, List.countP_eq_zero.2 fun y hy h => ?_]
        · have := (hrg y hy).2
          simp at h; omega
        · have := (hrg y hy).1
          simp at h; omega
    rw [e]
  have hreach : Trail.Reach (sgl ns) x0.1 := fun S hS hv y hy => by
    obtain ⟨x, hx, hm, rfl⟩ := mem_sgl.1 hy
    refine eul_reach hR hE hn0 S (fun z hz h => hS (z.1, z.2.1) (mem_sgl.2 ⟨z, hz, hmul z hz, rfl⟩) h) (by rw [← hx1]; exact hv) x hx
  obtain ⟨l, hpl, hc⟩ := Trail.euler hbal hreach
  obtain ⟨l1, l2, rfl⟩ := List.append_of_mem (hpl.mem_iff.1 hxm)
  obtain ⟨w, c1, c2, c3⟩ := Trail.Chain.append.1 hc
  subst c2
  have hus0 : (List.replicate (sgl ns).length false)[0]? = some false := by rw [List.getElem?_replicate, if_pos hp]
  have hls := lft_set hxi hus0
  rw [lft_rep] at hls
  have hrest : (lft (sgl ns) ((List.replicate (sgl ns).length false).set 0 true)).Perm (l2 ++ l1) := by
    refine List.Perm.cons_inv (a := x0) (hls.symm.trans (hpl.trans ?_))
    exact List.perm_append_comm
  have hch : Trail.Chain (l2 ++ l1) x0.2 x0.1 := Trail.Chain.append.2 ⟨_, c3, c1⟩
  have hx2 := (hrg x0 hxm).2
  unfold tourS
  rw [hx0]
  refine tourF_ok hrg (s := x0.1) (by unfold Rot.src; rw [hx0]) _ _ _ _ ⟨by simp, fun i => ?_, by simp, hch.bal.perm hrest.symm, ?_, fun j hj => by simp at hj, show ((sgl ns).getD 0 (0, 0)).2 = x0.2 by rw [hx0], rfl, by simp, ?_, hx2⟩ (by simp)
  · rw [List.mem_singleton]
    by_cases e : i = 0
    · subst e; simp [hp]
    · rw [List.getElem?_set_ne (fun h => e h.symm), List.getElem?_replicate]
      constructor
      · intro h; exact absurd h e
      · intro h; split at h <;> simp at h
  · rw [connB_iff hrg hx2]
    exact hch.reach.perm hrest.symm
  · have := hls.length_eq
    rw [List.length_cons] at this
    simp only [List.length_singleton]
    omega
end Go.Proofs.YtlnhocgjgmhfgaaGreatDoor
