/- The walk of the reference's Counted. -/
import Derived.Test.YtlnhocgjgmhfgaaGreatDoorPk9
namespace Go.Proofs.YtlnhocgjgmhfgaaGreatDoor
open Go.RowKit
set_option maxRecDepth 100000

set_option maxHeartbeats 4000000 in
theorem rCounted_any (w : World) (n : Nat) (v : Value) (ns : List (Nat × Nat × Nat)) (hR : RD n ns) (hv : SlK e3 3 w v (ns.map n3)) (hl : ns.length ≤ 1000) :
    Calls Tryz.prog 54 #[.agg #[.int .i64 (n : Nat), v]] w (Rets fun r w' => ∃ A B, r = .tuple #[.slice (some ⟨A, 0, none⟩) n n, .slice (some ⟨B, 0, none⟩) n n] ∧ Blk w' A (ints (degAt (·.1) n ns ns.length)) 3 ∧ Blk w' B (ints (degAt (·.2.1) n ns ns.length)) 3 ∧ w.heap.size ≤ A ∧ w.heap.size ≤ B ∧ Below w.heap.size w w') := by
  obtain ⟨ad, b, o, c, rfl, hi, hp, hc, hcm⟩ := hv.open elemArc
  have hnl : (ns.map n3).length = ns.length := List.length_map _
  rw [hnl] at hv hi hc ⊢
  unfold maxLen at hcm
  have n12 := hR.le
  have n1 := hR.pos
  have HR := Lib.hid hR; have HNL := Lib.hid hnl
  have HM := Lib.hid (show ∀ x ∈ ns, x.2.2 ≤ 50 from fun x hx => (hR.rng x hx).2.2.2)
  have HQ := Lib.hid ((Below.refl w.heap.size w).alloc (Nat.le_refl _) (.cells #[.int .i64 (n : Nat), .slice ad ns.length c] 28))
  have HG := Lib.hid (Blk.new w [.int .i64 (n : Nat), .slice ad ns.length c] 28)
  obtain ⟨W, hW⟩ : ∃ W, w.alloc (.cells #[.int .i64 (n : Nat), .slice ad ns.length c] 28) = W := ⟨_, rfl⟩
  have hWs : W.heap.size = w.heap.size + 1 := by rw [← hW]; simp
  rw [show [Value.int .i64 (n : Nat), .slice ad ns.length c].toArray = #[Value.int .i64 (n : Nat), .slice ad ns.length c] from rfl, hW] at HG
  rw [hW] at HQ
  have HW := Lib.hid hW; have HWS := Lib.hid hWs
  have g0 := HG.out.cell 0 _ rfl
  have hlg := HG.out.lt
  clear hW hv hnl hR hWs
  go_enter Tryz.func54, Tryz.ntmps54
  have hmk := mk_run (t := 36) elemI rfl n (by omega) (by unfold maxLen; omega)
  go_wp2_with fail
  rw [HW.out]
  go_region
  · skip
    have hw1 : Below W.heap.size W ((W.alloc (.cells (List.replicate n (.int .i64 0)).toArray 3)).alloc (.cells (List.replicate n (.int .i64 0)).toArray 3)).drew := (((Below.refl W.heap.size W).alloc (Nat.le_refl _) _).alloc (by simp) _).drew
    have hb0 : Blk ((W.alloc (.cells (List.replicate n (.int .i64 0)).toArray 3)).alloc (.cells (List.replicate n (.int .i64 0)).toArray 3)).drew W.heap.size (List.replicate n (.int .i64 0)) 3 := (Blk.new W _ _).alloc _
    have hb1 : Blk ((W.alloc (.cells (List.replicate n (.int .i64 0)).toArray 3)).alloc (.cells (List.replicate n (.int .i64 0)).toArray 3)).drew (W.heap.size + 1) (List.replicate n (.int .i64 0)) 3 := by
      have := Blk.new (W.alloc (.cells (List.replicate n (.int .i64 0)).toArray 3)) (List.replicate n (.int .i64 0)) 3
      rw [World.size_alloc] at this; exact this
    have HWW : ((W.alloc (.cells (List.replicate n (.int .i64 0)).toArray 3)).alloc (.cells (List.replicate n (.int .i64 0)).toArray 3)).drew = ((W.alloc (.cells (Array.replicate n (.int .i64 0)) 3)).alloc (.cells (Array.replicate n (.int .i64 0)) 3)).drew := by simp
    rw [HWW] at hw1 hb0 hb1
    clear HWW
    generalize ((W.alloc (.cells (Array.replicate n (.int .i64 0)) 3)).alloc (.cells (Array.replicate n (.int .i64 0)) 3)).drew = w1 at hw1 hb0 hb1 ⊢
    obtain ⟨A, hEA⟩ : ∃ A, W.heap.size = A := ⟨_, rfl⟩
    obtain ⟨B, hEB⟩ : ∃ B, W.heap.size + 1 = B := ⟨_, rfl⟩
    have hAB : A ≠ B := by omega
    have hBA : B ≠ A := by omega
    have hwS := HWS.out
    have HAW := Lib.hid (show W.heap.size ≤ A by omega)
    have HBW := Lib.hid (show W.heap.size ≤ B by omega)
    have HAD := Lib.hid (show w.heap.size < A by omega)
    have HBD := Lib.hid (show w.heap.size < B by omega)
    have hA := hb0
    have hB := hb1
    rw [hEA] at hA
    rw [hEB] at hB
    rw [hEB, hEA]
    clear hb0 hb1 hEA hEB hwS
    have HAB := Lib.hid hAB; have HBA := Lib.hid hBA
    have hd0 : Hid (Blk w1 A (ints (degAt (·.1) n ns 0)) 3) := Lib.hid (by rw [degAt_zero, ← ints_rep]; exact hA)
    have hd1 : Hid (Blk w1 B (ints (degAt (·.2.1) n ns 0)) 3) := Lib.hid (by rw [degAt_zero, ← ints_rep]; exact hB)
    have HW1 := Lib.hid hw1
    clear hA hB hw1
    go_wp2
    go_loopw [6] (fun i wr => ∃ k : Nat, k ≤ ns.length ∧ i = .int .i64 k ∧ Hid (Blk wr A (ints (degAt (·.1) n ns k)) 3) ∧ Hid (Blk wr B (ints (degAt (·.2.1) n ns k)) 3) ∧ Hid (Below W.heap.size W wr)) (fun i _ => ns.length - (intOf i).toNat)
    case atStart => exact ⟨0, Nat.zero_le _, rfl, hd0, hd1, HW1⟩
    case round =>
      clear hd0 hd1 g0 hlg
      obtain ⟨k, hk, rfl, hD0, hD1, hB⟩ := hrel
      have hgr := HG.out.below hB.out (Nat.le_refl _)
      have g1 := hgr.cell 1 _ rfl
      have hlg := hgr.lt
      clear hgr
      by_cases hkn : k < ns.length
      · have hqw := HQ.out.trans (hB.out.mono HQ.out.size)
        have hkm : k < (ns.map n3).length := by rw [HNL.out]; exact hkn
        have hrg := HR.out.rng _ (List.getElem_mem hkn)
        have hl0 := degAt_len (·.1) n ns k
        have hl1 := degAt_len (·.2.1) n ns k
        have hs0 := degAt_succ (·.1) n ns k ns[k].1 hkn rfl (by rw [hl0]; exact hrg.1)
        have hs1 := degAt_succ (·.2.1) n ns k ns[k].2.1 hkn rfl (by rw [hl1]; exact hrg.2.1)
        have hb0 := degAt_le (·.1) n ns HM.out k ns[k].1 (by rw [hl0]; exact hrg.1)
        have hb1 := degAt_le (·.2.1) n ns HM.out k ns[k].2.1 (by rw [hl1]; exact hrg.2.1)
        obtain ⟨D0, e0⟩ : ∃ D0, degAt (·.1) n ns k = D0 := ⟨_, rfl⟩
        obtain ⟨D1, e1⟩ : ∃ D1, degAt (·.2.1) n ns k = D1 := ⟨_, rfl⟩
        simp only [e0] at hl0 hs0 hb0 hD0
        simp only [e1] at hl1 hs1 hb1 hD1
        obtain ⟨⟨p, q, m⟩, hx⟩ : ∃ x, ns[k] = x := ⟨_, rfl⟩
        simp only [hx] at hrg hs0 hs1 hb0 hb1
        have hx3 : (ns.map n3)[k] = n3 (p, q, m) := by rw [List.getElem_map, hx]
        have a0 : wr.cell? ⟨b, o + k * 3, none⟩ = some (.int .i64 (p : Nat)) := hp.at hqw (Nat.le_refl _) k hkm 0 _ (by rw [hx3]; rfl)
        have a1 : wr.cell? ⟨b, o + k * 3 + 1, none⟩ = some (.int .i64 (q : Nat)) := hp.at hqw (Nat.le_refl _) k hkm 1 _ (by rw [hx3]; rfl)
        have a2 : wr.cell? ⟨b, o + k * 3 + 2, none⟩ = some (.int .i64 (m : Nat)) := hp.at hqw (Nat.le_refl _) k hkm 2 _ (by rw [hx3]; rfl)
        have hlb := (hp.below hqw (Nat.le_refl _)).1 (by omega)
        have hlb2 := hp.1 (by omega)
        have z1 : A ≠ w.heap.size := by have := HAD.out; omega
        have z2 : w.heap.size ≠ A := by have := HAD.out; omega
        have z3 : A ≠ b := by have := HAD.out; omega
        have z4 : b ≠ A := by have := HAD.out; omega
        have z5 : B ≠ w.heap.size := by have := HBD.out; omega
        have z6 : w.heap.size ≠ B := by have := HBD.out; omega
        have z7 : B ≠ b := by have := HBD.out; omega
        have z8 : b ≠ B := by have := HBD.out; omega
        obtain ⟨r1, r2, r3, r4⟩ := hrg
        have hp0 : p < D0.length := by rw [hl0]; exact r1
        have hq1 : q < D1.length := by rw [hl1]; exact r2
        obtain ⟨x, hxx⟩ : ∃ x, D0[p] = x := ⟨_, rfl⟩
        obtain ⟨y, hyy⟩ : ∃ y, D1[q] = y := ⟨_, rfl⟩
        rw [hxx] at hs0 hb0
        rw [hyy] at hs1 hb1
        have c0 : wr.cell? ⟨A, p, none⟩ = some (.int .i64 (x : Nat)) := hD0.out.cell p _ (by rw [ints_at _ _ hp0, hxx])
        have c1 : wr.cell? ⟨B, q, none⟩ = some (.int .i64 (y : Nat)) := hD1.out.cell q _ (by rw [ints_at _ _ hq1, hyy])
        have f0 := hD0.out.free p
        have f1 := hD1.out.free q
        have hla := hD0.out.lt
        have hlB := hD1.out.lt
        have p0 : (0 : Int) ≤ (p : Int) := by omega
        have p1 : (p : Int) < (n : Int) := by omega
        have q0 : (0 : Int) ≤ (q : Int) := by omega
        have q1 : (q : Int) < (n : Int) := by omega
        have p2 : (0 : Int) ≤ (k : Int) := by omega
        have q2 : (k : Int) < (ns.length : Int) := by omega
        have hab := HAB.out
        have hba := HBA.out
        have HS0 := Lib.hid hs0; have HS1 := Lib.hid hs1
        have HX3 := Lib.hid hkm
        clear hx hx3 e0 e1 hxx hyy hs0 hs1 hqw hkm
        go_wp2_with fail
        go_region
        go_wp2_with fail
        go_region
        go_wp2
        go_roundw
        case rel =>
          have ex : Value.int .i64 ((x : Int) + (m : Int)) = .int .i64 ((x + m : Nat) : Int) := by simp
          have ey : Value.int .i64 ((y : Int) + (m : Int)) = .int .i64 ((y + m : Nat) : Int) := by simp
          have t0 := ((hD0.out.set p (.int .i64 ((x : Int) + (m : Int)))).setCell (j := q) hab (.int .i64 ((y : Int) + (m : Int))))
          have t1 := ((hD1.out.setCell (j := p) hba (.int .i64 ((x : Int) + (m : Int)))).set q (.int .i64 ((y : Int) + (m : Int))))
          have t2 := ((hB.out.setCell (p := ⟨A, p, none⟩) HAW.out (.int .i64 ((x : Int) + (m : Int)))).setCell (p := ⟨B, q, none⟩) HBW.out (.int .i64 ((y : Int) + (m : Int))))
          have t3 := t2.drew.drew
          have d0 : (ints D0).set p (.int .i64 ((x : Int) + (m : Int))) = ints (degAt (·.1) n ns (k + 1)) := by rw [ex, ints_set, HS0.out]
          have d1 : (ints D1).set q (.int .i64 ((y : Int) + (m : Int))) = ints (degAt (·.2.1) n ns (k + 1)) := by rw [ey, ints_set, HS1.out]
          rw [d0] at t0
          rw [d1] at t1
          exact ⟨k + 1, by omega, by go_num, Lib.hid t0, Lib.hid t1, Lib.hid t3⟩
        case measure => simp [intOf]; omega
      · obtain rfl : k = ns.length := by omega
        have HQB := Lib.hid (HQ.out.trans (hB.out.mono HQ.out.size))
        clear hB
        go_wp2
        have Q1 := hD0.out; have Q2 := hD1.out
        go_ret2
        exact ⟨_, rfl, A, B, rfl, Q1, Q2, Nat.le_trans HQ.out.size HAW.out, Nat.le_trans HQ.out.size HBW.out, HQB.out⟩
  · skip
    have hw1 : Below W.heap.size W ((W.alloc (.cells (List.replicate n (.int .i64 0)).toArray 3)).alloc (.cells (List.replicate n (.int .i64 0)).toArray 3)).drew := (((Below.refl W.heap.size W).alloc (Nat.le_refl _) _).alloc (by simp) _).drew
    have hb0 : Blk ((W.alloc (.cells (List.replicate n (.int .i64 0)).toArray 3)).alloc (.cells (List.replicate n (.int .i64 0)).toArray 3)).drew W.heap.size (List.replicate n (.int .i64 0)) 3 := (Blk.new W _ _).alloc _
    have hb1 : Blk ((W.alloc (.cells (List.replicate n (.int .i64 0)).toArray 3)).alloc (.cells (List.replicate n (.int .i64 0)).toArray 3)).drew (W.heap.size + 1) (List.replicate n (.int .i64 0)) 3 := by
      have := Blk.new (W.alloc (.cells (List.replicate n (.int .i64 0)).toArray 3)) (List.replicate n (.int .i64 0)) 3
      rw [World.size_alloc] at this; exact this
    have HWW : ((W.alloc (.cells (List.replicate n (.int .i64 0)).toArray 3)).alloc (.cells (List.replicate n (.int .i64 0)).toArray 3)).drew = ((W.alloc (.cells (Array.replicate n (.int .i64 0)) 3)).alloc (.cells (Array.replicate n (.int .i64 0)) 3)).drew := by simp
    rw [HWW] at hw1 hb0 hb1
    clear HWW
    generalize ((W.alloc (.cells (Array.replicate n (.int .i64 0)) 3)).alloc (.cells (Array.replicate n (.int .i64 0)) 3)).drew = w1 at hw1 hb0 hb1 ⊢
    obtain ⟨A, hEA⟩ : ∃ A, W.heap.size + 1 = A := ⟨_, rfl⟩
    obtain ⟨B, hEB⟩ : ∃ B, W.heap.size = B := ⟨_, rfl⟩
    have hAB : A ≠ B := by omega
    have hBA : B ≠ A := by omega
    have hwS := HWS.out
    have HAW := Lib.hid (show W.heap.size ≤ A by omega)
    have HBW := Lib.hid (show W.heap.size ≤ B by omega)
    have HAD := Lib.hid (show w.heap.size < A by omega)
    have HBD := Lib.hid (show w.heap.size < B by omega)
    have hA := hb1
    have hB := hb0
    rw [hEA] at hA
    rw [hEB] at hB
    rw [hEA, hEB]
    clear hb0 hb1 hEA hEB hwS
    have HAB := Lib.hid hAB; have HBA := Lib.hid hBA
    have hd0 : Hid (Blk w1 A (ints (degAt (·.1) n ns 0)) 3) := Lib.hid (by rw [degAt_zero, ← ints_rep]; exact hA)
    have hd1 : Hid (Blk w1 B (ints (degAt (·.2.1) n ns 0)) 3) := Lib.hid (by rw [degAt_zero, ← ints_rep]; exact hB)
    have HW1 := Lib.hid hw1
    clear hA hB hw1
    go_wp2
    go_loopw [6] (fun i wr => ∃ k : Nat, k ≤ ns.length ∧ i = .int .i64 k ∧ Hid (Blk wr A (ints (degAt (·.1) n ns k)) 3) ∧ Hid (Blk wr B (ints (degAt (·.2.1) n ns k)) 3) ∧ Hid (Below W.heap.size W wr)) (fun i _ => ns.length - (intOf i).toNat)
    case atStart => exact ⟨0, Nat.zero_le _, rfl, hd0, hd1, HW1⟩
    case round =>
      clear hd0 hd1 g0 hlg
      obtain ⟨k, hk, rfl, hD0, hD1, hB⟩ := hrel
      have hgr := HG.out.below hB.out (Nat.le_refl _)
      have g1 := hgr.cell 1 _ rfl
      have hlg := hgr.lt
      clear hgr
      by_cases hkn : k < ns.length
      · have hqw := HQ.out.trans (hB.out.mono HQ.out.size)
        have hkm : k < (ns.map n3).length := by rw [HNL.out]; exact hkn
        have hrg := HR.out.rng _ (List.getElem_mem hkn)
        have hl0 := degAt_len (·.1) n ns k
        have hl1 := degAt_len (·.2.1) n ns k
        have hs0 := degAt_succ (·.1) n ns k ns[k].1 hkn rfl (by rw [hl0]; exact hrg.1)
        have hs1 := degAt_succ (·.2.1) n ns k ns[k].2.1 hkn rfl (by rw [hl1]; exact hrg.2.1)
        have hb0 := degAt_le (·.1) n ns HM.out k ns[k].1 (by rw [hl0]; exact hrg.1)
        have hb1 := degAt_le (·.2.1) n ns HM.out k ns[k].2.1 (by rw [hl1]; exact hrg.2.1)
        obtain ⟨D0, e0⟩ : ∃ D0, degAt (·.1) n ns k = D0 := ⟨_, rfl⟩
        obtain ⟨D1, e1⟩ : ∃ D1, degAt (·.2.1) n ns k = D1 := ⟨_, rfl⟩
        simp only [e0] at hl0 hs0 hb0 hD0
        simp only [e1] at hl1 hs1 hb1 hD1
        obtain ⟨⟨p, q, m⟩, hx⟩ : ∃ x, ns[k] = x := ⟨_, rfl⟩
        simp only [hx] at hrg hs0 hs1 hb0 hb1
        have hx3 : (ns.map n3)[k] = n3 (p, q, m) := by rw [List.getElem_map, hx]
        have a0 : wr.cell? ⟨b, o + k * 3, none⟩ = some (.int .i64 (p : Nat)) := hp.at hqw (Nat.le_refl _) k hkm 0 _ (by rw [hx3]; rfl)
        have a1 : wr.cell? ⟨b, o + k * 3 + 1, none⟩ = some (.int .i64 (q : Nat)) := hp.at hqw (Nat.le_refl _) k hkm 1 _ (by rw [hx3]; rfl)
        have a2 : wr.cell? ⟨b, o + k * 3 + 2, none⟩ = some (.int .i64 (m : Nat)) := hp.at hqw (Nat.le_refl _) k hkm 2 _ (by rw [hx3]; rfl)
        have hlb := (hp.below hqw (Nat.le_refl _)).1 (by omega)
        have hlb2 := hp.1 (by omega)
        have z1 : A ≠ w.heap.size := by have := HAD.out; omega
        have z2 : w.heap.size ≠ A := by have := HAD.out; omega
        have z3 : A ≠ b := by have := HAD.out; omega
        have z4 : b ≠ A := by have := HAD.out; omega
        have z5 : B ≠ w.heap.size := by have := HBD.out; omega
        have z6 : w.heap.size ≠ B := by have := HBD.out; omega
        have z7 : B ≠ b := by have := HBD.out; omega
        have z8 : b ≠ B := by have := HBD.out; omega
        obtain ⟨r1, r2, r3, r4⟩ := hrg
        have hp0 : p < D0.length := by rw [hl0]; exact r1
        have hq1 : q < D1.length := by rw [hl1]; exact r2
        obtain ⟨x, hxx⟩ : ∃ x, D0[p] = x := ⟨_, rfl⟩
        obtain ⟨y, hyy⟩ : ∃ y, D1[q] = y := ⟨_, rfl⟩
        rw [hxx] at hs0 hb0
        rw [hyy] at hs1 hb1
        have c0 : wr.cell? ⟨A, p, none⟩ = some (.int .i64 (x : Nat)) := hD0.out.cell p _ (by rw [ints_at _ _ hp0, hxx])
        have c1 : wr.cell? ⟨B, q, none⟩ = some (.int .i64 (y : Nat)) := hD1.out.cell q _ (by rw [ints_at _ _ hq1, hyy])
        have f0 := hD0.out.free p
        have f1 := hD1.out.free q
        have hla := hD0.out.lt
        have hlB := hD1.out.lt
        have p0 : (0 : Int) ≤ (p : Int) := by omega
        have p1 : (p : Int) < (n : Int) := by omega
        have q0 : (0 : Int) ≤ (q : Int) := by omega
        have q1 : (q : Int) < (n : Int) := by omega
        have p2 : (0 : Int) ≤ (k : Int) := by omega
        have q2 : (k : Int) < (ns.length : Int) := by omega
        have hab := HAB.out
        have hba := HBA.out
        have HS0 := Lib.hid hs0; have HS1 := Lib.hid hs1
        have HX3 := Lib.hid hkm
        clear hx hx3 e0 e1 hxx hyy hs0 hs1 hqw hkm
        go_wp2_with fail
        go_region
        go_wp2_with fail
        go_region
        go_wp2
        go_roundw
        case rel =>
          have ex : Value.int .i64 ((x : Int) + (m : Int)) = .int .i64 ((x + m : Nat) : Int) := by simp
          have ey : Value.int .i64 ((y : Int) + (m : Int)) = .int .i64 ((y + m : Nat) : Int) := by simp
          have t0 := ((hD0.out.set p (.int .i64 ((x : Int) + (m : Int)))).setCell (j := q) hab (.int .i64 ((y : Int) + (m : Int))))
          have t1 := ((hD1.out.setCell (j := p) hba (.int .i64 ((x : Int) + (m : Int)))).set q (.int .i64 ((y : Int) + (m : Int))))
          have t2 := ((hB.out.setCell (p := ⟨A, p, none⟩) HAW.out (.int .i64 ((x : Int) + (m : Int)))).setCell (p := ⟨B, q, none⟩) HBW.out (.int .i64 ((y : Int) + (m : Int))))
          have t3 := t2.drew.drew
          have d0 : (ints D0).set p (.int .i64 ((x : Int) + (m : Int))) = ints (degAt (·.1) n ns (k + 1)) := by rw [ex, ints_set, HS0.out]
          have d1 : (ints D1).set q (.int .i64 ((y : Int) + (m : Int))) = ints (degAt (·.2.1) n ns (k + 1)) := by rw [ey, ints_set, HS1.out]
          rw [d0] at t0
          rw [d1] at t1
          exact ⟨k + 1, by omega, by go_num, Lib.hid t0, Lib.hid t1, Lib.hid t3⟩
        case measure => simp [intOf]; omega
      · obtain rfl : k = ns.length := by omega
        have HQB := Lib.hid (HQ.out.trans (hB.out.mono HQ.out.size))
        clear hB
        go_wp2
        have Q1 := hD0.out; have Q2 := hD1.out
        go_ret2
        exact ⟨_, rfl, A, B, rfl, Q1, Q2, Nat.le_trans HQ.out.size HAW.out, Nat.le_trans HQ.out.size HBW.out, HQB.out⟩
end Go.Proofs.YtlnhocgjgmhfgaaGreatDoor
