/- The walk of euler's TwoWay at right graphs. -/
import Derived.Test.YtlnhocgjgmhfgaaGreatDoorPk5
namespace Go.Proofs.YtlnhocgjgmhfgaaGreatDoor
open Go.RowKit
set_option maxRecDepth 100000

/-- The arcs of an edge, in both directions. -/
def tw1 (x : Nat × Nat × Nat) : List (Nat × Nat × Nat) := if x.1 = x.2.1 then [(x.1, x.1, 2 * x.2.2)] else [(x.1, x.2.1, x.2.2), (x.2.1, x.1, x.2.2)]
def tw (ns : List (Nat × Nat × Nat)) : List (Nat × Nat × Nat) := ns.flatMap tw1
theorem tw_take (ns : List (Nat × Nat × Nat)) (k : Nat) (h : k < ns.length) : tw (ns.take (k + 1)) = tw (ns.take k) ++ tw1 ns[k] := by
  unfold tw; rw [List.take_succ_eq_append_getElem h, List.flatMap_append]; simp
theorem tw_len (ns : List (Nat × Nat × Nat)) : (tw ns).length ≤ 2 * ns.length := by
  induction ns with
  | nil => simp [tw]
  | cons x l ih =>
    have e : tw (x :: l) = tw1 x ++ tw l := by simp [tw]
    have : (tw1 x).length ≤ 2 := by unfold tw1; split <;> simp
    rw [e, List.length_append, List.length_cons]; omega
/-- The cells of a triple of numbers. -/
def t3 (x : Nat × Nat × Nat) : List Value := e3 (n3 x)
theorem t3_len (x : Nat × Nat × Nat) : (t3 x).length = 3 := rfl
theorem t3_one (x : Nat × Nat × Nat) : ∀ u ∈ t3 x, u.oneCell' = true := e3_one _
theorem own_otherK {w : World} {b e s n g j : Nat} {u v : Value} {ys : List Value} (h : w.ownsRow b e s v n ys) (hne : v.ownBlock ≠ some g) : (w.setCell ⟨g, j, none⟩ u).ownsRow b e s v n ys := by
  refine ⟨h.1, h.2.imp_right fun ⟨g', cap, cur, h1, h2, h3, r⟩ => ⟨g', cap, cur, h1, h2, ?_, r⟩⟩
  have : g' ≠ g := fun e2 => hne (by rw [h1, e2]; rfl)
  exact (Below.heap_setCell _ _ _ _ this).trans h3
theorem own_ge {w : World} {b e s n : Nat} {v : Value} {ys : List Value} (h : w.ownsRow b e s v n ys) : ∀ g, v.ownBlock = some g → b ≤ g := fun g e => by
  rcases h.2 with ⟨rfl, -⟩ | ⟨g', cap, cur, rfl, hb, -⟩
  · simp [Value.ownBlock] at e
  · simp [Value.ownBlock] at e; omega

set_option maxHeartbeats 4000000 in
theorem TwoWay_ok (w : World) (n : Int) (v : Value) (es : List (Int × Int × Int)) (ns : List (Nat × Nat × Nat)) (hv : SlK e3 3 w v es) (hR : RG n es ns) (hc : chkG n es = 0) (hb : ∀ x ∈ ns, x.1 = x.2.1 → 2 * x.2.2 ≤ 50) (hl : ns.length ≤ 100000) :
    Calls Tryz.prog 9 #[.agg #[.int .i64 n, v]] w (Rets fun r w' => ∃ u ys, r = .tuple #[.agg #[.int .i64 n, u], .int .i64 0] ∧ List.Perm ys (tw ns) ∧ (ys.Pairwise fun x y => ¬ (y.1 < x.1 ∨ (y.1 = x.1 ∧ y.2.1 < x.2.1))) ∧ w'.ownsRow w.heap.size 83 3 u ys.length (ys.flatMap t3) ∧ Below w.heap.size w w') := by
  have hnl : es.length = ns.length := by rw [hR.eq, List.length_map]
  have HV := Lib.hid hv
  obtain ⟨ad, b, o, c, rfl, hi, hp, hcl, hcm⟩ := hv.open elemEdge
  unfold maxLen at hcm
  have hx : ∀ k (h : k < ns.length) (h' : k < es.length), es[k] = n3 ns[k] := fun k h h' => by simp [hR.eq]
  have HX := Lib.hid hx; have HBG := Lib.hid hb; have HC := Lib.hid hc; have HNL := Lib.hid hnl
  have HQ := Lib.hid ((Below.refl w.heap.size w).alloc (Nat.le_refl _) (.cells #[.int .i64 n, .slice ad es.length c] 24))
  have HG := Lib.hid (Blk.new w [.int .i64 n, .slice ad es.length c] 24)
  have q1 := ((Below.refl w.heap.size w).alloc (Nat.le_refl _) (.cells #[.int .i64 n, .slice ad es.length c] 24)).alloc (by simp) (.cells #[.int .i64 0, .slice none 0 0] 28)
  have HG1 := Lib.hid (HG.out.alloc (.cells #[.int .i64 0, .slice none 0 0] 28))
  have HR1 := Lib.hid (show Blk ((w.alloc (.cells #[.int .i64 n, .slice ad es.length c] 24)).alloc (.cells #[.int .i64 0, .slice none 0 0] 28)) (w.heap.size + 1) [.int .i64 0, .slice none 0 0] 28 by
    have := Blk.new (w.alloc (.cells #[.int .i64 n, .slice ad es.length c] 24)) [.int .i64 0, .slice none 0 0] 28
    rwa [World.size_alloc] at this)
  have HRNG := Lib.hid (show ∀ x ∈ tw ns, x.1 < 16 ∧ x.2.1 < 16 from fun x hx => by
    simp only [tw, List.mem_flatMap] at hx
    obtain ⟨y, hy, hx⟩ := hx
    have h1 := hR.rng y hy
    have h2 := hR.le
    unfold tw1 at hx
    split at hx
    · simp at hx; subst hx; simp only; omega
    · simp at hx; rcases hx with rfl | rfl <;> (simp only; omega))
  have HM := Lib.hid (show ∀ x ∈ ns, x.2.2 ≤ 50 from fun x hx => (hR.rng x hx).2.2.2.1)
  clear hv hR hc hb hx hnl
  go_enter Tryz.func9, Tryz.ntmps9
  go_wp2_with (go_at_call 37; (with_reducible refine (GCheck_any _ n _ es (HV.out.below q1 (Nat.le_refl _))).mono ?_); rintro e w1 ⟨v, rfl, rfl, hb1⟩; rw [HC.out]; have HG2 := Lib.hid (HG1.out.below hb1 (Nat.le_refl _)); have HR2 := Lib.hid (HR1.out.below hb1 (Nat.le_refl _)); have g0 := HG2.out.cell 0 _ rfl; have g1 := HG2.out.cell 1 _ rfl; have Q1 := Lib.hid (q1.trans (hb1.mono q1.size)); have hlg := HG2.out.lt; have hlr := HR2.out.lt; have hzw := Q1.out.size)
  have HW1 := Lib.hid hlr
  obtain ⟨D, hD⟩ : ∃ D, w1.heap.size = D := ⟨_, rfl⟩
  have HD := Lib.hid (Blk.new w1 [.int .i64 n, .slice none 0 0] 28)
  have HDB := Lib.hid ((Below.refl w1.heap.size w1).alloc (Nat.le_refl _) (.cells #[.int .i64 n, .slice none 0 0] 28))
  rw [hD] at HD ⊢
  have HDD := Lib.hid hD
  have O0 : Hid ((w1.alloc (.cells #[.int .i64 n, .slice none 0 0] 28)).ownsRow (D + 1) 83 3 (.slice none 0 0) (tw (ns.take 0)).length ((tw (ns.take 0)).flatMap t3)) := Lib.hid (World.ownsRow_nil _ _ _ _)
  clear hb1 g0 g1 hlg hlr hD hzw q1
  go_loopw [20] (fun i wr => ∃ (k : Nat) (U : Value), k ≤ ns.length ∧ i = .int .i64 k ∧ Hid (Blk wr D [.int .i64 n, U] 28) ∧ Hid (wr.ownsRow (D + 1) 83 3 U (tw (ns.take k)).length ((tw (ns.take k)).flatMap t3)) ∧ Hid (Below w1.heap.size w1 wr)) (fun i _ => ns.length - (intOf i).toNat)
  case atStart => exact ⟨0, .slice none 0 0, Nat.zero_le _, rfl, HD, O0, HDB⟩
  case round =>
    clear HD O0 HDB
    obtain ⟨k, U, hk, rfl, hD, hO, hB⟩ := hrel
    obtain ⟨ua, uc, rfl⟩ := own_formK hO.out
    have hqw := Q1.out.trans (hB.out.mono Q1.out.size)
    have HQW := Lib.hid hqw
    have hld := hD.out.lt
    have d0 := hD.out.cell 0 _ rfl
    have d1 := hD.out.cell 1 _ rfl
    by_cases hkn : k < ns.length
    · have hke : k < es.length := by rw [HNL.out]; exact hkn
      have hkz : (k : Int) < (es.length : Int) := by omega
      have hx3 := HX.out k hkn hke
      have HTK := Lib.hid (tw_take ns k hkn)
      have hmm := HM.out _ (List.getElem_mem hkn)
      have hbb := HBG.out _ (List.getElem_mem hkn)
      have hlt := tw_len (ns.take k)
      have hlt2 : (ns.take k).length ≤ ns.length := by simp; omega
      obtain ⟨⟨p, q, m⟩, hx⟩ : ∃ x, ns[k] = x := ⟨_, rfl⟩
      rw [hx] at hx3 HTK hmm hbb
      simp only at hmm hbb
      have a0 : wr.cell? ⟨b, o + k * 3, none⟩ = some (.int .i64 (p : Nat)) := hp.at hqw (Nat.le_refl _) k hke 0 _ (by rw [hx3]; rfl)
      have a1 : wr.cell? ⟨b, o + k * 3 + 1, none⟩ = some (.int .i64 (q : Nat)) := hp.at hqw (Nat.le_refl _) k hke 1 _ (by rw [hx3]; rfl)
      have a2 : wr.cell? ⟨b, o + k * 3 + 2, none⟩ = some (.int .i64 (m : Nat)) := hp.at hqw (Nat.le_refl _) k hke 2 _ (by rw [hx3]; rfl)
      have hlb := (hp.below hqw (Nat.le_refl _)).1 (by omega)
      obtain ⟨T, hT⟩ : ∃ T, tw (ns.take k) = T := ⟨_, rfl⟩
      rw [hT] at hO HTK hlt d1 hD
      have HO1 := Lib.hid (hO.out.alloc (.cells #[.int .i64 (p : Nat), .int .i64 (q : Nat), .int .i64 (m : Nat)] 81))
      have HDK := Lib.hid hD.out
      have b0 := Lib.hid ((Below.refl (D + 1) wr).alloc hld (.cells #[.int .i64 (p : Nat), .int .i64 (q : Nat), .int .i64 (m : Nat)] 81))
      have hsz : D + 1 ≤ (wr.alloc (.cells #[.int .i64 (p : Nat), .int .i64 (q : Nat), .int .i64 (m : Nat)] 81)).heap.size := by simp; omega
      have HSZ := Lib.hid hsz
      have HBB := Lib.hid hB.out
      clear hx hx3 hT hqw hsz hO hD
      by_cases hpq : p = q
      · subst hpq
        have hm2 : 2 * m ≤ 50 := hbb rfl
        have ht1 : tw1 (p, p, m) = [(p, p, 2 * m)] := by simp [tw1]
        have e1 : ((p : Int) == (p : Int)) = true := by simp
        have e2 : ¬ (50 : Int) < 2 * (m : Int) := by omega
        have HT1 := Lib.hid ht1
        have HNE := Lib.hid (show t3 (p, p, 2 * m) = [.int .i64 (p : Nat), .int .i64 (p : Nat), .int .i64 (2 * (m : Int))] by simp [t3, e3, n3])
        clear ht1 hbb
        go_wp2_with (at_builtin; go_loud (refine appM (m := 1) (news := [.int .i64 (p : Nat), .int .i64 (p : Nat), .int .i64 (2 * (m : Int))]) elemArc rfl (.tmp 35) (.tmp 44) rfl (by rfl) (by rw [World.size_alloc]; rfl) HO1.out b0.out (Nat.le_refl _) HSZ.out rfl (by intro u hu; simp at hu; rcases hu with rfl | rfl <;> rfl) (by omega) (by unfold maxLen; omega) ?_); intro v' w5 hown' hb'; obtain ⟨va, vc, rfl⟩ := own_formK hown'; have HDK5 := Lib.hid (show Blk w5 D [.int .i64 n, .slice ua T.length uc] 28 from (hb'.block D (Nat.lt_succ_self _)).trans HDK.out); have HO5 := Lib.hid hown'; have HB5 := Lib.hid hb'; clear hown'; have f1 := HDK5.out.free 1; have k1 := HDK5.out.cell 1 _ rfl)
        have HD6 := Lib.hid (HDK5.out.set 1 (.slice va (T.length + 1) vc))
        have HO6 := Lib.hid (own_otherK (g := D) (j := 1) (u := .slice va (T.length + 1) vc) HO5.out (fun e => absurd (own_ge HO5.out _ e) (by omega)))
        have HB6 := Lib.hid ((HBB.out.trans (HB5.out.mono (show w1.heap.size ≤ D + 1 by have := HDD.out; omega))).setCell (p := ⟨D, 1, none⟩) (show w1.heap.size ≤ D from Nat.le_of_eq HDD.out) (.slice va (T.length + 1) vc))
        clear f1 k1 hb'
        go_wp2
        go_roundw
        case rel => exact ⟨k + 1, .slice va (T.length + 1) vc, by omega, by go_num, HD6, Lib.hid (by rw [HTK.out, HT1.out, List.length_append, List.flatMap_append, show [(p, p, 2 * m)].flatMap t3 = [.int .i64 (p : Nat), .int .i64 (p : Nat), .int .i64 (2 * (m : Int))] from HNE.out]; exact HO6.out), HB6⟩
        case measure => simp [intOf]; omega
      · have ht1 : tw1 (p, q, m) = [(p, q, m), (q, p, m)] := by simp [tw1, hpq]
        have e1 : ((p : Int) == (q : Int)) = false := by simp; omega
        have HT1 := Lib.hid ht1
        have HNE : Hid ([(p, q, m), (q, p, m)].flatMap t3 = [.int .i64 (p : Nat), .int .i64 (q : Nat), .int .i64 (m : Nat), .int .i64 (q : Nat), .int .i64 (p : Nat), .int .i64 (m : Nat)]) := Lib.hid rfl
        clear ht1 hbb hpq
        go_wp2_with (at_builtin; go_loud (refine appM (m := 2) (news := [.int .i64 (p : Nat), .int .i64 (q : Nat), .int .i64 (m : Nat), .int .i64 (q : Nat), .int .i64 (p : Nat), .int .i64 (m : Nat)]) elemArc rfl (.tmp 48) (.tmp 63) rfl (by rfl) (by rw [World.size_alloc]; rfl) HO1.out b0.out (Nat.le_refl _) HSZ.out rfl (by intro u hu; simp only [List.mem_cons, List.not_mem_nil, or_false] at hu; rcases hu with rfl | rfl | rfl | rfl | rfl | rfl <;> rfl) (by omega) (by unfold maxLen; omega) ?_); intro v' w5 hown' hb'; obtain ⟨va, vc, rfl⟩ := own_formK hown'; have HDK5 := Lib.hid (show Blk w5 D [.int .i64 n, .slice ua T.length uc] 28 from (hb'.block D (Nat.lt_succ_self _)).trans HDK.out); have HO5 := Lib.hid hown'; have HB5 := Lib.hid hb'; clear hown'; have f1 := HDK5.out.free 1; have k1 := HDK5.out.cell 1 _ rfl)
        have HD6 := Lib.hid (HDK5.out.set 1 (.slice va (T.length + 2) vc))
        have HO6 := Lib.hid (own_otherK (g := D) (j := 1) (u := .slice va (T.length + 2) vc) HO5.out (fun e => absurd (own_ge HO5.out _ e) (by omega)))
        have HB6 := Lib.hid ((HBB.out.trans (HB5.out.mono (show w1.heap.size ≤ D + 1 by have := HDD.out; omega))).setCell (p := ⟨D, 1, none⟩) (show w1.heap.size ≤ D from Nat.le_of_eq HDD.out) (.slice va (T.length + 2) vc))
        clear f1 k1 hb'
        go_wp2
        go_roundw
        case rel => exact ⟨k + 1, .slice va (T.length + 2) vc, by omega, by go_num, HD6, Lib.hid (by rw [HTK.out, HT1.out, List.length_append, List.flatMap_append, show [(p, q, m), (q, p, m)].flatMap t3 = [.int .i64 (p : Nat), .int .i64 (q : Nat), .int .i64 (m : Nat), .int .i64 (q : Nat), .int .i64 (p : Nat), .int .i64 (m : Nat)] from HNE.out]; exact HO6.out), HB6⟩
        case measure => simp [intOf]; omega
    · obtain rfl : k = ns.length := by omega
      have hkz : ¬ (ns.length : Int) < (es.length : Int) := by have := HNL.out; omega
      rw [List.take_length] at hO d1 hD
      have hlt := tw_len ns
      have HRr := Lib.hid (HR2.out.below hB.out (Nat.le_refl _))
      obtain ⟨T, hT⟩ : ∃ T, tw ns = T := ⟨_, rfl⟩
      have hrg := HRNG.out
      rw [hT] at hO hlt d1 hD hrg
      have HT := Lib.hid hT; have HRG := Lib.hid hrg
      have HO := Lib.hid hO.out; have HDr := Lib.hid hD.out
      have hTL : T.length < 4611686018427387904 := by omega
      have hRl : w.heap.size + 1 < D := by rw [← HDD.out]; exact HW1.out
      have HRL := Lib.hid hRl
      clear hT hrg hO hD hqw
      go_wp2_with (go_at_call 38; (with_reducible refine (sortArcs HRG.out hTL HO.out).mono ?_); rintro e w2 ⟨rfl, ys, hp1, hp2, hown2, hg2⟩; have HP1 := Lib.hid hp1; have HP2 := Lib.hid hp2; have HO2 := Lib.hid hown2; have HG2 := Lib.hid hg2; clear hp1 hp2 hown2 hg2; have HD2 := Lib.hid (show Blk w2 D [.int .i64 n, .slice ua T.length uc] 28 from (HG2.out.block D hld (fun e => by have := own_ge HO.out _ e.symm; omega)).trans HDr.out); have HR3 := Lib.hid (show Blk w2 (w.heap.size + 1) [.int .i64 0, .slice none 0 0] 28 from (HG2.out.block (w.heap.size + 1) (by omega) (fun e => by have := own_ge HO.out _ e.symm; omega)).trans HRr.out); have e0 := HD2.out.cell 0 _ rfl; have e1 := HD2.out.cell 1 _ rfl; have r0 := HR3.out.cell 0 _ rfl; have r1 := HR3.out.cell 1 _ rfl; have f0 := HR3.out.free 0; have f1 := HR3.out.free 1)
      have HR4 := Lib.hid ((HR3.out.set 0 (.int .i64 n)).set 1 (.slice ua T.length uc))
      have hg := HG2.out
      have hbw := hB.out.grown hg hB.out.size (fun j e => by have := own_ge HO.out _ e; have := HDD.out; omega)
      have hpl := HP1.out.length_eq
      have hO4 : ((w2.setCell ⟨w.heap.size + 1, 0, none⟩ (.int .i64 n)).setCell ⟨w.heap.size + 1, 1, none⟩ (.slice ua T.length uc)).ownsRow w.heap.size 83 3 (.slice ua T.length uc) ys.length (ys.flatMap t3) :=
        own_baseK (own_otherK (own_otherK HO2.out (fun e => by have := own_ge HO2.out _ e; omega)) (fun e => by have := own_ge HO2.out _ e; omega)) (by omega)
      have hB4 := ((Q1.out.trans (hbw.mono Q1.out.size)).setCell (p := ⟨w.heap.size + 1, 0, none⟩) (by simp) (.int .i64 n)).setCell (p := ⟨w.heap.size + 1, 1, none⟩) (by simp) (.slice ua T.length uc)
      obtain ⟨w4, hw4⟩ : ∃ w4, (w2.setCell ⟨w.heap.size + 1, 0, none⟩ (.int .i64 n)).setCell ⟨w.heap.size + 1, 1, none⟩ (.slice ua T.length uc) = w4 := ⟨_, rfl⟩
      rw [hw4] at HR4 hO4 hB4 ⊢
      have z0 := HR4.out.cell 0 _ rfl
      have z1 := HR4.out.cell 1 _ rfl
      have hp5 : List.Perm ys (tw ns) := by rw [HT.out]; exact HP1.out
      exact bodyPost_ret (v := .tuple #[.agg #[.int .i64 n, .slice ua T.length uc], .int .i64 0]) (by simp [results, Tryz.results9, go_sem, z0, z1]) rfl ⟨_, rfl, _, ys, rfl, hp5, HP2.out, hO4, hB4⟩
end Go.Proofs.YtlnhocgjgmhfgaaGreatDoor
