/- TwoWay of both sides; the law EulerDoubles. -/
import Derived.Test.YtlnhocgjgmhfgaaGreatDoorPk38
import Derived.Test.YtlnhocgjgmhfgaaGreatDoorPk37
namespace Go.Proofs.YtlnhocgjgmhfgaaGreatDoor
open Go.RowKit
set_option maxRecDepth 100000

def RetT2 (w : World) (N : Int) (L : List (Nat × Nat × Nat)) (k : Int) : Ending → World → Prop := Rets fun r w' => ∃ u, r = .tuple #[.agg #[.int .i64 N, u], .int .i64 k] ∧ SlK e3 3 w' u (L.map n3) ∧ Below w.heap.size w w'
set_option maxHeartbeats 4000000 in
theorem TwoWay_many (w : World) (n : Int) (v : Value) (es : List (Int × Int × Int)) (ns : List (Nat × Nat × Nat)) (hv : SlK e3 3 w v es) (hR : RG n es ns) (hc : chkG n es = 0) (hb : ¬ ∀ x ∈ ns, x.1 = x.2.1 → 2 * x.2.2 ≤ 50) (hl : ns.length ≤ 100000) :
    Calls Tryz.prog 9 #[.agg #[.int .i64 n, v]] w (RetT2 w 0 [] 5) := by
  have hnl : es.length = ns.length := by rw [hR.eq, List.length_map]
  have HV := Lib.hid hv
  obtain ⟨ad, b, o, c, rfl, hi, hp, hcl, hcm⟩ := hv.open elemEdge
  unfold maxLen at hcm
  have hx : ∀ k (h : k < ns.length) (h' : k < es.length), es[k] = n3 ns[k] := fun k h h' => by simp [hR.eq]
  have HX := Lib.hid hx; have HBG := Lib.hid hb; have HC := Lib.hid hc; have HNL := Lib.hid hnl
  have HQ := Lib.hid ((Below.refl w.heap.size w).alloc (Nat.le_refl _) (.cells #[.int .i64 n, .slice ad es.length c] 24))
  have HG := Lib.hid (Blk.new w [.int .i64 n, .slice ad es.length c] 24)
  have q1 := ((Below.refl w.heap.size w).alloc (Nat.le_refl _) (.cells #[.int .i64 n, .slice ad es.length c] 24)).alloc (by simp) (.cells #[.int .i64 0, .slice none 0 0] 28)
  have HG1 := Lib.hid (HG.out.alloc (.cells #[.int .i64 0, .slice none 0 0] 28))
  have HR1 := Lib.hid (show Blk ((w.alloc (.cells #[.int .i64 n, .slice ad es.length c] 24)).alloc (.cells #[.int .i64 0, .slice none 0 0] 28)) (w.heap.size + 1) [.int .i64 0, .slice none 0 0] 28 by
    have := Blk.new (w.alloc (.cells #[.int .i64 n, .slice ad es.length c] 24)) [.int .i64 0, .slice none 0 0] 28
    rwa [World.size_alloc] at this)
  have HRNG := Lib.hid (show ∀ x ∈ tw ns, x.1 < 16 ∧ x.2.1 < 16 from fun x hx => by
    simp only [tw, List.mem_flatMap] at hx
    obtain ⟨y, hy, hx⟩ := hx
    have h1 := hR.rng y hy
    have h2 := hR.le
    unfold tw1 at hx
    split at hx
    · simp at hx; subst hx; simp only; omega
    · simp at hx; rcases hx with rfl | rfl <;> (simp only; omega))
  have HM := Lib.hid (show ∀ x ∈ ns, x.2.2 ≤ 50 from fun x hx => (hR.rng x hx).2.2.2.1)
  clear hv hR hc hb hx hnl
  go_enter Tryz.func9, Tryz.ntmps9
  go_wp2_with (go_at_call 37; (with_reducible refine (GCheck_any _ n _ es (HV.out.below q1 (Nat.le_refl _))).mono ?_); rintro e w1 ⟨v, rfl, rfl, hb1⟩; rw [HC.out]; have HG2 := Lib.hid (HG1.out.below hb1 (Nat.le_refl _)); have HR2 := Lib.hid (HR1.out.below hb1 (Nat.le_refl _)); have g0 := HG2.out.cell 0 _ rfl; have g1 := HG2.out.cell 1 _ rfl; have Q1 := Lib.hid (q1.trans (hb1.mono q1.size)); have hlg := HG2.out.lt; have hlr := HR2.out.lt; have hzw := Q1.out.size)
  have HW1 := Lib.hid hlr
  obtain ⟨D, hD⟩ : ∃ D, w1.heap.size = D := ⟨_, rfl⟩
  have HD := Lib.hid (Blk.new w1 [.int .i64 n, .slice none 0 0] 28)
  have HDB := Lib.hid ((Below.refl w1.heap.size w1).alloc (Nat.le_refl _) (.cells #[.int .i64 n, .slice none 0 0] 28))
  rw [hD] at HD ⊢
  have HDD := Lib.hid hD
  have O0 : Hid ((w1.alloc (.cells #[.int .i64 n, .slice none 0 0] 28)).ownsRow (D + 1) 83 3 (.slice none 0 0) (tw (ns.take 0)).length ((tw (ns.take 0)).flatMap t3)) := Lib.hid (World.ownsRow_nil _ _ _ _)
  clear hb1 g0 g1 hlg hlr hD hzw q1
  go_loopw [20] (fun i wr => ∃ (k : Nat) (U : Value), k ≤ ns.length ∧ i = .int .i64 k ∧ Hid (Blk wr D [.int .i64 n, U] 28) ∧ Hid (wr.ownsRow (D + 1) 83 3 U (tw (ns.take k)).length ((tw (ns.take k)).flatMap t3)) ∧ Hid (Below w1.heap.size w1 wr) ∧ Hid (∀ x ∈ ns.take k, x.1 = x.2.1 → 2 * x.2.2 ≤ 50)) (fun i _ => ns.length - (intOf i).toNat)
  case atStart => exact ⟨0, .slice none 0 0, Nat.zero_le _, rfl, HD, O0, HDB, Lib.hid (by simp)⟩
  case round =>
    clear HD O0 HDB
    obtain ⟨k, U, hk, rfl, hD, hO, hB, hA⟩ := hrel
    obtain ⟨ua, uc, rfl⟩ := own_formK hO.out
    have hqw := Q1.out.trans (hB.out.mono Q1.out.size)
    have HQW := Lib.hid hqw
    have hld := hD.out.lt
    have d0 := hD.out.cell 0 _ rfl
    have d1 := hD.out.cell 1 _ rfl
    by_cases hkn : k < ns.length
    · have hke : k < es.length := by rw [HNL.out]; exact hkn
      have hkz : (k : Int) < (es.length : Int) := by omega
      have hx3 := HX.out k hkn hke
      have HTK := Lib.hid (tw_take ns k hkn)
      have hmm := HM.out _ (List.getElem_mem hkn)
      have HAN := Lib.hid (fun h : ns[k].1 = ns[k].2.1 → 2 * ns[k].2.2 ≤ 50 => show ∀ x ∈ ns.take (k + 1), x.1 = x.2.1 → 2 * x.2.2 ≤ 50 from fun x hx => by
        rw [List.take_succ_eq_append_getElem hkn, List.mem_append, List.mem_singleton] at hx
        rcases hx with hx | rfl
        · exact hA.out x hx
        · exact h)
      have hlt := tw_len (ns.take k)
      have hlt2 : (ns.take k).length ≤ ns.length := by simp; omega
      obtain ⟨⟨p, q, m⟩, hx⟩ : ∃ x, ns[k] = x := ⟨_, rfl⟩
      rw [hx] at hx3 HTK hmm HAN
      simp only at hmm HAN
      have a0 : wr.cell? ⟨b, o + k * 3, none⟩ = some (.int .i64 (p : Nat)) := hp.at hqw (Nat.le_refl _) k hke 0 _ (by rw [hx3]; rfl)
      have a1 : wr.cell? ⟨b, o + k * 3 + 1, none⟩ = some (.int .i64 (q : Nat)) := hp.at hqw (Nat.le_refl _) k hke 1 _ (by rw [hx3]; rfl)
      have a2 : wr.cell? ⟨b, o + k * 3 + 2, none⟩ = some (.int .i64 (m : Nat)) := hp.at hqw (Nat.le_refl _) k hke 2 _ (by rw [hx3]; rfl)
      have hlb := (hp.below hqw (Nat.le_refl _)).1 (by omega)
      obtain ⟨T, hT⟩ : ∃ T, tw (ns.take k) = T := ⟨_, rfl⟩
      rw [hT] at hO HTK hlt d1 hD
      have HO1 := Lib.hid (hO.out.alloc (.cells #[.int .i64 (p : Nat), .int .i64 (q : Nat), .int .i64 (m : Nat)] 81))
      have HDK := Lib.hid hD.out
      have b0 := Lib.hid ((Below.refl (D + 1) wr).alloc hld (.cells #[.int .i64 (p : Nat), .int .i64 (q : Nat), .int .i64 (m : Nat)] 81))
      have hsz : D + 1 ≤ (wr.alloc (.cells #[.int .i64 (p : Nat), .int .i64 (q : Nat), .int .i64 (m : Nat)] 81)).heap.size := by simp; omega
      have HSZ := Lib.hid hsz
      have HBB := Lib.hid hB.out
      clear hx hx3 hT hqw hsz hO hD
      by_cases hpq : p = q
      · subst hpq
        by_cases hm2 : 2 * m ≤ 50
        rotate_left
        · have e1 : ((p : Int) == (p : Int)) = true := by simp
          have e2 : (50 : Int) < 2 * (m : Int) := by omega
          have HR3 := Lib.hid ((HR2.out.below hB.out (Nat.le_refl _)).alloc (.cells #[.int .i64 (p : Nat), .int .i64 (p : Nat), .int .i64 (m : Nat)] 81))
          have r0 := HR3.out.cell 0 _ rfl; have r1 := HR3.out.cell 1 _ rfl; have f0 := HR3.out.free 0; have f1 := HR3.out.free 1; have rl := HR3.out.lt
          clear HAN
          go_wp2
          have HR4 := (HR3.out.set 0 (.int .i64 0)).set 1 (.slice none 0 0)
          have hB4 := ((HQW.out.alloc HQW.out.size (.cells #[.int .i64 (p : Nat), .int .i64 (p : Nat), .int .i64 (m : Nat)] 81)).setCell (p := ⟨w.heap.size + 1, 0, none⟩) (by simp) (.int .i64 0)).setCell (p := ⟨w.heap.size + 1, 1, none⟩) (by simp) (.slice none 0 0)
          obtain ⟨w4, hw4⟩ : ∃ w4, ((wr.alloc (.cells #[.int .i64 (p : Nat), .int .i64 (p : Nat), .int .i64 (m : Nat)] 81)).setCell ⟨w.heap.size + 1, 0, none⟩ (.int .i64 0)).setCell ⟨w.heap.size + 1, 1, none⟩ (.slice none 0 0) = w4 := ⟨_, rfl⟩
          rw [hw4] at HR4 hB4 ⊢
          have z0 := HR4.cell 0 _ rfl
          have z1 := HR4.cell 1 _ rfl
          exact bodyPost_ret (v := .tuple #[.agg #[.int .i64 0, .slice none 0 0], .int .i64 5]) (by simp [results, Tryz.results9, go_sem, z0, z1]) rfl ⟨_, rfl, _, rfl, SlK.nil, hB4⟩
        have HA2 := Lib.hid (HAN.out (fun _ => hm2))
        have ht1 : tw1 (p, p, m) = [(p, p, 2 * m)] := by simp [tw1]
        have e1 : ((p : Int) == (p : Int)) = true := by simp
        have e2 : ¬ (50 : Int) < 2 * (m : Int) := by omega
        have HT1 := Lib.hid ht1
        have HNE := Lib.hid (show t3 (p, p, 2 * m) = [.int .i64 (p : Nat), .int .i64 (p : Nat), .int .i64 (2 * (m : Int))] by simp [t3, e3, n3])
        clear ht1 HAN
        go_wp2_with (at_builtin; go_loud (refine appM (m := 1) (news := [.int .i64 (p : Nat), .int .i64 (p : Nat), .int .i64 (2 * (m : Int))]) elemArc rfl (.tmp 35) (.tmp 44) rfl (by rfl) (by rw [World.size_alloc]; rfl) HO1.out b0.out (Nat.le_refl _) HSZ.out rfl (by intro u hu; simp at hu; rcases hu with rfl | rfl <;> rfl) (by omega) (by unfold maxLen; omega) ?_); intro v' w5 hown' hb'; obtain ⟨va, vc, rfl⟩ := own_formK hown'; have HDK5 := Lib.hid (show Blk w5 D [.int .i64 n, .slice ua T.length uc] 28 from (hb'.block D (Nat.lt_succ_self _)).trans HDK.out); have HO5 := Lib.hid hown'; have HB5 := Lib.hid hb'; clear hown'; have f1 := HDK5.out.free 1; have k1 := HDK5.out.cell 1 _ rfl)
        have HD6 := Lib.hid (HDK5.out.set 1 (.slice va (T.length + 1) vc))
        have HO6 := Lib.hid (own_otherK (g := D) (j := 1) (u := .slice va (T.length + 1) vc) HO5.out (fun e => absurd (own_ge HO5.out _ e) (by omega)))
        have HB6 := Lib.hid ((HBB.out.trans (HB5.out.mono (show w1.heap.size ≤ D + 1 by have := HDD.out; omega))).setCell (p := ⟨D, 1, none⟩) (show w1.heap.size ≤ D from Nat.le_of_eq HDD.out) (.slice va (T.length + 1) vc))
        clear f1 k1 hb'
        go_wp2
        go_roundw
        case rel => exact ⟨k + 1, .slice va (T.length + 1) vc, by omega, by go_num, HD6, Lib.hid (by rw [HTK.out, HT1.out, List.length_append, List.flatMap_append, show [(p, p, 2 * m)].flatMap t3 = [.int .i64 (p : Nat), .int .i64 (p : Nat), .int .i64 (2 * (m : Int))] from HNE.out]; exact HO6.out), HB6, HA2⟩
        case measure => simp [intOf]; omega
      · have ht1 : tw1 (p, q, m) = [(p, q, m), (q, p, m)] := by simp [tw1, hpq]
        have e1 : ((p : Int) == (q : Int)) = false := by simp; omega
        have HT1 := Lib.hid ht1
        have HNE : Hid ([(p, q, m), (q, p, m)].flatMap t3 = [.int .i64 (p : Nat), .int .i64 (q : Nat), .int .i64 (m : Nat), .int .i64 (q : Nat), .int .i64 (p : Nat), .int .i64 (m : Nat)]) := Lib.hid rfl
        have HA2 := Lib.hid (HAN.out (fun h => absurd h hpq))
        clear ht1 HAN hpq
        go_wp2_with (at_builtin; go_loud (refine appM (m := 2) (news := [.int .i64 (p : Nat), .int .i64 (q : Nat), .int .i64 (m : Nat), .int .i64 (q : Nat), .int .i64 (p : Nat), .int .i64 (m : Nat)]) elemArc rfl (.tmp 48) (.tmp 63) rfl (by rfl) (by rw [World.size_alloc]; rfl) HO1.out b0.out (Nat.le_refl _) HSZ.out rfl (by intro u hu; simp only [List.mem_cons, List.not_mem_nil, or_false] at hu; rcases hu with rfl | rfl | rfl | rfl | rfl | rfl <;> rfl) (by omega) (by unfold maxLen; omega) ?_); intro v' w5 hown' hb'; obtain ⟨va, vc, rfl⟩ := own_formK hown'; have HDK5 := Lib.hid (show Blk w5 D [.int .i64 n, .slice ua T.length uc] 28 from (hb'.block D (Nat.lt_succ_self _)).trans HDK.out); have HO5 := Lib.hid hown'; have HB5 := Lib.hid hb'; clear hown'; have f1 := HDK5.out.free 1; have k1 := HDK5.out.cell 1 _ rfl)
        have HD6 := Lib.hid (HDK5.out.set 1 (.slice va (T.length + 2) vc))
        have HO6 := Lib.hid (own_otherK (g := D) (j := 1) (u := .slice va (T.length + 2) vc) HO5.out (fun e => absurd (own_ge HO5.out _ e) (by omega)))
        have HB6 := Lib.hid ((HBB.out.trans (HB5.out.mono (show w1.heap.size ≤ D + 1 by have := HDD.out; omega))).setCell (p := ⟨D, 1, none⟩) (show w1.heap.size ≤ D from Nat.le_of_eq HDD.out) (.slice va (T.length + 2) vc))
        clear f1 k1 hb'
        go_wp2
        go_roundw
        case rel => exact ⟨k + 1, .slice va (T.length + 2) vc, by omega, by go_num, HD6, Lib.hid (by rw [HTK.out, HT1.out, List.length_append, List.flatMap_append, show [(p, q, m), (q, p, m)].flatMap t3 = [.int .i64 (p : Nat), .int .i64 (q : Nat), .int .i64 (m : Nat), .int .i64 (q : Nat), .int .i64 (p : Nat), .int .i64 (m : Nat)] from HNE.out]; exact HO6.out), HB6, HA2⟩
        case measure => simp [intOf]; omega
    · obtain rfl : k = ns.length := by omega
      exact absurd (fun x hx => hA.out x (by rw [List.take_length]; exact hx)) HBG.out
set_option maxHeartbeats 2000000 in
theorem TwoWay_bad (w : World) (n : Int) (v : Value) (es : List (Int × Int × Int)) (hv : SlK e3 3 w v es) (hk : chkG n es ≠ 0) :
    Calls Tryz.prog 9 #[.agg #[.int .i64 n, v]] w (RetT2 w 0 [] (chkG n es)) := by
  have HV := Lib.hid hv
  obtain ⟨ad, c, rfl⟩ := hv.form
  obtain ⟨W1, hW1⟩ : ∃ W, w.alloc (.cells #[.int .i64 n, .slice ad es.length c] 24) = W := ⟨_, rfl⟩
  obtain ⟨W, hW⟩ : ∃ W, W1.alloc (.cells #[.int .i64 0, .slice none 0 0] 28) = W := ⟨_, rfl⟩
  have s1 : W1.heap.size = w.heap.size + 1 := by rw [← hW1, World.size_alloc]
  have HR := Lib.hid (show Blk W (w.heap.size + 1) [.int .i64 0, .slice none 0 0] 28 by rw [← hW, ← s1]; exact Blk.new W1 _ _)
  have q1 : Below w.heap.size w W := by
    have q : Below w.heap.size w W1 := by rw [← hW1]; exact (Below.refl _ w).alloc (Nat.le_refl _) _
    rw [← hW]; exact q.alloc (by rw [s1]; omega) _
  have HG := Lib.hid (show Blk W w.heap.size [.int .i64 n, .slice ad es.length c] 24 by rw [← hW, ← hW1]; exact (Blk.new w _ _).alloc _)
  have HWW := Lib.hid (show (w.alloc (.cells #[.int .i64 n, .slice ad es.length c] 24)).alloc (.cells #[.int .i64 0, .slice none 0 0] 28) = W by rw [hW1, hW])
  have hne : (chkG n es != 0) = true := by simp [hk]
  have g0 := HG.out.cell 0 _ rfl; have g1 := HG.out.cell 1 _ rfl; have gl := HG.out.lt
  clear hv hk hW1 hW s1
  go_enter Tryz.func9, Tryz.ntmps9
  go_wp2_with (go_at_call 37; rw [HWW.out]; (with_reducible refine (GCheck_any W n _ es (HV.out.below q1 (Nat.le_refl _))).mono ?_); rintro e w1 ⟨v, rfl, rfl, hb1⟩; have HR2 := Lib.hid (HR.out.below hb1 (Nat.le_refl _)); have q2 := q1.trans (hb1.mono q1.size); have r0 := HR2.out.cell 0 _ rfl; have r1 := HR2.out.cell 1 _ rfl; have f0 := HR2.out.free 0; have f1 := HR2.out.free 1; have rl := HR2.out.lt)
  have HR4 := (HR2.out.set 0 (.int .i64 0)).set 1 (.slice none 0 0)
  have hB4 := (q2.setCell (p := ⟨w.heap.size + 1, 0, none⟩) (by simp) (.int .i64 0)).setCell (p := ⟨w.heap.size + 1, 1, none⟩) (by simp) (.slice none 0 0)
  obtain ⟨w4, hw4⟩ : ∃ w4, (w1.setCell ⟨w.heap.size + 1, 0, none⟩ (.int .i64 0)).setCell ⟨w.heap.size + 1, 1, none⟩ (.slice none 0 0) = w4 := ⟨_, rfl⟩
  rw [hw4] at HR4 hB4 ⊢
  have z0 := HR4.cell 0 _ rfl
  have z1 := HR4.cell 1 _ rfl
  exact bodyPost_ret (v := .tuple #[.agg #[.int .i64 0, .slice none 0 0], .int .i64 (chkG n es)]) (by simp [results, Tryz.results9, go_sem, z0, z1]) rfl ⟨_, rfl, _, rfl, SlK.nil, hB4⟩
set_option maxHeartbeats 2000000 in
theorem rTwoWay_bad (w : World) (n : Int) (v : Value) (es : List (Int × Int × Int)) (hv : SlK e3 3 w v es) (hk : chkG n es ≠ 0) :
    Calls Tryz.prog 10 #[.agg #[.int .i64 n, v]] w (RetT2 w 0 [] (chkG n es)) := by
  have HV := Lib.hid hv
  obtain ⟨ad, c, rfl⟩ := hv.form
  obtain ⟨W1, hW1⟩ : ∃ W, w.alloc (.cells #[.int .i64 n, .slice ad es.length c] 24) = W := ⟨_, rfl⟩
  obtain ⟨W, hW⟩ : ∃ W, W1.alloc (.cells #[.int .i64 0, .slice none 0 0] 28) = W := ⟨_, rfl⟩
  have s1 : W1.heap.size = w.heap.size + 1 := by rw [← hW1, World.size_alloc]
  have HR := Lib.hid (show Blk W (w.heap.size + 1) [.int .i64 0, .slice none 0 0] 28 by rw [← hW, ← s1]; exact Blk.new W1 _ _)
  have q1 : Below w.heap.size w W := by
    have q : Below w.heap.size w W1 := by rw [← hW1]; exact (Below.refl _ w).alloc (Nat.le_refl _) _
    rw [← hW]; exact q.alloc (by rw [s1]; omega) _
  have HG := Lib.hid (show Blk W w.heap.size [.int .i64 n, .slice ad es.length c] 24 by rw [← hW, ← hW1]; exact (Blk.new w _ _).alloc _)
  have HWW := Lib.hid (show (w.alloc (.cells #[.int .i64 n, .slice ad es.length c] 24)).alloc (.cells #[.int .i64 0, .slice none 0 0] 28) = W by rw [hW1, hW])
  have hne : (chkG n es != 0) = true := by simp [hk]
  have g0 := HG.out.cell 0 _ rfl; have g1 := HG.out.cell 1 _ rfl; have gl := HG.out.lt
  clear hv hk hW1 hW s1
  go_enter Tryz.func10, Tryz.ntmps10
  go_wp2_with (go_at_call 40; rw [HWW.out]; (with_reducible refine (rGCheck_any W n _ es (HV.out.below q1 (Nat.le_refl _))).mono ?_); rintro e w1 ⟨v, rfl, rfl, hb1⟩; have HR2 := Lib.hid (HR.out.below hb1 (Nat.le_refl _)); have q2 := q1.trans (hb1.mono q1.size); have r0 := HR2.out.cell 0 _ rfl; have r1 := HR2.out.cell 1 _ rfl; have f0 := HR2.out.free 0; have f1 := HR2.out.free 1; have rl := HR2.out.lt)
  have HR4 := (HR2.out.set 0 (.int .i64 0)).set 1 (.slice none 0 0)
  have hB4 := (q2.setCell (p := ⟨w.heap.size + 1, 0, none⟩) (by simp) (.int .i64 0)).setCell (p := ⟨w.heap.size + 1, 1, none⟩) (by simp) (.slice none 0 0)
  obtain ⟨w4, hw4⟩ : ∃ w4, (w1.setCell ⟨w.heap.size + 1, 0, none⟩ (.int .i64 0)).setCell ⟨w.heap.size + 1, 1, none⟩ (.slice none 0 0) = w4 := ⟨_, rfl⟩
  rw [hw4] at HR4 hB4 ⊢
  have z0 := HR4.cell 0 _ rfl
  have z1 := HR4.cell 1 _ rfl
  exact bodyPost_ret (v := .tuple #[.agg #[.int .i64 0, .slice none 0 0], .int .i64 (chkG n es)]) (by simp [results, Tryz.results10, go_sem, z0, z1]) rfl ⟨_, rfl, _, rfl, SlK.nil, hB4⟩
/-- A slice of triples still reads so when a block of two cells is written. -/
theorem slk3_off {w : World} {g : Nat} {v : Value} {xs : List (Int × Int × Int)} {T : TypeId} {cs : List Value} (h : SlK e3 3 w v xs) (hk : Blk w g cs T) (hcs : cs.length = 2) (j : Nat) (u : Value) : SlK e3 3 (w.setCell ⟨g, j, none⟩ u) v xs := by
  obtain ⟨ad, b, o, cp, rfl, ha, hc, hm, hn, hx⟩ := h
  refine ⟨ad, b, o, cp, rfl, ha, hc, hm, hn, fun h0 => by simpa [World.setCell] using hx.1 h0, fun i hi j' u' hu => ?_⟩
  have hne : b ≠ g := by
    rintro rfl
    have c2 := hx.2 i hi 2 _ rfl
    rw [cell_of_row w b _ _ T (0, 0) hk] at c2
    rw [Array.getElem?_eq_none (by simp [hcs])] at c2
    simp at c2
  have e2 : (w.setCell ⟨g, j, none⟩ u).heap[b]? = w.heap[b]? := Below.heap_setCell _ _ _ _ hne
  have := hx.2 i hi j' u' hu
  simp only [World.cell?, e2] at this ⊢
  exact this
set_option maxHeartbeats 4000000 in
theorem rTwoWay_any (w : World) (n : Nat) (v : Value) (ns : List (Nat × Nat × Nat)) (hv : SlK e3 3 w v (ns.map n3)) (hn : n ≤ 12) (hm : ∀ x ∈ ns, x.2.2 ≤ 50) (hc : chkG (n : Nat) (ns.map n3) = 0) (N : Int) (L : List (Nat × Nat × Nat)) (e : Int)
    (h1 : (∀ x ∈ dblD n ns n, x.2.2 ≤ 50) → N = (n : Nat) ∧ L = dblD n ns n ∧ e = 0) (h2 : ¬ (∀ x ∈ dblD n ns n, x.2.2 ≤ 50) → N = 0 ∧ L = [] ∧ e = 5) :
    Calls Tryz.prog 10 #[.agg #[.int .i64 (n : Nat), v]] w (RetT2 w N L e) := by
  have HV := Lib.hid hv; have HM := Lib.hid hm; have HC := Lib.hid hc; have H1 := Lib.hid h1; have H2 := Lib.hid h2
  obtain ⟨ad, c, rfl⟩ := hv.form
  rw [List.length_map] at HV ⊢
  obtain ⟨W1, hW1⟩ : ∃ W, w.alloc (.cells #[.int .i64 (n : Nat), .slice ad ns.length c] 24) = W := ⟨_, rfl⟩
  obtain ⟨W, hW⟩ : ∃ W, W1.alloc (.cells #[.int .i64 0, .slice none 0 0] 28) = W := ⟨_, rfl⟩
  have s1 : W1.heap.size = w.heap.size + 1 := by rw [← hW1, World.size_alloc]
  have HR := Lib.hid (show Blk W (w.heap.size + 1) [.int .i64 0, .slice none 0 0] 28 by rw [← hW, ← s1]; exact Blk.new W1 _ _)
  have q1 : Below w.heap.size w W := by
    have q : Below w.heap.size w W1 := by rw [← hW1]; exact (Below.refl _ w).alloc (Nat.le_refl _) _
    rw [← hW]; exact q.alloc (by rw [s1]; omega) _
  have HG := Lib.hid (show Blk W w.heap.size [.int .i64 (n : Nat), .slice ad ns.length c] 24 by rw [← hW, ← hW1]; exact (Blk.new w _ _).alloc _)
  have HWW := Lib.hid (show (w.alloc (.cells #[.int .i64 (n : Nat), .slice ad ns.length c] 24)).alloc (.cells #[.int .i64 0, .slice none 0 0] 28) = W by rw [hW1, hW])
  have g0 := HG.out.cell 0 _ rfl; have g1 := HG.out.cell 1 _ rfl; have gl := HG.out.lt
  clear hv hW1 hW s1 hm hc h1 h2
  go_enter Tryz.func10, Tryz.ntmps10
  go_wp2_with (first
    | (go_at_call 41; (with_reducible refine (rDoubled_any w1 n _ ns hn HM.out (HV.out.below q2 (Nat.le_refl _))).mono ?_); rintro e2 w2 ⟨v, rfl, u2, rfl, s2, hb2⟩; obtain ⟨ua, uc, rfl⟩ := s2.form; rw [List.length_map] at s2; (try rw [List.length_map]); have HS2 := Lib.hid s2; have HR3 := Lib.hid (HR2.out.below hb2 (Nat.le_refl _)); have q3 := q2.trans (hb2.mono q2.size); clear s2 hb2)
    | (go_at_call 40; rw [HWW.out]; (with_reducible refine (rGCheck_any W (n : Nat) _ _ (HV.out.below q1 (Nat.le_refl _))).mono ?_); rintro e1 w1 ⟨v, rfl, rfl, hb1⟩; rw [HC.out]; have HR2 := Lib.hid (HR.out.below hb1 (Nat.le_refl _)); have HG2 := Lib.hid (HG.out.below hb1 (Nat.le_refl _)); have q2 := q1.trans (hb1.mono q1.size); have g0 := HG2.out.cell 0 _ rfl; have g1 := HG2.out.cell 1 _ rfl; have gl := HG2.out.lt; clear hb1))
  obtain ⟨M, hM⟩ : ∃ M, dblD n ns n = M := ⟨_, rfl⟩
  rw [hM] at H1 H2 HS2
  try rw [hM]
  obtain ⟨W3, hW3⟩ : ∃ W, w2.alloc (.cells #[.int .i64 (n : Nat), .slice ua M.length uc] 28) = W := ⟨_, rfl⟩
  obtain ⟨D, hD⟩ : ∃ D, w2.heap.size = D := ⟨_, rfl⟩
  have HX := Lib.hid (show Blk W3 D [.int .i64 (n : Nat), .slice ua M.length uc] 28 by rw [← hW3, ← hD]; exact Blk.new w2 _ _)
  have HR4 := Lib.hid (show Blk W3 (w.heap.size + 1) [.int .i64 0, .slice none 0 0] 28 by rw [← hW3]; exact HR3.out.alloc _)
  have Q4 := Lib.hid (show Below w.heap.size w W3 by rw [← hW3]; exact q3.alloc q3.size _)
  have HS4 := Lib.hid (HS2.out.below (show Below w2.heap.size w2 W3 by rw [← hW3]; exact (Below.refl _ w2).alloc (Nat.le_refl _) _) (Nat.le_refl _))
  rw [hW3]
  try rw [hD]
  have HMM := Lib.hid hM
  clear hW3 hD hM HS2 HR2 HR3 q2 q3 g0 g1 gl HG HG2 HR q1
  obtain ⟨sa, b, o, c2, hform, hi, hp, hcl, hcm⟩ := HS4.out.open elemArc
  rw [List.length_map] at hform hi hcl
  simp only [Value.slice.injEq, true_and] at hform
  obtain ⟨rfl, rfl⟩ := hform
  unfold maxLen at hcm
  have HP := Lib.hid hp
  clear hp
  go_loopw [6] (fun i wr => ∃ k : Nat, k ≤ M.length ∧ i = .int .i64 k ∧ Hid (∀ x ∈ M.take k, x.2.2 ≤ 50) ∧ wr = W3) (fun i _ => M.length - (intOf i).toNat)
  case atStart => exact ⟨0, Nat.zero_le _, rfl, Lib.hid (by simp), rfl⟩
  case round =>
    obtain ⟨k, hk, rfl, hA, hw⟩ := hrel
    subst hw
    have x0 := HX.out.cell 0 _ rfl; have x1 := HX.out.cell 1 _ rfl; have xl := HX.out.lt
    have r0 := HR4.out.cell 0 _ rfl; have r1 := HR4.out.cell 1 _ rfl; have f0 := HR4.out.free 0; have f1 := HR4.out.free 1; have rl := HR4.out.lt
    by_cases hkn : k < M.length
    · have hkm : k < (M.map n3).length := by rw [List.length_map]; exact hkn
      obtain ⟨⟨p, q, m⟩, hx⟩ : ∃ x, M[k] = x := ⟨_, rfl⟩
      have a2 : wr.cell? ⟨b, o + k * 3 + 2, none⟩ = some (.int .i64 (m : Nat)) := HP.out.2 k hkm 2 _ (by rw [List.getElem_map, hx]; rfl)
      have p1 : (0 : Int) ≤ (k : Int) := by omega
      have p2 : (k : Int) < (M.length : Int) := by omega
      by_cases hm50 : m ≤ 50
      · have e1 : decide ((50 : Int) < (m : Int)) = false := by simp; omega
        have e2 : ¬ (50 : Int) < (m : Int) := by omega
        have HA2 := Lib.hid (show ∀ x ∈ M.take (k + 1), x.2.2 ≤ 50 from fun x hx2 => by
          rw [List.take_succ_eq_append_getElem hkn, List.mem_append, List.mem_singleton] at hx2
          rcases hx2 with hx2 | rfl
          · exact hA.out x hx2
          · rw [hx]; exact hm50)
        clear hx
        go_wp2
        go_roundw
        case rel => exact ⟨k + 1, by omega, by go_num, HA2, trivial⟩
        case measure => simp [intOf]; omega
      · have e1 : decide ((50 : Int) < (m : Int)) = true := by simp; omega
        have e2 : (50 : Int) < (m : Int) := by omega
        have HN := Lib.hid (H2.out (fun h => hm50 (by have := h _ (List.getElem_mem hkn); rw [hx] at this; exact this)))
        clear hx
        go_wp2
        have HR5 := (HR4.out.set 0 (.int .i64 0)).set 1 (.slice none 0 0)
        have hB4 := (Q4.out.setCell (p := ⟨w.heap.size + 1, 0, none⟩) (by simp) (.int .i64 0)).setCell (p := ⟨w.heap.size + 1, 1, none⟩) (by simp) (.slice none 0 0)
        obtain ⟨w4, hw4⟩ : ∃ w4, (wr.setCell ⟨w.heap.size + 1, 0, none⟩ (.int .i64 0)).setCell ⟨w.heap.size + 1, 1, none⟩ (.slice none 0 0) = w4 := ⟨_, rfl⟩
        rw [hw4] at HR5 hB4 ⊢
        have z0 := HR5.cell 0 _ rfl
        have z1 := HR5.cell 1 _ rfl
        obtain ⟨t1, t2, t3⟩ := HN.out
        exact bodyPost_ret (v := .tuple #[.agg #[.int .i64 0, .slice none 0 0], .int .i64 5]) (by simp [results, Tryz.results10, go_sem, z0, z1]) rfl ⟨_, rfl, _, by rw [t1, t3], by rw [t2]; exact SlK.nil, hB4⟩
    · obtain rfl : k = M.length := by omega
      have HN := Lib.hid (H1.out (fun x hx => hA.out x (by rw [List.take_length]; exact hx)))
      have HMX := HMM.out
      clear HMX
      go_wp2
      have HR5 := (HR4.out.set 0 (.int .i64 (n : Nat))).set 1 (.slice ua M.length uc)
      have hB4 := (Q4.out.setCell (p := ⟨w.heap.size + 1, 0, none⟩) (by simp) (.int .i64 (n : Nat))).setCell (p := ⟨w.heap.size + 1, 1, none⟩) (by simp) (.slice ua M.length uc)
      have hS5 := slk3_off (slk3_off HS4.out HR4.out (by simp) 0 (.int .i64 (n : Nat))) (HR4.out.set 0 (.int .i64 (n : Nat))) (by simp) 1 (.slice ua M.length uc)
      obtain ⟨w4, hw4⟩ : ∃ w4, (wr.setCell ⟨w.heap.size + 1, 0, none⟩ (.int .i64 (n : Nat))).setCell ⟨w.heap.size + 1, 1, none⟩ (.slice ua M.length uc) = w4 := ⟨_, rfl⟩
      rw [hw4] at HR5 hB4 hS5 ⊢
      have z0 := HR5.cell 0 _ rfl
      have z1 := HR5.cell 1 _ rfl
      obtain ⟨t1, t2, t3⟩ := HN.out
      exact bodyPost_ret (v := .tuple #[.agg #[.int .i64 (n : Nat), .slice ua M.length uc], .int .i64 0]) (by simp [results, Tryz.results10, go_sem, z0, z1]) rfl ⟨_, rfl, _, by rw [t1, t3], by rw [t2]; exact hS5, hB4⟩
theorem twoways (n : Int) (es : List (Int × Int × Int)) (hl : es.length ≤ 100) : ∃ (N : Int) (L : List (Nat × Nat × Nat)) (k : Int), (∀ (W : World) (u : Value), SlK e3 3 W u es → Calls Tryz.prog 9 #[.agg #[.int .i64 n, u]] W (RetT2 W N L k)) ∧ (∀ (W : World) (u : Value), SlK e3 3 W u es → Calls Tryz.prog 10 #[.agg #[.int .i64 n, u]] W (RetT2 W N L k)) := by
  by_cases hk : chkG n es = 0
  · obtain ⟨ns, hR⟩ := rg_of hk
    have he := hR.eq
    subst he
    have hp := hR.pos
    have hle := hR.le
    obtain ⟨m, rfl⟩ : ∃ m : Nat, n = (m : Nat) := ⟨n.toNat, by omega⟩
    rw [List.length_map] at hl
    have hm : ∀ x ∈ ns, x.2.2 ≤ 50 := fun x hx => (hR.rng x hx).2.2.2.1
    by_cases hb : ∀ x ∈ ns, x.1 = x.2.1 → 2 * x.2.2 ≤ 50
    · refine ⟨(m : Nat), dblD m ns m, 0, fun W u h => ?_, fun W u h => rTwoWay_any W m u ns h (by omega) hm hk _ _ _ (fun _ => ⟨rfl, rfl, rfl⟩) (fun h => absurd ((dbl_many hR).1 hb) h)⟩
      refine (TwoWay_ok W _ u _ ns h hR hk hb (by omega)).mono ?_
      rintro e w1 ⟨v, rfl, u1, ys, rfl, hp1, hp2, ho, hb1⟩
      obtain rfl := tw_dbl hR hb hp1 hp2
      exact ⟨_, rfl, _, rfl, SlK.ofOwns e3_len (show w1.ownsRow W.heap.size _ 3 u1 ((dblD m ns m).map n3).length (((dblD m ns m).map n3).flatMap e3) by rw [List.length_map, List.flatMap_map]; exact ho) rfl, hb1⟩
    · exact ⟨0, [], 5, fun W u h => TwoWay_many W _ u _ ns h hR hk hb (by omega), fun W u h => rTwoWay_any W m u ns h (by omega) hm hk _ _ _ (fun h => absurd ((dbl_many hR).2 h) hb) (fun _ => ⟨rfl, rfl, rfl⟩)⟩
  · exact ⟨0, [], chkG n es, fun W u h => TwoWay_bad W n u es h hk, fun W u h => rTwoWay_bad W n u es h hk⟩

set_option maxHeartbeats 4000000 in
theorem eulDoubles_any (w : World) (n : Int) (v : Value) (es : List (Int × Int × Int)) (hv : SlK e3 3 w v es) (he : Env w) :
    Calls Tryz.prog 3 #[.agg #[.int .i64 n, v]] w (Rets fun r w' => r = .bool true ∧ Below w.heap.size w w') := by
  have hml := hv.len
  obtain ⟨ad, c, rfl⟩ := hv.form
  obtain ⟨W, hW⟩ : ∃ W, w.alloc (.cells #[.int .i64 n, .slice ad es.length c] 24) = W := ⟨_, rfl⟩
  have BK := Lib.hid (show Blk W w.heap.size [.int .i64 n, .slice ad es.length c] 24 by rw [← hW]; exact Blk.new w _ _)
  have q0 : Below w.heap.size w W := by rw [← hW]; exact (Below.refl _ w).alloc (Nat.le_refl _) _
  have SV := Lib.hid (hv.below q0 (Nat.le_refl _))
  have HE := Lib.hid (he.below q0 (Nat.le_refl _))
  have HW := Lib.hid hW
  have k0 := BK.out.cell 0 _ rfl; have k1 := BK.out.cell 1 _ rfl
  clear hv he hW
  by_cases hfew : es.length ≤ 100
  rotate_left
  · have e1 : decide ((100 : Int) < (es.length : Int)) = true := by simp; omega
    have e2 : (100 : Int) < (es.length : Int) := by omega
    have e3' : 100 < es.length := by omega
    clear hfew
    go_enter Tryz.func3, Tryz.ntmps3
    go_wp2_with ((go_at_call 8; (try rw [HW.out]); (with_reducible refine (awake47 _ HE.out).mono ?_); rintro e w2 ⟨v, rfl, rfl, h2⟩; have q2 := q0.trans (h2.mono q0.size)))
    go_ret
    exact ⟨_, rfl, rfl, q2⟩
  obtain ⟨N, L, k, H1, H2⟩ := twoways n es hfew
  have C1 := Lib.hid H1; have C2 := Lib.hid H2
  have e1 : decide ((100 : Int) < (es.length : Int)) = false := by simp; omega
  have e2 : ¬ (100 : Int) < (es.length : Int) := by omega
  clear H1 H2 hfew
  go_enter Tryz.func3, Tryz.ntmps3
  go_wp2_with (first
    | (go_at_call 8; (with_reducible refine (awake47 _ HE.out).mono ?_); rintro e w4 ⟨v, rfl, rfl, h4⟩; have HE := Lib.hid (HE.out.below h4 (Nat.le_refl _)); have q4 := q3.trans (h4.mono q3.size))
    | (go_at_call 11; (with_reducible refine (SameDig_same _ N _ _ _ S1.out S2.out).mono ?_); rintro e w3 ⟨v, rfl, rfl, h3⟩; have HE := Lib.hid (HE.out.below h3 (Nat.le_refl _)); have SV := Lib.hid (SV.out.below h3 (Nat.le_refl _)); have S1 := Lib.hid (S1.out.below h3 (Nat.le_refl _)); have S2 := Lib.hid (S2.out.below h3 (Nat.le_refl _)); have BK := Lib.hid (BK.out.below h3 (Nat.le_refl _)); have B1 := Lib.hid (B1.out.below h3 (Nat.le_refl _)); have B2 := Lib.hid (B2.out.below h3 (Nat.le_refl _)); have c3_BK_0 := BK.out.cell 0 _ rfl; have c3_BK_1 := BK.out.cell 1 _ rfl; have c3_B1_0 := B1.out.cell 0 _ rfl; have c3_B1_1 := B1.out.cell 1 _ rfl; have c3_B2_0 := B2.out.cell 0 _ rfl; have c3_B2_1 := B2.out.cell 1 _ rfl; have q3 := q2.trans (h3.mono q2.size))
    | (go_at_call 10; (with_reducible refine (C2.out _ _ SV.out).mono ?_); rintro e w2 ⟨v, rfl, u2, rfl, s2, h20⟩; obtain ⟨ua2, uc2, rfl⟩ := s2.form; rw [List.length_map] at s2; (try rw [List.length_map]); have h2 := h20.alloc h20.size (.cells #[.int .i64 N, .slice ua2 L.length uc2] 28); have S2 := Lib.hid (s2.below ((Below.refl w2.heap.size w2).alloc (Nat.le_refl _) (.cells #[.int .i64 N, .slice ua2 L.length uc2] 28)) (Nat.le_refl _)); have B2 := Lib.hid (Blk.new w2 [.int .i64 N, .slice ua2 L.length uc2] 28); clear s2; have HE := Lib.hid (HE.out.below h2 (Nat.le_refl _)); have SV := Lib.hid (SV.out.below h2 (Nat.le_refl _)); have S1 := Lib.hid (S1.out.below h2 (Nat.le_refl _)); have BK := Lib.hid (BK.out.below h2 (Nat.le_refl _)); have B1 := Lib.hid (B1.out.below h2 (Nat.le_refl _)); have c2_BK_0 := BK.out.cell 0 _ rfl; have c2_BK_1 := BK.out.cell 1 _ rfl; have c2_B1_0 := B1.out.cell 0 _ rfl; have c2_B1_1 := B1.out.cell 1 _ rfl; have c2_B2_0 := B2.out.cell 0 _ rfl; have c2_B2_1 := B2.out.cell 1 _ rfl; have q2 := q1.trans (h2.mono q1.size))
    | (go_at_call 9; (try rw [HW.out]); (with_reducible refine (C1.out _ _ SV.out).mono ?_); rintro e w1 ⟨v, rfl, u1, rfl, s1, h10⟩; obtain ⟨ua1, uc1, rfl⟩ := s1.form; rw [List.length_map] at s1; (try rw [List.length_map]); have h1 := h10.alloc h10.size (.cells #[.int .i64 N, .slice ua1 L.length uc1] 28); have S1 := Lib.hid (s1.below ((Below.refl w1.heap.size w1).alloc (Nat.le_refl _) (.cells #[.int .i64 N, .slice ua1 L.length uc1] 28)) (Nat.le_refl _)); have B1 := Lib.hid (Blk.new w1 [.int .i64 N, .slice ua1 L.length uc1] 28); clear s1; have HE := Lib.hid (HE.out.below h1 (Nat.le_refl _)); have SV := Lib.hid (SV.out.below h1 (Nat.le_refl _)); have BK := Lib.hid (BK.out.below h1 (Nat.le_refl _)); have c1_BK_0 := BK.out.cell 0 _ rfl; have c1_BK_1 := BK.out.cell 1 _ rfl; have c1_B1_0 := B1.out.cell 0 _ rfl; have c1_B1_1 := B1.out.cell 1 _ rfl; have q1 := q0.trans (h1.mono q0.size)))
  go_ret
  exact ⟨_, rfl, rfl, q4⟩
end Go.Proofs.YtlnhocgjgmhfgaaGreatDoor
