/- The walk of euler's Tour. -/
import Derived.Test.YtlnhocgjgmhfgaaGreatDoorPk11
import Derived.Test.YtlnhocgjgmhfgaaGreatDoorPk13
namespace Go.Proofs.YtlnhocgjgmhfgaaGreatDoor
open Go.RowKit
set_option maxRecDepth 100000

def lenV : Value → Nat
  | .slice _ n _ => n
  | _ => 0
theorem tourF_end {n f v : Nat} {SS : List (Nat × Nat)} {t : List Nat} {us : List Bool} {T : List Nat} (h : tourF n SS f v t us = some T) (hl : SS.length ≤ t.length) : t = T := by
  unfold tourF at h
  rw [if_pos hl] at h
  exact Option.some.inj h
theorem tourF_step {n f v : Nat} {SS : List (Nat × Nat)} {t : List Nat} {us : List Bool} {T : List Nat} (h : tourF n SS f v t us = some T) (hl : t.length < SS.length) :
    ∃ f' i, nextA n SS us ((outs n SS).getD v []) = some i ∧ tourF n SS f' (SS.getD i (0, 0)).2 (t ++ [i]) (us.set i true) = some T := by
  unfold tourF at h
  rw [if_neg (by omega)] at h
  cases f with
  | zero => cases h
  | succ f =>
    cases hn : nextA n SS us ((outs n SS).getD v []) with
    | none => rw [hn] at h; cases h
    | some i => rw [hn] at h; exact ⟨f, i, rfl, h⟩
theorem outs_mem {n : Nat} {SS : List (Nat × Nat)} {v i : Nat} (h : v < (outs n SS).length) (hi : i ∈ (outs n SS)[v]) : i < SS.length := by
  simp only [outs, outsAt, List.getElem_map, List.getElem_range] at hi
  exact List.mem_range.1 (List.mem_filter.1 hi).1
theorem own_pos1 {w : World} {b e s n : Nat} {v : Value} {ys : List Value} (h : w.ownsRow b e s v n ys) (hn : 0 < n) : ∃ g cap, v = .slice (some ⟨g, 0, none⟩) n cap := by
  rcases h.2 with ⟨rfl, h0⟩ | ⟨g, cap, cur, rfl, -⟩
  · omega
  · exact ⟨_, _, rfl⟩
theorem own_apartB1 {w : World} {b s n g : Nat} {e e' : TypeId} {u : Value} {ys cs : List Value} (h : w.ownsRow b e s u n ys) (h' : Blk w g cs e') (hne : e ≠ e') : u.ownBlock ≠ some g := by
  rcases h.2 with ⟨rfl, -⟩ | ⟨g', cap, cur, rfl, -, hg, -⟩
  · simp [Value.ownBlock]
  · intro e2
    simp only [Value.ownBlock, Option.some.injEq] at e2
    subst e2
    unfold Blk at h'
    rw [hg] at h'
    injection h' with h'
    injection h' with _ e3 _
    exact hne e3
theorem ints_snoc (t : List Nat) (i : Nat) : ints t ++ [.int .i64 (i : Nat)] = ints (t ++ [i]) := by simp [ints]
set_option maxHeartbeats 8000000 in
theorem Tour_ok (w : World) (n : Nat) (v : Value) (ns : List (Nat × Nat × Nat)) (T : List Nat) (hR : RD n ns) (hv : SlK e3 3 w v (ns.map n3)) (hl : ns.length ≤ 1000) (hE : EulC n ns) (hm1 : 1 ≤ (sgl ns).length) (hm : (sgl ns).length ≤ 256) (hT : tourS n (sgl ns) = some T) :
    Calls Tryz.prog 31 #[.agg #[.int .i64 (n : Nat), v]] w (Rets fun r w' => ∃ u, r = .tuple #[u, .int .i64 0] ∧ SlK i1 1 w' u T ∧ Below w.heap.size w w') := by
  have HR := Lib.hid hR; have HV := Lib.hid hv; have HEU := Lib.hid hE
  obtain ⟨ad, c, rfl⟩ := hv.form
  rw [List.length_map] at HV ⊢
  have n12 := hR.le
  have n1 := hR.pos
  have HM := Lib.hid (show ∀ x ∈ ns, x.2.2 ≤ 50 from fun x hx => (hR.rng x hx).2.2.2)
  have HRG := Lib.hid (sgl_rng hR)
  obtain ⟨D, hD⟩ : ∃ D, w.heap.size = D := ⟨_, rfl⟩
  obtain ⟨W, hW⟩ : ∃ W, w.alloc (.cells #[.int .i64 (n : Nat), .slice ad ns.length c] 28) = W := ⟨_, rfl⟩
  have hWs : W.heap.size = D + 1 := by rw [← hW, ← hD]; simp
  have HK0 := Lib.hid (show Blk W D [.int .i64 (n : Nat), .slice ad ns.length c] 28 by rw [← hW, ← hD]; exact Blk.new w _ _)
  have HB0 := Lib.hid (show Below D w W by rw [← hW, ← hD]; exact (Below.refl _ w).alloc (Nat.le_refl _) _)
  have HV0 := Lib.hid (HV.out.below HB0.out (Nat.le_of_eq hD))
  have HW := Lib.hid hW
  have k0 := HK0.out.cell 0 _ rfl; have k1 := HK0.out.cell 1 _ rfl; have kl := HK0.out.lt
  clear hv hR hW hE
  go_enter Tryz.func31, Tryz.ntmps31
  go_wp2_with (first
    | (go_at_call 47; (with_reducible refine (eulerian_ok w1 n _ ns HR.out HV1.out hl).mono ?_); rintro e w2 ⟨v, rfl, tt, rfl, hb2, ht2⟩; have HB2 := Lib.hid (HB1.out.trans (hb2.mono (by rw [← hD]; exact HB1.out.size))); have HK2 := Lib.hid (HK1.out.below hb2 (Nat.le_refl _)); have HV2 := Lib.hid (HV1.out.below hb2 (Nat.le_refl _)); have htt := ht2.2 HEU.out; subst htt; clear hb2 ht2)
    | (go_at_call 46; rw [HW.out]; (with_reducible refine (NCheck_ok W n _ ns HR.out HV0.out).mono ?_); rintro e w1 ⟨v, rfl, rfl, hb⟩; have HB1 := Lib.hid (HB0.out.trans (hb.mono (by omega))); have HK1 := Lib.hid (HK0.out.below hb (Nat.le_refl _)); have HV1 := Lib.hid (HV0.out.below hb (Nat.le_refl _)); have k0 := HK1.out.cell 0 _ rfl; have k1 := HK1.out.cell 1 _ rfl; have kl := HK1.out.lt; clear hb))
  clear k0 k1 kl HK0 HB0 HV0 HK1 HB1 HV1 hWs
  obtain ⟨SS, hSS⟩ : ∃ SS, sgl ns = SS := ⟨_, rfl⟩
  have HSS := Lib.hid hSS
  rw [hSS] at hm1 hm hT HRG
  have HT := Lib.hid hT
  clear hSS hT
  have HBd := Lib.hid (show Below w2.heap.size w2 w2.drew from (Below.refl _ w2).drew)
  have HS := Lib.hid (fun (w' : World) (hb : Below w2.heap.size w2 w') => (⟨(HK2.out.below hb (Nat.le_refl _)).cell 0 _ rfl, (HK2.out.below hb (Nat.le_refl _)).cell 1 _ rfl⟩ : w'.cell? ⟨D, 0, none⟩ = some (.int .i64 (n : Nat)) ∧ w'.cell? ⟨D, 1, none⟩ = some (.slice ad ns.length c)))
  have HS1 := Lib.hid (HS.out w2.drew HBd.out)
  go_region_held3 (fun w' => w'.cell? ⟨D, 0, none⟩ = some (.int .i64 (n : Nat)) ∧ w'.cell? ⟨D, 1, none⟩ = some (.slice ad ns.length c))
    ((first
      | with_reducible exact HS1.out
      | with_reducible assumption))
    ((first
      | (go_at_call 42; (with_reducible refine (leaving_ok w3 n _ ns HR.out (HV2.out.below HB3.out (Nat.le_refl _)) hl).mono ?_); rintro e w4 ⟨v, rfl, vs, L, C, rfl, hRw, hL, hb4⟩; rw [HSS.out] at hRw; have HRW := Lib.hid hRw; have HE4 := Lib.hid (HE.out.below hb4 (Nat.le_refl _)); have HB4 := Lib.hid (HB3.out.trans (hb4.mono HB3.out.size)); have hs4 := HS.out w4 HB4.out; clear hRw hb4 hL)
      | (go_at_call 43; (with_reducible refine (arcs_ok w2.drew n _ ns (HV2.out.below HBd.out (Nat.le_refl _)) HM.out (by omega)).mono ?_); rintro e w3 ⟨v, rfl, hO, hb3⟩; rw [HSS.out] at hO; obtain ⟨ea, ec, rfl⟩ := own_formK hO; have HE := Lib.hid (SlK.ofOwns p2_len hO rfl); have HB3 := Lib.hid (HBd.out.trans (hb3.mono HBd.out.size)); have hs3 := HS.out w3 HB3.out; clear hO hb3)))
  rename_i hHeld
  clear hs3 hs4 hHeld HS1 HBd HS
  have HD4 := Lib.hid (HB2.out.trans (HB4.out.mono (by rw [← hD]; exact HB2.out.size)))
  have HK4 := Lib.hid (HK2.out.below HB4.out (Nat.le_refl _))
  obtain ⟨U, hU⟩ : ∃ U, w4.heap.size = U := ⟨_, rfl⟩
  have HUU := Lib.hid hU
  have HDU := Lib.hid (show D < U by rw [← hU]; exact HK4.out.lt)
  obtain ⟨ea', eb, eo, ec', hform, hei, hep, hec, hem⟩ := HE4.out.open elemEnds
  simp only [Value.slice.injEq, true_and] at hform
  obtain ⟨rfl, rfl⟩ := hform
  have HEP := Lib.hid hep
  have hebU : eb < U := by rw [← hU]; exact hep.1 (by omega)
  obtain ⟨⟨p0, q0⟩, hs0⟩ : ∃ x, SS[0] = x := ⟨_, rfl⟩
  have HS0 := Lib.hid (show SS.getD 0 (0, 0) = (p0, q0) by rw [List.getD_eq_getElem?_getD, List.getElem?_eq_getElem (by omega), hs0]; rfl)
  have hq0 := HRG.out _ (List.getElem_mem (show 0 < SS.length by omega))
  rw [hs0] at hq0
  have HQ0 := Lib.hid hq0.2
  have b1 : w4.cell? ⟨eb, eo + 1, none⟩ = some (.int .i64 (q0 : Nat)) := by
    have := hep.2 0 (by omega) 1 (.int .i64 (q0 : Nat)) (by rw [hs0]; rfl)
    rwa [Nat.zero_mul, Nat.add_zero] at this
  have HB1 := Lib.hid b1
  have d1 : decide ((256 : Int) < (SS.length : Int)) = false := by simp only [decide_eq_false_iff_not]; omega
  have d2 : decide (256 < SS.length) = false := by simp only [decide_eq_false_iff_not]; omega
  have d3 : 0 < SS.length := by omega
  have d4 : (0 : Int) < (SS.length : Int) := by omega
  clear hep hs0 hq0 b1 hU
  go_wp2_with (at_make; refine mkN elemB rfl _ _ rfl SS.length rfl rfl rfl rfl (by omega) (by unfold maxLen; omega) (Below.refl w4.heap.size w4) (Nat.le_refl _) rfl ?_; intro w5 hown hb5 hb5'; rw [HUU.out] at hown hb5 ⊢; have hU5 := blk_of_own hown; rw [show List.replicate SS.length (Value.bool false) = bools (List.replicate SS.length false) by simp [bools]] at hU5; have HU5 := Lib.hid hU5; have HB5 := Lib.hid hb5; have cz := hU5.cell 0 _ (bools_at _ 0 (by rw [List.length_replicate]; exact d3)); have fz := hU5.free 0; have uz := hU5.lt; have e1 : w5.cell? ⟨eb, eo + 1, none⟩ = some (.int .i64 (q0 : Nat)) := (World.cell?_of_block (a := ⟨eb, eo + 1, none⟩) (hb5.block eb (by omega))).trans HB1.out; have el : eb < w5.heap.size := Nat.lt_trans hebU hU5.lt; have ene : eb ≠ U := (by omega); clear hown hb5 hb5' hU5)
  have HSZ5 := Lib.hid (show U < w5.heap.size from uz)
  obtain ⟨X, hX⟩ : ∃ X, (w5.setCell ⟨U, 0, none⟩ (.bool true)).alloc (.cells #[.int .i64 0] 3) = X := ⟨_, rfl⟩
  have HUX := Lib.hid (show Blk X U (bools ((List.replicate SS.length false).set 0 true)) 4 by rw [← hX, ← bools_set]; exact (HU5.out.set 0 (.bool true)).alloc _)
  have HBX := Lib.hid (show Below U w4 X by rw [← hX]; exact (HB5.out.setCell (p := ⟨U, 0, none⟩) (Nat.le_refl U) _).alloc (by simp; omega) _)
  have HOX := Lib.hid (show X.ownsRow (U + 1) 3 1 (.slice (some ⟨w5.heap.size, 0, none⟩) 1 1) 1 (ints [0]) by
    rw [← hX]
    refine ⟨rfl, .inr ⟨w5.heap.size, 1, #[.int .i64 0], rfl, by have := HSZ5.out; omega, ?_, by omega, by unfold maxLen; omega, rfl, rfl⟩⟩
    have := heap_alloc_new (w5.setCell ⟨U, 0, none⟩ (.bool true)) (.cells #[.int .i64 0] 3)
    rwa [show (w5.setCell ⟨U, 0, none⟩ (.bool true)).heap.size = w5.heap.size by simp] at this)
  try rw [hX]
  clear cz fz uz e1 el ene hX
  go_loopw [8, 9] (fun s p wr => ∃ (t : List Nat) (us : List Bool) (v f : Nat), p = .int .i64 v ∧ v < n ∧ us.length = SS.length ∧ t.length ≤ SS.length ∧ lenV s = t.length ∧ Hid (tourF n SS f v t us = some T) ∧ Hid (wr.ownsRow (U + 1) 3 1 s t.length (ints t)) ∧ Hid (Blk wr U (bools us) 4) ∧ Hid (Below U w4 wr)) (fun s _ _ => SS.length - lenV s)
  case atStart => exact ⟨[0], _, q0, SS.length, rfl, HQ0.out, by simp, by simp; omega, rfl, Lib.hid (by have := HT.out; unfold tourS at this; rw [HS0.out] at this; exact this), HOX, HUX, HBX⟩
  case round =>
    clear HOX HUX HBX HSZ5 HU5 HB5
    obtain ⟨t, us, v, f, rfl, hvn, hus, htl, hlv, hF, hO, hU, hB⟩ := hrel
    obtain ⟨ta, tc, rfl⟩ := own_formK hO.out
    by_cases htm : t.length < SS.length
    · obtain ⟨f', i0, hN, hF2⟩ := tourF_step hF.out htm
      have HF2 := Lib.hid hF2
      have hRw := HRW.out.below hB.out (Nat.le_of_eq HUU.out)
      have hvl : v < (outs n SS).length := by rw [outs, outsAt_len]; exact hvn
      have hvv : v < vs.length := by rw [hRw.len]; exact hvl
      have hgD : (outs n SS).getD v [] = (outs n SS)[v] := by rw [List.getD_eq_getElem?_getD, List.getElem?_eq_getElem hvl]; rfl
      rw [hgD] at hN
      have hOm : ∀ i ∈ (outs n SS)[v], i < SS.length := fun i hi => outs_mem hvl hi
      have hown := hRw.own v hvv hvl
      obtain ⟨O, hOO⟩ : ∃ O, (outs n SS)[v] = O := ⟨_, rfl⟩
      rw [hOO] at hN hOm hown
      have hO0 : 0 < O.length := by
        rcases O with _ | ⟨x, l⟩
        · cases hN
        · simp
      obtain ⟨og, oc, hog⟩ := own_pos1 hown hO0
      have c0 : wr.cell? ⟨L, v, none⟩ = some (.slice (some ⟨og, 0, none⟩) O.length oc) := hRw.blk.cell v _ (by rw [← hog]; simp [hvv])
      rw [hog] at hown
      have HOG := Lib.hid hown
      have HOM := Lib.hid hOm
      have hgL := hRw.blk.lt
      have p1 : (0 : Int) ≤ (v : Int) := by omega
      have p2 : (v : Int) < (n : Int) := by omega
      have HWR := Lib.hid (show og < wr.heap.size from (hown.lt og rfl).2)
      have HN0 := Lib.hid (show nextA n SS us (O.drop 0) = some i0 from hN)
      have hOl : O.length ≤ 256 := by
        rw [← hOO]
        simp only [outs, outsAt, List.getElem_map, List.getElem_range]
        exact Nat.le_trans (List.length_filter_le _ _) (by simp; omega)
      have HC0 := Lib.hid hown
      obtain ⟨w6, hw6⟩ : ∃ w6 : World, w6 = wr := ⟨wr, rfl⟩
      have HO6 := Lib.hid (show w6.ownsRow (U + 1) 3 1 (.slice ta t.length tc) t.length (ints t) by rw [hw6]; exact hO.out)
      have HU6 := Lib.hid (show Blk w6 U (bools us) 4 by rw [hw6]; exact hU.out)
      have HB6 := Lib.hid (show Below U w4 w6 by rw [hw6]; exact hB.out)
      have HG6 := Lib.hid (show w6.ownsRow C 3 1 (.slice (some ⟨og, 0, none⟩) O.length oc) O.length (ints O) by rw [hw6]; exact hown)
      clear hN hF hF2 hOO hog hRw hgD hOm hown
      go_wp2
      clear c0
      go_loopw [8, 9, 48] (fun s p q wr => ∃ k : Nat, k ≤ O.length ∧ q = .int .i64 k ∧ s = .slice ta t.length tc ∧ p = .int .i64 v ∧ Hid (nextA n SS us (O.drop k) = some i0) ∧ Hid (wr.ownsRow (U + 1) 3 1 (.slice ta t.length tc) t.length (ints t)) ∧ Hid (Blk wr U (bools us) 4) ∧ Hid (Below U w4 wr) ∧ Hid (wr.ownsRow C 3 1 (.slice (some ⟨og, 0, none⟩) O.length oc) O.length (ints O))) (fun _ _ q _ => O.length - (intOf q).toNat)
      case atStart => exact ⟨0, Nat.zero_le _, rfl, rfl, rfl, HN0, by rw [← hw6]; exact HO6, by rw [← hw6]; exact HU6, by rw [← hw6]; exact HB6, by rw [← hw6]; exact HG6⟩
      case round =>
        clear HN0 HO6 HU6 HB6 HG6 HC0 hO hU hB hgL HWR
        obtain ⟨k, hk, rfl, rfl, rfl, hN, hO, hU, hB, hG⟩ := hrel
        by_cases hkn : k < O.length
        · obtain ⟨i, hi⟩ : ∃ i, O[k] = i := ⟨_, rfl⟩
          have him : i < SS.length := by rw [← hi]; exact HOM.out _ (List.getElem_mem hkn)
          have hiu : i < us.length := by rw [hus]; exact him
          have hdr : O.drop k = i :: O.drop (k + 1) := by rw [List.drop_eq_getElem_cons hkn, hi]
          have hN2 := hN.out
          rw [hdr] at hN2
          have c1 : wr.cell? ⟨og, k, none⟩ = some (.int .i64 (i : Nat)) := by
            have h1 : k < (ints O).length := by simp [ints]; exact hkn
            obtain ⟨u, e1, e2, -⟩ := own_at hG.out hkn
            rw [ints_at O k hkn, hi] at e1
            rw [e2, ← e1]
          have c2 : wr.cell? ⟨U, i, none⟩ = some (.bool us[i]) := hU.out.cell i _ (bools_at us i hiu)
          have cf := hU.out.free i; have cl := hU.out.lt
          have hgl := (hG.out.lt og rfl).2
          have p3 : (0 : Int) ≤ (k : Int) := by omega
          have p4 : (k : Int) < (O.length : Int) := by omega
          have p5 : (0 : Int) ≤ (i : Int) := by omega
          have p6 : (i : Int) < (SS.length : Int) := by omega
          cases hui : us[i]
          rotate_left
          · rw [hui] at c2
            have HN := Lib.hid (show nextA n SS us (O.drop (k + 1)) = some i0 by
              unfold nextA at hN2
              rw [if_neg (by rw [List.getElem?_eq_getElem hiu, hui]; simp)] at hN2
              exact hN2)
            clear hui hN2 hdr hi
            go_wp2
            go_roundw
            case rel => exact ⟨k + 1, by omega, by go_num, rfl, rfl, HN, hO, hU, hB, hG⟩
            case measure => simp [intOf]; omega
          · rw [hui] at c2
            obtain ⟨⟨x, y⟩, hx⟩ : ∃ x, SS[i] = x := ⟨_, rfl⟩
            have hgi : SS.getD i (0, 0) = (x, y) := by rw [List.getD_eq_getElem?_getD, List.getElem?_eq_getElem him, hx]; rfl
            have hyn : y < n := by have := (HRG.out _ (List.getElem_mem him)).2; rw [hx] at this; exact this
            have e1 : wr.cell? ⟨eb, eo + i * 2 + 1, none⟩ = some (.int .i64 (y : Nat)) := by
              have := HEP.out.2 i him 1 (.int .i64 (y : Nat)) (by rw [hx]; rfl)
              exact (World.cell?_of_block (a := ⟨eb, eo + i * 2 + 1, none⟩) (hB.out.block eb (by omega))).trans this
            have ebl : eb < wr.heap.size := by omega
            have ene : eb ≠ U := by omega
            have g0 : wr.cell? ⟨D, 0, none⟩ = some (.int .i64 (n : Nat)) := (HK4.out.below hB.out (Nat.le_of_eq HUU.out)).cell 0 _ rfl
            have gl : D < wr.heap.size := by have := HDU.out; omega
            have gne : D ≠ U := by have := HDU.out; omega
            obtain ⟨X, hX⟩ : ∃ X, wr.setCell ⟨U, i, none⟩ (.bool true) = X := ⟨_, rfl⟩
            have HUX := Lib.hid (show Blk X U (bools (us.set i true)) 4 by rw [← hX, ← bools_set]; exact hU.out.set i (.bool true))
            have HBX := Lib.hid (show Below U w4 X by rw [← hX]; exact hB.out.setCell (p := ⟨U, i, none⟩) (Nat.le_refl U) _)
            have HOX := Lib.hid (show X.ownsRow (U + 1) 3 1 (.slice ta t.length tc) t.length (ints t) by rw [← hX]; exact own_otherK hO.out (fun e => by have := own_ge hO.out _ e; omega))
            have HGX := Lib.hid (show X.ownsRow C 3 1 (.slice (some ⟨og, 0, none⟩) O.length oc) O.length (ints O) by rw [← hX]; exact own_otherK hG.out (own_apartB1 hG.out hU.out (by decide)))
            have HX := Lib.hid hX
            have HSX := Lib.hid (show X.heap.size = wr.heap.size by rw [← hX]; simp)
            have HCN := Lib.hid (fun (W' : World) (h1 : Below U w4 W') (h2 : Blk W' U (bools (us.set i true)) 4) => show Calls Tryz.prog 57 #[.int .i64 (n : Nat), .int .i64 (y : Nat), .slice ea SS.length ec, .slice (some ⟨U, 0, none⟩) SS.length SS.length] W' (Rets fun r w' => r = .bool (connB n y SS (us.set i true)) ∧ Below W'.heap.size W' w') from (connected_ok W' n y (.slice ea SS.length ec) (.slice (some ⟨U, 0, none⟩) SS.length SS.length) SS (us.set i true) (HE4.out.below h1 (Nat.le_of_eq HUU.out)) (slk_bools h2 (by rw [List.length_set]; exact hus) (by unfold maxLen; omega)) (by rw [List.length_set]; exact hus) HRG.out n12 hyn (by omega)).mono (by
              rintro e w' ⟨r, he, hp⟩
              exact ⟨r, he, connB_ok HRG.out hyn hp⟩))
            cases hcb : connB n y SS (us.set i true)
            · have HN := Lib.hid (show nextA n SS us (O.drop (k + 1)) = some i0 by
                unfold nextA at hN2
                rw [if_neg (by rw [hgi, hcb]; simp)] at hN2
                exact hN2)
              have HUS := Lib.hid (show (us.set i true).set i false = us by
                rw [List.set_set]
                apply List.ext_getElem (by simp)
                intro j h1 h2
                rw [List.getElem_set]
                split
                · rename_i e; subst e; exact hui.symm
                · rfl)
              rw [hcb] at HCN
              clear hui hN2 hdr hi hx hgi hcb hX
              go_wp2_with ((go_at_call 57); rw [HX.out]; (with_reducible refine (HCN.out X HBX.out HUX.out).mono ?_); rintro e w7 ⟨v7, rfl, rfl, hb7⟩; have HU7 := Lib.hid (HUX.out.below hb7 (Nat.le_refl _)); have HB7 := Lib.hid (HBX.out.trans (hb7.mono (by rw [← HUU.out]; exact HBX.out.size))); have HO7 := Lib.hid (own_belowK HOX.out hb7 (Nat.le_refl _)); have HG7 := Lib.hid (own_belowK HGX.out hb7 (Nat.le_refl _)); have cz7 := HU7.out.cell i _ (bools_at (us.set i true) i (by rw [List.length_set]; exact hiu)); have cf7 := HU7.out.free i; have cl7 := HU7.out.lt; clear hb7)
              go_roundw
              case rel => exact ⟨k + 1, by omega, by go_num, rfl, rfl, HN, Lib.hid (own_otherK HO7.out (fun e => by have := own_ge HO7.out _ e; omega)), Lib.hid (by have := HU7.out.set i (.bool false); rw [bools_set, HUS.out] at this; exact this), Lib.hid (HB7.out.setCell (p := ⟨U, i, none⟩) (Nat.le_refl U) _), Lib.hid (own_otherK HG7.out (own_apartB1 HG7.out HU7.out (by decide)))⟩
              case measure => simp [intOf]; omega
            · have hii : i0 = i := by
                unfold nextA at hN2
                rw [if_pos ⟨by rw [List.getElem?_eq_getElem hiu, hui], by rw [hgi]; exact hcb⟩] at hN2
                exact (Option.some.inj hN2).symm
              subst hii
              rw [hcb] at HCN
              rw [hgi] at HF2
              have HL1 := Lib.hid (show (t.length + 1) * 8 ≤ 140737488355328 by omega)
              have HL2 := Lib.hid (show t.length + 1 ≤ maxLen by unfold maxLen; omega)
              clear hui hN2 hdr hi hx hgi hcb hX
              go_wp2_with (first
                | (go_at_call 57; rw [HX.out]; (with_reducible refine (HCN.out X HBX.out HUX.out).mono ?_); rintro e w7 ⟨v7, rfl, rfl, hb7⟩; have HU7 := Lib.hid (HUX.out.below hb7 (Nat.le_refl _)); have HB7 := Lib.hid (HBX.out.trans (hb7.mono (by rw [← HUU.out]; exact HBX.out.size))); have HO7 := Lib.hid (own_belowK HOX.out hb7 (Nat.le_refl _)); have HZ7 := Lib.hid (show U + 1 ≤ w7.heap.size from HU7.out.lt); clear hb7)
                | (at_builtin; refine appMG (w0 := w7) (W := w4) (B := U) (m := 1) (news := [.int .i64 (i0 : Nat)]) elemI rfl _ _ rfl rfl rfl HO7.out HB7.out (Nat.le_succ U) HZ7.out rfl (by intro u hu; simp at hu; subst hu; rfl) HL1.out HL2.out ?_; intro v' w8 hown' hb8 hg8 hat8; obtain ⟨va, vc, rfl⟩ := own_formK hown'; have HO8 := Lib.hid hown'; have HB8 := Lib.hid hb8; have HU8 := Lib.hid ((hg8.block U (by rw [World.size_alloc]; have := HU7.out.lt; omega) (fun e => by have := own_ge HO7.out _ e.symm; omega)).trans (HU7.out.alloc (.cells [Value.int .i64 (i0 : Nat)].toArray 3))); clear hown' hb8 hg8 hat8))
              go_roundw
              case rel => exact ⟨t ++ [i0], us.set i0 true, y, f', rfl, hyn, by rw [List.length_set]; exact hus, by simp; omega, by simp [lenV], HF2, Lib.hid (by rw [← ints_snoc]; exact ownsRow_cast HO8.out (by simp) rfl), HU8, HB8⟩
              case measure => simp [lenV]; omega
        · exfalso
          have hN2 := hN.out
          rw [List.drop_eq_nil_of_le (by omega)] at hN2
          cases hN2
    · have hT9 := tourF_end hF.out (by omega)
      subst hT9
      have HQ := Lib.hid (show Below D w wr from HD4.out.trans (hB.out.mono (Nat.le_of_lt HDU.out)))
      have HSL := Lib.hid (show SlK i1 1 wr (.slice ta t.length tc) t by
        have := hO.out
        rw [ints_flat] at this
        exact SlK.ofOwns i1_len this rfl)
      have d5 : decide ((t.length : Int) < (SS.length : Int)) = false := by simp only [decide_eq_false_iff_not]; omega
      have d6 : decide (t.length < SS.length) = false := by simp only [decide_eq_false_iff_not]; omega
      go_wp2
      go_ret2
      exact ⟨_, rfl, _, rfl, HSL.out, by rw [hD]; exact HQ.out⟩
end Go.Proofs.YtlnhocgjgmhfgaaGreatDoor
