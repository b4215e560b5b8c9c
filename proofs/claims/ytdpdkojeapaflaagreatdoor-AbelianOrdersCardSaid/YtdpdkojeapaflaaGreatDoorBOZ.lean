/- The walk of the law AbelianOrders. -/
import Derived.Test.YtdpdkojeapaflaaGreatDoorPk6
import Derived.Test.YtdpdkojeapaflaaGreatDoorPk7
namespace Go.Proofs.YtdpdkojeapaflaaGreatDoor
open Go.RowKit
set_option maxRecDepth 100000

theorem g400 : Good ⟨#[52, 48, 48]⟩ 400 := good_lit (by decide) (by decide)
theorem ord_400 (w : World) (x : Int) (hx : dn x ≤ 90000) : Calls Tryz.prog 14 #[.string (txt x), .string ⟨#[52, 48, 48]⟩] w (Rets fun v w' => v = .int .i64 (x - 400).sign ∧ Below w.heap.size w w') := by
  rw [g400.eq]; exact Order_any w x 400 hx (by have := g400.dn; omega)
theorem orderOf_both (w0 : World) (v u : Value) (g a : List ByteArray) (hv : Sl eS w0 v g) (hu : Sl eS w0 u a) (hf : few05 g = true) (hb : bad a = false) (hlast : gchk g = 0 → num (rlast g) ≤ 400) : ∃ (T : ByteArray) (K : Int),
    (∀ w, Below w0.heap.size w0 w → Env w → Calls Tryz.prog 17 #[v, u] w (Rets fun v w' => v = .tuple #[.string T, .int .i64 K] ∧ Below w.heap.size w w')) ∧
    (∀ w, Below w0.heap.size w0 w → Calls Tryz.prog 18 #[v, u] w (Rets fun v w' => v = .tuple #[.string T, .int .i64 K] ∧ Below w.heap.size w w')) := by
  have hv' : ∀ w, Below w0.heap.size w0 w → Sl eS w v g := fun w hb => hv.below hb (Nat.le_refl _)
  have hu' : ∀ w, Below w0.heap.size w0 w → Sl eS w u a := fun w hb => hu.below hb (Nat.le_refl _)
  have hsa := bad_size hb
  by_cases hg : gchk g = 0
  · obtain ⟨zs, hG⟩ := grp_of hg
    have hsg := few05_size hf hG.len
    by_cases hm : mchk g a = 0
    · obtain ⟨z, hz, hz1⟩ := rlast_good hG
      have hz4 := hlast hg
      rw [hz.num] at hz4
      have hdn : dn (num (rlast g)) ≤ 3 := by
        rw [hz.num]
        exact Nat.le_trans (dn_le (y := 999) (by omega)) (by rw [show dn 999 = 3 by decide +kernel]; exact Nat.le_refl _)
      have hP := pos_of (K := 3) hG hg hdn (by omega)
      obtain ⟨us, hus, hel, hal, hatx, hlt⟩ := elt_tx hG hm
      refine ⟨_, 0, fun w hb he => OrderOf_ok w v u g a zs _ _ _ 3 (hv' w hb) (hu' w hb) hG.good hg hm hP hatx hlt hG.len hal hsg hsa he, fun w hb => rOrderOf_ok w v u g a zs _ _ _ 3 (hv' w hb) (hu' w hb) hG.good hg hm hP hatx hlt hG.len hal hsg hsa (by rw [hz.num]; omega)⟩
    · exact ⟨⟨#[]⟩, mchk g a, fun w hb he => OrderOf_err2 w v u g a zs (hv' w hb) (hu' w hb) hG.good hg hm hG.len hsg (fun _ => hsa) he, fun w hb => rOrderOf_err2 w v u g a zs (hv' w hb) (hu' w hb) hG.good hg hm hG.len hsg (fun _ => hsa)⟩
  · exact ⟨⟨#[]⟩, gchk g, fun w hb he => OrderOf_err1 w v u g a (hv' w hb) (hu' w hb) hg (few05_size hf) he, fun w hb => rOrderOf_err1 w v u g a (hv' w hb) (hu' w hb) hg (few05_size hf)⟩

set_option maxHeartbeats 4000000 in
theorem orders05_any (w : World) (v : Value) (g : List ByteArray) (hv : Sl eS w v g) (u : Value) (a : List ByteArray) (hu : Sl eS w u a) (hsg : ∀ s ∈ g, s.size ≤ 9223372036854775807) (hsa : ∀ s ∈ a, s.size ≤ 9223372036854775807) (he : Env w) :
    Calls Tryz.prog 3 #[v, u] w (Rets fun v w' => v = .bool true ∧ Below w.heap.size w w') := by
  have HV := Lib.hid hv; have HU := Lib.hid hu; have HSG := Lib.hid hsg; have HE := Lib.hid he
  have HSA := Lib.hid (show ∀ xs ∈ [a], ∀ s ∈ xs, s.size ≤ 9223372036854775807 from fun xs hx s hs => by rw [List.mem_singleton.1 hx] at hs; exact hsa s hs)
  have HLst := Lib.hid (fun e => Lst.one w u a hu e)
  have b0 := Lib.hid (fun e => (Below.refl w.heap.size w).alloc (Nat.le_refl _) (.cells #[u] e))
  obtain ⟨ad, b, o, c, rfl, -, -, -, -⟩ := hv.open elemStr
  obtain ⟨ad', b', o', c', rfl, -, -, -, -⟩ := hu.open elemStr
  clear hsg hsa he
  cases hf : few05 g
  · have HF := Lib.hid hf
    clear hf hv hu
    go_enter Tryz.func3, Tryz.ntmps3
    go_wp2_with (first
      | (go_at_call 11; (with_reducible refine (Few05_any _ _ g HV.out HSG.out).mono ?_); rintro e w1 ⟨v, rfl, rfl, rfl⟩; rw [HF.out])
      | (go_at_call 16; (with_reducible refine (awake05 _ HE.out).mono ?_); rintro e w2 ⟨v, rfl, rfl, hb2⟩))
    go_ret
    exact ⟨_, rfl, rfl, hb2⟩
  · have HF := Lib.hid hf
    cases hb : bad a
    · have HB := Lib.hid (show (!([a].any bad)) = true by simp [hb])
      by_cases hg : gchk g = 0
      · obtain ⟨zs, hG⟩ := grp_of hg
        obtain ⟨z, hz, hz1⟩ := rlast_good hG
        have HL := Lib.hid hz.eq; have HZD := Lib.hid hz.dn
        have HG := Lib.hid hg
        have HSZ := Lib.hid (few05_size hf hG.len)
        by_cases h4 : z ≤ 400
        · obtain ⟨T, K, hm1, hm2⟩ := orderOf_both w _ _ g a hv hu hf hb (fun _ => by rw [hz.num]; exact h4)
          have HM1 := Lib.hid hm1; have HM2 := Lib.hid hm2
          obtain ⟨q, hq, hq0⟩ : ∃ q, (z - 400).sign = q ∧ q ≤ 0 := ⟨_, rfl, by
            rcases Int.lt_or_eq_of_le h4 with h | h
            · rw [Int.sign_eq_neg_one_of_neg (by omega)]; omega
            · rw [h]; decide⟩
          have HQ := Lib.hid hq
          clear hf hv hu hb hg hG hz hm1 hm2 hq h4
          go_enter Tryz.func3, Tryz.ntmps3
          go_wp2_with (first
            | (go_at_call 11; (with_reducible refine (Few05_any _ _ g HV.out HSG.out).mono ?_); rintro e w1 ⟨v, rfl, rfl, rfl⟩; rw [HF.out])
            | (go_at_call 12; (with_reducible refine (fewL _ _ _ [a] (HLst.out _) HSA.out).mono ?_); rintro e w1 ⟨v, rfl, rfl, rfl⟩; rw [HB.out]; have b1 := b0.out 22)
            | (go_at_call 13; (with_reducible refine (rACheck_any _ _ g (HV.out.below b1 (Nat.le_refl _)) (fun _ => HSZ.out)).mono ?_); rintro e w2 ⟨v, rfl, rfl, hb2⟩; rw [HG.out]; have b2 := b1.trans (hb2.mono b1.size))
            | (go_at_call 15; (with_reducible refine (Last_any _ _ g (HV.out.below b2 (Nat.le_refl _))).mono ?_); rintro e w3 ⟨v, rfl, rfl, rfl⟩; rw [HL.out])
            | (go_at_call 14; (with_reducible refine (ord_400 _ z (by have := HZD.out; omega)).mono ?_); rintro e w4 ⟨v, rfl, rfl, hb4⟩; rw [HQ.out]; have b4 := b2.trans (hb4.mono b2.size))
            | (go_at_call 17; (with_reducible refine (HM1.out _ b4 (HE.out.below b4 (Nat.le_refl _))).mono ?_); rintro e w5 ⟨v, rfl, rfl, hb5⟩; have b5 := b4.trans (hb5.mono b4.size))
            | (go_at_call 18; (with_reducible refine (HM2.out _ b5).mono ?_); rintro e w6 ⟨v, rfl, rfl, hb6⟩; have b6 := b5.trans (hb6.mono b5.size))
            | (go_at_call 16; (with_reducible refine (awake05 _ (HE.out.below b6 (Nat.le_refl _))).mono ?_); rintro e w7 ⟨v, rfl, rfl, hb7⟩; have b7 := b6.trans (hb7.mono b6.size)))
          go_ret
          exact ⟨_, rfl, rfl, b7⟩
        · have HQ := Lib.hid (show (z - 400).sign = 1 from Int.sign_eq_one_of_pos (by omega))
          clear hf hv hu hb hg hG hz h4
          go_enter Tryz.func3, Tryz.ntmps3
          go_wp2_with (first
            | (go_at_call 11; (with_reducible refine (Few05_any _ _ g HV.out HSG.out).mono ?_); rintro e w1 ⟨v, rfl, rfl, rfl⟩; rw [HF.out])
            | (go_at_call 12; (with_reducible refine (fewL _ _ _ [a] (HLst.out _) HSA.out).mono ?_); rintro e w1 ⟨v, rfl, rfl, rfl⟩; rw [HB.out]; have b1 := b0.out 22)
            | (go_at_call 13; (with_reducible refine (rACheck_any _ _ g (HV.out.below b1 (Nat.le_refl _)) (fun _ => HSZ.out)).mono ?_); rintro e w2 ⟨v, rfl, rfl, hb2⟩; rw [HG.out]; have b2 := b1.trans (hb2.mono b1.size))
            | (go_at_call 15; (with_reducible refine (Last_any _ _ g (HV.out.below b2 (Nat.le_refl _))).mono ?_); rintro e w3 ⟨v, rfl, rfl, rfl⟩; rw [HL.out])
            | (go_at_call 14; (with_reducible refine (ord_400 _ z (by have := HZD.out; omega)).mono ?_); rintro e w4 ⟨v, rfl, rfl, hb4⟩; rw [HQ.out]; have b4 := b2.trans (hb4.mono b2.size))
            | (go_at_call 16; (with_reducible refine (awake05 _ (HE.out.below b4 (Nat.le_refl _))).mono ?_); rintro e w7 ⟨v, rfl, rfl, hb7⟩; have b7 := b4.trans (hb7.mono b4.size)))
          go_ret
          exact ⟨_, rfl, rfl, b7⟩
      · obtain ⟨T, K, hm1, hm2⟩ := orderOf_both w _ _ g a hv hu hf hb (fun h => absurd h hg)
        have HM1 := Lib.hid hm1; have HM2 := Lib.hid hm2
        have HSZ := Lib.hid (few05_size hf)
        have hg0 : (gchk g == 0) = false := by simp [hg]
        clear hf hv hu hb hg hm1 hm2
        go_enter Tryz.func3, Tryz.ntmps3
        go_wp2_with (first
          | (go_at_call 11; (with_reducible refine (Few05_any _ _ g HV.out HSG.out).mono ?_); rintro e w1 ⟨v, rfl, rfl, rfl⟩; rw [HF.out])
          | (go_at_call 12; (with_reducible refine (fewL _ _ _ [a] (HLst.out _) HSA.out).mono ?_); rintro e w1 ⟨v, rfl, rfl, rfl⟩; rw [HB.out]; have b1 := b0.out 22)
          | (go_at_call 13; (with_reducible refine (rACheck_any _ _ g (HV.out.below b1 (Nat.le_refl _)) HSZ.out).mono ?_); rintro e w2 ⟨v, rfl, rfl, hb2⟩; have b2 := b1.trans (hb2.mono b1.size))
          | (go_at_call 17; (with_reducible refine (HM1.out _ b2 (HE.out.below b2 (Nat.le_refl _))).mono ?_); rintro e w5 ⟨v, rfl, rfl, hb5⟩; have b5 := b2.trans (hb5.mono b2.size))
          | (go_at_call 18; (with_reducible refine (HM2.out _ b5).mono ?_); rintro e w6 ⟨v, rfl, rfl, hb6⟩; have b6 := b5.trans (hb6.mono b5.size))
          | (go_at_call 16; (with_reducible refine (awake05 _ (HE.out.below b6 (Nat.le_refl _))).mono ?_); rintro e w7 ⟨v, rfl, rfl, hb7⟩; have b7 := b6.trans (hb7.mono b6.size)))
        go_ret
        exact ⟨_, rfl, rfl, b7⟩
    · have HB := Lib.hid (show (!([a].any bad)) = false by simp [hb])
      clear hf hv hu hb
      go_enter Tryz.func3, Tryz.ntmps3
      go_wp2_with (first
        | (go_at_call 11; (with_reducible refine (Few05_any _ _ g HV.out HSG.out).mono ?_); rintro e w1 ⟨v, rfl, rfl, rfl⟩; rw [HF.out])
        | (go_at_call 12; (with_reducible refine (fewL _ _ _ [a] (HLst.out _) HSA.out).mono ?_); rintro e w1 ⟨v, rfl, rfl, rfl⟩; rw [HB.out]; have b1 := b0.out 22)
        | (go_at_call 16; (with_reducible refine (awake05 _ (HE.out.below b1 (Nat.le_refl _))).mono ?_); rintro e w2 ⟨v, rfl, rfl, hb2⟩; have b2 := b1.trans (hb2.mono b1.size)))
      go_ret
      exact ⟨_, rfl, rfl, b2⟩
end Go.Proofs.YtdpdkojeapaflaaGreatDoor
