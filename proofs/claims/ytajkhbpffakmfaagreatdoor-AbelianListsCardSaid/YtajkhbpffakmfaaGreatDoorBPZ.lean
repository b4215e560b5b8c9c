/- The walk of the law AbelianLists. -/
import Derived.Test.YtajkhbpffakmfaaGreatDoorPk13
import Derived.Test.YtajkhbpffakmfaaGreatDoorPk11
namespace Go.Proofs.YtajkhbpffakmfaaGreatDoor
open Go.RowKit
set_option maxRecDepth 100000

set_option maxHeartbeats 4000000 in
theorem lists05_any (w : World) (v : Value) (g : List ByteArray) (hv : Sl eS w v g) (hsg : ∀ s ∈ g, s.size ≤ 9223372036854775807) (he : Env w) :
    Calls Tryz.prog 4 #[v] w (Rets fun v w' => v = .bool true ∧ Below w.heap.size w w') := by
  have HV := Lib.hid hv; have HSG := Lib.hid hsg; have HE := Lib.hid he
  have q0 := Below.refl w.heap.size w
  obtain ⟨ad, b, o, c, rfl, -, -, -, -⟩ := hv.open elemStr
  clear hsg he hv
  cases hf : few05 g
  · have HF := Lib.hid hf
    clear hf
    go_enter Tryz.func4, Tryz.ntmps4
    go_wp2_with (first
      | (go_at_call 20; (with_reducible refine (awake05 _ HE.out).mono ?_); rintro e w2 ⟨v, rfl, rfl, h2⟩; have q2 := q0.trans (h2.mono q0.size))
      | (go_at_call 14; (with_reducible refine (Few05_any _ _ g HV.out HSG.out).mono ?_); rintro e w' ⟨v, rfl, rfl, rfl⟩; rw [HF.out]))
    go_ret
    exact ⟨_, rfl, rfl, q2⟩
  have HF := Lib.hid hf
  have HSS := Lib.hid (few05_size hf)
  by_cases hg : gchk g = 0
  rotate_left
  · have hne : (gchk g == 0) = false := by simp [hg]
    have HG := Lib.hid hg
    clear hf hg
    go_enter Tryz.func4, Tryz.ntmps4
    go_wp2_with (first
      | (go_at_call 20; (with_reducible refine (awake05 _ (HE.out.below q4 (Nat.le_refl _))).mono ?_); rintro e w5 ⟨v, rfl, rfl, h5⟩; have q5 := q4.trans (h5.mono q4.size))
      | (go_at_call 23; (with_reducible refine (SameAll_self _ _ _ [] [] [] (Lst.nil _) (Lst.nil _)).mono ?_); rintro e w4 ⟨v, rfl, rfl, h4⟩; have q4 := q3.trans (h4.mono q3.size))
      | (go_at_call 22; (with_reducible refine (rElements_err _ _ g (HV.out.below q2 (Nat.le_refl _)) HG.out HSS.out).mono ?_); rintro e w3 ⟨v, rfl, rfl, h3⟩; have q3 := q2.trans (h3.mono q2.size))
      | (go_at_call 21; (with_reducible refine (Elements_err _ _ g (HV.out.below q1 (Nat.le_refl _)) HG.out HSS.out (HE.out.below q1 (Nat.le_refl _))).mono ?_); rintro e w2 ⟨v, rfl, rfl, h2⟩; have q2 := q1.trans (h2.mono q1.size))
      | (go_at_call 15; (with_reducible refine (rACheck_any _ _ g HV.out HSS.out).mono ?_); rintro e w1 ⟨v, rfl, rfl, h1⟩; have q1 := q0.trans (h1.mono q0.size))
      | (go_at_call 14; (with_reducible refine (Few05_any _ _ g HV.out HSG.out).mono ?_); rintro e w' ⟨v, rfl, rfl, rfl⟩; rw [HF.out]))
    go_ret
    exact ⟨_, rfl, rfl, q5⟩
  have hl := (gchk_len hg).1
  obtain ⟨zs, hz, h2⟩ := gstep_good g none (gchk_len hg).2
  have hzt := goods_txt hz
  have hgt := goods_tx g zs hz (fun z hz => by have := h2 z hz; omega)
  have hlz : zs.length ≤ 16 := by rw [hzt, List.length_map] at hl; exact hl
  have hdz : ∀ z ∈ zs, dn z ≤ 30 := fun z hzm => by
    obtain ⟨i, hi, rfl⟩ := List.getElem_of_mem hzm
    have hig : i < g.length := by rw [hzt, List.length_map]; exact hi
    exact few05_dn hf hl (List.getElem_mem hig) (hz.get i hig hi)
  have hdP : dn (prods zs) ≤ 1024 := by have := prods_dn_take zs zs.length hdz hlz; rw [List.take_length] at this; omega
  obtain ⟨ss, hss⟩ : ∃ ss, zs.map Int.toNat = ss := ⟨_, rfl⟩
  rw [hss] at hgt
  have hzs : zs = ss.map (fun (n : Nat) => (n : Int)) := by
    rw [← hss, List.map_map]
    conv => lhs; rw [← List.map_id zs]
    refine List.map_congr_left fun z hzm => ?_
    have := h2 z hzm
    simp only [id, Function.comp]; omega
  have hpr : prods zs = (pr ss : Int) := by rw [hzs, prods_pr]
  have h2s : ∀ n ∈ ss, 2 ≤ n := fun n hn => by
    have := h2 (n : Int) (by rw [hzs]; exact List.mem_map.2 ⟨n, hn, rfl⟩)
    omega
  have hls : ss.length ≤ 16 := by rw [← hss, List.length_map]; exact hlz
  have HG := Lib.hid hg; have HZT := Lib.hid hzt; have HGT := Lib.hid hgt; have HDZ := Lib.hid (show ∀ z ∈ zs, dn z ≤ 500 from fun z hz => by have := hdz z hz; omega)
  have H2Z := Lib.hid h2; have H2S := Lib.hid h2s; have HZ := Lib.hid hz; have HDP := Lib.hid hdP; have HPR := Lib.hid hpr; have HSZ := Lib.hid (HSS.out hl)
  have HZN := Lib.hid (show Goods g (ss.map (fun (n : Nat) => (n : Int))) by rw [← hzs]; exact hz)
  have HPS := Lib.hid (show ∀ n ∈ ss, 0 < n from fun n hn => by have := h2s n hn; omega)
  by_cases hP : prods zs ≤ 600
  · have hT := Lib.hid (show decide (prods zs ≤ 600) = true by simp [hP])
    have HP1 := Lib.hid (show prods zs ≤ 16384 by omega); have HP2 := Lib.hid (show pr ss ≤ 16384 by omega)
    clear hf hg hzt hgt hdz h2 h2s hz hdP hpr hss hzs hP
    go_enter Tryz.func4, Tryz.ntmps4
    go_wp2_with (first
      | (go_at_call 20; (with_reducible refine (awake05 _ (HE.out.below q5 (Nat.le_refl _))).mono ?_); rintro e w6 ⟨v, rfl, rfl, h6⟩; have q6 := q5.trans (h6.mono q5.size))
      | (go_at_call 23; (with_reducible refine (SameAll_self _ _ _ _ _ (allL ss) (HO1.out.below h4 (Nat.le_refl _)).lst HO2.out.lst).mono ?_); rintro e w5 ⟨v, rfl, rfl, h5⟩; have q5 := q4.trans (h5.mono q4.size))
      | (go_at_call 22; (with_reducible refine (rElements_ok _ _ g zs ss (HV.out.below q3 (Nat.le_refl _)) HZT.out HDZ.out hlz HG.out HP1.out HDP.out HSS.out HGT.out HPS.out HP2.out).mono ?_); rintro e w4 ⟨v, rfl, x4, us4, rfl, hO4, h4⟩; have HO2 := Lib.hid hO4; clear hO4; obtain ⟨a4, k4, rfl⟩ := own_form HO2.out.own; have q4 := q3.trans (h4.mono q3.size))
      | (go_at_call 21; (with_reducible refine (Elements_ok _ _ g ss (HV.out.below q2 (Nat.le_refl _)) HGT.out H2S.out HG.out HZN.out hls HP2.out HSZ.out (HE.out.below q2 (Nat.le_refl _))).mono ?_); rintro e w3 ⟨v, rfl, x3, us3, rfl, hO3, h3⟩; have HO1 := Lib.hid hO3; clear hO3; obtain ⟨a3, k3, rfl⟩ := own_form HO1.out.own; have q3 := q2.trans (h3.mono q2.size))
      | (go_at_call 16; (with_reducible refine (rTiny_any _ _ g zs (HV.out.below q1 (Nat.le_refl _)) HZT.out HDZ.out hlz HDP.out).mono ?_); rintro e w2 ⟨v, rfl, rfl, h2⟩; rw [hT.out]; have q2 := q1.trans (h2.mono q1.size))
      | (go_at_call 15; (with_reducible refine (rACheck_any _ _ g HV.out HSS.out).mono ?_); rintro e w1 ⟨v, rfl, rfl, h1⟩; rw [HG.out]; have q1 := q0.trans (h1.mono q0.size))
      | (go_at_call 14; (with_reducible refine (Few05_any _ _ g HV.out HSG.out).mono ?_); rintro e w' ⟨v, rfl, rfl, rfl⟩; rw [HF.out]))
    go_ret
    exact ⟨_, rfl, rfl, q6⟩
  have hT := Lib.hid (show decide (prods zs ≤ 600) = false by simp [hP])
  by_cases hP2 : prods zs ≤ 16384
  · obtain ⟨P, hPP⟩ : ∃ P, prods zs = P := ⟨_, rfl⟩
    rw [hPP] at hP2
    obtain ⟨sg, hsg, hs0⟩ : ∃ s : Int, (P - 16384).sign = s ∧ s ≤ 0 := ⟨_, rfl, by
      rcases Int.lt_or_le P 16384 with h | h
      · rw [Int.sign_eq_neg_one_of_neg (by omega)]; omega
      · rw [show P - 16384 = 0 by omega]; decide⟩
    have HPP := Lib.hid hPP; have HSN := Lib.hid hsg
    have HDP2 := Lib.hid (show dn P ≤ 1024 by rw [← hPP]; exact hdP)
    clear hf hg hzt hgt hdz h2 h2s hz hdP hpr hss hzs hP hPP hsg hP2
    go_enter Tryz.func4, Tryz.ntmps4
    go_wp2_with (first
      | (go_at_call 20; (with_reducible refine (awake05 _ (HE.out.below q5 (Nat.le_refl _))).mono ?_); rintro e w6 ⟨v, rfl, rfl, h6⟩; have q6 := q5.trans (h6.mono q5.size))
      | (go_at_call 17; (with_reducible refine (ord_t16 _ P (by have := HDP2.out; omega)).mono ?_); rintro e w5 ⟨v, rfl, rfl, h5⟩; rw [HSN.out]; have q5 := q4.trans (h5.mono q4.size))
      | (go_at_call 19; (with_reducible refine (rOf_any _ 16384 (by omega) (by omega)).mono ?_); rintro e w4 ⟨v, rfl, rfl, h4⟩; have q4 := q3.trans (h4.mono q3.size))
      | (go_at_call 18; (with_reducible refine (Size_any _ _ g zs (HV.out.below q2 (Nat.le_refl _)) HZT.out HDZ.out hlz).mono ?_); rintro e w3 ⟨v, rfl, rfl, h3⟩; rw [HPP.out]; have q3 := q2.trans (h3.mono q2.size))
      | (go_at_call 16; (with_reducible refine (rTiny_any _ _ g zs (HV.out.below q1 (Nat.le_refl _)) HZT.out HDZ.out hlz HDP.out).mono ?_); rintro e w2 ⟨v, rfl, rfl, h2⟩; rw [hT.out]; have q2 := q1.trans (h2.mono q1.size))
      | (go_at_call 15; (with_reducible refine (rACheck_any _ _ g HV.out HSS.out).mono ?_); rintro e w1 ⟨v, rfl, rfl, h1⟩; rw [HG.out]; have q1 := q0.trans (h1.mono q0.size))
      | (go_at_call 14; (with_reducible refine (Few05_any _ _ g HV.out HSG.out).mono ?_); rintro e w' ⟨v, rfl, rfl, rfl⟩; rw [HF.out]))
    go_ret
    exact ⟨_, rfl, rfl, q6⟩
  · obtain ⟨P, hPP⟩ : ∃ P, prods zs = P := ⟨_, rfl⟩
    have HP3 := Lib.hid (show 16384 < prods zs by omega)
    rw [hPP] at hP2
    obtain ⟨sg, hsg, hs0⟩ : ∃ s : Int, (P - 16384).sign = s ∧ 0 < s := ⟨_, rfl, by rw [Int.sign_eq_one_of_pos (by omega)]; omega⟩
    have HPP := Lib.hid hPP; have HSN := Lib.hid hsg
    have HDP2 := Lib.hid (show dn P ≤ 1024 by rw [← hPP]; exact hdP)
    clear hf hg hzt hgt hdz h2 h2s hz hdP hpr hss hzs hP hPP hsg hP2
    go_enter Tryz.func4, Tryz.ntmps4
    go_wp2_with (first
      | (go_at_call 20; (with_reducible refine (awake05 _ (HE.out.below q8 (Nat.le_refl _))).mono ?_); rintro e w9 ⟨v, rfl, rfl, h9⟩; have q9 := q8.trans (h9.mono q8.size))
      | (go_at_call 23; (with_reducible refine (SameAll_self _ _ _ [] [] [] (Lst.nil _) (Lst.nil _)).mono ?_); rintro e w8 ⟨v, rfl, rfl, h8⟩; have q8 := q7.trans (h8.mono q7.size))
      | (go_at_call 22; (with_reducible refine (rElements_big _ _ g zs (HV.out.below q6 (Nat.le_refl _)) HZT.out HDZ.out hlz HG.out HP3.out HDP.out HSS.out).mono ?_); rintro e w7 ⟨v, rfl, rfl, h7⟩; have q7 := q6.trans (h7.mono q6.size))
      | (go_at_call 21; (with_reducible refine (Elements_big _ _ g zs (HV.out.below q5 (Nat.le_refl _)) HZ.out H2Z.out HG.out HP3.out HDP.out HSZ.out (HE.out.below q5 (Nat.le_refl _))).mono ?_); rintro e w6 ⟨v, rfl, rfl, h6⟩; have q6 := q5.trans (h6.mono q5.size))
      | (go_at_call 17; (with_reducible refine (ord_t16 _ P (by have := HDP2.out; omega)).mono ?_); rintro e w5 ⟨v, rfl, rfl, h5⟩; rw [HSN.out]; have q5 := q4.trans (h5.mono q4.size))
      | (go_at_call 19; (with_reducible refine (rOf_any _ 16384 (by omega) (by omega)).mono ?_); rintro e w4 ⟨v, rfl, rfl, h4⟩; have q4 := q3.trans (h4.mono q3.size))
      | (go_at_call 18; (with_reducible refine (Size_any _ _ g zs (HV.out.below q2 (Nat.le_refl _)) HZT.out HDZ.out hlz).mono ?_); rintro e w3 ⟨v, rfl, rfl, h3⟩; rw [HPP.out]; have q3 := q2.trans (h3.mono q2.size))
      | (go_at_call 16; (with_reducible refine (rTiny_any _ _ g zs (HV.out.below q1 (Nat.le_refl _)) HZT.out HDZ.out hlz HDP.out).mono ?_); rintro e w2 ⟨v, rfl, rfl, h2⟩; rw [hT.out]; have q2 := q1.trans (h2.mono q1.size))
      | (go_at_call 15; (with_reducible refine (rACheck_any _ _ g HV.out HSS.out).mono ?_); rintro e w1 ⟨v, rfl, rfl, h1⟩; rw [HG.out]; have q1 := q0.trans (h1.mono q0.size))
      | (go_at_call 14; (with_reducible refine (Few05_any _ _ g HV.out HSG.out).mono ?_); rintro e w' ⟨v, rfl, rfl, rfl⟩; rw [HF.out]))
    go_ret
    exact ⟨_, rfl, rfl, q9⟩
end Go.Proofs.YtajkhbpffakmfaaGreatDoor
