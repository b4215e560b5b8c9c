/- The walk of the law AbelianCounts. -/
import Derived.Test.YtajkhbpffakmfaaGreatDoorPk14
namespace Go.Proofs.YtajkhbpffakmfaaGreatDoor
open Go.RowKit
set_option maxRecDepth 100000

set_option maxHeartbeats 4000000 in
theorem counts05_any (w : World) (v : Value) (g : List ByteArray) (hv : Sl eS w v g) (k : Int) (hsg : ∀ s ∈ g, s.size ≤ 9223372036854775807) (hk : 0 ≤ k ∧ k ≤ 255) (he : Env w) :
    Calls Tryz.prog 5 #[v, .int .u8 k] w (Rets fun v w' => v = .bool true ∧ Below w.heap.size w w') := by
  obtain ⟨m, rfl⟩ : ∃ m : Nat, k = (m : Int) := ⟨k.toNat, by omega⟩
  have hm5 : m ≤ 255 := by omega
  have HV := Lib.hid hv; have HSG := Lib.hid hsg; have HE := Lib.hid he
  have q0 := Below.refl w.heap.size w
  obtain ⟨ad, b, o, c, rfl, -, -, -, -⟩ := hv.open elemStr
  clear hsg he hv hk
  have HN0 := Lib.hid (show ∀ xs ∈ ([] : List (List ByteArray)), ∀ s ∈ xs, s.size ≤ 9223372036854775807 from fun _ h => by cases h)
  cases hf : rightB g []
  · have HF := Lib.hid hf
    clear hf
    go_enter Tryz.func5, Tryz.ntmps5
    go_wp2_with (first
      | (go_at_call 20; (with_reducible refine (awake05 _ (HE.out.below q1 (Nat.le_refl _))).mono ?_); rintro e w2 ⟨v, rfl, rfl, h2⟩; have q2 := q1.trans (h2.mono q1.size))
      | (go_at_call 24; ((with_reducible refine (right_any _ _ _ [] g [] HV.out (Lst.nil _) HSG.out HN0.out).mono ?_)); rintro e w1 ⟨v, rfl, rfl, h1⟩; rw [HF.out]; have q1 := q0.trans (h1.mono q0.size)))
    go_ret
    exact ⟨_, rfl, rfl, q2⟩
  have HF := Lib.hid hf
  have hf2 : few05 g = true ∧ gchk g = 0 := by simp [rightB] at hf; exact hf
  obtain ⟨hf5, hg⟩ := hf2
  have hl := (gchk_len hg).1
  have HSS := Lib.hid (few05_size hf5)
  obtain ⟨zs, hz, h2⟩ := gstep_good g none (gchk_len hg).2
  have hzt := goods_txt hz
  have hgt := goods_tx g zs hz (fun z hz => by have := h2 z hz; omega)
  have hlz : zs.length ≤ 16 := by rw [hzt, List.length_map] at hl; exact hl
  have hdz : ∀ z ∈ zs, dn z ≤ 30 := fun z hzm => by
    obtain ⟨i, hi, rfl⟩ := List.getElem_of_mem hzm
    have hig : i < g.length := by rw [hzt, List.length_map]; exact hi
    exact few05_dn hf5 hl (List.getElem_mem hig) (hz.get i hig hi)
  have hdP : dn (prods zs) ≤ 1024 := by have := prods_dn_take zs zs.length hdz hlz; rw [List.take_length] at this; omega
  obtain ⟨ss, hss⟩ : ∃ ss, zs.map Int.toNat = ss := ⟨_, rfl⟩
  rw [hss] at hgt
  have hzs : zs = ss.map (fun (n : Nat) => (n : Int)) := by
    rw [← hss, List.map_map]
    conv => lhs; rw [← List.map_id zs]
    refine List.map_congr_left fun z hzm => ?_
    have := h2 z hzm
    simp only [id, Function.comp]; omega
  have hpr : prods zs = (pr ss : Int) := by rw [hzs, prods_pr]
  have h2s : ∀ n ∈ ss, 2 ≤ n := fun n hn => by
    have := h2 (n : Int) (by rw [hzs]; exact List.mem_map.2 ⟨n, hn, rfl⟩)
    omega
  have hls : ss.length ≤ 16 := by rw [← hss, List.length_map]; exact hlz
  have HG := Lib.hid hg; have HZT := Lib.hid hzt; have HGT := Lib.hid hgt; have HDZ := Lib.hid (show ∀ z ∈ zs, dn z ≤ 500 from fun z hz => by have := hdz z hz; omega)
  have H2Z := Lib.hid h2; have H2S := Lib.hid h2s; have HZ := Lib.hid hz; have HDP := Lib.hid hdP; have HPR := Lib.hid hpr; have HSZ := Lib.hid (HSS.out hl)
  have HZN := Lib.hid (show Goods g (ss.map (fun (n : Nat) => (n : Int))) by rw [← hzs]; exact hz)
  have HPS := Lib.hid (show ∀ n ∈ ss, 0 < n from fun n hn => by have := h2s n hn; omega)
  by_cases hP : prods zs ≤ 600
  rotate_left
  · have hT := Lib.hid (show decide (prods zs ≤ 600) = false by simp [hP])
    clear hf hf5 hg hzt hgt hdz h2 h2s hz hdP hpr hss hzs hP
    go_enter Tryz.func5, Tryz.ntmps5
    go_wp2_with (first
      | (go_at_call 20; (with_reducible refine (awake05 _ (HE.out.below q2 (Nat.le_refl _))).mono ?_); rintro e w3 ⟨v, rfl, rfl, h3⟩; have q3 := q2.trans (h3.mono q2.size))
      | (go_at_call 16; (with_reducible refine (rTiny_any _ _ g zs (HV.out.below q1 (Nat.le_refl _)) HZT.out HDZ.out hlz HDP.out).mono ?_); rintro e w2 ⟨v, rfl, rfl, h2⟩; rw [hT.out]; have q2 := q1.trans (h2.mono q1.size))
      | (go_at_call 24; (with_reducible refine (right_any _ _ _ [] g [] HV.out (Lst.nil _) HSG.out HN0.out).mono ?_); rintro e w1 ⟨v, rfl, rfl, h1⟩; rw [HF.out]; have q1 := q0.trans (h1.mono q0.size)))
    go_ret
    exact ⟨_, rfl, rfl, q3⟩
  have hT := Lib.hid (show decide (prods zs ≤ 600) = true by simp [hP])
  have hP6 : pr ss ≤ 600 := by omega
  have HP2 := Lib.hid (show pr ss ≤ 16384 by omega)
  have HR1 := Lib.hid (show resV (prods (ss.map fun (n : Nat) => (n : Int))) = .tuple #[.string (txt (pr ss : Nat)), .int .i64 0] by
    rw [prods_pr]; unfold resV; rw [(good_tx (pr ss) (by omega)).2]; rfl)
  obtain ⟨y, hy⟩ : ∃ y, m + 1 = y := ⟨_, rfl⟩
  have hyI : (1 : Int) + (m : Int) = (y : Int) := by omega
  have HCV := Lib.hid (cn_van y ss HPS.out)
  have hcn := cn_le (vanB y ss) (pr ss)
  have HR2 := Lib.hid (show resV (prods (gcds (ss.map fun (n : Nat) => (n : Int)) (y : Int))) = .tuple #[.string (txt ((cn (vanB y ss) (pr ss) : Nat) : Int)), .int .i64 0] by
    rw [gcds_pr, ← HCV.out]; unfold resV; rw [(good_tx (cn (vanB y ss) (pr ss)) (by omega)).2]; rfl)
  have HGY := Lib.hid (good_tx y (by omega))
  have HAL := Lib.hid (allL_len ss)
  have H2N := Lib.hid (show ∀ z ∈ (ss.map fun (n : Nat) => (n : Int)), 2 ≤ z from by rw [← hzs]; exact h2)
  have HY1 := Lib.hid (show (1 : Int) ≤ (y : Int) by omega)
  have HYI := Lib.hid hyI
  clear hf hf5 hg hzt hgt hdz h2 h2s hz hdP hpr hss hzs hP hy hyI
  go_enter Tryz.func5, Tryz.ntmps5
  have HB1 := Lib.hid (show -9223372036854775808 ≤ (1 : Int) + (m : Int) ∧ (1 : Int) + (m : Int) ≤ 9223372036854775807 by omega)
  have HB2 := Lib.hid (show -9223372036854775808 ≤ ((pr ss : Nat) : Int) ∧ ((pr ss : Nat) : Int) ≤ 9223372036854775807 by omega)
  have HSY := Lib.hid (show (txt (y : Int)).size ≤ 1000000 by have : (txt (y : Int)).size ≤ 1025 := HGY.out.size; omega)
  go_wp2_with (first
    | (go_at_call 19; (with_reducible refine (rOf_any _ (1 + (m : Int)) HB1.out.1 HB1.out.2).mono ?_); rintro e w5 ⟨v, rfl, rfl, h5⟩; rw [HYI.out]; have q5 := q4.trans (h5.mono q4.size); have g5 := g4.trans (h5.mono g4.size))
    | (go_at_call 19; (with_reducible refine (rOf_any _ ((pr ss : Nat) : Int) HB2.out.1 HB2.out.2).mono ?_); rintro e w7 ⟨v, rfl, rfl, h7⟩; have q7 := q6.trans (h7.mono q6.size); have g7 := g6.trans (h7.mono g6.size))
    | (go_at_call 26; (with_reducible refine (Count_ok _ _ g _ _ (y : Int) (HV.out.below q5 (Nat.le_refl _)) HZN.out H2N.out HG.out hl HGY.out HY1.out HSY.out HSZ.out (HE.out.below q5 (Nat.le_refl _))).mono ?_); rintro e w6 ⟨v, rfl, rfl, h6⟩; rw [HR2.out]; have q6 := q5.trans (h6.mono q5.size); have g6 := g5.trans (h6.mono g5.size))
    | (go_at_call 25; (with_reducible refine (Order_ok _ _ g _ (HV.out.below q3 (Nat.le_refl _)) HZN.out H2N.out HG.out HSZ.out (HE.out.below q3 (Nat.le_refl _))).mono ?_); rintro e w4 ⟨v, rfl, rfl, h4⟩; rw [HR1.out]; have q4 := q3.trans (h4.mono q3.size); have g4 : Below w3.heap.size w3 w4 := h4)
    | (go_at_call 21; (with_reducible refine (Elements_ok _ _ g ss (HV.out.below q2 (Nat.le_refl _)) HGT.out H2S.out HG.out HZN.out hls HP2.out HSZ.out (HE.out.below q2 (Nat.le_refl _))).mono ?_); rintro e w3 ⟨v, rfl, x3, us3, rfl, hO3, h3⟩; have HO1 := Lib.hid hO3; clear hO3; obtain ⟨a3, k3, rfl⟩ := own_form HO1.out.own; rw [HAL.out]; have q3 := q2.trans (h3.mono q2.size))
    | (go_at_call 16; (with_reducible refine (rTiny_any _ _ g zs (HV.out.below q1 (Nat.le_refl _)) HZT.out HDZ.out hlz HDP.out).mono ?_); rintro e w2 ⟨v, rfl, rfl, h2⟩; rw [hT.out]; have q2 := q1.trans (h2.mono q1.size))
    | (go_at_call 24; (with_reducible refine (right_any _ _ _ [] g [] HV.out (Lst.nil _) HSG.out HN0.out).mono ?_); rintro e w1 ⟨v, rfl, rfl, h1⟩; rw [HF.out]; have q1 := q0.trans (h1.mono q0.size)))
  have HLst := Lib.hid HO1.out.lst
  obtain ⟨ad3, b3, o3, c3, e3, hi3, hq3, -, hm3⟩ := HLst.out.sl.open elemSl
  obtain ⟨rfl, rfl⟩ : a3 = ad3 ∧ k3 = c3 := by simp only [Value.slice.injEq] at e3; exact ⟨e3.1, e3.2.2⟩
  have hul : us3.length = pr ss := by rw [HO1.out.len, HAL.out]
  rw [hul] at hi3
  have HUL := Lib.hid hul
  unfold maxLen at hm3
  have HQ7 := Lib.hid q7; have HG7 := Lib.hid g7
  clear e3 hul q1 q2 q3 q4 q5 q6 q7 g4 g5 g6 g7 h1 h2 h3 h4 h5 h6 h7
  go_loopw [11, 61] (fun cv iv wr => ∃ t : Nat, t ≤ pr ss ∧ iv = .int .i64 t ∧ cv = .int .i64 (cn (vanB y ss) t : Nat) ∧ Hid (Below w.heap.size w wr) ∧ Hid (Below w3.heap.size w3 wr)) (fun _ iv _ => pr ss - (intOf iv).toNat)
  case atStart => exact ⟨0, Nat.zero_le _, rfl, rfl, HQ7, HG7⟩
  case round =>
    clear HQ7 HG7
    obtain ⟨t, ht, rfl, rfl, hB, hB3⟩ := hrel
    have hct := cn_le (vanB y ss) t
    by_cases htn : t < pr ss
    · have htu : t < us3.length := by rw [HUL.out]; exact htn
      have htx : t < (allL ss).length := by rw [HAL.out]; exact htn
      have h1 : wr.cell? ⟨b3, o3 + t, none⟩ = some us3[t] := hq3.at hB3.out (Nat.le_refl _) t htu
      have hX := (HLst.out.get t htu htx).below hB3.out (Nat.le_refl _)
      rw [allL_get] at hX
      have HYL := Lib.hid (ctr_len ss t)
      have HLTT := Lib.hid (ctr_lt ss t HPS.out htn)
      have HVAN := Lib.hid (vanB_iff y ss t)
      have HPREV := Lib.hid (show ∀ s, s + 1 = t → ∃ i, ∃ (_ : i < ss.length), (ctr ss s).take i = (ctr ss t).take i ∧ (ctr ss s).getD i 0 < (ctr ss t).getD i 0 from fun s e => by subst e; exact ctr_next ss s HPS.out htn)
      obtain ⟨Y, hY⟩ : ∃ Y, ctr ss t = Y := ⟨_, rfl⟩
      rw [hY] at hX HYL HLTT HVAN HPREV
      have HLM := Lib.hid (show ∀ n ∈ ss, n ≤ 1000000 from fun n hn => Nat.le_trans (mem_le_pr ss HPS.out n hn) (by omega))
      have HY6 := Lib.hid (show ∀ x ∈ Y, x ≤ 1000000 from fun x hx => by
        obtain ⟨i, hi, rfl⟩ := List.getElem_of_mem hx
        have hi2 : i < ss.length := by have := HYL.out; omega
        have a1 := HLTT.out i hi2 hi
        have a2 := HLM.out _ (List.getElem_mem hi2)
        omega)
      obtain ⟨A, hA⟩ : ∃ A, Y.map tx = A := ⟨_, rfl⟩
      have HA := Lib.hid hA
      rw [hA] at hX
      have HAN := Lib.hid (show A.length = g.length by rw [← hA, List.length_map, HYL.out, HGT.out, List.length_map])
      have hmz : mchk g A = 0 := by
        unfold mchk; rw [if_pos HAN.out, HGT.out, ← hA]
        exact mstep_zero ss Y HYL.out.symm HLM.out (fun i h h' => HLTT.out i h h')
      obtain ⟨a1, ha1⟩ : ∃ a, us3[t] = a := ⟨_, rfl⟩
      rw [ha1] at h1 hX
      obtain ⟨x1, c1, rfl⟩ := slForm hX
      have HX := Lib.hid hX
      have hPos : Pos g ss (pr ss) 7 := ⟨HGT.out, H2S.out, fun n hn => mem_dvd_pr n ss hn, pr_pos HPS.out, by
        unfold dn; rw [digs_len _ _ _ (by omega)]; simp; omega, by omega⟩
      have hsA : ∀ s ∈ A, s.size ≤ 1000000 := fun s hs => by
        rw [← hA] at hs
        obtain ⟨x, hx, rfl⟩ := List.mem_map.1 hs
        have := (good_tx x (HY6.out x hx)).size; omega
      have HOO := Lib.hid (fun w' (hb' : Below wr.heap.size wr w') => OrderOf_ok w' (.slice ad g.length c) (.slice x1 A.length c1) g A _ ss Y (pr ss) 7 (HV.out.below (hB.out.trans (hb'.mono hB.out.size)) (Nat.le_refl _)) (HX.out.below hb' (Nat.le_refl _)) HZN.out HG.out hmz hPos hA.symm HLTT.out hl HAN.out HSZ.out hsA (HE.out.below (hB.out.trans (hb'.mono hB.out.size)) (Nat.le_refl _)))
      have hqd := quos_dvd ss Y y HYL.out.symm HPS.out
      have hLP : lcms (quos ss Y) ∣ pr ss := (lcms_dvd _ _).2 fun q hq => by
        obtain ⟨i, hi, rfl⟩ := List.getElem_of_mem hq
        have h3 : i < ss.length ∧ i < Y.length := by simp [quos] at hi; omega
        have e : (quos ss Y)[i] = ss[i] / Nat.gcd ss[i] Y[i] := by simp [quos]
        rw [e]
        exact Nat.dvd_trans (Nat.div_dvd_of_dvd (Nat.gcd_dvd_left _ _)) (mem_dvd_pr _ ss (List.getElem_mem h3.1))
      obtain ⟨L, hL⟩ : ∃ L, lcms (quos ss Y) = L := ⟨_, rfl⟩
      rw [hL] at HOO hqd hLP
      have hL6 : L ≤ 600 := Nat.le_trans (Nat.le_of_dvd (pr_pos HPS.out) hLP) hP6
      have hL0 : 0 < L := Nat.pos_of_dvd_of_pos hLP (pr_pos HPS.out)
      have hmod : Int.fmod (y : Int) (L : Int) = ((y % L : Nat) : Int) := by rw [Int.fmod_eq_emod_of_nonneg _ (by omega)]; rfl
      have hy6 : y % L ≤ 1000000 := by have := Nat.mod_lt y hL0; omega
      obtain ⟨R, hRR⟩ : ∃ R, y % L = R := ⟨_, rfl⟩
      have hRV : resV (Int.fmod (y : Int) (L : Int)) = .tuple #[.string (txt (R : Int)), .int .i64 0] := by rw [hmod, hRR]; rw [hRR] at hy6; unfold resV; rw [(good_tx R hy6).2]; rfl
      have HRM := Lib.hid (fun w' (hb' : Below wr.heap.size wr w') => by
        have := Rem_ok w' (txt (y : Int)) (tx L) (y : Int) (L : Int) HGY.out (good_tx L (by omega)) (by omega) (HE.out.below (hB.out.trans (hb'.mono hB.out.size)) (Nat.le_refl _))
        rw [hRV] at this; exact this)
      obtain ⟨q, hq⟩ : ∃ q, vanB y ss t = q := ⟨_, rfl⟩
      have hR0 : (R = 0) ↔ q = true := by
        rw [← hRR, ← Nat.dvd_iff_mod_eq_zero, hqd, ← hq, HVAN.out]
      have HCN := Lib.hid (show cn (vanB y ss) (t + 1) = cn (vanB y ss) t + if q then 1 else 0 by rw [cn, hq])
      obtain ⟨C, hC⟩ : ∃ C, cn (vanB y ss) t = C := ⟨_, rfl⟩
      rw [hC] at HCN hct ⊢
      have hzz : ((txt (R : Int)).toList == [48]) = q := by
        cases q
        · exact txt_ne0 (by have := hR0; simp at this; omega)
        · have : R = 0 := hR0.2 rfl
          rw [this]; exact txt_z0
      clear hX hA hmz hPos hsA hqd hLP hL hmod hRR hRV hq hR0 hC hY
      have b0 := Below.refl wr.heap.size wr
      rcases t with _ | s
      · rw [Nat.add_zero] at h1
        cases q
        · go_wp2_with (first
            | ((with_reducible refine (HRM.out _ b2).mono ?_); rintro e y3 ⟨v, rfl, rfl, j3⟩; have b3 := b2.trans (j3.mono b2.size))
            | ((with_reducible refine (rOf_any _ (1 + (m : Int)) HB1.out.1 HB1.out.2).mono ?_); rintro e y2 ⟨v, rfl, rfl, j2⟩; rw [HYI.out]; have b2 := b1.trans (j2.mono b1.size))
            | ((with_reducible refine (HOO.out _ b0).mono ?_); rintro e y1 ⟨v, rfl, rfl, j1⟩; have b1 := b0.trans (j1.mono b0.size)))
          go_roundw
          case rel => exact ⟨0 + 1, by omega, by go_num, by rw [HCN.out, if_neg (by decide), Nat.add_zero], Lib.hid (hB.out.trans (b3.mono hB.out.size)), Lib.hid (hB3.out.trans (b3.mono hB3.out.size))⟩
          case measure => simp [intOf]; omega
        · go_wp2_with (first
            | ((with_reducible refine (HRM.out _ b2).mono ?_); rintro e y3 ⟨v, rfl, rfl, j3⟩; have b3 := b2.trans (j3.mono b2.size))
            | ((with_reducible refine (rOf_any _ (1 + (m : Int)) HB1.out.1 HB1.out.2).mono ?_); rintro e y2 ⟨v, rfl, rfl, j2⟩; rw [HYI.out]; have b2 := b1.trans (j2.mono b1.size))
            | ((with_reducible refine (HOO.out _ b0).mono ?_); rintro e y1 ⟨v, rfl, rfl, j1⟩; have b1 := b0.trans (j1.mono b0.size)))
          go_roundw
          case rel => exact ⟨0 + 1, by omega, by go_num, by rw [HCN.out, if_pos trivial]; go_num, Lib.hid (hB.out.trans (b3.mono hB.out.size)), Lib.hid (hB3.out.trans (b3.mono hB3.out.size))⟩
          case measure => simp [intOf]; omega
      · have hsu : s < us3.length := by omega
        have hsx : s < (allL ss).length := by omega
        have h2 : wr.cell? ⟨b3, o3 + s, none⟩ = some us3[s] := hq3.at hB3.out (Nat.le_refl _) s hsu
        have hX2 := (HLst.out.get s hsu hsx).below hB3.out (Nat.le_refl _)
        rw [allL_get] at hX2
        obtain ⟨i, hi0, hi1, hi2⟩ := HPREV.out s rfl
        have HYL2 := ctr_len ss s
        have HLT2 := ctr_lt ss s HPS.out (by omega)
        obtain ⟨Y2, hY2⟩ : ∃ Y, ctr ss s = Y := ⟨_, rfl⟩
        rw [hY2] at hX2 hi1 hi2 HYL2 HLT2
        have HY62 : ∀ x ∈ Y2, x ≤ 1000000 := fun x hx => by
          obtain ⟨i, hi, rfl⟩ := List.getElem_of_mem hx
          have hi2 : i < ss.length := by omega
          have a1 := HLT2 i hi2 hi
          have a2 := HLM.out _ (List.getElem_mem hi2)
          omega
        obtain ⟨a2, ha2⟩ : ∃ a, us3[s] = a := ⟨_, rfl⟩
        rw [ha2] at h2 hX2
        obtain ⟨x2, c2, rfl⟩ := slForm hX2
        obtain ⟨A2, hA2⟩ : ∃ A, Y2.map tx = A := ⟨_, rfl⟩
        have HX2 := Lib.hid (show Sl eS wr (.slice x2 A2.length c2) (Y2.map tx) by rw [← hA2]; exact hX2)
        have HX3 := Lib.hid (show Sl eS wr (.slice x1 A.length c1) (Y.map tx) by rw [HA.out]; exact HX.out)
        have HCMP := Lib.hid (fun w' (hb' : Below wr.heap.size wr w') => CompareFunc_lt w' (.slice x2 A2.length c2) (.slice x1 A.length c1) Y2 Y (HX2.out.below hb' (Nat.le_refl _)) (HX3.out.below hb' (Nat.le_refl _)) i (by omega) (by rw [HYL2, HYL.out]) hi1 hi2 HY62 HY6.out)
        rw [hA2] at h2
        clear hX2 hi1 hi2 HYL2 HLT2 hY2 HY62 ha2 hA2
        cases q
        · go_wp2_with (first
            | ((with_reducible refine (HRM.out _ b2).mono ?_); rintro e y3 ⟨v, rfl, rfl, j3⟩; have b3 := b2.trans (j3.mono b2.size))
            | ((with_reducible refine (rOf_any _ (1 + (m : Int)) HB1.out.1 HB1.out.2).mono ?_); rintro e y2 ⟨v, rfl, rfl, j2⟩; rw [HYI.out]; have b2 := b1.trans (j2.mono b1.size))
            | ((with_reducible refine (HOO.out _ bc).mono ?_); rintro e y1 ⟨v, rfl, rfl, j1⟩; have b1 := bc.trans (j1.mono bc.size))
            | ((with_reducible refine (HCMP.out _ b0).mono ?_); rintro e y0 ⟨v, rfl, rfl, j0⟩; have bc := b0.trans (j0.mono b0.size)))
          go_roundw
          case rel => exact ⟨s + 1 + 1, by omega, by go_num, by rw [HCN.out, if_neg (by decide), Nat.add_zero], Lib.hid (hB.out.trans (b3.mono hB.out.size)), Lib.hid (hB3.out.trans (b3.mono hB3.out.size))⟩
          case measure => simp [intOf]; omega
        · go_wp2_with (first
            | ((with_reducible refine (HRM.out _ b2).mono ?_); rintro e y3 ⟨v, rfl, rfl, j3⟩; have b3 := b2.trans (j3.mono b2.size))
            | ((with_reducible refine (rOf_any _ (1 + (m : Int)) HB1.out.1 HB1.out.2).mono ?_); rintro e y2 ⟨v, rfl, rfl, j2⟩; rw [HYI.out]; have b2 := b1.trans (j2.mono b1.size))
            | ((with_reducible refine (HOO.out _ bc).mono ?_); rintro e y1 ⟨v, rfl, rfl, j1⟩; have b1 := bc.trans (j1.mono bc.size))
            | ((with_reducible refine (HCMP.out _ b0).mono ?_); rintro e y0 ⟨v, rfl, rfl, j0⟩; have bc := b0.trans (j0.mono b0.size)))
          go_roundw
          case rel => exact ⟨s + 1 + 1, by omega, by go_num, by rw [HCN.out, if_pos trivial]; go_num, Lib.hid (hB.out.trans (b3.mono hB.out.size)), Lib.hid (hB3.out.trans (b3.mono hB3.out.size))⟩
          case measure => simp [intOf]; omega
    · obtain rfl : t = pr ss := by omega
      have qq := hB.out
      have HB3 := Lib.hid (show -9223372036854775808 ≤ ((cn (vanB y ss) (pr ss) : Nat) : Int) ∧ ((cn (vanB y ss) (pr ss) : Nat) : Int) ≤ 9223372036854775807 by omega)
      go_wp2_with (first
        | (go_at_call 20; (with_reducible refine (awake05 _ (HE.out.below z1 (Nat.le_refl _))).mono ?_); rintro e y2 ⟨v, rfl, rfl, j2⟩; have z2 := z1.trans (j2.mono z1.size))
        | (go_at_call 19; (with_reducible refine (rOf_any _ _ HB3.out.1 HB3.out.2).mono ?_); rintro e y1 ⟨v, rfl, rfl, j1⟩; have z1 := qq.trans (j1.mono qq.size)))
      go_ret
      exact ⟨_, rfl, rfl, z2⟩
end Go.Proofs.YtajkhbpffakmfaaGreatDoor
