/- The walk of the law MatrixCofactors. -/
import Derived.Test.YtfhdmhifdaiehaaGreatDoorPk9
import Derived.Test.YtfhdmhifdaiehaaGreatDoorPk10
namespace Go.Proofs.YtfhdmhifdaiehaaGreatDoor
open Go.RowKit
set_option maxRecDepth 100000

/-- A matrix in the making in the box that follows W. -/
structure CBx (W wr : World) (n : Int) (v : Value) (os : List ByteArray) : Prop where
  box : Blk wr W.heap.size [.int .i64 n, .int .i64 n, v] 24
  row : wr.ownsRow (W.heap.size + 1) 27 1 v os.length (os.map eS)
  bel : Below W.heap.size W wr
theorem CBx.lt {W wr : World} {n : Int} {v : Value} {os : List ByteArray} (H : CBx W wr n v os) : W.heap.size < wr.heap.size := H.box.lt
theorem CBx.keep {W wr w' : World} {n : Int} {v : Value} {os : List ByteArray} (H : CBx W wr n v os) (hb : Below wr.heap.size wr w') : CBx W w' n v os :=
  ⟨H.box.below hb (Nat.le_refl _), own_below H.row hb (Nat.le_refl _), H.bel.trans (hb.mono (Nat.le_of_lt H.lt))⟩
theorem CBx.start (W : World) (n : Int) : CBx W (W.alloc (.cells #[.int .i64 n, .int .i64 n, .slice none 0 0] 24)) n (.slice none 0 0) [] :=
  ⟨Blk.new W [.int .i64 n, .int .i64 n, .slice none 0 0] 24, World.ownsRow_nil _ _ _ _, (Below.refl _ _).alloc (Nat.le_refl _) _⟩
theorem CBx.box6 {W w1 w2 : World} {n : Int} {v : Value} {os : List ByteArray} (H : CBx W w1 n v os) (hb : Below (W.heap.size + 1) w1 w2) : Blk w2 W.heap.size [.int .i64 n, .int .i64 n, v] 24 := (hb.block _ (by omega)).trans H.box
theorem CBx.push {W w1 w2 : World} {n : Int} {v v' : Value} {os : List ByteArray} {s : ByteArray} (H : CBx W w1 n v os) (hb : Below (W.heap.size + 1) w1 w2) (ho : w2.ownsRow (W.heap.size + 1) 27 1 v' (os.length + 1) (os.map eS ++ [.string s])) :
    CBx W (w2.setCell ⟨W.heap.size, 2, none⟩ v') n v' (os ++ [s]) := by
  refine ⟨by simpa using (H.box6 hb).set 2 v', ?_, (H.bel.trans (hb.mono (by omega))).setCell (by simp) _⟩
  refine ownsRow_cast (n := os.length + 1) (ys := os.map eS ++ [.string s]) ?_ (by simp) (by simp [eS])
  exact own_off ho (by omega)
theorem minor_call {w : World} {v : Value} {xs : List ByteArray} {n D a b : Nat} {A : Mat} (hv : Sl eS w v xs) (hx : xs = cellsF n n A) (hn : n ≤ 16) (hD : D ≤ 1000) (h : ∀ i k, i < n → k < n → dn (A i k) ≤ D) (ha : a < n) (hb : b < n) :
    Calls Tryz.prog 26 #[.agg #[.int .i64 n, .int .i64 n, v], .int .i64 a, .int .i64 b] w (RetM w (n - 1 : Nat) (n - 1 : Nat) (cellsF (n - 1) (n - 1) (mnr A a b)) 0) := by
  subst hx
  have hrm := rm_cells (r := n) (c := n) hn hn (by omega) h
  refine retM_of (Minor_any w n n v _ a b hv (fun _ => (fit_cells h).big (by omega))) ?_
  have ht : MthereS n n (cellsF n n A) a b = 0 := by
    unfold MthereS; rw [if_pos hrm.mchk, if_neg (by omega)]
  unfold minS
  rw [if_pos ht, show (n : Int) - 1 = ((n - 1 : Nat) : Int) by omega]
  simp only [Int.toNat_natCast]
  rw [cellsF_congr fun i k hi hk => ?_]
  have h1 := sk_lt (r := a) hi; have h2 := sk_lt (r := b) hk
  exact matF_cells (by omega) (by omega) (bigD (Nat.le_trans (h _ _ (by omega) (by omega)) (by omega)))

set_option maxHeartbeats 8000000 in
theorem cofactors03_any (w : World) (R C : Int) (v : Value) (xs : List ByteArray) (hv : Sl eS w v xs) (hsz : ∀ s ∈ xs, s.size ≤ 9223372036854775807) (he : Env w) :
    Calls Tryz.prog 7 #[.agg #[.int .i64 R, .int .i64 C, v]] w (Rets fun v w' => v = .bool true ∧ Below w.heap.size w w') := by
  have HS := Lib.hid hsz
  obtain ⟨ad, cap, rfl⟩ := sl_form hv
  have HB := Lib.hid ((Below.refl w.heap.size w).alloc (Nat.le_refl _) (.cells #[.int .i64 R, .int .i64 C, .slice ad xs.length cap] 24))
  have HV := Lib.hid (hv.below HB.out (Nat.le_refl _))
  have HE := Lib.hid (he.below HB.out (Nat.le_refl _))
  have HK := Lib.hid (Blk.new w [.int .i64 R, .int .i64 C, .slice ad xs.length cap] 24)
  have A0 := Lib.hid (fun (w1 : World) (o : Obj) => (Below.refl w1.heap.size w1).alloc (Nat.le_refl _) o)
  have b0 := HK.out.cell 0 _ rfl; have b1 := HK.out.cell 1 _ rfl; have b2 := HK.out.cell 2 _ rfl
  clear hv hsz he
  cases hq : sq1 R C xs
  · have HQ := Lib.hid hq
    clear hq
    go_enter Tryz.func7, Tryz.ntmps7
    go_wp2_with (first
      | (go_at_call 18; (with_reducible refine (square1_any _ _ R C _ xs (Blk.at1 w _ [.int .i64 R, .int .i64 C, .slice ad xs.length cap] 24) (HV.out.below (A0.out _ _) (Nat.le_refl _)) HS.out).mono ?_); rintro e w1 ⟨v, rfl, rfl, h1⟩; rw [HQ.out]; have h1 := ((A0.out _ _).trans (h1.mono (by simp))); have HE := Lib.hid (HE.out.below h1 (Nat.le_refl _)); have q1 := HB.out.trans (h1.mono HB.out.size))
      | (go_at_call 13; (with_reducible refine (awake03 _ HE.out).mono ?_); rintro e w2 ⟨v, rfl, rfl, h2⟩; have q2 := q1.trans (h2.mono q1.size)))
    go_ret
    exact ⟨_, rfl, rfl, q2⟩
  obtain ⟨n, rfl, rfl, hn6, hrm, h9⟩ := sq1_rm hq
  have HQ := Lib.hid hq
  clear hq
  by_cases h4 : n ≤ 4
  rotate_left
  · have hq4 : (4 : Int) < (n : Int) := by omega
    clear h4 hrm h9
    go_enter Tryz.func7, Tryz.ntmps7
    go_wp2_with (first
      | (go_at_call 18; (with_reducible refine (square1_any _ _ n n _ xs (Blk.at1 w _ [.int .i64 n, .int .i64 n, .slice ad xs.length cap] 24) (HV.out.below (A0.out _ _) (Nat.le_refl _)) HS.out).mono ?_); rintro e w1 ⟨v, rfl, rfl, h1⟩; rw [HQ.out]; have h1 := ((A0.out _ _).trans (h1.mono (by simp))); have HE := Lib.hid (HE.out.below h1 (Nat.le_refl _)); have HK := Lib.hid (HK.out.below h1 (Nat.le_refl _)); have c0 := HK.out.cell 0 _ rfl; have q1 := HB.out.trans (h1.mono HB.out.size))
      | (go_at_call 13; (with_reducible refine (awake03 _ HE.out).mono ?_); rintro e w2 ⟨v, rfl, rfl, h2⟩; have q2 := q1.trans (h2.mono q1.size)))
    go_ret
    exact ⟨_, rfl, rfl, q2⟩
  have hq4 : (n : Int) ≤ 4 := by omega
  have hA := fun i k (hi : i < n) (hk : k < n) => hrm.dn h9 hi hk
  have hxs := hrm.cells
  obtain ⟨A, hAA⟩ : ∃ A, matF n xs = A := ⟨_, rfl⟩
  rw [hAA] at hA hxs
  have hcof := fun i k (hi : i < n) (hk : k < n) => dn_cof h4 hA hi hk
  have HMn := Lib.hid (fun (w1 : World) (v : Value) (a b : Nat) (ha : a < n) (hb : b < n) (hv : Sl eS w1 v xs) => minor_call hv hxs (by omega) (by omega) hA ha hb)
  have HDm := Lib.hid (fun (w1 : World) (v : Value) (ys : List ByteArray) (a b : Nat) (ha : a < n) (hb : b < n) (hy : cellsF (n - 1) (n - 1) (mnr A a b) = ys) (hv : Sl eS w1 v ys) (he : Env w1) => det_call hv hy.symm (by omega) (show 9 ≤ 58 by omega) (fun i k hi hk => hA _ _ (by have := sk_lt (r := a) hi; omega) (by have := sk_lt (r := b) hk; omega)) he)
  obtain ⟨Lc, hLc⟩ : ∃ l, cellsF n n (cofM n A) = l := ⟨_, rfl⟩
  have HLL := Lib.hid (show Lc.length = n * n by rw [← hLc, cellsF_len])
  have HLG := Lib.hid (fun a b (ha : a < n) (hb : b < n) (h : a * n + b < Lc.length) => show Lc.take (a * n + b + 1) = Lc.take (a * n + b) ++ [txt (cofM n A a b)] by
    rw [List.take_succ_eq_append_getElem h]; subst hLc; rw [cellsF_get _ hb h])
  have HCF := Lib.hid hcof
  obtain ⟨xt, hxt⟩ : ∃ l, cellsF n n (tr (cofM n A)) = l := ⟨_, rfl⟩
  obtain ⟨xp, hxp⟩ : ∃ l, cellsF n n (mulM n A (tr (cofM n A))) = l := ⟨_, rfl⟩
  have HT := Lib.hid (fun (w1 : World) (v : Value) (hv : Sl eS w1 v Lc) => show Calls Tryz.prog 25 #[.agg #[.int .i64 n, .int .i64 n, v]] w1 (RetM w1 n n xt 0) from hxt ▸ tr_call hv hLc.symm (by omega) (by omega) (show 40 ≤ 1000 by omega) (fun i k hi hk => (hcof i k hi hk).2))
  have HP := Lib.hid (fun (w1 : World) (v u : Value) (hv : Sl eS w1 v xs) (hu : Sl eS w1 u xt) (he : Env w1) => show Calls Tryz.prog 24 #[.agg #[.int .i64 n, .int .i64 n, v], .agg #[.int .i64 n, .int .i64 n, u]] w1 (RetM w1 n n xp 0) from hxp ▸ prod_call hv hu hxs hxt.symm (by omega) (by omega) (by omega) (show 40 ≤ 498 by omega) (fun i k hi hk => Nat.le_trans (hA i k hi hk) (by omega)) (fun i k hi hk => (hcof k i hk hi).2) he)
  have HD := Lib.hid (fun (w1 : World) (v : Value) (hv : Sl eS w1 v xs) (he : Env w1) => det_call hv hxs hn6 (by omega) hA he)
  have HXP := Lib.hid (show xp.length = n * n by rw [← hxp, cellsF_len])
  obtain ⟨d, hd⟩ : ∃ d, det n A = d := ⟨_, rfl⟩
  have HXG := Lib.hid (fun t (h : t < xp.length) => show xp[t] = txt (if t % (n + 1) = 0 then d else 0) by
    subst hxp
    have ht : t < n * n := by rwa [cellsF_len] at h
    have hn0 : 0 < n := by rcases Nat.eq_zero_or_pos n with e | e; · simp [e] at ht
                           · exact e
    have hi : t / n < n := Nat.div_lt_of_lt_mul ht
    have hk : t % n < n := Nat.mod_lt _ hn0
    simp only [cellsF, List.getElem_map, List.getElem_range]
    rw [cof_prod A hi hk, hd]
    have := diag_place n h4 t ht
    by_cases e : t / n = t % n
    · rw [if_pos e, if_pos (this.2 e)]
    · rw [if_neg e, if_neg (fun h => e (this.1 h))])
  rw [hd] at HD
  clear hrm h9 hA hxs hAA hcof hLc hxt hxp hd
  obtain ⟨m2, hm2⟩ : ∃ m, n * n = m := ⟨_, rfl⟩
  have em : (n : Int) * (n : Int) = (m2 : Int) := by rw [← Int.natCast_mul, hm2]
  have hm16 : m2 ≤ 16 := by rw [← hm2]; exact Nat.mul_le_mul h4 h4
  have HM2 := Lib.hid hm2
  clear hm2
  go_enter Tryz.func7, Tryz.ntmps7
  go_wp2_with (first
    | (go_at_call 18; (with_reducible refine (square1_any _ _ n n _ xs (Blk.at1 w _ [.int .i64 n, .int .i64 n, .slice ad xs.length cap] 24) (HV.out.below (A0.out _ _) (Nat.le_refl _)) HS.out).mono ?_); rintro e w1 ⟨v, rfl, rfl, h1⟩; rw [HQ.out]; have h1 := ((A0.out _ _).trans (h1.mono (by simp))); have HE1 := Lib.hid (HE.out.below h1 (Nat.le_refl _)); have HK1 := Lib.hid (HK.out.below h1 (Nat.le_refl _)); have HV1 := Lib.hid (HV.out.below h1 (Nat.le_refl _)); have c0 := HK1.out.cell 0 _ rfl; have q1 := HB.out.trans (h1.mono HB.out.size)))
  have hC0 := CBx.start w1 (n : Int)
  have HC0 := Lib.hid hC0
  clear hC0 c0 b0 b1 b2
  go_loopw [35] (fun i wr => ∃ p : Nat, p ≤ n ∧ i = .int .i64 p ∧ ∃ v, Hid (CBx w1 wr n v (Lc.take (p * n)))) (fun i _ => n - (intOf i).toNat)
  case atStart => exact ⟨0, Nat.zero_le _, rfl, _, Lib.hid (by rw [Nat.zero_mul]; exact HC0.out)⟩
  case round =>
    clear HC0
    obtain ⟨p, hp, rfl, v, hB⟩ := hrel
    by_cases hpn : p < n
    · obtain ⟨WA, rfl⟩ : ∃ W, W = wr := ⟨_, rfl⟩
      go_wp2
      go_loopw [39] (fun j wr => ∃ q : Nat, q ≤ n ∧ j = .int .i64 q ∧ ∃ v, Hid (CBx w1 wr n v (Lc.take (p * n + q)))) (fun j _ => n - (intOf j).toNat)
      case atStart => exact ⟨0, Nat.zero_le _, rfl, _, hB⟩
      case round =>
        clear hB
        obtain ⟨q, hq, rfl, v, hB⟩ := hrel
        by_cases hqn : q < n
        · have hidx : p * n + q < Lc.length := by rw [HLL.out]; exact mul_lt hpn hqn
          have HTK := Lib.hid (HLG.out p q hpn hqn hidx)
          obtain ⟨Tk, hTk⟩ : ∃ l, Lc.take (p * n + q) = l := ⟨_, rfl⟩
          have HTL := Lib.hid (show Tk.length ≤ 256 by rw [← hTk, List.length_take]; have := HLL.out; have := HM2.out; omega)
          rw [hTk] at hB HTK
          have HMI := Lib.hid (fun w' v hv => HMn.out w' v p q hpn hqn hv)
          have HDI := Lib.hid (fun w' v ys hy hv he => HDm.out w' v ys p q hpn hqn hy hv he)
          obtain ⟨hc1, hc2⟩ := HCF.out p q hpn hqn
          obtain ⟨xm, hxm⟩ : ∃ l, cellsF (n - 1) (n - 1) (mnr A p q) = l := ⟨_, rfl⟩
          rw [hxm] at HMI HDI
          obtain ⟨z, hz⟩ : ∃ z, det (n - 1) (mnr A p q) = z := ⟨_, rfl⟩
          rw [hz] at HDI hc1
          have HGZ := Lib.hid (bigD (show dn z ≤ 1024 by omega))
          have HRN := Lib.hid (show resV (-z) = .tuple #[.string (txt (-z)), .int .i64 0] by unfold resV; rw [bigD (show dn (-z) ≤ 1024 by rw [dn_neg]; omega)]; rfl)
          have HCM := Lib.hid (show cofM n A p q = sgn (p + q) * z by rw [← hz]; rfl)
          have HKw := Lib.hid (HK1.out.below hB.out.bel (Nat.le_refl _))
          have HVw := Lib.hid (HV1.out.below hB.out.bel (Nat.le_refl _))
          have HEw := Lib.hid (HE1.out.below hB.out.bel (Nat.le_refl _))
          have c0 := HKw.out.cell 0 _ rfl; have c1 := HKw.out.cell 1 _ rfl; have c2 := HKw.out.cell 2 _ rfl
          have y0 : (0 : Int) ≤ (p : Int) + (q : Int) := by omega
          clear hTk hxm hz hc1 hc2
          by_cases hpar : (p + q) % 2 = 1
          · have hqp : (((p : Int) + (q : Int)) % 2 == 1) = true := by simp; omega
            have HCM := Lib.hid (show cofM n A p q = -z by rw [HCM.out, sgn_odd hpar]; omega)
            clear hpar
            go_wp2_with (first
              | (go_at_call 26; (with_reducible refine (HMI.out _ _ HVw.out).mono ?_); rintro e w2 ⟨v, rfl, x2, rfl, s2, h2⟩; obtain ⟨a2, k2, rfl⟩ := sl_form s2; have g2 := h2.alloc h2.size (.cells #[.int .i64 (n - 1 : Nat), .int .i64 (n - 1 : Nat), .slice a2 xm.length k2] 24); have H2 := Lib.hid (hB.out.keep g2); have S2 := Lib.hid (s2.below (A0.out w2 (.cells #[.int .i64 (n - 1 : Nat), .int .i64 (n - 1 : Nat), .slice a2 xm.length k2] 24)) (Nat.le_refl _)); have KB := Lib.hid (Blk.new w2 [.int .i64 (n - 1 : Nat), .int .i64 (n - 1 : Nat), .slice a2 xm.length k2] 24); have e0 := KB.out.cell 0 _ rfl; have e1 := KB.out.cell 1 _ rfl; have e2 := KB.out.cell 2 _ rfl; have HE2 := Lib.hid (HEw.out.below g2 (Nat.le_refl _)); clear s2)
              | (go_at_call 14; (with_reducible refine (HDI.out _ _ _ rfl S2.out HE2.out).mono ?_); rintro e w3 ⟨v, rfl, rfl, h3⟩; have H3 := Lib.hid (H2.out.keep h3); have HE3 := Lib.hid (HE2.out.below h3 (Nat.le_refl _)))
              | (go_at_call 23; (with_reducible refine (Neg_ok _ _ z (.of HGZ.out) HE3.out).mono ?_); rintro e w4 ⟨v, rfl, rfl, h4⟩; rw [HRN.out]; have H4 := Lib.hid (H3.out.keep h4); have k4 := H4.out.box.cell 2 _ rfl)
              | (at_builtin; refine app1 (news := [.string (txt (-z))]) elemStr rfl _ _ rfl rfl rfl H4.out.row (Below.refl _ _) (Nat.le_refl _) (by have := H4.out.lt; omega) rfl (by simp [Value.oneCell']) (by have := HTL.out; omega) (by unfold maxLen; have := HTL.out; omega) ?_; intro v6 w6 hown6 hb6; obtain ⟨g6, cap6, rfl⟩ := ownsRow_succ hown6; have H6 := Lib.hid (H4.out.push hb6 hown6); have B6 := H4.out.box6 hb6; have j2 := B6.cell 2 _ rfl; have f2 := B6.free 2; clear hown6 B6))
            go_roundw
            case rel => exact ⟨q + 1, by omega, by go_num, _, Lib.hid (by rw [show p * n + (q + 1) = p * n + q + 1 from rfl, HTK.out, HCM.out]; exact H6.out)⟩
            case measure => simp [intOf]; omega
          · have hqp : (((p : Int) + (q : Int)) % 2 == 1) = false := by simp; omega
            have HCM := Lib.hid (show cofM n A p q = z by rw [HCM.out, sgn_even (by omega)]; omega)
            clear hpar
            go_wp2_with (first
              | (go_at_call 26; (with_reducible refine (HMI.out _ _ HVw.out).mono ?_); rintro e w2 ⟨v, rfl, x2, rfl, s2, h2⟩; obtain ⟨a2, k2, rfl⟩ := sl_form s2; have g2 := h2.alloc h2.size (.cells #[.int .i64 (n - 1 : Nat), .int .i64 (n - 1 : Nat), .slice a2 xm.length k2] 24); have H2 := Lib.hid (hB.out.keep g2); have S2 := Lib.hid (s2.below (A0.out w2 (.cells #[.int .i64 (n - 1 : Nat), .int .i64 (n - 1 : Nat), .slice a2 xm.length k2] 24)) (Nat.le_refl _)); have KB := Lib.hid (Blk.new w2 [.int .i64 (n - 1 : Nat), .int .i64 (n - 1 : Nat), .slice a2 xm.length k2] 24); have e0 := KB.out.cell 0 _ rfl; have e1 := KB.out.cell 1 _ rfl; have e2 := KB.out.cell 2 _ rfl; have HE2 := Lib.hid (HEw.out.below g2 (Nat.le_refl _)); clear s2)
              | (go_at_call 14; (with_reducible refine (HDI.out _ _ _ rfl S2.out HE2.out).mono ?_); rintro e w3 ⟨v, rfl, rfl, h3⟩; have H3 := Lib.hid (H2.out.keep h3); have k3 := H3.out.box.cell 2 _ rfl)
              | (at_builtin; refine app1 (news := [.string (txt z)]) elemStr rfl _ _ rfl rfl rfl H3.out.row (Below.refl _ _) (Nat.le_refl _) (by have := H3.out.lt; omega) rfl (by simp [Value.oneCell']) (by have := HTL.out; omega) (by unfold maxLen; have := HTL.out; omega) ?_; intro v6 w6 hown6 hb6; obtain ⟨g6, cap6, rfl⟩ := ownsRow_succ hown6; have H6 := Lib.hid (H3.out.push hb6 hown6); have B6 := H3.out.box6 hb6; have j2 := B6.cell 2 _ rfl; have f2 := B6.free 2; clear hown6 B6))
            go_roundw
            case rel => exact ⟨q + 1, by omega, by go_num, _, Lib.hid (by rw [show p * n + (q + 1) = p * n + q + 1 from rfl, HTK.out, HCM.out]; exact H6.out)⟩
            case measure => simp [intOf]; omega
        · obtain rfl : q = n := by omega
          go_wp2
          go_roundw
          case rel => exact ⟨p + 1, by omega, by go_num, v, Lib.hid (by rw [Nat.add_mul, Nat.one_mul]; exact hB.out)⟩
          case measure => simp [intOf]; omega
    · obtain rfl : p = n := by omega
      have H := Lib.hid (show CBx w1 wr p v Lc by have := hB.out; rwa [← HLL.out, List.take_length] at this)
      clear hB
      obtain ⟨va, vc, rfl⟩ := own_form H.out.row
      have hbl := H.out.bel
      have HSc := Lib.hid (Sl.ofOwns H.out.row)
      have HKw := Lib.hid (HK1.out.below hbl (Nat.le_refl _))
      have HVw := Lib.hid (HV1.out.below hbl (Nat.le_refl _))
      have HEw := Lib.hid (HE1.out.below hbl (Nat.le_refl _))
      have HBC := Lib.hid H.out.box
      have c0 := HKw.out.cell 0 _ rfl; have c1 := HKw.out.cell 1 _ rfl; have c2 := HKw.out.cell 2 _ rfl
      have j0 := HBC.out.cell 0 _ rfl; have j1 := HBC.out.cell 1 _ rfl; have j2 := HBC.out.cell 2 _ rfl
      have q2 := q1.trans (hbl.mono q1.size)
      have hne : ((xp.length : Int) != (m2 : Int)) = false := by rw [HXP.out, HM2.out]; simp
      go_wp2_with (first
        | (go_at_call 14; (with_reducible refine (HD.out _ _ HVw.out HEw.out).mono ?_); rintro e w3 ⟨v, rfl, rfl, h3⟩; have HVw := Lib.hid (HVw.out.below h3 (Nat.le_refl _)); have HEw := Lib.hid (HEw.out.below h3 (Nat.le_refl _)); have HSc := Lib.hid (HSc.out.below h3 (Nat.le_refl _)); have ST := Lib.hid (ST.out.below h3 (Nat.le_refl _)); have SP := Lib.hid (SP.out.below h3 (Nat.le_refl _)); have HKw := Lib.hid (HKw.out.below h3 (Nat.le_refl _)); have HBC := Lib.hid (HBC.out.below h3 (Nat.le_refl _)); have BT := Lib.hid (BT.out.below h3 (Nat.le_refl _)); have BP := Lib.hid (BP.out.below h3 (Nat.le_refl _)); have c3_HKw_0 := HKw.out.cell 0 _ rfl; have c3_HKw_1 := HKw.out.cell 1 _ rfl; have c3_HKw_2 := HKw.out.cell 2 _ rfl; have c3_HBC_0 := HBC.out.cell 0 _ rfl; have c3_HBC_1 := HBC.out.cell 1 _ rfl; have c3_HBC_2 := HBC.out.cell 2 _ rfl; have c3_BT_0 := BT.out.cell 0 _ rfl; have c3_BT_1 := BT.out.cell 1 _ rfl; have c3_BT_2 := BT.out.cell 2 _ rfl; have c3_BP_0 := BP.out.cell 0 _ rfl; have c3_BP_1 := BP.out.cell 1 _ rfl; have c3_BP_2 := BP.out.cell 2 _ rfl; have q3 := q2.trans (h3.mono q2.size))
        | (go_at_call 24; (with_reducible refine (HP.out _ _ _ HVw.out ST.out HEw.out).mono ?_); rintro e w2 ⟨v, rfl, x2, rfl, s2, h2⟩; obtain ⟨a2, k2, rfl⟩ := sl_form s2; have g2 := h2.alloc h2.size (.cells #[.int .i64 p, .int .i64 p, .slice a2 (xp).length k2] 24); have SP := Lib.hid (s2.below ((Below.refl w2.heap.size w2).alloc (Nat.le_refl _) (.cells #[.int .i64 p, .int .i64 p, .slice a2 (xp).length k2] 24)) (Nat.le_refl _)); clear s2; have BP := Lib.hid (Blk.new w2 [.int .i64 p, .int .i64 p, .slice a2 (xp).length k2] 24); have HVw := Lib.hid (HVw.out.below g2 (Nat.le_refl _)); have HEw := Lib.hid (HEw.out.below g2 (Nat.le_refl _)); have HSc := Lib.hid (HSc.out.below g2 (Nat.le_refl _)); have ST := Lib.hid (ST.out.below g2 (Nat.le_refl _)); have HKw := Lib.hid (HKw.out.below g2 (Nat.le_refl _)); have HBC := Lib.hid (HBC.out.below g2 (Nat.le_refl _)); have BT := Lib.hid (BT.out.below g2 (Nat.le_refl _)); have c2_HKw_0 := HKw.out.cell 0 _ rfl; have c2_HKw_1 := HKw.out.cell 1 _ rfl; have c2_HKw_2 := HKw.out.cell 2 _ rfl; have c2_HBC_0 := HBC.out.cell 0 _ rfl; have c2_HBC_1 := HBC.out.cell 1 _ rfl; have c2_HBC_2 := HBC.out.cell 2 _ rfl; have c2_BT_0 := BT.out.cell 0 _ rfl; have c2_BT_1 := BT.out.cell 1 _ rfl; have c2_BT_2 := BT.out.cell 2 _ rfl; have c2_BP_0 := BP.out.cell 0 _ rfl; have c2_BP_1 := BP.out.cell 1 _ rfl; have c2_BP_2 := BP.out.cell 2 _ rfl; have q2 := q1.trans (g2.mono q1.size))
        | (go_at_call 25; (with_reducible refine (HT.out _ _ HSc.out).mono ?_); rintro e w1 ⟨v, rfl, x1, rfl, s1, h1⟩; obtain ⟨a1, k1, rfl⟩ := sl_form s1; have g1 := h1.alloc h1.size (.cells #[.int .i64 p, .int .i64 p, .slice a1 (xt).length k1] 24); have ST := Lib.hid (s1.below ((Below.refl w1.heap.size w1).alloc (Nat.le_refl _) (.cells #[.int .i64 p, .int .i64 p, .slice a1 (xt).length k1] 24)) (Nat.le_refl _)); clear s1; have BT := Lib.hid (Blk.new w1 [.int .i64 p, .int .i64 p, .slice a1 (xt).length k1] 24); have HVw := Lib.hid (HVw.out.below g1 (Nat.le_refl _)); have HEw := Lib.hid (HEw.out.below g1 (Nat.le_refl _)); have HSc := Lib.hid (HSc.out.below g1 (Nat.le_refl _)); have HKw := Lib.hid (HKw.out.below g1 (Nat.le_refl _)); have HBC := Lib.hid (HBC.out.below g1 (Nat.le_refl _)); have c1_HKw_0 := HKw.out.cell 0 _ rfl; have c1_HKw_1 := HKw.out.cell 1 _ rfl; have c1_HKw_2 := HKw.out.cell 2 _ rfl; have c1_HBC_0 := HBC.out.cell 0 _ rfl; have c1_HBC_1 := HBC.out.cell 1 _ rfl; have c1_HBC_2 := HBC.out.cell 2 _ rfl; have c1_BT_0 := BT.out.cell 0 _ rfl; have c1_BT_1 := BT.out.cell 1 _ rfl; have c1_BT_2 := BT.out.cell 2 _ rfl; have q1 := q2.trans (g1.mono q2.size)))
      obtain ⟨sa, sb, so, sc, hse, hsx, hsp, hsc, hsm⟩ := SP.out.open elemStr
      cases hse
      unfold maxLen at hsm
      have HSP := Lib.hid hsp
      clear hsp
      go_loopw [114] (fun i wr => ∃ t : Nat, t ≤ xp.length ∧ i = .int .i64 t ∧ w3 = wr) (fun i _ => xp.length - (intOf i).toNat)
      case atStart => exact ⟨0, Nat.zero_le _, rfl, rfl⟩
      case round =>
        obtain ⟨t, ht, rfl, rfl⟩ := hrel
        by_cases htl : t < xp.length
        · have hx0 := HSP.out.2 t htl
          have hg := HXG.out t htl
          have hz1 : ((p : Int) + 1 == 0) = false := by simp; omega
          have hz2 : (0 : Int) ≤ (t : Int) := by omega
          have hl9 := HXP.out
          have hm9 := HM2.out
          by_cases hdg : t % (p + 1) = 0
          · rw [if_pos hdg] at hg
            have hr : ((t : Int) % ((p : Int) + 1) == 0) = true := by
              have : ((t % (p + 1) : Nat) : Int) = (t : Int) % ((p : Int) + 1) := by simp
              rw [← this, hdg]; rfl
            have hr2 : ((t : Int) % ((p : Int) + 1) != 0) = false := by simp [bne, hr]
            have hx : w3.cell? ⟨sb, so + t, none⟩ = some (.string (txt d)) := by rw [hx0, hg]; rfl
            clear hg hdg hx0
            go_wp2
            go_roundw
            case rel => exact ⟨t + 1, by omega, by go_num, trivial⟩
            case measure => simp [intOf]; omega
          · rw [if_neg hdg] at hg
            have hr : ((t : Int) % ((p : Int) + 1) == 0) = false := by
              have : ((t % (p + 1) : Nat) : Int) = (t : Int) % ((p : Int) + 1) := by simp
              rw [← this]; simp; omega
            have hr2 : ((t : Int) % ((p : Int) + 1) != 0) = true := by simp [bne, hr]
            have hx : w3.cell? ⟨sb, so + t, none⟩ = some (.string (txt 0)) := by rw [hx0, hg]; rfl
            have h00 := txt_z (z := 0) rfl
            clear hg hdg hx0
            go_wp2
            go_roundw
            case rel => exact ⟨t + 1, by omega, by go_num, trivial⟩
            case measure => simp [intOf]; omega
        · obtain rfl : t = xp.length := by omega
          go_wp2_with (go_at_call 13; (with_reducible refine (awake03 _ HEw.out).mono ?_); rintro e w9 ⟨v, rfl, rfl, h9⟩; have q9 := q3.trans (h9.mono q3.size))
          go_ret
          exact ⟨_, rfl, rfl, q9⟩
end Go.Proofs.YtfhdmhifdaiehaaGreatDoor
