/- The walk of the law AbelianDivides. -/
import Derived.Test.YtdpdkojeapaflaaGreatDoorPk12
namespace Go.Proofs.YtdpdkojeapaflaaGreatDoor
open Go.RowKit
set_option maxRecDepth 100000

theorem toNat_back {zs : List Int} (h : ∀ z ∈ zs, 0 ≤ z) : zs = (zs.map Int.toNat).map (fun n : Nat => (n : Int)) := by
  rw [List.map_map]
  have : ∀ z ∈ zs, ((fun n : Nat => (n : Int)) ∘ Int.toNat) z = id z := fun z hz => by
    show ((z.toNat : Nat) : Int) = z
    exact Int.toNat_of_nonneg (h z hz)
  rw [List.map_congr_left this, List.map_id]
theorem mult_mulN (ns ys : List Nat) (h : ys.length = ns.length) (k : Nat) : (multL (ns.map fun n : Nat => (n : Int)) (k : Int) (ys.map fun n : Nat => (n : Int))).map txt = (mulN ns ys k).map tx := by
  refine List.ext_getElem (by rw [List.length_map, List.length_map, multL, mapI_len, List.length_map, mulN_len h]) fun i h1 h2 => ?_
  have hm : i < (mulN ns ys k).length := by simpa using h2
  have hn : i < ns.length := by rw [mulN_len h] at hm; exact hm
  have hy : i < ys.length := by rw [h]; exact hn
  simp only [List.getElem_map, multL, mapI_get]
  rw [getD_at _ _ (by simpa using hy), getD_at _ _ (by simpa using hn), List.getElem_map, List.getElem_map, mulN_get k i hm hn hy, Int.fmod_eq_emod_of_nonneg _ (by omega), ← Int.natCast_mul, ← Int.natCast_emod]
theorem prods_last (zs : List Int) (z : Int) : z ∣ prods (zs ++ [z]) := by rw [prods_snoc]; exact Int.dvd_mul_left _ _
theorem div_facts {g a : List ByteArray} (hf : few05 g = true) (hg : gchk g = 0) (hm : mchk g a = 0) : ∃ (zs : List Int) (ns ys : List Nat) (L : Nat), Goods g zs ∧ Pos g ns L 30 ∧ a = ys.map tx ∧ (∀ i (h : i < ns.length) (h' : i < ys.length), ys[i] < ns[i]) ∧ ys.length = ns.length ∧
    nums g = ns.map (fun n : Nat => (n : Int)) ∧ nums a = ys.map (fun n : Nat => (n : Int)) ∧ rlast g = tx L ∧ (L : Int) ∣ prods (nums g) ∧ big (prods (nums g)) = false ∧ a.length = g.length ∧ g.length ≤ 16 ∧ Good (tx L) L ∧ (∀ n ∈ ns, 2 ≤ n) := by
  obtain ⟨zs, hG⟩ := grp_of hg
  obtain ⟨z, hz, hz1⟩ := rlast_good hG
  have hzd : dn z ≤ 30 := by
    by_cases h0 : g = []
    · subst h0
      have e : z = 1 := by
        have h5 : Good (⟨#[49]⟩ : ByteArray) z := hz
        rw [← h5.num, g1.num]
      rw [e]; decide +kernel
    · have h1 : 0 < g.length := List.length_pos_iff.2 h0
      exact few05_dn hf hG.len (List.getElem_mem (show g.length - 1 < g.length by omega)) (by rw [← rlast_eq g h1]; exact hz)
  have hP := pos_of (K := 30) hG hg (by rw [hz.num]; exact hzd) (by omega)
  obtain ⟨us, hus, hel, hal, hatx, hlt⟩ := elt_tx hG hm
  have hLz : (((num (rlast g)).toNat : Nat) : Int) = z := by rw [hz.num]; exact Int.toNat_of_nonneg (by omega)
  have hnn : nums g = zs := nums_of hG.good
  have hua : nums a = us := nums_of hus
  have hup : ∀ u ∈ us, 0 ≤ u := fun u hu => by
    obtain ⟨i, hi, rfl⟩ := List.getElem_of_mem hu
    exact (hel i (by have := hus.len; have := hG.good.len; omega) hi).1
  have hbig : big (prods zs) = false := by
    refine big_dn ?_
    have := prods_dn_take (K := 30) zs zs.length (fun u hu => by
      obtain ⟨i, hi, rfl⟩ := List.getElem_of_mem hu
      have hl := hG.good.len
      exact few05_dn hf hG.len (List.getElem_mem (show i < g.length by omega)) (hG.good.get i (by omega) hi)) (by rw [hG.good.len]; exact hG.len)
    rw [List.take_length] at this
    omega
  have hdv : z ∣ prods zs := by
    by_cases h0 : g = []
    · subst h0
      have e : z = 1 := by
        have h5 : Good (⟨#[49]⟩ : ByteArray) z := hz
        rw [← h5.num, g1.num]
      rw [e]; exact Int.one_dvd _
    · have h1 : 0 < g.length := List.length_pos_iff.2 h0
      have hl := hG.good.len
      have hg2 := hG.good.get (g.length - 1) (by omega) (by omega)
      rw [← rlast_eq g h1] at hg2
      have e : zs[g.length - 1]'(by omega) = z := by rw [← hg2.num, hz.num]
      obtain ⟨m, y, hmy⟩ : ∃ m y, zs = m ++ [y] := by
        rcases list_snoc zs with h | h
        · rw [h] at hl; simp at hl; omega
        · exact h
      subst hmy
      have : (m ++ [y])[g.length - 1]'(by omega) = y := by
        rw [List.getElem_append_right (by simp at hl; omega)]; simp
      rw [this] at e
      rw [← e]; exact prods_last m y
  refine ⟨zs, zs.map Int.toNat, us.map Int.toNat, _, hG.good, hP, hatx, hlt, by rw [List.length_map, List.length_map, hus.len, hG.good.len, hal], by rw [hnn]; exact toNat_back fun z hz => by have := hG.two z hz; omega, by rw [hua]; exact toNat_back hup, ?_, ?_, by rw [hnn]; exact hbig, hal, hG.len, ?_, hP.two⟩
  · show rlast g = txt _; rw [hLz]; exact hz.eq
  · rw [hLz, hnn]; exact hdv
  · rw [hLz]; show Good (txt _) z; rw [hLz, ← hz.eq]; exact hz
/-- The last unit element. -/
def lastY (n : Nat) : List Nat := if n = 0 then [] else List.replicate (n - 1) 0 ++ [1]
theorem lastY_len (n : Nat) : (lastY n).length = n := by unfold lastY; split <;> simp <;> omega
theorem lcms_one : ∀ (l : List Nat), (∀ q ∈ l, q = 1) → lcms l = 1 := by
  intro l h
  have h1 : lcms l ∣ 1 := (lcms_dvd l 1).2 fun q hq => by rw [h q hq]; exact Nat.dvd_refl _
  exact Nat.dvd_one.1 h1
theorem lastY_lcm (ns : List Nat) (h2 : ∀ n ∈ ns, 2 ≤ n) (m : List Nat) (y : Nat) (he : ns = m ++ [y]) : lcms (quos ns (lastY ns.length)) = y := by
  subst he
  have e : quos (m ++ [y]) (lastY (m ++ [y]).length) = m.map (fun _ => 1) ++ [y] := by
    unfold lastY quos
    rw [if_neg (by simp), List.length_append, List.length_singleton, Nat.add_sub_cancel]
    rw [List.zipWith_append (by simp)]
    congr 1
    · refine List.ext_getElem (by simp) fun i h1 h3 => ?_
      simp only [List.getElem_zipWith, List.getElem_replicate, List.getElem_map, Nat.gcd_zero_right]
      have hm : i < m.length := by simpa using h3
      have := h2 m[i] (by simp)
      exact Nat.div_self (by omega)
    · simp
  rw [e, lcms_snoc, lcms_one _ (by simp), Nat.lcm_one_left]
/-- The six primes. -/
def sixT : List ByteArray := [⟨#[50]⟩, ⟨#[51]⟩, ⟨#[53]⟩, ⟨#[55]⟩, ⟨#[49, 49]⟩, ⟨#[49, 51]⟩]
def sixN : List Nat := [2, 3, 5, 7, 11, 13]
theorem six_good (k : Nat) (h : k < sixT.length) (h' : k < sixN.length) : Good sixT[k] (sixN[k] : Nat) ∧ 2 ≤ sixN[k] := by
  match k, h with
  | 0, _ => exact (show Good (⟨#[50]⟩ : ByteArray) ((2 : Nat) : Int) ∧ 2 ≤ 2 from ⟨good_lit (by decide) (by decide), by decide⟩)
  | 1, _ => exact (show Good (⟨#[51]⟩ : ByteArray) ((3 : Nat) : Int) ∧ 2 ≤ 3 from ⟨good_lit (by decide) (by decide), by decide⟩)
  | 2, _ => exact (show Good (⟨#[53]⟩ : ByteArray) ((5 : Nat) : Int) ∧ 2 ≤ 5 from ⟨good_lit (by decide) (by decide), by decide⟩)
  | 3, _ => exact (show Good (⟨#[55]⟩ : ByteArray) ((7 : Nat) : Int) ∧ 2 ≤ 7 from ⟨good_lit (by decide) (by decide), by decide⟩)
  | 4, _ => exact (show Good (⟨#[49, 49]⟩ : ByteArray) ((11 : Nat) : Int) ∧ 2 ≤ 11 from ⟨good_lit (by decide) (by decide), by decide⟩)
  | 5, _ => exact (show Good (⟨#[49, 51]⟩ : ByteArray) ((13 : Nat) : Int) ∧ 2 ≤ 13 from ⟨good_lit (by decide) (by decide), by decide⟩)
theorem six_sl (w : World) (e : TypeId) : Sl eS (w.alloc (.cells #[.string ⟨#[50]⟩, .string ⟨#[51]⟩, .string ⟨#[53]⟩, .string ⟨#[55]⟩, .string ⟨#[49, 49]⟩, .string ⟨#[49, 51]⟩] e)) (.slice (some ⟨w.heap.size, 0, none⟩) 6 6) sixT :=
  Sl.ofOwns (n := 6) (base := 0) (e := e) ⟨rfl, .inr ⟨w.heap.size, 6, _, rfl, by omega, heap_alloc_new w _, by omega, by simp [maxLen], rfl, rfl⟩⟩
theorem toList_ne {x y : Int} (h : x ≠ y) : ((txt x).toList == (txt y).toList) = false := by
  rw [beq_eq_false_iff_ne, txt_list, txt_list]
  intro e
  exact h (txt_inj (by unfold txt; rw [e]))

set_option maxHeartbeats 8000000 in
theorem divides05_any (w : World) (v : Value) (g : List ByteArray) (hv : Sl eS w v g) (u : Value) (a : List ByteArray) (hu : Sl eS w u a) (hsg : ∀ s ∈ g, s.size ≤ 9223372036854775807) (hsa : ∀ s ∈ a, s.size ≤ 9223372036854775807) (he : Env w) :
    Calls Tryz.prog 6 #[v, u] w (Rets fun v w' => v = .bool true ∧ Below w.heap.size w w') := by
  have HLst := Lib.hid (fun e => Lst.one w u a hu e)
  have q0' := fun e => (Below.refl w.heap.size w).alloc (Nat.le_refl _) (.cells #[u] e)
  have q0 := q0' 22
  have HV := Lib.hid (hv.below q0 (Nat.le_refl _)); have HU := Lib.hid (hu.below q0 (Nat.le_refl _)); have HE := Lib.hid (he.below q0 (Nat.le_refl _))
  have HRI := Lib.hid (right_any (w.alloc (.cells #[u] 22)) v _ _ g [a] (hv.below q0 (Nat.le_refl _)) (HLst.out _) hsg (by simpa using hsa))
  obtain ⟨ad, b1, o1, c1, rfl, -, -, -, hm1⟩ := hv.open elemStr
  obtain ⟨adA, b2, o2, c2, rfl, -, -, -, -⟩ := hu.open elemStr
  clear hsg hsa he hv hu q0' HLst
  unfold maxLen at hm1
  cases hr : rightB g [a]
  · have HR := Lib.hid hr
    clear hr
    go_enter Tryz.func6, Tryz.ntmps6
    go_wp2_with (first
      | (go_at_call 16; (with_reducible refine (awake05 _ HE.out).mono ?_); rintro e w2 ⟨v, rfl, rfl, h2⟩; have HV := Lib.hid (HV.out.below h2 (Nat.le_refl _)); have HU := Lib.hid (HU.out.below h2 (Nat.le_refl _)); have HE := Lib.hid (HE.out.below h2 (Nat.le_refl _)); have q2 := q1.trans (h2.mono q1.size))
      | (go_at_call 29; (with_reducible refine (HRI.out).mono ?_); rintro e w1 ⟨v, rfl, rfl, h1⟩; rw [HR.out]; have HV := Lib.hid (HV.out.below h1 (Nat.le_refl _)); have HU := Lib.hid (HU.out.below h1 (Nat.le_refl _)); have HE := Lib.hid (HE.out.below h1 (Nat.le_refl _)); have q1 := q0.trans (h1.mono q0.size)))
    go_ret
    exact ⟨_, rfl, rfl, q2⟩
  · have HR := Lib.hid hr
    obtain ⟨hf, hg, hm⟩ := rightB_of hr
    have hma := hm a (by simp)
    obtain ⟨zs, ns, ys, L, hz, hP, ha, hlt, hyl, hng, hna, hrl, hdv, hbig, hal, hl16, hgL, htwo⟩ := div_facts hf hg hma
    have hsz := few05_size hf hl16
    have HSS := Lib.hid (few05_size hf); have HSZ := Lib.hid hsz
    have HSA := Lib.hid (show ∀ s ∈ a, s.size ≤ 1000000 from fun s hs => by have := el_size hg (el_of hg hma).1; rw [← (el_of hg hma).2] at this; exact this s hs)
    have HDN := Lib.hid (show gchk g = 0 → ∀ s ∈ g, ∀ z, Good s z → dn z ≤ 500 from fun hg s hs z hz => by have := few05_dn hf (gchk_len hg).1 hs hz; omega)
    have hqd : ∀ us : List Nat, ∀ q ∈ quos ns us, q ∣ L := fun us q hq => by
      obtain ⟨i, hi, rfl⟩ := List.getElem_of_mem hq
      have hkn : i < ns.length := by simp [quos] at hi; omega
      simp only [quos, List.getElem_zipWith]
      exact Nat.dvd_trans (Nat.div_dvd_of_dvd (Nat.gcd_dvd_left _ _)) (hP.dvd _ (List.getElem_mem hkn))
    have hnL : lcms (quos ns ys) ∣ L := (lcms_dvd _ _).2 (hqd ys)
    have hn0 : 0 < lcms (quos ns ys) := lcms_pos _ (quos_pos (us := ys) htwo)
    have HOF := Lib.hid (fun w' h1 h2 h3 => OrderOf_ok w' (.slice ad g.length c1) (.slice adA a.length c2) g a zs ns ys L 30 h1 h2 hz hg hma hP ha hlt hl16 hal hsz HSA.out h3)
    have HMZ := Lib.hid (fun k : Nat => mulN_zero hyl htwo k)
    have HTM := Lib.hid (show ∀ k : Nat, big (k : Int) = false → timesS g (tx k) a = ((mulN ns ys k).map tx, 0) from fun k hb => by
      have hG : Good (tx k) k := .of hb
      unfold timesS
      rw [if_pos hg, if_pos hG.chk, if_pos hma, hG.num, hng, hna, mult_mulN ns ys hyl k])
    -- the order of the last unit element
    have HLY : Hid (∀ w' x, Sl eS w' (.slice ad g.length c1) g → Sl eS w' x ((lastY g.length).map tx) → Env w' → Calls Tryz.prog 17 #[.slice ad g.length c1, x] w' (Rets fun r w'' => r = .tuple #[.string (tx L), .int .i64 0] ∧ Below w'.heap.size w' w'')) := Lib.hid (fun w' x h1 h2 h3 => by
      have hnl : ns.length = g.length := hP.len
      have hel : El (nums g) ((lastY g.length).map fun n : Nat => (n : Int)) := ⟨by rw [List.length_map, lastY_len, nums_len], fun i hi => by
        rw [nums_len] at hi
        rw [hng, getD_at _ _ (by rw [List.length_map, lastY_len]; exact hi), getD_at _ _ (by rw [List.length_map, hnl]; exact hi), List.getElem_map, List.getElem_map]
        have h5 := htwo _ (List.getElem_mem (show i < ns.length by omega))
        have h6 : (lastY g.length)[i]'(by rw [lastY_len]; exact hi) ≤ 1 := by
          have : ∀ x ∈ lastY g.length, x ≤ 1 := by
            intro x hx
            unfold lastY at hx
            split at hx
            · simp at hx
            · rcases List.mem_append.1 hx with h | h
              · have := (List.mem_replicate.1 h).2; omega
              · simp at h; omega
          exact this _ (List.getElem_mem _)
        omega⟩
      have e1 : (lastY g.length).map tx = ((lastY g.length).map fun n : Nat => (n : Int)).map txt := by rw [List.map_map]; rfl
      have hmc := (mchk_el hg hel).1
      rw [← e1] at hmc
      have hszl := el_size hg hel
      rw [← e1] at hszl
      have := OrderOf_ok w' (.slice ad g.length c1) x g _ zs ns (lastY g.length) L 30 h1 h2 hz hg hmc hP rfl (fun i h h' => by
        have := hel.get i (by rw [nums_len]; omega)
        rw [hng, getD_at _ _ (by rw [List.length_map]; exact h'), getD_at _ _ (by rw [List.length_map]; exact h), List.getElem_map, List.getElem_map] at this
        omega) hl16 (by rw [List.length_map, lastY_len]) hsz hszl h3
      have e2 : lcms (quos ns (lastY g.length)) = L := by
        rcases list_snoc ns with h | ⟨m, y, h⟩
        · have hg0 : g = [] := List.length_eq_zero_iff.1 (by rw [← hnl, h]; rfl)
          subst hg0
          rw [h]
          have h5 : Good (⟨#[49]⟩ : ByteArray) L := by have h6 : Good (tx L) L := hgL; rw [← hrl] at h6; exact h6
          have h7 := h5.num
          rw [g1.num] at h7
          show 1 = L
          omega
        · rw [← hnl, lastY_lcm ns htwo m y h]
          have h0 : 0 < g.length := by rw [← hnl, h]; simp
          have h5 := rlast_eq g h0
          have h6 : g[g.length - 1]'(by omega) = tx y := by
            have : g[g.length - 1]'(by omega) = (ns.map tx)[g.length - 1]'(by rw [List.length_map]; omega) := by
              have := hP.eq
              simp only [← this]
            rw [this, List.getElem_map]
            congr 1
            have hl : g.length - 1 = m.length := by rw [← hnl, h]; simp
            subst h
            simp only [hl]
            rw [List.getElem_append_right (Nat.le_refl _)]; simp
          rw [h6, hrl] at h5
          have := txt_inj h5
          omega
      rw [e2] at this
      exact this)
    obtain ⟨N, hN⟩ : ∃ N, lcms (quos ns ys) = N := ⟨_, rfl⟩
    rw [hN] at hnL hn0
    simp only [hN] at HOF HMZ
    have hbN : big (N : Int) = false := big_lt (by omega) (by have := Nat.le_of_dvd hP.pos hnL; omega) hgL.2
    have HGN := Lib.hid (show Good (txt (N : Int)) N from .of hbN); have HGL := Lib.hid (show Good (txt (L : Int)) L from hgL)
    have HX := Lib.hid (show expS g = (txt (L : Int), 0) by unfold expS; rw [if_pos hg]; rw [show lastOf g = rlast g from rfl, hrl])
    obtain ⟨P, hPp⟩ : ∃ P, prods (nums g) = P := ⟨_, rfl⟩
    rw [hPp] at hdv hbig
    have HO := Lib.hid (show orderS g = (txt P, 0) by unfold orderS; rw [if_pos hg, hPp, resT_ok hbig, resK_ok hbig])
    have HGP := Lib.hid (show Good (txt P) P from .of hbig)
    have HR1 := Lib.hid (show resV (Int.fmod (L : Int) (N : Int)) = .tuple #[.string (txt 0), .int .i64 0] by
      rw [Int.fmod_eq_zero_of_dvd (Int.natCast_dvd_natCast.2 hnL)]; exact res_good g0.2)
    have HR2 := Lib.hid (show resV (Int.fmod P (L : Int)) = .tuple #[.string (txt 0), .int .i64 0] by
      rw [Int.fmod_eq_zero_of_dvd hdv]; exact res_good g0.2)
    have HN0 := Lib.hid (show (N : Int) ≠ 0 by omega); have HL0 := Lib.hid (show (L : Int) ≠ 0 by have := hP.pos; omega)
    have HT1 := Lib.hid (HTM.out N hbN)
    have HZ1 := Lib.hid (show (mulN ns ys N).all (· == 0) = true by rw [HMZ.out]; simp)
    have HNP := Lib.hid hn0
    have hz48 := txt_zero
    have HLL := Lib.hid hl16
    obtain ⟨tN, htN⟩ : ∃ t, txt (N : Int) = t := ⟨_, rfl⟩
    clear htN
    clear hr hf hg hm hma hz hP ha hlt hyl hng hna hrl hdv hbig hal hgL htwo hsz hqd hnL hn0 hN hbN hPp
    go_enter Tryz.func6, Tryz.ntmps6
    go_wp2_with (first
      | (go_at_call 36; (with_reducible refine (Zero_any _ _ _ (mulN ns ys N) FZ.out rfl).mono ?_); rintro e w' ⟨v, rfl, rfl, rfl⟩; rw [HZ1.out]; have q8 := q7)
      | (go_at_call 35; (with_reducible refine (ATimes_any _ _ _ (tx N) g a HV.out HU.out HSS.out HSA.out (show (txt (N : Int)).size ≤ 1000000 by have := HGN.out.size; omega) HDN.out HE.out).mono ?_); rintro e w7 ⟨v, rfl, x7, rfl, s7, h7⟩; rw [HT1.out] at s7 ⊢; have FZ := Lib.hid s7; clear s7; have HV := Lib.hid (HV.out.below h7 (Nat.le_refl _)); have HU := Lib.hid (HU.out.below h7 (Nat.le_refl _)); have HE := Lib.hid (HE.out.below h7 (Nat.le_refl _)); have q7 := q6.trans (h7.mono q6.size))
      | (go_at_call 34; (with_reducible refine (Rem_ok _ _ _ P (L : Int) HGP.out HGL.out HL0.out HE.out).mono ?_); rintro e w6 ⟨v, rfl, rfl, h6⟩; rw [HR2.out]; have HV := Lib.hid (HV.out.below h6 (Nat.le_refl _)); have HU := Lib.hid (HU.out.below h6 (Nat.le_refl _)); have HE := Lib.hid (HE.out.below h6 (Nat.le_refl _)); have q6 := q5.trans (h6.mono q5.size))
      | (go_at_call 34; (with_reducible refine (Rem_ok _ _ _ (L : Int) (N : Int) HGL.out HGN.out HN0.out HE.out).mono ?_); rintro e w5 ⟨v, rfl, rfl, h5⟩; rw [HR1.out]; have HV := Lib.hid (HV.out.below h5 (Nat.le_refl _)); have HU := Lib.hid (HU.out.below h5 (Nat.le_refl _)); have HE := Lib.hid (HE.out.below h5 (Nat.le_refl _)); have q5 := q4.trans (h5.mono q4.size))
      | (go_at_call 21; (with_reducible refine (AOrder_any _ _ g HV.out HSS.out HE.out).mono ?_); rintro e w4 ⟨v, rfl, rfl, h4⟩; rw [HO.out]; have HV := Lib.hid (HV.out.below h4 (Nat.le_refl _)); have HU := Lib.hid (HU.out.below h4 (Nat.le_refl _)); have HE := Lib.hid (HE.out.below h4 (Nat.le_refl _)); have q4 := q3.trans (h4.mono q3.size))
      | (go_at_call 23; (with_reducible refine (AExponent_any _ _ g HV.out HSS.out HE.out).mono ?_); rintro e w3 ⟨v, rfl, rfl, h3⟩; rw [HX.out]; have HV := Lib.hid (HV.out.below h3 (Nat.le_refl _)); have HU := Lib.hid (HU.out.below h3 (Nat.le_refl _)); have HE := Lib.hid (HE.out.below h3 (Nat.le_refl _)); have q3 := q2.trans (h3.mono q2.size))
      | (go_at_call 17; (with_reducible refine (HOF.out _ HV.out HU.out HE.out).mono ?_); rintro e w2 ⟨v, rfl, rfl, h2⟩; have HV := Lib.hid (HV.out.below h2 (Nat.le_refl _)); have HU := Lib.hid (HU.out.below h2 (Nat.le_refl _)); have HE := Lib.hid (HE.out.below h2 (Nat.le_refl _)); have q2 := q1.trans (h2.mono q1.size))
      | (go_at_call 29; (with_reducible refine (HRI.out).mono ?_); rintro e w1 ⟨v, rfl, rfl, h1⟩; rw [HR.out]; have HV := Lib.hid (HV.out.below h1 (Nat.le_refl _)); have HU := Lib.hid (HU.out.below h1 (Nat.le_refl _)); have HE := Lib.hid (HE.out.below h1 (Nat.le_refl _)); have q1 := q0.trans (h1.mono q0.size)))
    have FB := Lib.hid (show Blk (w7.alloc (.cells #[.string ⟨#[50]⟩, .string ⟨#[51]⟩, .string ⟨#[53]⟩, .string ⟨#[55]⟩, .string ⟨#[49, 49]⟩, .string ⟨#[49, 51]⟩] 27)) w7.heap.size (sixT.map eS) 27 from Blk.new w7 (sixT.map eS) 27)
    have hq8 := (Below.refl w7.heap.size w7).alloc (Nat.le_refl _) (.cells #[.string ⟨#[50]⟩, .string ⟨#[51]⟩, .string ⟨#[53]⟩, .string ⟨#[55]⟩, .string ⟨#[49, 49]⟩, .string ⟨#[49, 51]⟩] 27)
    have HV := Lib.hid (HV.out.below hq8 (Nat.le_refl _)); have HU := Lib.hid (HU.out.below hq8 (Nat.le_refl _)); have HE := Lib.hid (HE.out.below hq8 (Nat.le_refl _))
    have q9 := q8.trans (hq8.mono q8.size)
    obtain ⟨W, hW⟩ : ∃ W, w7.alloc (.cells #[.string ⟨#[50]⟩, .string ⟨#[51]⟩, .string ⟨#[53]⟩, .string ⟨#[55]⟩, .string ⟨#[49, 49]⟩, .string ⟨#[49, 51]⟩] 27) = W := ⟨_, rfl⟩
    rw [hW] at HV HU HE FB q9 ⊢
    clear hW hq8
    have HQ8 := Lib.hid q9
    go_loopw [91] (fun i wr => ∃ k : Nat, k ≤ 6 ∧ i = .int .i64 k ∧ Hid (Below W.heap.size W wr)) (fun i _ => 6 - (intOf i).toNat)
    case atStart => exact ⟨0, by omega, rfl, Lib.hid (Below.refl _ _)⟩
    case round =>
      obtain ⟨k, hk, rfl, hb⟩ := hrel
      have HV := Lib.hid (HV.out.below hb.out (Nat.le_refl _)); have HU := Lib.hid (HU.out.below hb.out (Nat.le_refl _)); have HE := Lib.hid (HE.out.below hb.out (Nat.le_refl _))
      have qr := HQ8.out.trans (hb.out.mono HQ8.out.size)
      by_cases hk6 : k < 6
      · have hkt : k < sixT.length := hk6
        have hkn : k < sixN.length := hk6
        have h1 : wr.cell? ⟨w7.heap.size, k, none⟩ = some (.string sixT[k]) := (FB.out.below hb.out (Nat.le_refl _)).cell k _ (by rw [List.getElem?_map, List.getElem?_eq_getElem hkt]; rfl)
        obtain ⟨gp, hp2⟩ := six_good k hkt hkn
        obtain ⟨s, hs⟩ : ∃ s, sixT[k] = s := ⟨_, rfl⟩
        obtain ⟨p, hp⟩ : ∃ p, sixN[k] = p := ⟨_, rfl⟩
        rw [hs] at h1 gp
        rw [hp] at gp hp2
        have HGPP := Lib.hid gp
        obtain ⟨Q, hQ⟩ : ∃ Q, N / p = Q := ⟨_, rfl⟩
        have hQp : Q * p ≤ N := by rw [← hQ]; exact Nat.div_mul_le_self _ _
        have hQN : Q ≤ N := by rw [← hQ]; exact Nat.div_le_self _ _
        have hbN := HGN.out.2
        have hbQ : big (Q : Int) = false := big_lt (by omega) (by omega) hbN
        have HP0 := Lib.hid (show (p : Int) ≠ 0 by omega)
        have HQQ := Lib.hid (show resV (Int.fdiv (N : Int) (p : Int)) = .tuple #[.string (txt (Q : Int)), .int .i64 0] by
          rw [Int.fdiv_eq_ediv_of_nonneg _ (by omega), ← Int.natCast_ediv, hQ]; exact res_good hbQ)
        have HGQ := Lib.hid (show Good (txt (Q : Int)) Q from .of hbQ)
        obtain ⟨B, hB⟩ : ∃ B : Int, (Q : Int) * (p : Int) = B := ⟨_, rfl⟩
        have hBN : 0 ≤ B ∧ B ≤ N := by
          rw [← hB, ← Int.natCast_mul]; omega
        have HBB := Lib.hid (show resV ((Q : Int) * (p : Int)) = .tuple #[.string (txt B), .int .i64 0] by rw [hB]; exact res_good (big_lt hBN.1 hBN.2 hbN))
        by_cases hd : B = N
        · have HT2 := Lib.hid (HTM.out Q hbQ)
          have HZ2 := Lib.hid (show (mulN ns ys Q).all (· == 0) = false by
            rw [HMZ.out, decide_eq_false_iff_not]
            intro hdv
            have hqp : Q * p = N := by rw [← Int.natCast_inj, Int.natCast_mul, hB, hd]
            have h0 := HNP.out
            have hQ0 : 0 < Q := by
              rcases Nat.eq_zero_or_pos Q with h | h
              · rw [h] at hqp; omega
              · exact h
            have h3 := Nat.le_of_dvd hQ0 hdv
            have h4 : Q * 2 ≤ Q * p := Nat.mul_le_mul_left _ hp2
            omega)
          rw [hd] at HBB
          clear hd hB hBN hbQ hbN hQp hQN hQ hs hp gp hp2 hkt hkn
          go_wp2_with (first
            | (go_at_call 36; (with_reducible refine (Zero_any _ _ _ (mulN ns ys Q) FZ2.out rfl).mono ?_); rintro e w' ⟨v, rfl, rfl, rfl⟩; rw [HZ2.out])
            | (go_at_call 35; (with_reducible refine (ATimes_any _ _ _ (tx Q) g a (HV.out.below p2 (Nat.le_refl _)) (HU.out.below p2 (Nat.le_refl _)) HSS.out HSA.out (show (txt (Q : Int)).size ≤ 1000000 by have := HGQ.out.size; omega) HDN.out (HE.out.below p2 (Nat.le_refl _))).mono ?_); rintro e y3 ⟨v, rfl, x3, rfl, s3, g3⟩; rw [HT2.out] at s3 ⊢; have FZ2 := Lib.hid s3; clear s3; have p3 := p2.trans (g3.mono p2.size))
            | (go_at_call 38; (with_reducible refine (Mul_ok _ _ _ (Q : Int) (p : Int) HGQ.out HGPP.out (HE.out.below g1 (Nat.le_refl _))).mono ?_); rintro e y2 ⟨v, rfl, rfl, g2⟩; rw [HBB.out]; have p2 := g1.trans (g2.mono g1.size))
            | (go_at_call 37; (with_reducible refine (Quo_ok _ _ _ (N : Int) (p : Int) HGN.out HGPP.out HP0.out HE.out).mono ?_); rintro e y1 ⟨v, rfl, rfl, g1⟩; rw [HQQ.out]))
          go_roundw
          case rel => exact ⟨k + 1, by omega, by go_num, Lib.hid (hb.out.trans (p3.mono hb.out.size))⟩
          case measure => simp [intOf]; omega
        · have hne := toList_ne hd
          clear hd hB hBN hbQ hbN hQp hQN hQ hs hp gp hp2 hkt hkn
          go_wp2_with (first
            | (go_at_call 38; (with_reducible refine (Mul_ok _ _ _ (Q : Int) (p : Int) HGQ.out HGPP.out (HE.out.below g1 (Nat.le_refl _))).mono ?_); rintro e y2 ⟨v, rfl, rfl, g2⟩; rw [HBB.out]; have p2 := g1.trans (g2.mono g1.size))
            | (go_at_call 37; (with_reducible refine (Quo_ok _ _ _ (N : Int) (p : Int) HGN.out HGPP.out HP0.out HE.out).mono ?_); rintro e y1 ⟨v, rfl, rfl, g1⟩; rw [HQQ.out]))
          go_roundw
          case rel => exact ⟨k + 1, by omega, by go_num, Lib.hid (hb.out.trans (p2.mono hb.out.size))⟩
          case measure => simp [intOf]; omega
      · obtain rfl : k = 6 := by omega
        obtain ⟨wo, rfl⟩ : ∃ wo, wo = wr := ⟨wr, rfl⟩
        have hl16 := HLL.out
        go_wp2_with (at_make; refine mkN elemStr rfl _ _ rfl g.length rfl rfl (by omega) (by omega) (by omega) (by unfold maxLen; omega) (Below.refl _ wo) (Nat.le_refl _) rfl ?_; intro w8 hown hb8 hb8'; clear hb8')
        have hown := ownsRow_cast hown rfl (show List.replicate g.length (Value.string ⟨#[]⟩) = (List.replicate 0 (⟨#[48]⟩ : ByteArray) ++ List.replicate (g.length - 0) (⟨#[]⟩ : ByteArray)).map eS by simp [eS])
        have HQR := Lib.hid qr
        go_loopw [135] (fun i wr => ∃ k : Nat, k ≤ g.length ∧ i = .int .i64 k ∧ wr.ownsRow wo.heap.size 27 1 (.slice (some ⟨wo.heap.size, 0, none⟩) g.length g.length) g.length ((List.replicate k (⟨#[48]⟩ : ByteArray) ++ List.replicate (g.length - k) (⟨#[]⟩ : ByteArray)).map eS) ∧ Below wo.heap.size wo wr) (fun i _ => g.length - (intOf i).toNat)
        case atStart => exact ⟨0, Nat.zero_le _, rfl, hown, hb8⟩
        case round =>
          clear hown hb8 qr
          obtain ⟨j, hj, rfl, hown, hbx⟩ := hrel
          by_cases hjn : j < g.length
          · obtain ⟨u0, -, hcu, hfr⟩ := own_at hown hjn
            have HO := Lib.hid hown
            clear hown
            go_wp2
            go_roundw
            case rel =>
              have R := fun (q : Value) (hq : q = eS (⟨#[48]⟩ : ByteArray)) => fill_own HO.out hbx (Nat.le_refl _) (by simp) hjn ⟨#[48]⟩ q hq
              rw [← List.replicate_succ'] at R
              exact ⟨j + 1, by omega, by go_num, (R _ rfl).1, (R _ rfl).2⟩
            case measure => simp [intOf]; omega
          · obtain rfl : j = g.length := by omega
            rw [Nat.sub_self, List.replicate_zero, List.append_nil] at hown
            by_cases hg0 : g.length = 0
            · have e0 : List.replicate g.length (⟨#[48]⟩ : ByteArray) = (lastY g.length).map tx := by rw [hg0]; rfl
              rw [e0] at hown
              have FL := Lib.hid (Sl.ofOwns hown)
              have hgt : ¬ 0 < (g.length : Int) := by omega
              clear hown hg0
              go_wp2_with (first
                | (go_at_call 16; (with_reducible refine (awake05 _ (HE.out.below p1 (Nat.le_refl _))).mono ?_); rintro e y2 ⟨v, rfl, rfl, g2⟩; have p2 := p1.trans (g2.mono p1.size))
                | (go_at_call 17; (with_reducible refine (HLY.out _ _ (HV.out.below hbx (Nat.le_refl _)) FL.out (HE.out.below hbx (Nat.le_refl _))).mono ?_); rintro e y1 ⟨v, rfl, rfl, g1⟩; have p1 := hbx.trans (g1.mono hbx.size)))
              go_ret
              exact ⟨_, rfl, rfl, HQR.out.trans (p2.mono HQR.out.size)⟩
            · obtain ⟨m, hmm⟩ : ∃ m, g.length = m + 1 := ⟨g.length - 1, by omega⟩
              have hgt : 0 < (g.length : Int) := by omega
              have e1 : (g.length : Int) - 1 = (m : Int) := by omega
              have e2 : ((g.length : Int) - 1).toNat = m := by omega
              have q1 : (0 : Int) ≤ (m : Int) := by omega
              have q2 : (m : Int) < (g.length : Int) := by omega
              obtain ⟨u0, -, hcu, hfr⟩ := own_at hown (show m < g.length by omega)
              have R := fun (q : Value) (hq : q = eS (⟨#[49]⟩ : ByteArray)) => own_put hown hbx (Nat.le_refl _) m ⟨#[49]⟩ q hq
              have eL : (List.replicate g.length (⟨#[48]⟩ : ByteArray)).set m ⟨#[49]⟩ = (lastY g.length).map tx := by
                rw [hmm]
                unfold lastY
                rw [if_neg (by omega), Nat.add_sub_cancel, List.replicate_succ', List.set_append_right _ _ (by simp), List.map_append, List.map_replicate]
                simp [show tx 0 = ⟨#[48]⟩ from txt0, show tx 1 = ⟨#[49]⟩ from g1.eq.symm]
              rw [eL] at R
              have HRR := Lib.hid (R (.string ⟨#[49]⟩) rfl)
              clear hown R eL hmm
              go_wp2_with (first
                | (go_at_call 16; (with_reducible refine (awake05 _ (HE.out.below p1 (Nat.le_refl _))).mono ?_); rintro e y2 ⟨v, rfl, rfl, g2⟩; have p2 := p1.trans (g2.mono p1.size))
                | (go_at_call 17; (with_reducible refine (HLY.out _ _ (HV.out.below HRR.out.2 (Nat.le_refl _)) (Sl.ofOwns (xs := (lastY g.length).map tx) (ownsRow_cast HRR.out.1 (show g.length = ((lastY g.length).map tx).length by rw [List.length_map, lastY_len]) rfl)) (HE.out.below HRR.out.2 (Nat.le_refl _))).mono ?_); rintro e y1 ⟨v, rfl, rfl, g1⟩; have p1 := HRR.out.2.trans (g1.mono HRR.out.2.size)))
              go_ret
              exact ⟨_, rfl, rfl, HQR.out.trans (p2.mono HQR.out.size)⟩
end Go.Proofs.YtdpdkojeapaflaaGreatDoor
