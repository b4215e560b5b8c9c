/- Plain law: the laws of a commutative group for a group's elements, and multiples. The walk of the law AbelianSums. The walk of the abelian law's right: a right group and elements of it. -/
import Derived.Test.YtdpdkojeapaflaaGreatDoorPk8
import Derived.Test.YtdpdkojeapaflaaGreatDoorPk6
import Derived.Test.YtdpdkojeapaflaaGreatDoorPk7
namespace Go.Proofs.YtdpdkojeapaflaaGreatDoor
set_option maxRecDepth 100000

/-- The numbers of an element. -/
structure El (zs us : List Int) : Prop where
  len : us.length = zs.length
  get : ∀ i, i < zs.length → 0 ≤ us.getD i 0 ∧ us.getD i 0 < zs.getD i 0
theorem mapI_congr {n : Nat} {f g : Nat → Int} (h : ∀ i, i < n → f i = g i) : mapI n f = mapI n g := by
  unfold mapI
  exact List.map_congr_left fun i hi => h i (by simpa using hi)
theorem mapI_getD (n : Nat) (f : Nat → Int) (i : Nat) (h : i < n) : (mapI n f).getD i 0 = f i := by
  rw [getD_at _ _ (by rw [mapI_len]; exact h), mapI_get]
theorem mapI_self (us : List Int) : mapI us.length (fun i => us.getD i 0) = us := by
  refine List.ext_getElem (mapI_len _ _) fun i h1 h2 => ?_
  rw [mapI_get, getD_at _ _ h2]
theorem fm {x n : Int} (h : 2 ≤ n) : Int.fmod x n = x % n := Int.fmod_eq_emod_of_nonneg _ (by omega)
theorem fm_bd (x : Int) {n : Int} (h : 2 ≤ n) : 0 ≤ Int.fmod x n ∧ Int.fmod x n < n := by
  rw [fm h]; exact ⟨Int.emod_nonneg _ (by omega), Int.emod_lt_of_pos _ (by omega)⟩
theorem two_at {zs : List Int} (h2 : ∀ z ∈ zs, 2 ≤ z) {i : Nat} (hi : i < zs.length) : 2 ≤ zs.getD i 0 := by
  rw [getD_at _ _ hi]; exact h2 _ (List.getElem_mem hi)
theorem El.mapI {zs : List Int} (h2 : ∀ z ∈ zs, 2 ≤ z) (f : Nat → Int) : El zs (mapI zs.length fun i => Int.fmod (f i) (zs.getD i 0)) :=
  ⟨mapI_len _ _, fun i hi => by rw [mapI_getD _ _ _ hi]; exact fm_bd _ (two_at h2 hi)⟩
theorem El.plus {zs : List Int} (h2 : ∀ z ∈ zs, 2 ≤ z) (us vs : List Int) : El zs (plusL zs us vs) := El.mapI h2 _
theorem El.mult {zs : List Int} (h2 : ∀ z ∈ zs, 2 ≤ z) (K : Int) (us : List Int) : El zs (multL zs K us) := El.mapI h2 _
theorem El.red {zs : List Int} (h2 : ∀ z ∈ zs, 2 ≤ z) (us : List Int) : El zs (redL zs us) := El.mapI h2 _
theorem plusL_comm (zs us vs : List Int) : plusL zs us vs = plusL zs vs us := mapI_congr fun i _ => by rw [Int.add_comm]
theorem plusL_assoc {zs : List Int} (h2 : ∀ z ∈ zs, 2 ≤ z) (us vs ws : List Int) : plusL zs (plusL zs us vs) ws = plusL zs us (plusL zs vs ws) := by
  refine mapI_congr fun i hi => ?_
  simp only [plusL]
  rw [mapI_getD _ _ _ hi, mapI_getD _ _ _ hi]
  have h := two_at h2 hi
  rw [fm h, fm h, fm h, fm h, Int.emod_add_emod, Int.add_emod_emod, Int.add_assoc]
theorem plusL_neg {zs : List Int} (h2 : ∀ z ∈ zs, 2 ≤ z) (us vs : List Int) (hv : El zs vs) : plusL zs (plusL zs us vs) (multL zs (-1) us) = vs := by
  have e := mapI_self vs
  rw [hv.len] at e
  refine Eq.trans ?_ e
  refine mapI_congr fun i hi => ?_
  simp only [plusL, multL]
  rw [mapI_getD _ _ _ hi, mapI_getD _ _ _ hi]
  have h := two_at h2 hi
  have hb := hv.get i hi
  rw [fm h, fm h, fm h, Int.emod_add_emod, Int.add_emod_emod, show us.getD i 0 + vs.getD i 0 + -1 * us.getD i 0 = vs.getD i 0 by omega]
  exact Int.emod_eq_of_lt hb.1 hb.2
theorem multL_plus {zs : List Int} (h2 : ∀ z ∈ zs, 2 ≤ z) (K : Int) (us vs : List Int) : multL zs K (plusL zs us vs) = plusL zs (multL zs K us) (multL zs K vs) := by
  refine mapI_congr fun i hi => ?_
  simp only [plusL, multL]
  rw [mapI_getD _ _ _ hi, mapI_getD _ _ _ hi, mapI_getD _ _ _ hi]
  have h := two_at h2 hi
  rw [fm h, fm h, fm h, fm h, fm h, Int.emod_add_emod, Int.add_emod_emod, Int.mul_emod, Int.emod_emod, ← Int.mul_emod, Int.mul_add]
theorem redL_plus {zs : List Int} (h2 : ∀ z ∈ zs, 2 ≤ z) (us vs : List Int) : redL zs (mapI zs.length fun i => us.getD i 0 + vs.getD i 0) = plusL zs (redL zs us) (redL zs vs) := by
  refine mapI_congr fun i hi => ?_
  simp only [redL]
  rw [mapI_getD _ _ _ hi, mapI_getD _ _ _ hi, mapI_getD _ _ _ hi]
  have h := two_at h2 hi
  rw [fm h, fm h, fm h, fm h, Int.emod_add_emod, Int.add_emod_emod]

theorem mstep_el : ∀ (g : List ByteArray) (zs us : List Int), Goods g zs → us.length = zs.length → (∀ i (h : i < zs.length) (h' : i < us.length), 0 ≤ us[i] ∧ us[i] < zs[i]) → mstep g (us.map txt) = 0 ∧ Goods (us.map txt) us
  | [], [], [], _, _, _ => ⟨rfl, trivial⟩
  | s :: g, z :: zs, u :: us, hg, hl, h => by
    have h0 := h 0 (by simp) (by simp)
    simp at h0
    have hu : big u = false := (big_iff u).2 (by have := (big_iff z).1 hg.1.2; omega)
    have hG : Good (txt u) u := ⟨rfl, hu⟩
    obtain ⟨h1, h2⟩ := mstep_el g zs us hg.2 (by simpa using hl) (fun i hi hi' => h (i + 1) (by simpa using hi) (by simpa using hi'))
    refine ⟨?_, hG, h2⟩
    rw [List.map_cons, mstep, if_pos hG.chk, if_neg (by rw [hG.num, hg.1.num]; omega), h1]
  | [], _ :: _, _, h, _, _ => h.elim
  | _ :: _, [], _, h, _, _ => h.elim
  | [], [], _ :: _, _, h, _ => by simp at h
  | _ :: _, _ :: _, [], _, h, _ => by simp at h
theorem mchk_el {g : List ByteArray} (hg : gchk g = 0) {us : List Int} (hu : El (nums g) us) : mchk g (us.map txt) = 0 ∧ Goods (us.map txt) us ∧ nums (us.map txt) = us := by
  obtain ⟨zs, hG⟩ := grp_of hg
  have e := nums_of hG.good
  rw [e] at hu
  obtain ⟨h1, h2⟩ := mstep_el g zs us hG.good hu.len fun i h h' => by have := hu.get i h; rw [getD_at _ _ h, getD_at _ _ h'] at this; exact this
  refine ⟨?_, h2, nums_of h2⟩
  unfold mchk
  rw [if_pos (by rw [List.length_map, hu.len, hG.good.len]), h1]
theorem el_of {g a : List ByteArray} (hg : gchk g = 0) (hm : mchk g a = 0) : El (nums g) (nums a) ∧ a = (nums a).map txt := by
  obtain ⟨hl, h⟩ := at_place hg hm
  refine ⟨⟨by rw [nums_len, nums_len, hl], fun i hi => ?_⟩, ?_⟩
  · rw [nums_len] at hi
    have := h i hi (by omega)
    exact ⟨this.2.2.2.2.2.1, this.2.2.2.2.2.2⟩
  · refine List.ext_getElem (by rw [List.length_map, nums_len]) fun i h1 h2 => ?_
    have := (h i (by omega) h1).2.1
    rw [this, List.getElem_map, getD_at _ _ (by rw [nums_len]; exact h1)]
theorem nums_two {g : List ByteArray} (hg : gchk g = 0) : ∀ z ∈ nums g, 2 ≤ z := by
  obtain ⟨zs, hG⟩ := grp_of hg
  rw [nums_of hG.good]; exact hG.two
theorem addS_el {g : List ByteArray} (hg : gchk g = 0) {us vs : List Int} (hu : El (nums g) us) (hv : El (nums g) vs) : addS g (us.map txt) (vs.map txt) = ((plusL (nums g) us vs).map txt, 0) := by
  unfold addS
  rw [if_pos hg, if_pos (mchk_el hg hu).1, if_pos (mchk_el hg hv).1, (mchk_el hg hu).2.2, (mchk_el hg hv).2.2]
theorem negS_el {g : List ByteArray} (hg : gchk g = 0) {us : List Int} (hu : El (nums g) us) : negS g (us.map txt) = ((multL (nums g) (-1) us).map txt, 0) := by
  unfold negS
  rw [if_pos hg, if_pos (mchk_el hg hu).1, (mchk_el hg hu).2.2]
theorem timesS_el {g : List ByteArray} (hg : gchk g = 0) {k : ByteArray} (hk : chk k.data.toList = 0) {us : List Int} (hu : El (nums g) us) : timesS g k (us.map txt) = ((multL (nums g) (num k) us).map txt, 0) := by
  unfold timesS
  rw [if_pos hg, if_pos hk, if_pos (mchk_el hg hu).1, (mchk_el hg hu).2.2]
theorem goods_size : ∀ {xs : List ByteArray} {zs : List Int}, Goods xs zs → ∀ s ∈ xs, s.size ≤ 1000000
  | [], [], _, _, h => by simp at h
  | x :: l, z :: zs, h, s, hs => by
    rcases List.mem_cons.1 hs with rfl | hs
    · have := h.1.size; omega
    · exact goods_size h.2 s hs
  | [], _ :: _, h, _, _ => h.elim
  | _ :: _, [], h, _, _ => h.elim
theorem el_size {g : List ByteArray} (hg : gchk g = 0) {us : List Int} (hu : El (nums g) us) : ∀ s ∈ us.map txt, s.size ≤ 1000000 := goods_size (mchk_el hg hu).2.1
end Go.Proofs.YtdpdkojeapaflaaGreatDoor

namespace Go.Proofs.YtdpdkojeapaflaaGreatDoor
open Go.RowKit
set_option maxRecDepth 100000

theorem Lst.three (w : World) (v u t : Value) (xs ys zs : List ByteArray) (hv : Sl eS w v xs) (hu : Sl eS w u ys) (ht : Sl eS w t zs) (e : TypeId) : Lst (w.alloc (.cells #[v, u, t] e)) (.slice (some ⟨w.heap.size, 0, none⟩) 3 3) [v, u, t] [xs, ys, zs] := by
  have hb : Below w.heap.size w (w.alloc (.cells #[v, u, t] e)) := (Below.refl _ w).alloc (Nat.le_refl _) _
  refine ⟨Sl.ofOwns (n := 3) (base := 0) (e := e) ⟨rfl, .inr ⟨w.heap.size, 3, #[v, u, t], rfl, by omega, heap_alloc_new w _, by omega, by simp [maxLen], rfl, rfl⟩⟩, rfl, fun i h1 h2 => ?_⟩
  match i, h1 with
  | 0, _ => exact hv.below hb (Nat.le_refl _)
  | 1, _ => exact hu.below hb (Nat.le_refl _)
  | 2, _ => exact ht.below hb (Nat.le_refl _)
theorem rSame_self (w : World) (v u : Value) (xs : List ByteArray) (hv : Sl eS w v xs) (hu : Sl eS w u xs) :
    Calls Tryz.prog 28 #[v, u] w (Rets fun r w' => r = .bool true ∧ Below w.heap.size w w') := by
  have := rSame_any w v u xs xs hv hu
  rwa [decide_eq_true rfl] at this

set_option maxHeartbeats 8000000 in
theorem sums05_any (w : World) (v : Value) (g : List ByteArray) (hv : Sl eS w v g) (A B : Value) (K : ByteArray) (a b : List ByteArray) (hA : Sl eS w A a) (hB : Sl eS w B b) (hsg : ∀ s ∈ g, s.size ≤ 9223372036854775807) (hsa : ∀ s ∈ a, s.size ≤ 9223372036854775807) (hsb : ∀ s ∈ b, s.size ≤ 9223372036854775807) (hsk : K.size ≤ 9223372036854775807) (he : Env w) :
    Calls Tryz.prog 7 #[v, .agg #[A, B, .string K]] w (Rets fun v w' => v = .bool true ∧ Below w.heap.size w w') := by
  obtain ⟨ad, b1, o1, c1, rfl, -, -, -, -⟩ := hv.open elemStr
  obtain ⟨adA, b2, o2, c2, rfl, -, -, -, -⟩ := hA.open elemStr
  obtain ⟨adB, b3, o3, c3, rfl, -, -, -, -⟩ := hB.open elemStr
  have q0 : Below w.heap.size w (w.alloc (.cells #[.slice adA a.length c2, .slice adB b.length c3, .string K] 53)) := (Below.refl _ w).alloc (Nat.le_refl _) _
  have KB := Lib.hid (Blk.new w [.slice adA a.length c2, .slice adB b.length c3, .string K] 53)
  have HV := Lib.hid (hv.below q0 (Nat.le_refl _)); have HA := Lib.hid (hA.below q0 (Nat.le_refl _)); have HB := Lib.hid (hB.below q0 (Nat.le_refl _)); have HE := Lib.hid (he.below q0 (Nat.le_refl _))
  have HSG := Lib.hid hsg
  have HSA := Lib.hid (show ∀ xs ∈ [a, b, [K]], ∀ s ∈ xs, s.size ≤ 9223372036854775807 from fun xs hx s hs => by
    simp at hx
    rcases hx with rfl | rfl | rfl
    · exact hsa s hs
    · exact hsb s hs
    · rw [List.mem_singleton.1 hs]; exact hsk)
  clear hv hA hB he hsg hsa hsb hsk
  cases hf : few05 g
  · have HF := Lib.hid hf
    clear hf
    go_enter Tryz.func7, Tryz.ntmps7
    go_wp2_with (first
      | (go_at_call 11; (with_reducible refine (Few05_any _ _ g HV.out HSG.out).mono ?_); rintro e w1 ⟨v, rfl, rfl, rfl⟩; rw [HF.out])
      | (go_at_call 16; (with_reducible refine (awake05 _ HE.out).mono ?_); rintro e w2 ⟨v, rfl, rfl, hb2⟩))
    go_ret
    exact ⟨_, rfl, rfl, q0.trans (hb2.mono q0.size)⟩
  · have HF := Lib.hid hf
    have hc0 := KB.out.cell 0 _ rfl; have hc1 := KB.out.cell 1 _ rfl; have hc2 := KB.out.cell 2 _ rfl
    obtain ⟨W, hW⟩ : ∃ W, w.alloc (.cells #[.slice adA a.length c2, .slice adB b.length c3, .string K] 53) = W := ⟨_, rfl⟩
    have hlst := Lst.three (W.alloc (.cells #[.string K] 27)) _ _ _ a b [K] ((hW ▸ HA.out).below ((Below.refl W.heap.size W).alloc (Nat.le_refl _) _) (Nat.le_refl _)) ((hW ▸ HB.out).below ((Below.refl W.heap.size W).alloc (Nat.le_refl _) _) (Nat.le_refl _)) (Sl.single W K _ rfl 27) 22
    have HQ := Lib.hid (fun e e' (x : Value) => ((Below.refl W.heap.size W).alloc (Nat.le_refl _) (.cells #[.string K] e)).alloc (by simp) (.cells #[.slice adA a.length c2, .slice adB b.length c3, x] e'))
    subst hW
    have hsz1 : (w.alloc (.cells #[.slice adA a.length c2, .slice adB b.length c3, .string K] 53)).heap.size = w.heap.size + 1 := by simp
    have hsz2 : ((w.alloc (.cells #[.slice adA a.length c2, .slice adB b.length c3, .string K] 53)).alloc (.cells #[.string K] 27)).heap.size = w.heap.size + 1 + 1 := by simp
    rw [hsz1, hsz2] at hlst
    have HLst := Lib.hid hlst
    clear hlst hsz1 hsz2
    cases hbad : (!([a, b, [K]].any bad))
    · have HBD := Lib.hid hbad
      clear hf hbad
      go_enter Tryz.func7, Tryz.ntmps7
      go_wp2_with (first
        | (go_at_call 11; (with_reducible refine (Few05_any _ _ g HV.out HSG.out).mono ?_); rintro e w1 ⟨v, rfl, rfl, rfl⟩; rw [HF.out])
        | (go_at_call 12; (with_reducible refine (fewL _ _ _ [a, b, [K]] (HLst.out) HSA.out).mono ?_); rintro e w1 ⟨v, rfl, rfl, rfl⟩; rw [HBD.out]; have p1 := HQ.out 27 22 (.slice (some ⟨w.heap.size + 1, 0, none⟩) 1 1))
        | (go_at_call 16; (with_reducible refine (awake05 _ (HE.out.below (HQ.out _ _ _) (Nat.le_refl _))).mono ?_); rintro e w2 ⟨v, rfl, rfl, hb2⟩))
      go_ret
      exact ⟨_, rfl, rfl, (q0.trans ((HQ.out _ _ _).mono q0.size)).trans (hb2.mono (by have := (q0.trans ((HQ.out 27 22 (.slice (some ⟨w.heap.size + 1, 0, none⟩) 1 1)).mono q0.size)).size; simpa using this))⟩
    · have HBD := Lib.hid hbad
      have hb3 : bad a = false ∧ bad b = false ∧ bad [K] = false := by simpa using hbad
      obtain ⟨ba, bb, bk⟩ := hb3
      have HSGG := Lib.hid (few05_size hf)
      have HDN := Lib.hid (show gchk g = 0 → ∀ s ∈ g, ∀ z, Good s z → dn z ≤ 500 from fun hg s hs z hz => by have := few05_dn hf (gchk_len hg).1 hs hz; omega)
      have SA := Lib.hid (bad_size ba); have SB := Lib.hid (bad_size bb)
      have SK := Lib.hid (bad_size bk K (by simp))
      clear hf hbad ba bb bk
      go_enter Tryz.func7, Tryz.ntmps7
      go_wp2_with (first
        | (go_at_call 16; (with_reducible refine (awake05 _ HE.out).mono ?_); rintro e w14 ⟨v, rfl, rfl, h14⟩; have HV := Lib.hid (HV.out.below h14 (Nat.le_refl _)); have HA := Lib.hid (HA.out.below h14 (Nat.le_refl _)); have HB := Lib.hid (HB.out.below h14 (Nat.le_refl _)); have HE := Lib.hid (HE.out.below h14 (Nat.le_refl _)); have F1 := Lib.hid (F1.out.below h14 (Nat.le_refl _)); have F2 := Lib.hid (F2.out.below h14 (Nat.le_refl _)); have F3 := Lib.hid (F3.out.below h14 (Nat.le_refl _)); have F4 := Lib.hid (F4.out.below h14 (Nat.le_refl _)); have F5 := Lib.hid (F5.out.below h14 (Nat.le_refl _)); have F6 := Lib.hid (F6.out.below h14 (Nat.le_refl _)); have q14 := q13.trans (h14.mono q13.size))
        | (go_at_call 28; (with_reducible refine (rSame_self _ _ _ _ F5.out F6.out).mono ?_); rintro e w13 ⟨v, rfl, rfl, h13⟩; have HV := Lib.hid (HV.out.below h13 (Nat.le_refl _)); have HA := Lib.hid (HA.out.below h13 (Nat.le_refl _)); have HB := Lib.hid (HB.out.below h13 (Nat.le_refl _)); have HE := Lib.hid (HE.out.below h13 (Nat.le_refl _)); have F1 := Lib.hid (F1.out.below h13 (Nat.le_refl _)); have F2 := Lib.hid (F2.out.below h13 (Nat.le_refl _)); have F3 := Lib.hid (F3.out.below h13 (Nat.le_refl _)); have F4 := Lib.hid (F4.out.below h13 (Nat.le_refl _)); have F5 := Lib.hid (F5.out.below h13 (Nat.le_refl _)); have F6 := Lib.hid (F6.out.below h13 (Nat.le_refl _)); have q13 := q12.trans (h13.mono q12.size))
        | (go_at_call 28; (with_reducible refine (rSame_self _ _ _ _ F3.out F4.out).mono ?_); rintro e w12 ⟨v, rfl, rfl, h12⟩; have HV := Lib.hid (HV.out.below h12 (Nat.le_refl _)); have HA := Lib.hid (HA.out.below h12 (Nat.le_refl _)); have HB := Lib.hid (HB.out.below h12 (Nat.le_refl _)); have HE := Lib.hid (HE.out.below h12 (Nat.le_refl _)); have F1 := Lib.hid (F1.out.below h12 (Nat.le_refl _)); have F2 := Lib.hid (F2.out.below h12 (Nat.le_refl _)); have F3 := Lib.hid (F3.out.below h12 (Nat.le_refl _)); have F4 := Lib.hid (F4.out.below h12 (Nat.le_refl _)); have F5 := Lib.hid (F5.out.below h12 (Nat.le_refl _)); have F6 := Lib.hid (F6.out.below h12 (Nat.le_refl _)); have q12 := q11.trans (h12.mono q11.size))
        | (go_at_call 28; (with_reducible refine (rSame_self _ _ _ _ F1.out F2.out).mono ?_); rintro e w11 ⟨v, rfl, rfl, h11⟩; have HV := Lib.hid (HV.out.below h11 (Nat.le_refl _)); have HA := Lib.hid (HA.out.below h11 (Nat.le_refl _)); have HB := Lib.hid (HB.out.below h11 (Nat.le_refl _)); have HE := Lib.hid (HE.out.below h11 (Nat.le_refl _)); have F1 := Lib.hid (F1.out.below h11 (Nat.le_refl _)); have F2 := Lib.hid (F2.out.below h11 (Nat.le_refl _)); have F3 := Lib.hid (F3.out.below h11 (Nat.le_refl _)); have F4 := Lib.hid (F4.out.below h11 (Nat.le_refl _)); have F5 := Lib.hid (F5.out.below h11 (Nat.le_refl _)); have F6 := Lib.hid (F6.out.below h11 (Nat.le_refl _)); have q11 := q10.trans (h11.mono q10.size))
        | (go_at_call 44; (with_reducible refine (rACount_any _ _ g K HV.out HSGG.out SK.out HDN.out).mono ?_); rintro e w10 ⟨v, rfl, rfl, h10⟩; have HV := Lib.hid (HV.out.below h10 (Nat.le_refl _)); have HA := Lib.hid (HA.out.below h10 (Nat.le_refl _)); have HB := Lib.hid (HB.out.below h10 (Nat.le_refl _)); have HE := Lib.hid (HE.out.below h10 (Nat.le_refl _)); have F1 := Lib.hid (F1.out.below h10 (Nat.le_refl _)); have F2 := Lib.hid (F2.out.below h10 (Nat.le_refl _)); have F3 := Lib.hid (F3.out.below h10 (Nat.le_refl _)); have F4 := Lib.hid (F4.out.below h10 (Nat.le_refl _)); have F5 := Lib.hid (F5.out.below h10 (Nat.le_refl _)); have F6 := Lib.hid (F6.out.below h10 (Nat.le_refl _)); have KB := Lib.hid (KB.out.below h10 (Nat.le_refl _)); have c10_0 := KB.out.cell 0 _ rfl; have c10_1 := KB.out.cell 1 _ rfl; have c10_2 := KB.out.cell 2 _ rfl; have q10 := q9.trans (h10.mono q9.size))
        | (go_at_call 43; (with_reducible refine (ACount_any _ _ g K HV.out HSGG.out SK.out HE.out).mono ?_); rintro e w9 ⟨v, rfl, rfl, h9⟩; have HV := Lib.hid (HV.out.below h9 (Nat.le_refl _)); have HA := Lib.hid (HA.out.below h9 (Nat.le_refl _)); have HB := Lib.hid (HB.out.below h9 (Nat.le_refl _)); have HE := Lib.hid (HE.out.below h9 (Nat.le_refl _)); have F1 := Lib.hid (F1.out.below h9 (Nat.le_refl _)); have F2 := Lib.hid (F2.out.below h9 (Nat.le_refl _)); have F3 := Lib.hid (F3.out.below h9 (Nat.le_refl _)); have F4 := Lib.hid (F4.out.below h9 (Nat.le_refl _)); have F5 := Lib.hid (F5.out.below h9 (Nat.le_refl _)); have F6 := Lib.hid (F6.out.below h9 (Nat.le_refl _)); have KB := Lib.hid (KB.out.below h9 (Nat.le_refl _)); have c9_0 := KB.out.cell 0 _ rfl; have c9_1 := KB.out.cell 1 _ rfl; have c9_2 := KB.out.cell 2 _ rfl; have q9 := q8.trans (h9.mono q8.size))
        | (go_at_call 42; (with_reducible refine (rATimes_any _ _ _ K g a HV.out HA.out HSGG.out SA.out SK.out HDN.out).mono ?_); rintro e w8 ⟨v, rfl, x8, rfl, s8, h8⟩; have F6 := Lib.hid s8; clear s8; have HV := Lib.hid (HV.out.below h8 (Nat.le_refl _)); have HA := Lib.hid (HA.out.below h8 (Nat.le_refl _)); have HB := Lib.hid (HB.out.below h8 (Nat.le_refl _)); have HE := Lib.hid (HE.out.below h8 (Nat.le_refl _)); have F1 := Lib.hid (F1.out.below h8 (Nat.le_refl _)); have F2 := Lib.hid (F2.out.below h8 (Nat.le_refl _)); have F3 := Lib.hid (F3.out.below h8 (Nat.le_refl _)); have F4 := Lib.hid (F4.out.below h8 (Nat.le_refl _)); have F5 := Lib.hid (F5.out.below h8 (Nat.le_refl _)); have KB := Lib.hid (KB.out.below h8 (Nat.le_refl _)); have c8_0 := KB.out.cell 0 _ rfl; have c8_1 := KB.out.cell 1 _ rfl; have c8_2 := KB.out.cell 2 _ rfl; have q8 := q7.trans (h8.mono q7.size))
        | (go_at_call 35; (with_reducible refine (ATimes_any _ _ _ K g a HV.out HA.out HSGG.out SA.out SK.out HDN.out HE.out).mono ?_); rintro e w7 ⟨v, rfl, x7, rfl, s7, h7⟩; have F5 := Lib.hid s7; clear s7; have HV := Lib.hid (HV.out.below h7 (Nat.le_refl _)); have HA := Lib.hid (HA.out.below h7 (Nat.le_refl _)); have HB := Lib.hid (HB.out.below h7 (Nat.le_refl _)); have HE := Lib.hid (HE.out.below h7 (Nat.le_refl _)); have F1 := Lib.hid (F1.out.below h7 (Nat.le_refl _)); have F2 := Lib.hid (F2.out.below h7 (Nat.le_refl _)); have F3 := Lib.hid (F3.out.below h7 (Nat.le_refl _)); have F4 := Lib.hid (F4.out.below h7 (Nat.le_refl _)); have KB := Lib.hid (KB.out.below h7 (Nat.le_refl _)); have c7_0 := KB.out.cell 0 _ rfl; have c7_1 := KB.out.cell 1 _ rfl; have c7_2 := KB.out.cell 2 _ rfl; have q7 := q6.trans (h7.mono q6.size))
        | (go_at_call 41; (with_reducible refine (rANeg_any _ _ _ g a HV.out HA.out HSGG.out SA.out HDN.out).mono ?_); rintro e w6 ⟨v, rfl, x6, rfl, s6, h6⟩; have F4 := Lib.hid s6; clear s6; have HV := Lib.hid (HV.out.below h6 (Nat.le_refl _)); have HA := Lib.hid (HA.out.below h6 (Nat.le_refl _)); have HB := Lib.hid (HB.out.below h6 (Nat.le_refl _)); have HE := Lib.hid (HE.out.below h6 (Nat.le_refl _)); have F1 := Lib.hid (F1.out.below h6 (Nat.le_refl _)); have F2 := Lib.hid (F2.out.below h6 (Nat.le_refl _)); have F3 := Lib.hid (F3.out.below h6 (Nat.le_refl _)); have KB := Lib.hid (KB.out.below h6 (Nat.le_refl _)); have c6_0 := KB.out.cell 0 _ rfl; have c6_1 := KB.out.cell 1 _ rfl; have c6_2 := KB.out.cell 2 _ rfl; have q6 := q5.trans (h6.mono q5.size))
        | (go_at_call 40; (with_reducible refine (ANeg_any _ _ _ g a HV.out HA.out HSGG.out SA.out HE.out).mono ?_); rintro e w5 ⟨v, rfl, x5, rfl, s5, h5⟩; have F3 := Lib.hid s5; clear s5; have HV := Lib.hid (HV.out.below h5 (Nat.le_refl _)); have HA := Lib.hid (HA.out.below h5 (Nat.le_refl _)); have HB := Lib.hid (HB.out.below h5 (Nat.le_refl _)); have HE := Lib.hid (HE.out.below h5 (Nat.le_refl _)); have F1 := Lib.hid (F1.out.below h5 (Nat.le_refl _)); have F2 := Lib.hid (F2.out.below h5 (Nat.le_refl _)); have KB := Lib.hid (KB.out.below h5 (Nat.le_refl _)); have c5_0 := KB.out.cell 0 _ rfl; have c5_1 := KB.out.cell 1 _ rfl; have c5_2 := KB.out.cell 2 _ rfl; have q5 := q4.trans (h5.mono q4.size))
        | (go_at_call 39; (with_reducible refine (rAAdd_any _ _ _ _ g a b HV.out HA.out HB.out HSGG.out SA.out SB.out HDN.out).mono ?_); rintro e w4 ⟨v, rfl, x4, rfl, s4, h4⟩; have F2 := Lib.hid s4; clear s4; have HV := Lib.hid (HV.out.below h4 (Nat.le_refl _)); have HA := Lib.hid (HA.out.below h4 (Nat.le_refl _)); have HB := Lib.hid (HB.out.below h4 (Nat.le_refl _)); have HE := Lib.hid (HE.out.below h4 (Nat.le_refl _)); have F1 := Lib.hid (F1.out.below h4 (Nat.le_refl _)); have KB := Lib.hid (KB.out.below h4 (Nat.le_refl _)); have c4_0 := KB.out.cell 0 _ rfl; have c4_1 := KB.out.cell 1 _ rfl; have c4_2 := KB.out.cell 2 _ rfl; have q4 := q3.trans (h4.mono q3.size))
        | (go_at_call 32; (with_reducible refine (AAdd_any _ _ _ _ g a b HV.out HA.out HB.out HSGG.out SA.out SB.out HE.out).mono ?_); rintro e w3 ⟨v, rfl, x3, rfl, s3, h3⟩; have F1 := Lib.hid s3; clear s3; have HV := Lib.hid (HV.out.below h3 (Nat.le_refl _)); have HA := Lib.hid (HA.out.below h3 (Nat.le_refl _)); have HB := Lib.hid (HB.out.below h3 (Nat.le_refl _)); have HE := Lib.hid (HE.out.below h3 (Nat.le_refl _)); have KB := Lib.hid (KB.out.below h3 (Nat.le_refl _)); have c3_0 := KB.out.cell 0 _ rfl; have c3_1 := KB.out.cell 1 _ rfl; have c3_2 := KB.out.cell 2 _ rfl; have q3 := q2.trans (h3.mono q2.size))
        | (go_at_call 12; (with_reducible refine (fewL _ _ _ [a, b, [K]] (HLst.out) HSA.out).mono ?_); rintro e w' ⟨v, rfl, rfl, rfl⟩; rw [HBD.out]; have h2 := HQ.out 27 22 (.slice (some ⟨w.heap.size + 1, 0, none⟩) 1 1); have HV := Lib.hid (HV.out.below h2 (Nat.le_refl _)); have HA := Lib.hid (HA.out.below h2 (Nat.le_refl _)); have HB := Lib.hid (HB.out.below h2 (Nat.le_refl _)); have HE := Lib.hid (HE.out.below h2 (Nat.le_refl _)); have KB := Lib.hid (KB.out.below h2 (Nat.le_refl _)); have c2_0 := KB.out.cell 0 _ rfl; have c2_1 := KB.out.cell 1 _ rfl; have c2_2 := KB.out.cell 2 _ rfl; have q2 := q1.trans (h2.mono q1.size))
        | (go_at_call 11; (with_reducible refine (Few05_any _ _ g HV.out HSG.out).mono ?_); rintro e w' ⟨v, rfl, rfl, rfl⟩; rw [HF.out]; have q1 := q0))
      go_ret
      exact ⟨_, rfl, rfl, q14⟩
end Go.Proofs.YtdpdkojeapaflaaGreatDoor

namespace Go.Proofs.YtdpdkojeapaflaaGreatDoor
open Go.RowKit
set_option maxRecDepth 100000

/-- Is a list no element of a group? -/
def out5 (g a : List ByteArray) : Bool := mchk g a != 0
set_option maxHeartbeats 400000 in
theorem right1 (w : World) (u : Value) (bx c : Nat) (ad : Option Addr) (g a : List ByteArray) (zs : List Int) (hk : Blk w bx [.slice ad g.length c] 22) (hv : Sl eS w (.slice ad g.length c) g) (hu : Sl eS w u a) (hz : Goods g zs) (hl : g.length ≤ 16) (hsz : ∀ s ∈ a, s.size ≤ 9223372036854775807) :
    Calls Tryz.prog 80 #[u, .pointer (some ⟨bx, 0, none⟩)] w (Rets fun v w' => v = .bool (out5 g a) ∧ Below w.heap.size w w') := by
  have hcell := hk.cell 0 _ rfl
  have HV := Lib.hid hv; have HU := Lib.hid hu; have HZ := Lib.hid hz; have HSZ := Lib.hid hsz
  obtain ⟨ad', b', o', c', rfl, -, -, -, -⟩ := hu.open elemStr
  obtain ⟨q, hq⟩ : ∃ q, out5 g a = q := ⟨_, rfl⟩
  have HQ := Lib.hid hq
  have hq2 : (mchk g a != 0) = q := hq
  obtain ⟨m, hm⟩ : ∃ m, mchk g a = m := ⟨_, rfl⟩
  have HM := Lib.hid hm
  rw [hm] at hq2
  clear hv hu hz hsz hk hq hm
  go_enter Tryz.func80, Tryz.ntmps80
  go_wp2_with (go_at_call 68; (with_reducible refine (In_big _ _ _ g a zs HV.out HU.out HZ.out hl (fun _ => HSZ.out)).mono ?_); rintro e w1 ⟨v, rfl, rfl, hb1⟩; rw [HM.out])
  go_ret
  exact ⟨_, rfl, by rw [HQ.out]; first | rfl | exact congrArg Value.bool hq2, hb1⟩
theorem Lst.len2 {w : World} {v : Value} {vs : List Value} {xss : List (List ByteArray)} (h : Lst w v vs xss) : vs.length ≤ maxLen := by
  obtain ⟨a, b, o, c, rfl, _, h1, h2, _⟩ := h.sl; omega
set_option maxHeartbeats 1000000 in
theorem idxR_none (w : World) (v : Value) (vs : List Value) (xss : List (List ByteArray)) (bx c : Nat) (ad : Option Addr) (g : List ByteArray) (zs : List Int) (hk : Blk w bx [.slice ad g.length c] 22) (hvg : Sl eS w (.slice ad g.length c) g) (hz : Goods g zs) (hl : g.length ≤ 16) (hv : Lst w v vs xss) (hsz : ∀ xs ∈ xss, ∀ s ∈ xs, s.size ≤ 9223372036854775807) (h : ∀ xs ∈ xss, out5 g xs = false) :
    Calls Tryz.prog 111 #[v, .func (.func 80) #[] #[.pointer (some ⟨bx, 0, none⟩)]] w (Rets fun v w' => v = .int .i64 (-1) ∧ Below w.heap.size w w') := by
  obtain ⟨a, b, o, cc, rfl, hi, hp, hc, hm⟩ := hv.sl.open elemSl
  have H := Lib.hid h; have HG := Lib.hid hv.get; have HL := Lib.hid hv.len; have HSZ := Lib.hid hsz; have HK := Lib.hid hk; have HVG := Lib.hid hvg; have HZ := Lib.hid hz
  clear hv h hsz hk hvg hz
  unfold maxLen at hm
  go_enter Tryz.func111, Tryz.ntmps111
  go_wp2
  go_loopw [8] (fun i wr => ∃ k : Nat, k ≤ vs.length ∧ i = .int .i64 k ∧ Hid (Below w.heap.size w wr)) (fun i _ => vs.length - (intOf i).toNat)
  case atStart => exact ⟨0, Nat.zero_le _, rfl, Lib.hid (Below.refl _ _)⟩
  case round =>
    obtain ⟨k, hkk, rfl, hb⟩ := hrel
    by_cases hkn : k < vs.length
    · have h1 : wr.cell? ⟨b, o + k, none⟩ = some vs[k] := hp.at hb.out (Nat.le_refl _) k hkn
      have HKX := Lib.hid (show k < xss.length by rw [HL.out]; exact hkn)
      have HB := Lib.hid (H.out _ (List.getElem_mem HKX.out))
      go_wp2_with (go_at_call 80; (with_reducible refine (right1 _ vs[k] bx c ad g (xss[k]'HKX.out) zs (HK.out.below hb.out (Nat.le_refl _)) (HVG.out.below hb.out (Nat.le_refl _)) ((HG.out k hkn HKX.out).below hb.out (Nat.le_refl _)) HZ.out hl (HSZ.out _ (List.getElem_mem HKX.out))).mono ?_); rintro e w1 ⟨v, rfl, rfl, hb1⟩; rw [HB.out])
      go_roundw
      case rel => exact ⟨k + 1, by omega, by go_num, Lib.hid (hb.out.trans (hb1.mono hb.out.size))⟩
      case measure => simp [intOf]; omega
    · obtain rfl : k = vs.length := by omega
      go_wp2
      go_ret
      exact ⟨_, rfl, rfl, hb.out⟩
set_option maxHeartbeats 1000000 in
theorem idxR_some (w : World) (v : Value) (vs : List Value) (xss : List (List ByteArray)) (bx c : Nat) (ad : Option Addr) (g : List ByteArray) (zs : List Int) (hk : Blk w bx [.slice ad g.length c] 22) (hvg : Sl eS w (.slice ad g.length c) g) (hz : Goods g zs) (hl : g.length ≤ 16) (hv : Lst w v vs xss) (hsz : ∀ xs ∈ xss, ∀ s ∈ xs, s.size ≤ 9223372036854775807) (m : Nat) (hm : m < xss.length) (h : out5 g xss[m] = true) (h2 : ∀ j (hj : j < m), out5 g (xss[j]'(by omega)) = false) :
    Calls Tryz.prog 111 #[v, .func (.func 80) #[] #[.pointer (some ⟨bx, 0, none⟩)]] w (Rets fun v w' => v = .int .i64 m ∧ Below w.heap.size w w') := by
  obtain ⟨a, b, o, cc, rfl, hi, hp, hc, hcm⟩ := hv.sl.open elemSl
  have H := Lib.hid h; have H2 := Lib.hid h2; have HG := Lib.hid hv.get; have HL := Lib.hid hv.len; have HSZ := Lib.hid hsz; have HK := Lib.hid hk; have HVG := Lib.hid hvg; have HZ := Lib.hid hz
  have hmv : m < vs.length := by rw [← hv.len]; exact hm
  clear hv h h2 hsz hk hvg hz
  unfold maxLen at hcm
  go_enter Tryz.func111, Tryz.ntmps111
  go_wp2
  go_loopw [8] (fun i wr => ∃ k : Nat, k ≤ m ∧ i = .int .i64 k ∧ Hid (Below w.heap.size w wr)) (fun i _ => vs.length - (intOf i).toNat)
  case atStart => exact ⟨0, Nat.zero_le _, rfl, Lib.hid (Below.refl _ _)⟩
  case round =>
    obtain ⟨k, hkk, rfl, hb⟩ := hrel
    have hkn : k < vs.length := by omega
    have h1 : wr.cell? ⟨b, o + k, none⟩ = some vs[k] := hp.at hb.out (Nat.le_refl _) k hkn
    have HKX := Lib.hid (show k < xss.length by rw [HL.out]; exact hkn)
    by_cases hkm : k < m
    · have HB := Lib.hid (H2.out k hkm)
      go_wp2_with (go_at_call 80; (with_reducible refine (right1 _ vs[k] bx c ad g (xss[k]'HKX.out) zs (HK.out.below hb.out (Nat.le_refl _)) (HVG.out.below hb.out (Nat.le_refl _)) ((HG.out k hkn HKX.out).below hb.out (Nat.le_refl _)) HZ.out hl (HSZ.out _ (List.getElem_mem HKX.out))).mono ?_); rintro e w1 ⟨v, rfl, rfl, hb1⟩; rw [HB.out])
      go_roundw
      case rel => exact ⟨k + 1, by omega, by go_num, Lib.hid (hb.out.trans (hb1.mono hb.out.size))⟩
      case measure => simp [intOf]; omega
    · obtain rfl : k = m := by omega
      go_wp2_with (go_at_call 80; (with_reducible refine (right1 _ vs[k] bx c ad g (xss[k]'HKX.out) zs (HK.out.below hb.out (Nat.le_refl _)) (HVG.out.below hb.out (Nat.le_refl _)) ((HG.out k hkn HKX.out).below hb.out (Nat.le_refl _)) HZ.out hl (HSZ.out _ (List.getElem_mem HKX.out))).mono ?_); rintro e w1 ⟨v, rfl, rfl, hb1⟩; rw [H.out])
      go_ret
      exact ⟨_, rfl, rfl, hb.out.trans (hb1.mono hb.out.size)⟩
set_option maxHeartbeats 400000 in
theorem containsR (w : World) (v : Value) (vs : List Value) (xss : List (List ByteArray)) (bx c : Nat) (ad : Option Addr) (g : List ByteArray) (zs : List Int) (hk : Blk w bx [.slice ad g.length c] 22) (hvg : Sl eS w (.slice ad g.length c) g) (hz : Goods g zs) (hl : g.length ≤ 16) (hv : Lst w v vs xss) (hsz : ∀ xs ∈ xss, ∀ s ∈ xs, s.size ≤ 9223372036854775807) :
    Calls Tryz.prog 54 #[v, .func (.func 80) #[] #[.pointer (some ⟨bx, 0, none⟩)]] w (Rets fun v w' => v = .bool (xss.any (out5 g)) ∧ Below w.heap.size w w') := by
  have HV := Lib.hid hv; have HSZ := Lib.hid hsz; have HK := Lib.hid hk; have HVG := Lib.hid hvg; have HZ := Lib.hid hz
  obtain ⟨a, b, o, cc, rfl, -, -, -, -⟩ := hv.sl.open elemSl
  clear hv hsz hk hvg hz
  cases hf : xss.any (out5 g)
  · have H : Hid (∀ xs ∈ xss, out5 g xs = false) := Lib.hid (fun s hs => by
      have := List.any_eq_false.1 hf s hs
      simpa using this)
    clear hf
    go_enter Tryz.func54, Tryz.ntmps54
    go_wp2_with (go_at_call 111; (with_reducible refine (idxR_none _ _ vs xss bx c ad g zs HK.out HVG.out HZ.out hl HV.out HSZ.out H.out).mono ?_); rintro e w1 ⟨v, rfl, rfl, hb1⟩)
    go_ret
    exact ⟨_, rfl, rfl, hb1⟩
  · obtain ⟨m, hm, h1, h2⟩ := first_hitL (out5 g) xss hf
    have H1 := Lib.hid h1; have H2 := Lib.hid h2
    have hm0 : (0 : Int) ≤ (m : Int) := by omega
    clear hf h1 h2
    go_enter Tryz.func54, Tryz.ntmps54
    go_wp2_with (go_at_call 111; (with_reducible refine (idxR_some _ _ vs xss bx c ad g zs HK.out HVG.out HZ.out hl HV.out HSZ.out m hm H1.out H2.out).mono ?_); rintro e w1 ⟨v, rfl, rfl, hb1⟩)
    go_ret
    exact ⟨_, rfl, rfl, hb1⟩
/-- Is a group right and small, and are these lists elements of it? -/
def rightB (g : List ByteArray) (xss : List (List ByteArray)) : Bool := few05 g && (gchk g == 0) && !(xss.any (out5 g))
set_option maxHeartbeats 1000000 in
theorem right_any (w : World) (u v : Value) (vs : List Value) (g : List ByteArray) (xss : List (List ByteArray)) (hu : Sl eS w u g) (hv : Lst w v vs xss) (hsg : ∀ s ∈ g, s.size ≤ 9223372036854775807) (hsz : ∀ xs ∈ xss, ∀ s ∈ xs, s.size ≤ 9223372036854775807) :
    Calls Tryz.prog 29 #[u, v] w (Rets fun v w' => v = .bool (rightB g xss) ∧ Below w.heap.size w w') := by
  obtain ⟨ad, b, o, c, rfl, -, -, -, -⟩ := hu.open elemStr
  have q0 : Below w.heap.size w (w.alloc (.cells #[.slice ad g.length c] 22)) := (Below.refl _ w).alloc (Nat.le_refl _) _
  have hk := Blk.new w [.slice ad g.length c] 22
  have hc0 := hk.cell 0 _ rfl
  have HK := Lib.hid hk; have HU := Lib.hid (hu.below q0 (Nat.le_refl _)); have HV := Lib.hid (hv.below q0 (Nat.le_refl _)); have HSG := Lib.hid hsg; have HSZ := Lib.hid hsz
  obtain ⟨av, bv, ov, cv, rfl, -, -, -, -⟩ := hv.sl.open elemSl
  have hmf : ∀ (fn : Fn) (first cap : Array Value) (w : World), (Instr.makeFunc fn first cap).run Tryz.prog w = .ok (.func fn first cap) w := fun _ _ _ _ => rfl
  clear hu hv hsg hsz hk
  cases hf : few05 g
  · have HF := Lib.hid hf
    have HR := Lib.hid (show rightB g xss = false by simp [rightB, hf])
    clear hf
    go_enter Tryz.func29, Tryz.ntmps29
    go_wp2_with (go_at_call 11; (with_reducible refine (Few05_any _ _ g HU.out HSG.out).mono ?_); rintro e w1 ⟨v, rfl, rfl, rfl⟩; rw [HF.out])
    go_ret
    exact ⟨_, rfl, by rw [HR.out]; rfl, q0⟩
  · have HF := Lib.hid hf
    have HSS := Lib.hid (few05_size hf)
    by_cases hg : gchk g = 0
    · have HG := Lib.hid hg
      have hl16 := (gchk_len hg).1
      obtain ⟨zs, hG⟩ := grp_of hg
      have HZ := Lib.hid hG.good
      obtain ⟨q, hq⟩ : ∃ q, xss.any (out5 g) = q := ⟨_, rfl⟩
      have HR := Lib.hid (show rightB g xss = !q by simp [rightB, hf, hg, hq])
      have HQ := Lib.hid hq
      clear hf hg hG hq
      go_enter Tryz.func29, Tryz.ntmps29
      go_wp2_with (first
        | (go_at_call 11; (with_reducible refine (Few05_any _ _ g HU.out HSG.out).mono ?_); rintro e w1 ⟨v, rfl, rfl, rfl⟩; rw [HF.out])
        | (go_at_call 13; (with_reducible refine (rACheck_any _ _ g HU.out HSS.out).mono ?_); rintro e w2 ⟨v, rfl, rfl, hb2⟩; rw [HG.out])
        | (go_at_call 54; (with_reducible refine (containsR _ _ vs xss w.heap.size c ad g zs (HK.out.below hb2 (Nat.le_refl _)) (HU.out.below hb2 (Nat.le_refl _)) HZ.out hl16 (HV.out.below hb2 (Nat.le_refl _)) HSZ.out).mono ?_); rintro e w3 ⟨v, rfl, rfl, hb3⟩; rw [HQ.out]; have b3 := q0.trans ((hb2.trans (hb3.mono hb2.size)).mono q0.size)))
      go_ret
      exact ⟨_, rfl, by rw [HR.out]; rfl, b3⟩
    · have HR := Lib.hid (show rightB g xss = false by simp [rightB, hg])
      have hne : (gchk g == 0) = false := by simp [hg]
      clear hf hg
      go_enter Tryz.func29, Tryz.ntmps29
      go_wp2_with (first
        | (go_at_call 11; (with_reducible refine (Few05_any _ _ g HU.out HSG.out).mono ?_); rintro e w1 ⟨v, rfl, rfl, rfl⟩; rw [HF.out])
        | (go_at_call 13; (with_reducible refine (rACheck_any _ _ g HU.out HSS.out).mono ?_); rintro e w2 ⟨v, rfl, rfl, hb2⟩))
      go_ret
      exact ⟨_, rfl, by rw [HR.out]; rfl, q0.trans (hb2.mono q0.size)⟩
theorem rightB_of {g : List ByteArray} {xss : List (List ByteArray)} (h : rightB g xss = true) : few05 g = true ∧ gchk g = 0 ∧ ∀ a ∈ xss, mchk g a = 0 := by
  simp only [rightB, Bool.and_eq_true, beq_iff_eq, Bool.not_eq_true'] at h
  refine ⟨h.1.1, h.1.2, fun a ha => ?_⟩
  have := List.any_eq_false.1 h.2 a ha
  simpa [out5] using this
end Go.Proofs.YtdpdkojeapaflaaGreatDoor
