/- The walk of the law AbelianReduces. -/
import Derived.Test.YtdpdkojeapaflaaGreatDoorPk11
import Derived.Test.YtdpdkojeapaflaaGreatDoorPk9
namespace Go.Proofs.YtdpdkojeapaflaaGreatDoor
open Go.RowKit
set_option maxRecDepth 100000

section
variable {P : Program} {t e : TypeId} {z : Value} {size bytes : Nat} {ops : Array Oper} {rest : List Oper} {o : Oper} {a : Act} {Q : Exit → Act → World → Prop}
/-- 'append(row, xs...)', the row the call's own. -/
theorem appL {α : Type} {enc : α → Value} (hE : ElemOk P t e z 1 bytes) (hgd : o.guard = none) (s x : Operand) (ho : o.op = .call { callee := .builtin .append, args := #[s, x], argTypes := #[t, t] })
    {u v : Value} {n base B : Nat} {ys : List Value} {xs : List α} {w W : World} (hs : a.eval s = u) (hx : a.eval x = v) (hown : w.ownsRow base e 1 u n ys) (hv : Sl enc w v xs) (hb : Below B W w) (hB : B ≤ base) (hbase : base ≤ w.heap.size)
    (h2 : ∀ y, (enc y).oneCell' = true) (hn : (n + xs.length) * bytes ≤ 140737488355328) (hn' : n + xs.length ≤ maxLen)
    (h : ∀ v' w', w'.ownsRow base e 1 v' (n + xs.length) (ys ++ xs.map enc) → Below B W w' → wpList P ops Q rest (a.put o.dst v') w') :
    wpList P ops Q (o :: rest) a w := by
  obtain ⟨i, hi, hz, hsz, hby⟩ := hE.info
  obtain ⟨ad, b, off, c, rfl, ha, hc, hm, hnn, hcell⟩ := hv
  cases ad with
  | none =>
    have hc0 := hnn rfl
    have hl0 : xs.length = 0 := by omega
    obtain rfl : xs = [] := List.length_eq_zero_iff.1 hl0
    subst hc0
    refine wpList_append_own_none hgd s x t ho base e i 1 hE.und hi _ n ys hs hown hx ?_
    exact h _ _ (by simpa using hown) hb
  | some ad =>
    have hnews : ∀ j y, (xs.map enc)[j]? = some y → w.cell? (ad.add j) = some y := by
      intro j y hj
      have hj' : j < xs.length := by have := (List.getElem?_eq_some_iff.1 hj).1; simpa using this
      have := ha (by omega)
      cases this
      have h3 := hcell.2 j hj'
      simp [hj'] at hj
      rw [show (⟨b, off, none⟩ : Addr).add j = ⟨b, off + j, none⟩ by simp [Addr.add], h3, hj]
    refine wpList_append_own _ hgd s x t ho base e i z 1 bytes hE.und hi hz hsz hby hE.cells hE.pos _ n ys hs hown ad xs.length c (xs.map enc) hx (by simp) hnews (by intro y hy; obtain ⟨y', _, rfl⟩ := List.mem_map.1 hy; exact h2 y') hn' hn hbase ?_
    intro v' w' ho' hg _
    exact h v' w' ho' (hb.grown hg (by omega) (fun j hj => by have := (hown.lt j hj).1; omega))
end
theorem own_two (w : World) (u v : Value) (e : TypeId) : (w.alloc (.cells #[u, v] e)).ownsRow w.heap.size e 1 (.slice (some ⟨w.heap.size, 0, none⟩) 2 2) 2 [u, v] :=
  ⟨rfl, .inr ⟨w.heap.size, 2, #[u, v], rfl, by omega, heap_alloc_new w _, by omega, by simp [maxLen], rfl, rfl⟩⟩
theorem Lst.nil (w : World) : Lst w (.slice none 0 0) [] [] := ⟨Sl.nil, rfl, fun i h _ => by simp at h⟩
theorem Lst.two (w : World) (v u : Value) (xs ys : List ByteArray) (hv : Sl eS w v xs) (hu : Sl eS w u ys) (e : TypeId) : Lst (w.alloc (.cells #[v, u] e)) (.slice (some ⟨w.heap.size, 0, none⟩) 2 2) [v, u] [xs, ys] := by
  have hb : Below w.heap.size w (w.alloc (.cells #[v, u] e)) := (Below.refl _ w).alloc (Nat.le_refl _) _
  refine ⟨Sl.ofOwns (n := 2) (base := 0) (e := e) ⟨rfl, .inr ⟨w.heap.size, 2, #[v, u], rfl, by omega, heap_alloc_new w _, by omega, by simp [maxLen], rfl, rfl⟩⟩, rfl, fun i h1 h2 => ?_⟩
  match i, h1 with
  | 0, _ => exact hv.below hb (Nat.le_refl _)
  | 1, _ => exact hu.below hb (Nat.le_refl _)
theorem chks_all : ∀ (xs : List ByteArray), (∀ j (h : j < xs.length), chk xs[j].data.toList = 0) → chks xs = 0
  | [], _ => rfl
  | s :: l, h => by
    rw [chks, if_pos (show chk s.data.toList = 0 from h 0 (by simp))]
    exact chks_all l fun j hj => h (j + 1) (by simpa using hj)
theorem goods_chks : ∀ {xs : List ByteArray} {zs : List Int}, Goods xs zs → chks xs = 0
  | [], [], _ => rfl
  | s :: l, z :: zs, h => by rw [chks, if_pos h.1.chk]; exact goods_chks h.2
  | [], _ :: _, h => h.elim
  | _ :: _, [], h => h.elim
theorem goods_map : ∀ (zs : List Int), (∀ z ∈ zs, dn z ≤ 1000) → Goods (zs.map txt) zs
  | [], _ => trivial
  | z :: zs, h => ⟨.of (big_dn (by have := h z (by simp); omega)), goods_map zs fun u hu => h u (by simp [hu])⟩
theorem ostep_gstep : ∀ (l : List ByteArray) (p q : Option ByteArray), gstep p l = 0 → (q = p ∨ q = some ⟨#[49]⟩) → ostep q l = 0
  | [], _, q, _, _ => by cases q <;> rfl
  | s :: l, p, q, h, hq => by
    rw [gstep] at h
    by_cases h1 : chk s.data.toList = 0
    · rw [if_pos h1] at h
      by_cases h2 : num s < 2
      · rw [if_pos h2] at h; exact absurd h (by decide)
      · rw [if_neg h2] at h
        by_cases h3 : fits p s
        · rw [if_pos h3] at h
          have hf : fits q s = true := by
            rcases hq with rfl | rfl
            · exact h3
            · simp only [fits, g1.num, decide_eq_true_eq]; exact Int.fmod_one _
          rw [ostep, if_pos h1, if_neg (by omega), if_neg (by omega), if_pos hf]
          exact ostep_gstep l (some s) (some s) h (.inl rfl)
        · rw [if_neg h3] at h; exact absurd h (by decide)
    · rw [if_neg h1] at h; exact absurd h h1
theorem of_ones {g : List ByteArray} (hg : gchk g = 0) (hl : g.length ≤ 14) : ochk (⟨#[49]⟩ :: ⟨#[49]⟩ :: g) = 0 ∧ okeep (⟨#[49]⟩ :: ⟨#[49]⟩ :: g) = g := by
  have h1 : chk (⟨#[49]⟩ : ByteArray).data.toList = 0 := g1.chk
  have hn : num (⟨#[49]⟩ : ByteArray) = 1 := g1.num
  have ho : ochk (⟨#[49]⟩ :: ⟨#[49]⟩ :: g) = 0 := by
    unfold ochk
    rw [if_neg (by simp; omega), ostep, if_pos h1, if_neg (by omega), if_neg (by omega), if_pos (show fits none (⟨#[49]⟩ : ByteArray) = true from rfl), ostep, if_pos h1, if_neg (by omega), if_neg (by omega), if_pos (by simp only [fits, hn]; decide)]
    exact ostep_gstep g none _ (gchk_len hg).2 (.inr rfl)
  refine ⟨ho, ?_⟩
  unfold okeep
  rw [if_pos ho]
  have h49 : isOne (⟨#[49]⟩ : ByteArray) = true := by rw [isOne, ByteArray.toList_eq]; rfl
  rw [List.filter_cons, List.filter_cons]
  simp only [h49]
  simp only [Bool.not_true, Bool.false_eq_true, if_false]
  rw [List.filter_eq_self]
  intro s hs
  obtain ⟨zs, hG⟩ := grp_of hg
  obtain ⟨i, hi, rfl⟩ := List.getElem_of_mem hs
  have hz : i < zs.length := by rw [hG.good.len]; exact hi
  have g2 := hG.good.get i hi hz
  have h2 := hG.two _ (List.getElem_mem hz)
  cases hq : isOne g[i]
  · rfl
  · exfalso
    have e : g[i] = ⟨#[49]⟩ := by
      have : g[i].toList = [49] := by simpa [isOne] using hq
      rw [ByteArray.toList_eq] at this
      exact ByteArray.ext (Array.toList_inj.1 this)
    rw [e] at g2
    have := g2.num
    rw [hn] at this
    omega
/-- The sums of two lists of integers, as texts. -/
def sumL (n : Nat) (a b : List ByteArray) : List Int := mapI n fun i => (nums a).getD i 0 + (nums b).getD i 0
theorem reduces_facts {g a b : List ByteArray} (hg : gchk g = 0) (hla : a.length = g.length) (hlb : b.length = g.length) (ba : bad a = false) (bb : bad b = false) (ca : chks a = 0) (cb : chks b = 0) :
    elemS g a = ((redL (nums g) (nums a)).map txt, 0) ∧ elemS g b = ((redL (nums g) (nums b)).map txt, 0) ∧ elemS g ((sumL g.length a b).map txt) = ((plusL (nums g) (redL (nums g) (nums a)) (redL (nums g) (nums b))).map txt, 0) ∧
    addS g ((redL (nums g) (nums a)).map txt) ((redL (nums g) (nums b)).map txt) = ((plusL (nums g) (redL (nums g) (nums a)) (redL (nums g) (nums b))).map txt, 0) ∧
    (∀ s ∈ (sumL g.length a b).map txt, s.size ≤ 1000000) ∧ (∀ s ∈ (redL (nums g) (nums a)).map txt, s.size ≤ 1000000) ∧ (∀ s ∈ (redL (nums g) (nums b)).map txt, s.size ≤ 1000000) := by
  have h2 := nums_two hg
  have er := El.red h2 (nums a); have es := El.red h2 (nums b)
  have hd : ∀ z ∈ sumL g.length a b, dn z ≤ 1000 := by
    intro z hz
    obtain ⟨i, hi, rfl⟩ := List.mem_map.1 hz
    have hi : i < g.length := by simpa using hi
    obtain ⟨us, hus⟩ := Goods.of a ca
    obtain ⟨vs, hvs⟩ := Goods.of b cb
    have hu := hus.len; have hv := hvs.len
    rw [nums_of hus, nums_of hvs, getD_at _ _ (by omega), getD_at _ _ (by omega)]
    have d1 := bad_dn ba _ (List.getElem_mem (show i < a.length by omega)) _ (hus.get i (by omega) (by omega))
    have d2 := bad_dn bb _ (List.getElem_mem (show i < b.length by omega)) _ (hvs.get i (by omega) (by omega))
    have := dn_add us[i] vs[i]
    omega
  have hG := goods_map _ hd
  refine ⟨by unfold elemS; rw [if_pos hg, if_pos hla, if_pos ca], by unfold elemS; rw [if_pos hg, if_pos hlb, if_pos cb], ?_, addS_el hg er es, goods_size hG, el_size hg er, el_size hg es⟩
  unfold elemS
  rw [if_pos hg, if_pos (by rw [List.length_map, sumL, mapI_len]), if_pos (goods_chks hG), nums_of hG]
  congr 2
  have := redL_plus h2 (nums a) (nums b)
  rw [nums_len] at this
  exact this

set_option maxHeartbeats 8000000 in
theorem reduces05_any (w : World) (v : Value) (g : List ByteArray) (hv : Sl eS w v g) (u : Value) (a : List ByteArray) (hu : Sl eS w u a) (t : Value) (b : List ByteArray) (ht : Sl eS w t b) (hsg : ∀ s ∈ g, s.size ≤ 9223372036854775807) (hsa : ∀ s ∈ a, s.size ≤ 9223372036854775807) (hsb : ∀ s ∈ b, s.size ≤ 9223372036854775807) (he : Env w) :
    Calls Tryz.prog 5 #[v, u, t] w (Rets fun v w' => v = .bool true ∧ Below w.heap.size w w') := by
  have HV := Lib.hid hv; have HU := Lib.hid hu; have HT := Lib.hid ht; have HSG := Lib.hid hsg; have HE := Lib.hid he
  have HSA := Lib.hid (show ∀ xs ∈ [a, b], ∀ s ∈ xs, s.size ≤ 9223372036854775807 from fun xs hx s hs => by
    simp at hx
    rcases hx with rfl | rfl
    · exact hsa s hs
    · exact hsb s hs)
  have q0 := Below.refl w.heap.size w
  obtain ⟨ad, b1, o1, c1, rfl, -, -, -, -⟩ := hv.open elemStr
  obtain ⟨adA, b2, o2, c2, rfl, hi2, hp2, -, hm2⟩ := hu.open elemStr
  obtain ⟨adB, b3, o3, c3, rfl, hi3, hp3, -, hm3⟩ := ht.open elemStr
  have HP2 := Lib.hid hp2; have HP3 := Lib.hid hp3
  clear hsg hsa hsb he hv hu ht hp2 hp3
  unfold maxLen at hm2 hm3
  cases hr : rightB g []
  · have HR := Lib.hid hr
    clear hr
    go_enter Tryz.func5, Tryz.ntmps5
    go_wp2_with (first
      | (go_at_call 16; (with_reducible refine (awake05 _ HE.out).mono ?_); rintro e w2 ⟨v, rfl, rfl, h2⟩; have HV := Lib.hid (HV.out.below h2 (Nat.le_refl _)); have HU := Lib.hid (HU.out.below h2 (Nat.le_refl _)); have HT := Lib.hid (HT.out.below h2 (Nat.le_refl _)); have HE := Lib.hid (HE.out.below h2 (Nat.le_refl _)); have q2 := q1.trans (h2.mono q1.size))
      | (go_at_call 29; (with_reducible refine (right_any _ _ _ _ g [] HV.out (Lst.nil _) HSG.out (by simp)).mono ?_); rintro e w1 ⟨v, rfl, rfl, h1⟩; rw [HR.out]; have HV := Lib.hid (HV.out.below h1 (Nat.le_refl _)); have HU := Lib.hid (HU.out.below h1 (Nat.le_refl _)); have HT := Lib.hid (HT.out.below h1 (Nat.le_refl _)); have HE := Lib.hid (HE.out.below h1 (Nat.le_refl _)); have q1 := q0.trans (h1.mono q0.size)))
    go_ret
    exact ⟨_, rfl, rfl, q2⟩
  · have HR := Lib.hid hr
    by_cases hla : a.length = g.length
    · by_cases hlb : b.length = g.length
      · have hne1 : ((a.length : Int) != (g.length : Int)) = false := by simp [hla]
        have hne2 : ((b.length : Int) != (g.length : Int)) = false := by simp [hlb]
        cases hb : (!([a, b].any bad))
        · have HB := Lib.hid hb
          clear hr hla hlb hb
          go_enter Tryz.func5, Tryz.ntmps5
          go_wp2_with (first
            | (go_at_call 16; (with_reducible refine (awake05 _ HE.out).mono ?_); rintro e w3 ⟨v, rfl, rfl, h3⟩; have HV := Lib.hid (HV.out.below h3 (Nat.le_refl _)); have HU := Lib.hid (HU.out.below h3 (Nat.le_refl _)); have HT := Lib.hid (HT.out.below h3 (Nat.le_refl _)); have HE := Lib.hid (HE.out.below h3 (Nat.le_refl _)); have q3 := q2.trans (h3.mono q2.size))
            | (go_at_call 12; (with_reducible refine (fewL _ _ _ [a, b] (Lst.two _ _ _ a b HU.out HT.out _) HSA.out).mono ?_); rintro e w' ⟨v, rfl, rfl, rfl⟩; rw [HB.out]; have h2 := (Below.refl w1.heap.size w1).alloc (Nat.le_refl _) (.cells #[.slice adA a.length c2, .slice adB b.length c3] 22); have HV := Lib.hid (HV.out.below h2 (Nat.le_refl _)); have HU := Lib.hid (HU.out.below h2 (Nat.le_refl _)); have HT := Lib.hid (HT.out.below h2 (Nat.le_refl _)); have HE := Lib.hid (HE.out.below h2 (Nat.le_refl _)); have q2 := q1.trans (h2.mono q1.size))
            | (go_at_call 29; (with_reducible refine (right_any _ _ _ _ g [] HV.out (Lst.nil _) HSG.out (by simp)).mono ?_); rintro e w1 ⟨v, rfl, rfl, h1⟩; rw [HR.out]; have HV := Lib.hid (HV.out.below h1 (Nat.le_refl _)); have HU := Lib.hid (HU.out.below h1 (Nat.le_refl _)); have HT := Lib.hid (HT.out.below h1 (Nat.le_refl _)); have HE := Lib.hid (HE.out.below h1 (Nat.le_refl _)); have q1 := q0.trans (h1.mono q0.size)))
          go_ret
          exact ⟨_, rfl, rfl, q3⟩
        · have HB := Lib.hid hb
          obtain ⟨hf, hg, -⟩ := rightB_of hr
          have hb3 : bad a = false ∧ bad b = false := by simpa using hb
          have hl14 : g.length ≤ 14 := by
            have := (gchk_len hg).1
            simp only [few05, Bool.and_eq_true, Bool.or_eq_true, decide_eq_true_eq] at hf
            omega
          have HRF := Lib.hid (fun ca cb => reduces_facts hg hla hlb hb3.1 hb3.2 ca cb)
          have HOF := Lib.hid (of_ones hg hl14)
          have HSS := Lib.hid (few05_size hf); have ZA := Lib.hid (bad_size hb3.1); have ZB := Lib.hid (bad_size hb3.2)
          have HDA := Lib.hid (bad_dn hb3.1); have HDB := Lib.hid (bad_dn hb3.2)
          have HLA := Lib.hid hla; have HLB := Lib.hid hlb; have HL14 := Lib.hid hl14
          clear hr hla hlb hb hf hg hb3
          go_enter Tryz.func5, Tryz.ntmps5
          go_wp2_with (first
            | (go_at_call 12; (with_reducible refine (fewL _ _ _ [a, b] (Lst.two _ _ _ a b HU.out HT.out _) HSA.out).mono ?_); rintro e w' ⟨v, rfl, rfl, rfl⟩; rw [HB.out]; have h2 := (Below.refl w1.heap.size w1).alloc (Nat.le_refl _) (.cells #[.slice adA a.length c2, .slice adB b.length c3] 22); have HV := Lib.hid (HV.out.below h2 (Nat.le_refl _)); have HU := Lib.hid (HU.out.below h2 (Nat.le_refl _)); have HT := Lib.hid (HT.out.below h2 (Nat.le_refl _)); have HE := Lib.hid (HE.out.below h2 (Nat.le_refl _)); have q2 := q1.trans (h2.mono q1.size))
            | (go_at_call 29; (with_reducible refine (right_any _ _ _ _ g [] HV.out (Lst.nil _) HSG.out (by simp)).mono ?_); rintro e w1 ⟨v, rfl, rfl, h1⟩; rw [HR.out]; have HV := Lib.hid (HV.out.below h1 (Nat.le_refl _)); have HU := Lib.hid (HU.out.below h1 (Nat.le_refl _)); have HT := Lib.hid (HT.out.below h1 (Nat.le_refl _)); have HE := Lib.hid (HE.out.below h1 (Nat.le_refl _)); have q1 := q0.trans (h1.mono q0.size)))
          have hgb : Below w1.heap.size w1 (w1.alloc (.cells #[.slice adA a.length c2, .slice adB b.length c3] 22)) := (Below.refl w1.heap.size w1).alloc (Nat.le_refl _) _
          obtain ⟨W, hW⟩ : ∃ W, w1.alloc (.cells #[.slice adA a.length c2, .slice adB b.length c3] 22) = W := ⟨_, rfl⟩
          rw [hW] at HV HU HT HE q2 ⊢
          clear hgb hW
          obtain ⟨SS, hSS⟩ : ∃ SS, sumL g.length a b = SS := ⟨_, rfl⟩
          have HSL := Lib.hid (show SS.length = g.length by rw [← hSS, sumL, mapI_len])
          have HSV := Lib.hid (show ∀ k (h : k < SS.length) (ha : k < a.length) (hb : k < b.length), num a[k] + num b[k] = SS[k] from by
            subst hSS
            intro k h ha hb
            simp only [sumL, mapI_get]
            rw [getD_at _ _ (by rw [nums_len]; exact ha), getD_at _ _ (by rw [nums_len]; exact hb)]
            simp [nums])
          rw [hSS] at HRF
          clear hSS
          have HQ2 := Lib.hid q2
          go_loopw [7, 46] (fun out i wr => ∃ k : Nat, k ≤ g.length ∧ i = .int .i64 k ∧ Hid (∀ j (h : j < k) (ha : j < a.length) (hb : j < b.length), chk a[j].data.toList = 0 ∧ chk b[j].data.toList = 0) ∧ wr.ownsRow W.heap.size 27 1 out k ((SS.take k).map (fun n => eS (txt n))) ∧ Below W.heap.size W wr) (fun _ i _ => g.length - (intOf i).toNat)
          case atStart => exact ⟨0, Nat.zero_le _, rfl, Lib.hid (fun j h => by omega), World.ownsRow_nil _ _ _ _, Below.refl _ _⟩
          case round =>
            obtain ⟨k, hk, rfl, hall, hown, hb⟩ := hrel
            have hbs := hb.size
            have qr := HQ2.out.trans (hb.mono HQ2.out.size)
            by_cases hkn : k < g.length
            · have hka : k < a.length := by rw [HLA.out]; exact hkn
              have hkb : k < b.length := by rw [HLB.out]; exact hkn
              have h1 : wr.cell? ⟨b2, o2 + k, none⟩ = some (.string a[k]) := HP2.out.at qr (Nat.le_refl _) k hka
              have h2 : wr.cell? ⟨b3, o3 + k, none⟩ = some (.string b[k]) := HP3.out.at qr (Nat.le_refl _) k hkb
              have za := ZA.out _ (List.getElem_mem hka); have zb := ZB.out _ (List.getElem_mem hkb)
              have q1 : (0 : Int) ≤ (k : Int) := by omega
              have q2 : (k : Int) < (a.length : Int) := by omega
              have q3 : (k : Int) < (b.length : Int) := by omega
              by_cases ha0 : chk a[k].data.toList = 0
              · by_cases hb0 : chk b[k].data.toList = 0
                · have hks : k < SS.length := by rw [HSL.out]; exact hkn
                  have HSK := Lib.hid (HSV.out k hks hka hkb)
                  have ga := good_num ha0; have gb := good_num hb0
                  have HX := Lib.hid (HDA.out _ (List.getElem_mem hka) _ ga); have HY := Lib.hid (HDB.out _ (List.getElem_mem hkb) _ gb)
                  obtain ⟨x, hx⟩ : ∃ x, num a[k] = x := ⟨_, rfl⟩
                  obtain ⟨y, hy⟩ : ∃ y, num b[k] = y := ⟨_, rfl⟩
                  rw [hx] at ga HX HSK; rw [hy] at gb HY HSK
                  have HAL := Lib.hid (show ∀ j (h : j < k + 1) (ha : j < a.length) (hb : j < b.length), chk a[j].data.toList = 0 ∧ chk b[j].data.toList = 0 from fun j h ha hb => by
                    by_cases e : j = k
                    · subst e; exact ⟨ha0, hb0⟩
                    · exact hall.out j (by omega) ha hb)
                  rw [ga.eq] at h1 za ha0; rw [gb.eq] at h2 zb hb0
                  have HCA := Lib.hid ha0; have HCB := Lib.hid hb0
                  have k1 : ∀ w', Below W.heap.size W w' → w'.cell? ⟨b2, o2 + k, none⟩ = some (.string (txt x)) := fun w' hb' => by rw [← ga.eq]; exact HP2.out.at (HQ2.out.trans (hb'.mono HQ2.out.size)) (Nat.le_refl _) k hka
                  have k2 : ∀ w', Below W.heap.size W w' → w'.cell? ⟨b3, o3 + k, none⟩ = some (.string (txt y)) := fun w' hb' => by rw [← gb.eq]; exact HP3.out.at (HQ2.out.trans (hb'.mono HQ2.out.size)) (Nat.le_refl _) k hkb
                  have HH := Lib.hid (held_both k1 k2)
                  have HB2 := Lib.hid hb
                  have HO := Lib.hid hown
                  clear ha0 hb0 ga gb hx hy k1 k2 hown hb
                  go_wp2_with (first
                    | (go_at_call_of 30 (Value.string (txt x)); (with_reducible refine (rCheck_any _ (txt x) za).mono ?_); rintro e w4 ⟨v, rfl, rfl, rfl⟩; rw [HCA.out])
                    | (go_at_call_of 30 (Value.string (txt y)); (with_reducible refine (rCheck_any _ (txt y) zb).mono ?_); rintro e w4 ⟨v, rfl, rfl, rfl⟩; rw [HCB.out]))
                  clear h1 h2
                  go_region_held3 (fun w' => Below W.heap.size W w' ∧ w'.cell? ⟨b2, o2 + k, none⟩ = some (.string (txt x)) ∧ w'.cell? ⟨b3, o3 + k, none⟩ = some (.string (txt y)))
                    (((refine HH.out _ ?_); first
                      | with_reducible exact HB2.out.drew
                      | with_reducible exact Below.trans (And.left (by assumption)) (Below.mono (by assumption) (Below.size (And.left (by assumption))))
                      | with_reducible exact Below.alloc (And.left (by assumption)) (Below.size (And.left (by assumption))) _
                      | with_reducible assumption
                      | with_reducible exact And.left (by assumption)))
                    (first
                      | (go_at_call 31; (with_reducible refine (Plus_any _ x y (by have := HX.out; omega) (by have := HY.out; omega)).mono ?_); rintro e w3 ⟨v, rfl, rfl, hb3⟩; have bq0 : Below wr.heap.size wr w3 := ⟨hb3.os, hb3.tape, hb3.output, hb3.size, hb3.block⟩; have HO4 := Lib.hid (own_below HO.out bq0 (Nat.le_refl _)); have bz := HB2.out.trans (bq0.mono HB2.out.size))
                      | (refine app1_step elemStr rfl _ _ rfl rfl rfl HO4.out bz (Nat.le_refl _) bz.size rfl (by simp [Value.oneCell']) (by omega) (by unfold maxLen; omega) ?_; intro v' w5 hown' hb'))
                  all_goals
                    go_wp2_with fail
                    go_roundw
                    case rel => exact ⟨k + 1, by omega, by go_num, HAL, by rw [HSK.out] at hown'; rw [List.take_succ_eq_append_getElem hks, List.map_append]; exact hown', hb'⟩
                    case measure => simp [intOf]; omega
                · have hne : (chk b[k].data.toList != 0) = true := by simp [hb0]
                  by_cases hs : a[k] = b[k]
                  · rw [hs] at ha0; exact absurd ha0 hb0
                  · obtain ⟨sa, hsa⟩ : ∃ s, a[k] = s := ⟨_, rfl⟩
                    obtain ⟨sb, hsb⟩ : ∃ s, b[k] = s := ⟨_, rfl⟩
                    rw [hsa] at h1 za ha0; rw [hsb] at h2 zb hb0 hne
                    have HCA := Lib.hid ha0
                    clear ha0 hb0 hs hsa hsb
                    go_wp2_with (first
                      | (go_at_call_of 30 (Value.string sa); (with_reducible refine (rCheck_any _ sa za).mono ?_); rintro e w4 ⟨v, rfl, rfl, rfl⟩; rw [HCA.out])
                      | (go_at_call_of 30 (Value.string sb); (with_reducible refine (rCheck_any _ sb zb).mono ?_); rintro e w4 ⟨v, rfl, rfl, rfl⟩)
                      | (go_at_call 16; (with_reducible refine (awake05 _ (HE.out.below hb (Nat.le_refl _))).mono ?_); rintro e w5 ⟨v, rfl, rfl, hb5⟩))
                    go_ret
                    exact ⟨_, rfl, rfl, qr.trans (hb5.mono qr.size)⟩
              · have hne : (chk a[k].data.toList != 0) = true := by simp [ha0]
                clear ha0
                go_wp2_with (first
                  | (go_at_call 30; (with_reducible refine (rCheck_any _ a[k] za).mono ?_); rintro e w4 ⟨v, rfl, rfl, rfl⟩)
                  | (go_at_call 16; (with_reducible refine (awake05 _ (HE.out.below hb (Nat.le_refl _))).mono ?_); rintro e w5 ⟨v, rfl, rfl, hb5⟩))
                go_ret
                exact ⟨_, rfl, rfl, qr.trans (hb5.mono qr.size)⟩
            · obtain rfl : k = g.length := by omega
              have ca := chks_all a fun j hj => (hall.out j (by have := HLA.out; omega) hj (by have := HLA.out; have := HLB.out; omega)).1
              have cb := chks_all b fun j hj => (hall.out j (by have := HLB.out; omega) (by have := HLA.out; have := HLB.out; omega) hj).2
              obtain ⟨r1, r2, r3, r4, z1, z2, z3⟩ := HRF.out ca cb
              generalize (plusL (nums g) (redL (nums g) (nums a)) (redL (nums g) (nums b))).map txt = Z at *
              generalize (redL (nums g) (nums a)).map txt = X at *
              generalize (redL (nums g) (nums b)).map txt = Y at *
              have R1 := Lib.hid r1; have R2 := Lib.hid r2; have R3 := Lib.hid r3; have R4 := Lib.hid r4; have Z1 := Lib.hid z1; have Z2 := Lib.hid z2; have Z3 := Lib.hid z3
              have HO1 := Lib.hid HOF.out.1; have HO2 := Lib.hid HOF.out.2
              rw [List.take_of_length_le (by rw [HSL.out]; exact Nat.le_refl _)] at hown
              have hown2 := ownsRow_cast hown rfl (show SS.map (fun n => eS (txt n)) = (SS.map txt).map eS by rw [List.map_map]; rfl)
              have FS := Lib.hid (Sl.ofOwns hown2)
              have HV := Lib.hid (HV.out.below hb (Nat.le_refl _)); have HU := Lib.hid (HU.out.below hb (Nat.le_refl _)); have HT := Lib.hid (HT.out.below hb (Nat.le_refl _)); have HE := Lib.hid (HE.out.below hb (Nat.le_refl _))
              clear hown hown2 ca cb r1 r2 r3 r4 z1 z2 z3 hb hbs
              go_wp2_with (first
                | (go_at_call 16; (with_reducible refine (awake05 _ HE.out).mono ?_); rintro e w9 ⟨v, rfl, rfl, h9⟩; have q9 := q8.trans (h9.mono q8.size))
                | (go_at_call 33; (with_reducible refine (Equal_same _ _ _ g F6.out HV.out).mono ?_); rintro e w8 ⟨v, rfl, rfl, h8⟩; have HE := Lib.hid (HE.out.below h8 (Nat.le_refl _)); have q8 := q7.trans (h8.mono q7.size))
                | (go_at_call 33; (with_reducible refine (Equal_same _ _ _ Z F3.out F4.out).mono ?_); rintro e w7 ⟨v, rfl, rfl, h7⟩; have HV := Lib.hid (HV.out.below h7 (Nat.le_refl _)); have HE := Lib.hid (HE.out.below h7 (Nat.le_refl _)); have F6 := Lib.hid (F6.out.below h7 (Nat.le_refl _)); have q7 := q6.trans (h7.mono q6.size))
                | (go_at_call 19; (with_reducible refine (AOf_any _ _ (⟨#[49]⟩ :: ⟨#[49]⟩ :: g) F5.out (fun _ s hs => by rcases List.mem_cons.1 hs with rfl | hs; exact (by decide); rcases List.mem_cons.1 hs with rfl | hs; exact (by decide); exact HSS.out (by have := HL14.out; omega) s hs) HE.out).mono ?_); rintro e w6 ⟨v, rfl, x6, rfl, s6, h6⟩; rw [HO1.out]; rw [HO2.out] at s6; have F6 := Lib.hid s6; clear s6; have HV := Lib.hid (HV.out.below h6 (Nat.le_refl _)); have HE := Lib.hid (HE.out.below h6 (Nat.le_refl _)); have F3 := Lib.hid (F3.out.below h6 (Nat.le_refl _)); have F4 := Lib.hid (F4.out.below h6 (Nat.le_refl _)); have q6 := q5.trans (h6.mono q5.size))
                | (at_builtin; refine appL elemStr rfl _ _ rfl rfl rfl (own_two _ _ _ _) (HV.out.below ((Below.refl w4.heap.size w4).alloc (Nat.le_refl _) _) (Nat.le_refl _)) ((Below.refl w4.heap.size w4).alloc (Nat.le_refl _) _) (Nat.le_refl _) (by simp) (fun y => by simp [eS, Value.oneCell']) (by have := HL14.out; omega) (by unfold maxLen; have := HL14.out; omega) ?_; intro v' w5 hown5 hb5; have F5 := Lib.hid (show Sl eS w5 v' (⟨#[49]⟩ :: ⟨#[49]⟩ :: g) from Sl.ofOwns hown5); clear hown5; have HV := Lib.hid (HV.out.below hb5 (Nat.le_refl _)); have HE := Lib.hid (HE.out.below hb5 (Nat.le_refl _)); have F3 := Lib.hid (F3.out.below hb5 (Nat.le_refl _)); have F4 := Lib.hid (F4.out.below hb5 (Nat.le_refl _)); have q5 := q4.trans (hb5.mono q4.size))
                | (go_at_call 32; (with_reducible refine (AAdd_any _ _ _ _ g X Y HV.out F1.out F2.out HSS.out Z2.out Z3.out HE.out).mono ?_); rintro e w4 ⟨v, rfl, x4, rfl, s4, h4⟩; rw [R4.out] at s4 ⊢; have F4 := Lib.hid s4; clear s4; have HV := Lib.hid (HV.out.below h4 (Nat.le_refl _)); have HU := Lib.hid (HU.out.below h4 (Nat.le_refl _)); have HT := Lib.hid (HT.out.below h4 (Nat.le_refl _)); have HE := Lib.hid (HE.out.below h4 (Nat.le_refl _)); have FS := Lib.hid (FS.out.below h4 (Nat.le_refl _)); have F1 := Lib.hid (F1.out.below h4 (Nat.le_refl _)); have F2 := Lib.hid (F2.out.below h4 (Nat.le_refl _)); have F3 := Lib.hid (F3.out.below h4 (Nat.le_refl _)); have q4 := q3.trans (h4.mono q3.size))
                | (go_at_call 25; (with_reducible refine (AElement_any _ _ _ g (SS.map txt) HV.out FS.out HSS.out Z1.out HE.out).mono ?_); rintro e w3 ⟨v, rfl, x3, rfl, s3, h3⟩; rw [R3.out] at s3 ⊢; have F3 := Lib.hid s3; clear s3; have HV := Lib.hid (HV.out.below h3 (Nat.le_refl _)); have HU := Lib.hid (HU.out.below h3 (Nat.le_refl _)); have HT := Lib.hid (HT.out.below h3 (Nat.le_refl _)); have HE := Lib.hid (HE.out.below h3 (Nat.le_refl _)); have FS := Lib.hid (FS.out.below h3 (Nat.le_refl _)); have F1 := Lib.hid (F1.out.below h3 (Nat.le_refl _)); have F2 := Lib.hid (F2.out.below h3 (Nat.le_refl _)); have q3 := q2.trans (h3.mono q2.size))
                | (go_at_call 25; (with_reducible refine (AElement_any _ _ _ g b HV.out HT.out HSS.out ZB.out HE.out).mono ?_); rintro e w2 ⟨v, rfl, x2, rfl, s2, h2⟩; rw [R2.out] at s2 ⊢; have F2 := Lib.hid s2; clear s2; have HV := Lib.hid (HV.out.below h2 (Nat.le_refl _)); have HU := Lib.hid (HU.out.below h2 (Nat.le_refl _)); have HT := Lib.hid (HT.out.below h2 (Nat.le_refl _)); have HE := Lib.hid (HE.out.below h2 (Nat.le_refl _)); have FS := Lib.hid (FS.out.below h2 (Nat.le_refl _)); have F1 := Lib.hid (F1.out.below h2 (Nat.le_refl _)); have q2 := q1.trans (h2.mono q1.size))
                | (go_at_call 25; (with_reducible refine (AElement_any _ _ _ g a HV.out HU.out HSS.out ZA.out HE.out).mono ?_); rintro e w1 ⟨v, rfl, x1, rfl, s1, h1⟩; rw [R1.out] at s1 ⊢; have F1 := Lib.hid s1; clear s1; have HV := Lib.hid (HV.out.below h1 (Nat.le_refl _)); have HU := Lib.hid (HU.out.below h1 (Nat.le_refl _)); have HT := Lib.hid (HT.out.below h1 (Nat.le_refl _)); have HE := Lib.hid (HE.out.below h1 (Nat.le_refl _)); have FS := Lib.hid (FS.out.below h1 (Nat.le_refl _)); have q1 := qr.trans (h1.mono qr.size)))
              go_ret
              exact ⟨_, rfl, rfl, q9⟩
      · have hne1 : ((a.length : Int) != (g.length : Int)) = false := by simp [hla]
        have hne2 : ((b.length : Int) != (g.length : Int)) = true := by simp; omega
        clear hr hla hlb
        go_enter Tryz.func5, Tryz.ntmps5
        go_wp2_with (first
          | (go_at_call 16; (with_reducible refine (awake05 _ HE.out).mono ?_); rintro e w2 ⟨v, rfl, rfl, h2⟩; have HV := Lib.hid (HV.out.below h2 (Nat.le_refl _)); have HU := Lib.hid (HU.out.below h2 (Nat.le_refl _)); have HT := Lib.hid (HT.out.below h2 (Nat.le_refl _)); have HE := Lib.hid (HE.out.below h2 (Nat.le_refl _)); have q2 := q1.trans (h2.mono q1.size))
          | (go_at_call 29; (with_reducible refine (right_any _ _ _ _ g [] HV.out (Lst.nil _) HSG.out (by simp)).mono ?_); rintro e w1 ⟨v, rfl, rfl, h1⟩; rw [HR.out]; have HV := Lib.hid (HV.out.below h1 (Nat.le_refl _)); have HU := Lib.hid (HU.out.below h1 (Nat.le_refl _)); have HT := Lib.hid (HT.out.below h1 (Nat.le_refl _)); have HE := Lib.hid (HE.out.below h1 (Nat.le_refl _)); have q1 := q0.trans (h1.mono q0.size)))
        go_ret
        exact ⟨_, rfl, rfl, q2⟩
    · have hne1 : ((a.length : Int) != (g.length : Int)) = true := by simp; omega
      clear hr hla
      go_enter Tryz.func5, Tryz.ntmps5
      go_wp2_with (first
        | (go_at_call 16; (with_reducible refine (awake05 _ HE.out).mono ?_); rintro e w2 ⟨v, rfl, rfl, h2⟩; have HV := Lib.hid (HV.out.below h2 (Nat.le_refl _)); have HU := Lib.hid (HU.out.below h2 (Nat.le_refl _)); have HT := Lib.hid (HT.out.below h2 (Nat.le_refl _)); have HE := Lib.hid (HE.out.below h2 (Nat.le_refl _)); have q2 := q1.trans (h2.mono q1.size))
        | (go_at_call 29; (with_reducible refine (right_any _ _ _ _ g [] HV.out (Lst.nil _) HSG.out (by simp)).mono ?_); rintro e w1 ⟨v, rfl, rfl, h1⟩; rw [HR.out]; have HV := Lib.hid (HV.out.below h1 (Nat.le_refl _)); have HU := Lib.hid (HU.out.below h1 (Nat.le_refl _)); have HT := Lib.hid (HT.out.below h1 (Nat.le_refl _)); have HE := Lib.hid (HE.out.below h1 (Nat.le_refl _)); have q1 := q0.trans (h1.mono q0.size)))
      go_ret
      exact ⟨_, rfl, rfl, q2⟩
end Go.Proofs.YtdpdkojeapaflaaGreatDoor
