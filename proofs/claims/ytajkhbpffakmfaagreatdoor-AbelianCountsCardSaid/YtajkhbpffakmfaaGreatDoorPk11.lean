/- Plain law: a right group's numbers in natural numbers; each divides the last one. The walks of abelian's Add, Neg and Times. The walks of the reference's Add, Neg and Times of elements, and of its Same. The walks of slices.Equal at equal lists, of abelian's Order, Exponent, Count, and of OrderOf's errors. The walk of abelian's Count. The walks of the reference's Size, Order and Count of groups; what Count answers. The walk of abelian's Of. Plain law: the laws of a commutative group for a group's elements, and multiples. The walks of abelian's Element and Exponent, and of the reference's Of, Element and Exponent of groups. The walk of the reference's Of of groups. -/
import Derived.Test.YtajkhbpffakmfaaGreatDoorPk10
import Derived.Test.YtajkhbpffakmfaaGreatDoorPk9
import Derived.Test.YtajkhbpffakmfaaGreatDoorPk6
namespace Go.Proofs.YtajkhbpffakmfaaGreatDoor
open Go.RowKit
set_option maxRecDepth 100000

theorem goods_tx : ∀ (xs : List ByteArray) (zs : List Int), Goods xs zs → (∀ z ∈ zs, 0 ≤ z) → xs = (zs.map Int.toNat).map tx
  | [], [], _, _ => rfl
  | s :: l, z :: zs, h, h0 => by
    have h1 := h0 z (by simp)
    rw [List.map_cons, List.map_cons, ← goods_tx l zs h.2 (fun u hu => h0 u (by simp [hu]))]
    congr 1
    rw [h.1.eq, tx, Int.toNat_of_nonneg h1]
  | [], _ :: _, h, _ => h.elim
  | _ :: _, [], h, _ => h.elim
theorem goods_num : ∀ (xs : List ByteArray) (zs : List Int), Goods xs zs → zs = xs.map num
  | [], [], _ => rfl
  | s :: l, z :: zs, h => by rw [List.map_cons, ← goods_num l zs h.2, h.1.num]
  | [], _ :: _, h => h.elim
  | _ :: _, [], h => h.elim
theorem fits_dvd {q s : ByteArray} (h : fits (some q) s = true) : num q ∣ num s := by
  have : Int.fmod (num s) (num q) = 0 := by simpa [fits] using h
  exact Int.dvd_of_fmod_eq_zero this
/-- In a right group each number divides what comes behind it, and so the last one. -/
theorem gstep_chain : ∀ (xs : List ByteArray) (p : Option ByteArray), gstep p xs = 0 →
    (∀ q, p = some q → ∀ t ∈ xs, num q ∣ num t) ∧ (∀ d, ∀ t ∈ xs, num t ∣ num (xs.getLast?.getD d))
  | [], _, _ => ⟨fun _ _ _ h => by simp at h, fun _ _ h => by simp at h⟩
  | s :: l, p, h => by
    rw [gstep] at h
    by_cases h1 : chk s.data.toList = 0
    · rw [if_pos h1] at h
      by_cases h2 : num s < 2
      · rw [if_pos h2] at h; exact absurd h (by decide)
      · rw [if_neg h2] at h
        by_cases h3 : fits p s
        · rw [if_pos h3] at h
          obtain ⟨i1, i2⟩ := gstep_chain l (some s) h
          refine ⟨fun q hq t ht => ?_, fun d t ht => ?_⟩
          · subst hq
            have hqs := fits_dvd h3
            rcases List.mem_cons.1 ht with rfl | ht
            · exact hqs
            · exact Int.dvd_trans hqs (i1 s rfl t ht)
          · cases l with
            | nil =>
              have : t = s := by simpa using ht
              subst this; simp
            | cons u m =>
              have e : (s :: u :: m).getLast?.getD d = (u :: m).getLast?.getD d := by simp
              rw [e]
              rcases List.mem_cons.1 ht with rfl | ht
              · have hm : (u :: m).getLast?.getD d ∈ u :: m := by
                  rw [List.getLast?_eq_some_getLast (by simp)]; exact List.getLast_mem _
                exact i1 t rfl _ hm
              · exact i2 d t ht
        · rw [if_neg h3] at h; exact absurd h (by decide)
    · rw [if_neg h1] at h; exact absurd h h1
theorem gchk_len {xs : List ByteArray} (h : gchk xs = 0) : xs.length ≤ 16 ∧ gstep none xs = 0 := by
  unfold gchk at h
  by_cases h16 : 16 < xs.length
  · rw [if_pos h16] at h; exact absurd h (by decide)
  · rw [if_neg h16] at h; exact ⟨by omega, h⟩
theorem good_one : Good ⟨#[49]⟩ 1 := g1
theorem rlast_good {g : List ByteArray} {zs : List Int} (h : Grp g zs) : ∃ z, Good (rlast g) z ∧ 1 ≤ z := by
  by_cases h0 : g = []
  · subst h0; exact ⟨1, g1, by omega⟩
  · have h1 : 0 < g.length := List.length_pos_iff.2 h0
    rw [rlast_eq g h1]
    have hl := h.good.len
    have hk : g.length - 1 < zs.length := by omega
    refine ⟨zs[g.length - 1], h.good.get _ _ hk, ?_⟩
    have := h.two _ (List.getElem_mem hk)
    omega
/-- A right group, in natural numbers: its last number has at most K digits. -/
theorem pos_of {g : List ByteArray} {zs : List Int} {K : Nat} (h : Grp g zs) (hg : gchk g = 0) (hK : dn (num (rlast g)) ≤ K) (hK2 : 4 * K + 1 ≤ 1000) : Pos g (zs.map Int.toNat) (num (rlast g)).toNat K := by
  obtain ⟨z, hz, hz1⟩ := rlast_good h
  have hn := hz.num
  refine ⟨goods_tx g zs h.good fun z hz => by have := h.two z hz; omega, fun n hn => ?_, fun n hn' => ?_, by omega, by rw [Int.toNat_of_nonneg (by omega)]; exact hK, hK2⟩
  · obtain ⟨u, hu, rfl⟩ := List.mem_map.1 hn
    have := h.two u hu
    omega
  · obtain ⟨u, hu, rfl⟩ := List.mem_map.1 hn'
    have h2 := h.two u hu
    rw [goods_num g zs h.good] at hu
    obtain ⟨t, ht, rfl⟩ := List.mem_map.1 hu
    have hd := (gstep_chain g none (gchk_len hg).2).2 ⟨#[49]⟩ t ht
    have hd2 : num t ∣ num (rlast g) := hd
    have e1 : ((num t).toNat : Int) = num t := Int.toNat_of_nonneg (by omega)
    have e2 : ((num (rlast g)).toNat : Int) = num (rlast g) := Int.toNat_of_nonneg (by omega)
    rw [← Int.natCast_dvd_natCast, e1, e2]
    exact hd2
theorem elt_tx {g a : List ByteArray} {zs : List Int} (h : Grp g zs) (hm : mchk g a = 0) : ∃ us : List Int, Goods a us ∧ Elt zs us ∧ a.length = g.length ∧ a = (us.map Int.toNat).map tx ∧ ∀ i (h : i < (zs.map Int.toNat).length) (h' : i < (us.map Int.toNat).length), (us.map Int.toNat)[i] < (zs.map Int.toNat)[i] := by
  obtain ⟨hl, us, hu, he⟩ := elt_of h.good hm
  have hul := hu.len
  have hzl := h.good.len
  refine ⟨us, hu, he, hl, goods_tx a us hu fun z hz => ?_, fun i h1 h2 => ?_⟩
  · obtain ⟨i, hi, rfl⟩ := List.getElem_of_mem hz
    exact (he i (by omega) hi).1
  · have h1' : i < zs.length := by simpa using h1
    have h2' : i < us.length := by simpa using h2
    have := he i h1' h2'
    simp only [List.getElem_map]
    omega
theorem few05_size {g : List ByteArray} (h : few05 g = true) (hl : g.length ≤ 16) : ∀ s ∈ g, s.size ≤ 1000000 := by
  intro s hs
  have h1 : (g.take 20).all ok05 = true := by simp only [few05, Bool.and_eq_true] at h; exact h.1
  rw [List.take_of_length_le (by omega)] at h1
  have := List.all_eq_true.1 h1 s hs
  simp [ok05] at this
  omega
theorem few05_dn {g : List ByteArray} (h : few05 g = true) (hl : g.length ≤ 16) {s : ByteArray} {z : Int} (hs : s ∈ g) (hz : Good s z) : dn z ≤ 30 := by
  have h1 : (g.take 20).all ok05 = true := by simp only [few05, Bool.and_eq_true] at h; exact h.1
  rw [List.take_of_length_le (by omega)] at h1
  have := List.all_eq_true.1 h1 s hs
  simp only [ok05, hz.chk] at this
  have h4 : (Lib.itoa z).length = s.size := by rw [← hz.1, Lib.size_eq]
  have h2 := digs10_len z.natAbs
  have h3 : (Lib.decDigits z.natAbs).length ≤ (Lib.itoa z).length := by rw [itoa_cases]; split <;> simp
  simp at this
  unfold dn; omega
theorem bad_size {a : List ByteArray} (h : bad a = false) : ∀ s ∈ a, s.size ≤ 1000000 := by
  intro s hs
  have h1 : (a.any fun s => !few s) = false := by simp only [bad, Bool.or_eq_false_iff] at h; exact h.2
  have := List.any_eq_false.1 h1 s hs
  have := few_size (s := s) (by simpa using this)
  omega
theorem bad_len {a : List ByteArray} (h : bad a = false) : a.length ≤ 20 := by
  simp only [bad, Bool.or_eq_false_iff] at h
  have := h.1
  simp at this
  omega
end Go.Proofs.YtajkhbpffakmfaaGreatDoor

namespace Go.Proofs.YtajkhbpffakmfaaGreatDoor
open Go.RowKit
set_option maxRecDepth 100000

def nums (xs : List ByteArray) : List Int := xs.map num
/-- What Add, Neg and Times answer: a list and an error. -/
def addS (g a b : List ByteArray) : List ByteArray × Int :=
  if gchk g = 0 then (if mchk g a = 0 then (if mchk g b = 0 then ((plusL (nums g) (nums a) (nums b)).map txt, 0) else ([], mchk g b)) else ([], mchk g a)) else ([], gchk g)
def negS (g a : List ByteArray) : List ByteArray × Int :=
  if gchk g = 0 then (if mchk g a = 0 then ((multL (nums g) (-1) (nums a)).map txt, 0) else ([], mchk g a)) else ([], gchk g)
def timesS (g : List ByteArray) (k : ByteArray) (a : List ByteArray) : List ByteArray × Int :=
  if gchk g = 0 then (if chk k.data.toList = 0 then (if mchk g a = 0 then ((multL (nums g) (num k) (nums a)).map txt, 0) else ([], mchk g a)) else ([], chk k.data.toList)) else ([], gchk g)
/-- An element of a right group, place by place. -/
theorem at_place {g a : List ByteArray} (hg : gchk g = 0) (hm : mchk g a = 0) : a.length = g.length ∧ ∀ k (hk : k < g.length) (hk' : k < a.length),
    g[k] = txt ((nums g).getD k 0) ∧ a[k] = txt ((nums a).getD k 0) ∧ Good g[k] ((nums g).getD k 0) ∧ Good a[k] ((nums a).getD k 0) ∧ 2 ≤ (nums g).getD k 0 ∧ 0 ≤ (nums a).getD k 0 ∧ (nums a).getD k 0 < (nums g).getD k 0 := by
  obtain ⟨zs, hG⟩ := grp_of hg
  obtain ⟨us, hus, hel, hal, -, -⟩ := elt_tx hG hm
  refine ⟨hal, fun k hk hk' => ?_⟩
  have ez := goods_num g zs hG.good
  have eu := goods_num a us hus
  have hz : k < zs.length := by rw [hG.good.len]; exact hk
  have hu : k < us.length := by rw [hus.len]; exact hk'
  have e1 : (nums g).getD k 0 = zs[k] := by unfold nums; rw [← ez]; exact getD_at _ _ hz
  have e2 : (nums a).getD k 0 = us[k] := by unfold nums; rw [← eu]; exact getD_at _ _ hu
  rw [e1, e2]
  have h1 := hG.good.get k hk hz
  have h2 := hus.get k hk' hu
  have h3 := hel k hz hu
  exact ⟨h1.eq, h2.eq, h1, h2, hG.two _ (List.getElem_mem hz), h3.1, h3.2⟩
theorem nums_len (xs : List ByteArray) : (nums xs).length = xs.length := by simp [nums]
theorem opp_fmod {n x : Int} (h0 : 0 ≤ x) (h1 : x < n) : opp n x = Int.fmod (-1 * x) n := by
  unfold opp
  by_cases hz : x = 0
  · rw [if_pos hz, hz]; simp
  · rw [if_neg hz, Int.fmod_eq_emod_of_nonneg _ (by omega), show -1 * x = (n - x) + n * (-1) by omega, Int.add_mul_emod_self_left, Int.emod_eq_of_lt (by omega) (by omega)]
theorem fmod_mul {K n x : Int} (hn : 0 < n) : Int.fmod (Int.fmod K n * x) n = Int.fmod (K * x) n := by
  rw [Int.fmod_eq_emod_of_nonneg _ (by omega), Int.fmod_eq_emod_of_nonneg _ (by omega), Int.fmod_eq_emod_of_nonneg _ (by omega), Int.mul_emod (K % n), Int.emod_emod, ← Int.mul_emod]

end Go.Proofs.YtajkhbpffakmfaaGreatDoor

namespace Go.Proofs.YtajkhbpffakmfaaGreatDoor
open Go.RowKit
set_option maxRecDepth 100000

theorem nums_of {xs : List ByteArray} {zs : List Int} (h : Goods xs zs) : nums xs = zs := (goods_num xs zs h).symm
theorem el_facts {g a : List ByteArray} (hg : gchk g = 0) (hm : mchk g a = 0) (hdn : ∀ s ∈ g, ∀ z, Good s z → dn z ≤ 500) :
    g = (nums g).map txt ∧ a = (nums a).map txt ∧ (nums a).length = (nums g).length ∧ (nums g).length ≤ 16 ∧ (∀ z ∈ nums g, dn z ≤ 500) ∧ (∀ z ∈ nums a, dn z ≤ 500) ∧ ∀ z ∈ nums g, z ≠ 0 := by
  obtain ⟨zs, hG⟩ := grp_of hg
  obtain ⟨us, hus, hel, hal, -, -⟩ := elt_tx hG hm
  have hz := hG.good.len
  have hu := hus.len
  have hd : ∀ i (h : i < zs.length), dn zs[i] ≤ 500 := fun i h => hdn _ (List.getElem_mem (show i < g.length by omega)) _ (hG.good.get i (by omega) h)
  rw [nums_of hG.good, nums_of hus]
  refine ⟨goods_txt hG.good, goods_txt hus, by omega, by rw [hz]; exact hG.len, fun z h => ?_, fun z h => ?_, fun z h => ?_⟩
  · obtain ⟨i, hi, rfl⟩ := List.getElem_of_mem h; exact hd i hi
  · obtain ⟨i, hi, rfl⟩ := List.getElem_of_mem h
    have h1 := hel i (by omega) hi
    exact Nat.le_trans (dn_le (by omega)) (hd i (by omega))
  · have := hG.two z h; omega
theorem gm1 : Good ⟨#[45, 49]⟩ (-1) := good_lit (by decide) (by decide)

theorem bytes_ne {s t : ByteArray} (h : s ≠ t) : (s.toList == t.toList) = false := by
  rw [beq_eq_false_iff_ne]
  intro e
  apply h
  rw [ByteArray.toList_eq, ByteArray.toList_eq] at e
  exact ByteArray.ext (Array.toList_inj.1 e)
set_option maxHeartbeats 1000000 in
theorem rSame_any (w : World) (v u : Value) (xs ys : List ByteArray) (hv : Sl eS w v xs) (hu : Sl eS w u ys) :
    Calls Tryz.prog 63 #[v, u] w (Rets fun r w' => r = .bool (decide (xs = ys)) ∧ Below w.heap.size w w') := by
  obtain ⟨a, b, o, c, rfl, hi, hp, hc, hm⟩ := hv.open elemStr
  obtain ⟨a', b', o', c', rfl, hi', hp', hc', hm'⟩ := hu.open elemStr
  clear hv hu
  unfold maxLen at hm hm'
  by_cases hl : xs.length = ys.length
  · have HL := Lib.hid hl
    have hne : ((xs.length : Int) != (ys.length : Int)) = false := by simp [hl]
    clear hl
    go_enter Tryz.func63, Tryz.ntmps63
    go_wp2
    go_loopw [5] (fun i wr => ∃ k : Nat, k ≤ xs.length ∧ i = .int .i64 k ∧ Hid (xs.take k = ys.take k) ∧ Below w.heap.size w wr) (fun i _ => xs.length - (intOf i).toNat)
    case atStart => exact ⟨0, Nat.zero_le _, rfl, Lib.hid (by simp), Below.refl _ _⟩
    case round =>
      obtain ⟨k, hk, rfl, hE, hb⟩ := hrel
      by_cases hkn : k < xs.length
      · have hky : k < ys.length := by rw [← HL.out]; exact hkn
        have h1 : wr.cell? ⟨b, o + k, none⟩ = some (.string xs[k]) := hp.at hb (Nat.le_refl _) k hkn
        have h2 : wr.cell? ⟨b', o' + k, none⟩ = some (.string ys[k]) := hp'.at hb (Nat.le_refl _) k hky
        have q1 : (0 : Int) ≤ (k : Int) := by omega
        have q2 : (k : Int) < (xs.length : Int) := by omega
        have q3 : (k : Int) < (ys.length : Int) := by omega
        by_cases hx : xs[k] = ys[k]
        · rw [hx] at h1
          have HN := Lib.hid (show xs.take (k + 1) = ys.take (k + 1) by rw [List.take_succ_eq_append_getElem hkn, List.take_succ_eq_append_getElem hky, hE.out, hx])
          clear hx
          go_wp2_with fail
          go_quiet (fail)
          have b3 := below_drewN hb nq
          go_wp2
          go_roundw
          case rel => exact ⟨k + 1, by omega, by go_num, HN, b3⟩
          case measure => simp [intOf]; omega
        · have HD := Lib.hid (show decide (xs = ys) = false by
            rw [decide_eq_false_iff_not]
            intro e
            apply hx
            subst e
            rfl)
          have ht := bytes_ne hx
          clear hx
          go_wp2_with fail
          go_quiet (fail)
          have b3 := below_drewN hb nq
          go_wp2
          go_ret
          exact ⟨_, rfl, by rw [HD.out]; rfl, b3⟩
      · obtain rfl : k = xs.length := by omega
        have HD := Lib.hid (show decide (xs = ys) = true by
          rw [decide_eq_true_iff]
          have := hE.out
          rw [List.take_length, HL.out, List.take_length] at this
          exact this)
        go_wp2
        go_ret
        exact ⟨_, rfl, by rw [HD.out]; rfl, hb⟩
  · have hne : ((xs.length : Int) != (ys.length : Int)) = true := by simp; omega
    have HD := Lib.hid (show decide (xs = ys) = false by rw [decide_eq_false_iff_not]; intro e; exact hl (by rw [e]))
    clear hl
    go_enter Tryz.func63, Tryz.ntmps63
    go_wp2
    go_ret
    exact ⟨_, rfl, by rw [HD.out]; rfl, Below.refl _ _⟩
end Go.Proofs.YtajkhbpffakmfaaGreatDoor

namespace Go.Proofs.YtajkhbpffakmfaaGreatDoor
open Go.RowKit
set_option maxRecDepth 100000

set_option maxHeartbeats 1000000 in
theorem Equal_same (w : World) (v u : Value) (xs : List ByteArray) (hv : Sl eS w v xs) (hu : Sl eS w u xs) :
    Calls Tryz.prog 38 #[v, u] w (Rets fun v w' => v = .bool true ∧ Below w.heap.size w w') := by
  obtain ⟨a, b, o, c, rfl, hi, hp, hc, hm⟩ := hv.open elemStr
  obtain ⟨a', b', o', c', rfl, hi', hp', hc', hm'⟩ := hu.open elemStr
  clear hv hu
  unfold maxLen at hm hm'
  go_enter Tryz.func38, Tryz.ntmps38
  go_wp2
  go_loopw [13] (fun i wr => ∃ k : Nat, k ≤ xs.length ∧ i = .int .i64 k ∧ Below w.heap.size w wr) (fun i _ => xs.length - (intOf i).toNat)
  case atStart => exact ⟨0, Nat.zero_le _, rfl, Below.refl _ _⟩
  case round =>
    obtain ⟨k, hk, rfl, hb⟩ := hrel
    by_cases hkn : k < xs.length
    · have h1 : wr.cell? ⟨b, o + k, none⟩ = some (.string xs[k]) := hp.at hb (Nat.le_refl _) k hkn
      have h2 : wr.cell? ⟨b', o' + k, none⟩ = some (.string xs[k]) := hp'.at hb (Nat.le_refl _) k hkn
      have q1 : (0 : Int) ≤ (k : Int) := by omega
      have q2 : (k : Int) < (xs.length : Int) := by omega
      go_wp2_with fail
      go_quiet (fail)
      have b3 := below_drewN hb nq
      go_wp2
      go_roundw
      case rel => exact ⟨k + 1, by omega, by go_num, b3⟩
      case measure => simp [intOf]; omega
    · obtain rfl : k = xs.length := by omega
      go_wp2
      go_ret
      exact ⟨_, rfl, rfl, hb⟩

set_option maxHeartbeats 400000 in
theorem Order_err (w : World) (v : Value) (g : List ByteArray) (hv : Sl eS w v g) (hg : gchk g ≠ 0) (hsz : g.length ≤ 16 → ∀ s ∈ g, s.size ≤ 1000000) (he : Env w) :
    Calls Tryz.prog 25 #[v] w (Rets fun r w' => r = .tuple #[.string ⟨#[]⟩, .int .i64 (gchk g)] ∧ Below w.heap.size w w') := by
  have HV := Lib.hid hv; have HSZ := Lib.hid hsz; have HE := Lib.hid he
  have hne : (gchk g != 0) = true := by simp [hg]
  obtain ⟨ad, b, o, c, rfl, -, -, -, -⟩ := hv.open elemStr
  clear hv hsz he hg
  go_enter Tryz.func25, Tryz.ntmps25
  go_wp2_with (go_at_call 56; (with_reducible refine (ACheck_any _ _ g HV.out HSZ.out HE.out).mono ?_); rintro e w1 ⟨v, rfl, rfl, hb1⟩)
  go_ret2
  exact ⟨_, rfl, rfl, hb1⟩
set_option maxHeartbeats 400000 in
theorem Order_ok (w : World) (v : Value) (g : List ByteArray) (zs : List Int) (hv : Sl eS w v g) (hz : Goods g zs) (h2 : ∀ z ∈ zs, 2 ≤ z) (hg : gchk g = 0) (hsz : ∀ s ∈ g, s.size ≤ 1000000) (he : Env w) :
    Calls Tryz.prog 25 #[v] w (Rets fun r w' => r = resV (prods zs) ∧ Below w.heap.size w w') := by
  obtain ⟨tt, kk, hr, -, -⟩ := resV_cases (prods zs)
  have HV := Lib.hid hv; have HSZ := Lib.hid hsz; have HE := Lib.hid he; have HG := Lib.hid hg; have HZ := Lib.hid hz; have HR := Lib.hid hr
  have HP := Lib.hid (show ∀ z ∈ zs, 1 ≤ z from fun z hz => by have := h2 z hz; omega)
  obtain ⟨ad, b, o, c, rfl, -, -, -, -⟩ := hv.open elemStr
  clear hv hsz he hg hz hr h2
  go_enter Tryz.func25, Tryz.ntmps25
  go_wp2_with (first
    | (go_at_call 56; (with_reducible refine (ACheck_any _ _ g HV.out (fun _ => HSZ.out) HE.out).mono ?_); rintro e w1 ⟨v, rfl, rfl, hb1⟩; rw [HG.out])
    | (go_at_call 67; (with_reducible refine (folded_mul _ _ g zs (HV.out.below hb1 (Nat.le_refl _)) HZ.out HP.out (HE.out.below hb1 (Nat.le_refl _))).mono ?_); rintro e w2 ⟨v, rfl, rfl, hb2⟩; rw [HR.out]))
  go_ret2
  exact ⟨_, rfl, by rw [HR.out]; rfl, hb1.trans (hb2.mono hb1.size)⟩

/-- The last number of a group, or 1. -/
def lastOf (g : List ByteArray) : ByteArray := g.getLast?.getD ⟨#[49]⟩
theorem lastOf_eq (g : List ByteArray) (h : 0 < g.length) : lastOf g = g[g.length - 1]'(by omega) := by
  unfold lastOf
  rw [List.getLast?_eq_getElem?, List.getElem?_eq_getElem (by omega)]
  rfl
set_option maxHeartbeats 400000 in
theorem Exponent_err (w : World) (v : Value) (g : List ByteArray) (hv : Sl eS w v g) (hg : gchk g ≠ 0) (hsz : g.length ≤ 16 → ∀ s ∈ g, s.size ≤ 1000000) (he : Env w) :
    Calls Tryz.prog 54 #[v] w (Rets fun r w' => r = .tuple #[.string ⟨#[]⟩, .int .i64 (gchk g)] ∧ Below w.heap.size w w') := by
  have HV := Lib.hid hv; have HSZ := Lib.hid hsz; have HE := Lib.hid he
  have hne : (gchk g != 0) = true := by simp [hg]
  obtain ⟨ad, b, o, c, rfl, -, -, -, -⟩ := hv.open elemStr
  clear hv hsz he hg
  go_enter Tryz.func54, Tryz.ntmps54
  go_wp2_with (go_at_call 56; (with_reducible refine (ACheck_any _ _ g HV.out HSZ.out HE.out).mono ?_); rintro e w1 ⟨v, rfl, rfl, hb1⟩)
  go_ret2
  exact ⟨_, rfl, rfl, hb1⟩
set_option maxHeartbeats 400000 in
theorem Exponent_ok (w : World) (v : Value) (g : List ByteArray) (hv : Sl eS w v g) (hg : gchk g = 0) (hl : g.length ≤ 16) (hsz : ∀ s ∈ g, s.size ≤ 1000000) (he : Env w) :
    Calls Tryz.prog 54 #[v] w (Rets fun r w' => r = .tuple #[.string (lastOf g), .int .i64 0] ∧ Below w.heap.size w w') := by
  have HV := Lib.hid hv; have HSZ := Lib.hid hsz; have HE := Lib.hid he; have HG := Lib.hid hg
  obtain ⟨ad, b, o, c, rfl, hi, hp, hc, hm⟩ := hv.open elemStr
  clear hv hsz he hg
  by_cases h0 : g = []
  · subst h0
    have HV := Lib.hid (show Sl eS w (.slice ad 0 c) [] from HV.out)
    clear hp hi
    show Calls Tryz.prog 54 #[.slice ad 0 c] w _
    go_enter Tryz.func54, Tryz.ntmps54
    go_wp2_with (go_at_call 56; (with_reducible refine (ACheck_any _ _ [] HV.out (fun _ => HSZ.out) HE.out).mono ?_); rintro e w1 ⟨v, rfl, rfl, hb1⟩; rw [HG.out])
    go_ret2
    exact ⟨_, rfl, rfl, hb1⟩
  · have h1 : 0 < g.length := List.length_pos_iff.2 h0
    have hne : ((g.length : Int) == 0) = false := by simp; omega
    obtain ⟨k, hk⟩ : ∃ k, g.length = k + 1 := ⟨g.length - 1, by omega⟩
    have hkl : k < g.length := by omega
    have HLO := Lib.hid (show lastOf g = g[k] by rw [lastOf_eq g h1]; congr 1; omega)
    have HC := Lib.hid (show ∀ w', Below w.heap.size w w' → w'.cell? ⟨b, o + k, none⟩ = some (.string g[k]) from fun w' hb' => hp.at hb' (Nat.le_refl _) k hkl)
    have e1 : (g.length : Int) - 1 = (k : Int) := by omega
    have e2 : ((g.length : Int) - 1).toNat = k := by omega
    have q1 : (0 : Int) ≤ (k : Int) := by omega
    have q2 : (k : Int) < (g.length : Int) := by omega
    clear h0 hp hk
    go_enter Tryz.func54, Tryz.ntmps54
    go_wp2_with (go_at_call 56; (with_reducible refine (ACheck_any _ _ g HV.out (fun _ => HSZ.out) HE.out).mono ?_); rintro e w1 ⟨v, rfl, rfl, hb1⟩; rw [HG.out]; have h9 := HC.out _ hb1)
    go_ret2
    exact ⟨_, rfl, by rw [HLO.out]; rfl, hb1⟩

set_option maxHeartbeats 1000000 in
theorem OrderOf_err1 (w : World) (v u : Value) (g a : List ByteArray) (hv : Sl eS w v g) (hu : Sl eS w u a) (hg : gchk g ≠ 0) (hsz : g.length ≤ 16 → ∀ s ∈ g, s.size ≤ 1000000) (he : Env w) :
    Calls Tryz.prog 30 #[v, u] w (Rets fun r w' => r = .tuple #[.string ⟨#[]⟩, .int .i64 (gchk g)] ∧ Below w.heap.size w w') := by
  have HV := Lib.hid hv; have HSZ := Lib.hid hsz; have HE := Lib.hid he
  have hne : (gchk g != 0) = true := by simp [hg]
  obtain ⟨ad, b, o, c, rfl, -, -, -, -⟩ := hv.open elemStr
  obtain ⟨ad', b', o', c', rfl, -, -, -, -⟩ := hu.open elemStr
  have HB0 := Lib.hid ((Below.refl w.heap.size w).alloc (Nat.le_refl _) (.cells #[.slice ad' a.length c'] 22))
  clear hv hu hsz he hg
  go_enter Tryz.func30, Tryz.ntmps30
  go_wp2_with (go_at_call 56; (with_reducible refine (ACheck_any _ _ g (HV.out.below HB0.out (Nat.le_refl _)) HSZ.out (HE.out.below HB0.out (Nat.le_refl _))).mono ?_); rintro e w1 ⟨v, rfl, rfl, hb1⟩)
  go_ret2
  exact ⟨_, rfl, rfl, HB0.out.trans (hb1.mono HB0.out.size)⟩
set_option maxHeartbeats 1000000 in
theorem OrderOf_err2 (w : World) (v u : Value) (g a : List ByteArray) (zs : List Int) (hv : Sl eS w v g) (hu : Sl eS w u a) (hz : Goods g zs) (hg : gchk g = 0) (hm : mchk g a ≠ 0) (hl : g.length ≤ 16) (hsz : ∀ s ∈ g, s.size ≤ 1000000) (hsz' : a.length = g.length → ∀ s ∈ a, s.size ≤ 1000000) (he : Env w) :
    Calls Tryz.prog 30 #[v, u] w (Rets fun r w' => r = .tuple #[.string ⟨#[]⟩, .int .i64 (mchk g a)] ∧ Below w.heap.size w w') := by
  have HV := Lib.hid hv; have HU := Lib.hid hu; have HSZ := Lib.hid hsz; have HSZ' := Lib.hid hsz'; have HE := Lib.hid he; have HG := Lib.hid hg; have HZ := Lib.hid hz
  have hne : (mchk g a != 0) = true := by simp [hm]
  obtain ⟨ad, b, o, c, rfl, -, -, -, -⟩ := hv.open elemStr
  obtain ⟨ad', b', o', c', rfl, -, -, -, -⟩ := hu.open elemStr
  have hk0 := Blk.new w [.slice ad' a.length c'] 22
  have HK0 := Lib.hid hk0
  have HB0 := Lib.hid ((Below.refl w.heap.size w).alloc (Nat.le_refl _) (.cells #[.slice ad' a.length c'] 22))
  clear hv hu hsz he hg hm hz hsz' hk0
  go_enter Tryz.func30, Tryz.ntmps30
  go_wp2_with (first
    | (go_at_call 56; (with_reducible refine (ACheck_any _ _ g (HV.out.below HB0.out (Nat.le_refl _)) (fun _ => HSZ.out) (HE.out.below HB0.out (Nat.le_refl _))).mono ?_); rintro e w1 ⟨v, rfl, rfl, hb1⟩; rw [HG.out]; have b1 := HB0.out.trans (hb1.mono HB0.out.size); have hc1 := (HK0.out.below hb1 (Nat.le_refl _)).cell 0 _ rfl)
    | (go_at_call 72; (with_reducible refine (member_any _ _ _ g a zs (HV.out.below b1 (Nat.le_refl _)) (HU.out.below b1 (Nat.le_refl _)) HZ.out hl HSZ'.out).mono ?_); rintro e w2 ⟨v, rfl, rfl, hb2⟩; have b2 := b1.trans (hb2.mono b1.size)))
  go_ret2
  exact ⟨_, rfl, rfl, b2⟩
end Go.Proofs.YtajkhbpffakmfaaGreatDoor

namespace Go.Proofs.YtajkhbpffakmfaaGreatDoor
open Go.RowKit
set_option maxRecDepth 100000

/-- The greatest common divisors whose product is the number of elements of an order. -/
def gcds (zs : List Int) (y : Int) : List Int := zs.map fun z => ((Nat.gcd z.natAbs y.natAbs : Nat) : Int)
theorem gcd_small {z : Int} (y : Int) (h0 : 2 ≤ z) (hb : big z = false) : big ((Nat.gcd z.natAbs y.natAbs : Nat) : Int) = false := by
  refine (big_iff _).2 (Nat.lt_of_le_of_lt ?_ ((big_iff z).1 hb))
  rw [Int.natAbs_natCast]
  exact Nat.le_of_dvd (by omega) (Nat.gcd_dvd_left _ _)
theorem gcds_goods : ∀ (g : List ByteArray) (zs : List Int) (y : Int), Goods g zs → (∀ z ∈ zs, 2 ≤ z) → Goods ((gcds zs y).map txt) (gcds zs y)
  | [], [], _, _, _ => trivial
  | s :: l, z :: zs, y, h, h2 => ⟨⟨rfl, gcd_small y (h2 z (by simp)) h.1.2⟩, gcds_goods l zs y h.2 fun u hu => h2 u (by simp [hu])⟩
theorem gcds_pos (zs : List Int) (y : Int) (h2 : ∀ z ∈ zs, 2 ≤ z) : ∀ u ∈ gcds zs y, 1 ≤ u := by
  intro u hu
  obtain ⟨z, hz, rfl⟩ := List.mem_map.1 hu
  have := h2 z hz
  have := Nat.gcd_pos_of_pos_left y.natAbs (show 0 < z.natAbs by omega)
  omega

set_option maxHeartbeats 400000 in
theorem count_clos (w : World) (k bx : Nat) (s t : ByteArray) (z y : Int) (hs : Good s z) (h2 : 2 ≤ z) (ht : Good t y) (hcell : w.cell? ⟨bx, 0, none⟩ = some (.string t)) (he : Env w) :
    Calls Tryz.prog 68 #[.int .i64 k, .string s, .pointer (some ⟨bx, 0, none⟩)] w (Rets fun v w' => v = .string (txt ((Nat.gcd z.natAbs y.natAbs : Nat) : Int)) ∧ Below w.heap.size w w') := by
  obtain ⟨G, hG⟩ : ∃ G : Int, ((Nat.gcd z.natAbs y.natAbs : Nat) : Int) = G := ⟨_, rfl⟩
  have hb : big G = false := by rw [← hG]; exact gcd_small y h2 hs.2
  have hr := resV_eq G
  rw [resT_ok hb, resK_ok hb] at hr
  rw [hG]
  have HG := Lib.hid hG; have HR := Lib.hid hr; have HS := Lib.hid hs; have HT := Lib.hid ht; have HE := Lib.hid he
  clear hG hb hr hs ht he
  go_enter Tryz.func68, Tryz.ntmps68
  go_wp2_with (go_at_call 69; (with_reducible refine (Gcd_ok _ _ _ z y HS.out HT.out HE.out).mono ?_); rintro e w' ⟨v, rfl, rfl, hb⟩; rw [HG.out, HR.out])
  go_ret
  exact ⟨_, rfl, rfl, hb⟩

set_option maxHeartbeats 1000000 in
theorem Count_err1 (w : World) (v : Value) (g : List ByteArray) (t : ByteArray) (hv : Sl eS w v g) (hg : gchk g ≠ 0) (hsz : g.length ≤ 16 → ∀ s ∈ g, s.size ≤ 1000000) (he : Env w) :
    Calls Tryz.prog 26 #[v, .string t] w (Rets fun r w' => r = .tuple #[.string ⟨#[]⟩, .int .i64 (gchk g)] ∧ Below w.heap.size w w') := by
  have HV := Lib.hid hv; have HSZ := Lib.hid hsz; have HE := Lib.hid he
  have hne : (gchk g != 0) = true := by simp [hg]
  obtain ⟨ad, b, o, c, rfl, -, -, -, -⟩ := hv.open elemStr
  have HB0 := Lib.hid ((Below.refl w.heap.size w).alloc (Nat.le_refl _) (.cells #[.string t] 26))
  clear hv hsz he hg
  go_enter Tryz.func26, Tryz.ntmps26
  go_wp2_with (go_at_call 56; (with_reducible refine (ACheck_any _ _ g (HV.out.below HB0.out (Nat.le_refl _)) HSZ.out (HE.out.below HB0.out (Nat.le_refl _))).mono ?_); rintro e w1 ⟨v, rfl, rfl, hb1⟩)
  go_ret2
  exact ⟨_, rfl, rfl, HB0.out.trans (hb1.mono HB0.out.size)⟩
set_option maxHeartbeats 1000000 in
theorem Count_err2 (w : World) (v : Value) (g : List ByteArray) (t : ByteArray) (hv : Sl eS w v g) (hg : gchk g = 0) (_hl : g.length ≤ 16) (ht : chk t.data.toList ≠ 0) (hts : t.size ≤ 1000000) (hsz : ∀ s ∈ g, s.size ≤ 1000000) (he : Env w) :
    Calls Tryz.prog 26 #[v, .string t] w (Rets fun r w' => r = .tuple #[.string ⟨#[]⟩, .int .i64 (chk t.data.toList)] ∧ Below w.heap.size w w') := by
  have HV := Lib.hid hv; have HSZ := Lib.hid hsz; have HE := Lib.hid he; have HG := Lib.hid hg
  have hne : (chk t.data.toList != 0) = true := by simp [ht]
  obtain ⟨ad, b, o, c, rfl, -, -, -, -⟩ := hv.open elemStr
  have HK0 := Lib.hid (Blk.new w [.string t] 26)
  have HB0 := Lib.hid ((Below.refl w.heap.size w).alloc (Nat.le_refl _) (.cells #[.string t] 26))
  clear hv hsz he hg ht
  go_enter Tryz.func26, Tryz.ntmps26
  go_wp2_with (first
    | (go_at_call 56; (with_reducible refine (ACheck_any _ _ g (HV.out.below HB0.out (Nat.le_refl _)) (fun _ => HSZ.out) (HE.out.below HB0.out (Nat.le_refl _))).mono ?_); rintro e w1 ⟨v, rfl, rfl, hb1⟩; rw [HG.out]; have b1 := HB0.out.trans (hb1.mono HB0.out.size); have hc1 := (HK0.out.below hb1 (Nat.le_refl _)).cell 0 _ rfl)
    | (go_at_call 45; (with_reducible refine (check_any _ _ hts).mono ?_); rintro e w2 ⟨v, rfl, rfl, hb2⟩; have b2 := b1.trans (hb2.mono b1.size)))
  go_ret2
  exact ⟨_, rfl, rfl, b2⟩
set_option maxHeartbeats 1000000 in
theorem Count_err3 (w : World) (v : Value) (g : List ByteArray) (t : ByteArray) (y : Int) (hv : Sl eS w v g) (hg : gchk g = 0) (_hl : g.length ≤ 16) (ht : Good t y) (hy : y < 1) (hts : t.size ≤ 1000000) (hsz : ∀ s ∈ g, s.size ≤ 1000000) (he : Env w) :
    Calls Tryz.prog 26 #[v, .string t] w (Rets fun r w' => r = .tuple #[.string ⟨#[]⟩, .int .i64 2] ∧ Below w.heap.size w w') := by
  have HV := Lib.hid hv; have HSZ := Lib.hid hsz; have HE := Lib.hid he; have HG := Lib.hid hg; have HT := Lib.hid ht
  have HC := Lib.hid ht.chk
  have HS2 := Lib.hid (show (y - 1).sign = -1 from Int.sign_eq_neg_one_of_neg (by omega))
  obtain ⟨ad, b, o, c, rfl, -, -, -, -⟩ := hv.open elemStr
  have HK0 := Lib.hid (Blk.new w [.string t] 26)
  have HB0 := Lib.hid ((Below.refl w.heap.size w).alloc (Nat.le_refl _) (.cells #[.string t] 26))
  clear hv hsz he hg ht
  go_enter Tryz.func26, Tryz.ntmps26
  go_wp2_with (first
    | (go_at_call 56; (with_reducible refine (ACheck_any _ _ g (HV.out.below HB0.out (Nat.le_refl _)) (fun _ => HSZ.out) (HE.out.below HB0.out (Nat.le_refl _))).mono ?_); rintro e w1 ⟨v, rfl, rfl, hb1⟩; rw [HG.out]; have b1 := HB0.out.trans (hb1.mono HB0.out.size); have HK1 := Lib.hid (HK0.out.below hb1 (Nat.le_refl _)); have hc1 := HK1.out.cell 0 _ rfl)
    | (go_at_call 45; (with_reducible refine (check_any _ _ hts).mono ?_); rintro e w2 ⟨v, rfl, rfl, hb2⟩; rw [HC.out]; have b2 := b1.trans (hb2.mono b1.size); have hc2 := (HK1.out.below hb2 (Nat.le_refl _)).cell 0 _ rfl)
    | (go_at_call 57; (with_reducible refine (aorder_any _ _ _ y 1 HT.out g1).mono ?_); rintro e w3 ⟨v, rfl, rfl, hb3⟩; rw [HS2.out]; have b3 := b2.trans (hb3.mono b2.size)))
  go_ret2
  exact ⟨_, rfl, rfl, b3⟩
set_option maxHeartbeats 2000000 in
theorem Count_ok (w : World) (v : Value) (g : List ByteArray) (zs : List Int) (t : ByteArray) (y : Int) (hv : Sl eS w v g) (hz : Goods g zs) (h2 : ∀ z ∈ zs, 2 ≤ z) (hg : gchk g = 0) (_hl : g.length ≤ 16) (ht : Good t y) (hy : 1 ≤ y) (hts : t.size ≤ 1000000) (hsz : ∀ s ∈ g, s.size ≤ 1000000) (he : Env w) :
    Calls Tryz.prog 26 #[v, .string t] w (Rets fun r w' => r = resV (prods (gcds zs y)) ∧ Below w.heap.size w w') := by
  obtain ⟨tt, kk, hr, -, -⟩ := resV_cases (prods (gcds zs y))
  have HR := Lib.hid hr
  have HV := Lib.hid hv; have HSZ := Lib.hid hsz; have HE := Lib.hid he; have HG := Lib.hid hg; have HT := Lib.hid ht
  have HC := Lib.hid ht.chk
  obtain ⟨sg, hsg, hsg0⟩ : ∃ u, (y - 1).sign = u ∧ 0 ≤ u := ⟨_, rfl, by
    rcases Int.lt_or_eq_of_le hy with h | h
    · rw [Int.sign_eq_one_of_pos (by omega)]; omega
    · rw [← h]; decide⟩
  have HS2 := Lib.hid hsg
  obtain ⟨ad, b, o, c, rfl, -, -, -, -⟩ := hv.open elemStr
  have hk0 := Blk.new w [.string t] 26
  have HK0 := Lib.hid hk0
  have HB0 := Lib.hid ((Below.refl w.heap.size w).alloc (Nat.le_refl _) (.cells #[.string t] 26))
  have hmf : ∀ (fn : Fn) (first cap : Array Value) (w : World), (Instr.makeFunc fn first cap).run Tryz.prog w = .ok (.func fn first cap) w := fun _ _ _ _ => rfl
  have HQM := Lib.hid (show ((gcds zs y).map txt).length = g.length by rw [List.length_map, gcds, List.length_map, hz.len])
  have HGS := Lib.hid (gcds_goods g zs y hz h2)
  have HGP := Lib.hid (gcds_pos zs y h2)
  have hclos : ∀ w', Env w' → Blk w' w.heap.size [.string t] 26 → ∀ k (hk : k < g.length) (hk' : k < ((gcds zs y).map txt).length),
      Calls Tryz.prog 68 #[.int .i64 k, .string g[k], .pointer (some ⟨w.heap.size, 0, none⟩)] w' (Rets fun v w'' => v = .string ((gcds zs y).map txt)[k] ∧ Below w'.heap.size w' w'') := by
    intro w' he' hk0' k hk hk'
    have hkz : k < zs.length := by rw [hz.len]; exact hk
    have e : ((gcds zs y).map txt)[k] = txt ((Nat.gcd zs[k].natAbs y.natAbs : Nat) : Int) := by simp [gcds]
    rw [e]
    exact count_clos w' k w.heap.size g[k] t zs[k] y (hz.get k hk hkz) (h2 _ (List.getElem_mem hkz)) ht (hk0'.cell 0 _ rfl) he'
  have HCL := Lib.hid hclos
  clear hv hsz he hg ht hr hz h2 hclos hsg hk0
  go_enter Tryz.func26, Tryz.ntmps26
  go_wp2_with (first
    | (go_at_call 56; (with_reducible refine (ACheck_any _ _ g (HV.out.below HB0.out (Nat.le_refl _)) (fun _ => HSZ.out) (HE.out.below HB0.out (Nat.le_refl _))).mono ?_); rintro e w1 ⟨v, rfl, rfl, hb1⟩; rw [HG.out]; have b1 := HB0.out.trans (hb1.mono HB0.out.size); have HK1 := Lib.hid (HK0.out.below hb1 (Nat.le_refl _)); have hc1 := HK1.out.cell 0 _ rfl)
    | (go_at_call 45; (with_reducible refine (check_any _ _ hts).mono ?_); rintro e w2 ⟨v, rfl, rfl, hb2⟩; rw [HC.out]; have b2 := b1.trans (hb2.mono b1.size); have HK2 := Lib.hid (HK1.out.below hb2 (Nat.le_refl _)); have hc2 := HK2.out.cell 0 _ rfl)
    | (go_at_call 57; (with_reducible refine (aorder_any _ _ _ y 1 HT.out g1).mono ?_); rintro e w3 ⟨v, rfl, rfl, hb3⟩; rw [HS2.out]; have b3 := b2.trans (hb3.mono b2.size); have HK3 := Lib.hid (HK2.out.below hb3 (Nat.le_refl _)))
    | (go_at_call 60; (with_reducible refine (each_counts _ _ _ g ((gcds zs y).map txt) (HV.out.below b3 (Nat.le_refl _)) (by omega) HQM.out (fun k hk hk' w' hb' => HCL.out w' (HE.out.below (b3.trans (hb'.mono b3.size)) (Nat.le_refl _)) (HK3.out.below hb' (Nat.le_refl _)) k hk hk')).mono ?_); rintro e w4 ⟨v4, rfl, hs4, hb4⟩; have HS4 := Lib.hid hs4; have b4 := b3.trans (hb4.mono b3.size); clear hs4)
    | (go_at_call 67; (with_reducible refine (folded_mul _ _ _ _ HS4.out HGS.out HGP.out (HE.out.below b4 (Nat.le_refl _))).mono ?_); rintro e w5 ⟨v, rfl, rfl, hb5⟩; have b5 := b4.trans (hb5.mono b4.size); rw [HR.out]))
  go_ret2
  exact ⟨_, rfl, by rw [HR.out]; rfl, b5⟩
end Go.Proofs.YtajkhbpffakmfaaGreatDoor

namespace Go.Proofs.YtajkhbpffakmfaaGreatDoor
open Go.RowKit
set_option maxRecDepth 100000

theorem prods_dn {K : Nat} : ∀ (zs : List Int) (a : Int), (∀ z ∈ zs, dn z ≤ K) → dn (zs.foldl (· * ·) a) ≤ dn a + K * zs.length
  | [], a, _ => by simp
  | z :: l, a, h => by
    rw [List.foldl_cons]
    have := prods_dn l (a * z) fun x hx => h x (by simp [hx])
    have h1 := h z (by simp)
    have h2 := dn_mul a z
    rw [List.length_cons, Nat.mul_add]
    omega
theorem prods_dn_take {K : Nat} (zs : List Int) (k : Nat) (h : ∀ z ∈ zs, dn z ≤ K) (hl : zs.length ≤ 16) : dn (prods (zs.take k)) ≤ 1 + K * 16 := by
  have h1 := prods_dn (zs.take k) 1 fun z hz => h z (List.mem_of_mem_take hz)
  have h2 : K * (zs.take k).length ≤ K * 16 := Nat.mul_le_mul_left _ (by simp; omega)
  have h3 : dn 1 = 1 := by decide +kernel
  unfold prods
  omega
theorem ord_one (w : World) (x : Int) (hx : dn x ≤ 90000) : Calls Tryz.prog 17 #[.string (txt x), .string ⟨#[49]⟩] w (Rets fun v w' => v = .int .i64 (x - 1).sign ∧ Below w.heap.size w w') := by
  rw [g1.eq]; exact Order_any w x 1 hx (by have := g1.dn; omega)
set_option maxHeartbeats 1000000 in
theorem Size_any (w : World) (v : Value) (g : List ByteArray) (zs : List Int) (hv : Sl eS w v g) (hz : g = zs.map txt) (hd : ∀ z ∈ zs, dn z ≤ 500) (hl : zs.length ≤ 16) :
    Calls Tryz.prog 18 #[v] w (Rets fun r w' => r = .string (txt (prods zs)) ∧ Below w.heap.size w w') := by
  obtain ⟨ad, b, o, c, rfl, hi, hp, hc, hm⟩ := hv.open elemStr
  have hgl : g.length = zs.length := by rw [hz, List.length_map]
  have C := fun k hk => cell_txt hp hz k hk
  rw [hgl] at hi ⊢
  have HC := Lib.hid C; have HD := Lib.hid hd
  have HT := Lib.hid (fun k => prods_dn_take zs k hd hl)
  clear hv hz hd hgl C hp
  unfold maxLen at hm
  go_enter Tryz.func18, Tryz.ntmps18
  go_wp2
  go_loopw [3, 4] (fun p i wr => ∃ k : Nat, k ≤ zs.length ∧ i = .int .i64 k ∧ Hid (p = .string (txt (prods (zs.take k)))) ∧ Below w.heap.size w wr) (fun _ i _ => zs.length - (intOf i).toNat)
  case atStart => exact ⟨0, Nat.zero_le _, rfl, Lib.hid (by rw [one_text]; rfl), Below.refl _ _⟩
  case round =>
    obtain ⟨k, hk, rfl, ho, hb⟩ := hrel
    obtain rfl := ho.out
    clear ho
    by_cases hkn : k < zs.length
    · have h1 := HC.out k hkn _ hb
      have HZ := Lib.hid (HD.out _ (List.getElem_mem hkn))
      have HPT := Lib.hid (prods_take zs k hkn).symm
      go_wp2_with (go_at_call 52; (with_reducible refine (Times_any _ (prods (zs.take k)) zs[k] (by have := HT.out k; omega) (by have := HZ.out; omega)).mono ?_); rintro e w1 ⟨v, rfl, rfl, hb1⟩; rw [HPT.out])
      go_roundw
      case rel => exact ⟨k + 1, by omega, by go_num, Lib.hid rfl, hb.trans (hb1.mono hb.size)⟩
      case measure => simp [intOf]; omega
    · obtain rfl : k = zs.length := by omega
      have e1 : zs.take zs.length = zs := List.take_length
      rw [e1]
      clear e1
      go_wp2
      go_ret
      exact ⟨_, rfl, rfl, hb⟩

/-- The numbers of a right group, as integers. -/
theorem grp_facts {g : List ByteArray} (hg : gchk g = 0) (hdn : ∀ s ∈ g, ∀ z, Good s z → dn z ≤ 500) :
    Goods g (nums g) ∧ g = (nums g).map txt ∧ (nums g).length = g.length ∧ (nums g).length ≤ 16 ∧ (∀ z ∈ nums g, dn z ≤ 500) ∧ ∀ z ∈ nums g, 2 ≤ z := by
  obtain ⟨zs, hG⟩ := grp_of hg
  have hz := hG.good.len
  rw [nums_of hG.good]
  refine ⟨hG.good, goods_txt hG.good, hz, by rw [hz]; exact hG.len, fun z h => ?_, hG.two⟩
  obtain ⟨i, hi, rfl⟩ := List.getElem_of_mem h
  exact hdn _ (List.getElem_mem (show i < g.length by omega)) _ (hG.good.get i (by omega) hi)
/-- What Order and Count answer. -/
def orderS (g : List ByteArray) : ByteArray × Int := if gchk g = 0 then (resT (prods (nums g)), resK (prods (nums g))) else (⟨#[]⟩, gchk g)
def countS (g : List ByteArray) (k : ByteArray) : ByteArray × Int :=
  if gchk g = 0 then (if chk k.data.toList = 0 then (if num k < 1 then (⟨#[]⟩, 2) else (resT (prods (gcds (nums g) (num k))), resK (prods (gcds (nums g) (num k))))) else (⟨#[]⟩, chk k.data.toList)) else (⟨#[]⟩, gchk g)
theorem AOrder_any (w : World) (v : Value) (g : List ByteArray) (hv : Sl eS w v g) (hsg : g.length ≤ 16 → ∀ s ∈ g, s.size ≤ 1000000) (he : Env w) :
    Calls Tryz.prog 25 #[v] w (Rets fun r w' => r = .tuple #[.string (orderS g).1, .int .i64 (orderS g).2] ∧ Below w.heap.size w w') := by
  by_cases hg : gchk g = 0
  · obtain ⟨zs, hG⟩ := grp_of hg
    have := Order_ok w v g zs hv hG.good hG.two hg (hsg hG.len) he
    rw [resV_eq] at this
    unfold orderS
    rw [if_pos hg, nums_of hG.good]
    exact this
  · have := Order_err w v g hv hg hsg he
    unfold orderS
    rw [if_neg hg]
    exact this
theorem ACount_any (w : World) (v : Value) (g : List ByteArray) (k : ByteArray) (hv : Sl eS w v g) (hsg : g.length ≤ 16 → ∀ s ∈ g, s.size ≤ 1000000) (hsk : k.size ≤ 1000000) (he : Env w) :
    Calls Tryz.prog 26 #[v, .string k] w (Rets fun r w' => r = .tuple #[.string (countS g k).1, .int .i64 (countS g k).2] ∧ Below w.heap.size w w') := by
  unfold countS
  by_cases hg : gchk g = 0
  · obtain ⟨zs, hG⟩ := grp_of hg
    have hs := hsg hG.len
    rw [if_pos hg]
    by_cases hk : chk k.data.toList = 0
    · rw [if_pos hk]
      by_cases h1 : num k < 1
      · rw [if_pos h1]
        exact Count_err3 w v g k (num k) hv hg hG.len (good_num hk) h1 hsk hs he
      · rw [if_neg h1, nums_of hG.good]
        have := Count_ok w v g zs k (num k) hv hG.good hG.two hg hG.len (good_num hk) (by omega) hsk hs he
        rw [resV_eq] at this
        exact this
    · rw [if_neg hk]
      exact Count_err2 w v g k hv hg hG.len hk hsk hs he
  · rw [if_neg hg]
    exact Count_err1 w v g k hv hg hsg he
theorem gcds_dn {zs : List Int} {y : Int} (h2 : ∀ z ∈ zs, 2 ≤ z) (hd : ∀ z ∈ zs, dn z ≤ 500) : ∀ u ∈ gcds zs y, dn u ≤ 500 := by
  intro u hu
  obtain ⟨z, hz, rfl⟩ := List.mem_map.1 hu
  have h1 := h2 z hz
  have : Nat.gcd z.natAbs y.natAbs ≤ z.natAbs := Nat.le_of_dvd (by omega) (Nat.gcd_dvd_left _ _)
  exact Nat.le_trans (dn_le (by rw [Int.natAbs_natCast]; exact this)) (hd z hz)
theorem gcds_len (zs : List Int) (y : Int) : (gcds zs y).length = zs.length := by simp [gcds]
end Go.Proofs.YtajkhbpffakmfaaGreatDoor

namespace Go.Proofs.YtajkhbpffakmfaaGreatDoor
open Go.RowKit
set_option maxRecDepth 100000

/-- The first error of a diagonal. -/
def ostep : Option ByteArray → List ByteArray → Int
  | _, [] => 0
  | p, s :: l => if chk s.data.toList = 0 then (if num s < 0 then 2 else if num s = 0 then 10 else if fits p s then ostep (some s) l else 9) else chk s.data.toList
def ochk (xs : List ByteArray) : Int := if 16 < xs.length then 5 else ostep none xs
/-- What Of keeps. -/
def okeep (xs : List ByteArray) : List ByteArray := if ochk xs = 0 then xs.filter fun s => !isOne s else []
structure OAt (xs : List ByteArray) (k : Nat) : Prop where
  le : k ≤ xs.length
  eq : ochk xs = ostep (before xs k) (xs.drop k)
  prev : ∀ h : 0 < k, ∃ z, Good (xs[k - 1]'(by omega)) z ∧ 1 ≤ z
theorem OAt.start {xs : List ByteArray} (h : xs.length ≤ 16) : OAt xs 0 := ⟨Nat.zero_le _, by unfold ochk; rw [if_neg (by omega)]; rfl, fun h => absurd h (by omega)⟩
theorem OAt.next {xs : List ByteArray} {k : Nat} (h : OAt xs k) (hk : k < xs.length) (h0 : chk xs[k].data.toList = 0) (h1 : ¬ num xs[k] < 0) (h2 : ¬ num xs[k] = 0) (hf : fits (before xs k) xs[k] = true) : OAt xs (k + 1) :=
  ⟨hk, by rw [h.eq, List.drop_eq_getElem_cons hk, ostep, if_pos h0, if_neg h1, if_neg h2, if_pos hf, before_succ xs k hk], fun _ => ⟨num xs[k], by simpa using good_num h0, by omega⟩⟩
theorem OAt.val {xs : List ByteArray} {k : Nat} (h : OAt xs k) (hk : k < xs.length) : ochk xs = if chk xs[k].data.toList = 0 then (if num xs[k] < 0 then 2 else if num xs[k] = 0 then 10 else if fits (before xs k) xs[k] then ostep (some xs[k]) (xs.drop (k + 1)) else 9) else chk xs[k].data.toList := by
  rw [h.eq, List.drop_eq_getElem_cons hk, ostep]
theorem OAt.done {xs : List ByteArray} (h : OAt xs xs.length) : ochk xs = 0 := by rw [h.eq, List.drop_length]; cases before xs xs.length <;> rfl

theorem lit_zero (ch : UInt8) (rs : List UInt8) : ((⟨(ch :: rs).toArray⟩ : ByteArray).toList == [48]) = (ch == 48 && rs.isEmpty) := by
  rw [ByteArray.toList_eq]
  cases rs <;> simp
set_option maxHeartbeats 4000000 in
theorem AOf_any (w : World) (v : Value) (xs : List ByteArray) (hv : Sl eS w v xs) (hsz : xs.length ≤ 16 → ∀ s ∈ xs, s.size ≤ 1000000) (he : Env w) :
    Calls Tryz.prog 55 #[v] w (Rets fun v w' => ∃ r, v = .tuple #[r, .int .i64 (ochk xs)] ∧ Sl eS w' r (okeep xs) ∧ Below w.heap.size w w') := by
  have HVV := Lib.hid hv
  obtain ⟨a, b, o, c, rfl, hi, hp, hc, hm⟩ := hv.open elemStr
  have HE := Lib.hid he
  clear hv he
  unfold maxLen at hm
  by_cases h16 : 16 < xs.length
  · have HG := Lib.hid (show ochk xs = 5 by unfold ochk; rw [if_pos h16])
    clear hsz
    go_enter Tryz.func55, Tryz.ntmps55
    go_wp2
    go_ret2
    exact ⟨_, rfl, _, by rw [HG.out]; rfl, by rw [okeep, HG.out, if_neg (by decide)]; exact Sl.nil, Below.refl _ _⟩
  · have hs := hsz (by omega)
    have HS := Lib.hid hs
    have hl : xs.length ≤ 16 := by omega
    clear hsz hs
    go_enter Tryz.func55, Tryz.ntmps55
    go_wp2
    go_loopw [12] (fun i wr => ∃ k : Nat, k ≤ xs.length ∧ i = .int .i64 k ∧ Hid (OAt xs k) ∧ Below w.heap.size w wr) (fun i _ => xs.length - (intOf i).toNat)
    case atStart => exact ⟨0, Nat.zero_le _, rfl, Lib.hid (OAt.start hl), Below.refl _ _⟩
    case round =>
      obtain ⟨k, hk, rfl, hA, hb⟩ := hrel
      by_cases hkn : k < xs.length
      · have h1 : wr.cell? ⟨b, o + k, none⟩ = some (.string xs[k]) := hp.at hb (Nat.le_refl _) k hkn
        have hV := hA.out.val hkn
        have hsk := HS.out _ (List.getElem_mem hkn)
        by_cases h0 : chk xs[k].data.toList = 0
        · rw [if_pos h0] at hV
          have hG := good_num h0
          obtain ⟨y, hy⟩ : ∃ y, num xs[k] = y := ⟨_, rfl⟩
          rw [hy] at hG hV
          obtain ⟨ch, rs, ht, hch⟩ := txt_head y
          have hax : xs[k] = ⟨(ch :: rs).toArray⟩ := by rw [hG.eq, ht]
          have hs0 : ∀ h, (({ data := (ch :: rs).toArray } : ByteArray)[0]'h) = ch := fun _ => rfl
          have HNX := Lib.hid (fun h1 h2 hf => hA.out.next hkn h0 (by rw [hy]; exact h1) (by rw [hy]; exact h2) hf)
          have HC := Lib.hid (show chk (⟨(ch :: rs).toArray⟩ : ByteArray).data.toList = 0 by rw [← hax]; exact h0)
          have HG := Lib.hid (show Good (⟨(ch :: rs).toArray⟩ : ByteArray) y by rw [← hax]; exact hG)
          have HSK := Lib.hid (show (⟨(ch :: rs).toArray⟩ : ByteArray).size ≤ 1000000 by rw [← hax]; exact hsk)
          rw [hax] at h1
          by_cases hneg : y < 0
          · rw [if_pos hneg] at hV
            have HV := Lib.hid hV
            have hc45 : ((ch.toNat : Int) == 45) = true := by rw [hch]; simp [hneg]
            clear hV hG h0 hsk hy ht hch hax hneg
            go_wp2_with (go_at_call 45; (with_reducible refine (check_any _ _ HSK.out).mono ?_); rintro e w1 ⟨v, rfl, rfl, hb1⟩; rw [HC.out]; have b1 := hb.trans (hb1.mono hb.size))
            go_ret2
            exact ⟨_, rfl, _, by rw [HV.out]; rfl, by rw [okeep, HV.out, if_neg (by decide)]; exact Sl.nil, b1⟩
          · rw [if_neg hneg] at hV
            have hc45 : ((ch.toNat : Int) == 45) = false := by rw [hch]; simp [hneg]
            by_cases hz : y = 0
            · rw [if_pos hz] at hV
              have HV := Lib.hid hV
              have hzz : (ch == 48 && rs.isEmpty) = true := by rw [← lit_zero, ← ht, hz, txt_list, itoa0]; rfl
              clear hV hG h0 hsk hy ht hch hax hneg hz
              go_wp2_with (go_at_call 45; (with_reducible refine (check_any _ _ HSK.out).mono ?_); rintro e w1 ⟨v, rfl, rfl, hb1⟩; rw [HC.out]; have b1 := hb.trans (hb1.mono hb.size))
              go_ret2
              exact ⟨_, rfl, _, by rw [HV.out]; rfl, by rw [okeep, HV.out, if_neg (by decide)]; exact Sl.nil, b1⟩
            · rw [if_neg hz] at hV
              have hzz : (ch == 48 && rs.isEmpty) = false := by rw [← lit_zero, ← ht]; exact txt_ne0 hz
              rcases k with _ | k
              · rw [Nat.add_zero] at h1
                have HN := Lib.hid (HNX.out hneg hz rfl)
                clear hV hG h0 hsk hy ht hch hax hneg hz
                go_wp2_with (go_at_call 45; (with_reducible refine (check_any _ _ HSK.out).mono ?_); rintro e w1 ⟨v, rfl, rfl, hb1⟩; rw [HC.out]; have b1 := hb.trans (hb1.mono hb.size))
                go_roundw
                case rel => exact ⟨1, by omega, rfl, HN, b1⟩
                case measure => simp [intOf]; omega
              · have hkp : k < xs.length := by omega
                obtain ⟨z, hgz, hz1⟩ := hA.out.prev (by omega)
                have hgz : Good xs[k] z := by simpa using hgz
                have hbf : fits (before xs (k + 1)) xs[k + 1] = decide (Int.fmod y z = 0) := by rw [before_succ xs k hkp]; simp only [fits]; rw [hgz.num, hy]
                have HZ := Lib.hid hgz; have HZ0 := Lib.hid (show z ≠ 0 by omega)
                by_cases hf : Int.fmod y z = 0
                · have HD := Lib.hid (show decide (Int.fmod y z = 0) = true by simp [hf])
                  have HN := Lib.hid (HNX.out hneg hz (by rw [hbf, HD.out]))
                  clear hV hG h0 hsk hy ht hch hax hneg hz hgz hbf hf
                  go_wp2_with (first
                    | (go_at_call 45; (with_reducible refine (check_any _ _ HSK.out).mono ?_); rintro e w1 ⟨v, rfl, rfl, hb1⟩; rw [HC.out]; have b1 := hb.trans (hb1.mono hb.size); have h4 : w1.cell? ⟨b, o + k, none⟩ = some (.string xs[k]) := hp.at b1 (Nat.le_refl _) k hkp)
                    | (go_at_call 106; (with_reducible refine (adivides_any _ _ _ z y HZ.out HG.out HZ0.out (HE.out.below b1 (Nat.le_refl _))).mono ?_); rintro e w3 ⟨v, rfl, rfl, hb3⟩; rw [HD.out]; have b3 := b1.trans (hb3.mono b1.size)))
                  go_roundw
                  case rel => exact ⟨k + 2, by omega, by go_num, HN, b3⟩
                  case measure => simp [intOf]; omega
                · have HD := Lib.hid (show decide (Int.fmod y z = 0) = false by simp [hf])
                  rw [hbf, HD.out, if_neg (by decide)] at hV
                  have HV := Lib.hid hV
                  clear hV hG h0 hsk hy ht hch hax hneg hz hgz hbf hf
                  go_wp2_with (first
                    | (go_at_call 45; (with_reducible refine (check_any _ _ HSK.out).mono ?_); rintro e w1 ⟨v, rfl, rfl, hb1⟩; rw [HC.out]; have b1 := hb.trans (hb1.mono hb.size); have h4 : w1.cell? ⟨b, o + k, none⟩ = some (.string xs[k]) := hp.at b1 (Nat.le_refl _) k hkp)
                    | (go_at_call 106; (with_reducible refine (adivides_any _ _ _ z y HZ.out HG.out HZ0.out (HE.out.below b1 (Nat.le_refl _))).mono ?_); rintro e w3 ⟨v, rfl, rfl, hb3⟩; rw [HD.out]; have b3 := b1.trans (hb3.mono b1.size)))
                  go_ret2
                  exact ⟨_, rfl, _, by rw [HV.out]; rfl, by rw [okeep, HV.out, if_neg (by decide)]; exact Sl.nil, b3⟩
        · rw [if_neg h0] at hV
          have hne : (chk xs[k].data.toList != 0) = true := by simp [h0]
          have HV := Lib.hid hV; have H0 := Lib.hid h0
          clear hV h0
          go_wp2_with (go_at_call 45; (with_reducible refine (check_any _ _ hsk).mono ?_); rintro e w1 ⟨v, rfl, rfl, hb1⟩; have b1 := hb.trans (hb1.mono hb.size))
          go_ret2
          exact ⟨_, rfl, _, by rw [HV.out]; rfl, by rw [okeep, HV.out, if_neg H0.out]; exact Sl.nil, b1⟩
      · obtain rfl : k = xs.length := by omega
        have HV := Lib.hid hA.out.done
        go_wp2_with (first
          | (go_at_call 9; (with_reducible refine (clone_any _ _ xs (HVV.out.below hb (Nat.le_refl _)) (by omega)).mono ?_); rintro e w1 ⟨v1, rfl, ho1, hb1⟩; have HO1 := Lib.hid ho1; have b1 := hb.trans (hb1.mono hb.size); clear ho1)
          | (go_at_call 107; (with_reducible refine (delete_any _ _ xs wr.heap.size HO1.out (by omega)).mono ?_); rintro e w2 ⟨v2, rfl, hs2, hb2⟩; have HS2 := Lib.hid hs2; have b2 := b1.trans (hb2.mono hb.size); clear hs2))
        go_ret2
        exact ⟨_, rfl, _, by rw [HV.out]; rfl, by rw [okeep, if_pos HV.out]; exact HS2.out, b2⟩
end Go.Proofs.YtajkhbpffakmfaaGreatDoor

namespace Go.Proofs.YtajkhbpffakmfaaGreatDoor
set_option maxRecDepth 100000

/-- The numbers of an element. -/
structure El (zs us : List Int) : Prop where
  len : us.length = zs.length
  get : ∀ i, i < zs.length → 0 ≤ us.getD i 0 ∧ us.getD i 0 < zs.getD i 0
theorem mapI_congr {n : Nat} {f g : Nat → Int} (h : ∀ i, i < n → f i = g i) : mapI n f = mapI n g := by
  unfold mapI
  exact List.map_congr_left fun i hi => h i (by simpa using hi)
theorem mapI_getD (n : Nat) (f : Nat → Int) (i : Nat) (h : i < n) : (mapI n f).getD i 0 = f i := by
  rw [getD_at _ _ (by rw [mapI_len]; exact h), mapI_get]
theorem mapI_self (us : List Int) : mapI us.length (fun i => us.getD i 0) = us := by
  refine List.ext_getElem (mapI_len _ _) fun i h1 h2 => ?_
  rw [mapI_get, getD_at _ _ h2]
theorem fm {x n : Int} (h : 2 ≤ n) : Int.fmod x n = x % n := Int.fmod_eq_emod_of_nonneg _ (by omega)
theorem fm_bd (x : Int) {n : Int} (h : 2 ≤ n) : 0 ≤ Int.fmod x n ∧ Int.fmod x n < n := by
  rw [fm h]; exact ⟨Int.emod_nonneg _ (by omega), Int.emod_lt_of_pos _ (by omega)⟩
theorem two_at {zs : List Int} (h2 : ∀ z ∈ zs, 2 ≤ z) {i : Nat} (hi : i < zs.length) : 2 ≤ zs.getD i 0 := by
  rw [getD_at _ _ hi]; exact h2 _ (List.getElem_mem hi)
theorem El.mapI {zs : List Int} (h2 : ∀ z ∈ zs, 2 ≤ z) (f : Nat → Int) : El zs (mapI zs.length fun i => Int.fmod (f i) (zs.getD i 0)) :=
  ⟨mapI_len _ _, fun i hi => by rw [mapI_getD _ _ _ hi]; exact fm_bd _ (two_at h2 hi)⟩
theorem El.plus {zs : List Int} (h2 : ∀ z ∈ zs, 2 ≤ z) (us vs : List Int) : El zs (plusL zs us vs) := El.mapI h2 _
theorem El.mult {zs : List Int} (h2 : ∀ z ∈ zs, 2 ≤ z) (K : Int) (us : List Int) : El zs (multL zs K us) := El.mapI h2 _
theorem El.red {zs : List Int} (h2 : ∀ z ∈ zs, 2 ≤ z) (us : List Int) : El zs (redL zs us) := El.mapI h2 _
theorem plusL_comm (zs us vs : List Int) : plusL zs us vs = plusL zs vs us := mapI_congr fun i _ => by rw [Int.add_comm]
theorem plusL_assoc {zs : List Int} (h2 : ∀ z ∈ zs, 2 ≤ z) (us vs ws : List Int) : plusL zs (plusL zs us vs) ws = plusL zs us (plusL zs vs ws) := by
  refine mapI_congr fun i hi => ?_
  simp only [plusL]
  rw [mapI_getD _ _ _ hi, mapI_getD _ _ _ hi]
  have h := two_at h2 hi
  rw [fm h, fm h, fm h, fm h, Int.emod_add_emod, Int.add_emod_emod, Int.add_assoc]
theorem plusL_neg {zs : List Int} (h2 : ∀ z ∈ zs, 2 ≤ z) (us vs : List Int) (hv : El zs vs) : plusL zs (plusL zs us vs) (multL zs (-1) us) = vs := by
  have e := mapI_self vs
  rw [hv.len] at e
  refine Eq.trans ?_ e
  refine mapI_congr fun i hi => ?_
  simp only [plusL, multL]
  rw [mapI_getD _ _ _ hi, mapI_getD _ _ _ hi]
  have h := two_at h2 hi
  have hb := hv.get i hi
  rw [fm h, fm h, fm h, Int.emod_add_emod, Int.add_emod_emod, show us.getD i 0 + vs.getD i 0 + -1 * us.getD i 0 = vs.getD i 0 by omega]
  exact Int.emod_eq_of_lt hb.1 hb.2
theorem multL_plus {zs : List Int} (h2 : ∀ z ∈ zs, 2 ≤ z) (K : Int) (us vs : List Int) : multL zs K (plusL zs us vs) = plusL zs (multL zs K us) (multL zs K vs) := by
  refine mapI_congr fun i hi => ?_
  simp only [plusL, multL]
  rw [mapI_getD _ _ _ hi, mapI_getD _ _ _ hi, mapI_getD _ _ _ hi]
  have h := two_at h2 hi
  rw [fm h, fm h, fm h, fm h, fm h, Int.emod_add_emod, Int.add_emod_emod, Int.mul_emod, Int.emod_emod, ← Int.mul_emod, Int.mul_add]
theorem redL_plus {zs : List Int} (h2 : ∀ z ∈ zs, 2 ≤ z) (us vs : List Int) : redL zs (mapI zs.length fun i => us.getD i 0 + vs.getD i 0) = plusL zs (redL zs us) (redL zs vs) := by
  refine mapI_congr fun i hi => ?_
  simp only [redL]
  rw [mapI_getD _ _ _ hi, mapI_getD _ _ _ hi, mapI_getD _ _ _ hi]
  have h := two_at h2 hi
  rw [fm h, fm h, fm h, fm h, Int.emod_add_emod, Int.add_emod_emod]

theorem mstep_el : ∀ (g : List ByteArray) (zs us : List Int), Goods g zs → us.length = zs.length → (∀ i (h : i < zs.length) (h' : i < us.length), 0 ≤ us[i] ∧ us[i] < zs[i]) → mstep g (us.map txt) = 0 ∧ Goods (us.map txt) us
  | [], [], [], _, _, _ => ⟨rfl, trivial⟩
  | s :: g, z :: zs, u :: us, hg, hl, h => by
    have h0 := h 0 (by simp) (by simp)
    simp at h0
    have hu : big u = false := (big_iff u).2 (by have := (big_iff z).1 hg.1.2; omega)
    have hG : Good (txt u) u := ⟨rfl, hu⟩
    obtain ⟨h1, h2⟩ := mstep_el g zs us hg.2 (by simpa using hl) (fun i hi hi' => h (i + 1) (by simpa using hi) (by simpa using hi'))
    refine ⟨?_, hG, h2⟩
    rw [List.map_cons, mstep, if_pos hG.chk, if_neg (by rw [hG.num, hg.1.num]; omega), h1]
  | [], _ :: _, _, h, _, _ => h.elim
  | _ :: _, [], _, h, _, _ => h.elim
  | [], [], _ :: _, _, h, _ => by simp at h
  | _ :: _, _ :: _, [], _, h, _ => by simp at h
theorem mchk_el {g : List ByteArray} (hg : gchk g = 0) {us : List Int} (hu : El (nums g) us) : mchk g (us.map txt) = 0 ∧ Goods (us.map txt) us ∧ nums (us.map txt) = us := by
  obtain ⟨zs, hG⟩ := grp_of hg
  have e := nums_of hG.good
  rw [e] at hu
  obtain ⟨h1, h2⟩ := mstep_el g zs us hG.good hu.len fun i h h' => by have := hu.get i h; rw [getD_at _ _ h, getD_at _ _ h'] at this; exact this
  refine ⟨?_, h2, nums_of h2⟩
  unfold mchk
  rw [if_pos (by rw [List.length_map, hu.len, hG.good.len]), h1]
theorem el_of {g a : List ByteArray} (hg : gchk g = 0) (hm : mchk g a = 0) : El (nums g) (nums a) ∧ a = (nums a).map txt := by
  obtain ⟨hl, h⟩ := at_place hg hm
  refine ⟨⟨by rw [nums_len, nums_len, hl], fun i hi => ?_⟩, ?_⟩
  · rw [nums_len] at hi
    have := h i hi (by omega)
    exact ⟨this.2.2.2.2.2.1, this.2.2.2.2.2.2⟩
  · refine List.ext_getElem (by rw [List.length_map, nums_len]) fun i h1 h2 => ?_
    have := (h i (by omega) h1).2.1
    rw [this, List.getElem_map, getD_at _ _ (by rw [nums_len]; exact h1)]
theorem nums_two {g : List ByteArray} (hg : gchk g = 0) : ∀ z ∈ nums g, 2 ≤ z := by
  obtain ⟨zs, hG⟩ := grp_of hg
  rw [nums_of hG.good]; exact hG.two
theorem addS_el {g : List ByteArray} (hg : gchk g = 0) {us vs : List Int} (hu : El (nums g) us) (hv : El (nums g) vs) : addS g (us.map txt) (vs.map txt) = ((plusL (nums g) us vs).map txt, 0) := by
  unfold addS
  rw [if_pos hg, if_pos (mchk_el hg hu).1, if_pos (mchk_el hg hv).1, (mchk_el hg hu).2.2, (mchk_el hg hv).2.2]
theorem negS_el {g : List ByteArray} (hg : gchk g = 0) {us : List Int} (hu : El (nums g) us) : negS g (us.map txt) = ((multL (nums g) (-1) us).map txt, 0) := by
  unfold negS
  rw [if_pos hg, if_pos (mchk_el hg hu).1, (mchk_el hg hu).2.2]
theorem timesS_el {g : List ByteArray} (hg : gchk g = 0) {k : ByteArray} (hk : chk k.data.toList = 0) {us : List Int} (hu : El (nums g) us) : timesS g k (us.map txt) = ((multL (nums g) (num k) us).map txt, 0) := by
  unfold timesS
  rw [if_pos hg, if_pos hk, if_pos (mchk_el hg hu).1, (mchk_el hg hu).2.2]
theorem goods_size : ∀ {xs : List ByteArray} {zs : List Int}, Goods xs zs → ∀ s ∈ xs, s.size ≤ 1000000
  | [], [], _, _, h => by simp at h
  | x :: l, z :: zs, h, s, hs => by
    rcases List.mem_cons.1 hs with rfl | hs
    · have := h.1.size; omega
    · exact goods_size h.2 s hs
  | [], _ :: _, h, _, _ => h.elim
  | _ :: _, [], h, _, _ => h.elim
theorem el_size {g : List ByteArray} (hg : gchk g = 0) {us : List Int} (hu : El (nums g) us) : ∀ s ∈ us.map txt, s.size ≤ 1000000 := goods_size (mchk_el hg hu).2.1
end Go.Proofs.YtajkhbpffakmfaaGreatDoor

namespace Go.Proofs.YtajkhbpffakmfaaGreatDoor
open Go.RowKit
set_option maxRecDepth 100000

theorem chks_drop (xs : List ByteArray) (k : Nat) (h : k < xs.length) : chks (xs.drop k) = if chk xs[k].data.toList = 0 then chks (xs.drop (k + 1)) else chk xs[k].data.toList := by
  rw [List.drop_eq_getElem_cons h, chks]
/-- What Element and Exponent answer. -/
def elemS (g l : List ByteArray) : List ByteArray × Int :=
  if gchk g = 0 then (if l.length = g.length then (if chks l = 0 then ((redL (nums g) (nums l)).map txt, 0) else ([], chks l)) else ([], 8)) else ([], gchk g)
def expS (g : List ByteArray) : ByteArray × Int := if gchk g = 0 then (lastOf g, 0) else (⟨#[]⟩, gchk g)
theorem red_place {g l : List ByteArray} (hg : gchk g = 0) (hc : chks l = 0) : ((redL (nums g) (nums l)).map txt).length = g.length ∧
    ∀ k (hk : k < g.length) (hk' : k < l.length) (h : k < ((redL (nums g) (nums l)).map txt).length), ((redL (nums g) (nums l)).map txt)[k] = txt (Int.fmod (num l[k]) (num g[k])) ∧ Good g[k] (num g[k]) ∧ Good l[k] (num l[k]) ∧ 2 ≤ num g[k] := by
  obtain ⟨zs, hG⟩ := grp_of hg
  obtain ⟨us, hus⟩ := Goods.of l hc
  have ez := goods_num g zs hG.good
  have eu := goods_num l us hus
  refine ⟨by rw [List.length_map, redL, mapI_len, nums_len], fun k hk hk' h => ?_⟩
  have hz : k < zs.length := by rw [hG.good.len]; exact hk
  have hu : k < us.length := by rw [hus.len]; exact hk'
  have g1 := hG.good.get k hk hz
  have g2 := hus.get k hk' hu
  have n1 := g1.num; have n2 := g2.num
  have h2 := hG.two _ (List.getElem_mem hz)
  rw [← n1] at g1 h2; rw [← n2] at g2
  refine ⟨?_, g1, g2, h2⟩
  simp only [List.getElem_map, redL, mapI_get]
  rw [getD_at _ _ (by rw [nums_len]; exact hk'), getD_at _ _ (by rw [nums_len]; exact hk)]
  simp [nums]
theorem AExponent_any (w : World) (v : Value) (g : List ByteArray) (hv : Sl eS w v g) (hsg : g.length ≤ 16 → ∀ s ∈ g, s.size ≤ 1000000) (he : Env w) :
    Calls Tryz.prog 54 #[v] w (Rets fun r w' => r = .tuple #[.string (expS g).1, .int .i64 (expS g).2] ∧ Below w.heap.size w w') := by
  unfold expS
  by_cases hg : gchk g = 0
  · rw [if_pos hg]; exact Exponent_ok w v g hv hg (gchk_len hg).1 (hsg (gchk_len hg).1) he
  · rw [if_neg hg]; exact Exponent_err w v g hv hg hsg he
end Go.Proofs.YtajkhbpffakmfaaGreatDoor

namespace Go.Proofs.YtajkhbpffakmfaaGreatDoor
open Go.RowKit
set_option maxRecDepth 100000

theorem keep_take (xs : List ByteArray) (k : Nat) (h : k < xs.length) : (xs.take (k + 1)).filter (fun s => !isOne s) = (xs.take k).filter (fun s => !isOne s) ++ (if isOne xs[k] then [] else [xs[k]]) := by
  rw [take_filter _ _ _ h]
  cases isOne xs[k] <;> rfl
end Go.Proofs.YtajkhbpffakmfaaGreatDoor
