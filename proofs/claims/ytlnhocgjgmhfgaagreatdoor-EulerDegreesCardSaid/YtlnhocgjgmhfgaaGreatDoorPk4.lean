/- Plain law: a chip that walks along turning pointers on a balanced digraph goes along each arc once and is back. The walk of euler's Check. Plain: what the reference's Is asks is what eulerian asks. The walk of euler's Walk at unicycles. The walks of euler's Ends, of the reference's SameInts and Same at equal unicycles. The walks of Degrees, Ends, Eulerian, of euler and of the reference, for every digraph. The walks of slices.Clone, DeleteFunc and Index over ints, as euler's rooted calls them. The walks of the reference's Between, Valence, Degree. The walks of the reference's Valence and Degree. Plain: degrees in the graph and in its two-way digraph. -/
import Derived.Test.YtlnhocgjgmhfgaaGreatDoorPk3
import Derived.Laws.StructEq
import Derived.Laws.Tables
import Derived.Laws.Cover2
import Derived.OwnWalk
import Derived.Laws.AppendOwnNone
import Derived.Lib.SliceRun
import Derived.Test.YtlnhocgjgmhfgaaGreatDoorPk1
namespace Go.Proofs.YtlnhocgjgmhfgaaGreatDoor
namespace Rot
/-- The arcs, by their numbers. -/
def src (es : List (Nat × Nat)) (e : Nat) : Nat := (es.getD e (0, 0)).1
def trg (es : List (Nat × Nat)) (e : Nat) : Nat := (es.getD e (0, 0)).2
def outs (es : List (Nat × Nat)) (v : Nat) : List Nat := (List.range es.length).filter fun e => src es e == v
def cntS (es : List (Nat × Nat)) (l : List Nat) (v : Nat) : Nat := l.countP fun e => src es e == v
def cntT (es : List (Nat × Nat)) (l : List Nat) (v : Nat) : Nat := l.countP fun e => trg es e == v
/-- The arc that is taken next from v, when it has been left c times. -/
def nxt (es : List (Nat × Nat)) (r : Nat → Nat) (v c : Nat) : Nat := (outs es v).getD ((r v + c + 1) % (outs es v).length) 0
/-- The chip behind k steps, and its way. -/
def run (es : List (Nat × Nat)) (r : Nat → Nat) (a : Nat) : Nat → Nat × List Nat
  | 0 => (a, [])
  | k + 1 => (trg es (nxt es r (run es r a k).1 (cntS es (run es r a k).2 (run es r a k).1)), (run es r a k).2 ++ [nxt es r (run es r a k).1 (cntS es (run es r a k).2 (run es r a k).1)])

theorem nodup_fil {l : List Nat} (h : l.Nodup) (p : Nat → Bool) : (l.filter p).Nodup := List.Pairwise.filter p h
theorem nodup_one : ∀ {l : List Nat}, l.Nodup → ∀ {e : Nat}, e ∈ l → l.count e = 1
  | [], _, _, h => by cases h
  | x :: l, hn, e, h => by
    have h1 := List.nodup_cons.1 hn
    rw [List.count_cons]
    rcases List.mem_cons.1 h with rfl | h
    · rw [List.count_eq_zero.2 h1.1]; simp
    · have hne : ¬ x = e := fun e2 => h1.1 (e2 ▸ h)
      rw [nodup_one h1.2 h, if_neg (by simpa using hne)]
theorem nodup_inj {l : List Nat} (h : l.Nodup) {i j : Nat} (hi : i < l.length) (hj : j < l.length) (e : l[i] = l[j]) : i = j := by
  have := List.pairwise_iff_getElem.1 h
  rcases Nat.lt_trichotomy i j with h1 | h1 | h1
  · exact absurd e (this i j hi hj h1)
  · exact h1
  · exact absurd e.symm (this j i hj hi h1)
section
variable {es : List (Nat × Nat)} {r : Nat → Nat} {a n : Nat}
theorem outs_len (v : Nat) : (outs es v).length = cntS es (List.range es.length) v := by
  unfold outs cntS; rw [List.countP_eq_length_filter]
theorem outs_mem {v e : Nat} : e ∈ outs es v ↔ e < es.length ∧ src es e = v := by simp [outs]
theorem outs_nodup (v : Nat) : (outs es v).Nodup := nodup_fil List.nodup_range _
theorem outs_get (v i : Nat) (h : i < (outs es v).length) : (outs es v).getD i 0 < es.length ∧ src es ((outs es v).getD i 0) = v := by
  have : (outs es v).getD i 0 ∈ outs es v := by
    rw [List.getD_eq_getElem?_getD, List.getElem?_eq_getElem h]; exact List.getElem_mem h
  exact outs_mem.1 this
theorem outs_inj (v i j : Nat) (hi : i < (outs es v).length) (hj : j < (outs es v).length) (h : (outs es v).getD i 0 = (outs es v).getD j 0) : i = j := by
  rw [List.getD_eq_getElem?_getD, List.getD_eq_getElem?_getD, List.getElem?_eq_getElem hi, List.getElem?_eq_getElem hj] at h
  exact nodup_inj (outs_nodup v) hi hj h

/-- The arcs that are left over. -/
def rest (es : List (Nat × Nat)) (l : List Nat) : List Nat := (List.range es.length).filter fun e => !l.contains e
theorem parts {l : List Nat} (hn : l.Nodup) (hl : ∀ e ∈ l, e < es.length) : (l ++ rest es l).Perm (List.range es.length) := by
  rw [List.perm_iff_count]
  intro e
  rw [List.count_append]
  by_cases he : e < es.length
  · have h1 : (List.range es.length).count e = 1 := nodup_one List.nodup_range (List.mem_range.2 he)
    by_cases hm : e ∈ l
    · have h2 : l.count e = 1 := nodup_one hn hm
      have h3 : (rest es l).count e = 0 := by
        rw [List.count_eq_zero]; simp [rest, hm]
      omega
    · have h2 : l.count e = 0 := List.count_eq_zero.2 hm
      have h3 : (rest es l).count e = 1 := nodup_one (nodup_fil List.nodup_range _) (by simp [he, hm])
      omega
  · have h1 : (List.range es.length).count e = 0 := List.count_eq_zero.2 (by simpa using he)
    have h2 : l.count e = 0 := List.count_eq_zero.2 fun h => he (hl e h)
    have h3 : (rest es l).count e = 0 := List.count_eq_zero.2 (by simp [rest]; omega)
    omega
theorem partsS {l : List Nat} (hn : l.Nodup) (hl : ∀ e ∈ l, e < es.length) (v : Nat) : cntS es l v + cntS es (rest es l) v = (outs es v).length := by
  rw [outs_len]; unfold cntS; rw [← List.countP_append]; exact (parts hn hl).countP_eq _
theorem partsT {l : List Nat} (hn : l.Nodup) (hl : ∀ e ∈ l, e < es.length) (v : Nat) : cntT es l v + cntT es (rest es l) v = cntT es (List.range es.length) v := by
  unfold cntT; rw [← List.countP_append]; exact (parts hn hl).countP_eq _

/-- What holds while no arc is taken twice. -/
structure Inv (es : List (Nat × Nat)) (r : Nat → Nat) (a : Nat) (k : Nat) : Prop where
  len : (run es r a k).2.length = k
  nodup : (run es r a k).2.Nodup
  lt : ∀ e ∈ (run es r a k).2, e < es.length
  used : ∀ e ∈ (run es r a k).2, ∃ j, 1 ≤ j ∧ j ≤ cntS es (run es r a k).2 (src es e) ∧ e = (outs es (src es e)).getD ((r (src es e) + j) % (outs es (src es e)).length) 0
  flow : ∀ v, cntT es (run es r a k).2 v + (if a = v then 1 else 0) = cntS es (run es r a k).2 v + (if (run es r a k).1 = v then 1 else 0)
theorem Inv.zero : Inv es r a 0 := ⟨rfl, List.nodup_nil, by simp [run], by simp [run], fun _ => rfl⟩
theorem Inv.le {k : Nat} (h : Inv es r a k) (v : Nat) : cntS es (run es r a k).2 v ≤ (outs es v).length := by
  have := partsS h.nodup h.lt v; omega
theorem mod_ne {d x i j : Nat} (h : (x + i) % d = (x + j) % d) (hij : i < j) : d ≤ j - i := by
  have h1 := Nat.div_add_mod (x + i) d
  have h2 := Nat.div_add_mod (x + j) d
  rw [h] at h1
  have h3 : d * ((x + j) / d) - d * ((x + i) / d) = j - i := by omega
  rw [← Nat.mul_sub] at h3
  have : 0 < (x + j) / d - (x + i) / d := by
    rcases Nat.eq_zero_or_pos ((x + j) / d - (x + i) / d) with h0 | h0
    · rw [h0, Nat.mul_zero] at h3; omega
    · exact h0
  rw [← h3]
  exact Nat.le_mul_of_pos_right _ this
theorem Inv.step {k : Nat} (h : Inv es r a k) (hc : cntS es (run es r a k).2 (run es r a k).1 < (outs es (run es r a k).1).length) : Inv es r a (k + 1) := by
  obtain ⟨v, hv⟩ : ∃ v, (run es r a k).1 = v := ⟨_, rfl⟩
  obtain ⟨l, hl⟩ : ∃ l, (run es r a k).2 = l := ⟨_, rfl⟩
  obtain ⟨c, hcc⟩ : ∃ c, cntS es l v = c := ⟨_, rfl⟩
  have hd : 0 < (outs es v).length := by rw [hv] at hc; omega
  have hrun : run es r a (k + 1) = (trg es (nxt es r v c), l ++ [nxt es r v c]) := by rw [run, hv, hl, hcc]
  rw [hv, hl, hcc] at hc
  obtain ⟨e, he⟩ : ∃ e, nxt es r v c = e := ⟨_, rfl⟩
  have hev : e < es.length ∧ src es e = v := by rw [← he]; exact outs_get v _ (Nat.mod_lt _ hd)
  rw [he] at hrun
  have hnew : e ∉ l := fun hm => by
    obtain ⟨j, j1, j2, j3⟩ := h.used e (by rw [hl]; exact hm)
    rw [hl, hev.2, hcc] at j2
    rw [hev.2] at j3
    have : (outs es v).getD ((r v + (c + 1)) % (outs es v).length) 0 = (outs es v).getD ((r v + j) % (outs es v).length) 0 := by rw [← j3, ← he]; rfl
    have := outs_inj v _ _ (Nat.mod_lt _ hd) (Nat.mod_lt _ hd) this
    have := mod_ne this.symm (by omega)
    omega
  have hcs : ∀ u, cntS es (l ++ [e]) u = cntS es l u + if v = u then 1 else 0 := fun u => by
    unfold cntS; rw [List.countP_append]
    simp only [List.countP_cons, List.countP_nil, hev.2]
    by_cases hu : v = u <;> simp [hu]
  have hct : ∀ u, cntT es (l ++ [e]) u = cntT es l u + if trg es e = u then 1 else 0 := fun u => by
    unfold cntT; rw [List.countP_append]
    simp only [List.countP_cons, List.countP_nil]
    by_cases hu : trg es e = u <;> simp [hu]
  refine ⟨?_, ?_, ?_, ?_, ?_⟩
  · rw [hrun, List.length_append, ← hl, h.len]; rfl
  · rw [hrun]
    have := h.nodup; rw [hl] at this
    exact List.nodup_append.2 ⟨this, by simp, fun x hx y hy => by simp at hy; subst hy; exact fun e => hnew (e ▸ hx)⟩
  · intro x hx
    rw [hrun] at hx
    rcases List.mem_append.1 hx with hx | hx
    · exact h.lt x (by rw [hl]; exact hx)
    · simp at hx; subst hx; exact hev.1
  · intro x hx
    rw [hrun] at hx ⊢
    simp only at hx ⊢
    rw [hcs]
    rcases List.mem_append.1 hx with hx | hx
    · obtain ⟨j, j1, j2, j3⟩ := h.used x (by rw [hl]; exact hx)
      rw [hl] at j2
      exact ⟨j, j1, by omega, j3⟩
    · simp at hx; subst hx
      refine ⟨c + 1, by omega, by rw [hev.2, hcc, if_pos rfl]; exact Nat.le_refl _, ?_⟩
      rw [hev.2, ← he]; rfl
  · intro u
    have hf := h.flow u
    rw [hl, hv] at hf
    rw [hrun]; simp only
    rw [hcs, hct]
    omega
/-- The pointer's end. -/
def ptr (es : List (Nat × Nat)) (r : Nat → Nat) (v : Nat) : Nat := trg es ((outs es v).getD (r v) 0)
def ptrs (es : List (Nat × Nat)) (r : Nat → Nat) : Nat → Nat → Nat
  | 0, v => v
  | j + 1, v => ptrs es r j (ptr es r v)

theorem full_len {l : List Nat} (hn : l.Nodup) (hl : ∀ e ∈ l, e < es.length) (hs : ∀ e, e < es.length → src es e < n) (hf : ∀ v, v < n → cntS es l v = (outs es v).length) : l.length = es.length := by
  have hp := parts hn hl
  have hr : rest es l = [] := by
    apply List.eq_nil_iff_forall_not_mem.2
    intro e he
    have he2 : e < es.length := by simp [rest] at he; exact he.1
    have h1 := partsS hn hl (src es e)
    rw [hf _ (hs e he2)] at h1
    have h2 : 0 < cntS es (rest es l) (src es e) := List.countP_pos_iff.2 ⟨e, he, by simp⟩
    omega
  rw [hr, List.append_nil] at hp
  rw [hp.length_eq, List.length_range]
theorem stuck {k : Nat} (h : Inv es r a k) (hk : k < es.length) (hs : ∀ e, e < es.length → src es e < n) (ht : ∀ e, e < es.length → trg es e < n)
    (hd : ∀ v, v < n → 0 < (outs es v).length) (hb : ∀ v, v < n → cntT es (List.range es.length) v = (outs es v).length) (hr : ∀ v, v < n → r v < (outs es v).length)
    (hp : ∀ v, v < n → ∃ j, ptrs es r j v = a) (ha : (run es r a k).1 < n) : cntS es (run es r a k).2 (run es r a k).1 < (outs es (run es r a k).1).length := by
  apply Nat.lt_of_not_le
  intro hge
  obtain ⟨v, hv⟩ : ∃ v, (run es r a k).1 = v := ⟨_, rfl⟩
  obtain ⟨l, hl⟩ : ∃ l, (run es r a k).2 = l := ⟨_, rfl⟩
  have hfl := h.flow
  have hle := h.le
  have hn := h.nodup; have hlt := h.lt; have hus := h.used
  rw [hv] at hfl hge ha
  rw [hl] at hfl hle hge hn hlt hus
  have hpt := fun u => partsT (es := es) hn hlt u
  have hav : a = v := by
    have h1 := hfl v
    have h2 := hpt v
    rw [hb v ha] at h2
    rw [if_pos rfl] at h1
    by_cases e : a = v
    · exact e
    · rw [if_neg e] at h1; omega
  subst hav
  -- all arcs to a vertex that is left over are taken, if all from it are
  have hin : ∀ u, u < n → cntS es l u = (outs es u).length → ∀ e, e < es.length → trg es e = u → e ∈ l := by
    intro u hu hf e he hte
    have h1 := hfl u
    have h2 := hpt u
    rw [hb u hu] at h2
    apply Decidable.byContradiction
    intro hm
    have h3 : 0 < cntT es (rest es l) u := List.countP_pos_iff.2 ⟨e, by simp [rest, he, hm], by simp [hte]⟩
    omega
  have key : ∀ j u, u < n → ptrs es r j u = a → cntS es l u = (outs es u).length := by
    intro j
    induction j with
    | zero => intro u hu e; have e : u = a := e; subst e; have := hle u; omega
    | succ j ih =>
      intro u hu e
      have ho := outs_get (es := es) u _ (hr u hu)
      have hpu : ptr es r u < n := ht _ ho.1
      have hf := ih _ hpu e
      have hm := hin _ hpu hf _ ho.1 rfl
      obtain ⟨i, i1, i2, i3⟩ := hus _ hm
      rw [ho.2] at i2 i3
      have := outs_inj u _ _ (hr u hu) (Nat.mod_lt _ (hd u hu)) i3
      have h4 : (r u + 0) % (outs es u).length = (r u + i) % (outs es u).length := by rw [Nat.add_zero, Nat.mod_eq_of_lt (hr u hu)]; exact this
      have h5 := mod_ne h4 (by omega)
      have h6 := hle u
      omega
  have := full_len (n := n) hn hlt hs fun u hu => let ⟨j, hj⟩ := hp u hu; key j u hu hj
  have h7 := h.len
  rw [hl] at h7
  omega
/-- The round trip. -/
theorem trip (hs : ∀ e, e < es.length → src es e < n) (ht : ∀ e, e < es.length → trg es e < n)
    (hd : ∀ v, v < n → 0 < (outs es v).length) (hb : ∀ v, v < n → cntT es (List.range es.length) v = (outs es v).length) (hr : ∀ v, v < n → r v < (outs es v).length)
    (hp : ∀ v, v < n → ∃ j, ptrs es r j v = a) (ha : a < n) : ∀ k, k ≤ es.length → Inv es r a k ∧ (run es r a k).1 < n := by
  intro k
  induction k with
  | zero => intro _; exact ⟨Inv.zero, ha⟩
  | succ k ih =>
    intro hk
    obtain ⟨h1, h2⟩ := ih (by omega)
    have hc := stuck h1 (by omega) hs ht hd hb hr hp h2
    exact ⟨h1.step hc, ht _ (outs_get _ _ (Nat.mod_lt _ (by omega))).1⟩
theorem home (hs : ∀ e, e < es.length → src es e < n) (ht : ∀ e, e < es.length → trg es e < n)
    (hd : ∀ v, v < n → 0 < (outs es v).length) (hb : ∀ v, v < n → cntT es (List.range es.length) v = (outs es v).length) (hr : ∀ v, v < n → r v < (outs es v).length)
    (hp : ∀ v, v < n → ∃ j, ptrs es r j v = a) (ha : a < n) :
    (run es r a es.length).1 = a ∧ (run es r a es.length).2.Perm (List.range es.length) ∧ ∀ v, cntS es (run es r a es.length).2 v = (outs es v).length := by
  obtain ⟨h, hlt⟩ := trip hs ht hd hb hr hp ha es.length (Nat.le_refl _)
  have hpp := parts h.nodup h.lt
  have hrr : rest es (run es r a es.length).2 = [] := by
    have := hpp.length_eq
    rw [List.length_append, h.len, List.length_range] at this
    exact List.length_eq_zero_iff.1 (by omega)
  rw [hrr, List.append_nil] at hpp
  have hc : ∀ v, cntS es (run es r a es.length).2 v = (outs es v).length := fun v => by rw [outs_len]; exact hpp.countP_eq _
  refine ⟨?_, hpp, hc⟩
  have h1 := h.flow (run es r a es.length).1
  have h2 : cntT es (run es r a es.length).2 (run es r a es.length).1 = cntT es (List.range es.length) (run es r a es.length).1 := hpp.countP_eq _
  rw [h2, hb _ hlt, hc, if_pos rfl] at h1
  by_cases e : a = (run es r a es.length).1
  · exact e.symm
  · rw [if_neg e] at h1; omega
end
end Rot
end Go.Proofs.YtlnhocgjgmhfgaaGreatDoor

namespace Go.Proofs.YtlnhocgjgmhfgaaGreatDoor
open Go.RowKit
set_option maxRecDepth 100000

def iz (x : Int) : List Value := [.int .i64 x]
/-- Where the rotors point to, of the first k vertices. -/
def rot (us : List Int) (v : Nat) : Nat := (us.getD v 0).toNat
def ptK (ss : List (Nat × Nat)) (us : List Int) (k : Nat) : List Nat := (List.range 12).map fun v => if v < k then Rot.ptr ss (rot us) v else 0
theorem ptK_set (ss : List (Nat × Nat)) (us : List Int) (k : Nat) (_ : k < 12) : (ptK ss us k).set k (Rot.ptr ss (rot us) k) = ptK ss us (k + 1) := by
  apply List.ext_getElem (by simp [ptK])
  intro i h1 h2
  by_cases e : k = i
  · subst e
    simp [ptK]
  · rw [List.getElem_set_ne e]
    simp only [ptK, List.getElem_map, List.getElem_range]
    by_cases h : i < k
    · rw [if_pos h, if_pos (by omega)]
    · rw [if_neg h, if_neg (by omega)]
theorem ptK_get (ss : List (Nat × Nat)) (us : List Int) (n v : Nat) (hv : v < n) (hn : n ≤ 12) : (ptK ss us n).getD v 0 = Rot.ptr ss (rot us) v := by
  simp [ptK, List.getD_eq_getElem?_getD, show v < 12 by omega, hv]
theorem outs_rot (n : Nat) (ss : List (Nat × Nat)) (v : Nat) (h : v < (outs n ss).length) : (outs n ss)[v] = Rot.outs ss v := by
  simp only [outs, outsAt, List.getElem_map, List.getElem_range, Rot.outs, Rot.src]
  apply List.filter_congr
  intro i _
  rw [Bool.eq_iff_iff]; simp
/-- A unicycle. -/
structure GoodU (n : Nat) (ss : List (Nat × Nat)) (at_ : Nat) (us : List Int) : Prop where
  at_lt : at_ < n
  len : us.length = n
  pos : ∀ v, v < n → 0 < (Rot.outs ss v).length
  rng : ∀ v, v < n → 0 ≤ us.getD v 0 ∧ us.getD v 0 < (Rot.outs ss v).length
  uni : ∀ v, v < n → ∃ i, it (ptK ss us n) i v = at_
/-- The number of the error of a unicycle. -/
def ChkC (n : Nat) (ns : List (Nat × Nat × Nat)) (at_ : Int) (us : List Int) (e : Int) : Prop :=
  (e = 15 ∧ (¬ EulC n ns ∨ [] ∈ outs n (sgl ns))) ∨ (EulC n ns ∧ [] ∉ outs n (sgl ns) ∧ ((e = 2 ∧ (at_ < 0 ∨ (n : Int) ≤ at_)) ∨ (0 ≤ at_ ∧ at_ < (n : Int) ∧ ((e = 8 ∧ us.length ≠ n) ∨ (us.length = n ∧
    ((e = 2 ∧ ¬ ∀ v, v < n → 0 ≤ us.getD v 0 ∧ us.getD v 0 < (Rot.outs (sgl ns) v).length) ∨ ((∀ v, v < n → 0 ≤ us.getD v 0 ∧ us.getD v 0 < (Rot.outs (sgl ns) v).length) ∧
      ((e = 3 ∧ ¬ ∀ v, v < n → ∃ i, it (ptK (sgl ns) us n) i v = at_.toNat) ∨ (e = 0 ∧ ∀ v, v < n → ∃ i, it (ptK (sgl ns) us n) i v = at_.toNat)))))))))
/-- What Check answers. -/
def ChkP (n : Nat) (ns : List (Nat × Nat × Nat)) (at_ : Int) (us : List Int) (r : Value) (w w' : World) : Prop := ∃ e : Int, r = .int .i64 e ∧ Below w.heap.size w w' ∧ ChkC n ns at_ us e

theorem hs_of {w w' : World} {g : Nat} {a b : Value} {T : TypeId} (h : Blk w g [a, b] T) (hb : Below w.heap.size w w') : w'.cell? ⟨g, 0, none⟩ = some a ∧ w'.cell? ⟨g, 1, none⟩ = some b ∧ g < w'.heap.size :=
  ⟨(h.below hb (Nat.le_refl _)).cell 0 _ rfl, (h.below hb (Nat.le_refl _)).cell 1 _ rfl, (h.below hb (Nat.le_refl _)).lt⟩
theorem no_empty {n : Nat} {ss : List (Nat × Nat)} {a : Nat} {us : List Int} (h : GoodU n ss a us) : [] ∉ outs n ss := fun hm => by
  obtain ⟨v, hv, e⟩ := List.mem_iff_getElem.1 hm
  rw [outs_rot] at e
  have := h.pos v (by rwa [outs, outsAt_len] at hv)
  rw [e] at this
  exact absurd this (by decide)

theorem no_empty_pos {n : Nat} {ss : List (Nat × Nat)} (h : [] ∉ outs n ss) : ∀ v, v < n → 0 < (Rot.outs ss v).length := fun v hv => by
  rcases Nat.eq_zero_or_pos (Rot.outs ss v).length with h0 | h0
  · have hv2 : v < (outs n ss).length := by rw [outs, outsAt_len]; exact hv
    refine absurd ?_ h
    rw [← List.length_eq_zero_iff.1 h0, ← outs_rot n ss v hv2]
    exact List.getElem_mem hv2
  · exact h0
section
variable {n : Nat} {ns : List (Nat × Nat × Nat)} {at_ : Int} {us : List Int}
theorem ChkC.iff {e : Int} (h : ChkC n ns at_ us e) : e = 0 ↔ EulC n ns ∧ 0 ≤ at_ ∧ GoodU n (sgl ns) at_.toNat us := by
  rcases h with ⟨rfl, h⟩ | ⟨hE, hN, ⟨rfl, h⟩ | ⟨h1, h2, ⟨rfl, h⟩ | ⟨h3, ⟨rfl, h⟩ | ⟨h4, ⟨rfl, h⟩ | ⟨rfl, h⟩⟩⟩⟩⟩
  · exact ⟨fun h => absurd h (by decide), fun ⟨a, _, b⟩ => by
      rcases h with h | h
      · exact absurd a h
      · exact absurd h (no_empty b)⟩
  · exact ⟨fun h => absurd h (by decide), fun ⟨_, a, b⟩ => by have := b.at_lt; omega⟩
  · exact ⟨fun h => absurd h (by decide), fun ⟨_, _, b⟩ => absurd b.len h⟩
  · exact ⟨fun h => absurd h (by decide), fun ⟨_, _, b⟩ => absurd b.rng h⟩
  · exact ⟨fun h => absurd h (by decide), fun ⟨_, _, b⟩ => absurd b.uni h⟩
  · exact ⟨fun _ => ⟨hE, h1, ⟨by omega, h3, no_empty_pos hN, h4, h⟩⟩, fun _ => rfl⟩
theorem ChkC.unique {e e' : Int} (h : ChkC n ns at_ us e) (h' : ChkC n ns at_ us e') : e = e' := by
  rcases h with ⟨rfl, h⟩ | ⟨hE, hN, ⟨rfl, h⟩ | ⟨h1, h2, ⟨rfl, h⟩ | ⟨h3, ⟨rfl, h⟩ | ⟨h4, ⟨rfl, h⟩ | ⟨rfl, h⟩⟩⟩⟩⟩ <;>
  rcases h' with ⟨rfl, h'⟩ | ⟨hE', hN', ⟨rfl, h'⟩ | ⟨h1', h2', ⟨rfl, h'⟩ | ⟨h3', ⟨rfl, h'⟩ | ⟨h4', ⟨rfl, h'⟩ | ⟨rfl, h'⟩⟩⟩⟩⟩ <;>
  first
    | rfl
    | (exfalso; rcases h with h | h <;> contradiction)
    | (exfalso; rcases h' with h' | h' <;> contradiction)
    | (exfalso; rcases h with h | h <;> omega)
    | (exfalso; rcases h' with h' | h' <;> omega)
    | (exfalso; contradiction)
    | (exfalso; exact h ‹_›)
    | (exfalso; exact h' ‹_›)
end

theorem ints_flat (l : List Nat) : ints l = l.flatMap i1 := by
  induction l with
  | nil => rfl
  | cons x l ih => rw [List.flatMap_cons, ← ih]; rfl
theorem Rws.row {w : World} {L C : Nat} {vs : List Value} {ls : List (List Nat)} (h : Rws w L C vs ls) (i : Nat) (hi : i < ls.length) : ∃ v, w.cell? ⟨L, i, none⟩ = some v ∧ SlK i1 1 w v ls[i] := by
  have hv : i < vs.length := by rw [h.len]; exact hi
  have ho := h.own i hv hi
  rw [ints_flat] at ho
  exact ⟨vs[i], h.blk.cell i _ (by simp [hv]), SlK.ofOwns i1_len ho rfl⟩

theorem twelve {l : List Nat} (h : l.length = 12) : ∃ a0 a1 a2 a3 a4 a5 a6 a7 a8 a9 a10 a11, l = [a0, a1, a2, a3, a4, a5, a6, a7, a8, a9, a10, a11] := by
  match l, h with
  | [a0, a1, a2, a3, a4, a5, a6, a7, a8, a9, a10, a11], _ => exact ⟨a0, a1, a2, a3, a4, a5, a6, a7, a8, a9, a10, a11, rfl⟩
theorem ptK_lt {n : Nat} {ss : List (Nat × Nat)} {us : List Int} (hn : n ≤ 12) (hrg : ∀ x ∈ ss, x.1 < n ∧ x.2 < n) (hX : ∀ v, v < n → 0 ≤ us.getD v 0 ∧ us.getD v 0 < (Rot.outs ss v).length) : ∀ v, v < n → (ptK ss us n).getD v 0 < n := fun v hv => by
  rw [ptK_get ss us n v hv hn]
  have h := hX v hv
  have hr : rot us v < (Rot.outs ss v).length := by unfold rot; omega
  have h2 := (Rot.outs_get (es := ss) v _ hr).1
  unfold Rot.ptr Rot.trg
  rw [List.getD_eq_getElem?_getD, List.getElem?_eq_getElem h2]
  exact (hrg _ (List.getElem_mem h2)).2

set_option maxHeartbeats 4000000 in
theorem EChk_ok (w : World) (n : Nat) (v : Value) (ns : List (Nat × Nat × Nat)) (at_ : Int) (rv : Value) (us : List Int) (hR : RD n ns) (hv : SlK e3 3 w v (ns.map n3)) (hl : ns.length ≤ 1000) (hu : SlK iz 1 w rv us) :
    Calls Tryz.prog 15 #[.agg #[.int .i64 (n : Nat), v], .agg #[.int .i64 at_, rv]] w (Rets fun r w' => ChkP n ns at_ us r w w') := by
  obtain ⟨ad, c, rfl⟩ := hv.form
  obtain ⟨ru, b, o, cu, rfl, hi, hp, hc, hcm⟩ := hu.open elemI
  unfold maxLen at hcm
  have hnl : (ns.map n3).length = ns.length := List.length_map _
  rw [hnl] at hv ⊢
  have n12 := hR.le
  have n1 := hR.pos
  have HR := Lib.hid hR; have HV := Lib.hid hv; have HP := Lib.hid hp; have HNL := Lib.hid hnl
  have HM := Lib.hid (show ∀ x ∈ ns, x.2.2 ≤ 50 from fun x hx => (hR.rng x hx).2.2.2)
  have hSL := sgl_le ns HM.out ns.length
  rw [List.take_length] at hSL
  have HRG := Lib.hid (sgl_rng hR)
  obtain ⟨W1, hW1⟩ : ∃ W, w.alloc (.cells #[.int .i64 (n : Nat), .slice ad ns.length c] 28) = W := ⟨_, rfl⟩
  obtain ⟨W, hW⟩ : ∃ W, W1.alloc (.cells #[.int .i64 at_, .slice ru us.length cu] 38) = W := ⟨_, rfl⟩
  have z1 : W1.heap.size = w.heap.size + 1 := by rw [← hW1, World.size_alloc]
  have z2 : W.heap.size = w.heap.size + 1 + 1 := by rw [← hW, World.size_alloc, z1]
  have k1 : Blk W1 w.heap.size [.int .i64 (n : Nat), .slice ad ns.length c] 28 := by rw [← hW1]; exact Blk.new w _ _
  have HD := Lib.hid (show Blk W w.heap.size [.int .i64 (n : Nat), .slice ad ns.length c] 28 by rw [← hW]; exact k1.alloc _)
  have HU := Lib.hid (show Blk W (w.heap.size + 1) [.int .i64 at_, .slice ru us.length cu] 38 by rw [← hW, ← z1]; exact Blk.new W1 _ _)
  have HQ := Lib.hid (show Below w.heap.size w W by
    have q1 : Below w.heap.size w W1 := by rw [← hW1]; exact (Below.refl _ w).alloc (Nat.le_refl _) _
    rw [← hW]; exact q1.alloc q1.size _)
  have HVW := Lib.hid (HV.out.below HQ.out (Nat.le_refl _))
  have HW : Hid ((w.alloc (.cells #[.int .i64 (n : Nat), .slice ad ns.length c] 28)).alloc (.cells #[.int .i64 at_, .slice ru us.length cu] 38) = W) := Lib.hid (by rw [hW1, hW])
  have HZ2 := Lib.hid z2
  clear k1 hW1 hW z1 z2 hu hp hv hR hnl
  go_enter Tryz.func15, Tryz.ntmps15
  go_wp2_with (go_at_call 46; rw [HW.out]; (with_reducible refine (NCheck_ok W n _ ns HR.out HVW.out).mono ?_); rintro e w1 ⟨v, rfl, rfl, hb⟩; have HB1 := Lib.hid hb; clear hb)
  have HD1 := Lib.hid (HD.out.below HB1.out (Nat.le_refl _))
  have HU1 := Lib.hid (HU.out.below HB1.out (Nat.le_refl _))
  have HS := Lib.hid (fun (w' : World) (hb : Below w1.heap.size w1 w') => (⟨(HD1.out.below hb (Nat.le_refl _)).cell 0 _ rfl, (HD1.out.below hb (Nat.le_refl _)).cell 1 _ rfl⟩ : w'.cell? ⟨w.heap.size, 0, none⟩ = some (.int .i64 (n : Nat)) ∧ w'.cell? ⟨w.heap.size, 1, none⟩ = some (.slice ad ns.length c)))
  have HS1 := Lib.hid (HS.out w1.drew ((Below.refl _ w1).drew))
  have HV1 := Lib.hid (HVW.out.below HB1.out (Nat.le_refl _))
  have HBd := Lib.hid (show Below w1.heap.size w1 w1.drew from (Below.refl _ w1).drew)
  go_region_held3 (fun w' => w'.cell? ⟨w.heap.size, 0, none⟩ = some (.int .i64 (n : Nat)) ∧ w'.cell? ⟨w.heap.size, 1, none⟩ = some (.slice ad ns.length c))
    ((first
      | with_reducible exact HS1.out
      | with_reducible assumption))
    ((first
      | (go_at_call 42; (with_reducible refine (leaving_ok w1.drew n _ ns HR.out (HV1.out.below HBd.out (Nat.le_refl _)) hl).mono ?_); rintro e w2 ⟨v, rfl, vs, L, C, rfl, hRw, hL, hb2⟩; have HRW := Lib.hid hRw; have HB2 := Lib.hid (HBd.out.trans (hb2.mono HBd.out.size)); have HLL := Lib.hid (show w1.heap.size ≤ L from hL); have hs2 := HS.out w2 HB2.out; clear hRw hb2 hL)
      | (go_at_call 43; (with_reducible refine (arcs_ok w2 n _ ns (HV1.out.below HB2.out (Nat.le_refl _)) HM.out (by omega)).mono ?_); rintro e w3 ⟨v, rfl, hO, hb3⟩; obtain ⟨ea, ec, rfl⟩ := own_formK hO; have HE := Lib.hid hO; have HRW3 := Lib.hid (HRW.out.below hb3 (Nat.le_refl _)); have HB3 := Lib.hid (HB2.out.trans (hb3.mono HB2.out.size)); have HZ3 := Lib.hid (show w2.heap.size ≤ w3.heap.size from hb3.size); have hs3 := HS.out w3 HB3.out; clear hO hb3)))
  rename_i hHeld
  clear hs2 hs3 hHeld HS1 HBd
  have HB3w := Lib.hid (HB1.out.trans (HB3.out.mono HB1.out.size))
  have h3 := hs_of HD1.out HB3.out
  obtain ⟨d0, d1, hld⟩ := h3
  have HCF := Lib.hid (fun (w' : World) (hb : Below w3.heap.size w3 w') => ContainsFunc_ok w' L C n vs (outs n (sgl ns)) (HRW3.out.below hb (Nat.le_refl _)) (outsAt_len _ _ _) (by omega))
  have HTR := Lib.hid (fun (w' : World) (hb : Below w3.heap.size w3 w') => HQ.out.trans ((HB3w.out.trans (hb.mono HB3w.out.size)).mono HQ.out.size))
  by_cases hin : [] ∈ outs n (sgl ns)
  · have HIN := Lib.hid (show decide ([] ∈ outs n (sgl ns)) = true from decide_eq_true hin)
    go_wp2_with (first
      | (go_at_call 47; (with_reducible refine (eulerian_ok w3 n _ ns HR.out (HV1.out.below HB3.out (Nat.le_refl _)) hl).mono ?_); rintro e w4 ⟨v, rfl, t, rfl, hb4, ht2⟩; have HB4 := Lib.hid hb4; have HT2 := Lib.hid ht2; clear hb4 ht2)
      | (go_at_call 48; (with_reducible refine (HCF.out w4 HB4.out).mono ?_); rintro e w5 ⟨v, rfl, rfl, rfl⟩; rw [HIN.out]))
    all_goals
      have hfin : ChkP n ns at_ us (.int .i64 15) w w4 := ⟨15, rfl, HTR.out w4 HB4.out, .inl ⟨rfl, .inr (of_decide_eq_true HIN.out)⟩⟩
      go_ret
      exact ⟨_, rfl, hfin⟩
  · have HIN := Lib.hid (show decide ([] ∈ outs n (sgl ns)) = false from decide_eq_false hin)
    have HNI := Lib.hid hin
    clear hin
    go_upto_region 7 with (first
      | (go_at_call 47; (with_reducible refine (eulerian_ok w3 n _ ns HR.out (HV1.out.below HB3.out (Nat.le_refl _)) hl).mono ?_); rintro e w4 ⟨v, rfl, t, rfl, hb4, ht2⟩; have HB4 := Lib.hid hb4; have HT2 := Lib.hid ht2; clear hb4 ht2)
      | (go_at_call 48; (with_reducible refine (HCF.out w4 HB4.out).mono ?_); rintro e w5 ⟨v, rfl, rfl, rfl⟩; rw [HIN.out]))
    rotate_left
    · have hfin : ChkP n ns at_ us (.int .i64 15) w w4 := ⟨15, rfl, HTR.out w4 HB4.out, .inl ⟨rfl, .inl (fun h => absurd (HT2.out.2 h) (by assumption))⟩⟩
      go_ret
      exact ⟨_, rfl, hfin⟩
    have HEC := Lib.hid (HT2.out.1 (by assumption))
    clear d0 d1 hld HT2
    have HB5 := Lib.hid (HB3.out.trans (HB4.out.mono HB3.out.size))
    have HTR4 := Lib.hid (HTR.out w4 HB4.out)
    obtain ⟨d0, d1, hld⟩ := hs_of HD1.out HB5.out
    obtain ⟨u0, u1, hlu⟩ := hs_of HU1.out HB5.out
    by_cases ha0 : at_ < 0
    · have hfin : ChkP n ns at_ us (.int .i64 2) w w4 := ⟨2, rfl, HTR4.out, .inr ⟨HEC.out, HNI.out, .inl ⟨rfl, .inl ha0⟩⟩⟩
      have HF := Lib.hid hfin
      clear hfin
      go_wp2
      go_ret
      exact ⟨_, rfl, HF.out⟩
    by_cases han : (n : Int) ≤ at_
    · have hfin : ChkP n ns at_ us (.int .i64 2) w w4 := ⟨2, rfl, HTR4.out, .inr ⟨HEC.out, HNI.out, .inl ⟨rfl, .inr han⟩⟩⟩
      have HF := Lib.hid hfin
      clear hfin
      go_wp2
      go_ret
      exact ⟨_, rfl, HF.out⟩
    by_cases hul : us.length = n
    rotate_left
    · have hfin : ChkP n ns at_ us (.int .i64 8) w w4 := ⟨8, rfl, HTR4.out, .inr ⟨HEC.out, HNI.out, .inr ⟨by omega, by omega, .inl ⟨rfl, hul⟩⟩⟩⟩
      have HF := Lib.hid hfin
      have hne : ((us.length : Int) == (n : Int)) = false := by rw [beq_eq_false_iff_ne]; omega
      clear hfin
      go_wp2
      go_ret
      exact ⟨_, rfl, HF.out⟩
    have hne : ((us.length : Int) == (n : Int)) = true := by rw [hul]; simp
    have HUL := Lib.hid hul
    clear hul
    have HP0 := Lib.hid (show Blk (w4.alloc (.cells #[.int .i64 0, .int .i64 0, .int .i64 0, .int .i64 0, .int .i64 0, .int .i64 0, .int .i64 0, .int .i64 0, .int .i64 0, .int .i64 0, .int .i64 0, .int .i64 0] 95)) w4.heap.size (ints (ptK (sgl ns) us 0)) 95 from Blk.new w4 _ _)
    have HA0 := Lib.hid ((Below.refl w4.heap.size w4).alloc (Nat.le_refl _) (.cells #[.int .i64 0, .int .i64 0, .int .i64 0, .int .i64 0, .int .i64 0, .int .i64 0, .int .i64 0, .int .i64 0, .int .i64 0, .int .i64 0, .int .i64 0, .int .i64 0] 95))
    have HES := SlK.ofOwns p2_len HE.out rfl
    obtain ⟨ea', eb, eo, ec', hform, hie, hep, hec, hecm⟩ := HES.open elemEnds
    simp only [Value.slice.injEq, true_and] at hform
    obtain ⟨rfl, rfl⟩ := hform
    have HEP := Lib.hid hep
    have HR4 := Lib.hid (HRW3.out.below HB4.out (Nat.le_refl _))
    go_wp2
    clear u0 u1 hlu hep HES d0 d1 hld
    go_loopw [50] (fun i wr => ∃ k : Nat, k ≤ n ∧ i = .int .i64 k ∧ Hid (Blk wr w4.heap.size (ints (ptK (sgl ns) us k)) 95) ∧ Hid (∀ v, v < k → 0 ≤ us.getD v 0 ∧ us.getD v 0 < (Rot.outs (sgl ns) v).length) ∧ Hid (Below w4.heap.size w4 wr)) (fun i _ => n - (intOf i).toNat)
    case atStart => exact ⟨0, Nat.zero_le _, rfl, HP0, Lib.hid (fun v h => absurd h (Nat.not_lt_zero _)), HA0⟩
    case round =>
      clear HP0 HA0
      obtain ⟨k, hk, rfl, hPB, hX, hB⟩ := hrel
      have hqw := HTR4.out.trans (hB.out.mono HTR4.out.size)
      have HQW := Lib.hid hqw
      by_cases hkn : k < n
      · have hku : k < us.length := by rw [HUL.out]; exact hkn
        have x0 : wr.cell? ⟨b, o + k, none⟩ = some (.int .i64 us[k]) := by
          have := HP.out.at hqw (Nat.le_refl _) k hku 0 _ rfl
          rwa [Nat.mul_one, Nat.add_zero] at this
        have hbl := (HP.out.below hqw (Nat.le_refl _)).1 (by omega)
        have q1 : (k : Int) < (us.length : Int) := by omega
        have q2 : (k : Int) < (n : Int) := by omega
        have HUK := Lib.hid (show us.getD k 0 = us[k] by simp [List.getD_eq_getElem?_getD, hku])
        obtain ⟨x, hx⟩ : ∃ x, us[k] = x := ⟨_, rfl⟩
        rw [hx] at x0 HUK
        have hlo : k < (outs n (sgl ns)).length := by rw [outs, outsAt_len]; exact hkn
        have hor := outs_rot n (sgl ns) k hlo
        obtain ⟨rv, r0, hrow⟩ := (HR4.out.below hB.out (Nat.le_refl _)).row k hlo
        have hlL := (HR4.out.below hB.out (Nat.le_refl _)).blk.lt
        rw [hor] at hrow
        obtain ⟨ra, rb, ro, rc, rfl, hri, hrp, hrc, hrm⟩ := hrow.open elemI
        have HL9 := Lib.hid (show (Rot.outs (sgl ns) k).length ≤ (sgl ns).length by unfold Rot.outs; exact Nat.le_trans (List.length_filter_le _ _) (by simp))
        clear hx hor hrow
        by_cases hx0 : x < 0
        · have HF := Lib.hid (show ChkP n ns at_ us (.int .i64 2) w wr from ⟨2, rfl, HQW.out, .inr ⟨HEC.out, HNI.out, .inr ⟨by omega, by omega, .inr ⟨HUL.out, .inl ⟨rfl, fun h => absurd (h k hkn).1 (by rw [HUK.out]; omega)⟩⟩⟩⟩⟩)
          clear hqw
          go_wp2
          go_ret
          exact ⟨_, rfl, HF.out⟩
        by_cases hxl : ((Rot.outs (sgl ns) k).length : Int) ≤ x
        · have HF := Lib.hid (show ChkP n ns at_ us (.int .i64 2) w wr from ⟨2, rfl, HQW.out, .inr ⟨HEC.out, HNI.out, .inr ⟨by omega, by omega, .inr ⟨HUL.out, .inl ⟨rfl, fun h => absurd (h k hkn).2 (by rw [HUK.out]; omega)⟩⟩⟩⟩⟩)
          clear hqw
          go_wp2
          go_ret
          exact ⟨_, rfl, HF.out⟩
        obtain ⟨xn, rfl⟩ : ∃ xn : Nat, x = (xn : Int) := ⟨x.toNat, by omega⟩
        have hxn : xn < (Rot.outs (sgl ns) k).length := by omega
        obtain ⟨T, hT⟩ : ∃ T, Rot.outs (sgl ns) k = T := ⟨_, rfl⟩
        rw [hT] at hxn hri hrp hrc HL9 hxl r0
        obtain ⟨y, hy⟩ : ∃ y, T[xn] = y := ⟨_, rfl⟩
        have y0 : wr.cell? ⟨rb, ro + xn, none⟩ = some (.int .i64 (y : Nat)) := by
          have := hrp.2 xn hxn 0 (.int .i64 (y : Nat)) (by rw [hy]; rfl)
          rwa [Nat.mul_one, Nat.add_zero] at this
        have hrl := hrp.1 (by omega)
        have hys : y < (sgl ns).length := by
          have : y ∈ Rot.outs (sgl ns) k := by rw [hT, ← hy]; exact List.getElem_mem hxn
          exact (Rot.outs_mem.1 this).1
        obtain ⟨⟨z1, z2⟩, hz⟩ : ∃ z, (sgl ns)[y] = z := ⟨_, rfl⟩
        have hb3r : Below w3.heap.size w3 wr := HB4.out.trans (hB.out.mono HB4.out.size)
        have e1 : wr.cell? ⟨eb, eo + y * 2 + 1, none⟩ = some (.int .i64 (z2 : Nat)) := HEP.out.at hb3r (Nat.le_refl _) y hys 1 _ (by rw [hz]; rfl)
        have hel := (HEP.out.below hb3r (Nat.le_refl _)).1 (by omega)
        have HPT := Lib.hid (show Rot.ptr (sgl ns) (rot us) k = z2 by
          have e2 : rot us k = xn := by unfold rot; rw [HUK.out]; rfl
          unfold Rot.ptr Rot.trg
          rw [e2, hT]
          simp [List.getD_eq_getElem?_getD, hxn, hy, hys, hz])
        have HST := Lib.hid (ptK_set (sgl ns) us k (by omega))
        have hp12 : (ptK (sgl ns) us k).length = 12 := by simp [ptK]
        have p0 := hPB.out.cell k _ (ints_at (ptK (sgl ns) us k) k (by omega))
        have pf := hPB.out.free k
        have hpl := hPB.out.lt
        have i0 : (0 : Int) ≤ (y : Int) := by omega
        have i1' : (y : Int) < ((sgl ns).length : Int) := by omega
        have i2 : (0 : Int) ≤ (xn : Int) := by omega
        have i3 : (xn : Int) < (T.length : Int) := by omega
        have i4 : (k : Int) < 12 := by omega
        have HTT := Lib.hid hT
        have HXN := Lib.hid hxn
        obtain ⟨pv, hpv⟩ : ∃ pv, Value.int .i64 ((ptK (sgl ns) us k)[k]'(by omega) : Nat) = pv := ⟨_, rfl⟩
        rw [hpv] at p0
        clear hT hy hz hb3r hp12 hqw hpv
        go_wp2
        go_roundw
        case rel => exact ⟨k + 1, by omega, by go_num, Lib.hid (by rw [← HST.out, ← ints_set, HPT.out]; exact hPB.out.set k _), Lib.hid (fun v hv => by
          by_cases e : v = k
          · subst e; rw [HUK.out, HTT.out]; omega
          · exact hX.out v (by omega)), Lib.hid (hB.out.setCell (p := ⟨w4.heap.size, k, none⟩) (Nat.le_refl _) _)⟩
        case measure => simp [intOf]; omega
      · obtain rfl : n = k := by omega
        obtain ⟨an, rfl⟩ : ∃ an : Nat, at_ = (an : Int) := ⟨at_.toNat, by omega⟩
        have han2 : an < n := by omega
        have hplt := ptK_lt n12 HRG.out hX.out
        have HXX := Lib.hid hX.out
        have hnl2 : ¬ (n : Int) < (us.length : Int) := by have := HUL.out; omega
        have hnl3 : ¬ n < us.length := by have := HUL.out; omega
        have hp12 : (ptK (sgl ns) us n).length = 12 := by simp [ptK]
        obtain ⟨PT, hPT⟩ : ∃ PT, ptK (sgl ns) us n = PT := ⟨_, rfl⟩
        rw [hPT] at hplt hp12 hPB
        have HPT := Lib.hid hPT
        obtain ⟨a0, a1, a2, a3, a4, a5, a6, a7, a8, a9, a10, a11, rfl⟩ := twelve hp12
        have hPB2 := hPB.out
        have c0 := hPB2.cell 0 _ rfl; have c1 := hPB2.cell 1 _ rfl; have c2 := hPB2.cell 2 _ rfl; have c3 := hPB2.cell 3 _ rfl; have c4 := hPB2.cell 4 _ rfl; have c5 := hPB2.cell 5 _ rfl; have c6 := hPB2.cell 6 _ rfl; have c7 := hPB2.cell 7 _ rfl; have c8 := hPB2.cell 8 _ rfl; have c9 := hPB2.cell 9 _ rfl; have c10 := hPB2.cell 10 _ rfl; have c11 := hPB2.cell 11 _ rfl
        have hpl := hPB2.lt
        have HCY : Hid (Calls Tryz.prog 50 #[.agg #[.int .i64 (a0 : Nat), .int .i64 (a1 : Nat), .int .i64 (a2 : Nat), .int .i64 (a3 : Nat), .int .i64 (a4 : Nat), .int .i64 (a5 : Nat), .int .i64 (a6 : Nat), .int .i64 (a7 : Nat), .int .i64 (a8 : Nat), .int .i64 (a9 : Nat), .int .i64 (a10 : Nat), .int .i64 (a11 : Nat)], .int .i64 (n : Nat), .int .i64 (an : Nat)] wr (Rets fun r w' => CycP [a0, a1, a2, a3, a4, a5, a6, a7, a8, a9, a10, a11] n an r wr w')) := Lib.hid (cycles_ok wr [a0, a1, a2, a3, a4, a5, a6, a7, a8, a9, a10, a11] n an rfl hplt n1 n12 han2)
        have hqd : Below w1.heap.size w1 wr := HB5.out.trans (hB.out.mono HB5.out.size)
        obtain ⟨d0, d1, hld⟩ := hs_of HD1.out hqd
        obtain ⟨u0, u1, hlu⟩ := hs_of HU1.out hqd
        have HGU := Lib.hid (show (∀ v, v < n → ∃ i, it [a0, a1, a2, a3, a4, a5, a6, a7, a8, a9, a10, a11] i v = an) ↔ (∀ v, v < n → ∃ i, it (ptK (sgl ns) us n) i v = (an : Int).toNat) by rw [HPT.out, Int.toNat_natCast])
        clear hplt hPT hPB hqd hPB2 hX
        go_wp2_with (go_at_call 50; (with_reducible refine HCY.out.mono ?_); rintro e w6 ⟨v, rfl, cc, tt, rfl, hb6, hcyc⟩; have HB6 := Lib.hid (HQW.out.trans (hb6.mono HQW.out.size)); have HCC := Lib.hid hcyc; clear hb6 hcyc)
        all_goals
          have HF3 : ¬ (cc = 1 ∧ tt = true) → ChkP n ns (an : Int) us (.int .i64 3) w w6 := fun hn => ⟨3, rfl, HB6.out, .inr ⟨HEC.out, HNI.out, .inr ⟨by omega, by omega, .inr ⟨HUL.out, .inr ⟨HXX.out, .inl ⟨rfl, fun h => hn (HCC.out.2 (HGU.out.2 h))⟩⟩⟩⟩⟩⟩
          have HF0 : cc = 1 ∧ tt = true → ChkP n ns (an : Int) us (.int .i64 0) w w6 := fun hn => ⟨0, rfl, HB6.out, .inr ⟨HEC.out, HNI.out, .inr ⟨by omega, by omega, .inr ⟨HUL.out, .inr ⟨HXX.out, .inr ⟨rfl, HGU.out.1 (HCC.out.1 hn)⟩⟩⟩⟩⟩⟩
          go_ret
          first
            | exact ⟨_, rfl, HF3 (by simp_all)⟩
            | exact ⟨_, rfl, HF0 (by simp_all)⟩
end Go.Proofs.YtlnhocgjgmhfgaaGreatDoor

namespace Go.Proofs.YtlnhocgjgmhfgaaGreatDoor
open Go.RowKit

abbrev Arc3 := Nat × Nat × Nat
theorem sum_zero : ∀ (f : Nat → Nat) (l : List Nat), (∀ v ∈ l, f v = 0) → (l.map f).sum = 0
  | _, [], _ => rfl
  | f, x :: l, h => by
    rw [List.map_cons, List.sum_cons, h x (List.mem_cons_self ..), sum_zero f l fun v hv => h v (List.mem_cons_of_mem _ hv)]
theorem sum_one (a c : Nat) : ∀ n, a < n → ((List.range n).map fun v => if a = v then c else 0).sum = c
  | n + 1, h => by
    rw [List.range_succ, List.map_append, List.sum_append]
    have hz : ∀ m, m ≤ a → ((List.range m).map fun v => if a = v then c else 0).sum = 0 := fun m hm => by
      refine sum_zero _ _ fun v hv => ?_
      have := List.mem_range.1 hv
      rw [if_neg (by omega)]
    by_cases e : a = n
    · subst e; rw [hz a (Nat.le_refl _)]; simp
    · rw [sum_one a c n (by omega)]; simp [e]
theorem sum_map_add (f g : Nat → Nat) : ∀ l : List Nat, (l.map fun v => f v + g v).sum = (l.map f).sum + (l.map g).sum
  | [] => rfl
  | x :: l => by simp only [List.map_cons, List.sum_cons, sum_map_add f g l]; omega
open Classical in
theorem sumS (S : Nat → Prop) (f : Arc3 → Nat) (n : Nat) : ∀ ns : List Arc3, (∀ x ∈ ns, f x < n) →
    ((List.range n).map fun v => if S v then ((ns.filter fun x => decide (f x = v)).map fun x => x.2.2).sum else 0).sum = ((ns.filter fun x => decide (S (f x))).map fun x => x.2.2).sum
  | [], _ => by
    rw [sum_zero _ _ (fun v _ => by simp)]; rfl
  | x :: ns, h => by
    have ih := sumS S f n ns fun y hy => h y (List.mem_cons_of_mem _ hy)
    have hx := h x (List.mem_cons_self ..)
    have e : (fun v => if S v then (((x :: ns).filter fun y => decide (f y = v)).map fun y => y.2.2).sum else 0) =
        fun v => (if f x = v then (if S (f x) then x.2.2 else 0) else 0) + (if S v then ((ns.filter fun y => decide (f y = v)).map fun y => y.2.2).sum else 0) := by
      funext v
      by_cases hv : f x = v
      · subst hv
        by_cases hs : S (f x) <;> simp [hs]
      · by_cases hs : S v <;> simp [hs, hv]
    rw [e, sum_map_add, ih, sum_one _ _ _ hx]
    by_cases hs : S (f x) <;> simp [hs]
theorem sum_pq (p q : Arc3 → Bool) : ∀ l : List Arc3, (∀ x ∈ l, p x = true → q x = true) → (∀ x ∈ l, 1 ≤ x.2.2) →
    ((l.filter p).map fun x => x.2.2).sum ≤ ((l.filter q).map fun x => x.2.2).sum ∧ ((∃ x ∈ l, q x = true ∧ p x = false) → ((l.filter p).map fun x => x.2.2).sum < ((l.filter q).map fun x => x.2.2).sum)
  | [], _, _ => ⟨by simp, fun ⟨x, hx, _⟩ => by simp at hx⟩
  | x :: l, h1, h2 => by
    obtain ⟨i1, i2⟩ := sum_pq p q l (fun y hy => h1 y (List.mem_cons_of_mem _ hy)) (fun y hy => h2 y (List.mem_cons_of_mem _ hy))
    have a := h1 x (List.mem_cons_self ..)
    have b := h2 x (List.mem_cons_self ..)
    simp only [List.filter_cons]
    cases hp : p x <;> cases hq : q x
    · simp only [if_false, Bool.false_eq_true]
      refine ⟨i1, fun ⟨y, hy, hy2⟩ => i2 ?_⟩
      rcases List.mem_cons.1 hy with rfl | hy
      · rw [hq] at hy2; exact absurd hy2.1 (by simp)
      · exact ⟨y, hy, hy2⟩
    · simp only [if_false, if_true, Bool.false_eq_true, List.map_cons, List.sum_cons]
      exact ⟨by omega, fun _ => by omega⟩
    · rw [hp, hq] at a; exact absurd (a rfl) (by simp)
    · simp only [if_true, List.map_cons, List.sum_cons]
      refine ⟨by omega, fun ⟨y, hy, hy2⟩ => ?_⟩
      have : ∃ y ∈ l, q y = true ∧ p y = false := by
        rcases List.mem_cons.1 hy with rfl | hy
        · rw [hp] at hy2; exact absurd hy2.2 (by simp)
        · exact ⟨y, hy, hy2⟩
      have := i2 this
      omega
/-- A closed set of a balanced digraph has no arcs into it from outside. -/
theorem closed_back {n : Nat} {ns : List Arc3} (hR : RD n ns) (hd : degAt (·.1) n ns ns.length = degAt (·.2.1) n ns ns.length) (S : Nat → Prop) (hS : ∀ x ∈ ns, S x.1 → S x.2.1) : ∀ x ∈ ns, S x.2.1 → S x.1 := by
  classical
  have h1 := sumS S (·.1) n ns fun x hx => (hR.rng x hx).1
  have h2 := sumS S (·.2.1) n ns fun x hx => (hR.rng x hx).2.1
  have e : ∀ v, v < n → ((ns.filter fun x => decide (x.1 = v)).map fun x => x.2.2).sum = ((ns.filter fun x => decide (x.2.1 = v)).map fun x => x.2.2).sum := fun v hv => by
    have := congrArg (fun l => l.getD v 0) hd
    simpa [degAt, List.getD_eq_getElem?_getD, hv] using this
  have e2 : ((List.range n).map fun v => if S v then ((ns.filter fun x => decide (x.1 = v)).map fun x => x.2.2).sum else 0).sum = ((List.range n).map fun v => if S v then ((ns.filter fun x => decide (x.2.1 = v)).map fun x => x.2.2).sum else 0).sum := by
    congr 1
    apply List.map_congr_left
    intro v hv
    rw [e v (List.mem_range.1 hv)]
  rw [h1, h2] at e2
  have h3 := (sum_pq (fun x => decide (S x.1)) (fun x => decide (S x.2.1)) ns (fun x hx h => by simp only [decide_eq_true_eq] at h ⊢; exact hS x hx h) (fun x hx => (hR.rng x hx).2.2.1)).2
  intro x hx hx2
  apply Classical.byContradiction
  intro hno
  have := h3 ⟨x, hx, by simpa using hx2, by simpa using hno⟩
  omega
theorem pos_iff {n : Nat} {ns : List Arc3} (hR : RD n ns) (v : Nat) (hv : v < n) : 0 < (degAt (·.1) n ns ns.length).getD v 0 ↔ ∃ x ∈ ns, x.1 = v := by
  have e : (degAt (·.1) n ns ns.length).getD v 0 = ((ns.filter fun x => decide (x.1 = v)).map fun x => x.2.2).sum := by
    simp [degAt, List.getD_eq_getElem?_getD, hv]
  rw [e]
  have key : ∀ l : List Arc3, (∀ x ∈ l, 1 ≤ x.2.2) → (0 < ((l.filter fun x => decide (x.1 = v)).map fun x => x.2.2).sum ↔ ∃ x ∈ l, x.1 = v) := by
    intro l
    induction l with
    | nil => intro _; simp
    | cons y l ih =>
      intro h
      have i := ih fun z hz => h z (List.mem_cons_of_mem _ hz)
      have hy := h y (List.mem_cons_self ..)
      by_cases hv : y.1 = v
      · simp [hv]; omega
      · simp only [List.filter_cons, hv, decide_false, Bool.false_eq_true, if_false]
        rw [i]
        constructor
        · rintro ⟨z, hz, rfl⟩; exact ⟨z, List.mem_cons_of_mem _ hz, rfl⟩
        · rintro ⟨z, hz, rfl⟩
          rcases List.mem_cons.1 hz with rfl | hz
          · exact absurd rfl hv
          · exact ⟨z, hz, rfl⟩
  exact key ns fun x hx => (hR.rng x hx).2.2.1
theorem ends1_rng {n : Nat} {ns : List Arc3} (hR : RD n ns) : ∀ x ∈ ends1 ns, x.1 < n ∧ x.2 < n := fun x hx => by
  obtain ⟨y, hy, rfl⟩ := List.mem_map.1 hx
  exact ⟨(hR.rng y hy).1, (hR.rng y hy).2.1⟩
theorem clo_iff (ns : List Arc3) (S : Nat → Prop) : Clo (ends1 ns) (List.replicate ns.length false) S ↔ ∀ x ∈ ns, S x.1 → S x.2.1 := by
  constructor
  · intro h x hx
    obtain ⟨i, hi, rfl⟩ := List.mem_iff_getElem.1 hx
    exact h i (ns[i].1, ns[i].2.1) (by simp [ends1, hi]) (by simp [hi])
  · intro h i x hx _
    have hi : i < ns.length := by
      have := (List.getElem?_eq_some_iff.1 hx).1
      rwa [ends1_len] at this
    have e : x = (ns[i].1, ns[i].2.1) := by
      simp [ends1, hi] at hx
      exact hx.symm
    rw [e]
    exact h ns[i] (List.getElem_mem hi)
theorem rchD_iff {n v : Nat} {ns : List Arc3} (hR : RD n ns) (hv : v < n) (j : Nat) : Tr (rchD n ns v) j ↔ ∀ S : Nat → Prop, (∀ x ∈ ns, S x.1 → S x.2.1) → S v → S j := by
  unfold rchD
  rw [rch_iff (ends1_rng hR) hv]
  constructor
  · intro h S hS; exact h S ((clo_iff ns S).2 hS)
  · intro h S hS; exact h S ((clo_iff ns S).1 hS)
theorem is_eul {n : Nat} {ns : List Arc3} (hR : RD n ns) : IsP n ns ↔ EulC n ns := by
  have hF := degAt_len (·.1) n ns ns.length
  have hT := degAt_len (·.2.1) n ns ns.length
  constructor
  · rintro ⟨hne, h⟩
    have hd : degAt (·.1) n ns ns.length = degAt (·.2.1) n ns ns.length := by
      apply List.ext_getElem (by rw [hF, hT])
      intro i h1 h2
      have := (h i (by rw [hF] at h1; exact h1)).1
      simpa [List.getD_eq_getElem?_getD, h1, h2] using this
    refine ⟨hne, hd, fun l hE hT0 hl i x hx _ => ?_⟩
    have hi : i < ns.length := by
      have := (List.getElem?_eq_some_iff.1 hx).1
      rwa [ends1_len] at this
    have h0 : 0 < ns.length := by omega
    have e0 : ns.getD 0 (0, 0, 0) = ns[0] := by simp [List.getD_eq_getElem?_getD, h0]
    have ex : x = (ns[i].1, ns[i].2.1) := by simp [ends1, hi] at hx; exact hx.symm
    rw [e0] at hT0
    have hv0 := (hR.rng _ (List.getElem_mem h0)).1
    have hvi := (hR.rng _ (List.getElem_mem hi)).1
    have h2 := (h ns[0].1 hv0).2 ns[i].1 hvi ((pos_iff hR _ hv0).2 ⟨_, List.getElem_mem h0, rfl⟩) ((pos_iff hR _ hvi).2 ⟨_, List.getElem_mem hi, rfl⟩)
    rw [rchD_iff hR hv0] at h2
    rw [ex]
    refine h2 (Tr l) ((clo_iff ns _).1 fun i y h1 h2 h3 => hE.clo i y h1 h2 h3 (tr_rep n _)) hT0
  · rintro ⟨hne, hd, h⟩
    refine ⟨hne, fun v hv => ⟨by rw [hd], fun u hu h1 h2 => ?_⟩⟩
    have h0 : 0 < ns.length := List.length_pos_iff.2 hne
    have e0 : ns.getD 0 (0, 0, 0) = ns[0] := by simp [List.getD_eq_getElem?_getD, h0]
    rw [e0] at h
    have hv0 := (hR.rng _ (List.getElem_mem h0)).1
    have hself : ∀ a, a < n → Tr (rchD n ns a) a := fun a ha => (rchD_iff hR ha a).2 fun S _ h => h
    have hclo : ∀ a, a < n → ∀ x ∈ ns, Tr (rchD n ns a) x.1 → Tr (rchD n ns a) x.2.1 := fun a ha x hx h => by
      rw [rchD_iff hR ha] at h ⊢
      exact fun S hS hSa => hS x hx (h S hS hSa)
    have hall : ∀ x ∈ ns, Tr (rchD n ns ns[0].1) x.1 := fun x hx => by
      obtain ⟨i, hi, rfl⟩ := List.mem_iff_getElem.1 hx
      have hcl := (clo_iff ns (Tr (rchD n ns ns[0].1))).2 (hclo _ hv0)
      refine h (rchD n ns ns[0].1) ⟨by rw [rchD_len]; simp, fun j hj => absurd hj (tr_rep n j), fun i y a b c _ => hcl i y a b c, ?_⟩ (hself _ hv0) (rchD_len n ns _) i (ns[i].1, ns[i].2.1) (by simp [ends1, hi]) (by simp [hi])
      rw [show (List.replicate n false).count false = n by simp]
      have := List.count_le_length (a := false) (l := rchD n ns ns[0].1)
      rwa [rchD_len] at this
    obtain ⟨x, hx, rfl⟩ := (pos_iff hR v hv).1 h1
    obtain ⟨y, hy, rfl⟩ := (pos_iff hR u hu).1 h2
    have hback := closed_back hR hd (Tr (rchD n ns x.1)) (hclo _ hv)
    have hv0r : Tr (rchD n ns x.1) ns[0].1 := by
      apply Classical.byContradiction
      intro hno
      have h3 := hall x hx
      rw [rchD_iff hR hv0] at h3
      exact h3 (fun j => ¬ Tr (rchD n ns x.1) j) (fun z hz h4 h5 => h4 (hback z hz h5)) hno (hself _ hv)
    have h4 := hall y hy
    rw [rchD_iff hR hv0] at h4
    exact h4 _ (hclo _ hv) hv0r
end Go.Proofs.YtlnhocgjgmhfgaaGreatDoor

namespace Go.Proofs.YtlnhocgjgmhfgaaGreatDoor
open Go.RowKit
set_option maxRecDepth 100000

/-- The rotors behind the arcs l. -/
def rotK (ss : List (Nat × Nat)) (us : List Int) (n : Nat) (l : List Nat) : List Nat := (List.range n).map fun v => (rot us v + Rot.cntS ss l v) % (Rot.outs ss v).length
theorem rotK_len (ss : List (Nat × Nat)) (us : List Int) (n : Nat) (l : List Nat) : (rotK ss us n l).length = n := by simp [rotK]
theorem rotK_zero {n : Nat} {ss : List (Nat × Nat)} {a : Nat} {us : List Int} (h : GoodU n ss a us) : us = (rotK ss us n []).map fun (x : Nat) => (x : Int) := by
  apply List.ext_getElem
  · rw [List.length_map, rotK_len, h.len]
  · intro i h1 h2
    have hi : i < n := by rw [← h.len]; exact h1
    have h3 := h.rng i hi
    have h4 : us.getD i 0 = us[i] := by simp [List.getD_eq_getElem?_getD, h1]
    rw [h4] at h3
    simp only [rotK, List.getElem_map, List.getElem_range, Rot.cntS, List.countP_nil, Nat.add_zero, rot, h4]
    rw [Nat.mod_eq_of_lt (by omega)]
    omega
theorem rotK_step {ss : List (Nat × Nat)} {us : List Int} {n v e : Nat} {l : List Nat} (_ : v < n) (he : Rot.src ss e = v) (h : v < (rotK ss us n l).length) :
    rotK ss us n (l ++ [e]) = (rotK ss us n l).set v (((rotK ss us n l)[v] + 1) % (Rot.outs ss v).length) := by
  apply List.ext_getElem (by simp [rotK])
  intro i h1 h2
  have hin : i < n := by simpa [rotK] using h1
  by_cases e2 : v = i
  · subst e2
    rw [List.getElem_set_self]
    simp only [rotK, List.getElem_map, List.getElem_range, Rot.cntS, List.countP_append]
    simp [he, Nat.add_assoc]
  · rw [List.getElem_set_ne e2]
    simp only [rotK, List.getElem_map, List.getElem_range, Rot.cntS, List.countP_append]
    simp [he, e2]

section
variable {P : Program} {ops : Array Oper} {Q : Exit → Act → World → Prop} {md : Region.Mode} {S : World → Prop} {A : Nat → Bool}
theorem wpAnyJ_pair {i j : Nat} {o o' : Oper} {fuel : Nat} {listed : Array Bool} {a : Act} {w : World} (hr : Region.ready md ops listed = [i, j]) (ho : ops[i]? = some o) (ho' : ops[j]? = some o')
    (h : ∀ K' : Act → World → Prop, Shut (∀ a w, (A i = true → S w) → wpAnyJ P md ops Q S A fuel (listed.setIfInBounds i true) a w → K' a w) → if Region.wanted o (yielded ops a.tmps) = true then Oper.wp P o a w K' Q else K' (a.put o.dst undef) w)
    (h' : ∀ K' : Act → World → Prop, Shut (∀ a w, (A j = true → S w) → wpAnyJ P md ops Q S A fuel (listed.setIfInBounds j true) a w → K' a w) → if Region.wanted o' (yielded ops a.tmps) = true then Oper.wp P o' a w K' Q else K' (a.put o'.dst undef) w) :
    wpAnyJ P md ops Q S A (fuel + 1) listed a w :=
  ⟨fun h0 => absurd (hr ▸ h0) (by simp), by
    rw [hr]
    intro k hk
    rcases List.mem_cons.1 hk with rfl | hk
    · exact wpOp_step ho (fun K' hK => h K' (fun a w hS hW => hK a w ⟨hS, hW⟩))
    · rw [List.mem_singleton] at hk
      subst hk
      exact wpOp_step ho' (fun K' hK => h' K' (fun a w hS hW => hK a w ⟨hS, hW⟩))⟩
end
theorem own_some {w : World} {b e s n : Nat} {v : Value} {ys : List Value} (h : w.ownsRow b e s v n ys) (hv : v ≠ .slice none 0 0) : ∃ g cap, v = .slice (some ⟨g, 0, none⟩) n cap ∧ b ≤ g := by
  rcases h.2 with ⟨h0, -⟩ | ⟨g, cap, cur, h1, h2, -⟩
  · exact absurd h0 hv
  · exact ⟨g, cap, h1, h2⟩

/-- One step of the run. -/
theorem run_step {ss : List (Nat × Nat)} {us : List Int} {n a j v : Nat} {l : List Nat} (_ : n ≤ 12) (h : GoodU n ss a us) (hrg : ∀ x ∈ ss, x.1 < n ∧ x.2 < n) (hr : Rot.run ss (rot us) a j = (v, l)) (hv : v < n) :
    ∃ x e z1 z2, ∃ (h1 : v < (rotK ss us n l).length), (rotK ss us n l)[v] = x ∧ ∃ h2 : (x + 1) % (Rot.outs ss v).length < (Rot.outs ss v).length, (Rot.outs ss v)[(x + 1) % (Rot.outs ss v).length] = e ∧ x < (Rot.outs ss v).length ∧ ∃ h3 : e < ss.length, ss[e] = (z1, z2) ∧ z2 < n ∧
      Rot.run ss (rot us) a (j + 1) = (z2, l ++ [e]) ∧ rotK ss us n (l ++ [e]) = (rotK ss us n l).set v ((x + 1) % (Rot.outs ss v).length) := by
  have hpos := h.pos v hv
  have h1 : v < (rotK ss us n l).length := by rw [rotK_len]; exact hv
  have h2 := Nat.mod_lt ((rotK ss us n l)[v] + 1) hpos
  have hx : (rotK ss us n l)[v] = (rot us v + Rot.cntS ss l v) % (Rot.outs ss v).length := by simp [rotK]
  have hmm : ((rotK ss us n l)[v] + 1) % (Rot.outs ss v).length = (rot us v + Rot.cntS ss l v + 1) % (Rot.outs ss v).length := by rw [hx, Nat.mod_add_mod]
  obtain ⟨e, he⟩ : ∃ e, (Rot.outs ss v)[((rotK ss us n l)[v] + 1) % (Rot.outs ss v).length]'h2 = e := ⟨_, rfl⟩
  have hem : e ∈ Rot.outs ss v := by rw [← he]; exact List.getElem_mem h2
  obtain ⟨h3, hsrc⟩ := Rot.outs_mem.1 hem
  obtain ⟨⟨z1, z2⟩, hz⟩ : ∃ z, ss[e] = z := ⟨_, rfl⟩
  have hnx : Rot.nxt ss (rot us) v (Rot.cntS ss l v) = e := by
    unfold Rot.nxt
    rw [← hmm, List.getD_eq_getElem?_getD, List.getElem?_eq_getElem h2, he]; rfl
  refine ⟨_, e, z1, z2, h1, rfl, h2, he, by rw [hx]; exact Nat.mod_lt _ hpos, h3, hz, ?_, ?_, rotK_step hv hsrc h1⟩
  · have := hrg _ (List.getElem_mem h3); rw [hz] at this; exact this.2
  · rw [Rot.run, hr]
    simp only
    rw [hnx]
    simp [Rot.trg, List.getD_eq_getElem?_getD, h3, hz]

set_option maxHeartbeats 4000000 in
theorem EWalk_ok (w : World) (n : Nat) (v : Value) (ns : List (Nat × Nat × Nat)) (a : Nat) (rv : Value) (us : List Int) (k : Nat) (hR : RD n ns) (hv : SlK e3 3 w v (ns.map n3)) (hl : ns.length ≤ 1000) (hu : SlK iz 1 w rv us) (hE : EulC n ns) (hG : GoodU n (sgl ns) a us) (hk : k ≤ 4096) :
    Calls Tryz.prog 13 #[.agg #[.int .i64 (n : Nat), v], .agg #[.int .i64 (a : Nat), rv], .int .i64 (k : Nat)] w (Rets fun r w' => ∃ q cap way, r = .tuple #[.agg #[.int .i64 (Rot.run (sgl ns) (rot us) a k).1, .slice (some ⟨q, 0, none⟩) n cap], way, .int .i64 0] ∧
      w'.ownsRow w.heap.size 3 1 (.slice (some ⟨q, 0, none⟩) n cap) n (ints (rotK (sgl ns) us n (Rot.run (sgl ns) (rot us) a k).2)) ∧ w'.ownsRow w.heap.size 3 1 way (Rot.run (sgl ns) (rot us) a k).2.length (ints (Rot.run (sgl ns) (rot us) a k).2) ∧ Below w.heap.size w w') := by
  obtain ⟨ad, c, rfl⟩ := hv.form
  have HUV := Lib.hid hu
  obtain ⟨ru, b, o, cu, rfl, hra, hc, hcm, -, hp⟩ := hu
  obtain rfl := hra (by have := hG.len; have := hR.pos; omega)
  unfold maxLen at hcm
  rw [hG.len] at hc HUV ⊢
  have hnl : (ns.map n3).length = ns.length := List.length_map _
  rw [hnl] at hv ⊢
  have n12 := hR.le
  have n1 := hR.pos
  have hul := hG.len
  have HR := Lib.hid hR; have HV := Lib.hid hv; have HP := Lib.hid hp; have HNL := Lib.hid hnl; have HE0 := Lib.hid hE; have HG := Lib.hid hG; have HUL := Lib.hid hul
  have HM := Lib.hid (show ∀ x ∈ ns, x.2.2 ≤ 50 from fun x hx => (hR.rng x hx).2.2.2)
  have hSL := sgl_le ns HM.out ns.length
  rw [List.take_length] at hSL
  have HRG := Lib.hid (sgl_rng hR)
  obtain ⟨W1, hW1⟩ : ∃ W, w.alloc (.cells #[.int .i64 (n : Nat), .slice ad ns.length c] 28) = W := ⟨_, rfl⟩
  obtain ⟨W2, hW2⟩ : ∃ W, W1.alloc (.cells #[.int .i64 (a : Nat), .slice (some ⟨b, o, none⟩) n cu] 38) = W := ⟨_, rfl⟩
  obtain ⟨W, hW⟩ : ∃ W, W2.alloc (.cells #[.int .i64 0, .slice none 0 0] 38) = W := ⟨_, rfl⟩
  have z1 : W1.heap.size = w.heap.size + 1 := by rw [← hW1, World.size_alloc]
  have z2 : W2.heap.size = w.heap.size + 1 + 1 := by rw [← hW2, World.size_alloc, z1]
  have z3 : W.heap.size = w.heap.size + 1 + 1 + 1 := by rw [← hW, World.size_alloc, z2]
  have k1 : Blk W1 w.heap.size [.int .i64 (n : Nat), .slice ad ns.length c] 28 := by rw [← hW1]; exact Blk.new w _ _
  have k2 : Blk W2 (w.heap.size + 1) [.int .i64 (a : Nat), .slice (some ⟨b, o, none⟩) n cu] 38 := by rw [← hW2, ← z1]; exact Blk.new W1 _ _
  have HD := Lib.hid (show Blk W w.heap.size [.int .i64 (n : Nat), .slice ad ns.length c] 28 by rw [← hW, ← hW2]; exact (k1.alloc _).alloc _)
  have HU := Lib.hid (show Blk W (w.heap.size + 1) [.int .i64 (a : Nat), .slice (some ⟨b, o, none⟩) n cu] 38 by rw [← hW]; exact k2.alloc _)
  have HX := Lib.hid (show Blk W (w.heap.size + 1 + 1) [.int .i64 0, .slice none 0 0] 38 by rw [← hW, ← z2]; exact Blk.new W2 _ _)
  have HQ := Lib.hid (show Below w.heap.size w W by
    have q1 : Below w.heap.size w W1 := by rw [← hW1]; exact (Below.refl _ w).alloc (Nat.le_refl _) _
    have q2 : Below w.heap.size w W2 := by rw [← hW2]; exact q1.alloc q1.size _
    rw [← hW]; exact q2.alloc q2.size _)
  have HVW := Lib.hid (HV.out.below HQ.out (Nat.le_refl _))
  have HUW := Lib.hid (HUV.out.below HQ.out (Nat.le_refl _))
  have HW : Hid (((w.alloc (.cells #[.int .i64 (n : Nat), .slice ad ns.length c] 28)).alloc (.cells #[.int .i64 (a : Nat), .slice (some ⟨b, o, none⟩) n cu] 38)).alloc (.cells #[.int .i64 0, .slice none 0 0] 38) = W) := Lib.hid (by rw [hW1, hW2, hW])
  have HZ2 := Lib.hid z3
  have hk0 : ¬ (k : Int) < 0 := by omega
  have hk1 : ¬ (4096 : Int) < (k : Int) := by omega
  have HCK := Lib.hid (EChk_ok W n (.slice ad ns.length c) ns (a : Int) (.slice (some ⟨b, o, none⟩) n cu) us HR.out HVW.out hl HUW.out)
  clear k1 k2 hW1 hW2 hW z1 z2 z3 hp hv hra hR hnl hE hG hul
  go_enter Tryz.func13, Tryz.ntmps13
  go_wp2_with (go_at_call 15; rw [HW.out]; (with_reducible refine HCK.out.mono ?_); rintro e w1 ⟨v, rfl, ee, rfl, hb, hiff⟩; obtain rfl : ee = 0 := hiff.iff.2 ⟨HE0.out, by omega, by simpa using HG.out⟩; have HB1 := Lib.hid hb; clear hb hiff)
  have HD1 := Lib.hid (HD.out.below HB1.out (Nat.le_refl _))
  have HU1 := Lib.hid (HU.out.below HB1.out (Nat.le_refl _))
  have HX1 := Lib.hid (HX.out.below HB1.out (Nat.le_refl _))
  have HS := Lib.hid (fun (w' : World) (hb : Below w1.heap.size w1 w') => (⟨(HD1.out.below hb (Nat.le_refl _)).cell 0 _ rfl, (HD1.out.below hb (Nat.le_refl _)).cell 1 _ rfl⟩ : w'.cell? ⟨w.heap.size, 0, none⟩ = some (.int .i64 (n : Nat)) ∧ w'.cell? ⟨w.heap.size, 1, none⟩ = some (.slice ad ns.length c)))
  have HS1 := Lib.hid (HS.out w1.drew ((Below.refl _ w1).drew))
  have HV1 := Lib.hid (HVW.out.below HB1.out (Nat.le_refl _))
  have HBd := Lib.hid (show Below w1.heap.size w1 w1.drew from (Below.refl _ w1).drew)
  go_region_held3 (fun w' => w'.cell? ⟨w.heap.size, 0, none⟩ = some (.int .i64 (n : Nat)) ∧ w'.cell? ⟨w.heap.size, 1, none⟩ = some (.slice ad ns.length c))
    ((first
      | with_reducible exact HS1.out
      | with_reducible assumption))
    ((first
      | (go_at_call 42; (with_reducible refine (leaving_ok w1.drew n _ ns HR.out (HV1.out.below HBd.out (Nat.le_refl _)) hl).mono ?_); rintro e w2 ⟨v, rfl, vs, L, C, rfl, hRw, hL, hb2⟩; have HRW := Lib.hid hRw; have HB2 := Lib.hid (HBd.out.trans (hb2.mono HBd.out.size)); have HLL := Lib.hid (show w1.heap.size ≤ L from hL); have hs2 := HS.out w2 HB2.out; clear hRw hb2 hL)
      | (go_at_call 43; (with_reducible refine (arcs_ok w2 n _ ns (HV1.out.below HB2.out (Nat.le_refl _)) HM.out (by omega)).mono ?_); rintro e w3 ⟨v, rfl, hO, hb3⟩; obtain ⟨ea, ec, rfl⟩ := own_formK hO; have HE := Lib.hid hO; have HRW3 := Lib.hid (HRW.out.below hb3 (Nat.le_refl _)); have HB3 := Lib.hid (HB2.out.trans (hb3.mono HB2.out.size)); have HZ3 := Lib.hid (show w2.heap.size ≤ w3.heap.size from hb3.size); have hs3 := HS.out w3 HB3.out; clear hO hb3)))
  rename_i hHeld
  clear hs2 hs3 hHeld HS1 HBd
  go_upto_region 7 with fail
  have HSS := Lib.hid (fun (w' : World) (hb : Below w3.heap.size w3 w') => (⟨(HU1.out.below (HB3.out.trans (hb.mono HB3.out.size)) (Nat.le_refl _)).cell 0 _ rfl, (HU1.out.below (HB3.out.trans (hb.mono HB3.out.size)) (Nat.le_refl _)).cell 1 _ rfl⟩ : w'.cell? ⟨w.heap.size + 1, 0, none⟩ = some (.int .i64 (a : Nat)) ∧ w'.cell? ⟨w.heap.size + 1, 1, none⟩ = some (.slice (some ⟨b, o, none⟩) n cu)))
  have HBd3 := Lib.hid (show Below w3.heap.size w3 w3.drew from (Below.refl _ w3).drew)
  have HT0 := Lib.hid (HSS.out w3.drew HBd3.out)
  have HQ3 := Lib.hid (HQ.out.trans ((HB1.out.trans (HB3.out.mono HB1.out.size)).mono HQ.out.size))
  have HCL := Lib.hid (fun (w' : World) (hb : Below w3.heap.size w3 w') => Tryz.slices_Clone_int b o n cu us w' (by rw [HUL.out]; exact Nat.le_refl _) (by omega) (fun j hj => by
    have h1 := HP.out.at (HQ3.out.trans (hb.mono HQ3.out.size)) (Nat.le_refl _) j hj 0 _ rfl
    rw [Nat.mul_one, Nat.add_zero] at h1
    rw [h1]; simp [List.getD_eq_getElem?_getD, hj]))
  go_cut [12] (fun p12 wx => ∃ g q cap, p12 = .pointer (some ⟨g, 0, none⟩) ∧ Hid (Blk wx g [.int .i64 (a : Nat), .slice (some ⟨q, 0, none⟩) n cap] 38) ∧ Hid (wx.ownsRow w3.heap.size 3 1 (.slice (some ⟨q, 0, none⟩) n cap) n (us.map (Value.int .i64))) ∧ Hid (w3.heap.size ≤ g ∧ g ≠ q) ∧ Hid (Below w3.heap.size w3 wx))
  case first =>
    refine wp_regionJ (S := fun w' => w'.cell? ⟨w.heap.size + 1, 0, none⟩ = some (.int .i64 (a : Nat)) ∧ w'.cell? ⟨w.heap.size + 1, 1, none⟩ = some (.slice (some ⟨b, o, none⟩) n cu)) (A := fun i => decide (i < 7)) (by kernel_rfl) ?_
    refine wpAnyJ_take (i := 0) (oi := { dst := some 34, op := .fieldAddr _ (.tmp 4) 0, type := _, pos := _, after := _, guard := _ }) (v := ?_) rfl (by kernel_rfl) (by kernel_rfl) (by kernel_rfl) (early_sat (by kernel_rfl)) (fun _ _ _ h => h) (Or.inl ⟨by rfl, ?_⟩) HT0.out ?_
    rotate_left
    · intro wl hSw
      obtain ⟨s0, s1⟩ := hSw
      go_simp
      with_reducible rfl
    simp only [Act.put, List.setIfInBounds_toArray, List.set_cons_zero, List.set_cons_succ]
    refine wpAnyJ_take (i := 1) (oi := { dst := some 35, op := .load _ (.tmp 34), type := _, pos := _, after := _, guard := _ }) (v := ?_) rfl (by kernel_rfl) (by kernel_rfl) (by kernel_rfl) (early_sat (by kernel_rfl)) (fun _ _ _ h => h) (Or.inl ⟨by rfl, ?_⟩) HT0.out ?_
    rotate_left
    · intro wl hSw
      obtain ⟨s0, s1⟩ := hSw
      go_simp
      with_reducible rfl
    simp only [Act.put, List.setIfInBounds_toArray, List.set_cons_zero, List.set_cons_succ]
    refine wpAnyJ_take (i := 2) (oi := { dst := some 36, op := .fieldAddr _ (.tmp 4) 1, type := _, pos := _, after := _, guard := _ }) (v := ?_) rfl (by kernel_rfl) (by kernel_rfl) (by kernel_rfl) (early_sat (by kernel_rfl)) (fun _ _ _ h => h) (Or.inl ⟨by rfl, ?_⟩) HT0.out ?_
    rotate_left
    · intro wl hSw
      obtain ⟨s0, s1⟩ := hSw
      go_simp
      with_reducible rfl
    simp only [Act.put, List.setIfInBounds_toArray, List.set_cons_zero, List.set_cons_succ]
    refine wpAnyJ_take (i := 3) (oi := { dst := some 37, op := .load _ (.tmp 36), type := _, pos := _, after := _, guard := _ }) (v := ?_) rfl (by kernel_rfl) (by kernel_rfl) (by kernel_rfl) (early_sat (by kernel_rfl)) (fun _ _ _ h => h) (Or.inl ⟨by rfl, ?_⟩) HT0.out ?_
    rotate_left
    · intro wl hSw
      obtain ⟨s0, s1⟩ := hSw
      go_simp
      with_reducible rfl
    simp only [Act.put, List.setIfInBounds_toArray, List.set_cons_zero, List.set_cons_succ]
    refine wpAnyJ_pair (i := 4) (j := 6) (o := { dst := some 38, op := _, type := _, pos := _, after := _, guard := _ }) (o' := { dst := some 12, op := _, type := _, pos := _, after := _, guard := _ }) (by kernel_rfl) rfl rfl (fun K hK => ?_) (fun K hK => ?_)
    · go_simp
      refine (HCL.out (w3.drew) HBd3.out).mono ?_
      rintro e w5 ⟨v5, rfl, hown5, hv5, hb5⟩
      obtain ⟨q, cap, rfl, hq⟩ := own_some hown5 hv5
      have HO5 := Lib.hid hown5; have HB5 := Lib.hid hb5; have HQ5 := Lib.hid hq
      have hS5 := HSS.out w5 (HBd3.out.trans (hb5.mono HBd3.out.size))
      clear hown5 hv5 hq
      refine hK.out _ _ (fun _ => hS5) ?_
      try simp only [Act.put, List.setIfInBounds_toArray, List.set_cons_zero, List.set_cons_succ]
      clear hK K
      refine wpAnyJ_take (i := 5) (oi := { dst := some 39, op := _, type := _, pos := _, after := _, guard := _ }) (v := ?_) rfl (by kernel_rfl) (by kernel_rfl) (by kernel_rfl) (early_sat (by kernel_rfl)) (fun _ _ _ h => h) (Or.inl ⟨by rfl, ?_⟩) hS5 ?_
      rotate_left
      · intro wl hSw
        obtain ⟨s0, s1⟩ := hSw
        go_simp
        with_reducible rfl
      simp only [Act.put, List.setIfInBounds_toArray, List.set_cons_zero, List.set_cons_succ]
      refine wpAnyJ_only (i := 6) (o := { dst := some 12, op := _, type := _, pos := _, after := _, guard := _ }) (by kernel_rfl) rfl (fun K hK => ?_)
      go_simp
      have hS6 := HSS.out (w5.alloc (.cells #[.int .i64 0, .slice none 0 0] 38)) ((HBd3.out.trans (hb5.mono HBd3.out.size)).alloc (Nat.le_trans HBd3.out.size (HB5.out.size)) _)
      refine hK.out _ _ (fun _ => hS6) ?_
      try simp only [Act.put, List.setIfInBounds_toArray, List.set_cons_zero, List.set_cons_succ]
      clear hK K
      refine wpAnyJ_only (i := 7) (o := { dst := none, op := .store _ (.tmp 12) (.tmp 39), type := _, pos := _, after := _, guard := _ }) (by kernel_rfl) rfl (fun K hK => ?_)
      go_simp
      refine hK.out _ _ (fun h => absurd h (by decide)) ?_
      try simp only [Act.put, List.setIfInBounds_toArray, List.set_cons_zero, List.set_cons_succ]
      clear hK K
      refine wpAnyJ_done (by kernel_rfl) ?_ _
      have hto := HO5.out
      rw [List.take_of_length_le (Nat.le_of_eq HUL.out)] at hto
      have hql := (hto.lt q rfl).2
      have HBB := Lib.hid (HBd3.out.trans (HB5.out.mono HBd3.out.size))
      have HTO := Lib.hid hto
      have HQL := Lib.hid hql
      clear hto hql
      go_wp2
      go_meet
      case rel => exact ⟨w5.heap.size, q, cap, rfl, Lib.hid (Blk.new w5 [.int .i64 (a : Nat), .slice (some ⟨q, 0, none⟩) n cap] _), Lib.hid (HTO.out.alloc _), Lib.hid ⟨HBB.out.size, fun e => by have := HQL.out; omega⟩, Lib.hid (HBB.out.alloc HBB.out.size _)⟩
    · go_simp
      have hS4 := HSS.out (w3.drew.alloc (.cells #[.int .i64 0, .slice none 0 0] 38)) (HBd3.out.alloc HBd3.out.size _)
      refine hK.out _ _ (fun _ => hS4) ?_
      try simp only [Act.put, List.setIfInBounds_toArray, List.set_cons_zero, List.set_cons_succ]
      clear hK K
      refine wpAnyJ_only (i := 4) (o := { dst := some 38, op := _, type := _, pos := _, after := _, guard := _ }) (by kernel_rfl) rfl (fun K hK => ?_)
      go_simp
      have HBa := Lib.hid (HBd3.out.alloc HBd3.out.size (.cells #[.int .i64 0, .slice none 0 0] 38))
      refine (HCL.out (w3.drew.alloc (.cells #[.int .i64 0, .slice none 0 0] 38)) HBa.out).mono ?_
      rintro e w5 ⟨v5, rfl, hown5, hv5, hb5⟩
      obtain ⟨q, cap, rfl, hq⟩ := own_some hown5 hv5
      have HO5 := Lib.hid hown5; have HB5 := Lib.hid hb5; have HQ5 := Lib.hid hq
      have hS5 := HSS.out w5 (HBa.out.trans (hb5.mono HBa.out.size))
      clear hown5 hv5 hq
      have HN5 := Lib.hid ((show Blk (w3.drew.alloc (.cells #[.int .i64 0, .slice none 0 0] 38)) w3.heap.size [.int .i64 0, .slice none 0 0] 38 from Blk.new w3.drew _ _).below hb5 (Nat.le_refl _))
      have m0 := HN5.out.cell 0 _ rfl; have m1 := HN5.out.cell 1 _ rfl; have f0 := HN5.out.free 0; have f1 := HN5.out.free 1; have hml := HN5.out.lt
      refine hK.out _ _ (fun _ => hS5) ?_
      try simp only [Act.put, List.setIfInBounds_toArray, List.set_cons_zero, List.set_cons_succ]
      clear hK K
      refine wpAnyJ_take (i := 5) (oi := { dst := some 39, op := _, type := _, pos := _, after := _, guard := _ }) (v := ?_) rfl (by kernel_rfl) (by kernel_rfl) (by kernel_rfl) (early_sat (by kernel_rfl)) (fun _ _ _ h => h) (Or.inl ⟨by rfl, ?_⟩) hS5 ?_
      rotate_left
      · intro wl hSw
        obtain ⟨s0, s1⟩ := hSw
        go_simp
        with_reducible rfl
      simp only [Act.put, List.setIfInBounds_toArray, List.set_cons_zero, List.set_cons_succ]
      refine wpAnyJ_only (i := 7) (o := { dst := none, op := .store _ (.tmp 12) (.tmp 39), type := _, pos := _, after := _, guard := _ }) (by kernel_rfl) rfl (fun K hK => ?_)
      go_simp
      refine hK.out _ _ (fun h => absurd h (by decide)) ?_
      try simp only [Act.put, List.setIfInBounds_toArray, List.set_cons_zero, List.set_cons_succ]
      clear hK K
      refine wpAnyJ_done (by kernel_rfl) ?_ _
      have hto := HO5.out
      rw [List.take_of_length_le (Nat.le_of_eq HUL.out)] at hto
      have HBB := Lib.hid (HBa.out.trans (HB5.out.mono HBa.out.size))
      have hq3 : w3.heap.size < q := by have := HQ5.out; rw [World.size_alloc] at this; exact this
      have HTO := Lib.hid (own_baseK hto (show w3.heap.size ≤ (w3.drew.alloc (.cells #[.int .i64 0, .slice none 0 0] 38)).heap.size by rw [World.size_alloc]; exact Nat.le_succ _))
      have HQ3 := Lib.hid hq3
      have HTO2 := Lib.hid (own_otherK (g := w3.heap.size) (j := 1) (u := .slice (some ⟨q, 0, none⟩) n cap) (own_otherK (g := w3.heap.size) (j := 0) (u := .int .i64 (a : Nat)) HTO.out (fun e => by simp [Value.ownBlock] at e; omega)) (fun e => by simp [Value.ownBlock] at e; omega))
      clear hto hq3 m0 m1 f0 f1 hml
      go_wp2
      go_meet
      case rel => exact ⟨w3.heap.size, q, cap, rfl, Lib.hid ((HN5.out.set 0 (.int .i64 (a : Nat))).set 1 (.slice (some ⟨q, 0, none⟩) n cap)), HTO2, Lib.hid ⟨Nat.le_refl _, fun e => by have := HQ3.out; omega⟩, Lib.hid ((HBB.out.setCell (p := ⟨w3.heap.size, 0, none⟩) (Nat.le_refl _) _).setCell (p := ⟨w3.heap.size, 1, none⟩) (Nat.le_refl _) _)⟩
  case rest =>
    obtain ⟨g, q, cap, rfl, hBX, hOQ, hgq, hBW⟩ := hcut
    have HZC := Lib.hid (show w3.heap.size ≤ wc.heap.size from hBW.out.size)
    have HGL := Lib.hid hBX.out.lt
    have HQL := Lib.hid (hOQ.out.lt q rfl)
    have HES := SlK.ofOwns p2_len HE.out rfl
    obtain ⟨ea', eb, eo, ec', hform, hie, hep, hec, hecm⟩ := HES.open elemEnds
    simp only [Value.slice.injEq, true_and] at hform
    obtain ⟨rfl, rfl⟩ := hform
    have HEP := Lib.hid hep
    have HQT := Lib.hid (HQ.out.trans ((HB1.out.trans (HB3.out.mono HB1.out.size)).mono HQ.out.size))
    have hOR : wc.ownsRow w3.heap.size 3 1 (.slice (some ⟨q, 0, none⟩) n cap) n (ints (rotK (sgl ns) us n (Rot.run (sgl ns) (rot us) a 0).2)) := by
      have h1 : us.map (Value.int .i64) = ints (rotK (sgl ns) us n []) := by
        conv => lhs; rw [rotK_zero HG.out]
        simp [ints]
      have := hOQ.out
      rw [h1] at this; exact this
    have HR0 := Lib.hid hOR
    have HW0 : Hid (wc.ownsRow wc.heap.size 3 1 (.slice none 0 0) (Rot.run (sgl ns) (rot us) a 0).2.length (ints (Rot.run (sgl ns) (rot us) a 0).2)) := Lib.hid (World.ownsRow_nil _ _ _ _)
    have HX3 := Lib.hid (HX1.out.below HB3.out (Nat.le_refl _))
    have hgb := HU1.out.lt
    go_wp2
    clear hOR hOQ hep HES
    go_loopw [13, 41] (fun out i wr => ∃ (j v : Nat) (l : List Nat), j ≤ k ∧ i = .int .i64 j ∧ v < n ∧ Hid (Rot.run (sgl ns) (rot us) a j = (v, l)) ∧ Hid (Blk wr g [.int .i64 (v : Nat), .slice (some ⟨q, 0, none⟩) n cap] 38) ∧ Hid (wr.ownsRow w3.heap.size 3 1 (.slice (some ⟨q, 0, none⟩) n cap) n (ints (rotK (sgl ns) us n l))) ∧ Hid (wr.ownsRow wc.heap.size 3 1 out l.length (ints l)) ∧ Hid (l.length = j) ∧ Hid (Below w3.heap.size w3 wr) ∧ Hid (wc.heap.size ≤ wr.heap.size)) (fun _ i _ => k - (intOf i).toNat)
    case atStart => exact ⟨0, a, [], Nat.zero_le _, rfl, HG.out.at_lt, Lib.hid rfl, hBX, HR0, HW0, Lib.hid rfl, hBW, Lib.hid (Nat.le_refl _)⟩
    case round =>
      clear hBX HR0 HW0 hBW
      obtain ⟨j, v, l, hj, rfl, hv, hrun, hBX, hOQ, hOW, hlj, hBW, hZ⟩ := hrel
      by_cases hjk : j < k
      · obtain ⟨x, e, z1, z2, hv1, hx, h2, he, hxl, h3, hz, hz2n, hrun2, hrot⟩ := run_step n12 HG.out HRG.out hrun.out hv
        have hb3r : Below w3.heap.size w3 wr := hBW.out
        have hlo : v < (outs n (sgl ns)).length := by rw [outs, outsAt_len]; exact hv
        have hor := outs_rot n (sgl ns) v hlo
        obtain ⟨rv2, r03, hrow⟩ := HRW3.out.row v hlo
        have r0 := (World.cell?_of_block (w := w3) (w' := wr) (a := ⟨L, v, none⟩) (hb3r.block L HRW3.out.blk.lt)).trans r03
        have hlL := (HRW3.out.below hb3r (Nat.le_refl _)).blk.lt
        rw [hor] at hrow
        obtain ⟨ra, rb, ro, rc, rfl, hri, hrp, hrc, hrm⟩ := hrow.open elemI
        obtain ⟨T, hT⟩ : ∃ T, Rot.outs (sgl ns) v = T := ⟨_, rfl⟩
        simp only [hT] at h2 he hxl hri hrp hrc hrot r0
        obtain ⟨y, hy⟩ : ∃ y, (x + 1) % T.length = y := ⟨_, rfl⟩
        simp only [hy] at h2 he hrot
        have y0 : wr.cell? ⟨rb, ro + y, none⟩ = some (.int .i64 (e : Nat)) := by
          have := hrp.at hb3r (Nat.le_refl _) y h2 0 (.int .i64 (e : Nat)) (by rw [he]; rfl)
          rwa [Nat.mul_one, Nat.add_zero] at this
        have hrl3 := hrp.1 (by omega)
        have hel3 := HEP.out.1 (by omega)
        have hq3 := own_ge hOQ.out q rfl
        have hg3 := hgq.out.1
        have hrl := Nat.lt_of_lt_of_le hrl3 hb3r.size
        have n1' : rb ≠ q := by omega
        have n2' : rb ≠ g := by omega
        have n3' : eb ≠ q := by omega
        have n4' : eb ≠ g := by omega
        have e1 : wr.cell? ⟨eb, eo + e * 2 + 1, none⟩ = some (.int .i64 (z2 : Nat)) := HEP.out.at hb3r (Nat.le_refl _) e h3 1 _ (by rw [hz]; rfl)
        have hel := (HEP.out.below hb3r (Nat.le_refl _)).1 (by omega)
        have b0 := hBX.out.cell 0 _ rfl
        have b1 := hBX.out.cell 1 _ rfl
        have bf := hBX.out.free 0
        have hgl := hBX.out.lt
        have hql := (hOQ.out.lt q rfl).2
        have c0 : wr.cell? ⟨q, v, none⟩ = some (.int .i64 (x : Nat)) := by
          have := hOQ.out.cells (g := q) rfl v (.int .i64 (x : Nat)) (by rw [ints_at _ _ hv1, hx])
          rwa [addr0] at this
        have cf : wr.frozen? ⟨q, v, none⟩ = false := hOQ.out.frozenAt v
        have v0 : (0 : Int) ≤ (v : Int) := by omega
        have v1 : (v : Int) < (n : Int) := by omega
        have y1 : (0 : Int) ≤ (y : Int) := by omega
        have y2 : (y : Int) < (T.length : Int) := by omega
        have i1' : (e : Int) < ((sgl ns).length : Int) := by omega
        have hTne : ¬ (T.length : Int) = 0 := by omega
        have hmod : Int.tmod ((x : Int) + 1) (T.length : Int) = (y : Int) := by
          rw [← hy]; rw [show (x : Int) + 1 = ((x + 1 : Nat) : Int) by simp]; rfl
        have hTl : T.length ≤ (sgl ns).length := by
          rw [← hT]; unfold Rot.outs; exact Nat.le_trans (List.length_filter_le _ _) (by simp)
        have hgq1 := hgq.out.2
        have hgq2 : q ≠ g := fun e => hgq1 e.symm
        have HRUN2 := Lib.hid hrun2; have HROT := Lib.hid hrot
        obtain ⟨oa, oc, rfl⟩ := own_formK hOW.out
        have HLJ := Lib.hid hlj.out
        have hX : ∃ X, (wr.setCell ⟨q, v, none⟩ (.int .i64 (y : Nat))).drew.drew = X := ⟨_, rfl⟩
        obtain ⟨X, hX⟩ := hX
        have hXS : X.heap.size = wr.heap.size := by rw [← hX]; show (wr.setCell ⟨q, v, none⟩ (.int .i64 (y : Nat))).heap.size = _; simp
        have HXS := Lib.hid hXS
        have XB := Lib.hid (show Blk X g [.int .i64 (v : Nat), .slice (some ⟨q, 0, none⟩) n cap] 38 by rw [← hX]; exact hBX.out.setCell hgq1 _)
        have XQ := Lib.hid (show X.ownsRow w3.heap.size 3 1 (.slice (some ⟨q, 0, none⟩) n cap) n (ints (rotK (sgl ns) us n (l ++ [e]))) by rw [← hX, HROT.out, ← ints_set]; exact (hOQ.out.stored v _).1)
        have XW := Lib.hid (show X.ownsRow wc.heap.size 3 1 (.slice oa l.length oc) l.length (ints l) by rw [← hX]; exact own_otherK hOW.out (fun e => by have := own_ge hOW.out _ e; have := HQL.out.2; omega))
        have X3 := Lib.hid (show Below w3.heap.size w3 X by rw [← hX]; exact (hBW.out.setCell (p := ⟨q, v, none⟩) hq3 _).drew.drew)
        have XC := Lib.hid (show wc.heap.size ≤ X.heap.size by rw [hXS]; exact hZ.out)
        have HKP := Lib.hid (fun (w5 : World) (r : Option Nat) (hr : ∀ t, r = some t → wc.heap.size ≤ t) (hg : (X.alloc (.cells (i1 e).toArray 3)).grownBy w5 r) (t : Nat) (ht : t < wc.heap.size) =>
          ((hg.block t (by rw [World.size_alloc]; have := XC.out; omega) (fun e => by have := hr _ e.symm; omega)).trans (Below.heap_alloc X _ t (by have := XC.out; omega)) : w5.heap[t]? = X.heap[t]?))
        have HOWN := Lib.hid (fun t (e : (Value.slice oa l.length oc).ownBlock = some t) => own_ge hOW.out t e)
        have HQA : Hid (∃ (h : v < (rotK (sgl ns) us n (l ++ [e])).length), (rotK (sgl ns) us n (l ++ [e]))[v] = y) := Lib.hid ⟨by rw [rotK_len]; exact hv, by simp only [HROT.out]; rw [List.getElem_set_self]⟩
        have hlb : (l.length + 1) * 8 ≤ 140737488355328 := by have := hlj.out; omega
        have hlb2 : l.length + 1 ≤ maxLen := by have := hlj.out; unfold maxLen; omega
        have HXX := Lib.hid hX
        have HHP := Lib.hid hrp; have HHE := Lib.hid (show (T)[y]'h2 = e from he); have HZZ := Lib.hid (show (sgl ns)[e]'h3 = (z1, z2) from hz)
        clear hx he hz hrun2 hrot hy hT hor hrow hb3r hXS hX
        go_wp2_with fail
        go_region
        go_wp2_with fail
        go_region
        rw [HXX.out]
        obtain ⟨hqa1, hqa2⟩ := HQA.out
        have HFX := Lib.hid (fun (w5 : World) (h1 : ∀ t, t < wc.heap.size → w5.heap[t]? = X.heap[t]?) => (⟨(World.cell?_of_block (a := ⟨g, 0, none⟩) (h1 g HGL.out)).trans (XB.out.cell 0 _ rfl), (World.cell?_of_block (a := ⟨g, 1, none⟩) (h1 g HGL.out)).trans (XB.out.cell 1 _ rfl), (World.frozen?_of_block (a := ⟨g, 0, none⟩) (h1 g HGL.out)).trans (XB.out.free 0),
            (by
              have := XQ.out.cells (g := q) rfl v (.int .i64 (y : Nat)) (by rw [ints_at _ _ hqa1, hqa2])
              rw [addr0] at this
              exact (World.cell?_of_block (a := ⟨q, v, none⟩) (h1 q HQL.out.2)).trans this),
            (by
              have h2 := HHP.out.at X3.out (Nat.le_refl _) y h2 0 (.int .i64 (e : Nat)) (by rw [HHE.out]; rfl)
              rw [Nat.mul_one, Nat.add_zero] at h2
              exact (World.cell?_of_block (a := ⟨rb, ro + y, none⟩) (h1 rb (Nat.lt_of_lt_of_le hrl3 HZC.out))).trans h2),
            (by
              have h2 := HEP.out.at X3.out (Nat.le_refl _) e h3 1 (.int .i64 (z2 : Nat)) (by rw [HZZ.out]; rfl)
              exact (World.cell?_of_block (a := ⟨eb, eo + e * 2 + 1, none⟩) (h1 eb (Nat.lt_of_lt_of_le hel3 HZC.out))).trans h2)⟩ :
          w5.cell? ⟨g, 0, none⟩ = some (.int .i64 (v : Nat)) ∧ w5.cell? ⟨g, 1, none⟩ = some (.slice (some ⟨q, 0, none⟩) n cap) ∧ w5.frozen? ⟨g, 0, none⟩ = false ∧ w5.cell? ⟨q, v, none⟩ = some (.int .i64 (y : Nat)) ∧ w5.cell? ⟨rb, ro + y, none⟩ = some (.int .i64 (e : Nat)) ∧ w5.cell? ⟨eb, eo + e * 2 + 1, none⟩ = some (.int .i64 (z2 : Nat))))
        clear b0 b1 bf c0 cf y0 e1 r0 hgl hql hrl hel hlL r03 hqa1 hqa2
        obtain ⟨d0, d1, d2, d3, d4, d5⟩ := HFX.out X (fun _ _ => rfl)
        have HGX := Lib.hid (Nat.lt_of_lt_of_le HGL.out XC.out)
        have hgx := HGX.out
        have hqx := Nat.lt_of_lt_of_le HQL.out.2 XC.out
        have hrx := Nat.lt_of_lt_of_le hrl3 (Nat.le_trans HZC.out XC.out)
        have hex := Nat.lt_of_lt_of_le hel3 (Nat.le_trans HZC.out XC.out)
        go_wp2_with (at_builtin; go_loud (refine appMG (w0 := X) (m := 1) (news := i1 e) (B := w3.heap.size) (W := w3) (base := wc.heap.size) elemI rfl (.tmp 63) (.tmp 72) rfl (by rfl) (by rfl) XW.out X3.out HZC.out XC.out rfl (by intro u hu; simp [i1] at hu; subst hu; rfl) hlb hlb2 ?_); intro v' w5 hown' hb' hg' hat'; obtain ⟨va, vc, rfl⟩ := own_formK hown'; have HO5 := Lib.hid hown'; have HB5 := Lib.hid hb'; have HG5 := Lib.hid hg'; clear hown' hb' hg' hat' d0 d1 d2 d3 d4 d5 hgx hqx hrx hex; obtain ⟨d0, d1, d2, d3, d4, d5⟩ := HFX.out w5 (HKP.out w5 _ HOWN.out HG5.out); have hsz5 := HG5.out.size; rw [World.size_alloc] at hsz5; have hgx := Nat.lt_of_lt_of_le HGX.out (Nat.le_trans (Nat.le_succ _) hsz5))
        have kp := HKP.out w5 _ HOWN.out HG5.out
        have t1 : Blk (w5.setCell ⟨g, 0, none⟩ (.int .i64 (z2 : Nat))) g [.int .i64 (z2 : Nat), .slice (some ⟨q, 0, none⟩) n cap] 38 := (show Blk w5 g _ _ from (kp g HGL.out).trans XB.out).set 0 _
        have t2 : (w5.setCell ⟨g, 0, none⟩ (.int .i64 (z2 : Nat))).ownsRow w3.heap.size 3 1 (.slice (some ⟨q, 0, none⟩) n cap) n (ints (rotK (sgl ns) us n (l ++ [e]))) :=
          own_otherK (own_keepG (XQ.out.alloc (.cells (i1 e).toArray 3)) HG5.out (fun t e1 e2 => by have h1 := HOWN.out t e2; have h2 := HQL.out.2; simp [Value.ownBlock] at e1; omega)) (fun e => by simp [Value.ownBlock] at e; exact hgq2 e)
        have t3 : (w5.setCell ⟨g, 0, none⟩ (.int .i64 (z2 : Nat))).ownsRow wc.heap.size 3 1 (.slice va (l.length + 1) vc) (l ++ [e]).length (ints (l ++ [e])) := by
          rw [show (l ++ [e]).length = l.length + 1 by simp, show ints (l ++ [e]) = ints l ++ i1 e by simp [ints, i1]]
          exact own_otherK HO5.out (fun e => by have h1 := own_ge HO5.out _ e; have := HGL.out; omega)
        have t4 := HB5.out.setCell (p := ⟨g, 0, none⟩) hg3 (.int .i64 (z2 : Nat))
        have t5 : wc.heap.size ≤ (w5.setCell ⟨g, 0, none⟩ (.int .i64 (z2 : Nat))).heap.size := by
          have := XC.out
          simp; omega
        go_roundw
        case rel => exact ⟨j + 1, z2, l ++ [e], by omega, by go_num, hz2n, HRUN2, Lib.hid t1, Lib.hid t2, Lib.hid t3, Lib.hid (by simp [HLJ.out]), Lib.hid t4, Lib.hid t5⟩
        case measure => simp [intOf]; omega
      · obtain rfl : k = j := by omega
        have hb3r : Below w3.heap.size w3 wr := hBW.out
        have HXr := HX3.out.below hb3r (Nat.le_refl _)
        have b0 := hBX.out.cell 0 _ rfl
        have b1 := hBX.out.cell 1 _ rfl
        have x0 := HXr.cell 0 _ rfl
        have x1 := HXr.cell 1 _ rfl
        have xf0 := HXr.free 0
        have xf1 := HXr.free 1
        have hgl := hBX.out.lt
        have hxl := HXr.lt
        obtain ⟨oa, oc, rfl⟩ := own_formK hOW.out
        have HXR := Lib.hid HXr
        have HRU := Lib.hid hrun.out; have HOQ := Lib.hid hOQ.out; have HOW := Lib.hid hOW.out; have HLJ := Lib.hid hlj.out
        have HB9 := Lib.hid (HQT.out.trans (hb3r.mono HQT.out.size))
        have hsz := hBW.out.size
        have HX3l := Lib.hid HX3.out.lt
        clear hBX HXr hOQ hOW hlj hrun hBW hb3r
        go_wp2
        have HR4 := (HXR.out.set 0 (.int .i64 (v : Nat))).set 1 (.slice (some ⟨q, 0, none⟩) n cap)
        have t1 := own_baseK (own_otherK (g := w.heap.size + 1 + 1) (j := 1) (u := .slice (some ⟨q, 0, none⟩) n cap) (own_otherK (g := w.heap.size + 1 + 1) (j := 0) (u := .int .i64 (v : Nat)) HOQ.out (fun e => by have h1 := own_ge HOQ.out _ e; have := HX3l.out; omega)) (fun e => by have h1 := own_ge HOQ.out _ e; have := HX3l.out; omega)) (show w.heap.size ≤ w3.heap.size from HQT.out.size)
        have t2 := own_baseK (own_otherK (g := w.heap.size + 1 + 1) (j := 1) (u := .slice (some ⟨q, 0, none⟩) n cap) (own_otherK (g := w.heap.size + 1 + 1) (j := 0) (u := .int .i64 (v : Nat)) HOW.out (fun e => by have h1 := own_ge HOW.out _ e; have := HX3l.out; have := HZC.out; omega)) (fun e => by have h1 := own_ge HOW.out _ e; have := HX3l.out; have := HZC.out; omega)) (show w.heap.size ≤ wc.heap.size from Nat.le_trans HQT.out.size HZC.out)
        have t3 := (HB9.out.setCell (p := ⟨w.heap.size + 1 + 1, 0, none⟩) (by simp; omega) (.int .i64 (v : Nat))).setCell (p := ⟨w.heap.size + 1 + 1, 1, none⟩) (by simp; omega) (.slice (some ⟨q, 0, none⟩) n cap)
        obtain ⟨w9, hw9⟩ : ∃ w9, (wr.setCell ⟨w.heap.size + 1 + 1, 0, none⟩ (.int .i64 (v : Nat))).setCell ⟨w.heap.size + 1 + 1, 1, none⟩ (.slice (some ⟨q, 0, none⟩) n cap) = w9 := ⟨_, rfl⟩
        rw [hw9] at HR4 t1 t2 t3 ⊢
        have z0 := HR4.cell 0 _ rfl
        have z1 := HR4.cell 1 _ rfl
        have HRR := HRU.out
        exact bodyPost_ret (v := .tuple #[.agg #[.int .i64 (v : Nat), .slice (some ⟨q, 0, none⟩) n cap], .slice oa l.length oc, .int .i64 0]) (by simp [results, Tryz.results13, go_sem, z0, z1]) rfl ⟨_, rfl, q, cap, _, by rw [HRR], by rw [HRR]; exact t1, by rw [HRR]; exact t2, t3⟩
end Go.Proofs.YtlnhocgjgmhfgaaGreatDoor

namespace Go.Proofs.YtlnhocgjgmhfgaaGreatDoor
open Go.RowKit
set_option maxRecDepth 100000

set_option maxHeartbeats 2000000 in
theorem EEnds_ok (w : World) (n : Nat) (v : Value) (ns : List (Nat × Nat × Nat)) (hR : RD n ns) (hv : SlK e3 3 w v (ns.map n3)) (hl : ns.length ≤ 1000) :
    Calls Tryz.prog 22 #[.agg #[.int .i64 (n : Nat), v]] w (Rets fun r w' => ∃ u, r = .tuple #[u, .int .i64 0] ∧ w'.ownsRow w.heap.size 60 2 u (sgl ns).length ((sgl ns).flatMap p2) ∧ Below w.heap.size w w') := by
  obtain ⟨ad, c, rfl⟩ := hv.form
  have hnl : (ns.map n3).length = ns.length := List.length_map _
  rw [hnl] at hv ⊢
  have HR := Lib.hid hR; have HV := Lib.hid hv
  have HM := Lib.hid (show ∀ x ∈ ns, x.2.2 ≤ 50 from fun x hx => (hR.rng x hx).2.2.2)
  have HL := Lib.hid (show ns.length ≤ 100000 by omega)
  obtain ⟨W, hW⟩ : ∃ W, w.alloc (.cells #[.int .i64 (n : Nat), .slice ad ns.length c] 28) = W := ⟨_, rfl⟩
  have HD := Lib.hid (show Blk W w.heap.size [.int .i64 (n : Nat), .slice ad ns.length c] 28 by rw [← hW]; exact Blk.new w _ _)
  have HQ := Lib.hid (show Below w.heap.size w W by rw [← hW]; exact (Below.refl _ w).alloc (Nat.le_refl _) _)
  have HVW := Lib.hid (HV.out.below HQ.out (Nat.le_refl _))
  have HW := Lib.hid hW
  clear hW hv hR hnl
  go_enter Tryz.func22, Tryz.ntmps22
  go_wp2_with (first
    | (go_at_call 46; rw [HW.out]; (with_reducible refine (NCheck_ok W n _ ns HR.out HVW.out).mono ?_); rintro e w1 ⟨v, rfl, rfl, hb⟩; have HB1 := Lib.hid hb; clear hb; have g0 := (HD.out.below HB1.out (Nat.le_refl _)).cell 0 _ rfl; have g1 := (HD.out.below HB1.out (Nat.le_refl _)).cell 1 _ rfl; have hlg := (HD.out.below HB1.out (Nat.le_refl _)).lt)
    | (go_at_call 43; (with_reducible refine (arcs_ok w1 n _ ns (HVW.out.below HB1.out (Nat.le_refl _)) HM.out HL.out).mono ?_); rintro e w3 ⟨v, rfl, hO, hb3⟩; obtain ⟨ea, ec, rfl⟩ := own_formK hO; have HE := Lib.hid hO; have HB3 := Lib.hid (HB1.out.trans (hb3.mono HB1.out.size)); have HZ3 := Lib.hid (Nat.le_trans HQ.out.size HB1.out.size); clear hO hb3))
  go_ret2
  exact ⟨_, rfl, _, rfl, own_baseK HE.out HZ3.out, HQ.out.trans (HB3.out.mono HQ.out.size)⟩

set_option maxHeartbeats 2000000 in
theorem SameInts_same (w : World) (v u : Value) (xs : List Int) (hv : SlK iz 1 w v xs) (hu : SlK iz 1 w u xs) :
    Calls Tryz.prog 52 #[v, u] w (Rets fun r w' => r = .bool true ∧ Below w.heap.size w w') := by
  obtain ⟨a, b, o, c, rfl, hi, hp, hc, hm⟩ := hv.open elemI
  obtain ⟨a', b', o', c', rfl, hi', hp', hc', hm'⟩ := hu.open elemI
  clear hv hu
  unfold maxLen at hm hm'
  have hle : ((xs.length : Int) == (xs.length : Int)) = true := by simp
  go_enter Tryz.func52, Tryz.ntmps52
  go_wp2
  go_loopw [5] (fun i wr => ∃ k : Nat, k ≤ xs.length ∧ i = .int .i64 k ∧ Below w.heap.size w wr) (fun i _ => xs.length - (intOf i).toNat)
  case atStart => exact ⟨0, Nat.zero_le _, rfl, Below.refl _ _⟩
  case round =>
    obtain ⟨k, hk, rfl, hb⟩ := hrel
    by_cases hkn : k < xs.length
    · have h1 : wr.cell? ⟨b, o + k, none⟩ = some (.int .i64 xs[k]) := by
        have := hp.at hb (Nat.le_refl _) k hkn 0 _ rfl
        rwa [Nat.mul_one, Nat.add_zero] at this
      have h2 : wr.cell? ⟨b', o' + k, none⟩ = some (.int .i64 xs[k]) := by
        have := hp'.at hb (Nat.le_refl _) k hkn 0 _ rfl
        rwa [Nat.mul_one, Nat.add_zero] at this
      have q1 : (0 : Int) ≤ (k : Int) := by omega
      have q2 : (k : Int) < (xs.length : Int) := by omega
      obtain ⟨x, hx⟩ : ∃ x, xs[k] = x := ⟨_, rfl⟩
      rw [hx] at h1 h2
      have e1 : (x == x) = true := by simp
      clear hx
      go_wp2_with fail
      go_quiet (fail)
      have b3 := below_drewN hb nq
      go_wp2
      go_roundw
      case rel => exact ⟨k + 1, by omega, by go_num, b3⟩
      case measure => simp [intOf]; omega
    · obtain rfl : k = xs.length := by omega
      go_wp2
      go_ret
      exact ⟨_, rfl, rfl, hb⟩

set_option maxHeartbeats 2000000 in
theorem Same_same (w : World) (x : Int) (v u : Value) (xs : List Int) (hv : SlK iz 1 w v xs) (hu : SlK iz 1 w u xs) :
    Calls Tryz.prog 17 #[.agg #[.int .i64 x, v], .agg #[.int .i64 x, u]] w (Rets fun r w' => r = .bool true ∧ Below w.heap.size w w') := by
  obtain ⟨a, c, hvf⟩ := hv.form
  obtain ⟨a', c', huf⟩ := hu.form
  have hb : Below w.heap.size w ((w.alloc (.cells #[.int .i64 x, v] 42)).alloc (.cells #[.int .i64 x, u] 42)) := ((Below.refl _ w).alloc (Nat.le_refl _) _).alloc (by simp) _
  have HB := Lib.hid hb
  have HC := Lib.hid (SameInts_same _ v u xs (hv.below hb (Nat.le_refl _)) (hu.below hb (Nat.le_refl _)))
  subst hvf huf
  have e1 : (x == x) = true := by simp
  clear hb hv hu
  go_enter Tryz.func17, Tryz.ntmps17
  go_wp2_with (go_at_call 52; (with_reducible refine HC.out.mono ?_); rintro e w1 ⟨v, rfl, rfl, hb⟩)
  go_ret
  exact ⟨_, rfl, rfl, HB.out.trans (hb.mono HB.out.size)⟩
end Go.Proofs.YtlnhocgjgmhfgaaGreatDoor

namespace Go.Proofs.YtlnhocgjgmhfgaaGreatDoor
open Go.RowKit
set_option maxRecDepth 100000

theorem eqEnds (a b c d : Int) (w : World) : (Op.equalIn 10000 60 (.agg #[.int .i64 a, .int .i64 b]) (.agg #[.int .i64 c, .int .i64 d])).run Tryz.prog w = .ok (a == c && b == d) w := by
  have u3 := Tryz.underlying3
  have a3 := Tryz.isAgg3
  have z3 := Tryz.sizeOf3
  rw [show (10000 : Nat) = 9999 + 1 from rfl, Op.equalIn]
  simp only [Sem.run_bind, run_underlying Tryz.underlying60, Result.andThen_ok]
  simp only [Std.Legacy.Range.forIn_eq_forIn_range', Std.Legacy.Range.size, Nat.sub_zero, Nat.add_sub_cancel, Nat.div_one, List.range'_succ, List.range'_zero, List.forIn_cons, List.forIn_nil]
  go_simp
  by_cases h1 : a = c <;> by_cases h2 : b = d <;> simp [h1, h2]
set_option maxHeartbeats 2000000 in
theorem EqualE_same (w : World) (v u : Value) (xs : List (Nat × Nat)) (hv : SlK p2 2 w v xs) (hu : SlK p2 2 w u xs) :
    Calls Tryz.prog 24 #[v, u] w (Rets fun r w' => r = .bool true ∧ Below w.heap.size w w') := by
  obtain ⟨a, b, o, c, rfl, hi, hp, hc, hm⟩ := hv.open elemEnds
  obtain ⟨a', b', o', c', rfl, hi', hp', hc', hm'⟩ := hu.open elemEnds
  clear hv hu
  unfold maxLen at hm hm'
  go_enter Tryz.func24, Tryz.ntmps24
  go_wp2
  go_loopw [13] (fun i wr => ∃ k : Nat, k ≤ xs.length ∧ i = .int .i64 k ∧ Below w.heap.size w wr) (fun i _ => xs.length - (intOf i).toNat)
  case atStart => exact ⟨0, Nat.zero_le _, rfl, Below.refl _ _⟩
  case round =>
    obtain ⟨k, hk, rfl, hb⟩ := hrel
    by_cases hkn : k < xs.length
    · obtain ⟨⟨x, y⟩, hx⟩ : ∃ x, xs[k] = x := ⟨_, rfl⟩
      have h1 : wr.cell? ⟨b, o + k * 2, none⟩ = some (.int .i64 (x : Nat)) := hp.at hb (Nat.le_refl _) k hkn 0 _ (by rw [hx]; rfl)
      have h2 : wr.cell? ⟨b, o + k * 2 + 1, none⟩ = some (.int .i64 (y : Nat)) := hp.at hb (Nat.le_refl _) k hkn 1 _ (by rw [hx]; rfl)
      have h3 : wr.cell? ⟨b', o' + k * 2, none⟩ = some (.int .i64 (x : Nat)) := hp'.at hb (Nat.le_refl _) k hkn 0 _ (by rw [hx]; rfl)
      have h4 : wr.cell? ⟨b', o' + k * 2 + 1, none⟩ = some (.int .i64 (y : Nat)) := hp'.at hb (Nat.le_refl _) k hkn 1 _ (by rw [hx]; rfl)
      have q1 : (0 : Int) ≤ (k : Int) := by omega
      have q2 : (k : Int) < (xs.length : Int) := by omega
      clear hx
      have heq := fun W : World => eqEnds x y x y W
      simp only [beq_self_eq_true, Bool.and_self] at heq
      go_wp2_with fail
      go_quiet (fail)
      have b3 := below_drewN hb nq
      go_wp2
      go_roundw
      case rel => exact ⟨k + 1, by omega, by go_num, b3⟩
      case measure => simp [intOf]; omega
    · obtain rfl : k = xs.length := by omega
      go_wp2
      go_ret
      exact ⟨_, rfl, rfl, hb⟩

theorem FewDigraph_any (w : World) (n : Int) (v : Value) (es : List (Int × Int × Int)) (hv : SlK e3 3 w v es) :
    Calls Tryz.prog 19 #[.agg #[.int .i64 n, v]] w (Rets fun r w' => r = .bool (decide (es.length ≤ 160)) ∧ Below w.heap.size w w') := by
  obtain ⟨ad, c, rfl⟩ := hv.form
  have hm := hv.len
  have HQ := Lib.hid ((Below.refl w.heap.size w).alloc (Nat.le_refl _) (.cells #[.int .i64 n, .slice ad es.length c] 28))
  clear hv
  by_cases h : es.length ≤ 160
  · have H : Hid (decide (es.length ≤ 160) = true) := Lib.hid (by simpa using h)
    have h2 : decide ((es.length : Int) ≤ 160) = true := by simp; omega
    have h3 : decide (es.length ≤ 160) = true := by simpa using h
    clear h
    rw [H.out]
    go_enter Tryz.func19, Tryz.ntmps19
    go_wp2
    go_ret
    exact ⟨_, rfl, rfl, HQ.out⟩
  · have H : Hid (decide (es.length ≤ 160) = false) := Lib.hid (by simpa using h)
    have h2 : decide ((es.length : Int) ≤ 160) = false := by simp; omega
    have h3 : decide (es.length ≤ 160) = false := by simpa using h
    clear h
    rw [H.out]
    go_enter Tryz.func19, Tryz.ntmps19
    go_wp2
    go_ret
    exact ⟨_, rfl, rfl, HQ.out⟩

theorem dstep_ns : ∀ (n : Int) (p : Int × Int) (es : List (Int × Int × Int)), dstep n p es = 0 → ∃ ns : List (Nat × Nat × Nat), es = ns.map n3 ∧ (∀ x ∈ ns, (x.1 : Int) < n ∧ (x.2.1 : Int) < n ∧ 1 ≤ x.2.2 ∧ x.2.2 ≤ 50) ∧ (∀ x ∈ ns, lt2 p ((x.1 : Int), (x.2.1 : Int)) = true) ∧ ns.Pairwise fun x y => x.1 < y.1 ∨ (x.1 = y.1 ∧ x.2.1 < y.2.1)
  | _, _, [], _ => ⟨[], rfl, by simp, by simp, List.Pairwise.nil⟩
  | n, p, x :: l, h => by
    unfold dstep at h
    by_cases h1 : eOk n x = true
    · rw [if_pos h1] at h
      by_cases h2 : lt2 p (x.1, x.2.1) = true
      · rw [if_pos h2] at h
        obtain ⟨ns, e1, e2, e3, e4⟩ := dstep_ns n (x.1, x.2.1) l h
        obtain ⟨a, b, c⟩ := x
        have h3 : (vtx n a = true ∧ vtx n b = true) ∧ 1 ≤ c ∧ c ≤ 50 := by simpa [eOk] using h1
        rw [vtx_iff, vtx_iff] at h3
        refine ⟨(a.toNat, b.toNat, c.toNat) :: ns, ?_, ?_, ?_, ?_⟩
        · rw [e1, List.map_cons]; congr 1
          simp only [n3, Prod.mk.injEq]; omega
        · intro y hy
          rcases List.mem_cons.1 hy with rfl | hy
          · simp only; omega
          · exact e2 y hy
        · intro y hy
          rcases List.mem_cons.1 hy with rfl | hy
          · simp only [lt2, decide_eq_true_eq] at h2 ⊢; omega
          · have := e3 y hy
            simp only [lt2, decide_eq_true_eq] at h2 this ⊢
            omega
        · refine List.Pairwise.cons (fun y hy => ?_) e4
          have := e3 y hy
          simp only [lt2, decide_eq_true_eq] at this
          simp only at this ⊢; omega
      · rw [if_neg h2] at h; exact absurd h (by decide)
    · rw [if_neg h1] at h; exact absurd h (by decide)
theorem rd_of {n : Int} {es : List (Int × Int × Int)} (h : chkDg n es = 0) : ∃ (m : Nat) (ns : List (Nat × Nat × Nat)), n = (m : Nat) ∧ es = ns.map n3 ∧ RD m ns := by
  unfold chkDg at h
  by_cases h1 : n < 1 ∨ 12 < n
  · rw [if_pos h1] at h; exact absurd h (by decide)
  · rw [if_neg h1] at h
    obtain ⟨ns, e1, e2, -, e4⟩ := dstep_ns n _ es h
    exact ⟨n.toNat, ns, by omega, e1, by omega, by omega, fun x hx => by have := e2 x hx; omega, e4⟩
theorem chkDg_rd {n : Nat} {ns : List (Nat × Nat × Nat)} (h : RD n ns) : chkDg (n : Nat) (ns.map n3) = 0 := by
  have key : ∀ (l : List (Nat × Nat × Nat)) (p : Int × Int), (∀ x ∈ l, x.1 < n ∧ x.2.1 < n ∧ 1 ≤ x.2.2 ∧ x.2.2 ≤ 50) → (∀ x ∈ l, lt2 p ((x.1 : Int), (x.2.1 : Int)) = true) → (l.Pairwise fun x y => x.1 < y.1 ∨ (x.1 = y.1 ∧ x.2.1 < y.2.1)) → dstep (n : Nat) p (l.map n3) = 0 := by
    intro l
    induction l with
    | nil => intro _ _ _ _; rfl
    | cons x l ih =>
      intro p h1 h2 h3
      obtain ⟨h4, h5⟩ := List.pairwise_cons.1 h3
      have hx := h1 x (List.mem_cons_self ..)
      rw [List.map_cons]
      unfold dstep
      rw [if_pos (show eOk (n : Nat) (n3 x) = true by
        have a1 : vtx (n : Nat) (x.1 : Int) = true := (vtx_iff _ _).2 (by omega)
        have a2 : vtx (n : Nat) (x.2.1 : Int) = true := (vtx_iff _ _).2 (by omega)
        have a3 : decide (1 ≤ (x.2.2 : Int) ∧ (x.2.2 : Int) ≤ 50) = true := decide_eq_true (by omega)
        show (vtx (n : Nat) (x.1 : Int) && vtx (n : Nat) (x.2.1 : Int) && decide (1 ≤ (x.2.2 : Int) ∧ (x.2.2 : Int) ≤ 50)) = true
        rw [a1, a2, a3]; rfl), if_pos (show lt2 p ((n3 x).1, (n3 x).2.1) = true from h2 x (List.mem_cons_self ..))]
      refine ih _ (fun y hy => h1 y (List.mem_cons_of_mem _ hy)) (fun y hy => ?_) h5
      have := h4 y hy
      exact decide_eq_true (show (x.1 : Int) < (y.1 : Int) ∨ ((x.1 : Int) = (y.1 : Int) ∧ (x.2.1 : Int) < (y.2.1 : Int)) by omega)
  unfold chkDg
  have := h.pos; have := h.le
  rw [if_neg (by omega)]
  exact key ns _ h.rng (fun x hx => by simp only [lt2, decide_eq_true_eq]; omega) h.asc

/-- What Degrees answers: two lists and an error. -/
def RetD2 (w : World) (F T : List Nat) (k : Int) : Ending → World → Prop := Rets fun r w' => ∃ u v, r = .tuple #[u, v, .int .i64 k] ∧ SlK i1 1 w' u F ∧ SlK i1 1 w' v T ∧ Below w.heap.size w w'
def RetE2 (w : World) (S : List (Nat × Nat)) (k : Int) : Ending → World → Prop := Rets fun r w' => ∃ u, r = .tuple #[u, .int .i64 k] ∧ SlK p2 2 w' u S ∧ Below w.heap.size w w'
def RetB2 (w : World) (t : Bool) (k : Int) : Ending → World → Prop := Rets fun r w' => r = .tuple #[.bool t, .int .i64 k] ∧ Below w.heap.size w w'
section
set_option maxHeartbeats 2000000 in
theorem EDegrees_bad (w : World) (n : Int) (v : Value) (es : List (Int × Int × Int)) (hv : SlK e3 3 w v es) (hk : chkDg n es ≠ 0) :
    Calls Tryz.prog 20 #[.agg #[.int .i64 n, v]] w (RetD2 w [] [] (chkDg n es)) := by
  obtain ⟨ad, c, rfl⟩ := hv.form
  have HV := Lib.hid hv
  obtain ⟨D, hD⟩ : ∃ D, w.heap.size = D := ⟨_, rfl⟩
  obtain ⟨W, hW⟩ : ∃ W, w.alloc (.cells #[.int .i64 n, .slice ad es.length c] 28) = W := ⟨_, rfl⟩
  have HK0 := Lib.hid (show Blk W D [.int .i64 n, .slice ad es.length c] 28 by rw [← hW, ← hD]; exact Blk.new w _ _)
  have HB0 := Lib.hid (show Below D w W by rw [← hW, ← hD]; exact (Below.refl _ w).alloc (Nat.le_refl _) _)
  have HV0 := Lib.hid (HV.out.below HB0.out (Nat.le_of_eq hD))
  have HW := Lib.hid hW
  have k0 := HK0.out.cell 0 _ rfl; have k1 := HK0.out.cell 1 _ rfl; have kl := HK0.out.lt
  clear hv hW
  have hne : (chkDg n es != 0) = true := by simp [hk]
  clear hk
  go_enter Tryz.func20, Tryz.ntmps20
  go_wp2_with (go_at_call 46; rw [HW.out]; (with_reducible refine (NCheck_any W n _ es HV0.out).mono ?_); rintro e w1 ⟨v, rfl, rfl, hb⟩; have HB1 := Lib.hid (HB0.out.trans (hb.mono (by rw [← hD]; exact HB0.out.size))); have HV1 := Lib.hid (HV0.out.below hb (Nat.le_refl _)); have HK1 := Lib.hid (HK0.out.below hb (Nat.le_refl _)); have k0 := HK1.out.cell 0 _ rfl; have k1 := HK1.out.cell 1 _ rfl; have kl := HK1.out.lt; clear hb)
  go_ret3
  exact ⟨_, rfl, _, _, rfl, SlK.nil, SlK.nil, by rw [hD]; exact HB1.out⟩
set_option maxHeartbeats 2000000 in
theorem rDegrees_bad (w : World) (n : Int) (v : Value) (es : List (Int × Int × Int)) (hv : SlK e3 3 w v es) (hk : chkDg n es ≠ 0) :
    Calls Tryz.prog 21 #[.agg #[.int .i64 n, v]] w (RetD2 w [] [] (chkDg n es)) := by
  obtain ⟨ad, c, rfl⟩ := hv.form
  have HV := Lib.hid hv
  obtain ⟨D, hD⟩ : ∃ D, w.heap.size = D := ⟨_, rfl⟩
  obtain ⟨W, hW⟩ : ∃ W, w.alloc (.cells #[.int .i64 n, .slice ad es.length c] 28) = W := ⟨_, rfl⟩
  have HK0 := Lib.hid (show Blk W D [.int .i64 n, .slice ad es.length c] 28 by rw [← hW, ← hD]; exact Blk.new w _ _)
  have HB0 := Lib.hid (show Below D w W by rw [← hW, ← hD]; exact (Below.refl _ w).alloc (Nat.le_refl _) _)
  have HV0 := Lib.hid (HV.out.below HB0.out (Nat.le_of_eq hD))
  have HW := Lib.hid hW
  have k0 := HK0.out.cell 0 _ rfl; have k1 := HK0.out.cell 1 _ rfl; have kl := HK0.out.lt
  clear hv hW
  have hne : (chkDg n es != 0) = true := by simp [hk]
  clear hk
  go_enter Tryz.func21, Tryz.ntmps21
  go_wp2_with (go_at_call 27; rw [HW.out]; (with_reducible refine (rDCheck_any W n _ es HV0.out).mono ?_); rintro e w1 ⟨v, rfl, rfl, hb⟩; have HB1 := Lib.hid (HB0.out.trans (hb.mono (by rw [← hD]; exact HB0.out.size))); have HV1 := Lib.hid (HV0.out.below hb (Nat.le_refl _)); have HK1 := Lib.hid (HK0.out.below hb (Nat.le_refl _)); have k0 := HK1.out.cell 0 _ rfl; have k1 := HK1.out.cell 1 _ rfl; have kl := HK1.out.lt; clear hb)
  go_ret3
  exact ⟨_, rfl, _, _, rfl, SlK.nil, SlK.nil, by rw [hD]; exact HB1.out⟩
set_option maxHeartbeats 2000000 in
theorem EEnds_bad (w : World) (n : Int) (v : Value) (es : List (Int × Int × Int)) (hv : SlK e3 3 w v es) (hk : chkDg n es ≠ 0) :
    Calls Tryz.prog 22 #[.agg #[.int .i64 n, v]] w (RetE2 w [] (chkDg n es)) := by
  obtain ⟨ad, c, rfl⟩ := hv.form
  have HV := Lib.hid hv
  obtain ⟨D, hD⟩ : ∃ D, w.heap.size = D := ⟨_, rfl⟩
  obtain ⟨W, hW⟩ : ∃ W, w.alloc (.cells #[.int .i64 n, .slice ad es.length c] 28) = W := ⟨_, rfl⟩
  have HK0 := Lib.hid (show Blk W D [.int .i64 n, .slice ad es.length c] 28 by rw [← hW, ← hD]; exact Blk.new w _ _)
  have HB0 := Lib.hid (show Below D w W by rw [← hW, ← hD]; exact (Below.refl _ w).alloc (Nat.le_refl _) _)
  have HV0 := Lib.hid (HV.out.below HB0.out (Nat.le_of_eq hD))
  have HW := Lib.hid hW
  have k0 := HK0.out.cell 0 _ rfl; have k1 := HK0.out.cell 1 _ rfl; have kl := HK0.out.lt
  clear hv hW
  have hne : (chkDg n es != 0) = true := by simp [hk]
  clear hk
  go_enter Tryz.func22, Tryz.ntmps22
  go_wp2_with (go_at_call 46; rw [HW.out]; (with_reducible refine (NCheck_any W n _ es HV0.out).mono ?_); rintro e w1 ⟨v, rfl, rfl, hb⟩; have HB1 := Lib.hid (HB0.out.trans (hb.mono (by rw [← hD]; exact HB0.out.size))); have HV1 := Lib.hid (HV0.out.below hb (Nat.le_refl _)); have HK1 := Lib.hid (HK0.out.below hb (Nat.le_refl _)); have k0 := HK1.out.cell 0 _ rfl; have k1 := HK1.out.cell 1 _ rfl; have kl := HK1.out.lt; clear hb)
  go_ret2
  exact ⟨_, rfl, _, rfl, SlK.nil, by rw [hD]; exact HB1.out⟩
set_option maxHeartbeats 2000000 in
theorem rEnds47_bad (w : World) (n : Int) (v : Value) (es : List (Int × Int × Int)) (hv : SlK e3 3 w v es) (hk : chkDg n es ≠ 0) :
    Calls Tryz.prog 23 #[.agg #[.int .i64 n, v]] w (RetE2 w [] (chkDg n es)) := by
  obtain ⟨ad, c, rfl⟩ := hv.form
  have HV := Lib.hid hv
  obtain ⟨D, hD⟩ : ∃ D, w.heap.size = D := ⟨_, rfl⟩
  obtain ⟨W, hW⟩ : ∃ W, w.alloc (.cells #[.int .i64 n, .slice ad es.length c] 28) = W := ⟨_, rfl⟩
  have HK0 := Lib.hid (show Blk W D [.int .i64 n, .slice ad es.length c] 28 by rw [← hW, ← hD]; exact Blk.new w _ _)
  have HB0 := Lib.hid (show Below D w W by rw [← hW, ← hD]; exact (Below.refl _ w).alloc (Nat.le_refl _) _)
  have HV0 := Lib.hid (HV.out.below HB0.out (Nat.le_of_eq hD))
  have HW := Lib.hid hW
  have k0 := HK0.out.cell 0 _ rfl; have k1 := HK0.out.cell 1 _ rfl; have kl := HK0.out.lt
  clear hv hW
  have hne : (chkDg n es != 0) = true := by simp [hk]
  clear hk
  go_enter Tryz.func23, Tryz.ntmps23
  go_wp2_with (go_at_call 27; rw [HW.out]; (with_reducible refine (rDCheck_any W n _ es HV0.out).mono ?_); rintro e w1 ⟨v, rfl, rfl, hb⟩; have HB1 := Lib.hid (HB0.out.trans (hb.mono (by rw [← hD]; exact HB0.out.size))); have HV1 := Lib.hid (HV0.out.below hb (Nat.le_refl _)); have HK1 := Lib.hid (HK0.out.below hb (Nat.le_refl _)); have k0 := HK1.out.cell 0 _ rfl; have k1 := HK1.out.cell 1 _ rfl; have kl := HK1.out.lt; clear hb)
  go_ret2
  exact ⟨_, rfl, _, rfl, SlK.nil, by rw [hD]; exact HB1.out⟩
set_option maxHeartbeats 2000000 in
theorem EEulerian_bad (w : World) (n : Int) (v : Value) (es : List (Int × Int × Int)) (hv : SlK e3 3 w v es) (hk : chkDg n es ≠ 0) :
    Calls Tryz.prog 25 #[.agg #[.int .i64 n, v]] w (RetB2 w false (chkDg n es)) := by
  obtain ⟨ad, c, rfl⟩ := hv.form
  have HV := Lib.hid hv
  obtain ⟨D, hD⟩ : ∃ D, w.heap.size = D := ⟨_, rfl⟩
  obtain ⟨W, hW⟩ : ∃ W, w.alloc (.cells #[.int .i64 n, .slice ad es.length c] 28) = W := ⟨_, rfl⟩
  have HK0 := Lib.hid (show Blk W D [.int .i64 n, .slice ad es.length c] 28 by rw [← hW, ← hD]; exact Blk.new w _ _)
  have HB0 := Lib.hid (show Below D w W by rw [← hW, ← hD]; exact (Below.refl _ w).alloc (Nat.le_refl _) _)
  have HV0 := Lib.hid (HV.out.below HB0.out (Nat.le_of_eq hD))
  have HW := Lib.hid hW
  have k0 := HK0.out.cell 0 _ rfl; have k1 := HK0.out.cell 1 _ rfl; have kl := HK0.out.lt
  clear hv hW
  have hne : (chkDg n es != 0) = true := by simp [hk]
  clear hk
  go_enter Tryz.func25, Tryz.ntmps25
  go_wp2_with (go_at_call 46; rw [HW.out]; (with_reducible refine (NCheck_any W n _ es HV0.out).mono ?_); rintro e w1 ⟨v, rfl, rfl, hb⟩; have HB1 := Lib.hid (HB0.out.trans (hb.mono (by rw [← hD]; exact HB0.out.size))); have HV1 := Lib.hid (HV0.out.below hb (Nat.le_refl _)); have HK1 := Lib.hid (HK0.out.below hb (Nat.le_refl _)); have k0 := HK1.out.cell 0 _ rfl; have k1 := HK1.out.cell 1 _ rfl; have kl := HK1.out.lt; clear hb)
  go_ret2
  exact ⟨_, rfl, rfl, by rw [hD]; exact HB1.out⟩
set_option maxHeartbeats 2000000 in
theorem rEulerian_bad (w : World) (n : Int) (v : Value) (es : List (Int × Int × Int)) (hv : SlK e3 3 w v es) (hk : chkDg n es ≠ 0) :
    Calls Tryz.prog 26 #[.agg #[.int .i64 n, v]] w (RetB2 w false (chkDg n es)) := by
  obtain ⟨ad, c, rfl⟩ := hv.form
  have HV := Lib.hid hv
  obtain ⟨D, hD⟩ : ∃ D, w.heap.size = D := ⟨_, rfl⟩
  obtain ⟨W, hW⟩ : ∃ W, w.alloc (.cells #[.int .i64 n, .slice ad es.length c] 28) = W := ⟨_, rfl⟩
  have HK0 := Lib.hid (show Blk W D [.int .i64 n, .slice ad es.length c] 28 by rw [← hW, ← hD]; exact Blk.new w _ _)
  have HB0 := Lib.hid (show Below D w W by rw [← hW, ← hD]; exact (Below.refl _ w).alloc (Nat.le_refl _) _)
  have HV0 := Lib.hid (HV.out.below HB0.out (Nat.le_of_eq hD))
  have HW := Lib.hid hW
  have k0 := HK0.out.cell 0 _ rfl; have k1 := HK0.out.cell 1 _ rfl; have kl := HK0.out.lt
  clear hv hW
  have hne : (chkDg n es != 0) = true := by simp [hk]
  clear hk
  go_enter Tryz.func26, Tryz.ntmps26
  go_wp2_with (go_at_call 27; rw [HW.out]; (with_reducible refine (rDCheck_any W n _ es HV0.out).mono ?_); rintro e w1 ⟨v, rfl, rfl, hb⟩; have HB1 := Lib.hid (HB0.out.trans (hb.mono (by rw [← hD]; exact HB0.out.size))); have HV1 := Lib.hid (HV0.out.below hb (Nat.le_refl _)); have HK1 := Lib.hid (HK0.out.below hb (Nat.le_refl _)); have k0 := HK1.out.cell 0 _ rfl; have k1 := HK1.out.cell 1 _ rfl; have kl := HK1.out.lt; clear hb)
  go_ret2
  exact ⟨_, rfl, rfl, by rw [hD]; exact HB1.out⟩
end
set_option maxHeartbeats 2000000 in
theorem EDegrees_good (w : World) (n : Int) (v : Value) (es : List (Int × Int × Int)) (m : Nat) (ns : List (Nat × Nat × Nat)) (hv : SlK e3 3 w v es) (hn : n = (m : Nat)) (he : es = ns.map n3) (hR : RD m ns) (hl : ns.length ≤ 1000) :
    Calls Tryz.prog 20 #[.agg #[.int .i64 n, v]] w (RetD2 w (degAt (·.1) m ns ns.length) (degAt (·.2.1) m ns ns.length) 0) := by
  obtain ⟨ad, c, rfl⟩ := hv.form
  have HV := Lib.hid hv
  obtain ⟨D, hD⟩ : ∃ D, w.heap.size = D := ⟨_, rfl⟩
  obtain ⟨W, hW⟩ : ∃ W, w.alloc (.cells #[.int .i64 n, .slice ad es.length c] 28) = W := ⟨_, rfl⟩
  have HK0 := Lib.hid (show Blk W D [.int .i64 n, .slice ad es.length c] 28 by rw [← hW, ← hD]; exact Blk.new w _ _)
  have HB0 := Lib.hid (show Below D w W by rw [← hW, ← hD]; exact (Below.refl _ w).alloc (Nat.le_refl _) _)
  have HV0 := Lib.hid (HV.out.below HB0.out (Nat.le_of_eq hD))
  have HW := Lib.hid hW
  have k0 := HK0.out.cell 0 _ rfl; have k1 := HK0.out.cell 1 _ rfl; have kl := HK0.out.lt
  clear hv hW
  have hk : chkDg n es = 0 := by rw [hn, he]; exact chkDg_rd hR
  have HC := Lib.hid hk; have HR := Lib.hid hR
  have HCON := Lib.hid (fun (W' : World) (u : Value) (h : SlK e3 3 W' u es) => show Calls Tryz.prog 53 #[.agg #[.int .i64 n, u]] W' (Rets fun r w2 => ∃ A B, r = .tuple #[.slice (some ⟨A, 0, none⟩) m m, .slice (some ⟨B, 0, none⟩) m m] ∧ Blk w2 A (ints (degAt (·.1) m ns ns.length)) 3 ∧ Blk w2 B (ints (degAt (·.2.1) m ns ns.length)) 3 ∧ W'.heap.size ≤ A ∧ W'.heap.size ≤ B ∧ Below W'.heap.size W' w2) from by rw [hn, he] at *; exact degrees_ok W' m u ns hR h hl)
  clear hk hR hn he
  go_enter Tryz.func20, Tryz.ntmps20
  go_wp2_with (first
    | (go_at_call 53; (with_reducible refine (HCON.out _ _ HV1.out).mono ?_); rintro e w2 ⟨v, rfl, A, B, rfl, hA, hB, hA0, hB0, hb⟩; have HB2 := Lib.hid (HB1.out.trans (hb.mono (by rw [← hD]; exact HB1.out.size))); have HA := Lib.hid hA; have HB := Lib.hid hB; have hAl := hA.lt; have hBl := hB.lt; clear hA hB hA0 hB0 hb)
    | (go_at_call 46; rw [HW.out]; (with_reducible refine (NCheck_any W n _ es HV0.out).mono ?_); rintro e w1 ⟨v, rfl, rfl, hb⟩; rw [HC.out]; have HB1 := Lib.hid (HB0.out.trans (hb.mono (by rw [← hD]; exact HB0.out.size))); have HV1 := Lib.hid (HV0.out.below hb (Nat.le_refl _)); have HK1 := Lib.hid (HK0.out.below hb (Nat.le_refl _)); have k0 := HK1.out.cell 0 _ rfl; have k1 := HK1.out.cell 1 _ rfl; have kl := HK1.out.lt; clear hb))
  go_ret3
  exact ⟨_, rfl, _, _, rfl, slk_blk HA.out (degAt_len _ _ _ _) (by have := HR.out.le; unfold maxLen; omega), slk_blk HB.out (degAt_len _ _ _ _) (by have := HR.out.le; unfold maxLen; omega), by rw [hD]; exact HB2.out⟩
set_option maxHeartbeats 2000000 in
theorem rDegrees_good (w : World) (n : Int) (v : Value) (es : List (Int × Int × Int)) (m : Nat) (ns : List (Nat × Nat × Nat)) (hv : SlK e3 3 w v es) (hn : n = (m : Nat)) (he : es = ns.map n3) (hR : RD m ns) (hl : ns.length ≤ 1000) :
    Calls Tryz.prog 21 #[.agg #[.int .i64 n, v]] w (RetD2 w (degAt (·.1) m ns ns.length) (degAt (·.2.1) m ns ns.length) 0) := by
  obtain ⟨ad, c, rfl⟩ := hv.form
  have HV := Lib.hid hv
  obtain ⟨D, hD⟩ : ∃ D, w.heap.size = D := ⟨_, rfl⟩
  obtain ⟨W, hW⟩ : ∃ W, w.alloc (.cells #[.int .i64 n, .slice ad es.length c] 28) = W := ⟨_, rfl⟩
  have HK0 := Lib.hid (show Blk W D [.int .i64 n, .slice ad es.length c] 28 by rw [← hW, ← hD]; exact Blk.new w _ _)
  have HB0 := Lib.hid (show Below D w W by rw [← hW, ← hD]; exact (Below.refl _ w).alloc (Nat.le_refl _) _)
  have HV0 := Lib.hid (HV.out.below HB0.out (Nat.le_of_eq hD))
  have HW := Lib.hid hW
  have k0 := HK0.out.cell 0 _ rfl; have k1 := HK0.out.cell 1 _ rfl; have kl := HK0.out.lt
  clear hv hW
  have hk : chkDg n es = 0 := by rw [hn, he]; exact chkDg_rd hR
  have HC := Lib.hid hk; have HR := Lib.hid hR
  have HCON := Lib.hid (fun (W' : World) (u : Value) (h : SlK e3 3 W' u es) => show Calls Tryz.prog 54 #[.agg #[.int .i64 n, u]] W' (Rets fun r w2 => ∃ A B, r = .tuple #[.slice (some ⟨A, 0, none⟩) m m, .slice (some ⟨B, 0, none⟩) m m] ∧ Blk w2 A (ints (degAt (·.1) m ns ns.length)) 3 ∧ Blk w2 B (ints (degAt (·.2.1) m ns ns.length)) 3 ∧ W'.heap.size ≤ A ∧ W'.heap.size ≤ B ∧ Below W'.heap.size W' w2) from by rw [hn, he] at *; exact rCounted_any W' m u ns hR h hl)
  clear hk hR hn he
  go_enter Tryz.func21, Tryz.ntmps21
  go_wp2_with (first
    | (go_at_call 54; (with_reducible refine (HCON.out _ _ HV1.out).mono ?_); rintro e w2 ⟨v, rfl, A, B, rfl, hA, hB, hA0, hB0, hb⟩; have HB2 := Lib.hid (HB1.out.trans (hb.mono (by rw [← hD]; exact HB1.out.size))); have HA := Lib.hid hA; have HB := Lib.hid hB; have hAl := hA.lt; have hBl := hB.lt; clear hA hB hA0 hB0 hb)
    | (go_at_call 27; rw [HW.out]; (with_reducible refine (rDCheck_any W n _ es HV0.out).mono ?_); rintro e w1 ⟨v, rfl, rfl, hb⟩; rw [HC.out]; have HB1 := Lib.hid (HB0.out.trans (hb.mono (by rw [← hD]; exact HB0.out.size))); have HV1 := Lib.hid (HV0.out.below hb (Nat.le_refl _)); have HK1 := Lib.hid (HK0.out.below hb (Nat.le_refl _)); have k0 := HK1.out.cell 0 _ rfl; have k1 := HK1.out.cell 1 _ rfl; have kl := HK1.out.lt; clear hb))
  go_ret3
  exact ⟨_, rfl, _, _, rfl, slk_blk HA.out (degAt_len _ _ _ _) (by have := HR.out.le; unfold maxLen; omega), slk_blk HB.out (degAt_len _ _ _ _) (by have := HR.out.le; unfold maxLen; omega), by rw [hD]; exact HB2.out⟩
set_option maxHeartbeats 2000000 in
theorem EEnds_good (w : World) (n : Int) (v : Value) (es : List (Int × Int × Int)) (m : Nat) (ns : List (Nat × Nat × Nat)) (hv : SlK e3 3 w v es) (hn : n = (m : Nat)) (he : es = ns.map n3) (hR : RD m ns) (hl : ns.length ≤ 1000) :
    Calls Tryz.prog 22 #[.agg #[.int .i64 n, v]] w (RetE2 w (sgl ns) 0) := by
  obtain ⟨ad, c, rfl⟩ := hv.form
  have HV := Lib.hid hv
  obtain ⟨D, hD⟩ : ∃ D, w.heap.size = D := ⟨_, rfl⟩
  obtain ⟨W, hW⟩ : ∃ W, w.alloc (.cells #[.int .i64 n, .slice ad es.length c] 28) = W := ⟨_, rfl⟩
  have HK0 := Lib.hid (show Blk W D [.int .i64 n, .slice ad es.length c] 28 by rw [← hW, ← hD]; exact Blk.new w _ _)
  have HB0 := Lib.hid (show Below D w W by rw [← hW, ← hD]; exact (Below.refl _ w).alloc (Nat.le_refl _) _)
  have HV0 := Lib.hid (HV.out.below HB0.out (Nat.le_of_eq hD))
  have HW := Lib.hid hW
  have k0 := HK0.out.cell 0 _ rfl; have k1 := HK0.out.cell 1 _ rfl; have kl := HK0.out.lt
  clear hv hW
  have hk : chkDg n es = 0 := by rw [hn, he]; exact chkDg_rd hR
  have HC := Lib.hid hk; have HR := Lib.hid hR
  have HCON := Lib.hid (fun (W' : World) (u : Value) (h : SlK e3 3 W' u es) => show Calls Tryz.prog 43 #[.agg #[.int .i64 n, u]] W' (Rets fun r w2 => w2.ownsRow W'.heap.size 60 2 r (sgl ns).length ((sgl ns).flatMap p2) ∧ Below W'.heap.size W' w2) from by rw [hn, he] at *; exact arcs_ok W' m u ns h (fun x hx => (hR.rng x hx).2.2.2) (by omega))
  clear hk hR hn he
  go_enter Tryz.func22, Tryz.ntmps22
  go_wp2_with (first
    | (go_at_call 43; (with_reducible refine (HCON.out _ _ HV1.out).mono ?_); rintro e w2 ⟨v, rfl, hO, hb⟩; have HB2 := Lib.hid (HB1.out.trans (hb.mono (by rw [← hD]; exact HB1.out.size))); obtain ⟨ea, ec, rfl⟩ := own_formK hO; have HO := Lib.hid (SlK.ofOwns p2_len hO rfl); clear hO hb)
    | (go_at_call 46; rw [HW.out]; (with_reducible refine (NCheck_any W n _ es HV0.out).mono ?_); rintro e w1 ⟨v, rfl, rfl, hb⟩; rw [HC.out]; have HB1 := Lib.hid (HB0.out.trans (hb.mono (by rw [← hD]; exact HB0.out.size))); have HV1 := Lib.hid (HV0.out.below hb (Nat.le_refl _)); have HK1 := Lib.hid (HK0.out.below hb (Nat.le_refl _)); have k0 := HK1.out.cell 0 _ rfl; have k1 := HK1.out.cell 1 _ rfl; have kl := HK1.out.lt; clear hb))
  go_ret2
  exact ⟨_, rfl, _, rfl, HO.out, by rw [hD]; exact HB2.out⟩
set_option maxHeartbeats 2000000 in
theorem rEnds47_good (w : World) (n : Int) (v : Value) (es : List (Int × Int × Int)) (m : Nat) (ns : List (Nat × Nat × Nat)) (hv : SlK e3 3 w v es) (hn : n = (m : Nat)) (he : es = ns.map n3) (hR : RD m ns) (hl : ns.length ≤ 1000) :
    Calls Tryz.prog 23 #[.agg #[.int .i64 n, v]] w (RetE2 w (sgl ns) 0) := by
  obtain ⟨ad, c, rfl⟩ := hv.form
  have HV := Lib.hid hv
  obtain ⟨D, hD⟩ : ∃ D, w.heap.size = D := ⟨_, rfl⟩
  obtain ⟨W, hW⟩ : ∃ W, w.alloc (.cells #[.int .i64 n, .slice ad es.length c] 28) = W := ⟨_, rfl⟩
  have HK0 := Lib.hid (show Blk W D [.int .i64 n, .slice ad es.length c] 28 by rw [← hW, ← hD]; exact Blk.new w _ _)
  have HB0 := Lib.hid (show Below D w W by rw [← hW, ← hD]; exact (Below.refl _ w).alloc (Nat.le_refl _) _)
  have HV0 := Lib.hid (HV.out.below HB0.out (Nat.le_of_eq hD))
  have HW := Lib.hid hW
  have k0 := HK0.out.cell 0 _ rfl; have k1 := HK0.out.cell 1 _ rfl; have kl := HK0.out.lt
  clear hv hW
  have hk : chkDg n es = 0 := by rw [hn, he]; exact chkDg_rd hR
  have HC := Lib.hid hk; have HR := Lib.hid hR
  have HCON := Lib.hid (fun (W' : World) (u : Value) (h : SlK e3 3 W' u es) => show Calls Tryz.prog 28 #[.agg #[.int .i64 n, u]] W' (Rets fun r w2 => w2.ownsRow W'.heap.size 60 2 r (sgl ns).length ((sgl ns).flatMap p2) ∧ Below W'.heap.size W' w2) from by rw [hn, he] at *; exact rSingles_any W' m u ns h (fun x hx => (hR.rng x hx).2.2.2) (by omega))
  clear hk hR hn he
  go_enter Tryz.func23, Tryz.ntmps23
  go_wp2_with (first
    | (go_at_call 28; (with_reducible refine (HCON.out _ _ HV1.out).mono ?_); rintro e w2 ⟨v, rfl, hO, hb⟩; have HB2 := Lib.hid (HB1.out.trans (hb.mono (by rw [← hD]; exact HB1.out.size))); obtain ⟨ea, ec, rfl⟩ := own_formK hO; have HO := Lib.hid (SlK.ofOwns p2_len hO rfl); clear hO hb)
    | (go_at_call 27; rw [HW.out]; (with_reducible refine (rDCheck_any W n _ es HV0.out).mono ?_); rintro e w1 ⟨v, rfl, rfl, hb⟩; rw [HC.out]; have HB1 := Lib.hid (HB0.out.trans (hb.mono (by rw [← hD]; exact HB0.out.size))); have HV1 := Lib.hid (HV0.out.below hb (Nat.le_refl _)); have HK1 := Lib.hid (HK0.out.below hb (Nat.le_refl _)); have k0 := HK1.out.cell 0 _ rfl; have k1 := HK1.out.cell 1 _ rfl; have kl := HK1.out.lt; clear hb))
  go_ret2
  exact ⟨_, rfl, _, rfl, HO.out, by rw [hD]; exact HB2.out⟩
theorem eulP_dec {n : Nat} {ns : List (Nat × Nat × Nat)} {r : Value} {w w' : World} {t : Bool} (h : EulP n ns r w w') (ht : t = true ↔ EulC n ns) : r = .bool t ∧ Below w.heap.size w w' := by
  obtain ⟨t', rfl, hb, hi⟩ := h
  refine ⟨?_, hb⟩
  congr 1
  rw [Bool.eq_iff_iff, hi, ht]
theorem isR_dec {n : Nat} {ns : List (Nat × Nat × Nat)} {r : Value} {w w' : World} {t : Bool} (hR : RD n ns) (h : IsR n ns r w w') (ht : t = true ↔ EulC n ns) : r = .bool t ∧ Below w.heap.size w w' := by
  obtain ⟨t', rfl, hb, hi⟩ := h
  refine ⟨?_, hb⟩
  congr 1
  rw [Bool.eq_iff_iff, hi, ht]
  exact is_eul hR
set_option maxHeartbeats 2000000 in
theorem EEulerian_good (w : World) (n : Int) (v : Value) (es : List (Int × Int × Int)) (m : Nat) (ns : List (Nat × Nat × Nat)) (hv : SlK e3 3 w v es) (hn : n = (m : Nat)) (he : es = ns.map n3) (hR : RD m ns) (hl : ns.length ≤ 1000) (t : Bool) (ht : t = true ↔ EulC m ns) :
    Calls Tryz.prog 25 #[.agg #[.int .i64 n, v]] w (RetB2 w t 0) := by
  obtain ⟨ad, c, rfl⟩ := hv.form
  have HV := Lib.hid hv
  obtain ⟨D, hD⟩ : ∃ D, w.heap.size = D := ⟨_, rfl⟩
  obtain ⟨W, hW⟩ : ∃ W, w.alloc (.cells #[.int .i64 n, .slice ad es.length c] 28) = W := ⟨_, rfl⟩
  have HK0 := Lib.hid (show Blk W D [.int .i64 n, .slice ad es.length c] 28 by rw [← hW, ← hD]; exact Blk.new w _ _)
  have HB0 := Lib.hid (show Below D w W by rw [← hW, ← hD]; exact (Below.refl _ w).alloc (Nat.le_refl _) _)
  have HV0 := Lib.hid (HV.out.below HB0.out (Nat.le_of_eq hD))
  have HW := Lib.hid hW
  have k0 := HK0.out.cell 0 _ rfl; have k1 := HK0.out.cell 1 _ rfl; have kl := HK0.out.lt
  clear hv hW
  have hk : chkDg n es = 0 := by rw [hn, he]; exact chkDg_rd hR
  have HC := Lib.hid hk; have HR := Lib.hid hR
  have HCON := Lib.hid (fun (W' : World) (u : Value) (h : SlK e3 3 W' u es) => show Calls Tryz.prog 47 #[.agg #[.int .i64 n, u]] W' (Rets fun r w2 => r = .bool t ∧ Below W'.heap.size W' w2) from by rw [hn, he] at *; exact (eulerian_ok W' m u ns hR h hl).mono (by rintro e w2 ⟨v, rfl, hE⟩; obtain ⟨h1, h2⟩ := eulP_dec hE ht; exact ⟨_, rfl, h1, h2⟩))
  clear hk hR hn he
  go_enter Tryz.func25, Tryz.ntmps25
  go_wp2_with (first
    | (go_at_call 47; (with_reducible refine (HCON.out _ _ HV1.out).mono ?_); rintro e w2 ⟨v, rfl, rfl, hb⟩; have HB2 := Lib.hid (HB1.out.trans (hb.mono (by rw [← hD]; exact HB1.out.size))); clear hb)
    | (go_at_call 46; rw [HW.out]; (with_reducible refine (NCheck_any W n _ es HV0.out).mono ?_); rintro e w1 ⟨v, rfl, rfl, hb⟩; rw [HC.out]; have HB1 := Lib.hid (HB0.out.trans (hb.mono (by rw [← hD]; exact HB0.out.size))); have HV1 := Lib.hid (HV0.out.below hb (Nat.le_refl _)); have HK1 := Lib.hid (HK0.out.below hb (Nat.le_refl _)); have k0 := HK1.out.cell 0 _ rfl; have k1 := HK1.out.cell 1 _ rfl; have kl := HK1.out.lt; clear hb))
  go_ret2
  exact ⟨_, rfl, rfl, by rw [hD]; exact HB2.out⟩
set_option maxHeartbeats 2000000 in
theorem rEulerian_good (w : World) (n : Int) (v : Value) (es : List (Int × Int × Int)) (m : Nat) (ns : List (Nat × Nat × Nat)) (hv : SlK e3 3 w v es) (hn : n = (m : Nat)) (he : es = ns.map n3) (hR : RD m ns) (hl : ns.length ≤ 1000) (t : Bool) (ht : t = true ↔ EulC m ns) :
    Calls Tryz.prog 26 #[.agg #[.int .i64 n, v]] w (RetB2 w t 0) := by
  obtain ⟨ad, c, rfl⟩ := hv.form
  have HV := Lib.hid hv
  obtain ⟨D, hD⟩ : ∃ D, w.heap.size = D := ⟨_, rfl⟩
  obtain ⟨W, hW⟩ : ∃ W, w.alloc (.cells #[.int .i64 n, .slice ad es.length c] 28) = W := ⟨_, rfl⟩
  have HK0 := Lib.hid (show Blk W D [.int .i64 n, .slice ad es.length c] 28 by rw [← hW, ← hD]; exact Blk.new w _ _)
  have HB0 := Lib.hid (show Below D w W by rw [← hW, ← hD]; exact (Below.refl _ w).alloc (Nat.le_refl _) _)
  have HV0 := Lib.hid (HV.out.below HB0.out (Nat.le_of_eq hD))
  have HW := Lib.hid hW
  have k0 := HK0.out.cell 0 _ rfl; have k1 := HK0.out.cell 1 _ rfl; have kl := HK0.out.lt
  clear hv hW
  have hk : chkDg n es = 0 := by rw [hn, he]; exact chkDg_rd hR
  have HC := Lib.hid hk; have HR := Lib.hid hR
  have HCON := Lib.hid (fun (W' : World) (u : Value) (h : SlK e3 3 W' u es) => show Calls Tryz.prog 30 #[.agg #[.int .i64 n, u]] W' (Rets fun r w2 => r = .bool t ∧ Below W'.heap.size W' w2) from by rw [hn, he] at *; exact (rIs_any W' m u ns hR h hl).mono (by rintro e w2 ⟨v, rfl, hE⟩; obtain ⟨h1, h2⟩ := isR_dec hR hE ht; exact ⟨_, rfl, h1, h2⟩))
  clear hk hR hn he
  go_enter Tryz.func26, Tryz.ntmps26
  go_wp2_with (first
    | (go_at_call 30; (with_reducible refine (HCON.out _ _ HV1.out).mono ?_); rintro e w2 ⟨v, rfl, rfl, hb⟩; have HB2 := Lib.hid (HB1.out.trans (hb.mono (by rw [← hD]; exact HB1.out.size))); clear hb)
    | (go_at_call 27; rw [HW.out]; (with_reducible refine (rDCheck_any W n _ es HV0.out).mono ?_); rintro e w1 ⟨v, rfl, rfl, hb⟩; rw [HC.out]; have HB1 := Lib.hid (HB0.out.trans (hb.mono (by rw [← hD]; exact HB0.out.size))); have HV1 := Lib.hid (HV0.out.below hb (Nat.le_refl _)); have HK1 := Lib.hid (HK0.out.below hb (Nat.le_refl _)); have k0 := HK1.out.cell 0 _ rfl; have k1 := HK1.out.cell 1 _ rfl; have kl := HK1.out.lt; clear hb))
  go_ret2
  exact ⟨_, rfl, rfl, by rw [hD]; exact HB2.out⟩
end Go.Proofs.YtlnhocgjgmhfgaaGreatDoor

namespace Go.Proofs.YtlnhocgjgmhfgaaGreatDoor
open Go.RowKit
set_option maxRecDepth 100000

def eJ (x : Nat) : Value := .int .i64 (x : Nat)
def isR (rt x : Nat) : Bool := decide (x = rt)
theorem nil_noN (a : Addr) (n c : Nat) (w : World) : (binOp BinOp.eql 36 (.slice (some a) n c) (.slice none 0 0)).run Tryz.prog w = .ok (.bool false) w := by kernel_rfl
theorem nil_yesN (w : World) : (binOp BinOp.eql 36 (.slice none 0 0) (.slice none 0 0)).run Tryz.prog w = .ok (.bool true) w := by kernel_rfl
theorem rooted1 (w : World) (x rt rb : Nat) (hr : w.cell? ⟨rb, 0, none⟩ = some (.int .i64 (rt : Nat))) : Calls Tryz.prog 73 #[.int .i64 (x : Nat), .pointer (some ⟨rb, 0, none⟩)] w (Rets fun v w' => v = .bool (isR rt x) ∧ w = w') := by
  by_cases h : x = rt
  · have h1 : ((x : Int) == (rt : Int)) = true := by simp [h]
    have HR := Lib.hid (show isR rt x = true by simp [isR, h])
    rw [HR.out]
    clear h
    go_enter Tryz.func73, Tryz.ntmps73
    go_wp2
    go_ret
    exact ⟨_, rfl, rfl, rfl⟩
  · have h1 : ((x : Int) == (rt : Int)) = false := by simp; omega
    have HR := Lib.hid (show isR rt x = false by simp [isR, h])
    rw [HR.out]
    clear h
    go_enter Tryz.func73, Tryz.ntmps73
    go_wp2
    go_ret
    exact ⟨_, rfl, rfl, rfl⟩
set_option maxHeartbeats 1000000 in
theorem idxR_none (w : World) (v : Value) (xs : List Nat) (rt rb : Nat) (hr : w.cell? ⟨rb, 0, none⟩ = some (.int .i64 (rt : Nat))) (hv : Sl eJ w v xs) (h : ∀ s ∈ xs, (isR rt s) = false) :
    Calls Tryz.prog 94 #[v, .func (.func 73) #[] #[.pointer (some ⟨rb, 0, none⟩)]] w (Rets fun v w' => v = .int .i64 (-1) ∧ w = w') := by
  obtain ⟨a, b, o, c, rfl, hi, hp, hc, hm⟩ := hv.open elemI
  have H := Lib.hid h; have HR := Lib.hid hr
  clear hv h hr
  unfold maxLen at hm
  go_enter Tryz.func94, Tryz.ntmps94
  go_wp2
  go_loop [8] (fun i => ∃ k : Nat, k ≤ xs.length ∧ i = .int .i64 k) (fun i => xs.length - (intOf i).toNat)
  case atStart => exact ⟨0, Nat.zero_le _, rfl⟩
  case round =>
    obtain ⟨k, hk, rfl⟩ := hrel
    by_cases hkn : k < xs.length
    · have h1 : w.cell? ⟨b, o + k, none⟩ = some (.int .i64 (xs[k] : Nat)) := hp.2 k hkn
      have HB := Lib.hid (H.out _ (List.getElem_mem hkn))
      go_wp2_with (go_at_call 73; (with_reducible refine (rooted1 _ xs[k] rt rb HR.out).mono ?_); rintro e w1 ⟨v, rfl, rfl, rfl⟩; rw [HB.out])
      go_round
      case rel => exact ⟨k + 1, by omega, by go_num⟩
      case measure => simp [intOf]; omega
    · obtain rfl : k = xs.length := by omega
      go_wp2
      go_ret
      exact ⟨_, rfl, rfl, rfl⟩
set_option maxHeartbeats 1000000 in
theorem idxR_some (w : World) (v : Value) (xs : List Nat) (rt rb : Nat) (hr : w.cell? ⟨rb, 0, none⟩ = some (.int .i64 (rt : Nat))) (hv : Sl eJ w v xs) (m : Nat) (hm : m < xs.length) (h : (isR rt xs[m]) = true) (h2 : ∀ j (hj : j < m), (isR rt (xs[j]'(by omega))) = false) :
    Calls Tryz.prog 94 #[v, .func (.func 73) #[] #[.pointer (some ⟨rb, 0, none⟩)]] w (Rets fun v w' => v = .int .i64 m ∧ w = w') := by
  obtain ⟨a, b, o, c, rfl, hi, hp, hc, hcm⟩ := hv.open elemI
  have H := Lib.hid h; have H2 := Lib.hid h2; have HR := Lib.hid hr
  clear hv h h2 hr
  unfold maxLen at hcm
  go_enter Tryz.func94, Tryz.ntmps94
  go_wp2
  go_loop [8] (fun i => ∃ k : Nat, k ≤ m ∧ i = .int .i64 k) (fun i => xs.length - (intOf i).toNat)
  case atStart => exact ⟨0, Nat.zero_le _, rfl⟩
  case round =>
    obtain ⟨k, hk, rfl⟩ := hrel
    have hkn : k < xs.length := by omega
    have h1 : w.cell? ⟨b, o + k, none⟩ = some (.int .i64 (xs[k] : Nat)) := hp.2 k hkn
    by_cases hkm : k < m
    · have HB := Lib.hid (H2.out k hkm)
      go_wp2_with (go_at_call 73; (with_reducible refine (rooted1 _ xs[k] rt rb HR.out).mono ?_); rintro e w1 ⟨v, rfl, rfl, rfl⟩; rw [HB.out])
      go_round
      case rel => exact ⟨k + 1, by omega, by go_num⟩
      case measure => simp [intOf]; omega
    · obtain rfl : k = m := by omega
      go_wp2_with (go_at_call 73; (with_reducible refine (rooted1 _ xs[k] rt rb HR.out).mono ?_); rintro e w1 ⟨v, rfl, rfl, rfl⟩; rw [H.out])
      go_ret
      exact ⟨_, rfl, rfl, rfl⟩
theorem first_hitN (p : Nat → Bool) : ∀ (xs : List Nat), xs.any p = true → ∃ m, ∃ h : m < xs.length, p xs[m] = true ∧ ∀ j (hj : j < m), p (xs[j]'(by omega)) = false
  | [], h => by simp at h
  | x :: l, h => by
    by_cases hx : p x = true
    · exact ⟨0, by simp, hx, fun j hj => absurd hj (by omega)⟩
    · obtain ⟨m, hm, h1, h2⟩ := first_hitN p l (by simpa [hx] using h)
      refine ⟨m + 1, by simpa using hm, by simpa using h1, fun j hj => ?_⟩
      cases j with
      | zero => simpa using hx
      | succ j => simpa using h2 j (by omega)
section
variable {P : Program} {t e : TypeId} {z : Value} {bytes : Nat} {ops : Array Oper} {rest : List Oper} {o : Oper} {a : Act} {Q : Exit → Act → World → Prop}
/-- 'append([]T{}, xs...)', xs not nil. -/
theorem appCN {α : Type} {enc : α → Value} (hE : ElemOk P t e z 1 bytes) (hgd : o.guard = none) (s x : Operand) (ho : o.op = .call { callee := .builtin .append, args := #[s, x], argTypes := #[t, t] })
    {xs : List α} {B : Nat} {w0 w1 W : World} {v : Value} {ad : Addr} {c : Nat} (hown : w1.ownsRow w0.heap.size e 1 v 0 []) (hb1 : Below B W w1) (hs0 : w0.heap.size ≤ w1.heap.size) (hBw : B ≤ w0.heap.size) (hs : a.eval s = v) (hx : a.eval x = .slice (some ad) xs.length c) (hv : Sl enc w1 (.slice (some ad) xs.length c) xs)
    (h2 : ∀ y, (enc y).oneCell' = true) (hn : xs.length * bytes ≤ 140737488355328) (hn' : xs.length ≤ maxLen)
    (h : ∀ v' w', w'.ownsRow w0.heap.size e 1 v' xs.length (xs.map enc) → Below B W w' → wpList P ops Q rest (a.put o.dst v') w') :
    wpList P ops Q (o :: rest) a w1 := by
  obtain ⟨i, hi, hz, hsz, hby⟩ := hE.info
  obtain ⟨ad', b, off, c', he, ha, hc, hm, hnn, hcell⟩ := hv
  cases he
  have hnews : ∀ j y, (xs.map enc)[j]? = some y → w1.cell? (ad.add j) = some y := by
    intro j y hj
    have hj' : j < xs.length := by have := (List.getElem?_eq_some_iff.1 hj).1; simpa using this
    have := ha (by omega)
    cases this
    have h3 := hcell.2 j hj'
    simp [hj'] at hj
    rw [show (⟨b, off, none⟩ : Addr).add j = ⟨b, off + j, none⟩ by simp [Addr.add], h3, hj]
  refine wpList_append_own _ hgd s x t ho w0.heap.size e i z 1 bytes hE.und hi hz hsz hby hE.cells hE.pos _ 0 [] hs hown ad xs.length c (xs.map enc) hx (by simp) hnews (by intro y hy; obtain ⟨y', _, rfl⟩ := List.mem_map.1 hy; exact h2 y') (by rw [Nat.zero_add]; exact hn') (by rw [Nat.zero_add]; exact hn) hs0 ?_
  intro v' w' ho' hg _
  rw [Nat.zero_add, List.nil_append] at ho'
  exact h v' w' ho' (hb1.grown hg (by omega) (fun j hj => by have := (hown.lt j hj).1; omega))
end

set_option maxHeartbeats 1000000 in
theorem cloneN_any (w : World) (v : Value) (xs : List Nat) (hv : Sl eJ w v xs) (hl : xs.length ≤ 1000000) :
    Calls Tryz.prog 44 #[v] w (Rets fun v' w' => w'.ownsRow w.heap.size 3 1 v' xs.length (xs.map eJ) ∧ Below w.heap.size w w') := by
  have HV := Lib.hid hv
  have hn1 := nil_noN
  have hn2 := nil_yesN
  obtain ⟨a, b, o, c, rfl, ha, hc, hm, hn0, hp⟩ := hv
  cases a with
  | none =>
    have hc0 := hn0 rfl
    have hl0 : xs.length = 0 := by omega
    obtain rfl : xs = [] := List.length_eq_zero_iff.1 hl0
    subst hc0
    clear HV ha hp hn0
    go_enter Tryz.func44, Tryz.ntmps44
    go_wp2
    go_ret
    exact ⟨_, rfl, World.ownsRow_nil _ _ _ _, Below.refl _ _⟩
  | some a =>
    clear ha hp hn0
    have HO : Hid ((w.alloc (.cells #[] 3)).ownsRow w.heap.size 3 1 (.slice (some ⟨w.heap.size, 0, none⟩) 0 0) 0 []) := Lib.hid ⟨rfl, .inr ⟨w.heap.size, 0, #[], rfl, by omega, heap_alloc_new w _, by omega, by simp [maxLen], rfl, rfl⟩⟩
    have HB0 := Lib.hid ((Below.refl w.heap.size w).alloc (Nat.le_refl _) (.cells #[] 3))
    go_enter Tryz.func44, Tryz.ntmps44
    go_wp2_with (at_builtin; refine appCN elemI rfl _ _ rfl (w0 := w) HO.out HB0.out (by simp) (Nat.le_refl _) rfl rfl (HV.out.below HB0.out (Nat.le_refl _)) (fun y => by simp [eJ, Value.oneCell']) (by omega) (by unfold maxLen; omega) ?_; intro v' w2 hown' hb'; have HO2 := Lib.hid hown'; clear hown')
    go_ret
    exact ⟨_, rfl, HO2.out, hb'⟩

theorem size_scN (b : Nat) : ∀ (vs : List Value) (o : Nat) (w : World), (w.setCells b o vs).heap.size = w.heap.size
  | [], _, _ => rfl
  | _ :: r, o, _ => by rw [World.setCells, size_scN b r]; simp
theorem below_scN {B b : Nat} {a : World} (hb : B ≤ b) : ∀ (vs : List Value) (o : Nat) (w : World), Below B a w → Below B a (w.setCells b o vs)
  | [], _, _, h => h
  | v :: r, o, _, h => below_scN hb r (o + 1) _ (h.setCell hb v)
theorem take_filterN (p : Nat → Bool) (xs : List Nat) (j : Nat) (h : j < xs.length) : (xs.take (j + 1)).filter p = (xs.take j).filter p ++ (if p xs[j] then [xs[j]] else []) := by
  rw [List.take_succ_eq_append_getElem h, List.filter_append]
  congr 1
  by_cases hp : p xs[j] <;> simp [hp]
set_option maxHeartbeats 4000000 in
theorem deleteN_any (w : World) (v : Value) (xs : List Nat) (base rt rb : Nat) (hr : w.cell? ⟨rb, 0, none⟩ = some (.int .i64 (rt : Nat))) (hrb : rb < base) (hown : w.ownsRow base 3 1 v xs.length (xs.map eJ)) (hl : xs.length ≤ 1000000) :
    Calls Tryz.prog 72 #[v, .func (.func 73) #[] #[.pointer (some ⟨rb, 0, none⟩)]] w (Rets fun v' w' => Sl eJ w' v' (xs.filter fun s => !isR rt s) ∧ Below base w w') := by
  have HS := Lib.hid (Sl.ofOwns hown)
  have HO := Lib.hid hown
  cases ha : xs.any (isR rt)
  · have hn : ∀ s ∈ xs, isR rt s = false := fun s hs => by have := List.any_eq_false.1 ha s hs; simpa using this
    have HN := Lib.hid hn
    have HF := Lib.hid (show (xs.filter fun s => !isR rt s) = xs by rw [List.filter_eq_self]; intro s hs; rw [hn s hs]; rfl)
    obtain ⟨a, b, o, c, rfl, -, -, -, -⟩ := (Sl.ofOwns hown).open elemI
    clear hown ha hn
    go_enter Tryz.func72, Tryz.ntmps72
    go_wp2_with (go_at_call 94; (with_reducible refine (idxR_none _ _ xs rt rb hr HS.out HN.out).mono ?_); rintro e w1 ⟨v, rfl, rfl, rfl⟩)
    go_ret
    exact ⟨_, rfl, by rw [HF.out]; exact HS.out, Below.refl _ _⟩
  · obtain ⟨m, hm, h1, h2⟩ := first_hitN (isR rt) xs ha
    rcases hown.2 with ⟨rfl, h0⟩ | ⟨g, cap, cur0, rfl, hg, hgl, hc, hcm, hsz, ht⟩
    · exact absurd hm (by have h9 : xs = [] := by simpa using h0
                          rw [h9]; simp)
    · have HFM := Lib.hid (show (xs.take m).filter (fun s => !isR rt s) = xs.take m by
        rw [List.filter_eq_self]; intro s hs
        obtain ⟨i, hi, rfl⟩ := List.getElem_of_mem hs
        simp at hi
        rw [List.getElem_take, h2 i (by omega)]; rfl)
      have HP := Lib.hid h1; have HQ := Lib.hid h2
      have hm0 : (0 : Int) ≤ (m : Int) := by omega
      have hmn : ((m : Int) == -1) = false := by simp
      have HGB := Lib.hid hg; have HR0 := Lib.hid hr
      clear hown ha h1 h2 hgl hsz ht hg
      go_enter Tryz.func72, Tryz.ntmps72
      go_wp2_with (go_at_call 94; (with_reducible refine (idxR_some _ _ xs rt rb hr HS.out m hm HP.out HQ.out).mono ?_); rintro e w1 ⟨v, rfl, rfl, rfl⟩)
      go_loopw [5, 6] (fun iv jv wr => ∃ (i j : Nat) (cur : List Nat), i < j ∧ j ≤ xs.length ∧ iv = .int .i64 i ∧ jv = .int .i64 j ∧ Hid (cur.length = xs.length) ∧ Hid (cur.drop j = xs.drop j) ∧ Hid (cur.take i = (xs.take j).filter fun s => !isR rt s) ∧
        wr.ownsRow base 3 1 (.slice (some ⟨g, 0, none⟩) xs.length cap) xs.length (cur.map eJ) ∧ Below base w wr) (fun _ jv _ => xs.length - (intOf jv).toNat)
      case atStart => exact ⟨m, m + 1, xs, by omega, by omega, rfl, by go_num, Lib.hid rfl, Lib.hid rfl, Lib.hid (by rw [take_filterN _ _ _ hm, HFM.out, HP.out]; simp), HO.out, Below.refl _ _⟩
      case round =>
        obtain ⟨i, j, cur, hij, hj, rfl, rfl, hcl, hdr, htk, hown, hb⟩ := hrel
        have HR := Lib.hid (show wr.cell? ⟨rb, 0, none⟩ = some (.int .i64 (rt : Nat)) from (World.cell?_of_block (a := ⟨rb, 0, none⟩) (hb.block rb hrb)).trans HR0.out)
        by_cases hjn : j < xs.length
        · have hjc : j < cur.length := by rw [hcl.out]; exact hjn
          have hic : i < cur.length := by omega
          have hxj : cur[j] = xs[j] := by
            have := hdr.out
            rw [List.drop_eq_getElem_cons hjc, List.drop_eq_getElem_cons hjn] at this
            injection this
          have h1 : wr.cell? ⟨g, j, none⟩ = some (.int .i64 (xs[j] : Nat)) := by have := (own_get hown hjc).1; rw [hxj] at this; exact this
          have hin : i < xs.length := by omega
          obtain ⟨u, -, hcu, hfr⟩ := own_at hown hin
          have HOW := Lib.hid hown
          have hdr1 : cur.drop (j + 1) = xs.drop (j + 1) := by
            have := hdr.out
            rw [List.drop_eq_getElem_cons hjc, List.drop_eq_getElem_cons hjn] at this
            injection this
          have HD1 := Lib.hid hdr1
          have htf := take_filterN (fun s => !isR rt s) xs j hjn
          cases hp : isR rt xs[j]
          · have HPP := Lib.hid hp
            rw [hp] at htf
            have HTF := Lib.hid htf
            clear hown hxj hdr1 htf hp
            go_wp2_with (go_at_call 73; (with_reducible refine (rooted1 _ xs[j] rt rb HR.out).mono ?_); rintro e w2 ⟨v, rfl, rfl, rfl⟩; rw [HPP.out])
            go_roundw
            case rel =>
              have R := fun (q : Value) (hq : q = eJ xs[j]) => own_put HOW.out hb HGB.out i xs[j] q hq
              refine ⟨i + 1, j + 1, cur.set i xs[j], by omega, by omega, by go_num, by go_num, Lib.hid (by rw [List.length_set]; exact hcl.out), Lib.hid ?_, Lib.hid ?_, (R _ rfl).1, (R _ rfl).2⟩
              · rw [List.drop_set_of_lt (by omega)]; exact HD1.out
              · rw [HTF.out, ← htk.out]
                have hi2 : i < (cur.set i xs[j]).length := by rw [List.length_set]; exact hic
                rw [List.take_succ_eq_append_getElem hi2, List.take_set_of_le (Nat.le_refl _), List.getElem_set_self]
                rfl
            case measure => simp [intOf]; omega
          · have HPP := Lib.hid hp
            rw [hp] at htf
            have HTF : Hid ((xs.take (j + 1)).filter (fun s => !isR rt s) = (xs.take j).filter fun s => !isR rt s) := Lib.hid (by rw [htf]; simp)
            clear hown hxj hdr1 htf hp
            go_wp2_with (go_at_call 73; (with_reducible refine (rooted1 _ xs[j] rt rb HR.out).mono ?_); rintro e w2 ⟨v, rfl, rfl, rfl⟩; rw [HPP.out])
            go_roundw
            case rel => exact ⟨i, j + 1, cur, by omega, by omega, rfl, by go_num, hcl, HD1, Lib.hid (by rw [HTF.out]; exact htk.out), HOW.out, hb⟩
            case measure => simp [intOf]; omega
        · obtain rfl : j = xs.length := by omega
          have hic : i < xs.length := hij
          have HOW := Lib.hid hown
          have HTK := Lib.hid (show cur.take i = xs.filter fun s => !isR rt s by have := htk.out; rwa [List.take_length] at this)
          have hcl2 : ∀ ty, (Builtin.clear_ #[36] ty #[.slice (some ⟨g, i, none⟩) (xs.length - i) (cap - i)]).run Tryz.prog wr = .ok (.tuple #[]) (wr.setCells g i (List.replicate (xs.length - i) (.int .i64 0))) := fun ty =>
            Lib.run_clear_slice wr _ _ ty _ Tryz.underlying36 (fun w => by kernel_rfl) rfl rfl g i _ _ (by omega) (fun t ht => by rw [(own_get hown (k := i + t) (by rw [hcl.out]; omega)).1]; rfl) (fun t ht => (own_get hown (k := i + t) (by rw [hcl.out]; omega)).2)
          have q1 : (0 : Int) ≤ (i : Int) := by omega
          have q2 : (i : Int) ≤ (xs.length : Int) := by omega
          have q3 : ¬ cap = i := by omega
          clear hown hcl hdr htk
          go_wp2
          go_ret
          have hcl3 : cur.length = xs.length := by have := HOW.out.1; simpa using this
          have hL : (xs.filter fun s => !isR rt s).length = i := by rw [← HTK.out, List.length_take]; omega
          refine ⟨_, rfl, ⟨some ⟨g, 0, none⟩, g, 0, cap, by rw [hL]; rfl, fun _ => rfl, by omega, hcm, fun h => absurd h (by simp), ⟨fun _ => by rw [size_scN]; exact (HOW.out.lt g rfl).2, fun t ht => ?_⟩⟩, below_scN HGB.out _ _ _ hb⟩
          have hti : t < i := by omega
          have htc : t < cur.length := by omega
          rw [Nat.zero_add, World.cell?_setCells_out g _ _ _ _ (fun _ _ => .inl hti), (own_get HOW.out htc).1]
          congr 2
          have : (xs.filter fun s => !isR rt s)[t] = (cur.take i)[t]'(by rw [HTK.out]; exact ht) := by simp only [HTK.out]
          rw [this, List.getElem_take]
/-- Where a number lies in a list, or -1. -/
def idxN (xs : List Nat) (x : Nat) : Int := if x ∈ xs then (xs.findIdx (isR x) : Int) else -1
set_option maxHeartbeats 1000000 in
theorem IndexN_any (w : World) (v : Value) (xs : List Nat) (x : Nat) (hv : Sl eJ w v xs) :
    Calls Tryz.prog 74 #[v, .int .i64 (x : Nat)] w (Rets fun r w' => r = .int .i64 (idxN xs x) ∧ w = w') := by
  obtain ⟨a, b, o, c, rfl, hi, hp, hc, hm⟩ := hv.open elemI
  clear hv
  unfold maxLen at hm
  by_cases hx : x ∈ xs
  · have hex : ∃ m : Nat, idxN xs x = (m : Int) ∧ ∃ hlt : m < xs.length, xs[m] = x ∧ ∀ j (hj : j < xs.length), j < m → xs[j] ≠ x := by
      have hlt : xs.findIdx (isR x) < xs.length := List.findIdx_lt_length_of_exists ⟨x, hx, by simp [isR]⟩
      refine ⟨xs.findIdx (isR x), by unfold idxN; rw [if_pos hx], hlt, ?_, fun j hj h e => ?_⟩
      · have := List.findIdx_getElem (w := hlt)
        simpa [isR] using this
      · have := List.not_of_lt_findIdx h
        simp [isR, e] at this
    obtain ⟨m, hix, hlt, hat, hbe⟩ := hex
    rw [hix]
    have HB := Lib.hid hbe; have HA := Lib.hid hat
    clear hx hbe hat hix
    go_enter Tryz.func74, Tryz.ntmps74
    go_wp2
    go_loop [8] (fun i => ∃ k : Nat, k ≤ m ∧ i = .int .i64 k) (fun i => xs.length - (intOf i).toNat)
    case atStart => exact ⟨0, Nat.zero_le _, rfl⟩
    case round =>
      obtain ⟨k, hk, rfl⟩ := hrel
      have hkn : k < xs.length := by omega
      have h1 : w.cell? ⟨b, o + k, none⟩ = some (.int .i64 (xs[k] : Nat)) := hp.2 k hkn
      have q1 : (0 : Int) ≤ (k : Int) := by omega
      have q2 : (k : Int) < (xs.length : Int) := by omega
      by_cases hkm : k < m
      · have hne : ((x : Int) == (xs[k] : Int)) = false := by have := HB.out k hkn hkm; simp; omega
        go_wp2
        go_round
        case rel => exact ⟨k + 1, by omega, by go_num⟩
        case measure => simp [intOf]; omega
      · obtain rfl : k = m := by omega
        have hne : ((x : Int) == (xs[k] : Int)) = true := by rw [HA.out]; simp
        go_wp2
        go_ret
        exact ⟨_, rfl, rfl, rfl⟩
  · have HX := Lib.hid (show idxN xs x = -1 by unfold idxN; rw [if_neg hx])
    have HB := Lib.hid (show ∀ j (hj : j < xs.length), xs[j] ≠ x from fun j hj e => hx (by rw [← e]; exact List.getElem_mem hj))
    rw [HX.out]
    clear hx HX
    go_enter Tryz.func74, Tryz.ntmps74
    go_wp2
    go_loop [8] (fun i => ∃ k : Nat, k ≤ xs.length ∧ i = .int .i64 k) (fun i => xs.length - (intOf i).toNat)
    case atStart => exact ⟨0, Nat.zero_le _, rfl⟩
    case round =>
      obtain ⟨k, hk, rfl⟩ := hrel
      by_cases hkn : k < xs.length
      · have h1 : w.cell? ⟨b, o + k, none⟩ = some (.int .i64 (xs[k] : Nat)) := hp.2 k hkn
        have q1 : (0 : Int) ≤ (k : Int) := by omega
        have q2 : (k : Int) < (xs.length : Int) := by omega
        have hne : ((x : Int) == (xs[k] : Int)) = false := by have := HB.out k hkn; simp; omega
        go_wp2
        go_round
        case rel => exact ⟨k + 1, by omega, by go_num⟩
        case measure => simp [intOf]; omega
      · obtain rfl : k = xs.length := by omega
        go_wp2
        go_ret
        exact ⟨_, rfl, rfl, rfl⟩
end Go.Proofs.YtlnhocgjgmhfgaaGreatDoor

namespace Go.Proofs.YtlnhocgjgmhfgaaGreatDoor
open Go.RowKit
set_option maxRecDepth 100000

/-- The number of single edges between two vertices. -/
def isB (a b : Nat) (x : Nat × Nat × Nat) : Bool := decide (x.1 = min a b ∧ x.2.1 = max a b)
def btw (a b : Nat) : List (Nat × Nat × Nat) → Nat
  | [] => 0
  | x :: l => if isB a b x then x.2.2 else btw a b l
theorem btw_drop (a b : Nat) (ns : List (Nat × Nat × Nat)) (k : Nat) (h : k < ns.length) : btw a b (ns.drop k) = if isB a b ns[k] then ns[k].2.2 else btw a b (ns.drop (k + 1)) := by
  rw [List.drop_eq_getElem_cons h]; rfl
theorem btw_le (a b : Nat) : ∀ ns : List (Nat × Nat × Nat), (∀ x ∈ ns, x.2.2 ≤ 50) → btw a b ns ≤ 50
  | [], _ => by simp [btw]
  | x :: l, h => by
    unfold btw
    split
    · exact h x (by simp)
    · exact btw_le a b l fun y hy => h y (by simp [hy])

set_option maxHeartbeats 2000000 in
theorem Between_any (w : World) (n : Int) (v : Value) (ns : List (Nat × Nat × Nat)) (a b : Nat) (hv : SlK e3 3 w v (ns.map n3)) :
    Calls Tryz.prog 67 #[.agg #[.int .i64 n, v], .int .i64 (a : Nat), .int .i64 (b : Nat)] w (Rets fun r w' => r = .int .i64 (btw a b ns : Nat) ∧ Below w.heap.size w w') := by
  obtain ⟨ad, bb, o, c, rfl, hi, hp, hc, hcm⟩ := hv.open elemEdge
  have hnl : (ns.map n3).length = ns.length := List.length_map _
  rw [hnl] at hi hc ⊢
  unfold maxLen at hcm
  have HNL := Lib.hid hnl
  have HQ := Lib.hid ((Below.refl w.heap.size w).alloc (Nat.le_refl _) (.cells #[.int .i64 n, .slice ad ns.length c] 24))
  have HG := Lib.hid (Blk.new w [.int .i64 n, .slice ad ns.length c] 24)
  obtain ⟨W, hW⟩ : ∃ W, w.alloc (.cells #[.int .i64 n, .slice ad ns.length c] 24) = W := ⟨_, rfl⟩
  rw [show [Value.int .i64 n, .slice ad ns.length c].toArray = #[Value.int .i64 n, .slice ad ns.length c] from rfl, hW] at HG
  rw [hW] at HQ
  have HW := Lib.hid hW
  clear hW hv hnl
  go_enter Tryz.func67, Tryz.ntmps67
  go_wp2
  rw [HW.out]
  go_loopw [7] (fun i wr => ∃ k : Nat, k ≤ ns.length ∧ i = .int .i64 k ∧ Hid (btw a b ns = btw a b (ns.drop k)) ∧ Hid (Below W.heap.size W wr)) (fun i _ => ns.length - (intOf i).toNat)
  case atStart => exact ⟨0, Nat.zero_le _, rfl, Lib.hid rfl, Lib.hid (Below.refl _ _)⟩
  case round =>
    obtain ⟨k, hk, rfl, hX, hB⟩ := hrel
    have hGr := HG.out.below hB.out (Nat.le_refl _)
    have g1 := hGr.cell 1 _ rfl
    have hlg := hGr.lt
    have hqw := HQ.out.trans (hB.out.mono HQ.out.size)
    have HQW := Lib.hid hqw
    clear hGr
    by_cases hkn : k < ns.length
    · have hkm : k < (ns.map n3).length := by rw [HNL.out]; exact hkn
      have hD := btw_drop a b ns k hkn
      obtain ⟨⟨p, q, m⟩, hx⟩ : ∃ x, ns[k] = x := ⟨_, rfl⟩
      have hx3 : (ns.map n3)[k] = n3 (p, q, m) := by rw [List.getElem_map, hx]
      have a0 : wr.cell? ⟨bb, o + k * 3, none⟩ = some (.int .i64 (p : Nat)) := hp.at hqw (Nat.le_refl _) k hkm 0 _ (by rw [hx3]; rfl)
      have a1 : wr.cell? ⟨bb, o + k * 3 + 1, none⟩ = some (.int .i64 (q : Nat)) := hp.at hqw (Nat.le_refl _) k hkm 1 _ (by rw [hx3]; rfl)
      have a2 : wr.cell? ⟨bb, o + k * 3 + 2, none⟩ = some (.int .i64 (m : Nat)) := hp.at hqw (Nat.le_refl _) k hkm 2 _ (by rw [hx3]; rfl)
      have hlb := (hp.below hqw (Nat.le_refl _)).1 (by omega)
      have q1 : (0 : Int) ≤ (k : Int) := by omega
      have q2 : (k : Int) < (ns.length : Int) := by omega
      rw [hx] at hD
      have HD := Lib.hid (hX.out.trans hD)
      clear hx hx3 hD hqw hkm
      by_cases h1 : p = min a b
      · have e1 : ((p : Int) == min (a : Int) (b : Int)) = true := by rw [beq_iff_eq]; omega
        by_cases h2 : q = max a b
        · have e2 : ((q : Int) == max (a : Int) (b : Int)) = true := by rw [beq_iff_eq]; omega
          have HF := Lib.hid (show btw a b ns = m by rw [HD.out, if_pos (by simp [isB, h1, h2])])
          clear h1 h2
          go_wp2
          go_ret
          exact ⟨_, rfl, by rw [HF.out]; rfl, HQW.out.alloc HQW.out.size _⟩
        · have e2 : ((q : Int) == max (a : Int) (b : Int)) = false := by rw [beq_eq_false_iff_ne]; omega
          have HF := Lib.hid (show btw a b ns = btw a b (ns.drop (k + 1)) by rw [HD.out, if_neg (by simp [isB, h2])])
          clear h1 h2
          go_wp2
          go_roundw
          case rel => exact ⟨k + 1, by omega, by go_num, HF, Lib.hid (hB.out.alloc hB.out.size _)⟩
          case measure => simp [intOf]; omega
      · have e1 : ((p : Int) == min (a : Int) (b : Int)) = false := by rw [beq_eq_false_iff_ne]; omega
        have HF := Lib.hid (show btw a b ns = btw a b (ns.drop (k + 1)) by rw [HD.out, if_neg (by simp [isB, h1])])
        clear h1
        go_wp2
        go_roundw
        case rel => exact ⟨k + 1, by omega, by go_num, HF, Lib.hid (hB.out.alloc hB.out.size _)⟩
        case measure => simp [intOf]; omega
    · obtain rfl : k = ns.length := by omega
      have HF := Lib.hid (show btw a b ns = 0 by rw [hX.out, List.drop_length]; rfl)
      clear hqw
      go_wp2
      go_ret
      exact ⟨_, rfl, by rw [HF.out]; rfl, HQW.out⟩
end Go.Proofs.YtlnhocgjgmhfgaaGreatDoor

namespace Go.Proofs.YtlnhocgjgmhfgaaGreatDoor
open Go.RowKit
set_option maxRecDepth 100000

/-- The single edges from the first k vertices to another one. -/
def valK (v : Nat) (ns : List (Nat × Nat × Nat)) : Nat → Nat
  | 0 => 0
  | k + 1 => valK v ns k + if k = v then 0 else btw k v ns
def degN (n v : Nat) (ns : List (Nat × Nat × Nat)) : Nat := valK v ns n + 2 * btw v v ns
theorem valK_le (v : Nat) (ns : List (Nat × Nat × Nat)) (h : ∀ x ∈ ns, x.2.2 ≤ 50) : ∀ k, valK v ns k ≤ 50 * k
  | 0 => by simp [valK]
  | k + 1 => by
    have h1 := valK_le v ns h k
    have h2 := btw_le k v ns h
    unfold valK
    split <;> omega

end Go.Proofs.YtlnhocgjgmhfgaaGreatDoor

namespace Go.Proofs.YtlnhocgjgmhfgaaGreatDoor
open Go.RowKit

/-- What one edge adds to a vertex's degree. -/
def dg1 (v : Nat) (x : Nat × Nat × Nat) : Nat := if x.1 = x.2.1 then (if x.1 = v then 2 * x.2.2 else 0) else (if x.1 = v then x.2.2 else 0) + (if x.2.1 = v then x.2.2 else 0)
theorem cnt_rep (p : Nat × Nat → Bool) (m : Nat) (x : Nat × Nat) : (List.replicate m x).countP p = if p x then m else 0 := by
  rw [List.countP_replicate]
theorem cntS_tw1 (v : Nat) (x : Nat × Nat × Nat) : (sgl (tw1 x)).countP (fun y => y.1 == v) = dg1 v x := by
  unfold tw1 dg1
  split
  · simp [sgl, cnt_rep]
  · simp [sgl, cnt_rep, List.countP_append]
theorem cntT_tw1 (v : Nat) (x : Nat × Nat × Nat) : (sgl (tw1 x)).countP (fun y => y.2 == v) = dg1 v x := by
  unfold tw1 dg1
  split
  · simp [sgl, cnt_rep]
  · simp [sgl, cnt_rep, List.countP_append]; omega
theorem sgl_app (a b : List (Nat × Nat × Nat)) : sgl (a ++ b) = sgl a ++ sgl b := by simp [sgl]
theorem cnt_tw (p : Nat × Nat → Bool) (f : Nat × Nat × Nat → Nat) (h : ∀ x, (sgl (tw1 x)).countP p = f x) : ∀ ns : List (Nat × Nat × Nat), (sgl (tw ns)).countP p = (ns.map f).sum
  | [] => rfl
  | x :: l => by
    have e : tw (x :: l) = tw1 x ++ tw l := by simp [tw]
    rw [e, sgl_app, List.countP_append, h, cnt_tw p f h l]; simp
theorem len_tw : ∀ ns : List (Nat × Nat × Nat), (sgl (tw ns)).length = 2 * (sgl ns).length
  | [] => rfl
  | x :: l => by
    have e : tw (x :: l) = tw1 x ++ tw l := by simp [tw]
    have e2 : sgl (x :: l) = List.replicate x.2.2 (x.1, x.2.1) ++ sgl l := by simp [sgl]
    rw [e, sgl_app, List.length_append, len_tw l, e2, List.length_append, List.length_replicate]
    unfold tw1
    split
    · simp [sgl]; omega
    · simp [sgl]; omega
/-- btw is a sum, when no two edges have the same ends. -/
theorem btw_none {a b : Nat} : ∀ {l : List (Nat × Nat × Nat)}, (∀ y ∈ l, isB a b y = false) → btw a b l = 0
  | [], _ => rfl
  | y :: l, h => by unfold btw; rw [h y (by simp)]; simp only [Bool.false_eq_true, if_false]; exact btw_none fun z hz => h z (by simp [hz])
theorem btw_eq (a b : Nat) (x : Nat × Nat × Nat) (l : List (Nat × Nat × Nat)) : btw a b (x :: l) = if isB a b x then x.2.2 else btw a b l := rfl
theorem btw_cons {a b : Nat} {x : Nat × Nat × Nat} {l : List (Nat × Nat × Nat)} (h : ∀ y ∈ l, x.1 < y.1 ∨ (x.1 = y.1 ∧ x.2.1 < y.2.1)) : btw a b (x :: l) = (if isB a b x then x.2.2 else 0) + btw a b l := by
  rw [btw_eq]
  split
  · rename_i hx
    rw [btw_none (a := a) (b := b) (l := l) (fun y hy => by
      have h1 := h y hy
      simp only [isB, decide_eq_true_eq] at hx
      simp only [isB, decide_eq_false_iff_not]
      omega)]
    rfl
  · rw [Nat.zero_add]
def oneK (v : Nat) (x : Nat × Nat × Nat) : Nat → Nat
  | 0 => 0
  | k + 1 => oneK v x k + if k = v then 0 else if isB k v x then x.2.2 else 0
theorem valK_cons {v : Nat} {x : Nat × Nat × Nat} {l : List (Nat × Nat × Nat)} (h : ∀ y ∈ l, x.1 < y.1 ∨ (x.1 = y.1 ∧ x.2.1 < y.2.1)) : ∀ k, valK v (x :: l) k = oneK v x k + valK v l k
  | 0 => rfl
  | k + 1 => by
    unfold valK oneK
    rw [valK_cons h k, btw_cons h]
    split <;> omega
theorem oneK_eq (v : Nat) (x : Nat × Nat × Nat) (hx : x.1 ≤ x.2.1) : ∀ k, oneK v x k = if x.1 = x.2.1 then 0 else (if x.1 = v ∧ x.2.1 < k then x.2.2 else 0) + (if x.2.1 = v ∧ x.1 < k then x.2.2 else 0)
  | 0 => by simp [oneK]
  | k + 1 => by
    unfold oneK
    rw [oneK_eq v x hx k]
    obtain ⟨a, b, m⟩ := x
    simp only at hx ⊢
    simp only [isB, decide_eq_true_eq]
    repeat' split
    all_goals omega
theorem degN_sum {n : Nat} (v : Nat) (hv : v < n) : ∀ {ns : List (Nat × Nat × Nat)}, (∀ x ∈ ns, x.1 < n ∧ x.2.1 < n ∧ x.1 ≤ x.2.1) → (ns.Pairwise fun x y => x.1 < y.1 ∨ (x.1 = y.1 ∧ x.2.1 < y.2.1)) → degN n v ns = (ns.map (dg1 v)).sum
  | [], _, _ => by
    have : ∀ k, valK v [] k = 0 := fun k => by
      induction k with
      | zero => rfl
      | succ k ih => unfold valK; rw [ih]; simp [btw]
    simp [degN, this, btw]
  | x :: l, hr, ha => by
    obtain ⟨h1, h2⟩ := List.pairwise_cons.1 ha
    have ih := degN_sum v hv (fun y hy => hr y (by simp [hy])) h2
    obtain ⟨r1, r2, r3⟩ := hr x (by simp)
    unfold degN at ih ⊢
    rw [valK_cons h1, btw_cons h1, oneK_eq v x r3, List.map_cons, List.sum_cons, ← ih]
    unfold dg1
    obtain ⟨a, b, m⟩ := x
    simp only at r1 r2 r3 ⊢
    simp only [isB, decide_eq_true_eq]
    repeat' split
    all_goals omega
end Go.Proofs.YtlnhocgjgmhfgaaGreatDoor
