/- Plain arithmetic: numbers as lists of digits in a base, the least one first. Nothing of the program is imported. Small words for the walks: a slice value that reads as a list. Slices of structs of k one-cell fields: read, owned, appended to. The contracts of the library's sort, comparison and copy at this translation: laid by the guide's own tools (lay-shelf, lay-plain), the wanted ones alone. The walks of cmp.Or at two ints, of the comparisons of pairs, and of the small tests of graphs. The check of a graph: what it answers; the walks of the program's and of the reference's. The walks of the reference's Vertex, edge and Check. The walks of the reference's Ends, Size, small, FewTrees of graphs. The library's sort at a slice of triples that the call owns. The walk of euler's TwoWay at right graphs. -/
import Derived.Test.YtlnhocgjgmhfgaaGreatDoorProg
import Derived.WalkKit
import Derived.WalkSpells
import Derived.WalkLawsBesides
import Derived.BigQuiet
import Derived.Deep.QuietTactic
import Derived.Deep.RegionHeld3
import Derived.Deep.RegionWith
import Derived.Deep.RegionLaw
import Derived.Deep.DeepFit
import Derived.Deep.DeepCutAuto
import Derived.Deep.CutBlock
import Derived.Deep.LoopGhost
import Derived.Handy
import Derived.IntWalk
import Derived.Lib.Hide
import Derived.Laws.CopyOwn
import Derived.Maps.AppendAt
import Derived.Shelf.Strings.Builder1
import Derived.Shelf.Strings.Builder2
import Derived.Shelf.Small.Bits
import Derived.Shelf.Strings.BuilderF
import Derived.Shelf.Strings.BuilderK
import Derived.Shelf.Strings.Builder2Cap
import Derived.Shelf.Strconv.Itoa0
import Derived.Shelf.Strings.Prefix
import Derived.Shelf.Bits.Mul64
import Derived.Shelf.Slices.Equal
import Derived.Ground.Names2Prog
import Derived.Shelf.Slices.Clone
import Derived.Shelf.Slices.SearchI
import Derived.Shelf.Slices.Empties2
import Derived.Ground.SlgnProg
import Derived.Shelf.SlicesE.Clone
import Derived.Ground.SlgcProg
import Derived.Shelf.SlicesG.Cmp
import Derived.Shelf.SlSortCmp.NoneTotal
import Derived.Ground.SlsfProg
namespace Go.Proofs.YtlnhocgjgmhfgaaGreatDoor

/-- The number with these digits, the least one first. -/
def val (B : Nat) : List Nat → Nat
  | [] => 0
  | a :: l => a + B * val B l

/-- The digits of a number, the least one first, no zero at the end. -/
def digs (B n : Nat) : List Nat :=
  if _h : 2 ≤ B ∧ 0 < n then n % B :: digs B (n / B) else []
termination_by n
decreasing_by exact Nat.div_lt_self _h.2 (by omega)

def trim (l : List Nat) : List Nat := (l.reverse.dropWhile (· == 0)).reverse

theorem trim_le (l : List Nat) : (trim l).length ≤ l.length := by
  unfold trim; have := (List.dropWhile_sublist (l := l.reverse) (· == 0)).length_le; simpa using this
theorem trim_nil : trim [] = [] := rfl
theorem trim_snoc_zero (l : List Nat) : trim (l ++ [0]) = trim l := by unfold trim; simp
theorem trim_snoc (l : List Nat) (a : Nat) (h : a ≠ 0) : trim (l ++ [a]) = l ++ [a] := by unfold trim; simp [h]
theorem list_snoc {α : Type} (l : List α) : l = [] ∨ ∃ m a, l = m ++ [a] := by
  rcases List.eq_nil_or_concat l with h | ⟨m, a, h⟩
  · exact .inl h
  · exact .inr ⟨m, a, by simpa using h⟩
theorem snoc_ind {α : Type} {P : List α → Prop} (h0 : P []) (hs : ∀ l a, P l → P (l ++ [a])) (l : List α) : P l := by
  have : ∀ n (l : List α), l.length = n → P l := by
    intro n
    induction n with
    | zero => intro l h; rw [List.length_eq_zero_iff.1 h]; exact h0
    | succ n ih =>
      intro l h
      rcases list_snoc l with rfl | ⟨m, a, rfl⟩
      · exact h0
      · exact hs m a (ih m (by simp at h; omega))
  exact this _ l rfl

theorem val_append (B : Nat) (l m : List Nat) : val B (l ++ m) = val B l + B ^ l.length * val B m := by
  induction l with
  | nil => simp [val]
  | cons a l ih => simp only [List.cons_append, val, ih, List.length_cons, Nat.pow_succ, Nat.mul_add]; rw [Nat.add_assoc]; congr 2; rw [Nat.mul_comm (B ^ l.length) B, Nat.mul_assoc]
theorem val_snoc (B : Nat) (l : List Nat) (a : Nat) : val B (l ++ [a]) = val B l + B ^ l.length * a := by
  rw [val_append]; simp [val]
theorem val_trim (B : Nat) (l : List Nat) : val B (trim l) = val B l := by
  refine snoc_ind (P := fun l => val B (trim l) = val B l) rfl (fun l a ih => ?_) l
  by_cases h : a = 0
  · subst h; rw [trim_snoc_zero, ih, val_snoc]; simp
  · rw [trim_snoc l a h]
theorem mem_trim {l : List Nat} {a : Nat} (h : a ∈ trim l) : a ∈ l := by
  unfold trim at h
  simp only [List.mem_reverse] at h
  simpa using (List.dropWhile_sublist (l := l.reverse) (· == 0)).subset h
theorem trim_last (l : List Nat) : (trim l).getLast? ≠ some 0 := by
  refine snoc_ind (P := fun l => (trim l).getLast? ≠ some 0) (by simp [trim]) (fun l a ih => ?_) l
  by_cases h : a = 0
  · subst h; rw [trim_snoc_zero]; exact ih
  · rw [trim_snoc l a h]; simp [h]

theorem val_lt (B : Nat) (l : List Nat) (h : ∀ a ∈ l, a < B) : val B l < B ^ l.length := by
  induction l with
  | nil => simp [val]
  | cons a l ih =>
    have h1 := h a (by simp)
    have h2 := ih (fun b hb => h b (by simp [hb]))
    simp only [val, List.length_cons, Nat.pow_succ]
    calc a + B * val B l < B + B * val B l := by omega
      _ = B * (val B l + 1) := by rw [Nat.mul_add, Nat.mul_one, Nat.add_comm]
      _ ≤ B * B ^ l.length := Nat.mul_le_mul_left _ h2
      _ = B ^ l.length * B := Nat.mul_comm _ _

theorem digs_zero (B : Nat) : digs B 0 = [] := by rw [digs]; simp
theorem digs_pos (B n : Nat) (hB : 2 ≤ B) (hn : 0 < n) : digs B n = n % B :: digs B (n / B) := by rw [digs]; simp [hB, hn]
theorem digs_cons (B a m : Nat) (hB : 2 ≤ B) (ha : a < B) (h : 0 < a + B * m) : digs B (a + B * m) = a :: digs B m := by
  rw [digs_pos B _ hB h, Nat.add_mul_mod_self_left, Nat.mod_eq_of_lt ha, Nat.add_mul_div_left _ _ (by omega), Nat.div_eq_of_lt ha, Nat.zero_add]

theorem val_digs (B n : Nat) (hB : 2 ≤ B) : val B (digs B n) = n := by
  induction n using Nat.strongRecOn with
  | _ n ih =>
    by_cases hn : n = 0
    · subst hn; rw [digs_zero]; rfl
    · rw [digs_pos B n hB (by omega), val, ih (n / B) (Nat.div_lt_self (by omega) (by omega)), Nat.mod_add_div]
theorem digs_lt (B n : Nat) (hB : 2 ≤ B) : ∀ a ∈ digs B n, a < B := by
  induction n using Nat.strongRecOn with
  | _ n ih =>
    by_cases hn : n = 0
    · subst hn; rw [digs_zero]; simp
    · rw [digs_pos B n hB (by omega)]
      intro a ha
      rcases List.mem_cons.1 ha with rfl | ha
      · exact Nat.mod_lt _ (by omega)
      · exact ih (n / B) (Nat.div_lt_self (by omega) (by omega)) a ha
theorem digs_nil {B n : Nat} (hB : 2 ≤ B) : digs B n = [] ↔ n = 0 := by
  constructor
  · intro h; have := val_digs B n hB; rw [h] at this; exact this.symm
  · rintro rfl; exact digs_zero B
/-- Digits below the base, none 0 at the end: these are the digits of their number. -/
theorem digs_val (B : Nat) (l : List Nat) (hB : 2 ≤ B) (h : ∀ a ∈ l, a < B) (hl : l.getLast? ≠ some 0) : digs B (val B l) = l := by
  induction l with
  | nil => simp [val, digs_zero]
  | cons a l ih =>
    have h1 := h a (by simp)
    have h2 : ∀ b ∈ l, b < B := fun b hb => h b (by simp [hb])
    by_cases hn : l = []
    · subst hn
      have ha : a ≠ 0 := by simpa using hl
      simp only [val, Nat.mul_zero, Nat.add_zero]
      rw [digs_pos B a hB (by omega), Nat.mod_eq_of_lt h1, Nat.div_eq_of_lt h1, digs_zero]
    · have hl' : l.getLast? ≠ some 0 := by rw [List.getLast?_cons] at hl; cases hg : l.getLast? with
        | none => simp
        | some b => rw [hg] at hl; simpa using hl
      have e := ih h2 hl'
      have hp : 0 < val B l := by
        rcases Nat.eq_zero_or_pos (val B l) with h0 | h0
        · rw [h0, digs_zero] at e; exact absurd e.symm hn
        · exact h0
      rw [val, digs_cons B a _ hB h1 (by have := Nat.mul_pos (show 0 < B by omega) hp; omega), e]
theorem digs_last (B n : Nat) (hB : 2 ≤ B) : (digs B n).getLast? ≠ some 0 := by
  induction n using Nat.strongRecOn with
  | _ n ih =>
    by_cases hn : n = 0
    · subst hn; rw [digs_zero]; simp
    · rw [digs_pos B n hB (by omega), List.getLast?_cons]
      have := ih (n / B) (Nat.div_lt_self (by omega) (by omega))
      cases hg : (digs B (n / B)).getLast? with
      | none =>
        have h0 : n / B = 0 := (digs_nil hB).1 (by simpa using hg)
        have h1 : n < B := by rcases Nat.lt_or_ge n B with h | h
                              · exact h
                              · have := Nat.div_pos h (by omega); omega
        simp [Nat.mod_eq_of_lt h1, hn]
      | some b => rw [hg] at this; simpa using this
theorem trim_eq (B : Nat) (l : List Nat) (hB : 2 ≤ B) (h : ∀ a ∈ l, a < B) : trim l = digs B (val B l) := by
  rw [← val_trim B l]
  exact (digs_val B (trim l) hB (fun a ha => h a (mem_trim ha)) (trim_last l)).symm
theorem trim_of (B : Nat) (l : List Nat) (n : Nat) (hB : 2 ≤ B) (h : ∀ a ∈ l, a < B) (hv : val B l = n) : trim l = digs B n := by
  rw [trim_eq B l hB h, hv]
theorem digs_len (B n k : Nat) (hB : 2 ≤ B) : (digs B n).length ≤ k ↔ n < B ^ k := by
  induction k generalizing n with
  | zero =>
    constructor
    · intro h; have := (digs_nil hB).1 (List.length_eq_zero_iff.1 (Nat.le_zero.1 h)); subst this; simp
    · intro h; have : n = 0 := by simpa using h
      subst this; simp [digs_zero]
  | succ k ih =>
    by_cases hn : n = 0
    · subst hn; simp only [digs_zero, List.length_nil, Nat.zero_le, true_iff]; exact Nat.pow_pos (by omega)
    · rw [digs_pos B n hB (by omega), List.length_cons, Nat.add_le_add_iff_right, ih, Nat.pow_succ, Nat.div_lt_iff_lt_mul (by omega)]
theorem lt_pow_len (B n : Nat) (hB : 2 ≤ B) : n < B ^ (digs B n).length := (digs_len B n _ hB).1 (Nat.le_refl _)
theorem pow_len_le (B n : Nat) (hB : 2 ≤ B) (hn : 0 < n) : B ^ ((digs B n).length - 1) ≤ n := by
  rcases Nat.lt_or_ge n (B ^ ((digs B n).length - 1)) with h | h
  · have h1 := (digs_len B n _ hB).2 h
    have : 0 < (digs B n).length := by
      rcases Nat.eq_zero_or_pos (digs B n).length with h0 | h0
      · have := (digs_nil hB).1 (List.length_eq_zero_iff.1 h0); omega
      · exact h0
    omega
  · exact h
theorem digs_len_add (B a b : Nat) (hB : 2 ≤ B) : (digs B (a + b)).length ≤ max (digs B a).length (digs B b).length + 1 := by
  rw [digs_len _ _ _ hB, Nat.pow_succ]
  have h1 := lt_pow_len B a hB
  have h2 := lt_pow_len B b hB
  have h3 : B ^ (digs B a).length ≤ B ^ max (digs B a).length (digs B b).length := Nat.pow_le_pow_right (by omega) (by omega)
  have h4 : B ^ (digs B b).length ≤ B ^ max (digs B a).length (digs B b).length := Nat.pow_le_pow_right (by omega) (by omega)
  have h5 := Nat.mul_le_mul_left (B ^ max (digs B a).length (digs B b).length) hB
  omega
theorem digs_len_mul (B a b : Nat) (hB : 2 ≤ B) : (digs B (a * b)).length ≤ (digs B a).length + (digs B b).length := by
  rw [digs_len _ _ _ hB, Nat.pow_add]
  have h1 := lt_pow_len B a hB
  have h2 := lt_pow_len B b hB
  exact Nat.mul_lt_mul'' h1 h2
theorem digs_len_mono (B : Nat) {a b : Nat} (hB : 2 ≤ B) (h : a ≤ b) : (digs B a).length ≤ (digs B b).length := by
  rw [digs_len _ _ _ hB]; exact Nat.lt_of_le_of_lt h (lt_pow_len B b hB)
end Go.Proofs.YtlnhocgjgmhfgaaGreatDoor

namespace Go.Proofs.YtlnhocgjgmhfgaaGreatDoor
open Go.RowKit

/-- The cells of a list, one cell an element. -/
def Cells {α : Type} (enc : α → Value) (w : World) (b o : Nat) (xs : List α) : Prop :=
  (0 < xs.length → b < w.heap.size) ∧ ∀ i (h : i < xs.length), w.cell? ⟨b, o + i, none⟩ = some (enc xs[i])

/-- The slice value v reads as the list xs, each element one cell. -/
def Sl {α : Type} (enc : α → Value) (w : World) (v : Value) (xs : List α) : Prop :=
  ∃ (a : Option Addr) (b o c : Nat), v = .slice a xs.length c ∧ (0 < xs.length → a = some ⟨b, o, none⟩) ∧ xs.length ≤ c ∧ c ≤ maxLen ∧ (a = none → c = 0) ∧ Cells enc w b o xs

/-- The call returns a value of which R holds. -/
def Rets (R : Value → World → Prop) (e : Ending) (w' : World) : Prop := ∃ v, e = .returned v ∧ R v w'

def eU (n : Nat) : Value := .int .u32 n
def eI (n : Nat) : Value := .int .i64 n
def eZ (n : Int) : Value := .int .i64 n
def eS (s : ByteArray) : Value := .string s

section
variable {α : Type} {enc : α → Value} {w w' : World} {v : Value} {xs : List α} {B b o : Nat}

theorem Cells.below (h : Cells enc w b o xs) (hb : Below B w w') (hB : w.heap.size ≤ B) : Cells enc w' b o xs :=
  ⟨fun h0 => Nat.lt_of_lt_of_le (h.1 h0) hb.size, fun i hi => by rw [hb.cell (show b < B from Nat.lt_of_lt_of_le (h.1 (by omega)) hB)]; exact h.2 i hi⟩
theorem Cells.at (h : Cells enc w b o xs) (hb : Below B w w') (hB : w.heap.size ≤ B) (i : Nat) (hi : i < xs.length) : w'.cell? ⟨b, o + i, none⟩ = some (enc xs[i]) := (h.below hb hB).2 i hi

theorem Sl.below (h : Sl enc w v xs) (hb : Below B w w') (hB : w.heap.size ≤ B) : Sl enc w' v xs := by
  obtain ⟨a, b, o, c, rfl, ha, hc, hm, hn, hx⟩ := h
  exact ⟨a, b, o, c, rfl, ha, hc, hm, hn, hx.below hb hB⟩
theorem Sl.len {a : Option Addr} {n c : Nat} (h : Sl enc w (.slice a n c) xs) : n = xs.length ∧ n ≤ c ∧ c ≤ maxLen := by
  obtain ⟨a', b, o, c', he, _, hc, hm, _⟩ := h
  cases he; exact ⟨rfl, hc, hm⟩
theorem Sl.take {a : Option Addr} {n c : Nat} (h : Sl enc w (.slice a n c) xs) (k : Nat) (hk : k ≤ n) : Sl enc w (.slice a k c) (xs.take k) := by
  obtain ⟨a', b, o, c', he, ha, hc, hm, hn, hx⟩ := h
  cases he
  have hl : (xs.take k).length = k := by simp; omega
  refine ⟨a, b, o, c, by rw [hl], fun h => ha (by omega), by omega, hm, hn, fun h => hx.1 (by omega), fun i hi => ?_⟩
  rw [hx.2 i (by omega)]; simp
theorem Sl.nil : Sl enc w (.slice none 0 0) [] :=
  ⟨none, 0, 0, 0, rfl, fun h => absurd h (by simp), by simp, by simp [maxLen], fun _ => rfl, fun h => absurd h (by simp), fun i hi => absurd hi (by simp)⟩
theorem addr0 (g i : Nat) : (⟨g, 0, none⟩ : Addr).add i = ⟨g, i, none⟩ := by unfold Addr.add; split <;> simp_all
theorem Sl.ofOwns {base e n : Nat} (h : w.ownsRow base e 1 v n (xs.map enc)) : Sl enc w v xs := by
  have hl : xs.length = n := by simpa using h.1
  subst hl
  rcases h.2 with ⟨rfl, h0⟩ | ⟨g, cap, cur, rfl, _, hg, hc, hm, hsz, ht⟩
  · obtain rfl : xs = [] := List.length_eq_zero_iff.1 h0
    exact Sl.nil
  · refine ⟨some ⟨g, 0, none⟩, g, 0, cap, rfl, fun _ => rfl, hc, hm, by simp, fun _ => (Array.getElem?_eq_some_iff.1 hg).1, fun i hi => ?_⟩
    have := h.cells (g := g) rfl i (enc xs[i]) (by simp [hi])
    rw [addr0] at this; simpa using this
theorem ownsRow_cast {base e sz n m : Nat} {ys zs : List Value} (h : w.ownsRow base e sz v n ys) (hn : n = m) (hy : ys = zs) : w.ownsRow base e sz v m zs := by subst hn; subst hy; exact h
end

/-- A list that is filled from its beginning: the next place is set. -/
theorem fill_set {α : Type} (os : List α) (n k : Nat) (z d : α) (ho : os.length = k) (hk : k < n) : (os ++ List.replicate (n - k) z).set k d = (os ++ [d]) ++ List.replicate (n - (k + 1)) z := by
  subst ho
  rw [List.set_append_right _ _ (Nat.le_refl _), Nat.sub_self, show n - os.length = (n - (os.length + 1)) + 1 from by omega, List.replicate_succ]
  simp
/-- A slice of one element, just built. -/
theorem Sl.single {α : Type} {enc : α → Value} (w : World) (x : α) (u : Value) (hu : u = enc x) (e : TypeId) : Sl enc (w.alloc (.cells #[u] e)) (.slice (some ⟨w.heap.size, 0, none⟩) 1 1) [x] := by
  subst hu
  exact Sl.ofOwns (n := 1) (base := 0) (e := e) ⟨rfl, .inr ⟨w.heap.size, 1, #[enc x], rfl, by omega, heap_alloc_new w _, by omega, by simp [maxLen], rfl, rfl⟩⟩
/-- What the walk wants of a place in an own row, before it is read or written. -/
theorem own_at {w : World} {base e g n cap k : Nat} {xs : List Value} (h : w.ownsRow base e 1 (.slice (some ⟨g, 0, none⟩) n cap) n xs) (hk : k < n) : ∃ u, xs[k]? = some u ∧ w.cell? ⟨g, k, none⟩ = some u ∧ w.frozen? ⟨g, k, none⟩ = false := by
  have hl : xs.length = n := by simpa using h.1
  have hk' : k < xs.length := by omega
  exact ⟨xs[k], List.getElem?_eq_getElem hk', by rw [h.cellAt k (by omega)]; exact List.getElem?_eq_getElem hk', h.frozenAt k⟩
theorem own_get {α : Type} {enc : α → Value} {w : World} {base e g n cap k : Nat} {xs : List α} (h : w.ownsRow base e 1 (.slice (some ⟨g, 0, none⟩) n cap) n (xs.map enc)) (hk : k < xs.length) : w.cell? ⟨g, k, none⟩ = some (enc xs[k]) ∧ w.frozen? ⟨g, k, none⟩ = false := by
  have hl : xs.length = n := by simpa using h.1
  exact ⟨by rw [h.cellAt k (by omega)]; simp [hk], h.frozenAt k⟩
theorem own_put {α : Type} {enc : α → Value} {w W : World} {base e g n cap B : Nat} {xs : List α} (h : w.ownsRow base e 1 (.slice (some ⟨g, 0, none⟩) n cap) n (xs.map enc)) (hb : Below B W w) (hg : B ≤ g) (k : Nat) (d : α) (u : Value) (hu : u = enc d) :
    (w.setCell ⟨g, k, none⟩ u).ownsRow base e 1 (.slice (some ⟨g, 0, none⟩) n cap) n ((xs.set k d).map enc) ∧ Below B W (w.setCell ⟨g, k, none⟩ u) := by
  rw [List.map_set, ← hu]
  exact ⟨(h.stored k u).1, hb.setCell hg u⟩
theorem own_set {w W : World} {base e g n cap B : Nat} {xs : List Value} (h : w.ownsRow base e 1 (.slice (some ⟨g, 0, none⟩) n cap) n xs) (hb : Below B W w) (hg : B ≤ g) (k : Nat) (u : Value) :
    (w.setCell ⟨g, k, none⟩ u).ownsRow base e 1 (.slice (some ⟨g, 0, none⟩) n cap) n (xs.set k u) ∧ Below B W (w.setCell ⟨g, k, none⟩ u) :=
  ⟨(h.stored k u).1, hb.setCell hg u⟩

/-- Old blocks are as they were in W; since w0 no block but g has turned. -/
def Kg (W w0 : World) (g : Nat) (w : World) : Prop := Below W.heap.size W w ∧ w0.grownBy w (some g)
theorem Kg.drewN {W w0 w : World} {g : Nat} (h : Kg W w0 g w) (n : Nat) : Kg W w0 g (w.drewN n) := ⟨below_drewN h.1 n, ⟨h.2.os, h.2.tape, h.2.output, h.2.size, h.2.block⟩⟩
theorem Kg.setCell {W w0 w : World} {g : Nat} (h : Kg W w0 g w) (hg : W.heap.size ≤ g) (k : Nat) (u : Value) : Kg W w0 g (w.setCell ⟨g, k, none⟩ u) :=
  ⟨h.1.setCell hg u, ⟨h.2.os, h.2.tape, h.2.output, by simpa [World.setCell] using h.2.size, fun i hi hne => by
    rw [Below.heap_setCell _ _ _ _ (show i ≠ g from fun e => hne (by rw [e]))]; exact h.2.block i hi hne⟩⟩
theorem own_putK {α : Type} {enc : α → Value} {w W w0 : World} {base e g n cap : Nat} {xs : List α} (h : w.ownsRow base e 1 (.slice (some ⟨g, 0, none⟩) n cap) n (xs.map enc)) (hk : Kg W w0 g w) (hg : W.heap.size ≤ g) (k : Nat) (d : α) (u : Value) (hu : u = enc d) :
    (w.setCell ⟨g, k, none⟩ u).ownsRow base e 1 (.slice (some ⟨g, 0, none⟩) n cap) n ((xs.set k d).map enc) ∧ Kg W w0 g (w.setCell ⟨g, k, none⟩ u) := by
  refine ⟨?_, hk.setCell hg k u⟩
  rw [List.map_set, ← hu]
  exact (h.stored k u).1
theorem own_kept {w w' : World} {base e g g' n cap : Nat} {xs : List Value} (h : w.ownsRow base e 1 (.slice (some ⟨g, 0, none⟩) n cap) n xs) (hk : w.grownBy w' (some g')) (hne : g ≠ g') : w'.ownsRow base e 1 (.slice (some ⟨g, 0, none⟩) n cap) n xs :=
  h.kept hk (.inr (by simpa [Value.ownBlock] using hne))
theorem own_below {w w' : World} {base e sz n B : Nat} {v : Value} {xs : List Value} (h : w.ownsRow base e sz v n xs) (hb : Below B w w') (hB : w.heap.size ≤ B) : w'.ownsRow base e sz v n xs := by
  refine ⟨h.1, ?_⟩
  rcases h.2 with hn | ⟨g, cap, cur, hv, hg, hh, r⟩
  · exact .inl hn
  · exact .inr ⟨g, cap, cur, hv, hg, by rw [hb.block g (Nat.lt_of_lt_of_le (Array.getElem?_eq_some_iff.1 hh).1 hB)]; exact hh, r⟩
theorem fill_own {α : Type} {enc : α → Value} {w W : World} {base e g n cap B k : Nat} {os : List α} {z : α} (h : w.ownsRow base e 1 (.slice (some ⟨g, 0, none⟩) n cap) n ((os ++ List.replicate (n - k) z).map enc)) (hb : Below B W w) (hg : B ≤ g)
    (ho : os.length = k) (hk : k < n) (d : α) (u : Value) (hu : u = enc d) :
    (w.setCell ⟨g, k, none⟩ u).ownsRow base e 1 (.slice (some ⟨g, 0, none⟩) n cap) n (((os ++ [d]) ++ List.replicate (n - (k + 1)) z).map enc) ∧ Below B W (w.setCell ⟨g, k, none⟩ u) := by
  have r := own_set h hb hg k u
  rw [hu, ← List.map_set, fill_set os n k z d ho hk, ← hu] at r
  exact r

/-- Block g holds these cells, none of them frozen. -/
def Blk (w : World) (g : Nat) (cs : List Value) (T : TypeId) : Prop := w.heap[g]? = some (.cells cs.toArray T (0, 0))
theorem Blk.new (w : World) (cs : List Value) (T : TypeId) : Blk (w.alloc (.cells cs.toArray T)) w.heap.size cs T := heap_alloc_new w _
theorem Blk.lt {w : World} {g : Nat} {cs : List Value} {T : TypeId} (h : Blk w g cs T) : g < w.heap.size := (Array.getElem?_eq_some_iff.1 h).1
theorem Blk.alloc {w : World} {g : Nat} {cs : List Value} {T : TypeId} (h : Blk w g cs T) (o : Obj) : Blk (w.alloc o) g cs T := (Below.heap_alloc w o g h.lt).trans h
theorem Blk.below {w w' : World} {g B : Nat} {cs : List Value} {T : TypeId} (h : Blk w g cs T) (hb : Below B w w') (hB : w.heap.size ≤ B) : Blk w' g cs T := (hb.block g (Nat.lt_of_lt_of_le h.lt hB)).trans h
theorem Blk.drewN {w : World} {g : Nat} {cs : List Value} {T : TypeId} (h : Blk w g cs T) (n : Nat) : Blk (w.drewN n) g cs T := h
theorem Blk.setCell {w : World} {g g' j : Nat} {cs : List Value} {T : TypeId} (h : Blk w g cs T) (hne : g ≠ g') (u : Value) : Blk (w.setCell ⟨g', j, none⟩ u) g cs T := (Below.heap_setCell _ _ _ _ hne).trans h
theorem Blk.set {w : World} {g : Nat} {cs : List Value} {T : TypeId} (h : Blk w g cs T) (j : Nat) (u : Value) : Blk (w.setCell ⟨g, j, none⟩ u) g (cs.set j u) T := by
  unfold Blk at *
  simp only [World.setCell, Array.getElem?_modify, h]
  simp
theorem Blk.cell {w : World} {g : Nat} {cs : List Value} {T : TypeId} (h : Blk w g cs T) (i : Nat) (v : Value) (hv : cs[i]? = some v) : w.cell? ⟨g, i, none⟩ = some v := by
  rw [cell_of_row w g i cs.toArray T (0, 0) h]; simpa using hv
theorem Blk.free {w : World} {g : Nat} {cs : List Value} {T : TypeId} (h : Blk w g cs T) (i : Nat) : w.frozen? ⟨g, i, none⟩ = false := frozen_of_row w g i cs.toArray T h

/-- A slice still reads so when a block that holds no such elements is written. -/
theorem Sl.set_other {α : Type} {enc : α → Value} {w : World} {v : Value} {xs : List α} {g j : Nat} {cs : List Value} {T : TypeId} (h : Sl enc w v xs) (hk : Blk w g cs T) (hne : ∀ c ∈ cs, ∀ x, c ≠ enc x) (u : Value) : Sl enc (w.setCell ⟨g, j, none⟩ u) v xs := by
  obtain ⟨a, b, o, c, rfl, ha, hc, hm, hn, hx⟩ := h
  refine ⟨a, b, o, c, rfl, ha, hc, hm, hn, fun h => by have := hx.1 h; simpa [World.setCell] using this, fun i hi => ?_⟩
  have h1 := hx.2 i hi
  by_cases e : b = g
  · exfalso
    subst e
    rw [cell_of_row w b (o + i) cs.toArray T (0, 0) hk] at h1
    have h2 : cs[o + i]? = some (enc xs[i]) := by simpa using h1
    exact hne _ (List.mem_of_getElem? h2) _ rfl
  · rw [← h1]
    exact World.cell?_of_block (w := w) (Below.heap_setCell _ _ _ _ e)

/-- What an index out of range comes to: not looked into. -/
def oob (P : Program) (t : TypeId) (v : Value) (i : Int) (W : World) : Result Value := (Instr.indexAt t v (.int .i64 i)).run P W
/-- The address of an element, of a slice of one-cell elements (or of its beginning). -/
theorem idx {P : Program} (t : TypeId) {a : Option Addr} {b o n c : Nat} (ht : P.underlying t = some (.slice (P.elem t))) (hs : ∀ W : World, (sizeOf (P.elem t)).run P W = .ok 1 W) (ha : 0 < n → a = some ⟨b, o, none⟩) :
    ∀ (m : Nat) (i : Int) (W : World), (Instr.indexAt t (.slice a m c) (.int .i64 i)).run P W = if 0 ≤ i ∧ i < m ∧ m ≤ n then .ok (.pointer (some ⟨b, o + i.toNat, none⟩)) W else oob P t (.slice a m c) i W := by
  intro m i W
  split
  · rename_i h
    rw [ha (by omega), run_indexAt_slice W t _ _ _ _ _ ht, if_pos ⟨h.1, h.2.1⟩, hs W]
    simp [Result.andThen_ok, Addr.add]
  · rfl

/-- A slice's type t, its elements' type e: zero value, cells, bytes. -/
structure ElemOk (P : Program) (t e : TypeId) (z : Value) (size bytes : Nat) : Prop where
  und : P.underlying t = some (.slice e)
  info : ∃ i, P.info? e = some i ∧ i.zero = some z ∧ i.size = size ∧ i.bytes = bytes
  cells : z.cells.size = size
  pos : 0 < size
  elem : P.elem t = e
  sz : ∀ W : World, (sizeOf e).run P W = .ok size W

/-- A slice of one-cell elements, opened: its value, the rule for its elements' addresses, its cells. -/
theorem Sl.open {α : Type} {enc : α → Value} {w : World} {v : Value} {xs : List α} {P : Program} {t e : TypeId} {z : Value} {bytes : Nat} (hE : ElemOk P t e z 1 bytes) (h : Sl enc w v xs) :
    ∃ (a : Option Addr) (b o c : Nat), v = .slice a xs.length c ∧
      (∀ (m : Nat) (i : Int) (W : World), (Instr.indexAt t (.slice a m c) (.int .i64 i)).run P W = if 0 ≤ i ∧ i < m ∧ m ≤ xs.length then .ok (.pointer (some ⟨b, o + i.toNat, none⟩)) W else oob P t (.slice a m c) i W) ∧
      Cells enc w b o xs ∧ xs.length ≤ c ∧ c ≤ maxLen := by
  obtain ⟨a, b, o, c, rfl, ha, hc, hm, hn, hx⟩ := h
  exact ⟨a, b, o, c, rfl, idx t (by rw [hE.elem]; exact hE.und) (by rw [hE.elem]; exact hE.sz) ha, hx, hc, hm⟩

section
variable {P : Program} {t e : TypeId} {z : Value} {size bytes : Nat} {ops : Array Oper} {rest : List Oper} {o : Oper} {a : Act} {Q : Exit → Act → World → Prop}

/-- 'out = append(out, x)', out nil or the call's own, x just laid in a new block. -/
theorem app1 (hE : ElemOk P t e z size bytes) (hgd : o.guard = none) (s x : Operand) (ho : o.op = .call { callee := .builtin .append, args := #[s, x], argTypes := #[t, t] })
    {v : Value} {n c base B : Nat} {xs news : List Value} {w0 W : World} (hs : a.eval s = v) (hx : a.eval x = .slice (some ⟨w0.heap.size, 0, none⟩) 1 c)
    (hown : w0.ownsRow base e size v n xs) (hb : Below B W w0) (hB : B ≤ base) (hbase : base ≤ w0.heap.size) (hl : news.length = size) (h1 : ∀ u ∈ news, u.oneCell' = true)
    (hn : (n + 1) * bytes ≤ 140737488355328) (hn' : n + 1 ≤ maxLen)
    (h : ∀ v' w', w'.ownsRow base e size v' (n + 1) (xs ++ news) → Below B W w' → wpList P ops Q rest (a.put o.dst v') w') :
    wpList P ops Q (o :: rest) a (w0.alloc (.cells news.toArray e)) := by
  obtain ⟨i, hi, hz, hsz, hby⟩ := hE.info
  refine wpList_append_own _ hgd s x t ho base e i z size bytes hE.und hi hz hsz hby hE.cells hE.pos v n xs hs (hown.alloc _) ⟨w0.heap.size, 0, none⟩ 1 c news hx (by simp [hl]) ?_ h1 hn' hn (by simp; omega) ?_
  · intro j u hj
    rw [addr0]
    have hj' : j < news.length := (List.getElem?_eq_some_iff.1 hj).1
    rw [cell_of_row _ w0.heap.size j news.toArray e (0, 0) (heap_alloc_new w0 _)]
    simpa using hj
  · intro v' w' ho' hg _
    exact h v' w' ho' ((hb.alloc (by omega) _).grown hg (by simp; omega) (fun j hj => by have := (hown.lt j hj).1; omega))

/-- 'make([]T, 0, n)'. -/
theorem mk0 (hE : ElemOk P t e z size bytes) (hgd : o.guard = none) (l c : Operand) (ho : o.op = Op.makeSlice t l c) {w W : World} {B : Nat} (n : Nat) {kl kc : IntKind} {C : Int}
    (hl : a.eval l = .int kl 0) (hc : a.eval c = .int kc C) (hC : C = (n : Int)) (hn : bytes * n ≤ 281474976710656) (hn' : n ≤ maxLen) (hb : Below B W w) (hB : B ≤ w.heap.size)
    (h : ∀ w', w'.ownsRow w.heap.size e size (.slice (some ⟨w.heap.size, 0, none⟩) 0 n) 0 [] → Below B W w' → Below w.heap.size w w' → wpList P ops Q rest (a.put o.dst (.slice (some ⟨w.heap.size, 0, none⟩) 0 n)) w') :
    wpList P ops Q (o :: rest) a w := by
  obtain ⟨i, hi, hz, hsz, hby⟩ := hE.info
  refine wpList_make_own w hgd l c t ho w.heap.size e i z size hE.und hi hz hsz kl kc C n hl hc hC (by rw [hby]; exact hn) hn' (Nat.le_refl _) fun w' h1 h2 => ?_
  exact h w' h1 (hb.grown h2 hB (fun _ h => by cases h)) ((Below.refl _ w).grown h2 (Nat.le_refl _) (fun _ h => by cases h))

/-- 'copy(out, src)', out the call's own, src no longer than out. -/
theorem copy1 (hE : ElemOk P t e z 1 bytes) (hgd : o.guard = none) (d s : Operand) (ho : o.op = .call { callee := .builtin .copy, args := #[d, s], argTypes := #[t, t] })
    {α : Type} {enc : α → Value} {sv : Value} {g n cap base B : Nat} {D xs : List α} {w W : World} (hd : a.eval d = .slice (some ⟨g, 0, none⟩) n cap) (hs : a.eval s = sv)
    (hown : w.ownsRow base e 1 (.slice (some ⟨g, 0, none⟩) n cap) n (D.map enc)) (hsl : Sl enc w sv xs) (hle : xs.length ≤ n) (h1 : ∀ x, (enc x).oneCell' = true) (hb : Below B W w) (hg : B ≤ g)
    (h : ∀ w', w'.ownsRow base e 1 (.slice (some ⟨g, 0, none⟩) n cap) n ((xs ++ D.drop xs.length).map enc) → Below B W w' → wpList P ops Q rest (a.put o.dst (goInt xs.length)) w') :
    wpList P ops Q (o :: rest) a w := by
  obtain ⟨i, hi, hz, hsz, hby⟩ := hE.info
  obtain ⟨sa, sb, so, sc, rfl, hsa, hsc, hsm, hsn, hcells⟩ := hsl
  have hl : D.length = n := by simpa using hown.1
  rcases hown.2 with ⟨hv, _⟩ | ⟨g', cap', cur, hv, hbg, hgg, hnc, hcm, hcs, htake⟩
  · cases hv
  · cases hv
    have hcur : cur.toList.take n = D.map enc := by simpa using htake
    have hsz' : cur.toList.length = cap := by simpa using hcs
    refine wpList_copy_splice hgd d s t t ho e hE.und (by rw [hi]; simp [hsz]) (some ⟨g, 0, none⟩) sa n cap xs.length sc hd hs g 0 cur.toList e (by simpa using hgg) (xs.map enc)
      (by simp [Nat.min_eq_left hle]) ?_ (by simp; omega) (by intro v hv; obtain ⟨x, _, rfl⟩ := List.mem_map.1 hv; exact h1 x) B W hb hg ?_
    · intro hp
      refine ⟨rfl, ⟨sb, so, none⟩, hsa (by simpa using hp), fun j v hj => ?_⟩
      rw [List.getElem?_map] at hj
      cases hx : xs[j]? with
      | none => rw [hx] at hj; simp at hj
      | some x =>
        rw [hx] at hj
        have hj' : j < xs.length := (List.getElem?_eq_some_iff.1 hx).1
        have e2 : (⟨sb, so, none⟩ : Addr).add j = ⟨sb, so + j, none⟩ := by unfold Addr.add; split <;> simp_all
        rw [e2, hcells.2 j hj', ← hj, (List.getElem?_eq_some_iff.1 hx).2]; rfl
    · intro w' hh hb'
      have := h w' ?_ hb'
      · simpa using this
      · refine ⟨by simp; omega, .inr ⟨g, cap, _, rfl, hbg, hh.out, hnc, hcm, ?_, ?_⟩⟩
        · simp [splice]; omega
        · simp only [splice, List.take_zero, List.nil_append, Nat.zero_add, Nat.mul_one, List.length_map, List.map_append, List.map_drop]
          rw [List.take_append, List.length_map, List.take_of_length_le (by simp; omega), ← List.drop_take, hcur]

/-- 'make([]T, n)', one cell an element. -/
theorem mkN (hE : ElemOk P t e z 1 bytes) (hgd : o.guard = none) (l c : Operand) (ho : o.op = Op.makeSlice t l c) {w W : World} {B : Nat} (n : Nat) {kl kc : IntKind} {L C : Int}
    (hl : a.eval l = .int kl L) (hc : a.eval c = .int kc C) (hL : L = (n : Int)) (hC : C = (n : Int)) (hn : bytes * n ≤ 281474976710656) (hn' : n ≤ maxLen) (hb : Below B W w) (hB : B ≤ w.heap.size) (hz1 : z.cells = #[z])
    (h : ∀ w', w'.ownsRow w.heap.size e 1 (.slice (some ⟨w.heap.size, 0, none⟩) n n) n (List.replicate n z) → Below B W w' → Below w.heap.size w w' → wpList P ops Q rest (a.put o.dst (.slice (some ⟨w.heap.size, 0, none⟩) n n)) w') :
    wpList P ops Q (o :: rest) a w := by
  obtain ⟨i, hi, hz, hsz, hby⟩ := hE.info
  refine wpList_make_full w hgd l c t ho w.heap.size e i z 1 hE.und hi hz hsz kl kc L C n hl hc hL hC (by rw [hby]; exact hn) hn' (Nat.le_refl _) fun w' h1 h2 => ?_
  refine h w' (ownsRow_cast h1 rfl ?_) (hb.grown h2 hB (fun _ h => by cases h)) ((Below.refl _ w).grown h2 (Nat.le_refl _) (fun _ h => by cases h))
  rw [hz1, Nat.mul_one]
  apply List.ext_getElem <;> simp [madeCells, Nat.mod_one]
end

theorem elemNat : ElemOk Tryz.prog 136 150 (.int .u32 0) 1 4 :=
  ⟨Tryz.underlying136, info_parts (by kernel_rfl : (Tryz.prog.info? 150).map (fun i => (i.zero, i.size, i.bytes)) = some (some (.int .u32 0), 1, 4)), rfl, by decide, by kernel_rfl, fun _ => by kernel_rfl⟩
end Go.Proofs.YtlnhocgjgmhfgaaGreatDoor

namespace Go.Proofs.YtlnhocgjgmhfgaaGreatDoor
open Go.RowKit
set_option maxRecDepth 100000

/-- The cells of a list, k cells an element. -/
def CellsK {α : Type} (enc : α → List Value) (k : Nat) (w : World) (b o : Nat) (xs : List α) : Prop :=
  (0 < xs.length → b < w.heap.size) ∧ ∀ i (h : i < xs.length) j v, (enc xs[i])[j]? = some v → w.cell? ⟨b, o + i * k + j, none⟩ = some v
/-- The slice value v reads as the list xs, each element k cells. -/
def SlK {α : Type} (enc : α → List Value) (k : Nat) (w : World) (v : Value) (xs : List α) : Prop :=
  ∃ (a : Option Addr) (b o c : Nat), v = .slice a xs.length c ∧ (0 < xs.length → a = some ⟨b, o, none⟩) ∧ xs.length ≤ c ∧ c ≤ maxLen ∧ (a = none → c = 0) ∧ CellsK enc k w b o xs
section
variable {α : Type} {enc : α → List Value} {k : Nat} {w w' : World} {v : Value} {xs : List α} {B b o : Nat}
theorem CellsK.below (h : CellsK enc k w b o xs) (hb : Below B w w') (hB : w.heap.size ≤ B) : CellsK enc k w' b o xs :=
  ⟨fun h0 => Nat.lt_of_lt_of_le (h.1 h0) hb.size, fun i hi j u hu => by rw [hb.cell (show b < B from Nat.lt_of_lt_of_le (h.1 (by omega)) hB)]; exact h.2 i hi j u hu⟩
theorem CellsK.at (h : CellsK enc k w b o xs) (hb : Below B w w') (hB : w.heap.size ≤ B) (i : Nat) (hi : i < xs.length) (j : Nat) (u : Value) (hu : (enc xs[i])[j]? = some u) : w'.cell? ⟨b, o + i * k + j, none⟩ = some u := (h.below hb hB).2 i hi j u hu
theorem SlK.below (h : SlK enc k w v xs) (hb : Below B w w') (hB : w.heap.size ≤ B) : SlK enc k w' v xs := by
  obtain ⟨a, b, o, c, rfl, ha, hc, hm, hn, hx⟩ := h
  exact ⟨a, b, o, c, rfl, ha, hc, hm, hn, hx.below hb hB⟩
theorem SlK.nil : SlK enc k w (.slice none 0 0) [] :=
  ⟨none, 0, 0, 0, rfl, fun h => absurd h (by simp), by simp, by simp [maxLen], fun _ => rfl, fun h => absurd h (by simp), fun i hi => absurd hi (by simp)⟩
theorem SlK.form (h : SlK enc k w v xs) : ∃ a c, v = .slice a xs.length c := by
  obtain ⟨a, b, o, c, rfl, -⟩ := h
  exact ⟨a, c, rfl⟩
theorem SlK.len (h : SlK enc k w v xs) : xs.length ≤ maxLen := by
  obtain ⟨a, b, o, c, rfl, ha, hc, hm, hn, hx⟩ := h
  omega
theorem flat_len (hk : ∀ x, (enc x).length = k) : ∀ xs : List α, (xs.flatMap enc).length = xs.length * k
  | [] => by simp
  | x :: xs => by rw [List.flatMap_cons, List.length_append, hk, flat_len hk xs, List.length_cons, Nat.add_mul, Nat.one_mul, Nat.add_comm]
theorem flat_get (hk : ∀ x, (enc x).length = k) : ∀ (xs : List α) (i : Nat) (h : i < xs.length) (j : Nat), j < k → (xs.flatMap enc)[i * k + j]? = (enc xs[i])[j]?
  | x :: xs, 0, _, j, hj => by
    rw [List.flatMap_cons, Nat.zero_mul, Nat.zero_add, List.getElem?_append_left (by rw [hk]; exact hj)]; rfl
  | x :: xs, i + 1, h, j, hj => by
    rw [List.flatMap_cons, List.getElem?_append_right (by rw [hk, Nat.add_mul]; omega), hk, show (i + 1) * k + j - k = i * k + j by rw [Nat.add_mul]; omega]
    rw [flat_get hk xs i (by simpa using h) j hj]
    simp only [List.getElem_cons_succ]
theorem ownsRow_size {base e n size : Nat} {ys : List Value} (h : w.ownsRow base e size v n ys) : ys.length = n * size := h.1
theorem ownK_at {base e n g cap : Nat} (hk : ∀ x, (enc x).length = k) (h : w.ownsRow base e k (.slice (some ⟨g, 0, none⟩) n cap) n (xs.flatMap enc)) (i : Nat) (hi : i < xs.length) (j : Nat) (u : Value) (hu : (enc xs[i])[j]? = some u) : w.cell? ⟨g, i * k + j, none⟩ = some u := by
  have hj : j < k := by rw [← hk xs[i]]; exact (List.getElem?_eq_some_iff.1 hu).1
  have := h.cells (g := g) rfl (i * k + j) u (by rw [flat_get hk xs i hi j hj]; exact hu)
  rwa [addr0] at this
theorem SlK.ofOwns {base e n : Nat} (hk : ∀ x, (enc x).length = k) (h : w.ownsRow base e k v n (xs.flatMap enc)) (hn : n = xs.length) : SlK enc k w v xs := by
  subst hn
  rcases h.2 with ⟨rfl, h0⟩ | ⟨g, cap, cur, rfl, hb, hg, hc, hm, hsz, ht⟩
  · obtain rfl : xs = [] := by
      cases xs with
      | nil => rfl
      | cons x xs =>
        simp at h0
    exact SlK.nil
  · exact ⟨some ⟨g, 0, none⟩, g, 0, cap, rfl, fun _ => rfl, hc, hm, by simp, fun _ => (Array.getElem?_eq_some_iff.1 hg).1, fun i hi j u hu => by rw [Nat.zero_add]; exact ownK_at hk h i hi j u hu⟩
theorem idxK {P : Program} (t : TypeId) {a : Option Addr} {b o n c k : Nat} (ht : P.underlying t = some (.slice (P.elem t))) (hs : ∀ W : World, (sizeOf (P.elem t)).run P W = .ok k W) (ha : 0 < n → a = some ⟨b, o, none⟩) :
    ∀ (m : Nat) (i : Int) (W : World), (Instr.indexAt t (.slice a m c) (.int .i64 i)).run P W = if 0 ≤ i ∧ i < m ∧ m ≤ n then .ok (.pointer (some ⟨b, o + i.toNat * k, none⟩)) W else oob P t (.slice a m c) i W := by
  intro m i W
  split
  · rename_i h
    rw [ha (by omega), run_indexAt_slice W t _ _ _ _ _ ht, if_pos ⟨h.1, h.2.1⟩, hs W]
    simp only [Result.andThen_ok, Addr.add]
    split
    · rename_i h0; rw [h0, Nat.add_zero]
    · rfl
  · rfl
/-- A slice of elements of k cells, opened: its value, the rule for its elements' addresses, its cells. -/
theorem SlK.open {P : Program} {t e : TypeId} {z : Value} {bytes : Nat} (hE : ElemOk P t e z k bytes) (h : SlK enc k w v xs) :
    ∃ (a : Option Addr) (b o c : Nat), v = .slice a xs.length c ∧
      (∀ (m : Nat) (i : Int) (W : World), (Instr.indexAt t (.slice a m c) (.int .i64 i)).run P W = if 0 ≤ i ∧ i < m ∧ m ≤ xs.length then .ok (.pointer (some ⟨b, o + i.toNat * k, none⟩)) W else oob P t (.slice a m c) i W) ∧
      CellsK enc k w b o xs ∧ xs.length ≤ c ∧ c ≤ maxLen := by
  obtain ⟨a, b, o, c, rfl, ha, hc, hm, hn, hx⟩ := h
  exact ⟨a, b, o, c, rfl, idxK t (by rw [hE.elem]; exact hE.und) (by rw [hE.elem]; exact hE.sz) ha, hx, hc, hm⟩
end

section
variable {P : Program} {t e : TypeId} {z : Value} {size bytes : Nat} {ops : Array Oper} {rest : List Oper} {o : Oper} {a : Act} {Q : Exit → Act → World → Prop} {K : Act → World → Prop} {E : Prop}
/-- 'append(out, x, ..)' as one operation: m elements that were just laid in a new block; what turned is the own row alone. -/
theorem appMw (hE : ElemOk P t e z size bytes) (s x : Operand) (ho : o.op = .call { callee := .builtin .append, args := #[s, x], argTypes := #[t, t] })
    {v : Value} {n m c base B : Nat} {xs news : List Value} {w0 W : World} (hs : a.eval s = v) (hx : a.eval x = .slice (some ⟨w0.heap.size, 0, none⟩) m c)
    (hown : w0.ownsRow base e size v n xs) (hb : Below B W w0) (hB : B ≤ base) (hbase : base ≤ w0.heap.size) (hl : news.length = m * size) (h1 : ∀ u ∈ news, u.oneCell' = true)
    (hn : (n + m) * bytes ≤ 140737488355328) (hn' : n + m ≤ maxLen)
    (h : ∀ v' w', w'.ownsRow base e size v' (n + m) (xs ++ news) → Below B W w' → K (a.put o.dst v') w') :
    Oper.wp P o a (w0.alloc (.cells news.toArray e)) K Q := by
  obtain ⟨i, hi, hz, hsz, hby⟩ := hE.info
  refine wp_append_own _ s x t ho base e i z size bytes hE.und hi hz hsz hby hE.cells hE.pos v n xs hs (hown.alloc _) ⟨w0.heap.size, 0, none⟩ m c news hx (by rw [hl]) ?_ h1 hn' hn (by simp; omega) ?_
  · intro j u hj
    rw [addr0]
    rw [cell_of_row _ w0.heap.size j news.toArray e (0, 0) (heap_alloc_new w0 _)]
    simpa using hj
  · intro v' w' ho' hg _
    exact h v' w' ho' ((hb.alloc (by omega) _).grown hg (by simp; omega) (fun j hj => by have := (hown.lt j hj).1; omega))
theorem appM_step (hE : ElemOk P t e z size bytes) (hgd : o.guard = none) (s x : Operand) (ho : o.op = .call { callee := .builtin .append, args := #[s, x], argTypes := #[t, t] })
    {v : Value} {n m c base B : Nat} {xs news : List Value} {w0 W : World} (hs : a.eval s = v) (hx : a.eval x = .slice (some ⟨w0.heap.size, 0, none⟩) m c)
    (hown : w0.ownsRow base e size v n xs) (hb : Below B W w0) (hB : B ≤ base) (hbase : base ≤ w0.heap.size) (hl : news.length = m * size) (h1 : ∀ u ∈ news, u.oneCell' = true)
    (hn : (n + m) * bytes ≤ 140737488355328) (hn' : n + m ≤ maxLen)
    (h : ∀ v' w', w'.ownsRow base e size v' (n + m) (xs ++ news) → Below B W w' → K (a.put o.dst v') w') :
    if Region.wanted o (yielded ops a.tmps) = true then Oper.wp P o a (w0.alloc (.cells news.toArray e)) K Q else E := by
  rw [if_pos (by simp [Region.wanted, hgd])]
  exact appMw hE s x ho hs hx hown hb hB hbase hl h1 hn hn' h
theorem appM (hE : ElemOk P t e z size bytes) (hgd : o.guard = none) (s x : Operand) (ho : o.op = .call { callee := .builtin .append, args := #[s, x], argTypes := #[t, t] })
    {v : Value} {n m c base B : Nat} {xs news : List Value} {w0 W : World} (hs : a.eval s = v) (hx : a.eval x = .slice (some ⟨w0.heap.size, 0, none⟩) m c)
    (hown : w0.ownsRow base e size v n xs) (hb : Below B W w0) (hB : B ≤ base) (hbase : base ≤ w0.heap.size) (hl : news.length = m * size) (h1 : ∀ u ∈ news, u.oneCell' = true)
    (hn : (n + m) * bytes ≤ 140737488355328) (hn' : n + m ≤ maxLen)
    (h : ∀ v' w', w'.ownsRow base e size v' (n + m) (xs ++ news) → Below B W w' → wpList P ops Q rest (a.put o.dst v') w') :
    wpList P ops Q (o :: rest) a (w0.alloc (.cells news.toArray e)) := by
  obtain ⟨i, hi, hz, hsz, hby⟩ := hE.info
  refine wpList_append_own _ hgd s x t ho base e i z size bytes hE.und hi hz hsz hby hE.cells hE.pos v n xs hs (hown.alloc _) ⟨w0.heap.size, 0, none⟩ m c news hx (by rw [hl]) ?_ h1 hn' hn (by simp; omega) ?_
  · intro j u hj
    rw [addr0]
    rw [cell_of_row _ w0.heap.size j news.toArray e (0, 0) (heap_alloc_new w0 _)]
    simpa using hj
  · intro v' w' ho' hg _
    exact h v' w' ho' ((hb.alloc (by omega) _).grown hg (by simp; omega) (fun j hj => by have := (hown.lt j hj).1; omega))
end

/-- Three ints, two ints. -/
def e3 (x : Int × Int × Int) : List Value := [.int .i64 x.1, .int .i64 x.2.1, .int .i64 x.2.2]
def e2 (x : Int × Int) : List Value := [.int .i64 x.1, .int .i64 x.2]
theorem e3_len (x : Int × Int × Int) : (e3 x).length = 3 := rfl
theorem e2_len (x : Int × Int) : (e2 x).length = 2 := rfl
theorem e3_one (x : Int × Int × Int) : ∀ u ∈ e3 x, u.oneCell' = true := by intro u hu; simp [e3] at hu; rcases hu with rfl | rfl | rfl <;> rfl
theorem e2_one (x : Int × Int) : ∀ u ∈ e2 x, u.oneCell' = true := by intro u hu; simp [e2] at hu; rcases hu with rfl | rfl <;> rfl
theorem elemEdge : ElemOk Tryz.prog 22 81 (.agg #[.int .i64 0, .int .i64 0, .int .i64 0]) 3 24 :=
  ⟨Tryz.underlying22, info_parts (by kernel_rfl : (Tryz.prog.info? 81).map (fun i => (i.zero, i.size, i.bytes)) = some (some (.agg #[.int .i64 0, .int .i64 0, .int .i64 0]), 3, 24)), rfl, by decide, by kernel_rfl, fun _ => by kernel_rfl⟩
theorem elemArc : ElemOk Tryz.prog 26 83 (.agg #[.int .i64 0, .int .i64 0, .int .i64 0]) 3 24 :=
  ⟨Tryz.underlying26, info_parts (by kernel_rfl : (Tryz.prog.info? 83).map (fun i => (i.zero, i.size, i.bytes)) = some (some (.agg #[.int .i64 0, .int .i64 0, .int .i64 0]), 3, 24)), rfl, by decide, by kernel_rfl, fun _ => by kernel_rfl⟩
theorem elemEnds : ElemOk Tryz.prog 54 60 (.agg #[.int .i64 0, .int .i64 0]) 2 16 :=
  ⟨Tryz.underlying54, info_parts (by kernel_rfl : (Tryz.prog.info? 60).map (fun i => (i.zero, i.size, i.bytes)) = some (some (.agg #[.int .i64 0, .int .i64 0]), 2, 16)), rfl, by decide, by kernel_rfl, fun _ => by kernel_rfl⟩
theorem elemI : ElemOk Tryz.prog 36 3 (.int .i64 0) 1 8 :=
  ⟨Tryz.underlying36, info_parts (by kernel_rfl : (Tryz.prog.info? 3).map (fun i => (i.zero, i.size, i.bytes)) = some (some (.int .i64 0), 1, 8)), rfl, by decide, by kernel_rfl, fun _ => by kernel_rfl⟩
theorem elemII : ElemOk Tryz.prog 88 36 (.slice none 0 0) 1 24 :=
  ⟨Tryz.underlying88, info_parts (by kernel_rfl : (Tryz.prog.info? 36).map (fun i => (i.zero, i.size, i.bytes)) = some (some (.slice none 0 0), 1, 24)), rfl, by decide, by kernel_rfl, fun _ => by kernel_rfl⟩
theorem elemB : ElemOk Tryz.prog 102 4 (.bool false) 1 1 :=
  ⟨Tryz.underlying102, info_parts (by kernel_rfl : (Tryz.prog.info? 4).map (fun i => (i.zero, i.size, i.bytes)) = some (some (.bool false), 1, 1)), rfl, by decide, by kernel_rfl, fun _ => by kernel_rfl⟩
end Go.Proofs.YtlnhocgjgmhfgaaGreatDoor

namespace Go.Proofs
open Go.Shelf
def Tryz.laysNm215_ren : Go.Shelf.Ren := ⟨fun | 15 => 44 | n => n, fun | 22 => 36 | 3 => 3 | 4 => 4 | n => n, fun | n => n⟩
theorem Tryz.laysNm215 : Go.Proofs.Lays2.n15 Tryz.prog Tryz.laysNm215_ren := {
  mixed := by kernel_rfl
  f15 := Tryz.func44.trans (congrArg some (by kernel_rfl))
  t3 := Tryz.underlying3
  a3 := Tryz.isAgg3
  z3 := Tryz.sizeOf3
  v3 := Tryz.zeroValue3
  t4 := Tryz.underlying4
  a4 := Tryz.isAgg4
  z4 := Tryz.sizeOf4
  v4 := Tryz.zeroValue4
  t22 := Tryz.underlying36
  a22 := Tryz.isAgg36
  z22 := Tryz.sizeOf36
  v22 := Tryz.zeroValue36
  i3 := by kernel_rfl }
open Go.RowKit Go.Lib in
theorem Tryz.slices_Clone_int (b off n c : Nat) (zs : List Int) (w : World) (hz : n ≤ zs.length) (hbig : n * 8 ≤ 140737488355328) (hc : ∀ j, j < zs.length → w.cell? ⟨b, off + j, none⟩ = some (.int .i64 (zs.getD j 0))) :
    Calls Tryz.prog 44 #[.slice (some ⟨b, off, none⟩) n c] w fun e w' => ∃ v', e = .returned v' ∧ w'.ownsRow w.heap.size 3 1 v' n ((zs.take n).map (Value.int .i64)) ∧ v' ≠ .slice none 0 0 ∧ Below w.heap.size w w' := Any.slices_Clone_int Tryz.laysNm215 b off n c zs w hz hbig hc
open Go.RowKit Go.Lib in
theorem Tryz.slices_Clone_int_nil (n c : Nat) (w : World) :
    Calls Tryz.prog 44 #[.slice none n c] w fun e w' => e = .returned (.slice none 0 0) ∧ w' = w := Any.slices_Clone_int_nil Tryz.laysNm215 n c w
open Go.RowKit Go.Lib in
theorem Tryz.slices_Clone_int_zero (a : Addr) (c : Nat) (w : World) :
    Calls Tryz.prog 44 #[.slice (some a) 0 c] w fun e w' => ∃ v', e = .returned v' ∧ w'.ownsRow w.heap.size 3 1 v' 0 [] ∧ v' ≠ .slice none 0 0 ∧ Below w.heap.size w w' := Any.slices_Clone_int_zero Tryz.laysNm215 a c w
def Tryz.laysSlE041_f44_ren : Go.Shelf.Ren := ⟨fun | 41 => 44 | n => n, fun | 22 => 36 | 23 => 3 | 4 => 4 | n => n, fun | n => n⟩
theorem Tryz.laysSlE041_f44 : Go.Proofs.SlLaysE0.n41 Tryz.prog Tryz.laysSlE041_f44_ren := {
  mixed := by kernel_rfl
  f41 := ⟨Tryz.f44.name, by decide, Tryz.func44.trans (congrArg some (by kernel_rfl))⟩
  t4 := Tryz.underlying4
  a4 := Tryz.isAgg4
  z4 := Tryz.sizeOf4
  v4 := Tryz.zeroValue4
  t22 := Tryz.underlying36
  a22 := Tryz.isAgg36
  z22 := Tryz.sizeOf36
  v22 := Tryz.zeroValue36 }
open Go.RowKit Go.Lib in
theorem Tryz.slices_Clone (i0 : TypeInfo) (z : Value) (size bytes : Nat) (hi : Tryz.prog.info? 3 = some i0) (hz0 : i0.zero = some z) (hz1 : i0.size = size) (hz2 : i0.bytes = bytes) (hzs : z.cells.size = size) (hsz : 0 < size) (z23 : ∀ w, (Go.sizeOf 3).run Tryz.prog w = .ok size w) (b off n c : Nat) (news : List Value) (w : World) (hl : news.length = n * size) (hn : n ≤ maxLen) (hbig : n * bytes ≤ 140737488355328) (hc : ∀ j u, news[j]? = some u → w.cell? ⟨b, off + j, none⟩ = some u) (h1 : ∀ u ∈ news, u.oneCell' = true) :
    Calls Tryz.prog 44 #[.slice (some ⟨b, off, none⟩) n c] w fun e w' => ∃ v', e = .returned v' ∧ w'.ownsRow w.heap.size 3 size v' n news ∧ v' ≠ .slice none 0 0 ∧ Below w.heap.size w w' := AnyE.slices_Clone Tryz.laysSlE041_f44 i0 z size bytes hi hz0 hz1 hz2 hzs hsz z23 b off n c news w hl hn hbig hc h1
open Go.RowKit Go.Lib in
theorem Tryz.slices_Clone_nil (n c : Nat) (w : World) :
    Calls Tryz.prog 44 #[.slice none n c] w fun e w' => e = .returned (.slice none 0 0) ∧ w' = w := AnyE.slices_Clone_nil Tryz.laysSlE041_f44 n c w
def Tryz.laysSlC25_f81_ren : Go.Shelf.Ren := ⟨fun | 5 => 81 | 7 => 107 | n => n, fun | 22 => 3 | 3 => 3 | 4 => 4 | n => n, fun | n => n⟩
theorem Tryz.laysSlC25_f81 : Go.Proofs.SlLaysC2.n5 Tryz.prog Tryz.laysSlC25_f81_ren := {
  mixed := by kernel_rfl
  f5 := ⟨Tryz.f81.name, by decide, Tryz.func81.trans (congrArg some (by kernel_rfl))⟩
  f7 := ⟨Tryz.f107.name, by decide, Tryz.func107.trans (congrArg some (by kernel_rfl))⟩
  t3 := Tryz.underlying3
  a3 := Tryz.isAgg3
  z3 := Tryz.sizeOf3
  v3 := Tryz.zeroValue3
  t4 := Tryz.underlying4
  a4 := Tryz.isAgg4
  z4 := Tryz.sizeOf4
  v4 := Tryz.zeroValue4
  t22 := Tryz.underlying3
  a22 := Tryz.isAgg3
  z22 := Tryz.sizeOf3
  v22 := Tryz.zeroValue3 }
open Go.Lib in
theorem Tryz.cmp_Compare_int (x y : Int) (w : World) :
    Calls Tryz.prog 81 #[.int .i64 x, .int .i64 y] w fun e w' => e = .returned (.int .i64 (Lib.compareInt x y)) ∧ w' = w := AnyG.cmp_Compare_int Tryz.laysSlC25_f81 x y w
def Tryz.sort_Arc_ren : Go.Shelf.Ren := ⟨fun | 6 => 38 | 15 => 65 | 14 => 64 | 28 => 90 | 29 => 91 | 20 => 82 | 21 => 83 | 22 => 84 | 23 => 85 | 24 => 86 | 25 => 87 | 26 => 88 | 27 => 89 | 46 => 108 | 47 => 109 | 48 => 110 | 49 => 111 | 50 => 112 | 57 => 124 | n => n, fun | 22 => 26 | 24 => 83 | 25 => 85 | 3 => 3 | 39 => 115 | 0 => 0 | 53 => 150 | 55 => 152 | 4 => 4 | 46 => 144 | 45 => 143 | 50 => 96 | 5 => 5 | 9 => 9 | 66 => 170 | 70 => 174 | 76 => 190 | 77 => 191 | n => n, fun | n => n⟩
theorem Tryz.sort_Arc : Go.Proofs.SlLaysF0.n6 Tryz.prog Tryz.sort_Arc_ren := {
  mixed := by kernel_rfl
  f6 := ⟨Tryz.f38.name, by decide, Tryz.func38.trans (congrArg some (by kernel_rfl))⟩
  f14 := ⟨Tryz.f64.name, by decide, Tryz.func64.trans (congrArg some (by kernel_rfl))⟩
  f15 := Tryz.func65.trans (congrArg some (by kernel_rfl))
  f20 := ⟨Tryz.f82.name, by decide, Tryz.func82.trans (congrArg some (by kernel_rfl))⟩
  f21 := ⟨Tryz.f83.name, by decide, Tryz.func83.trans (congrArg some (by kernel_rfl))⟩
  f22 := ⟨Tryz.f84.name, by decide, Tryz.func84.trans (congrArg some (by kernel_rfl))⟩
  f23 := ⟨Tryz.f85.name, by decide, Tryz.func85.trans (congrArg some (by kernel_rfl))⟩
  f24 := ⟨Tryz.f86.name, by decide, Tryz.func86.trans (congrArg some (by kernel_rfl))⟩
  f25 := ⟨Tryz.f87.name, by decide, Tryz.func87.trans (congrArg some (by kernel_rfl))⟩
  f26 := ⟨Tryz.f88.name, by decide, Tryz.func88.trans (congrArg some (by kernel_rfl))⟩
  f27 := ⟨Tryz.f89.name, by decide, Tryz.func89.trans (congrArg some (by kernel_rfl))⟩
  f28 := Tryz.func90.trans (congrArg some (by kernel_rfl))
  f29 := Tryz.func91.trans (congrArg some (by kernel_rfl))
  f46 := ⟨Tryz.f108.name, by decide, Tryz.func108.trans (congrArg some (by kernel_rfl))⟩
  f47 := Tryz.func109.trans (congrArg some (by kernel_rfl))
  f48 := Tryz.func110.trans (congrArg some (by kernel_rfl))
  f49 := ⟨Tryz.f111.name, by decide, Tryz.func111.trans (congrArg some (by kernel_rfl))⟩
  f50 := ⟨Tryz.f112.name, by decide, Tryz.func112.trans (congrArg some (by kernel_rfl))⟩
  f57 := ⟨Tryz.f124.name, by decide, Tryz.func124.trans (congrArg some (by kernel_rfl))⟩
  t0 := Tryz.underlying0
  a0 := Tryz.isAgg0
  z0 := Tryz.sizeOf0
  v0 := Tryz.zeroValue0
  t3 := Tryz.underlying3
  a3 := Tryz.isAgg3
  z3 := Tryz.sizeOf3
  v3 := Tryz.zeroValue3
  t4 := Tryz.underlying4
  a4 := Tryz.isAgg4
  z4 := Tryz.sizeOf4
  v4 := Tryz.zeroValue4
  t5 := Tryz.underlying5
  a5 := Tryz.isAgg5
  z5 := Tryz.sizeOf5
  v5 := Tryz.zeroValue5
  t9 := Tryz.underlying9
  a9 := Tryz.isAgg9
  z9 := Tryz.sizeOf9
  v9 := Tryz.zeroValue9
  t22 := Tryz.underlying26
  a22 := Tryz.isAgg26
  z22 := Tryz.sizeOf26
  v22 := Tryz.zeroValue26
  t25 := Tryz.underlying85
  a25 := Tryz.isAgg85
  z25 := Tryz.sizeOf85
  v25 := Tryz.zeroValue85
  t39 := Tryz.underlying115
  a39 := Tryz.isAgg115
  z39 := Tryz.sizeOf115
  v39 := Tryz.zeroValue115
  t45 := Tryz.underlying143
  a45 := Tryz.isAgg143
  z45 := Tryz.sizeOf143
  v45 := Tryz.zeroValue143
  t46 := Tryz.underlying144
  a46 := Tryz.isAgg144
  z46 := Tryz.sizeOf144
  v46 := Tryz.zeroValue144
  t50 := Tryz.underlying96
  a50 := Tryz.isAgg96
  z50 := Tryz.sizeOf96
  v50 := Tryz.zeroValue96
  t53 := Tryz.underlying150
  a53 := Tryz.isAgg150
  z53 := Tryz.sizeOf150
  v53 := Tryz.zeroValue150
  t55 := Tryz.underlying152
  a55 := Tryz.isAgg152
  z55 := Tryz.sizeOf152
  v55 := Tryz.zeroValue152
  t66 := Tryz.underlying170
  a66 := Tryz.isAgg170
  z66 := Tryz.sizeOf170
  v66 := Tryz.zeroValue170
  t70 := Tryz.underlying174
  a70 := Tryz.isAgg174
  z70 := Tryz.sizeOf174
  v70 := Tryz.zeroValue174
  t76 := Tryz.underlying190
  a76 := Tryz.isAgg190
  z76 := Tryz.sizeOf190
  v76 := Tryz.zeroValue190
  t77 := Tryz.underlying191
  a77 := Tryz.isAgg191
  z77 := Tryz.sizeOf191
  v77 := Tryz.zeroValue191 }
end Go.Proofs

namespace Go.Proofs.YtlnhocgjgmhfgaaGreatDoor
open Go.RowKit
set_option maxRecDepth 100000

/-- The first of two ints that is not 0. -/
def orI (x y : Int) : Int := if x = 0 then y else x
theorem cmpI_cases (x y : Int) : (x < y → Lib.compareInt x y = -1) ∧ (x = y → Lib.compareInt x y = 0) ∧ (y < x → Lib.compareInt x y = 1) := by
  unfold Lib.compareInt
  refine ⟨fun h => by simp [h], fun h => by subst h; simp, fun h => by rw [if_neg (by omega), if_pos h]⟩
set_option maxHeartbeats 400000 in
theorem Or_two (W : World) (g : Nat) (x y : Int) (hk : Blk W g [.int .i64 x, .int .i64 y] 3) :
    Calls Tryz.prog 80 #[.slice (some ⟨g, 0, none⟩) 2 2] W fun e w' => e = .returned (.int .i64 (orI x y)) ∧ w' = W := by
  have c0 := hk.cell 0 _ rfl
  have c1 := hk.cell 1 _ rfl
  have hi := idx (P := Tryz.prog) 36 (a := some ⟨g, 0, none⟩) (b := g) (o := 0) (n := 2) (c := 2) elemI.und elemI.sz (fun _ => rfl)
  clear hk
  by_cases hx : x = 0
  · have H : Hid (orI x y = y) := Lib.hid (by simp [orI, hx])
    subst hx
    have e0 : ((0 : Int) != 0) = false := by decide
    by_cases hy : y = 0
    · subst hy
      go_enter Tryz.func80, Tryz.ntmps80
      go_wp2
      refine wp_loop_rounds 3 ?_
      rw [rounds_succ]
      go_wp2
      rw [rounds_succ]
      go_wp2
      rw [rounds_succ]
      go_wp2
      go_ret
      exact ⟨by rw [H.out]; rfl, rfl⟩
    · have hy2 : (y != 0) = true := by simp [hy]
      go_enter Tryz.func80, Tryz.ntmps80
      go_wp2
      refine wp_loop_rounds 2 ?_
      rw [rounds_succ]
      go_wp2
      rw [rounds_succ]
      go_wp2
      go_ret
      exact ⟨by rw [H.out]; rfl, rfl⟩
  · have H : Hid (orI x y = x) := Lib.hid (by simp [orI, hx])
    have hx2 : (x != 0) = true := by simp [hx]
    go_enter Tryz.func80, Tryz.ntmps80
    go_wp2
    refine wp_loop_rounds 1 ?_
    rw [rounds_succ]
    go_wp2
    go_ret
    exact ⟨by rw [H.out]; rfl, rfl⟩
/-- Pairs compared, the first places first. -/
def cmpP (a b c d : Int) : Int := orI (Lib.compareInt a c) (Lib.compareInt b d)
theorem cmpP_nonneg (a b c d : Int) : 0 ≤ cmpP a b c d ↔ ¬ (a < c ∨ (a = c ∧ b < d)) := by
  unfold cmpP orI
  obtain ⟨h1, h2, h3⟩ := cmpI_cases a c
  obtain ⟨g1, g2, g3⟩ := cmpI_cases b d
  rcases Int.lt_trichotomy a c with h | h | h
  · rw [h1 h]; simp; omega
  · rw [h2 h]
    rcases Int.lt_trichotomy b d with g | g | g
    · rw [g1 g]; simp; omega
    · rw [g2 g]; simp; omega
    · rw [g3 g]; simp; omega
  · rw [h3 h]; simp; omega
set_option maxHeartbeats 1000000 in
theorem pairCmp_any (w : World) (a b c d : Int) :
    Calls Tryz.prog 63 #[.agg #[.int .i64 a, .int .i64 b], .agg #[.int .i64 c, .int .i64 d]] w (Rets fun v w' => v = .int .i64 (cmpP a b c d) ∧ Below w.heap.size w w') := by
  obtain ⟨x, hx⟩ : ∃ x, Lib.compareInt a c = x := ⟨_, rfl⟩
  obtain ⟨y, hy⟩ : ∃ y, Lib.compareInt b d = y := ⟨_, rfl⟩
  have HX := Lib.hid hx; have HY := Lib.hid hy
  have H : Hid (cmpP a b c d = orI x y) := Lib.hid (by unfold cmpP; rw [hx, hy])
  have hb := ((Below.refl w.heap.size w).alloc (Nat.le_refl _) (.cells #[.int .i64 a, .int .i64 b] 110)).alloc (by simp) (.cells #[.int .i64 c, .int .i64 d] 110)
  have k1 := (Blk.new w [.int .i64 a, .int .i64 b] 110).alloc (.cells #[.int .i64 c, .int .i64 d] 110)
  have k2 := Blk.new (w.alloc (.cells #[.int .i64 a, .int .i64 b] 110)) [.int .i64 c, .int .i64 d] 110
  rw [World.size_alloc] at k2
  clear hx hy
  go_enter Tryz.func63, Tryz.ntmps63
  go_wp2_with fail
  have hd := hb.trans ((Below.refl _ _).drew)
  obtain ⟨W, hW⟩ : ∃ W, (w.alloc (.cells #[.int .i64 a, .int .i64 b] 110)).alloc (.cells #[.int .i64 c, .int .i64 d] 110) = W := ⟨_, rfl⟩
  rw [show [Value.int .i64 a, Value.int .i64 b].toArray = #[Value.int .i64 a, Value.int .i64 b] from rfl] at *
  rw [hW] at hb k1 k2 ⊢
  have HB := Lib.hid hb
  have c1 := k1.cell 0 _ rfl; have c2 := k1.cell 1 _ rfl; have c3 := k2.cell 0 _ rfl; have c4 := k2.cell 1 _ rfl
  clear hd hb k1 k2 hW
  go_region_held3 (fun w' => w'.cell? ⟨w.heap.size, 0, none⟩ = some (.int .i64 a) ∧ w'.cell? ⟨w.heap.size, 1, none⟩ = some (.int .i64 b) ∧ w'.cell? ⟨w.heap.size + 1, 0, none⟩ = some (.int .i64 c) ∧ w'.cell? ⟨w.heap.size + 1, 1, none⟩ = some (.int .i64 d)) (go_keep)
    (first
      | (go_at_call_of 81 (Value.int .i64 a); refine (Tryz.cmp_Compare_int _ _ _).mono ?_; rintro e w' ⟨rfl, rfl⟩; rw [HX.out])
      | (go_at_call_of 81 (Value.int .i64 b); refine (Tryz.cmp_Compare_int _ _ _).mono ?_; rintro e w' ⟨rfl, rfl⟩; rw [HY.out])
      | (go_at_call 80; refine (Or_two _ _ x y (show Blk (W.alloc (.cells #[.int .i64 x, .int .i64 y] 3)).drew W.heap.size [.int .i64 x, .int .i64 y] 3 from Blk.new W [.int .i64 x, .int .i64 y] 3)).mono ?_; rintro e w' ⟨rfl, rfl⟩))
  all_goals
    go_wp2
    go_ret
    exact ⟨_, rfl, by rw [H.out]; rfl, (HB.out.alloc HB.out.size _).trans (Below.refl _ _).drew⟩
set_option maxHeartbeats 1000000 in
theorem arrCmp_any (w : World) (a b c d : Int) :
    Calls Tryz.prog 69 #[.agg #[.int .i64 a, .int .i64 b], .agg #[.int .i64 c, .int .i64 d]] w (Rets fun v w' => v = .int .i64 (cmpP a b c d) ∧ Below w.heap.size w w') := by
  obtain ⟨x, hx⟩ : ∃ x, Lib.compareInt a c = x := ⟨_, rfl⟩
  obtain ⟨y, hy⟩ : ∃ y, Lib.compareInt b d = y := ⟨_, rfl⟩
  have HX := Lib.hid hx; have HY := Lib.hid hy
  have H : Hid (cmpP a b c d = orI x y) := Lib.hid (by unfold cmpP; rw [hx, hy])
  have hb := ((Below.refl w.heap.size w).alloc (Nat.le_refl _) (.cells #[.int .i64 a, .int .i64 b] 60)).alloc (by simp) (.cells #[.int .i64 c, .int .i64 d] 60)
  have k1 := (Blk.new w [.int .i64 a, .int .i64 b] 60).alloc (.cells #[.int .i64 c, .int .i64 d] 60)
  have k2 := Blk.new (w.alloc (.cells #[.int .i64 a, .int .i64 b] 60)) [.int .i64 c, .int .i64 d] 60
  rw [World.size_alloc] at k2
  clear hx hy
  go_enter Tryz.func69, Tryz.ntmps69
  go_wp2_with fail
  have hd := hb.trans ((Below.refl _ _).drew)
  obtain ⟨W, hW⟩ : ∃ W, (w.alloc (.cells #[.int .i64 a, .int .i64 b] 60)).alloc (.cells #[.int .i64 c, .int .i64 d] 60) = W := ⟨_, rfl⟩
  rw [show [Value.int .i64 a, Value.int .i64 b].toArray = #[Value.int .i64 a, Value.int .i64 b] from rfl] at *
  rw [hW] at hb k1 k2 ⊢
  have HB := Lib.hid hb
  have c1 := k1.cell 0 _ rfl; have c2 := k1.cell 1 _ rfl; have c3 := k2.cell 0 _ rfl; have c4 := k2.cell 1 _ rfl
  clear hd hb k1 k2 hW
  go_region_held3 (fun w' => w'.cell? ⟨w.heap.size, 0, none⟩ = some (.int .i64 a) ∧ w'.cell? ⟨w.heap.size, 1, none⟩ = some (.int .i64 b) ∧ w'.cell? ⟨w.heap.size + 1, 0, none⟩ = some (.int .i64 c) ∧ w'.cell? ⟨w.heap.size + 1, 1, none⟩ = some (.int .i64 d)) (go_keep)
    (first
      | (go_at_call_of 81 (Value.int .i64 a); refine (Tryz.cmp_Compare_int _ _ _).mono ?_; rintro e w' ⟨rfl, rfl⟩; rw [HX.out])
      | (go_at_call_of 81 (Value.int .i64 b); refine (Tryz.cmp_Compare_int _ _ _).mono ?_; rintro e w' ⟨rfl, rfl⟩; rw [HY.out])
      | (go_at_call 80; refine (Or_two _ _ x y (show Blk (W.alloc (.cells #[.int .i64 x, .int .i64 y] 3)).drew W.heap.size [.int .i64 x, .int .i64 y] 3 from Blk.new W [.int .i64 x, .int .i64 y] 3)).mono ?_; rintro e w' ⟨rfl, rfl⟩))
  all_goals
    go_wp2
    go_ret
    exact ⟨_, rfl, by rw [H.out]; rfl, (HB.out.alloc HB.out.size _).trans (Below.refl _ _).drew⟩
end Go.Proofs.YtlnhocgjgmhfgaaGreatDoor

namespace Go.Proofs.YtlnhocgjgmhfgaaGreatDoor
open Go.RowKit
set_option maxRecDepth 100000

def vtx (n v : Int) : Bool := decide (0 ≤ v ∧ v < n)
theorem vtx_iff (n v : Int) : vtx n v = true ↔ 0 ≤ v ∧ v < n := by simp [vtx]
/-- Is an edge in range? -/
def eOk (n : Int) (x : Int × Int × Int) : Bool := vtx n x.1 && vtx n x.2.1 && decide (1 ≤ x.2.2 ∧ x.2.2 ≤ 50)
def lt2 (p q : Int × Int) : Bool := decide (p.1 < q.1 ∨ (p.1 = q.1 ∧ p.2 < q.2))
/-- The first error of edges behind a pair. -/
def estep (n : Int) : Int × Int → List (Int × Int × Int) → Int
  | _, [] => 0
  | p, x :: l => if eOk n x then (if x.1 ≤ x.2.1 ∧ lt2 p (x.1, x.2.1) = true then estep n (x.1, x.2.1) l else 9) else 2
def chkG (n : Int) (es : List (Int × Int × Int)) : Int := if n < 1 ∨ 12 < n then 2 else estep n (-1, -1) es
def lastE (es : List (Int × Int × Int)) (k : Nat) : Int × Int := if k = 0 then (-1, -1) else ((es.getD (k - 1) (0, 0, 0)).1, (es.getD (k - 1) (0, 0, 0)).2.1)
theorem lastE_succ (es : List (Int × Int × Int)) (k : Nat) (h : k < es.length) : lastE es (k + 1) = (es[k].1, es[k].2.1) := by
  simp [lastE, List.getD_eq_getElem?_getD, h]
theorem estep_at (n : Int) (p : Int × Int) (es : List (Int × Int × Int)) (k : Nat) (h : k < es.length) :
    estep n p (es.drop k) = if eOk n es[k] then (if es[k].1 ≤ es[k].2.1 ∧ lt2 p (es[k].1, es[k].2.1) = true then estep n (es[k].1, es[k].2.1) (es.drop (k + 1)) else 9) else 2 := by
  rw [List.drop_eq_getElem_cons h]; rfl
theorem estep_end (n : Int) (p : Int × Int) (es : List (Int × Int × Int)) : estep n p (es.drop es.length) = 0 := by rw [List.drop_length]; rfl

theorem gvertex_any (w : World) (n v : Int) : Calls Tryz.prog 62 #[.int .i64 n, .int .i64 v] w (Rets fun r w' => r = .bool (vtx n v) ∧ w = w') := by
  by_cases h0 : 0 ≤ v
  · by_cases h1 : v < n
    · have H : Hid (vtx n v = true) := Lib.hid (by simp [vtx, h0, h1])
      go_enter Tryz.func62, Tryz.ntmps62
      go_wp2
      go_ret
      exact ⟨_, rfl, by rw [H.out]; rfl, rfl⟩
    · have H : Hid (vtx n v = false) := Lib.hid (by simp [vtx, h1])
      have h2 : decide (v < n) = false := by simp [h1]
      go_enter Tryz.func62, Tryz.ntmps62
      go_wp2
      go_ret
      exact ⟨_, rfl, by rw [H.out]; rfl, rfl⟩
  · have H : Hid (vtx n v = false) := Lib.hid (by simp [vtx, h0])
    have h2 : decide (0 ≤ v) = false := by simp [h0]
    go_enter Tryz.func62, Tryz.ntmps62
    go_wp2
    go_ret
    exact ⟨_, rfl, by rw [H.out]; rfl, rfl⟩

set_option maxHeartbeats 4000000 in
theorem GCheck_any (w : World) (n : Int) (v : Value) (es : List (Int × Int × Int)) (hv : SlK e3 3 w v es) :
    Calls Tryz.prog 37 #[.agg #[.int .i64 n, v]] w (Rets fun r w' => r = .int .i64 (chkG n es) ∧ Below w.heap.size w w') := by
  obtain ⟨ad, b, o, c, rfl, hi, hp, hc, hm⟩ := hv.open elemEdge
  unfold maxLen at hm
  clear hv
  by_cases h1 : n < 1
  · have H : Hid (chkG n es = 2) := Lib.hid (by simp [chkG, h1])
    go_enter Tryz.func37, Tryz.ntmps37
    go_wp2
    go_ret
    exact ⟨_, rfl, by rw [H.out]; rfl, (Below.refl _ _).alloc (Nat.le_refl _) _⟩
  by_cases h12 : 12 < n
  · have H : Hid (chkG n es = 2) := Lib.hid (by simp [chkG, h12])
    go_enter Tryz.func37, Tryz.ntmps37
    go_wp2
    go_ret
    exact ⟨_, rfl, by rw [H.out]; rfl, (Below.refl _ _).alloc (Nat.le_refl _) _⟩
  have H : Hid (chkG n es = estep n (lastE es 0) (es.drop 0)) := Lib.hid (by simp [chkG, h1, h12, lastE])
  have HG := Lib.hid (Blk.new w [.int .i64 n, .slice ad es.length c] 24)
  have HQ := Lib.hid ((Below.refl w.heap.size w).alloc (Nat.le_refl _) (.cells #[.int .i64 n, .slice ad es.length c] 24))
  obtain ⟨W, hW⟩ : ∃ W, w.alloc (.cells #[.int .i64 n, .slice ad es.length c] 24) = W := ⟨_, rfl⟩
  have hWs : W.heap.size = w.heap.size + 1 := by rw [← hW]; simp
  rw [show [Value.int .i64 n, .slice ad es.length c].toArray = #[Value.int .i64 n, .slice ad es.length c] from rfl, hW] at HG
  rw [hW] at HQ
  have HW := Lib.hid hW; have HWS := Lib.hid hWs
  clear hW hWs
  go_enter Tryz.func37, Tryz.ntmps37
  go_wp2
  rw [HW.out]
  have HL0 := Lib.hid (Blk.new W [.int .i64 (-1), .int .i64 (-1)] 110)
  have HB0 := Lib.hid ((Below.refl W.heap.size W).alloc (Nat.le_refl _) (.cells #[.int .i64 (-1), .int .i64 (-1)] 110))
  rw [HWS.out] at HL0
  go_loopw [19] (fun i wr => ∃ k : Nat, k ≤ es.length ∧ i = .int .i64 k ∧ Hid (chkG n es = estep n (lastE es k) (es.drop k)) ∧ Hid (Blk wr (w.heap.size + 1) [.int .i64 (lastE es k).1, .int .i64 (lastE es k).2] 110) ∧ Hid (Below W.heap.size W wr)) (fun i _ => es.length - (intOf i).toNat)
  case atStart => exact ⟨0, Nat.zero_le _, rfl, H, HL0, HB0⟩
  case round =>
    clear HL0 HB0 H
    obtain ⟨k, hk, rfl, hH, hL, hB⟩ := hrel
    by_cases hkn : k < es.length
    · have hqw := HQ.out.trans (hB.out.mono HQ.out.size)
      have hAt := estep_at n (lastE es k) es k hkn
      have HLS := Lib.hid (lastE_succ es k hkn)
      obtain ⟨⟨p, q, m⟩, hx⟩ : ∃ x, es[k] = x := ⟨_, rfl⟩
      have a0 : wr.cell? ⟨b, o + k * 3, none⟩ = some (.int .i64 p) := hp.at hqw (Nat.le_refl _) k hkn 0 _ (by rw [hx]; rfl)
      have a1 : wr.cell? ⟨b, o + k * 3 + 1, none⟩ = some (.int .i64 q) := hp.at hqw (Nat.le_refl _) k hkn 1 _ (by rw [hx]; rfl)
      have a2 : wr.cell? ⟨b, o + k * 3 + 2, none⟩ = some (.int .i64 m) := hp.at hqw (Nat.le_refl _) k hkn 2 _ (by rw [hx]; rfl)
      have hGr := HG.out.below hB.out (Nat.le_refl _)
      have g0 := hGr.cell 0 _ rfl
      have l0 := hL.out.cell 0 _ rfl
      have l1 := hL.out.cell 1 _ rfl
      have hlb := (hp.below hqw (Nat.le_refl _)).1 (by omega)
      have hlg := hGr.lt
      have hll := hL.out.lt
      rw [hx] at hAt HLS
      rw [← hH.out] at hAt
      obtain ⟨⟨x1, x2⟩, hl⟩ : ∃ l, lastE es k = l := ⟨_, rfl⟩
      rw [hl] at hAt l0 l1 hL
      simp only at hAt HLS l0 l1
      have hL2 : Hid (Blk wr (w.heap.size + 1) [.int .i64 x1, .int .i64 x2] 110) := Lib.hid hL.out
      have HQW := Lib.hid hqw
      clear hH hx hGr hl hL hqw
      by_cases hE : eOk n (p, q, m) = true
      · rw [if_pos hE] at hAt
        have hE2 : (vtx n p = true ∧ vtx n q = true) ∧ 1 ≤ m ∧ m ≤ 50 := by simpa [eOk] using hE
        obtain ⟨⟨hv1, hv2⟩, hm1, hm2⟩ := hE2
        have V1 := Lib.hid hv1; have V2 := Lib.hid hv2
        clear hv1 hv2 hE
        by_cases hpq : q < p
        · rw [if_neg (fun h => by omega)] at hAt
          have H := Lib.hid hAt
          clear hAt
          go_wp2_with (go_at_call 62; (with_reducible refine (gvertex_any _ _ _).mono ?_); rintro e w' ⟨v, rfl, rfl, rfl⟩; (first | rw [V1.out] | rw [V2.out]))
          go_ret
          exact ⟨_, rfl, by rw [H.out]; rfl, (HQW.out.alloc HQW.out.size _).alloc (Nat.le_trans HQW.out.size (by simp)) _⟩
        · obtain ⟨z, hz⟩ : ∃ z, cmpP x1 x2 p q = z := ⟨_, rfl⟩
          have hzz := cmpP_nonneg x1 x2 p q
          rw [hz] at hzz
          have HZ := Lib.hid hz
          by_cases hlt : x1 < p ∨ (x1 = p ∧ x2 < q)
          · have hz0 : z < 0 := by
              rcases Int.lt_or_le z 0 with h | h
              · exact h
              · exact absurd hlt (hzz.1 h)
            rw [if_pos ⟨by omega, by simp [lt2]; exact hlt⟩] at hAt
            have H := Lib.hid hAt
            clear hAt hzz hlt hz
            go_wp2_with (first
              | (go_at_call 62; (with_reducible refine (gvertex_any _ _ _).mono ?_); rintro e w' ⟨v, rfl, rfl, rfl⟩; (first | rw [V1.out] | rw [V2.out]))
              | (go_at_call 63; (with_reducible refine (pairCmp_any _ x1 x2 p q).mono ?_); rintro e w2 ⟨v, rfl, rfl, hb2⟩; rw [HZ.out]; have HL3 := Lib.hid (((hL2.out.alloc (.cells #[.int .i64 p, .int .i64 q, .int .i64 m] 81)).alloc (.cells #[.int .i64 p, .int .i64 q] 110)).below hb2 (Nat.le_refl _)); have HP3 := Lib.hid ((show Blk ((wr.alloc (.cells #[.int .i64 p, .int .i64 q, .int .i64 m] 81)).alloc (.cells #[.int .i64 p, .int .i64 q] 110)) (wr.heap.size + 1) [.int .i64 p, .int .i64 q] 110 by have := Blk.new (wr.alloc (.cells #[.int .i64 p, .int .i64 q, .int .i64 m] 81)) [.int .i64 p, .int .i64 q] 110; rwa [World.size_alloc] at this).below hb2 (Nat.le_refl _)); have y0 := HL3.out.cell 0 _ rfl; have y1 := HL3.out.cell 1 _ rfl; have f0 := HL3.out.free 0; have f1 := HL3.out.free 1; have z0 := HP3.out.cell 0 _ rfl; have z1 := HP3.out.cell 1 _ rfl))
            have hbw : Below W.heap.size W w2 := ((hB.out.alloc hB.out.size _).alloc (Nat.le_trans hB.out.size (by simp)) _).trans (hb2.mono (Nat.le_trans hB.out.size (by simp; omega)))
            have HBW := Lib.hid hbw
            clear hbw hb2 y0 y1 f0 f1 z0 z1
            go_roundw
            case rel => exact ⟨k + 1, by omega, by go_num, Lib.hid (by rw [HLS.out]; exact H.out), Lib.hid (by rw [HLS.out]; exact (HL3.out.set 0 (.int .i64 p)).set 1 (.int .i64 q)), Lib.hid ((HBW.out.setCell (p := ⟨w.heap.size + 1, 0, none⟩) (by rw [HWS.out]; exact Nat.le_refl _) (.int .i64 p)).setCell (p := ⟨w.heap.size + 1, 1, none⟩) (by rw [HWS.out]; exact Nat.le_refl _) (.int .i64 q))⟩
            case measure => simp [intOf]; omega
          · have hz0 : 0 ≤ z := hzz.2 hlt
            rw [if_neg (fun h => hlt (by simpa [lt2] using h.2))] at hAt
            have H := Lib.hid hAt
            clear hAt hzz hlt hz
            go_wp2_with (first
              | (go_at_call 62; (with_reducible refine (gvertex_any _ _ _).mono ?_); rintro e w' ⟨v, rfl, rfl, rfl⟩; (first | rw [V1.out] | rw [V2.out]))
              | (go_at_call 63; (with_reducible refine (pairCmp_any _ x1 x2 p q).mono ?_); rintro e w2 ⟨v, rfl, rfl, hb2⟩; rw [HZ.out]))
            go_ret
            exact ⟨_, rfl, by rw [H.out]; rfl, ((HQW.out.alloc HQW.out.size _).alloc (Nat.le_trans HQW.out.size (by simp)) _).trans (hb2.mono (Nat.le_trans HQW.out.size (by simp; omega)))⟩
      · rw [if_neg hE] at hAt
        have H := Lib.hid hAt
        have hc : vtx n p = false ∨ (vtx n p = true ∧ vtx n q = false) ∨ (vtx n p = true ∧ vtx n q = true ∧ m < 1) ∨ (vtx n p = true ∧ vtx n q = true ∧ ¬ m < 1 ∧ 50 < m) := by
          cases h1 : vtx n p
          · exact .inl rfl
          · cases h2 : vtx n q
            · exact .inr (.inl ⟨rfl, rfl⟩)
            · simp [eOk, h1, h2] at hE
              by_cases h3 : m < 1
              · exact .inr (.inr (.inl ⟨rfl, rfl, h3⟩))
              · exact .inr (.inr (.inr ⟨rfl, rfl, h3, hE (by omega)⟩))
        clear hAt hE
        rcases hc with h1 | ⟨h1, h2⟩ | ⟨h1, h2, h3⟩ | ⟨h1, h2, h3, h4⟩
        · have V1 := Lib.hid h1
          clear h1
          go_wp2_with (go_at_call 62; (with_reducible refine (gvertex_any _ _ _).mono ?_); rintro e w' ⟨v, rfl, rfl, rfl⟩; rw [V1.out])
          go_ret
          exact ⟨_, rfl, by rw [H.out]; rfl, (HQW.out.alloc HQW.out.size _).alloc (Nat.le_trans HQW.out.size (by simp)) _⟩
        · have V1 := Lib.hid h1; have V2 := Lib.hid h2
          clear h1 h2
          go_wp2_with (go_at_call 62; (with_reducible refine (gvertex_any _ _ _).mono ?_); rintro e w' ⟨v, rfl, rfl, rfl⟩; (first | rw [V1.out] | rw [V2.out]))
          go_ret
          exact ⟨_, rfl, by rw [H.out]; rfl, (HQW.out.alloc HQW.out.size _).alloc (Nat.le_trans HQW.out.size (by simp)) _⟩
        · have V1 := Lib.hid h1; have V2 := Lib.hid h2
          clear h1 h2
          go_wp2_with (go_at_call 62; (with_reducible refine (gvertex_any _ _ _).mono ?_); rintro e w' ⟨v, rfl, rfl, rfl⟩; (first | rw [V1.out] | rw [V2.out]))
          go_ret
          exact ⟨_, rfl, by rw [H.out]; rfl, (HQW.out.alloc HQW.out.size _).alloc (Nat.le_trans HQW.out.size (by simp)) _⟩
        · have V1 := Lib.hid h1; have V2 := Lib.hid h2
          clear h1 h2
          go_wp2_with (go_at_call 62; (with_reducible refine (gvertex_any _ _ _).mono ?_); rintro e w' ⟨v, rfl, rfl, rfl⟩; (first | rw [V1.out] | rw [V2.out]))
          go_ret
          exact ⟨_, rfl, by rw [H.out]; rfl, (HQW.out.alloc HQW.out.size _).alloc (Nat.le_trans HQW.out.size (by simp)) _⟩
    · obtain rfl : k = es.length := by omega
      have H : Hid (chkG n es = 0) := Lib.hid (by rw [hH.out, estep_end])
      have q := HQ.out.trans (hB.out.mono HQ.out.size)
      clear hH hL hB
      go_wp2
      go_ret
      exact ⟨_, rfl, by rw [H.out]; rfl, q⟩
end Go.Proofs.YtlnhocgjgmhfgaaGreatDoor

namespace Go.Proofs.YtlnhocgjgmhfgaaGreatDoor
open Go.RowKit
set_option maxRecDepth 100000

theorem rVertex_any (w : World) (n v : Int) (u : Value) (ad : Option Addr) (l c : Nat) (hu : u = .slice ad l c) : Calls Tryz.prog 92 #[.agg #[.int .i64 n, u], .int .i64 v] w (Rets fun r w' => r = .bool (vtx n v) ∧ Below w.heap.size w w') := by
  subst hu
  have hq := (Below.refl w.heap.size w).alloc (Nat.le_refl _) (.cells #[.int .i64 n, .slice ad l c] 24)
  by_cases h0 : 0 ≤ v
  · by_cases h1 : v < n
    · have H : Hid (vtx n v = true) := Lib.hid (by simp [vtx, h0, h1])
      go_enter Tryz.func92, Tryz.ntmps92
      go_wp2
      go_ret
      exact ⟨_, rfl, by rw [H.out]; rfl, hq⟩
    · have H : Hid (vtx n v = false) := Lib.hid (by simp [vtx, h1])
      have h2 : decide (v < n) = false := by simp [h1]
      go_enter Tryz.func92, Tryz.ntmps92
      go_wp2
      go_ret
      exact ⟨_, rfl, by rw [H.out]; rfl, hq⟩
  · have H : Hid (vtx n v = false) := Lib.hid (by simp [vtx, h0])
    have h2 : decide (0 ≤ v) = false := by simp [h0]
    go_enter Tryz.func92, Tryz.ntmps92
    go_wp2
    go_ret
    exact ⟨_, rfl, by rw [H.out]; rfl, hq⟩
theorem BlkE (w : World) (n : Int) (ad : Option Addr) (l c : Nat) (p q m : Int) : Blk ((w.alloc (.cells #[.int .i64 n, .slice ad l c] 24)).alloc (.cells #[.int .i64 p, .int .i64 q, .int .i64 m] 81)) (w.heap.size + 1) [.int .i64 p, .int .i64 q, .int .i64 m] 81 := by
  have := Blk.new (w.alloc (.cells #[.int .i64 n, .slice ad l c] 24)) [.int .i64 p, .int .i64 q, .int .i64 m] 81
  rwa [World.size_alloc] at this
/-- The error of an edge behind the one before. -/
def ecode (n : Int) (es : List (Int × Int × Int)) (i : Nat) : Int :=
  if eOk n (es.getD i (0, 0, 0)) then (if (es.getD i (0, 0, 0)).1 ≤ (es.getD i (0, 0, 0)).2.1 ∧ lt2 (lastE es i) ((es.getD i (0, 0, 0)).1, (es.getD i (0, 0, 0)).2.1) = true then 0 else 9) else 2
theorem estep_code (n : Int) (es : List (Int × Int × Int)) (k : Nat) (h : k < es.length) :
    estep n (lastE es k) (es.drop k) = if ecode n es k = 0 then estep n (lastE es (k + 1)) (es.drop (k + 1)) else ecode n es k := by
  rw [estep_at n _ es k h, lastE_succ es k h]
  have e : es.getD k (0, 0, 0) = es[k] := by rw [List.getD_eq_getElem?_getD, List.getElem?_eq_getElem h]; rfl
  unfold ecode
  rw [e]
  split
  · split
    · simp
    · simp
  · simp
set_option maxHeartbeats 2000000 in
theorem redge_any (w : World) (n : Int) (v : Value) (es : List (Int × Int × Int)) (hv : SlK e3 3 w v es) (i : Nat) (hin : i < es.length) :
    Calls Tryz.prog 66 #[.agg #[.int .i64 n, v], .int .i64 i] w (Rets fun r w' => r = .int .i64 (ecode n es i) ∧ Below w.heap.size w w') := by
  obtain ⟨ad, b, o, c, rfl, hi, hp, hc, hm⟩ := hv.open elemEdge
  unfold maxLen at hm
  clear hv
  have he : es.getD i (0, 0, 0) = es[i] := by rw [List.getD_eq_getElem?_getD, List.getElem?_eq_getElem hin]; rfl
  have hC : ecode n es i = if eOk n es[i] then (if es[i].1 ≤ es[i].2.1 ∧ lt2 (lastE es i) (es[i].1, es[i].2.1) = true then 0 else 9) else 2 := by unfold ecode; rw [he]
  have hlast : ∀ j, i = j + 1 → lastE es i = ((es.getD j (0, 0, 0)).1, (es.getD j (0, 0, 0)).2.1) := fun j e => by subst e; simp [lastE]
  have hprev : ∀ j, i = j + 1 → ∃ p q m, es.getD j (0, 0, 0) = (p, q, m) ∧ w.cell? ⟨b, o + j * 3, none⟩ = some (.int .i64 p) ∧ w.cell? ⟨b, o + j * 3 + 1, none⟩ = some (.int .i64 q) ∧ w.cell? ⟨b, o + j * 3 + 2, none⟩ = some (.int .i64 m) := fun j e => by
    have hj : j < es.length := by omega
    have e2 : es.getD j (0, 0, 0) = es[j] := by rw [List.getD_eq_getElem?_getD, List.getElem?_eq_getElem hj]; rfl
    exact ⟨es[j].1, es[j].2.1, es[j].2.2, e2, hp.2 j hj 0 _ rfl, hp.2 j hj 1 _ rfl, hp.2 j hj 2 _ rfl⟩
  obtain ⟨⟨p, q, m⟩, hx⟩ : ∃ x, es[i] = x := ⟨_, rfl⟩
  have a0 : w.cell? ⟨b, o + i * 3, none⟩ = some (.int .i64 p) := hp.2 i hin 0 _ (by rw [hx]; rfl)
  have a1 : w.cell? ⟨b, o + i * 3 + 1, none⟩ = some (.int .i64 q) := hp.2 i hin 1 _ (by rw [hx]; rfl)
  have a2 : w.cell? ⟨b, o + i * 3 + 2, none⟩ = some (.int .i64 m) := hp.2 i hin 2 _ (by rw [hx]; rfl)
  have hbl := hp.1 (by omega)
  rw [hx] at hC
  have HQ := Lib.hid ((Below.refl w.heap.size w).alloc (Nat.le_refl _) (.cells #[.int .i64 n, .slice ad es.length c] 24))
  have HG := Lib.hid (Blk.new w [.int .i64 n, .slice ad es.length c] 24)
  have HC := Lib.hid hC; have HLA := Lib.hid hlast; have HPR := Lib.hid hprev
  clear hx he hC hlast hprev
  by_cases hE : eOk n (p, q, m) = true
  · have hE2 : (vtx n p = true ∧ vtx n q = true) ∧ 1 ≤ m ∧ m ≤ 50 := by simpa [eOk] using hE
    obtain ⟨⟨hv1, hv2⟩, hm1, hm2⟩ := hE2
    have hp0 : 0 ≤ p := ((vtx_iff _ _).1 hv1).1
    have hC2 := HC.out
    rw [if_pos hE] at hC2
    simp only at hC2
    have V1 := Lib.hid hv1; have V2 := Lib.hid hv2
    clear hv1 hv2 hE HC
    by_cases hpq : q < p
    · rw [if_neg (fun h => by omega)] at hC2
      have H := Lib.hid hC2
      clear hC2
      go_enter Tryz.func66, Tryz.ntmps66
      go_wp2_with (first
        | (go_at_call 92; (with_reducible refine (rVertex_any _ n p (.slice ad es.length c) ad es.length c rfl).mono ?_); rintro e w1 ⟨v, rfl, rfl, hb1⟩; rw [V1.out]; have HG1 := Lib.hid ((HG.out.alloc (.cells #[.int .i64 p, .int .i64 q, .int .i64 m] 81)).below hb1 (Nat.le_refl _)); have HX1 := Lib.hid ((BlkE w n ad es.length c p q m).below hb1 (Nat.le_refl _)); have d0 := HG1.out.cell 0 _ rfl; have d1 := HG1.out.cell 1 _ rfl; have y0 := HX1.out.cell 0 _ rfl; have y1 := HX1.out.cell 1 _ rfl; have y2 := HX1.out.cell 2 _ rfl; have q1 := (HQ.out.alloc HQ.out.size (.cells #[.int .i64 p, .int .i64 q, .int .i64 m] 81)).trans (hb1.mono (by simp; omega)); have hz1 := hb1.size)
        | (go_at_call 92; (with_reducible refine (rVertex_any _ n q (.slice ad es.length c) ad es.length c rfl).mono ?_); rintro e w2 ⟨v, rfl, rfl, hb2⟩; rw [V2.out]; have HG2 := Lib.hid (HG1.out.below hb2 (Nat.le_refl _)); have HX2 := Lib.hid (HX1.out.below hb2 (Nat.le_refl _)); have e0 := HG2.out.cell 0 _ rfl; have e1 := HG2.out.cell 1 _ rfl; have x0 := HX2.out.cell 0 _ rfl; have x1' := HX2.out.cell 1 _ rfl; have x2' := HX2.out.cell 2 _ rfl; have q2 := q1.trans (hb2.mono q1.size); have hz2 := hb2.size; have hk2 := HX2.out.lt; have hk3 := HG2.out.lt; have HBC := fun (u : Nat) => q2.cell (p := ⟨b, u, none⟩) hbl))
      go_ret
      exact ⟨_, rfl, by rw [H.out]; rfl, q2⟩
    · rcases i with _ | j
      · have hl : lt2 (lastE es 0) (p, q) = true := by simp [lt2, lastE]; omega
        rw [if_pos ⟨by omega, hl⟩] at hC2
        have H := Lib.hid hC2
        rw [Nat.zero_mul, Nat.add_zero] at a0 a1 a2
        clear hC2 hl
        go_enter Tryz.func66, Tryz.ntmps66
        go_wp2_with (first
          | (go_at_call 92; (with_reducible refine (rVertex_any _ n p (.slice ad es.length c) ad es.length c rfl).mono ?_); rintro e w1 ⟨v, rfl, rfl, hb1⟩; rw [V1.out]; have HG1 := Lib.hid ((HG.out.alloc (.cells #[.int .i64 p, .int .i64 q, .int .i64 m] 81)).below hb1 (Nat.le_refl _)); have HX1 := Lib.hid ((BlkE w n ad es.length c p q m).below hb1 (Nat.le_refl _)); have d0 := HG1.out.cell 0 _ rfl; have d1 := HG1.out.cell 1 _ rfl; have y0 := HX1.out.cell 0 _ rfl; have y1 := HX1.out.cell 1 _ rfl; have y2 := HX1.out.cell 2 _ rfl; have q1 := (HQ.out.alloc HQ.out.size (.cells #[.int .i64 p, .int .i64 q, .int .i64 m] 81)).trans (hb1.mono (by simp; omega)); have hz1 := hb1.size)
          | (go_at_call 92; (with_reducible refine (rVertex_any _ n q (.slice ad es.length c) ad es.length c rfl).mono ?_); rintro e w2 ⟨v, rfl, rfl, hb2⟩; rw [V2.out]; have HG2 := Lib.hid (HG1.out.below hb2 (Nat.le_refl _)); have HX2 := Lib.hid (HX1.out.below hb2 (Nat.le_refl _)); have e0 := HG2.out.cell 0 _ rfl; have e1 := HG2.out.cell 1 _ rfl; have x0 := HX2.out.cell 0 _ rfl; have x1' := HX2.out.cell 1 _ rfl; have x2' := HX2.out.cell 2 _ rfl; have q2 := q1.trans (hb2.mono q1.size); have hz2 := hb2.size; have hk2 := HX2.out.lt; have hk3 := HG2.out.lt; have HBC := fun (u : Nat) => q2.cell (p := ⟨b, u, none⟩) hbl))
        go_ret
        exact ⟨_, rfl, by rw [H.out]; rfl, q2⟩
      · obtain ⟨x1, x2, x3, hx, r0, r1, r2⟩ := HPR.out j rfl
        have hl := HLA.out j rfl
        rw [hx] at hl
        simp only at hl
        rw [hl] at hC2
        clear hx hl
        have hlt2 : lt2 (x1, x2) (p, q) = true ↔ x1 < p ∨ (x1 = p ∧ x2 < q) := by simp [lt2]
        by_cases hlt : x1 < p ∨ (x1 = p ∧ x2 < q)
        · rw [if_pos ⟨by omega, hlt2.2 hlt⟩] at hC2
          have H := Lib.hid hC2
          clear hC2 hlt2
          have t1 : decide (p < x1) = false := by simp; omega
          have t2 : (p == x1) = true ∨ (p == x1) = false := by cases (p == x1) <;> simp
          rcases hlt with hlt | ⟨he, hlt⟩
          · have t3 : (p == x1) = false := by simp; omega
            clear t2
            go_enter Tryz.func66, Tryz.ntmps66
            go_wp2_with (first
              | (go_at_call 92; (with_reducible refine (rVertex_any _ n p (.slice ad es.length c) ad es.length c rfl).mono ?_); rintro e w1 ⟨v, rfl, rfl, hb1⟩; rw [V1.out]; have HG1 := Lib.hid ((HG.out.alloc (.cells #[.int .i64 p, .int .i64 q, .int .i64 m] 81)).below hb1 (Nat.le_refl _)); have HX1 := Lib.hid ((BlkE w n ad es.length c p q m).below hb1 (Nat.le_refl _)); have d0 := HG1.out.cell 0 _ rfl; have d1 := HG1.out.cell 1 _ rfl; have y0 := HX1.out.cell 0 _ rfl; have y1 := HX1.out.cell 1 _ rfl; have y2 := HX1.out.cell 2 _ rfl; have q1 := (HQ.out.alloc HQ.out.size (.cells #[.int .i64 p, .int .i64 q, .int .i64 m] 81)).trans (hb1.mono (by simp; omega)); have hz1 := hb1.size)
              | (go_at_call 92; (with_reducible refine (rVertex_any _ n q (.slice ad es.length c) ad es.length c rfl).mono ?_); rintro e w2 ⟨v, rfl, rfl, hb2⟩; rw [V2.out]; have HG2 := Lib.hid (HG1.out.below hb2 (Nat.le_refl _)); have HX2 := Lib.hid (HX1.out.below hb2 (Nat.le_refl _)); have e0 := HG2.out.cell 0 _ rfl; have e1 := HG2.out.cell 1 _ rfl; have x0 := HX2.out.cell 0 _ rfl; have x1' := HX2.out.cell 1 _ rfl; have x2' := HX2.out.cell 2 _ rfl; have q2 := q1.trans (hb2.mono q1.size); have hz2 := hb2.size; have hk2 := HX2.out.lt; have hk3 := HG2.out.lt; have HBC := fun (u : Nat) => q2.cell (p := ⟨b, u, none⟩) hbl))
            go_ret
            exact ⟨_, rfl, by rw [H.out]; rfl, (q2.alloc q2.size _)⟩
          · obtain rfl : p = x1 := he.symm
            have t3 : (p == p) = true := by simp
            clear he
            have t4 : decide (q ≤ x2) = false := by simp; omega
            clear t2
            go_enter Tryz.func66, Tryz.ntmps66
            go_wp2_with (first
              | (go_at_call 92; (with_reducible refine (rVertex_any _ n p (.slice ad es.length c) ad es.length c rfl).mono ?_); rintro e w1 ⟨v, rfl, rfl, hb1⟩; rw [V1.out]; have HG1 := Lib.hid ((HG.out.alloc (.cells #[.int .i64 p, .int .i64 q, .int .i64 m] 81)).below hb1 (Nat.le_refl _)); have HX1 := Lib.hid ((BlkE w n ad es.length c p q m).below hb1 (Nat.le_refl _)); have d0 := HG1.out.cell 0 _ rfl; have d1 := HG1.out.cell 1 _ rfl; have y0 := HX1.out.cell 0 _ rfl; have y1 := HX1.out.cell 1 _ rfl; have y2 := HX1.out.cell 2 _ rfl; have q1 := (HQ.out.alloc HQ.out.size (.cells #[.int .i64 p, .int .i64 q, .int .i64 m] 81)).trans (hb1.mono (by simp; omega)); have hz1 := hb1.size)
              | (go_at_call 92; (with_reducible refine (rVertex_any _ n q (.slice ad es.length c) ad es.length c rfl).mono ?_); rintro e w2 ⟨v, rfl, rfl, hb2⟩; rw [V2.out]; have HG2 := Lib.hid (HG1.out.below hb2 (Nat.le_refl _)); have HX2 := Lib.hid (HX1.out.below hb2 (Nat.le_refl _)); have e0 := HG2.out.cell 0 _ rfl; have e1 := HG2.out.cell 1 _ rfl; have x0 := HX2.out.cell 0 _ rfl; have x1' := HX2.out.cell 1 _ rfl; have x2' := HX2.out.cell 2 _ rfl; have q2 := q1.trans (hb2.mono q1.size); have hz2 := hb2.size; have hk2 := HX2.out.lt; have hk3 := HG2.out.lt; have HBC := fun (u : Nat) => q2.cell (p := ⟨b, u, none⟩) hbl))
            go_ret
            exact ⟨_, rfl, by rw [H.out]; rfl, (q2.alloc q2.size _)⟩
        · rw [if_neg (fun h => hlt (hlt2.1 h.2))] at hC2
          have H := Lib.hid hC2
          clear hC2 hlt2
          by_cases hpx : p < x1
          · clear hlt
            go_enter Tryz.func66, Tryz.ntmps66
            go_wp2_with (first
              | (go_at_call 92; (with_reducible refine (rVertex_any _ n p (.slice ad es.length c) ad es.length c rfl).mono ?_); rintro e w1 ⟨v, rfl, rfl, hb1⟩; rw [V1.out]; have HG1 := Lib.hid ((HG.out.alloc (.cells #[.int .i64 p, .int .i64 q, .int .i64 m] 81)).below hb1 (Nat.le_refl _)); have HX1 := Lib.hid ((BlkE w n ad es.length c p q m).below hb1 (Nat.le_refl _)); have d0 := HG1.out.cell 0 _ rfl; have d1 := HG1.out.cell 1 _ rfl; have y0 := HX1.out.cell 0 _ rfl; have y1 := HX1.out.cell 1 _ rfl; have y2 := HX1.out.cell 2 _ rfl; have q1 := (HQ.out.alloc HQ.out.size (.cells #[.int .i64 p, .int .i64 q, .int .i64 m] 81)).trans (hb1.mono (by simp; omega)); have hz1 := hb1.size)
              | (go_at_call 92; (with_reducible refine (rVertex_any _ n q (.slice ad es.length c) ad es.length c rfl).mono ?_); rintro e w2 ⟨v, rfl, rfl, hb2⟩; rw [V2.out]; have HG2 := Lib.hid (HG1.out.below hb2 (Nat.le_refl _)); have HX2 := Lib.hid (HX1.out.below hb2 (Nat.le_refl _)); have e0 := HG2.out.cell 0 _ rfl; have e1 := HG2.out.cell 1 _ rfl; have x0 := HX2.out.cell 0 _ rfl; have x1' := HX2.out.cell 1 _ rfl; have x2' := HX2.out.cell 2 _ rfl; have q2 := q1.trans (hb2.mono q1.size); have hz2 := hb2.size; have hk2 := HX2.out.lt; have hk3 := HG2.out.lt; have HBC := fun (u : Nat) => q2.cell (p := ⟨b, u, none⟩) hbl))
            go_ret
            exact ⟨_, rfl, by rw [H.out]; rfl, (q2.alloc q2.size _)⟩
          · obtain rfl : p = x1 := by omega
            have t1 : decide (p < p) = false := by simp
            have t3 : (p == p) = true := by simp
            have t4 : q ≤ x2 := by omega
            clear hlt hpx
            go_enter Tryz.func66, Tryz.ntmps66
            go_wp2_with (first
              | (go_at_call 92; (with_reducible refine (rVertex_any _ n p (.slice ad es.length c) ad es.length c rfl).mono ?_); rintro e w1 ⟨v, rfl, rfl, hb1⟩; rw [V1.out]; have HG1 := Lib.hid ((HG.out.alloc (.cells #[.int .i64 p, .int .i64 q, .int .i64 m] 81)).below hb1 (Nat.le_refl _)); have HX1 := Lib.hid ((BlkE w n ad es.length c p q m).below hb1 (Nat.le_refl _)); have d0 := HG1.out.cell 0 _ rfl; have d1 := HG1.out.cell 1 _ rfl; have y0 := HX1.out.cell 0 _ rfl; have y1 := HX1.out.cell 1 _ rfl; have y2 := HX1.out.cell 2 _ rfl; have q1 := (HQ.out.alloc HQ.out.size (.cells #[.int .i64 p, .int .i64 q, .int .i64 m] 81)).trans (hb1.mono (by simp; omega)); have hz1 := hb1.size)
              | (go_at_call 92; (with_reducible refine (rVertex_any _ n q (.slice ad es.length c) ad es.length c rfl).mono ?_); rintro e w2 ⟨v, rfl, rfl, hb2⟩; rw [V2.out]; have HG2 := Lib.hid (HG1.out.below hb2 (Nat.le_refl _)); have HX2 := Lib.hid (HX1.out.below hb2 (Nat.le_refl _)); have e0 := HG2.out.cell 0 _ rfl; have e1 := HG2.out.cell 1 _ rfl; have x0 := HX2.out.cell 0 _ rfl; have x1' := HX2.out.cell 1 _ rfl; have x2' := HX2.out.cell 2 _ rfl; have q2 := q1.trans (hb2.mono q1.size); have hz2 := hb2.size; have hk2 := HX2.out.lt; have hk3 := HG2.out.lt; have HBC := fun (u : Nat) => q2.cell (p := ⟨b, u, none⟩) hbl))
            go_ret
            exact ⟨_, rfl, by rw [H.out]; rfl, (q2.alloc q2.size _)⟩
  · have hC2 := HC.out
    rw [if_neg hE] at hC2
    have H := Lib.hid hC2
    have hc : vtx n p = false ∨ (vtx n p = true ∧ vtx n q = false) ∨ (vtx n p = true ∧ vtx n q = true ∧ m < 1) ∨ (vtx n p = true ∧ vtx n q = true ∧ ¬ m < 1 ∧ 50 < m) := by
      cases h1 : vtx n p
      · exact .inl rfl
      · cases h2 : vtx n q
        · exact .inr (.inl ⟨rfl, rfl⟩)
        · simp [eOk, h1, h2] at hE
          by_cases h3 : m < 1
          · exact .inr (.inr (.inl ⟨rfl, rfl, h3⟩))
          · exact .inr (.inr (.inr ⟨rfl, rfl, h3, hE (by omega)⟩))
    clear hC2 hE HC HLA HPR
    rcases hc with h1 | ⟨h1, h2⟩ | ⟨h1, h2, h3⟩ | ⟨h1, h2, h3, h4⟩
    · have V1 := Lib.hid h1
      clear h1
      go_enter Tryz.func66, Tryz.ntmps66
      go_wp2_with (go_at_call 92; (with_reducible refine (rVertex_any _ n p (.slice ad es.length c) ad es.length c rfl).mono ?_); rintro e w1 ⟨v, rfl, rfl, hb1⟩; rw [V1.out]; have HG1 := Lib.hid ((HG.out.alloc (.cells #[.int .i64 p, .int .i64 q, .int .i64 m] 81)).below hb1 (Nat.le_refl _)); have HX1 := Lib.hid ((BlkE w n ad es.length c p q m).below hb1 (Nat.le_refl _)); have d0 := HG1.out.cell 0 _ rfl; have d1 := HG1.out.cell 1 _ rfl; have y0 := HX1.out.cell 0 _ rfl; have y1 := HX1.out.cell 1 _ rfl; have y2 := HX1.out.cell 2 _ rfl; have q1 := (HQ.out.alloc HQ.out.size (.cells #[.int .i64 p, .int .i64 q, .int .i64 m] 81)).trans (hb1.mono (by simp; omega)); have hz1 := hb1.size)
      go_ret
      exact ⟨_, rfl, by rw [H.out]; rfl, q1⟩
    · have V1 := Lib.hid h1; have V2 := Lib.hid h2
      clear h1 h2
      go_enter Tryz.func66, Tryz.ntmps66
      go_wp2_with (first
        | (go_at_call 92; (with_reducible refine (rVertex_any _ n p (.slice ad es.length c) ad es.length c rfl).mono ?_); rintro e w1 ⟨v, rfl, rfl, hb1⟩; rw [V1.out]; have HG1 := Lib.hid ((HG.out.alloc (.cells #[.int .i64 p, .int .i64 q, .int .i64 m] 81)).below hb1 (Nat.le_refl _)); have HX1 := Lib.hid ((BlkE w n ad es.length c p q m).below hb1 (Nat.le_refl _)); have d0 := HG1.out.cell 0 _ rfl; have d1 := HG1.out.cell 1 _ rfl; have y0 := HX1.out.cell 0 _ rfl; have y1 := HX1.out.cell 1 _ rfl; have y2 := HX1.out.cell 2 _ rfl; have q1 := (HQ.out.alloc HQ.out.size (.cells #[.int .i64 p, .int .i64 q, .int .i64 m] 81)).trans (hb1.mono (by simp; omega)); have hz1 := hb1.size)
        | (go_at_call 92; (with_reducible refine (rVertex_any _ n q (.slice ad es.length c) ad es.length c rfl).mono ?_); rintro e w2 ⟨v, rfl, rfl, hb2⟩; rw [V2.out]; have HG2 := Lib.hid (HG1.out.below hb2 (Nat.le_refl _)); have HX2 := Lib.hid (HX1.out.below hb2 (Nat.le_refl _)); have e0 := HG2.out.cell 0 _ rfl; have e1 := HG2.out.cell 1 _ rfl; have x0 := HX2.out.cell 0 _ rfl; have x1' := HX2.out.cell 1 _ rfl; have x2' := HX2.out.cell 2 _ rfl; have q2 := q1.trans (hb2.mono q1.size); have hz2 := hb2.size; have hk2 := HX2.out.lt; have hk3 := HG2.out.lt; have HBC := fun (u : Nat) => q2.cell (p := ⟨b, u, none⟩) hbl))
      go_ret
      exact ⟨_, rfl, by rw [H.out]; rfl, q2⟩
    · have V1 := Lib.hid h1; have V2 := Lib.hid h2
      clear h1 h2
      go_enter Tryz.func66, Tryz.ntmps66
      go_wp2_with (first
        | (go_at_call 92; (with_reducible refine (rVertex_any _ n p (.slice ad es.length c) ad es.length c rfl).mono ?_); rintro e w1 ⟨v, rfl, rfl, hb1⟩; rw [V1.out]; have HG1 := Lib.hid ((HG.out.alloc (.cells #[.int .i64 p, .int .i64 q, .int .i64 m] 81)).below hb1 (Nat.le_refl _)); have HX1 := Lib.hid ((BlkE w n ad es.length c p q m).below hb1 (Nat.le_refl _)); have d0 := HG1.out.cell 0 _ rfl; have d1 := HG1.out.cell 1 _ rfl; have y0 := HX1.out.cell 0 _ rfl; have y1 := HX1.out.cell 1 _ rfl; have y2 := HX1.out.cell 2 _ rfl; have q1 := (HQ.out.alloc HQ.out.size (.cells #[.int .i64 p, .int .i64 q, .int .i64 m] 81)).trans (hb1.mono (by simp; omega)); have hz1 := hb1.size)
        | (go_at_call 92; (with_reducible refine (rVertex_any _ n q (.slice ad es.length c) ad es.length c rfl).mono ?_); rintro e w2 ⟨v, rfl, rfl, hb2⟩; rw [V2.out]; have HG2 := Lib.hid (HG1.out.below hb2 (Nat.le_refl _)); have HX2 := Lib.hid (HX1.out.below hb2 (Nat.le_refl _)); have e0 := HG2.out.cell 0 _ rfl; have e1 := HG2.out.cell 1 _ rfl; have x0 := HX2.out.cell 0 _ rfl; have x1' := HX2.out.cell 1 _ rfl; have x2' := HX2.out.cell 2 _ rfl; have q2 := q1.trans (hb2.mono q1.size); have hz2 := hb2.size; have hk2 := HX2.out.lt; have hk3 := HG2.out.lt; have HBC := fun (u : Nat) => q2.cell (p := ⟨b, u, none⟩) hbl))
      go_ret
      exact ⟨_, rfl, by rw [H.out]; rfl, q2⟩
    · have V1 := Lib.hid h1; have V2 := Lib.hid h2
      clear h1 h2
      go_enter Tryz.func66, Tryz.ntmps66
      go_wp2_with (first
        | (go_at_call 92; (with_reducible refine (rVertex_any _ n p (.slice ad es.length c) ad es.length c rfl).mono ?_); rintro e w1 ⟨v, rfl, rfl, hb1⟩; rw [V1.out]; have HG1 := Lib.hid ((HG.out.alloc (.cells #[.int .i64 p, .int .i64 q, .int .i64 m] 81)).below hb1 (Nat.le_refl _)); have HX1 := Lib.hid ((BlkE w n ad es.length c p q m).below hb1 (Nat.le_refl _)); have d0 := HG1.out.cell 0 _ rfl; have d1 := HG1.out.cell 1 _ rfl; have y0 := HX1.out.cell 0 _ rfl; have y1 := HX1.out.cell 1 _ rfl; have y2 := HX1.out.cell 2 _ rfl; have q1 := (HQ.out.alloc HQ.out.size (.cells #[.int .i64 p, .int .i64 q, .int .i64 m] 81)).trans (hb1.mono (by simp; omega)); have hz1 := hb1.size)
        | (go_at_call 92; (with_reducible refine (rVertex_any _ n q (.slice ad es.length c) ad es.length c rfl).mono ?_); rintro e w2 ⟨v, rfl, rfl, hb2⟩; rw [V2.out]; have HG2 := Lib.hid (HG1.out.below hb2 (Nat.le_refl _)); have HX2 := Lib.hid (HX1.out.below hb2 (Nat.le_refl _)); have e0 := HG2.out.cell 0 _ rfl; have e1 := HG2.out.cell 1 _ rfl; have x0 := HX2.out.cell 0 _ rfl; have x1' := HX2.out.cell 1 _ rfl; have x2' := HX2.out.cell 2 _ rfl; have q2 := q1.trans (hb2.mono q1.size); have hz2 := hb2.size; have hk2 := HX2.out.lt; have hk3 := HG2.out.lt; have HBC := fun (u : Nat) => q2.cell (p := ⟨b, u, none⟩) hbl))
      go_ret
      exact ⟨_, rfl, by rw [H.out]; rfl, q2⟩
set_option maxHeartbeats 2000000 in
theorem rGCheck_any (w : World) (n : Int) (v : Value) (es : List (Int × Int × Int)) (hv : SlK e3 3 w v es) :
    Calls Tryz.prog 40 #[.agg #[.int .i64 n, v]] w (Rets fun r w' => r = .int .i64 (chkG n es) ∧ Below w.heap.size w w') := by
  have HV := Lib.hid hv
  obtain ⟨ad, b, o, c, rfl, hi, hp, hc, hm⟩ := hv.open elemEdge
  unfold maxLen at hm
  clear hv
  have HQ := Lib.hid ((Below.refl w.heap.size w).alloc (Nat.le_refl _) (.cells #[.int .i64 n, .slice ad es.length c] 24))
  have HG := Lib.hid (Blk.new w [.int .i64 n, .slice ad es.length c] 24)
  by_cases h1 : n < 1
  · have H : Hid (chkG n es = 2) := Lib.hid (by simp [chkG, h1])
    go_enter Tryz.func40, Tryz.ntmps40
    go_wp2
    go_ret
    exact ⟨_, rfl, by rw [H.out]; rfl, HQ.out⟩
  by_cases h12 : 12 < n
  · have H : Hid (chkG n es = 2) := Lib.hid (by simp [chkG, h12])
    go_enter Tryz.func40, Tryz.ntmps40
    go_wp2
    go_ret
    exact ⟨_, rfl, by rw [H.out]; rfl, HQ.out⟩
  have H : Hid (chkG n es = estep n (lastE es 0) (es.drop 0)) := Lib.hid (by simp [chkG, h1, h12, lastE])
  have HC := Lib.hid (fun k h => estep_code n es k h)
  obtain ⟨W, hW⟩ : ∃ W, w.alloc (.cells #[.int .i64 n, .slice ad es.length c] 24) = W := ⟨_, rfl⟩
  rw [show [Value.int .i64 n, .slice ad es.length c].toArray = #[Value.int .i64 n, .slice ad es.length c] from rfl, hW] at HG
  rw [hW] at HQ
  have HW := Lib.hid hW
  have B0 := Lib.hid (Below.refl W.heap.size W)
  clear hW
  go_enter Tryz.func40, Tryz.ntmps40
  go_wp2
  rw [HW.out]
  go_loopw [3] (fun i wr => ∃ k : Nat, k ≤ es.length ∧ i = .int .i64 k ∧ Hid (chkG n es = estep n (lastE es k) (es.drop k)) ∧ Hid (Below W.heap.size W wr)) (fun i _ => es.length - (intOf i).toNat)
  case atStart => exact ⟨0, Nat.zero_le _, rfl, H, B0⟩
  case round =>
    clear H B0
    obtain ⟨k, hk, rfl, hH, hB⟩ := hrel
    have hGr := HG.out.below hB.out (Nat.le_refl _)
    have g0 := hGr.cell 0 _ rfl
    have g1 := hGr.cell 1 _ rfl
    have HQW := Lib.hid (HQ.out.trans (hB.out.mono HQ.out.size))
    clear hGr
    by_cases hkn : k < es.length
    · have hst := HC.out k hkn
      rw [← hH.out] at hst
      by_cases hz : ecode n es k = 0
      · rw [if_pos hz] at hst
        have H := Lib.hid hst; have HZ := Lib.hid hz
        clear hst hz hH
        go_wp2_with (go_at_call 66; (with_reducible refine (redge_any _ n _ es (HV.out.below HQW.out (Nat.le_refl _)) k hkn).mono ?_); rintro e w2 ⟨v, rfl, rfl, hb2⟩; rw [HZ.out])
        go_roundw
        case rel => exact ⟨k + 1, by omega, by go_num, H, Lib.hid (hB.out.trans (hb2.mono hB.out.size))⟩
        case measure => simp [intOf]; omega
      · rw [if_neg hz] at hst
        have H := Lib.hid hst
        have hz2 : (ecode n es k != 0) = true := by simp [hz]
        clear hst hz hH
        go_wp2_with (go_at_call 66; (with_reducible refine (redge_any _ n _ es (HV.out.below HQW.out (Nat.le_refl _)) k hkn).mono ?_); rintro e w2 ⟨v, rfl, rfl, hb2⟩)
        go_ret
        exact ⟨_, rfl, by rw [H.out]; rfl, HQW.out.trans (hb2.mono HQW.out.size)⟩
    · obtain rfl : k = es.length := by omega
      have H : Hid (chkG n es = 0) := Lib.hid (by rw [hH.out, estep_end])
      clear hH
      go_wp2
      go_ret
      exact ⟨_, rfl, by rw [H.out]; rfl, HQW.out⟩
end Go.Proofs.YtlnhocgjgmhfgaaGreatDoor

namespace Go.Proofs.YtlnhocgjgmhfgaaGreatDoor
open Go.RowKit
set_option maxRecDepth 100000

/-- A triple of numbers, as ints. -/
def n3 (x : Nat × Nat × Nat) : Int × Int × Int := ((x.1 : Int), (x.2.1 : Int), (x.2.2 : Int))
/-- The single edges (or arcs). -/
def sgl (ns : List (Nat × Nat × Nat)) : List (Nat × Nat) := ns.flatMap fun x => List.replicate x.2.2 (x.1, x.2.1)
def p2 (x : Nat × Nat) : List Value := [.int .i64 (x.1 : Nat), .int .i64 (x.2 : Nat)]
theorem p2_len (x : Nat × Nat) : (p2 x).length = 2 := rfl
theorem p2_one (x : Nat × Nat) : ∀ u ∈ p2 x, u.oneCell' = true := by intro u hu; simp [p2] at hu; rcases hu with rfl | rfl <;> rfl
theorem sgl_take (ns : List (Nat × Nat × Nat)) (k : Nat) (h : k < ns.length) : sgl (ns.take (k + 1)) = sgl (ns.take k) ++ List.replicate ns[k].2.2 (ns[k].1, ns[k].2.1) := by
  unfold sgl; rw [List.take_succ_eq_append_getElem h, List.flatMap_append]; simp
theorem sgl_le (ns : List (Nat × Nat × Nat)) (h : ∀ x ∈ ns, x.2.2 ≤ 50) : ∀ k, (sgl (ns.take k)).length ≤ 50 * ns.length := by
  have key : ∀ l : List (Nat × Nat × Nat), (∀ x ∈ l, x.2.2 ≤ 50) → (sgl l).length ≤ 50 * l.length := by
    intro l
    induction l with
    | nil => intro _; simp [sgl]
    | cons x l ih =>
      intro hl
      have h1 := hl x (by simp)
      have h2 := ih fun y hy => hl y (by simp [hy])
      have e : sgl (x :: l) = List.replicate x.2.2 (x.1, x.2.1) ++ sgl l := by simp [sgl]
      rw [e, List.length_append, List.length_replicate, List.length_cons]; omega
  intro k
  have h1 := key (ns.take k) fun x hx => h x (List.mem_of_mem_take hx)
  have h2 : (ns.take k).length ≤ ns.length := by simp; omega
  omega
theorem flat_snoc {α : Type} (f : α → List Value) (xs : List α) (x : α) : (xs ++ [x]).flatMap f = xs.flatMap f ++ f x := by simp
theorem rep_snoc {α : Type} (l : List α) (j : Nat) (x : α) : l ++ List.replicate (j + 1) x = (l ++ List.replicate j x) ++ [x] := by
  rw [List.replicate_succ', List.append_assoc]

theorem own_baseK {w : World} {b b' e s n : Nat} {v : Value} {ys : List Value} (h : w.ownsRow b e s v n ys) (hb : b' ≤ b) : w.ownsRow b' e s v n ys :=
  ⟨h.1, h.2.imp_right fun ⟨g, cap, cur, h1, h2, r⟩ => ⟨g, cap, cur, h1, Nat.le_trans hb h2, r⟩⟩
theorem own_formK {w : World} {b e s n : Nat} {v : Value} {ys : List Value} (h : w.ownsRow b e s v n ys) : ∃ a c, v = .slice a n c := by
  rcases h.2 with ⟨rfl, h0⟩ | ⟨g, cap, cur, rfl, -⟩
  · subst h0
    exact ⟨_, _, rfl⟩
  · exact ⟨_, _, rfl⟩
/-- Is a graph small, or wrong and short? -/
def smallB (n : Int) (es : List (Int × Int × Int)) (V S : Int) : Bool := if 40 < es.length then false else if chkG n es ≠ 0 then true else decide (n ≤ V) && decide ((((es.map fun x => x.2.2.toNat).sum : Nat) : Int) ≤ S)
/-- A right graph's edges are triples of numbers. -/
theorem estep_ns : ∀ (n : Int) (p : Int × Int) (es : List (Int × Int × Int)), estep n p es = 0 → ∃ ns : List (Nat × Nat × Nat), es = ns.map n3 ∧ (∀ x ∈ ns, (x.1 : Int) < n ∧ (x.2.1 : Int) < n ∧ 1 ≤ x.2.2 ∧ x.2.2 ≤ 50 ∧ x.1 ≤ x.2.1) ∧
      (∀ x ∈ ns, lt2 p ((x.1 : Int), (x.2.1 : Int)) = true) ∧ ns.Pairwise fun x y => x.1 < y.1 ∨ (x.1 = y.1 ∧ x.2.1 < y.2.1)
  | _, _, [], _ => ⟨[], rfl, by simp, by simp, List.Pairwise.nil⟩
  | n, p, x :: l, h => by
    rw [estep] at h
    by_cases h1 : eOk n x = true
    · rw [if_pos h1] at h
      by_cases h2 : x.1 ≤ x.2.1 ∧ lt2 p (x.1, x.2.1) = true
      · rw [if_pos h2] at h
        obtain ⟨ns, e1, e2, e3, e4⟩ := estep_ns n _ l h
        obtain ⟨⟨⟨v1, v2⟩, v3⟩, v4⟩ : ((vtx n x.1 = true ∧ vtx n x.2.1 = true) ∧ 1 ≤ x.2.2) ∧ x.2.2 ≤ 50 := by
          have : (vtx n x.1 = true ∧ vtx n x.2.1 = true) ∧ 1 ≤ x.2.2 ∧ x.2.2 ≤ 50 := by simpa [eOk] using h1
          exact ⟨⟨this.1, this.2.1⟩, this.2.2⟩
        rw [vtx_iff] at v1 v2
        have hx : x = n3 (x.1.toNat, x.2.1.toNat, x.2.2.toNat) := by
          obtain ⟨a, b, c⟩ := x
          simp only [n3, Prod.mk.injEq] at *
          omega
        have hlt : ∀ y ∈ ns, x.1.toNat < y.1 ∨ (x.1.toNat = y.1 ∧ x.2.1.toNat < y.2.1) := fun y hy => by
          have := e3 y hy
          simp only [lt2, decide_eq_true_eq] at this
          omega
        refine ⟨(x.1.toNat, x.2.1.toNat, x.2.2.toNat) :: ns, by rw [List.map_cons, ← hx, ← e1], ?_, ?_, List.pairwise_cons.2 ⟨hlt, e4⟩⟩
        · intro y hy
          rcases List.mem_cons.1 hy with rfl | hy
          · simp only; omega
          · exact e2 y hy
        · intro y hy
          rcases List.mem_cons.1 hy with rfl | hy
          · have := h2.2
            simp only [lt2, decide_eq_true_eq] at this ⊢
            omega
          · have h3 := e3 y hy
            have h4 := h2.2
            simp only [lt2, decide_eq_true_eq] at h3 h4 ⊢
            omega
      · rw [if_neg h2] at h; exact absurd h (by decide)
    · rw [if_neg h1] at h; exact absurd h (by decide)
/-- A right graph. -/
structure RG (n : Int) (es : List (Int × Int × Int)) (ns : List (Nat × Nat × Nat)) : Prop where
  eq : es = ns.map n3
  pos : 1 ≤ n
  le : n ≤ 12
  rng : ∀ x ∈ ns, (x.1 : Int) < n ∧ (x.2.1 : Int) < n ∧ 1 ≤ x.2.2 ∧ x.2.2 ≤ 50 ∧ x.1 ≤ x.2.1
  asc : ns.Pairwise fun x y => x.1 < y.1 ∨ (x.1 = y.1 ∧ x.2.1 < y.2.1)
theorem rg_of {n : Int} {es : List (Int × Int × Int)} (h : chkG n es = 0) : ∃ ns, RG n es ns := by
  unfold chkG at h
  by_cases h1 : n < 1 ∨ 12 < n
  · rw [if_pos h1] at h; exact absurd h (by decide)
  · rw [if_neg h1] at h
    obtain ⟨ns, e1, e2, -, e4⟩ := estep_ns n _ es h
    exact ⟨ns, e1, by omega, by omega, e2, e4⟩
theorem sgl_len (ns : List (Nat × Nat × Nat)) : (sgl ns).length = (ns.map fun x => x.2.2).sum := by
  induction ns with
  | nil => rfl
  | cons x l ih => simp only [sgl, List.flatMap_cons, List.length_append, List.length_replicate, List.map_cons, List.sum_cons] at *; omega
end Go.Proofs.YtlnhocgjgmhfgaaGreatDoor

namespace Go.Proofs.YtlnhocgjgmhfgaaGreatDoor
open Go.RowKit Go.Sort Go.Shelf
set_option maxRecDepth 100000

section
variable {α : Type} [Inhabited α] {enc : α → List Value} {k : Nat}
theorem flatK_eq (hk : ∀ x, (enc x).length = k) (xs : List α) : flatK enc k xs.toArray = (xs.flatMap enc).toArray := by
  apply Array.ext
  · rw [size_flatK, List.size_toArray, List.size_toArray, flat_len hk]
  · intro t h1 h2
    have h3 : t < xs.length * k := by rwa [size_flatK, List.size_toArray] at h1
    have hk0 : 0 < k := by rcases Nat.eq_zero_or_pos k with h | h; · subst h; simp at h3
                           · exact h
    have hq : t / k < xs.length := Nat.div_lt_of_lt_mul (by rw [Nat.mul_comm]; exact h3)
    have hr : t % k < k := Nat.mod_lt _ hk0
    have e : t / k * k + t % k = t := by rw [Nat.mul_comm]; exact Nat.div_add_mod t k
    have h4 := flat_get hk xs (t / k) hq (t % k) hr
    rw [e] at h4
    have h5 := get_flatK enc k xs.toArray t (by rw [List.size_toArray]; exact h3)
    rw [getElem!_pos (flatK enc k xs.toArray) t h1] at h5
    rw [h5]
    have h6 : xs.toArray[t / k]! = xs[t / k] := by rw [getElem!_pos xs.toArray (t / k) (by simpa using hq)]; simp
    rw [h6]
    have h7 : t % k < (enc xs[t / k]).length := by rw [hk]; exact hr
    rw [getElem!_pos (enc xs[t / k]) (t % k) h7]
    have h8 : (xs.flatMap enc).toArray[t] = (xs.flatMap enc)[t]'(by simpa using h2) := by simp
    rw [h8]
    rw [List.getElem?_eq_getElem (by simpa using h2), List.getElem?_eq_getElem h7] at h4
    exact (Option.some.inj h4).symm
theorem heap_sortedK {w : World} {g n : Nat} {os : Array Obj} {cur : Array Value} {e : TypeId} {fr : Nat × Nat} (F : Array Value) (hb : w.heap[g]? = some (.cells cur e fr)) :
    (grow (putRow id (Sort.ahead w n) g 0 F) os).heap[g]? = some (.cells (putCells id 0 F cur) e fr) := by
  have hg : g < w.heap.size := (Array.getElem?_eq_some_iff.1 hb).1
  rw [heap_grow_old _ _ (by simpa using hg)]
  simp [putRow, mapBlock, Sort.ahead, Array.getElem?_modify, hb, onCells]
theorem grownBy_sortedK {w : World} {g n : Nat} {os : Array Obj} (F : Array Value) : w.grownBy (grow (putRow id (Sort.ahead w n) g 0 F) os) (some g) := by
  refine ⟨rfl, rfl, rfl, by simp, fun k hk hne => ?_⟩
  rw [heap_grow_old _ _ (by simpa using hk)]
  have : g ≠ k := fun e => hne (by rw [e])
  simp [putRow, mapBlock, Sort.ahead, Array.getElem?_modify, this]
theorem take_putCellsK (cur F : Array Value) (h : F.size ≤ cur.size) : (putCells id 0 F cur).toList.take F.size = F.toList := by
  apply List.ext_getElem?
  intro j
  by_cases hj : j < F.size
  · rw [List.getElem?_take_of_lt hj, Array.getElem?_toList, Array.getElem?_toList]
    simp [putCells, hj, show j < cur.size by omega]
  · rw [List.getElem?_take_eq_none (by omega), List.getElem?_eq_none (by simp; omega)]
/-- A row of the call's own, sorted by the library: the same elements, in order. -/
theorem sortK {P : Program} {ρ : Ren} (L : SlLaysF0.n6 P ρ) (aE : ∀ w, (isAgg (ρ.t 24)).run P w = .ok true w) (zE : ∀ w, (Go.sizeOf (ρ.t 24)).run P w = .ok k w) (hk : ∀ x, (enc x).length = k) (h1 : ∀ x, ∀ v ∈ enc x, v.oneCell' = true) (cf : α → α → Int) (hO : SWO (ltOf cf)) (g : Nat)
    (eg : ∀ args w, (callFunc g args).run P w = .ok (.enter g args) w) (hcmp : ∀ (W : World) (x y : α), Calls P g #[.agg (enc x).toArray, .agg (enc y).toArray] W fun e w' => e = .returned (.int .i64 (cf x y)) ∧ ∃ q os', w' = grow (W.drewN q) os')
    {w : World} {base e : Nat} {v : Value} {xs : List α} (h : w.ownsRow base e k v xs.length (xs.flatMap enc)) (hsz : xs.length < 4611686018427387904) :
    Calls P (ρ.f 6) #[v, .func (.func g) #[] #[]] w fun en w' => en = .returned (.tuple #[]) ∧ ∃ ys : List α, ys.Perm xs ∧ (ys.Pairwise fun x y => (ltOf cf) y x = false) ∧ w'.ownsRow base e k v ys.length (ys.flatMap enc) ∧ w.grownBy w' v.ownBlock := by
  have hall := h.2
  rcases hall with ⟨rfl, h0⟩ | ⟨b, cap, cur, rfl, hb, hh, hn, hc, hs, ht⟩
  · have hx : xs = [] := List.length_eq_zero_iff.1 h0
    subst hx
    exact (AnyF.slices_SortFunc_none L none 0 _ w).mono fun _ _ ⟨he, hw⟩ => ⟨he, [], List.Perm.refl _, List.Pairwise.nil, by rw [hw]; exact h, by rw [hw]; exact ⟨rfl, rfl, rfl, Nat.le_refl _, fun _ _ _ => rfl⟩⟩
  · have hF : flatK enc k xs.toArray = (xs.flatMap enc).toArray := flatK_eq hk xs
    have hFl : (xs.flatMap enc).length = xs.length * k := flat_len hk xs
    have hH : HoldsK enc k w b 0 xs.toArray := by
      intro j hj
      rw [hF] at hj ⊢
      have hj' : j < (xs.flatMap enc).length := by simpa using hj
      refine ⟨?_, by rw [Nat.zero_add]; exact h.frozenAt j⟩
      rw [Nat.zero_add, h.cellAt j (by omega), List.getElem?_eq_getElem hj', getElem!_pos (xs.flatMap enc).toArray j hj]
      simp
    have hlt : b < w.heap.size := (Array.getElem?_eq_some_iff.1 hh).1
    have hm := AnyQ.slices_SortFunc L k aE zE enc hk h1 cf hO g #[] b 0 cap xs.toArray w eg (fun m os dk _ x y => hcmp _ x y) hH hlt (by simpa using hsz)
    refine hm.mono fun en w' ⟨he, d', n, os, ⟨hp1, hp2, hp3⟩, hso, hw⟩ => ⟨he, d'.toList, ?_, ?_, ?_, ?_⟩
    · have e1 : d'.extract 0 xs.toArray.size = d' := by rw [← hp1]; simp
      have e2 : xs.toArray.extract 0 xs.toArray.size = xs.toArray := by simp
      rw [e1, e2] at hp3
      simpa using hp3
    · rw [List.pairwise_iff_getElem]
      intro i j hi hj hij
      have hi' : i < d'.size := by simpa using hi
      have hj' : j < d'.size := by simpa using hj
      have := hso i j (Nat.zero_le _) hij (by rw [← hp1]; exact hj')
      rw [getElem!_pos d' i hi', getElem!_pos d' j hj'] at this
      simpa using this
    · have hd : d'.toList.length = xs.length := by simpa using hp1
      have hF2 : flatK enc k d' = (d'.toList.flatMap enc).toArray := flatK_eq hk d'.toList
      have hL2 : (d'.toList.flatMap enc).length = xs.length * k := by rw [flat_len hk, hd]
      rw [hw, hd]
      unfold sortWorldK putRowK
      rw [hF2]
      refine ⟨hL2, .inr ⟨b, cap, _, rfl, hb, heap_sortedK _ hh, hn, hc, by simp [putCells, hs], ?_⟩⟩
      have hle : ((d'.toList.flatMap enc).toArray).size ≤ cur.size := by rw [List.size_toArray, hL2, hs]; exact Nat.mul_le_mul_right _ hn
      have := take_putCellsK cur _ hle
      rw [List.size_toArray, hL2] at this
      exact this
    · rw [hw]
      unfold sortWorldK putRowK
      exact grownBy_sortedK _
end
/-- Triples whose first two places are small, in the cells of an arc. -/
def q3 (x : Nat × Nat × Nat) : List Value := [.int .i64 (x.1 % 16 : Nat), .int .i64 (x.2.1 % 16 : Nat), .int .i64 (x.2.2 : Nat)]
def cf3 (x y : Nat × Nat × Nat) : Int := if x.1 % 16 ≠ y.1 % 16 then ((x.1 % 16 : Nat) : Int) - (y.1 % 16 : Nat) else ((x.2.1 % 16 : Nat) : Int) - (y.2.1 % 16 : Nat)
theorem lt3_iff (x y : Nat × Nat × Nat) : ltOf cf3 x y = true ↔ x.1 % 16 < y.1 % 16 ∨ (x.1 % 16 = y.1 % 16 ∧ x.2.1 % 16 < y.2.1 % 16) := by
  unfold ltOf cf3
  simp only [decide_eq_true_eq]
  split <;> omega
theorem lt3_not (x y : Nat × Nat × Nat) : ltOf cf3 x y = false ↔ ¬ (x.1 % 16 < y.1 % 16 ∨ (x.1 % 16 = y.1 % 16 ∧ x.2.1 % 16 < y.2.1 % 16)) := by
  rw [← lt3_iff]; simp
theorem swo3 : SWO (ltOf cf3) where
  irrefl x := by rw [lt3_not]; omega
  trans x y z h1 h2 := by rw [lt3_iff] at *; omega
  ntrans x y z h1 h2 := by rw [lt3_not] at *; omega
theorem q3_len (x : Nat × Nat × Nat) : (q3 x).length = 3 := rfl
theorem q3_one (x : Nat × Nat × Nat) : ∀ v ∈ q3 x, v.oneCell' = true := by intro v hv; simp [q3] at hv; rcases hv with rfl | rfl | rfl <;> rfl
theorem q3_eq (xs : List (Nat × Nat × Nat)) (h : ∀ x ∈ xs, x.1 < 16 ∧ x.2.1 < 16) : xs.flatMap q3 = xs.flatMap (fun x => e3 (n3 x)) := by
  induction xs with
  | nil => rfl
  | cons x l ih =>
    rw [List.flatMap_cons, List.flatMap_cons, ih fun y hy => h y (by simp [hy])]
    have := h x (by simp)
    congr 1
    simp [q3, e3, n3, Nat.mod_eq_of_lt this.1, Nat.mod_eq_of_lt this.2]

set_option maxHeartbeats 400000 in
theorem two1_any (W : World) (x y : Nat × Nat × Nat) : Calls Tryz.prog 39 #[.agg (q3 x).toArray, .agg (q3 y).toArray] W fun e w' => e = .returned (.int .i64 (cf3 x y)) ∧ ∃ q os', w' = grow (W.drewN q) os' := by
  obtain ⟨a, ha⟩ : ∃ a, x.1 % 16 = a := ⟨_, rfl⟩
  obtain ⟨b, hb⟩ : ∃ b, x.2.1 % 16 = b := ⟨_, rfl⟩
  obtain ⟨c, hc⟩ : ∃ c, y.1 % 16 = c := ⟨_, rfl⟩
  obtain ⟨d, hd⟩ : ∃ d, y.2.1 % 16 = d := ⟨_, rfl⟩
  have hA : a < 16 := by omega
  have hB : b < 16 := by omega
  have hC : c < 16 := by omega
  have hD : d < 16 := by omega
  have hcf : cf3 x y = if a ≠ c then (a : Int) - c else (b : Int) - d := by unfold cf3; rw [ha, hb, hc, hd]
  unfold q3
  rw [ha, hb, hc, hd]
  obtain ⟨m, hm⟩ : ∃ m, x.2.2 = m := ⟨_, rfl⟩
  obtain ⟨k, hk⟩ : ∃ m, y.2.2 = m := ⟨_, rfl⟩
  rw [hm, hk]
  show Calls _ _ #[.agg #[.int .i64 (a : Nat), .int .i64 (b : Nat), .int .i64 (m : Nat)], .agg #[.int .i64 (c : Nat), .int .i64 (d : Nat), .int .i64 (k : Nat)]] W _
  clear ha hb hc hd hm hk
  by_cases h : a = c
  · have H : Hid (cf3 x y = (b : Int) - d) := Lib.hid (by rw [hcf, if_neg (by simpa using h)])
    subst h
    clear hcf
    have t : ((a : Int) != (a : Int)) = false := by simp
    go_enter Tryz.func39, Tryz.ntmps39
    go_wp2
    go_ret
    exact ⟨by rw [H.out]; rfl, 0, _, by rw [alloc_eq_grow, alloc_eq_grow, grow_grow]; rfl⟩
  · have H : Hid (cf3 x y = (a : Int) - c) := Lib.hid (by rw [hcf, if_pos h])
    have t : ((a : Int) != (c : Int)) = true := by simp; omega
    clear hcf
    go_enter Tryz.func39, Tryz.ntmps39
    go_wp2
    go_ret
    exact ⟨by rw [H.out]; rfl, 0, _, by rw [alloc_eq_grow, alloc_eq_grow, grow_grow]; rfl⟩
theorem sortArcs {w : World} {base : Nat} {v : Value} {xs : List (Nat × Nat × Nat)} (hx : ∀ x ∈ xs, x.1 < 16 ∧ x.2.1 < 16) (hl : xs.length < 4611686018427387904) (h : w.ownsRow base 83 3 v xs.length (xs.flatMap (fun x => e3 (n3 x)))) :
    Calls Tryz.prog 38 #[v, .func (.func 39) #[] #[]] w fun en w' => en = .returned (.tuple #[]) ∧ ∃ ys : List (Nat × Nat × Nat), ys.Perm xs ∧ (ys.Pairwise fun x y => ¬ (y.1 < x.1 ∨ (y.1 = x.1 ∧ y.2.1 < x.2.1))) ∧ w'.ownsRow base 83 3 v ys.length (ys.flatMap (fun x => e3 (n3 x))) ∧ w.grownBy w' v.ownBlock := by
  rw [← q3_eq xs hx] at h
  have hm := sortK Tryz.sort_Arc Tryz.isAgg83 Tryz.sizeOf83 q3_len q3_one cf3 swo3 39 (enters_of Tryz.func39 (by kernel_rfl) rfl) two1_any h hl
  change Calls Tryz.prog 38 _ _ _ at hm
  refine hm.mono fun en w' ⟨he, ys, hp, hs, ho, hg⟩ => ⟨he, ys, hp, ?_, ?_, hg⟩
  · have hy : ∀ y ∈ ys, y.1 < 16 ∧ y.2.1 < 16 := fun y hy => hx y (hp.mem_iff.1 hy)
    refine List.Pairwise.imp_of_mem ?_ hs
    intro x y h1 h2 h3
    rw [lt3_not, Nat.mod_eq_of_lt (hy x h1).1, Nat.mod_eq_of_lt (hy x h1).2, Nat.mod_eq_of_lt (hy y h2).1, Nat.mod_eq_of_lt (hy y h2).2] at h3
    exact h3
  · rw [← q3_eq ys fun y hy => hx y (hp.mem_iff.1 hy)]; exact ho
end Go.Proofs.YtlnhocgjgmhfgaaGreatDoor

namespace Go.Proofs.YtlnhocgjgmhfgaaGreatDoor
open Go.RowKit
set_option maxRecDepth 100000

/-- The arcs of an edge, in both directions. -/
def tw1 (x : Nat × Nat × Nat) : List (Nat × Nat × Nat) := if x.1 = x.2.1 then [(x.1, x.1, 2 * x.2.2)] else [(x.1, x.2.1, x.2.2), (x.2.1, x.1, x.2.2)]
def tw (ns : List (Nat × Nat × Nat)) : List (Nat × Nat × Nat) := ns.flatMap tw1
theorem tw_take (ns : List (Nat × Nat × Nat)) (k : Nat) (h : k < ns.length) : tw (ns.take (k + 1)) = tw (ns.take k) ++ tw1 ns[k] := by
  unfold tw; rw [List.take_succ_eq_append_getElem h, List.flatMap_append]; simp
theorem tw_len (ns : List (Nat × Nat × Nat)) : (tw ns).length ≤ 2 * ns.length := by
  induction ns with
  | nil => simp [tw]
  | cons x l ih =>
    have e : tw (x :: l) = tw1 x ++ tw l := by simp [tw]
    have : (tw1 x).length ≤ 2 := by unfold tw1; split <;> simp
    rw [e, List.length_append, List.length_cons]; omega
/-- The cells of a triple of numbers. -/
def t3 (x : Nat × Nat × Nat) : List Value := e3 (n3 x)
theorem t3_len (x : Nat × Nat × Nat) : (t3 x).length = 3 := rfl
theorem t3_one (x : Nat × Nat × Nat) : ∀ u ∈ t3 x, u.oneCell' = true := e3_one _
theorem own_otherK {w : World} {b e s n g j : Nat} {u v : Value} {ys : List Value} (h : w.ownsRow b e s v n ys) (hne : v.ownBlock ≠ some g) : (w.setCell ⟨g, j, none⟩ u).ownsRow b e s v n ys := by
  refine ⟨h.1, h.2.imp_right fun ⟨g', cap, cur, h1, h2, h3, r⟩ => ⟨g', cap, cur, h1, h2, ?_, r⟩⟩
  have : g' ≠ g := fun e2 => hne (by rw [h1, e2]; rfl)
  exact (Below.heap_setCell _ _ _ _ this).trans h3
theorem own_ge {w : World} {b e s n : Nat} {v : Value} {ys : List Value} (h : w.ownsRow b e s v n ys) : ∀ g, v.ownBlock = some g → b ≤ g := fun g e => by
  rcases h.2 with ⟨rfl, -⟩ | ⟨g', cap, cur, rfl, hb, -⟩
  · simp [Value.ownBlock] at e
  · simp [Value.ownBlock] at e; omega

set_option maxHeartbeats 4000000 in
theorem TwoWay_ok (w : World) (n : Int) (v : Value) (es : List (Int × Int × Int)) (ns : List (Nat × Nat × Nat)) (hv : SlK e3 3 w v es) (hR : RG n es ns) (hc : chkG n es = 0) (hb : ∀ x ∈ ns, x.1 = x.2.1 → 2 * x.2.2 ≤ 50) (hl : ns.length ≤ 100000) :
    Calls Tryz.prog 9 #[.agg #[.int .i64 n, v]] w (Rets fun r w' => ∃ u ys, r = .tuple #[.agg #[.int .i64 n, u], .int .i64 0] ∧ List.Perm ys (tw ns) ∧ (ys.Pairwise fun x y => ¬ (y.1 < x.1 ∨ (y.1 = x.1 ∧ y.2.1 < x.2.1))) ∧ w'.ownsRow w.heap.size 83 3 u ys.length (ys.flatMap t3) ∧ Below w.heap.size w w') := by
  have hnl : es.length = ns.length := by rw [hR.eq, List.length_map]
  have HV := Lib.hid hv
  obtain ⟨ad, b, o, c, rfl, hi, hp, hcl, hcm⟩ := hv.open elemEdge
  unfold maxLen at hcm
  have hx : ∀ k (h : k < ns.length) (h' : k < es.length), es[k] = n3 ns[k] := fun k h h' => by simp [hR.eq]
  have HX := Lib.hid hx; have HBG := Lib.hid hb; have HC := Lib.hid hc; have HNL := Lib.hid hnl
  have HQ := Lib.hid ((Below.refl w.heap.size w).alloc (Nat.le_refl _) (.cells #[.int .i64 n, .slice ad es.length c] 24))
  have HG := Lib.hid (Blk.new w [.int .i64 n, .slice ad es.length c] 24)
  have q1 := ((Below.refl w.heap.size w).alloc (Nat.le_refl _) (.cells #[.int .i64 n, .slice ad es.length c] 24)).alloc (by simp) (.cells #[.int .i64 0, .slice none 0 0] 28)
  have HG1 := Lib.hid (HG.out.alloc (.cells #[.int .i64 0, .slice none 0 0] 28))
  have HR1 := Lib.hid (show Blk ((w.alloc (.cells #[.int .i64 n, .slice ad es.length c] 24)).alloc (.cells #[.int .i64 0, .slice none 0 0] 28)) (w.heap.size + 1) [.int .i64 0, .slice none 0 0] 28 by
    have := Blk.new (w.alloc (.cells #[.int .i64 n, .slice ad es.length c] 24)) [.int .i64 0, .slice none 0 0] 28
    rwa [World.size_alloc] at this)
  have HRNG := Lib.hid (show ∀ x ∈ tw ns, x.1 < 16 ∧ x.2.1 < 16 from fun x hx => by
    simp only [tw, List.mem_flatMap] at hx
    obtain ⟨y, hy, hx⟩ := hx
    have h1 := hR.rng y hy
    have h2 := hR.le
    unfold tw1 at hx
    split at hx
    · simp at hx; subst hx; simp only; omega
    · simp at hx; rcases hx with rfl | rfl <;> (simp only; omega))
  have HM := Lib.hid (show ∀ x ∈ ns, x.2.2 ≤ 50 from fun x hx => (hR.rng x hx).2.2.2.1)
  clear hv hR hc hb hx hnl
  go_enter Tryz.func9, Tryz.ntmps9
  go_wp2_with (go_at_call 37; (with_reducible refine (GCheck_any _ n _ es (HV.out.below q1 (Nat.le_refl _))).mono ?_); rintro e w1 ⟨v, rfl, rfl, hb1⟩; rw [HC.out]; have HG2 := Lib.hid (HG1.out.below hb1 (Nat.le_refl _)); have HR2 := Lib.hid (HR1.out.below hb1 (Nat.le_refl _)); have g0 := HG2.out.cell 0 _ rfl; have g1 := HG2.out.cell 1 _ rfl; have Q1 := Lib.hid (q1.trans (hb1.mono q1.size)); have hlg := HG2.out.lt; have hlr := HR2.out.lt; have hzw := Q1.out.size)
  have HW1 := Lib.hid hlr
  obtain ⟨D, hD⟩ : ∃ D, w1.heap.size = D := ⟨_, rfl⟩
  have HD := Lib.hid (Blk.new w1 [.int .i64 n, .slice none 0 0] 28)
  have HDB := Lib.hid ((Below.refl w1.heap.size w1).alloc (Nat.le_refl _) (.cells #[.int .i64 n, .slice none 0 0] 28))
  rw [hD] at HD ⊢
  have HDD := Lib.hid hD
  have O0 : Hid ((w1.alloc (.cells #[.int .i64 n, .slice none 0 0] 28)).ownsRow (D + 1) 83 3 (.slice none 0 0) (tw (ns.take 0)).length ((tw (ns.take 0)).flatMap t3)) := Lib.hid (World.ownsRow_nil _ _ _ _)
  clear hb1 g0 g1 hlg hlr hD hzw q1
  go_loopw [20] (fun i wr => ∃ (k : Nat) (U : Value), k ≤ ns.length ∧ i = .int .i64 k ∧ Hid (Blk wr D [.int .i64 n, U] 28) ∧ Hid (wr.ownsRow (D + 1) 83 3 U (tw (ns.take k)).length ((tw (ns.take k)).flatMap t3)) ∧ Hid (Below w1.heap.size w1 wr)) (fun i _ => ns.length - (intOf i).toNat)
  case atStart => exact ⟨0, .slice none 0 0, Nat.zero_le _, rfl, HD, O0, HDB⟩
  case round =>
    clear HD O0 HDB
    obtain ⟨k, U, hk, rfl, hD, hO, hB⟩ := hrel
    obtain ⟨ua, uc, rfl⟩ := own_formK hO.out
    have hqw := Q1.out.trans (hB.out.mono Q1.out.size)
    have HQW := Lib.hid hqw
    have hld := hD.out.lt
    have d0 := hD.out.cell 0 _ rfl
    have d1 := hD.out.cell 1 _ rfl
    by_cases hkn : k < ns.length
    · have hke : k < es.length := by rw [HNL.out]; exact hkn
      have hkz : (k : Int) < (es.length : Int) := by omega
      have hx3 := HX.out k hkn hke
      have HTK := Lib.hid (tw_take ns k hkn)
      have hmm := HM.out _ (List.getElem_mem hkn)
      have hbb := HBG.out _ (List.getElem_mem hkn)
      have hlt := tw_len (ns.take k)
      have hlt2 : (ns.take k).length ≤ ns.length := by simp; omega
      obtain ⟨⟨p, q, m⟩, hx⟩ : ∃ x, ns[k] = x := ⟨_, rfl⟩
      rw [hx] at hx3 HTK hmm hbb
      simp only at hmm hbb
      have a0 : wr.cell? ⟨b, o + k * 3, none⟩ = some (.int .i64 (p : Nat)) := hp.at hqw (Nat.le_refl _) k hke 0 _ (by rw [hx3]; rfl)
      have a1 : wr.cell? ⟨b, o + k * 3 + 1, none⟩ = some (.int .i64 (q : Nat)) := hp.at hqw (Nat.le_refl _) k hke 1 _ (by rw [hx3]; rfl)
      have a2 : wr.cell? ⟨b, o + k * 3 + 2, none⟩ = some (.int .i64 (m : Nat)) := hp.at hqw (Nat.le_refl _) k hke 2 _ (by rw [hx3]; rfl)
      have hlb := (hp.below hqw (Nat.le_refl _)).1 (by omega)
      obtain ⟨T, hT⟩ : ∃ T, tw (ns.take k) = T := ⟨_, rfl⟩
      rw [hT] at hO HTK hlt d1 hD
      have HO1 := Lib.hid (hO.out.alloc (.cells #[.int .i64 (p : Nat), .int .i64 (q : Nat), .int .i64 (m : Nat)] 81))
      have HDK := Lib.hid hD.out
      have b0 := Lib.hid ((Below.refl (D + 1) wr).alloc hld (.cells #[.int .i64 (p : Nat), .int .i64 (q : Nat), .int .i64 (m : Nat)] 81))
      have hsz : D + 1 ≤ (wr.alloc (.cells #[.int .i64 (p : Nat), .int .i64 (q : Nat), .int .i64 (m : Nat)] 81)).heap.size := by simp; omega
      have HSZ := Lib.hid hsz
      have HBB := Lib.hid hB.out
      clear hx hx3 hT hqw hsz hO hD
      by_cases hpq : p = q
      · subst hpq
        have hm2 : 2 * m ≤ 50 := hbb rfl
        have ht1 : tw1 (p, p, m) = [(p, p, 2 * m)] := by simp [tw1]
        have e1 : ((p : Int) == (p : Int)) = true := by simp
        have e2 : ¬ (50 : Int) < 2 * (m : Int) := by omega
        have HT1 := Lib.hid ht1
        have HNE := Lib.hid (show t3 (p, p, 2 * m) = [.int .i64 (p : Nat), .int .i64 (p : Nat), .int .i64 (2 * (m : Int))] by simp [t3, e3, n3])
        clear ht1 hbb
        go_wp2_with (at_builtin; go_loud (refine appM (m := 1) (news := [.int .i64 (p : Nat), .int .i64 (p : Nat), .int .i64 (2 * (m : Int))]) elemArc rfl (.tmp 35) (.tmp 44) rfl (by rfl) (by rw [World.size_alloc]; rfl) HO1.out b0.out (Nat.le_refl _) HSZ.out rfl (by intro u hu; simp at hu; rcases hu with rfl | rfl <;> rfl) (by omega) (by unfold maxLen; omega) ?_); intro v' w5 hown' hb'; obtain ⟨va, vc, rfl⟩ := own_formK hown'; have HDK5 := Lib.hid (show Blk w5 D [.int .i64 n, .slice ua T.length uc] 28 from (hb'.block D (Nat.lt_succ_self _)).trans HDK.out); have HO5 := Lib.hid hown'; have HB5 := Lib.hid hb'; clear hown'; have f1 := HDK5.out.free 1; have k1 := HDK5.out.cell 1 _ rfl)
        have HD6 := Lib.hid (HDK5.out.set 1 (.slice va (T.length + 1) vc))
        have HO6 := Lib.hid (own_otherK (g := D) (j := 1) (u := .slice va (T.length + 1) vc) HO5.out (fun e => absurd (own_ge HO5.out _ e) (by omega)))
        have HB6 := Lib.hid ((HBB.out.trans (HB5.out.mono (show w1.heap.size ≤ D + 1 by have := HDD.out; omega))).setCell (p := ⟨D, 1, none⟩) (show w1.heap.size ≤ D from Nat.le_of_eq HDD.out) (.slice va (T.length + 1) vc))
        clear f1 k1 hb'
        go_wp2
        go_roundw
        case rel => exact ⟨k + 1, .slice va (T.length + 1) vc, by omega, by go_num, HD6, Lib.hid (by rw [HTK.out, HT1.out, List.length_append, List.flatMap_append, show [(p, p, 2 * m)].flatMap t3 = [.int .i64 (p : Nat), .int .i64 (p : Nat), .int .i64 (2 * (m : Int))] from HNE.out]; exact HO6.out), HB6⟩
        case measure => simp [intOf]; omega
      · have ht1 : tw1 (p, q, m) = [(p, q, m), (q, p, m)] := by simp [tw1, hpq]
        have e1 : ((p : Int) == (q : Int)) = false := by simp; omega
        have HT1 := Lib.hid ht1
        have HNE : Hid ([(p, q, m), (q, p, m)].flatMap t3 = [.int .i64 (p : Nat), .int .i64 (q : Nat), .int .i64 (m : Nat), .int .i64 (q : Nat), .int .i64 (p : Nat), .int .i64 (m : Nat)]) := Lib.hid rfl
        clear ht1 hbb hpq
        go_wp2_with (at_builtin; go_loud (refine appM (m := 2) (news := [.int .i64 (p : Nat), .int .i64 (q : Nat), .int .i64 (m : Nat), .int .i64 (q : Nat), .int .i64 (p : Nat), .int .i64 (m : Nat)]) elemArc rfl (.tmp 48) (.tmp 63) rfl (by rfl) (by rw [World.size_alloc]; rfl) HO1.out b0.out (Nat.le_refl _) HSZ.out rfl (by intro u hu; simp only [List.mem_cons, List.not_mem_nil, or_false] at hu; rcases hu with rfl | rfl | rfl | rfl | rfl | rfl <;> rfl) (by omega) (by unfold maxLen; omega) ?_); intro v' w5 hown' hb'; obtain ⟨va, vc, rfl⟩ := own_formK hown'; have HDK5 := Lib.hid (show Blk w5 D [.int .i64 n, .slice ua T.length uc] 28 from (hb'.block D (Nat.lt_succ_self _)).trans HDK.out); have HO5 := Lib.hid hown'; have HB5 := Lib.hid hb'; clear hown'; have f1 := HDK5.out.free 1; have k1 := HDK5.out.cell 1 _ rfl)
        have HD6 := Lib.hid (HDK5.out.set 1 (.slice va (T.length + 2) vc))
        have HO6 := Lib.hid (own_otherK (g := D) (j := 1) (u := .slice va (T.length + 2) vc) HO5.out (fun e => absurd (own_ge HO5.out _ e) (by omega)))
        have HB6 := Lib.hid ((HBB.out.trans (HB5.out.mono (show w1.heap.size ≤ D + 1 by have := HDD.out; omega))).setCell (p := ⟨D, 1, none⟩) (show w1.heap.size ≤ D from Nat.le_of_eq HDD.out) (.slice va (T.length + 2) vc))
        clear f1 k1 hb'
        go_wp2
        go_roundw
        case rel => exact ⟨k + 1, .slice va (T.length + 2) vc, by omega, by go_num, HD6, Lib.hid (by rw [HTK.out, HT1.out, List.length_append, List.flatMap_append, show [(p, q, m), (q, p, m)].flatMap t3 = [.int .i64 (p : Nat), .int .i64 (q : Nat), .int .i64 (m : Nat), .int .i64 (q : Nat), .int .i64 (p : Nat), .int .i64 (m : Nat)] from HNE.out]; exact HO6.out), HB6⟩
        case measure => simp [intOf]; omega
    · obtain rfl : k = ns.length := by omega
      have hkz : ¬ (ns.length : Int) < (es.length : Int) := by have := HNL.out; omega
      rw [List.take_length] at hO d1 hD
      have hlt := tw_len ns
      have HRr := Lib.hid (HR2.out.below hB.out (Nat.le_refl _))
      obtain ⟨T, hT⟩ : ∃ T, tw ns = T := ⟨_, rfl⟩
      have hrg := HRNG.out
      rw [hT] at hO hlt d1 hD hrg
      have HT := Lib.hid hT; have HRG := Lib.hid hrg
      have HO := Lib.hid hO.out; have HDr := Lib.hid hD.out
      have hTL : T.length < 4611686018427387904 := by omega
      have hRl : w.heap.size + 1 < D := by rw [← HDD.out]; exact HW1.out
      have HRL := Lib.hid hRl
      clear hT hrg hO hD hqw
      go_wp2_with (go_at_call 38; (with_reducible refine (sortArcs HRG.out hTL HO.out).mono ?_); rintro e w2 ⟨rfl, ys, hp1, hp2, hown2, hg2⟩; have HP1 := Lib.hid hp1; have HP2 := Lib.hid hp2; have HO2 := Lib.hid hown2; have HG2 := Lib.hid hg2; clear hp1 hp2 hown2 hg2; have HD2 := Lib.hid (show Blk w2 D [.int .i64 n, .slice ua T.length uc] 28 from (HG2.out.block D hld (fun e => by have := own_ge HO.out _ e.symm; omega)).trans HDr.out); have HR3 := Lib.hid (show Blk w2 (w.heap.size + 1) [.int .i64 0, .slice none 0 0] 28 from (HG2.out.block (w.heap.size + 1) (by omega) (fun e => by have := own_ge HO.out _ e.symm; omega)).trans HRr.out); have e0 := HD2.out.cell 0 _ rfl; have e1 := HD2.out.cell 1 _ rfl; have r0 := HR3.out.cell 0 _ rfl; have r1 := HR3.out.cell 1 _ rfl; have f0 := HR3.out.free 0; have f1 := HR3.out.free 1)
      have HR4 := Lib.hid ((HR3.out.set 0 (.int .i64 n)).set 1 (.slice ua T.length uc))
      have hg := HG2.out
      have hbw := hB.out.grown hg hB.out.size (fun j e => by have := own_ge HO.out _ e; have := HDD.out; omega)
      have hpl := HP1.out.length_eq
      have hO4 : ((w2.setCell ⟨w.heap.size + 1, 0, none⟩ (.int .i64 n)).setCell ⟨w.heap.size + 1, 1, none⟩ (.slice ua T.length uc)).ownsRow w.heap.size 83 3 (.slice ua T.length uc) ys.length (ys.flatMap t3) :=
        own_baseK (own_otherK (own_otherK HO2.out (fun e => by have := own_ge HO2.out _ e; omega)) (fun e => by have := own_ge HO2.out _ e; omega)) (by omega)
      have hB4 := ((Q1.out.trans (hbw.mono Q1.out.size)).setCell (p := ⟨w.heap.size + 1, 0, none⟩) (by simp) (.int .i64 n)).setCell (p := ⟨w.heap.size + 1, 1, none⟩) (by simp) (.slice ua T.length uc)
      obtain ⟨w4, hw4⟩ : ∃ w4, (w2.setCell ⟨w.heap.size + 1, 0, none⟩ (.int .i64 n)).setCell ⟨w.heap.size + 1, 1, none⟩ (.slice ua T.length uc) = w4 := ⟨_, rfl⟩
      rw [hw4] at HR4 hO4 hB4 ⊢
      have z0 := HR4.out.cell 0 _ rfl
      have z1 := HR4.out.cell 1 _ rfl
      have hp5 : List.Perm ys (tw ns) := by rw [HT.out]; exact HP1.out
      exact bodyPost_ret (v := .tuple #[.agg #[.int .i64 n, .slice ua T.length uc], .int .i64 0]) (by simp [results, Tryz.results9, go_sem, z0, z1]) rfl ⟨_, rfl, _, ys, rfl, hp5, HP2.out, hO4, hB4⟩
end Go.Proofs.YtlnhocgjgmhfgaaGreatDoor
