/- Plain arithmetic: numbers as lists of digits in a base, the least one first. Nothing of the program is imported. Small words for the walks: a slice value that reads as a list. -/
import Derived.Test.YtlnhocgjgmhfgaaGreatDoorProg
import Derived.WalkKit
import Derived.WalkSpells
import Derived.WalkLawsBesides
import Derived.BigQuiet
import Derived.Deep.QuietTactic
import Derived.Deep.RegionHeld3
import Derived.Deep.RegionWith
import Derived.Deep.RegionLaw
import Derived.Deep.DeepFit
import Derived.Deep.DeepCutAuto
import Derived.Deep.CutBlock
import Derived.Deep.LoopGhost
import Derived.Handy
import Derived.IntWalk
import Derived.Lib.Hide
import Derived.Laws.CopyOwn
import Derived.Maps.AppendAt
namespace Go.Proofs.YtlnhocgjgmhfgaaGreatDoor

/-- The number with these digits, the least one first. -/
def val (B : Nat) : List Nat → Nat
  | [] => 0
  | a :: l => a + B * val B l

/-- The digits of a number, the least one first, no zero at the end. -/
def digs (B n : Nat) : List Nat :=
  if _h : 2 ≤ B ∧ 0 < n then n % B :: digs B (n / B) else []
termination_by n
decreasing_by exact Nat.div_lt_self _h.2 (by omega)

def trim (l : List Nat) : List Nat := (l.reverse.dropWhile (· == 0)).reverse

theorem trim_le (l : List Nat) : (trim l).length ≤ l.length := by
  unfold trim; have := (List.dropWhile_sublist (l := l.reverse) (· == 0)).length_le; simpa using this
theorem trim_nil : trim [] = [] := rfl
theorem trim_snoc_zero (l : List Nat) : trim (l ++ [0]) = trim l := by unfold trim; simp
theorem trim_snoc (l : List Nat) (a : Nat) (h : a ≠ 0) : trim (l ++ [a]) = l ++ [a] := by unfold trim; simp [h]
theorem list_snoc {α : Type} (l : List α) : l = [] ∨ ∃ m a, l = m ++ [a] := by
  rcases List.eq_nil_or_concat l with h | ⟨m, a, h⟩
  · exact .inl h
  · exact .inr ⟨m, a, by simpa using h⟩
theorem snoc_ind {α : Type} {P : List α → Prop} (h0 : P []) (hs : ∀ l a, P l → P (l ++ [a])) (l : List α) : P l := by
  have : ∀ n (l : List α), l.length = n → P l := by
    intro n
    induction n with
    | zero => intro l h; rw [List.length_eq_zero_iff.1 h]; exact h0
    | succ n ih =>
      intro l h
      rcases list_snoc l with rfl | ⟨m, a, rfl⟩
      · exact h0
      · exact hs m a (ih m (by simp at h; omega))
  exact this _ l rfl

theorem val_append (B : Nat) (l m : List Nat) : val B (l ++ m) = val B l + B ^ l.length * val B m := by
  induction l with
  | nil => simp [val]
  | cons a l ih => simp only [List.cons_append, val, ih, List.length_cons, Nat.pow_succ, Nat.mul_add]; rw [Nat.add_assoc]; congr 2; rw [Nat.mul_comm (B ^ l.length) B, Nat.mul_assoc]
theorem val_snoc (B : Nat) (l : List Nat) (a : Nat) : val B (l ++ [a]) = val B l + B ^ l.length * a := by
  rw [val_append]; simp [val]
theorem val_trim (B : Nat) (l : List Nat) : val B (trim l) = val B l := by
  refine snoc_ind (P := fun l => val B (trim l) = val B l) rfl (fun l a ih => ?_) l
  by_cases h : a = 0
  · subst h; rw [trim_snoc_zero, ih, val_snoc]; simp
  · rw [trim_snoc l a h]
theorem mem_trim {l : List Nat} {a : Nat} (h : a ∈ trim l) : a ∈ l := by
  unfold trim at h
  simp only [List.mem_reverse] at h
  simpa using (List.dropWhile_sublist (l := l.reverse) (· == 0)).subset h
theorem trim_last (l : List Nat) : (trim l).getLast? ≠ some 0 := by
  refine snoc_ind (P := fun l => (trim l).getLast? ≠ some 0) (by simp [trim]) (fun l a ih => ?_) l
  by_cases h : a = 0
  · subst h; rw [trim_snoc_zero]; exact ih
  · rw [trim_snoc l a h]; simp [h]

theorem val_lt (B : Nat) (l : List Nat) (h : ∀ a ∈ l, a < B) : val B l < B ^ l.length := by
  induction l with
  | nil => simp [val]
  | cons a l ih =>
    have h1 := h a (by simp)
    have h2 := ih (fun b hb => h b (by simp [hb]))
    simp only [val, List.length_cons, Nat.pow_succ]
    calc a + B * val B l < B + B * val B l := by omega
      _ = B * (val B l + 1) := by rw [Nat.mul_add, Nat.mul_one, Nat.add_comm]
      _ ≤ B * B ^ l.length := Nat.mul_le_mul_left _ h2
      _ = B ^ l.length * B := Nat.mul_comm _ _

theorem digs_zero (B : Nat) : digs B 0 = [] := by rw [digs]; simp
theorem digs_pos (B n : Nat) (hB : 2 ≤ B) (hn : 0 < n) : digs B n = n % B :: digs B (n / B) := by rw [digs]; simp [hB, hn]
theorem digs_cons (B a m : Nat) (hB : 2 ≤ B) (ha : a < B) (h : 0 < a + B * m) : digs B (a + B * m) = a :: digs B m := by
  rw [digs_pos B _ hB h, Nat.add_mul_mod_self_left, Nat.mod_eq_of_lt ha, Nat.add_mul_div_left _ _ (by omega), Nat.div_eq_of_lt ha, Nat.zero_add]

theorem val_digs (B n : Nat) (hB : 2 ≤ B) : val B (digs B n) = n := by
  induction n using Nat.strongRecOn with
  | _ n ih =>
    by_cases hn : n = 0
    · subst hn; rw [digs_zero]; rfl
    · rw [digs_pos B n hB (by omega), val, ih (n / B) (Nat.div_lt_self (by omega) (by omega)), Nat.mod_add_div]
theorem digs_lt (B n : Nat) (hB : 2 ≤ B) : ∀ a ∈ digs B n, a < B := by
  induction n using Nat.strongRecOn with
  | _ n ih =>
    by_cases hn : n = 0
    · subst hn; rw [digs_zero]; simp
    · rw [digs_pos B n hB (by omega)]
      intro a ha
      rcases List.mem_cons.1 ha with rfl | ha
      · exact Nat.mod_lt _ (by omega)
      · exact ih (n / B) (Nat.div_lt_self (by omega) (by omega)) a ha
theorem digs_nil {B n : Nat} (hB : 2 ≤ B) : digs B n = [] ↔ n = 0 := by
  constructor
  · intro h; have := val_digs B n hB; rw [h] at this; exact this.symm
  · rintro rfl; exact digs_zero B
/-- Digits below the base, none 0 at the end: these are the digits of their number. -/
theorem digs_val (B : Nat) (l : List Nat) (hB : 2 ≤ B) (h : ∀ a ∈ l, a < B) (hl : l.getLast? ≠ some 0) : digs B (val B l) = l := by
  induction l with
  | nil => simp [val, digs_zero]
  | cons a l ih =>
    have h1 := h a (by simp)
    have h2 : ∀ b ∈ l, b < B := fun b hb => h b (by simp [hb])
    by_cases hn : l = []
    · subst hn
      have ha : a ≠ 0 := by simpa using hl
      simp only [val, Nat.mul_zero, Nat.add_zero]
      rw [digs_pos B a hB (by omega), Nat.mod_eq_of_lt h1, Nat.div_eq_of_lt h1, digs_zero]
    · have hl' : l.getLast? ≠ some 0 := by rw [List.getLast?_cons] at hl; cases hg : l.getLast? with
        | none => simp
        | some b => rw [hg] at hl; simpa using hl
      have e := ih h2 hl'
      have hp : 0 < val B l := by
        rcases Nat.eq_zero_or_pos (val B l) with h0 | h0
        · rw [h0, digs_zero] at e; exact absurd e.symm hn
        · exact h0
      rw [val, digs_cons B a _ hB h1 (by have := Nat.mul_pos (show 0 < B by omega) hp; omega), e]
theorem digs_last (B n : Nat) (hB : 2 ≤ B) : (digs B n).getLast? ≠ some 0 := by
  induction n using Nat.strongRecOn with
  | _ n ih =>
    by_cases hn : n = 0
    · subst hn; rw [digs_zero]; simp
    · rw [digs_pos B n hB (by omega), List.getLast?_cons]
      have := ih (n / B) (Nat.div_lt_self (by omega) (by omega))
      cases hg : (digs B (n / B)).getLast? with
      | none =>
        have h0 : n / B = 0 := (digs_nil hB).1 (by simpa using hg)
        have h1 : n < B := by rcases Nat.lt_or_ge n B with h | h
                              · exact h
                              · have := Nat.div_pos h (by omega); omega
        simp [Nat.mod_eq_of_lt h1, hn]
      | some b => rw [hg] at this; simpa using this
theorem trim_eq (B : Nat) (l : List Nat) (hB : 2 ≤ B) (h : ∀ a ∈ l, a < B) : trim l = digs B (val B l) := by
  rw [← val_trim B l]
  exact (digs_val B (trim l) hB (fun a ha => h a (mem_trim ha)) (trim_last l)).symm
theorem trim_of (B : Nat) (l : List Nat) (n : Nat) (hB : 2 ≤ B) (h : ∀ a ∈ l, a < B) (hv : val B l = n) : trim l = digs B n := by
  rw [trim_eq B l hB h, hv]
theorem digs_len (B n k : Nat) (hB : 2 ≤ B) : (digs B n).length ≤ k ↔ n < B ^ k := by
  induction k generalizing n with
  | zero =>
    constructor
    · intro h; have := (digs_nil hB).1 (List.length_eq_zero_iff.1 (Nat.le_zero.1 h)); subst this; simp
    · intro h; have : n = 0 := by simpa using h
      subst this; simp [digs_zero]
  | succ k ih =>
    by_cases hn : n = 0
    · subst hn; simp only [digs_zero, List.length_nil, Nat.zero_le, true_iff]; exact Nat.pow_pos (by omega)
    · rw [digs_pos B n hB (by omega), List.length_cons, Nat.add_le_add_iff_right, ih, Nat.pow_succ, Nat.div_lt_iff_lt_mul (by omega)]
theorem lt_pow_len (B n : Nat) (hB : 2 ≤ B) : n < B ^ (digs B n).length := (digs_len B n _ hB).1 (Nat.le_refl _)
theorem pow_len_le (B n : Nat) (hB : 2 ≤ B) (hn : 0 < n) : B ^ ((digs B n).length - 1) ≤ n := by
  rcases Nat.lt_or_ge n (B ^ ((digs B n).length - 1)) with h | h
  · have h1 := (digs_len B n _ hB).2 h
    have : 0 < (digs B n).length := by
      rcases Nat.eq_zero_or_pos (digs B n).length with h0 | h0
      · have := (digs_nil hB).1 (List.length_eq_zero_iff.1 h0); omega
      · exact h0
    omega
  · exact h
theorem digs_len_add (B a b : Nat) (hB : 2 ≤ B) : (digs B (a + b)).length ≤ max (digs B a).length (digs B b).length + 1 := by
  rw [digs_len _ _ _ hB, Nat.pow_succ]
  have h1 := lt_pow_len B a hB
  have h2 := lt_pow_len B b hB
  have h3 : B ^ (digs B a).length ≤ B ^ max (digs B a).length (digs B b).length := Nat.pow_le_pow_right (by omega) (by omega)
  have h4 : B ^ (digs B b).length ≤ B ^ max (digs B a).length (digs B b).length := Nat.pow_le_pow_right (by omega) (by omega)
  have h5 := Nat.mul_le_mul_left (B ^ max (digs B a).length (digs B b).length) hB
  omega
theorem digs_len_mul (B a b : Nat) (hB : 2 ≤ B) : (digs B (a * b)).length ≤ (digs B a).length + (digs B b).length := by
  rw [digs_len _ _ _ hB, Nat.pow_add]
  have h1 := lt_pow_len B a hB
  have h2 := lt_pow_len B b hB
  exact Nat.mul_lt_mul'' h1 h2
theorem digs_len_mono (B : Nat) {a b : Nat} (hB : 2 ≤ B) (h : a ≤ b) : (digs B a).length ≤ (digs B b).length := by
  rw [digs_len _ _ _ hB]; exact Nat.lt_of_le_of_lt h (lt_pow_len B b hB)
end Go.Proofs.YtlnhocgjgmhfgaaGreatDoor

namespace Go.Proofs.YtlnhocgjgmhfgaaGreatDoor
open Go.RowKit

/-- The cells of a list, one cell an element. -/
def Cells {α : Type} (enc : α → Value) (w : World) (b o : Nat) (xs : List α) : Prop :=
  (0 < xs.length → b < w.heap.size) ∧ ∀ i (h : i < xs.length), w.cell? ⟨b, o + i, none⟩ = some (enc xs[i])

/-- The slice value v reads as the list xs, each element one cell. -/
def Sl {α : Type} (enc : α → Value) (w : World) (v : Value) (xs : List α) : Prop :=
  ∃ (a : Option Addr) (b o c : Nat), v = .slice a xs.length c ∧ (0 < xs.length → a = some ⟨b, o, none⟩) ∧ xs.length ≤ c ∧ c ≤ maxLen ∧ (a = none → c = 0) ∧ Cells enc w b o xs

/-- The call returns a value of which R holds. -/
def Rets (R : Value → World → Prop) (e : Ending) (w' : World) : Prop := ∃ v, e = .returned v ∧ R v w'

def eU (n : Nat) : Value := .int .u32 n
def eI (n : Nat) : Value := .int .i64 n
def eZ (n : Int) : Value := .int .i64 n
def eS (s : ByteArray) : Value := .string s

section
variable {α : Type} {enc : α → Value} {w w' : World} {v : Value} {xs : List α} {B b o : Nat}

theorem Cells.below (h : Cells enc w b o xs) (hb : Below B w w') (hB : w.heap.size ≤ B) : Cells enc w' b o xs :=
  ⟨fun h0 => Nat.lt_of_lt_of_le (h.1 h0) hb.size, fun i hi => by rw [hb.cell (show b < B from Nat.lt_of_lt_of_le (h.1 (by omega)) hB)]; exact h.2 i hi⟩
theorem Cells.at (h : Cells enc w b o xs) (hb : Below B w w') (hB : w.heap.size ≤ B) (i : Nat) (hi : i < xs.length) : w'.cell? ⟨b, o + i, none⟩ = some (enc xs[i]) := (h.below hb hB).2 i hi

theorem Sl.below (h : Sl enc w v xs) (hb : Below B w w') (hB : w.heap.size ≤ B) : Sl enc w' v xs := by
  obtain ⟨a, b, o, c, rfl, ha, hc, hm, hn, hx⟩ := h
  exact ⟨a, b, o, c, rfl, ha, hc, hm, hn, hx.below hb hB⟩
theorem Sl.len {a : Option Addr} {n c : Nat} (h : Sl enc w (.slice a n c) xs) : n = xs.length ∧ n ≤ c ∧ c ≤ maxLen := by
  obtain ⟨a', b, o, c', he, _, hc, hm, _⟩ := h
  cases he; exact ⟨rfl, hc, hm⟩
theorem Sl.take {a : Option Addr} {n c : Nat} (h : Sl enc w (.slice a n c) xs) (k : Nat) (hk : k ≤ n) : Sl enc w (.slice a k c) (xs.take k) := by
  obtain ⟨a', b, o, c', he, ha, hc, hm, hn, hx⟩ := h
  cases he
  have hl : (xs.take k).length = k := by simp; omega
  refine ⟨a, b, o, c, by rw [hl], fun h => ha (by omega), by omega, hm, hn, fun h => hx.1 (by omega), fun i hi => ?_⟩
  rw [hx.2 i (by omega)]; simp
theorem Sl.nil : Sl enc w (.slice none 0 0) [] :=
  ⟨none, 0, 0, 0, rfl, fun h => absurd h (by simp), by simp, by simp [maxLen], fun _ => rfl, fun h => absurd h (by simp), fun i hi => absurd hi (by simp)⟩
theorem addr0 (g i : Nat) : (⟨g, 0, none⟩ : Addr).add i = ⟨g, i, none⟩ := by unfold Addr.add; split <;> simp_all
theorem Sl.ofOwns {base e n : Nat} (h : w.ownsRow base e 1 v n (xs.map enc)) : Sl enc w v xs := by
  have hl : xs.length = n := by simpa using h.1
  subst hl
  rcases h.2 with ⟨rfl, h0⟩ | ⟨g, cap, cur, rfl, _, hg, hc, hm, hsz, ht⟩
  · obtain rfl : xs = [] := List.length_eq_zero_iff.1 h0
    exact Sl.nil
  · refine ⟨some ⟨g, 0, none⟩, g, 0, cap, rfl, fun _ => rfl, hc, hm, by simp, fun _ => (Array.getElem?_eq_some_iff.1 hg).1, fun i hi => ?_⟩
    have := h.cells (g := g) rfl i (enc xs[i]) (by simp [hi])
    rw [addr0] at this; simpa using this
theorem ownsRow_cast {base e sz n m : Nat} {ys zs : List Value} (h : w.ownsRow base e sz v n ys) (hn : n = m) (hy : ys = zs) : w.ownsRow base e sz v m zs := by subst hn; subst hy; exact h
end

/-- A list that is filled from its beginning: the next place is set. -/
theorem fill_set {α : Type} (os : List α) (n k : Nat) (z d : α) (ho : os.length = k) (hk : k < n) : (os ++ List.replicate (n - k) z).set k d = (os ++ [d]) ++ List.replicate (n - (k + 1)) z := by
  subst ho
  rw [List.set_append_right _ _ (Nat.le_refl _), Nat.sub_self, show n - os.length = (n - (os.length + 1)) + 1 from by omega, List.replicate_succ]
  simp
/-- A slice of one element, just built. -/
theorem Sl.single {α : Type} {enc : α → Value} (w : World) (x : α) (u : Value) (hu : u = enc x) (e : TypeId) : Sl enc (w.alloc (.cells #[u] e)) (.slice (some ⟨w.heap.size, 0, none⟩) 1 1) [x] := by
  subst hu
  exact Sl.ofOwns (n := 1) (base := 0) (e := e) ⟨rfl, .inr ⟨w.heap.size, 1, #[enc x], rfl, by omega, heap_alloc_new w _, by omega, by simp [maxLen], rfl, rfl⟩⟩
/-- What the walk wants of a place in an own row, before it is read or written. -/
theorem own_at {w : World} {base e g n cap k : Nat} {xs : List Value} (h : w.ownsRow base e 1 (.slice (some ⟨g, 0, none⟩) n cap) n xs) (hk : k < n) : ∃ u, xs[k]? = some u ∧ w.cell? ⟨g, k, none⟩ = some u ∧ w.frozen? ⟨g, k, none⟩ = false := by
  have hl : xs.length = n := by simpa using h.1
  have hk' : k < xs.length := by omega
  exact ⟨xs[k], List.getElem?_eq_getElem hk', by rw [h.cellAt k (by omega)]; exact List.getElem?_eq_getElem hk', h.frozenAt k⟩
theorem own_get {α : Type} {enc : α → Value} {w : World} {base e g n cap k : Nat} {xs : List α} (h : w.ownsRow base e 1 (.slice (some ⟨g, 0, none⟩) n cap) n (xs.map enc)) (hk : k < xs.length) : w.cell? ⟨g, k, none⟩ = some (enc xs[k]) ∧ w.frozen? ⟨g, k, none⟩ = false := by
  have hl : xs.length = n := by simpa using h.1
  exact ⟨by rw [h.cellAt k (by omega)]; simp [hk], h.frozenAt k⟩
theorem own_put {α : Type} {enc : α → Value} {w W : World} {base e g n cap B : Nat} {xs : List α} (h : w.ownsRow base e 1 (.slice (some ⟨g, 0, none⟩) n cap) n (xs.map enc)) (hb : Below B W w) (hg : B ≤ g) (k : Nat) (d : α) (u : Value) (hu : u = enc d) :
    (w.setCell ⟨g, k, none⟩ u).ownsRow base e 1 (.slice (some ⟨g, 0, none⟩) n cap) n ((xs.set k d).map enc) ∧ Below B W (w.setCell ⟨g, k, none⟩ u) := by
  rw [List.map_set, ← hu]
  exact ⟨(h.stored k u).1, hb.setCell hg u⟩
theorem own_set {w W : World} {base e g n cap B : Nat} {xs : List Value} (h : w.ownsRow base e 1 (.slice (some ⟨g, 0, none⟩) n cap) n xs) (hb : Below B W w) (hg : B ≤ g) (k : Nat) (u : Value) :
    (w.setCell ⟨g, k, none⟩ u).ownsRow base e 1 (.slice (some ⟨g, 0, none⟩) n cap) n (xs.set k u) ∧ Below B W (w.setCell ⟨g, k, none⟩ u) :=
  ⟨(h.stored k u).1, hb.setCell hg u⟩

/-- Old blocks are as they were in W; since w0 no block but g has turned. -/
def Kg (W w0 : World) (g : Nat) (w : World) : Prop := Below W.heap.size W w ∧ w0.grownBy w (some g)
theorem Kg.drewN {W w0 w : World} {g : Nat} (h : Kg W w0 g w) (n : Nat) : Kg W w0 g (w.drewN n) := ⟨below_drewN h.1 n, ⟨h.2.os, h.2.tape, h.2.output, h.2.size, h.2.block⟩⟩
theorem Kg.setCell {W w0 w : World} {g : Nat} (h : Kg W w0 g w) (hg : W.heap.size ≤ g) (k : Nat) (u : Value) : Kg W w0 g (w.setCell ⟨g, k, none⟩ u) :=
  ⟨h.1.setCell hg u, ⟨h.2.os, h.2.tape, h.2.output, by simpa [World.setCell] using h.2.size, fun i hi hne => by
    rw [Below.heap_setCell _ _ _ _ (show i ≠ g from fun e => hne (by rw [e]))]; exact h.2.block i hi hne⟩⟩
theorem own_putK {α : Type} {enc : α → Value} {w W w0 : World} {base e g n cap : Nat} {xs : List α} (h : w.ownsRow base e 1 (.slice (some ⟨g, 0, none⟩) n cap) n (xs.map enc)) (hk : Kg W w0 g w) (hg : W.heap.size ≤ g) (k : Nat) (d : α) (u : Value) (hu : u = enc d) :
    (w.setCell ⟨g, k, none⟩ u).ownsRow base e 1 (.slice (some ⟨g, 0, none⟩) n cap) n ((xs.set k d).map enc) ∧ Kg W w0 g (w.setCell ⟨g, k, none⟩ u) := by
  refine ⟨?_, hk.setCell hg k u⟩
  rw [List.map_set, ← hu]
  exact (h.stored k u).1
theorem own_kept {w w' : World} {base e g g' n cap : Nat} {xs : List Value} (h : w.ownsRow base e 1 (.slice (some ⟨g, 0, none⟩) n cap) n xs) (hk : w.grownBy w' (some g')) (hne : g ≠ g') : w'.ownsRow base e 1 (.slice (some ⟨g, 0, none⟩) n cap) n xs :=
  h.kept hk (.inr (by simpa [Value.ownBlock] using hne))
theorem own_below {w w' : World} {base e sz n B : Nat} {v : Value} {xs : List Value} (h : w.ownsRow base e sz v n xs) (hb : Below B w w') (hB : w.heap.size ≤ B) : w'.ownsRow base e sz v n xs := by
  refine ⟨h.1, ?_⟩
  rcases h.2 with hn | ⟨g, cap, cur, hv, hg, hh, r⟩
  · exact .inl hn
  · exact .inr ⟨g, cap, cur, hv, hg, by rw [hb.block g (Nat.lt_of_lt_of_le (Array.getElem?_eq_some_iff.1 hh).1 hB)]; exact hh, r⟩
theorem fill_own {α : Type} {enc : α → Value} {w W : World} {base e g n cap B k : Nat} {os : List α} {z : α} (h : w.ownsRow base e 1 (.slice (some ⟨g, 0, none⟩) n cap) n ((os ++ List.replicate (n - k) z).map enc)) (hb : Below B W w) (hg : B ≤ g)
    (ho : os.length = k) (hk : k < n) (d : α) (u : Value) (hu : u = enc d) :
    (w.setCell ⟨g, k, none⟩ u).ownsRow base e 1 (.slice (some ⟨g, 0, none⟩) n cap) n (((os ++ [d]) ++ List.replicate (n - (k + 1)) z).map enc) ∧ Below B W (w.setCell ⟨g, k, none⟩ u) := by
  have r := own_set h hb hg k u
  rw [hu, ← List.map_set, fill_set os n k z d ho hk, ← hu] at r
  exact r

/-- Block g holds these cells, none of them frozen. -/
def Blk (w : World) (g : Nat) (cs : List Value) (T : TypeId) : Prop := w.heap[g]? = some (.cells cs.toArray T (0, 0))
theorem Blk.new (w : World) (cs : List Value) (T : TypeId) : Blk (w.alloc (.cells cs.toArray T)) w.heap.size cs T := heap_alloc_new w _
theorem Blk.lt {w : World} {g : Nat} {cs : List Value} {T : TypeId} (h : Blk w g cs T) : g < w.heap.size := (Array.getElem?_eq_some_iff.1 h).1
theorem Blk.alloc {w : World} {g : Nat} {cs : List Value} {T : TypeId} (h : Blk w g cs T) (o : Obj) : Blk (w.alloc o) g cs T := (Below.heap_alloc w o g h.lt).trans h
theorem Blk.below {w w' : World} {g B : Nat} {cs : List Value} {T : TypeId} (h : Blk w g cs T) (hb : Below B w w') (hB : w.heap.size ≤ B) : Blk w' g cs T := (hb.block g (Nat.lt_of_lt_of_le h.lt hB)).trans h
theorem Blk.drewN {w : World} {g : Nat} {cs : List Value} {T : TypeId} (h : Blk w g cs T) (n : Nat) : Blk (w.drewN n) g cs T := h
theorem Blk.setCell {w : World} {g g' j : Nat} {cs : List Value} {T : TypeId} (h : Blk w g cs T) (hne : g ≠ g') (u : Value) : Blk (w.setCell ⟨g', j, none⟩ u) g cs T := (Below.heap_setCell _ _ _ _ hne).trans h
theorem Blk.set {w : World} {g : Nat} {cs : List Value} {T : TypeId} (h : Blk w g cs T) (j : Nat) (u : Value) : Blk (w.setCell ⟨g, j, none⟩ u) g (cs.set j u) T := by
  unfold Blk at *
  simp only [World.setCell, Array.getElem?_modify, h]
  simp
theorem Blk.cell {w : World} {g : Nat} {cs : List Value} {T : TypeId} (h : Blk w g cs T) (i : Nat) (v : Value) (hv : cs[i]? = some v) : w.cell? ⟨g, i, none⟩ = some v := by
  rw [cell_of_row w g i cs.toArray T (0, 0) h]; simpa using hv
theorem Blk.free {w : World} {g : Nat} {cs : List Value} {T : TypeId} (h : Blk w g cs T) (i : Nat) : w.frozen? ⟨g, i, none⟩ = false := frozen_of_row w g i cs.toArray T h

/-- A slice still reads so when a block that holds no such elements is written. -/
theorem Sl.set_other {α : Type} {enc : α → Value} {w : World} {v : Value} {xs : List α} {g j : Nat} {cs : List Value} {T : TypeId} (h : Sl enc w v xs) (hk : Blk w g cs T) (hne : ∀ c ∈ cs, ∀ x, c ≠ enc x) (u : Value) : Sl enc (w.setCell ⟨g, j, none⟩ u) v xs := by
  obtain ⟨a, b, o, c, rfl, ha, hc, hm, hn, hx⟩ := h
  refine ⟨a, b, o, c, rfl, ha, hc, hm, hn, fun h => by have := hx.1 h; simpa [World.setCell] using this, fun i hi => ?_⟩
  have h1 := hx.2 i hi
  by_cases e : b = g
  · exfalso
    subst e
    rw [cell_of_row w b (o + i) cs.toArray T (0, 0) hk] at h1
    have h2 : cs[o + i]? = some (enc xs[i]) := by simpa using h1
    exact hne _ (List.mem_of_getElem? h2) _ rfl
  · rw [← h1]
    exact World.cell?_of_block (w := w) (Below.heap_setCell _ _ _ _ e)

/-- What an index out of range comes to: not looked into. -/
def oob (P : Program) (t : TypeId) (v : Value) (i : Int) (W : World) : Result Value := (Instr.indexAt t v (.int .i64 i)).run P W
/-- The address of an element, of a slice of one-cell elements (or of its beginning). -/
theorem idx {P : Program} (t : TypeId) {a : Option Addr} {b o n c : Nat} (ht : P.underlying t = some (.slice (P.elem t))) (hs : ∀ W : World, (sizeOf (P.elem t)).run P W = .ok 1 W) (ha : 0 < n → a = some ⟨b, o, none⟩) :
    ∀ (m : Nat) (i : Int) (W : World), (Instr.indexAt t (.slice a m c) (.int .i64 i)).run P W = if 0 ≤ i ∧ i < m ∧ m ≤ n then .ok (.pointer (some ⟨b, o + i.toNat, none⟩)) W else oob P t (.slice a m c) i W := by
  intro m i W
  split
  · rename_i h
    rw [ha (by omega), run_indexAt_slice W t _ _ _ _ _ ht, if_pos ⟨h.1, h.2.1⟩, hs W]
    simp [Result.andThen_ok, Addr.add]
  · rfl

/-- A slice's type t, its elements' type e: zero value, cells, bytes. -/
structure ElemOk (P : Program) (t e : TypeId) (z : Value) (size bytes : Nat) : Prop where
  und : P.underlying t = some (.slice e)
  info : ∃ i, P.info? e = some i ∧ i.zero = some z ∧ i.size = size ∧ i.bytes = bytes
  cells : z.cells.size = size
  pos : 0 < size
  elem : P.elem t = e
  sz : ∀ W : World, (sizeOf e).run P W = .ok size W

/-- A slice of one-cell elements, opened: its value, the rule for its elements' addresses, its cells. -/
theorem Sl.open {α : Type} {enc : α → Value} {w : World} {v : Value} {xs : List α} {P : Program} {t e : TypeId} {z : Value} {bytes : Nat} (hE : ElemOk P t e z 1 bytes) (h : Sl enc w v xs) :
    ∃ (a : Option Addr) (b o c : Nat), v = .slice a xs.length c ∧
      (∀ (m : Nat) (i : Int) (W : World), (Instr.indexAt t (.slice a m c) (.int .i64 i)).run P W = if 0 ≤ i ∧ i < m ∧ m ≤ xs.length then .ok (.pointer (some ⟨b, o + i.toNat, none⟩)) W else oob P t (.slice a m c) i W) ∧
      Cells enc w b o xs ∧ xs.length ≤ c ∧ c ≤ maxLen := by
  obtain ⟨a, b, o, c, rfl, ha, hc, hm, hn, hx⟩ := h
  exact ⟨a, b, o, c, rfl, idx t (by rw [hE.elem]; exact hE.und) (by rw [hE.elem]; exact hE.sz) ha, hx, hc, hm⟩

section
variable {P : Program} {t e : TypeId} {z : Value} {size bytes : Nat} {ops : Array Oper} {rest : List Oper} {o : Oper} {a : Act} {Q : Exit → Act → World → Prop}

/-- 'out = append(out, x)', out nil or the call's own, x just laid in a new block. -/
theorem app1 (hE : ElemOk P t e z size bytes) (hgd : o.guard = none) (s x : Operand) (ho : o.op = .call { callee := .builtin .append, args := #[s, x], argTypes := #[t, t] })
    {v : Value} {n c base B : Nat} {xs news : List Value} {w0 W : World} (hs : a.eval s = v) (hx : a.eval x = .slice (some ⟨w0.heap.size, 0, none⟩) 1 c)
    (hown : w0.ownsRow base e size v n xs) (hb : Below B W w0) (hB : B ≤ base) (hbase : base ≤ w0.heap.size) (hl : news.length = size) (h1 : ∀ u ∈ news, u.oneCell' = true)
    (hn : (n + 1) * bytes ≤ 140737488355328) (hn' : n + 1 ≤ maxLen)
    (h : ∀ v' w', w'.ownsRow base e size v' (n + 1) (xs ++ news) → Below B W w' → wpList P ops Q rest (a.put o.dst v') w') :
    wpList P ops Q (o :: rest) a (w0.alloc (.cells news.toArray e)) := by
  obtain ⟨i, hi, hz, hsz, hby⟩ := hE.info
  refine wpList_append_own _ hgd s x t ho base e i z size bytes hE.und hi hz hsz hby hE.cells hE.pos v n xs hs (hown.alloc _) ⟨w0.heap.size, 0, none⟩ 1 c news hx (by simp [hl]) ?_ h1 hn' hn (by simp; omega) ?_
  · intro j u hj
    rw [addr0]
    have hj' : j < news.length := (List.getElem?_eq_some_iff.1 hj).1
    rw [cell_of_row _ w0.heap.size j news.toArray e (0, 0) (heap_alloc_new w0 _)]
    simpa using hj
  · intro v' w' ho' hg _
    exact h v' w' ho' ((hb.alloc (by omega) _).grown hg (by simp; omega) (fun j hj => by have := (hown.lt j hj).1; omega))

/-- 'make([]T, 0, n)'. -/
theorem mk0 (hE : ElemOk P t e z size bytes) (hgd : o.guard = none) (l c : Operand) (ho : o.op = Op.makeSlice t l c) {w W : World} {B : Nat} (n : Nat) {kl kc : IntKind} {C : Int}
    (hl : a.eval l = .int kl 0) (hc : a.eval c = .int kc C) (hC : C = (n : Int)) (hn : bytes * n ≤ 281474976710656) (hn' : n ≤ maxLen) (hb : Below B W w) (hB : B ≤ w.heap.size)
    (h : ∀ w', w'.ownsRow w.heap.size e size (.slice (some ⟨w.heap.size, 0, none⟩) 0 n) 0 [] → Below B W w' → Below w.heap.size w w' → wpList P ops Q rest (a.put o.dst (.slice (some ⟨w.heap.size, 0, none⟩) 0 n)) w') :
    wpList P ops Q (o :: rest) a w := by
  obtain ⟨i, hi, hz, hsz, hby⟩ := hE.info
  refine wpList_make_own w hgd l c t ho w.heap.size e i z size hE.und hi hz hsz kl kc C n hl hc hC (by rw [hby]; exact hn) hn' (Nat.le_refl _) fun w' h1 h2 => ?_
  exact h w' h1 (hb.grown h2 hB (fun _ h => by cases h)) ((Below.refl _ w).grown h2 (Nat.le_refl _) (fun _ h => by cases h))

/-- 'copy(out, src)', out the call's own, src no longer than out. -/
theorem copy1 (hE : ElemOk P t e z 1 bytes) (hgd : o.guard = none) (d s : Operand) (ho : o.op = .call { callee := .builtin .copy, args := #[d, s], argTypes := #[t, t] })
    {α : Type} {enc : α → Value} {sv : Value} {g n cap base B : Nat} {D xs : List α} {w W : World} (hd : a.eval d = .slice (some ⟨g, 0, none⟩) n cap) (hs : a.eval s = sv)
    (hown : w.ownsRow base e 1 (.slice (some ⟨g, 0, none⟩) n cap) n (D.map enc)) (hsl : Sl enc w sv xs) (hle : xs.length ≤ n) (h1 : ∀ x, (enc x).oneCell' = true) (hb : Below B W w) (hg : B ≤ g)
    (h : ∀ w', w'.ownsRow base e 1 (.slice (some ⟨g, 0, none⟩) n cap) n ((xs ++ D.drop xs.length).map enc) → Below B W w' → wpList P ops Q rest (a.put o.dst (goInt xs.length)) w') :
    wpList P ops Q (o :: rest) a w := by
  obtain ⟨i, hi, hz, hsz, hby⟩ := hE.info
  obtain ⟨sa, sb, so, sc, rfl, hsa, hsc, hsm, hsn, hcells⟩ := hsl
  have hl : D.length = n := by simpa using hown.1
  rcases hown.2 with ⟨hv, _⟩ | ⟨g', cap', cur, hv, hbg, hgg, hnc, hcm, hcs, htake⟩
  · cases hv
  · cases hv
    have hcur : cur.toList.take n = D.map enc := by simpa using htake
    have hsz' : cur.toList.length = cap := by simpa using hcs
    refine wpList_copy_splice hgd d s t t ho e hE.und (by rw [hi]; simp [hsz]) (some ⟨g, 0, none⟩) sa n cap xs.length sc hd hs g 0 cur.toList e (by simpa using hgg) (xs.map enc)
      (by simp [Nat.min_eq_left hle]) ?_ (by simp; omega) (by intro v hv; obtain ⟨x, _, rfl⟩ := List.mem_map.1 hv; exact h1 x) B W hb hg ?_
    · intro hp
      refine ⟨rfl, ⟨sb, so, none⟩, hsa (by simpa using hp), fun j v hj => ?_⟩
      rw [List.getElem?_map] at hj
      cases hx : xs[j]? with
      | none => rw [hx] at hj; simp at hj
      | some x =>
        rw [hx] at hj
        have hj' : j < xs.length := (List.getElem?_eq_some_iff.1 hx).1
        have e2 : (⟨sb, so, none⟩ : Addr).add j = ⟨sb, so + j, none⟩ := by unfold Addr.add; split <;> simp_all
        rw [e2, hcells.2 j hj', ← hj, (List.getElem?_eq_some_iff.1 hx).2]; rfl
    · intro w' hh hb'
      have := h w' ?_ hb'
      · simpa using this
      · refine ⟨by simp; omega, .inr ⟨g, cap, _, rfl, hbg, hh.out, hnc, hcm, ?_, ?_⟩⟩
        · simp [splice]; omega
        · simp only [splice, List.take_zero, List.nil_append, Nat.zero_add, Nat.mul_one, List.length_map, List.map_append, List.map_drop]
          rw [List.take_append, List.length_map, List.take_of_length_le (by simp; omega), ← List.drop_take, hcur]

/-- 'make([]T, n)', one cell an element. -/
theorem mkN (hE : ElemOk P t e z 1 bytes) (hgd : o.guard = none) (l c : Operand) (ho : o.op = Op.makeSlice t l c) {w W : World} {B : Nat} (n : Nat) {kl kc : IntKind} {L C : Int}
    (hl : a.eval l = .int kl L) (hc : a.eval c = .int kc C) (hL : L = (n : Int)) (hC : C = (n : Int)) (hn : bytes * n ≤ 281474976710656) (hn' : n ≤ maxLen) (hb : Below B W w) (hB : B ≤ w.heap.size) (hz1 : z.cells = #[z])
    (h : ∀ w', w'.ownsRow w.heap.size e 1 (.slice (some ⟨w.heap.size, 0, none⟩) n n) n (List.replicate n z) → Below B W w' → Below w.heap.size w w' → wpList P ops Q rest (a.put o.dst (.slice (some ⟨w.heap.size, 0, none⟩) n n)) w') :
    wpList P ops Q (o :: rest) a w := by
  obtain ⟨i, hi, hz, hsz, hby⟩ := hE.info
  refine wpList_make_full w hgd l c t ho w.heap.size e i z 1 hE.und hi hz hsz kl kc L C n hl hc hL hC (by rw [hby]; exact hn) hn' (Nat.le_refl _) fun w' h1 h2 => ?_
  refine h w' (ownsRow_cast h1 rfl ?_) (hb.grown h2 hB (fun _ h => by cases h)) ((Below.refl _ w).grown h2 (Nat.le_refl _) (fun _ h => by cases h))
  rw [hz1, Nat.mul_one]
  apply List.ext_getElem <;> simp [madeCells, Nat.mod_one]
end

theorem elemNat : ElemOk Tryz.prog 136 150 (.int .u32 0) 1 4 :=
  ⟨Tryz.underlying136, info_parts (by kernel_rfl : (Tryz.prog.info? 150).map (fun i => (i.zero, i.size, i.bytes)) = some (some (.int .u32 0), 1, 4)), rfl, by decide, by kernel_rfl, fun _ => by kernel_rfl⟩
end Go.Proofs.YtlnhocgjgmhfgaaGreatDoor
