/- Plain arithmetic: numbers as lists of digits in a base, the least one first. Nothing of the program is imported. -/
namespace Go.Proofs.YtcjcknncajinpaaGreatDoor

/-- The number with these digits, the least one first. -/
def val (B : Nat) : List Nat → Nat
  | [] => 0
  | a :: l => a + B * val B l

/-- The digits of a number, the least one first, no zero at the end. -/
def digs (B n : Nat) : List Nat :=
  if _h : 2 ≤ B ∧ 0 < n then n % B :: digs B (n / B) else []
termination_by n
decreasing_by exact Nat.div_lt_self _h.2 (by omega)

def trim (l : List Nat) : List Nat := (l.reverse.dropWhile (· == 0)).reverse

theorem trim_le (l : List Nat) : (trim l).length ≤ l.length := by
  unfold trim; have := (List.dropWhile_sublist (l := l.reverse) (· == 0)).length_le; simpa using this
theorem trim_nil : trim [] = [] := rfl
theorem trim_snoc_zero (l : List Nat) : trim (l ++ [0]) = trim l := by unfold trim; simp
theorem trim_snoc (l : List Nat) (a : Nat) (h : a ≠ 0) : trim (l ++ [a]) = l ++ [a] := by unfold trim; simp [h]
theorem list_snoc {α : Type} (l : List α) : l = [] ∨ ∃ m a, l = m ++ [a] := by
  rcases List.eq_nil_or_concat l with h | ⟨m, a, h⟩
  · exact .inl h
  · exact .inr ⟨m, a, by simpa using h⟩
theorem snoc_ind {α : Type} {P : List α → Prop} (h0 : P []) (hs : ∀ l a, P l → P (l ++ [a])) (l : List α) : P l := by
  have : ∀ n (l : List α), l.length = n → P l := by
    intro n
    induction n with
    | zero => intro l h; rw [List.length_eq_zero_iff.1 h]; exact h0
    | succ n ih =>
      intro l h
      rcases list_snoc l with rfl | ⟨m, a, rfl⟩
      · exact h0
      · exact hs m a (ih m (by simp at h; omega))
  exact this _ l rfl

theorem val_append (B : Nat) (l m : List Nat) : val B (l ++ m) = val B l + B ^ l.length * val B m := by
  induction l with
  | nil => simp [val]
  | cons a l ih => simp only [List.cons_append, val, ih, List.length_cons, Nat.pow_succ, Nat.mul_add]; rw [Nat.add_assoc]; congr 2; rw [Nat.mul_comm (B ^ l.length) B, Nat.mul_assoc]
theorem val_snoc (B : Nat) (l : List Nat) (a : Nat) : val B (l ++ [a]) = val B l + B ^ l.length * a := by
  rw [val_append]; simp [val]
theorem val_trim (B : Nat) (l : List Nat) : val B (trim l) = val B l := by
  refine snoc_ind (P := fun l => val B (trim l) = val B l) rfl (fun l a ih => ?_) l
  by_cases h : a = 0
  · subst h; rw [trim_snoc_zero, ih, val_snoc]; simp
  · rw [trim_snoc l a h]
theorem mem_trim {l : List Nat} {a : Nat} (h : a ∈ trim l) : a ∈ l := by
  unfold trim at h
  simp only [List.mem_reverse] at h
  simpa using (List.dropWhile_sublist (l := l.reverse) (· == 0)).subset h
theorem trim_last (l : List Nat) : (trim l).getLast? ≠ some 0 := by
  refine snoc_ind (P := fun l => (trim l).getLast? ≠ some 0) (by simp [trim]) (fun l a ih => ?_) l
  by_cases h : a = 0
  · subst h; rw [trim_snoc_zero]; exact ih
  · rw [trim_snoc l a h]; simp [h]

theorem val_lt (B : Nat) (l : List Nat) (h : ∀ a ∈ l, a < B) : val B l < B ^ l.length := by
  induction l with
  | nil => simp [val]
  | cons a l ih =>
    have h1 := h a (by simp)
    have h2 := ih (fun b hb => h b (by simp [hb]))
    simp only [val, List.length_cons, Nat.pow_succ]
    calc a + B * val B l < B + B * val B l := by omega
      _ = B * (val B l + 1) := by rw [Nat.mul_add, Nat.mul_one, Nat.add_comm]
      _ ≤ B * B ^ l.length := Nat.mul_le_mul_left _ h2
      _ = B ^ l.length * B := Nat.mul_comm _ _

theorem digs_zero (B : Nat) : digs B 0 = [] := by rw [digs]; simp
theorem digs_pos (B n : Nat) (hB : 2 ≤ B) (hn : 0 < n) : digs B n = n % B :: digs B (n / B) := by rw [digs]; simp [hB, hn]
theorem digs_cons (B a m : Nat) (hB : 2 ≤ B) (ha : a < B) (h : 0 < a + B * m) : digs B (a + B * m) = a :: digs B m := by
  rw [digs_pos B _ hB h, Nat.add_mul_mod_self_left, Nat.mod_eq_of_lt ha, Nat.add_mul_div_left _ _ (by omega), Nat.div_eq_of_lt ha, Nat.zero_add]

theorem val_digs (B n : Nat) (hB : 2 ≤ B) : val B (digs B n) = n := by
  induction n using Nat.strongRecOn with
  | _ n ih =>
    by_cases hn : n = 0
    · subst hn; rw [digs_zero]; rfl
    · rw [digs_pos B n hB (by omega), val, ih (n / B) (Nat.div_lt_self (by omega) (by omega)), Nat.mod_add_div]
theorem digs_lt (B n : Nat) (hB : 2 ≤ B) : ∀ a ∈ digs B n, a < B := by
  induction n using Nat.strongRecOn with
  | _ n ih =>
    by_cases hn : n = 0
    · subst hn; rw [digs_zero]; simp
    · rw [digs_pos B n hB (by omega)]
      intro a ha
      rcases List.mem_cons.1 ha with rfl | ha
      · exact Nat.mod_lt _ (by omega)
      · exact ih (n / B) (Nat.div_lt_self (by omega) (by omega)) a ha
theorem digs_nil {B n : Nat} (hB : 2 ≤ B) : digs B n = [] ↔ n = 0 := by
  constructor
  · intro h; have := val_digs B n hB; rw [h] at this; exact this.symm
  · rintro rfl; exact digs_zero B
/-- Digits below the base, none 0 at the end: these are the digits of their number. -/
theorem digs_val (B : Nat) (l : List Nat) (hB : 2 ≤ B) (h : ∀ a ∈ l, a < B) (hl : l.getLast? ≠ some 0) : digs B (val B l) = l := by
  induction l with
  | nil => simp [val, digs_zero]
  | cons a l ih =>
    have h1 := h a (by simp)
    have h2 : ∀ b ∈ l, b < B := fun b hb => h b (by simp [hb])
    by_cases hn : l = []
    · subst hn
      have ha : a ≠ 0 := by simpa using hl
      simp only [val, Nat.mul_zero, Nat.add_zero]
      rw [digs_pos B a hB (by omega), Nat.mod_eq_of_lt h1, Nat.div_eq_of_lt h1, digs_zero]
    · have hl' : l.getLast? ≠ some 0 := by rw [List.getLast?_cons] at hl; cases hg : l.getLast? with
        | none => simp
        | some b => rw [hg] at hl; simpa using hl
      have e := ih h2 hl'
      have hp : 0 < val B l := by
        rcases Nat.eq_zero_or_pos (val B l) with h0 | h0
        · rw [h0, digs_zero] at e; exact absurd e.symm hn
        · exact h0
      rw [val, digs_cons B a _ hB h1 (by have := Nat.mul_pos (show 0 < B by omega) hp; omega), e]
theorem digs_last (B n : Nat) (hB : 2 ≤ B) : (digs B n).getLast? ≠ some 0 := by
  induction n using Nat.strongRecOn with
  | _ n ih =>
    by_cases hn : n = 0
    · subst hn; rw [digs_zero]; simp
    · rw [digs_pos B n hB (by omega), List.getLast?_cons]
      have := ih (n / B) (Nat.div_lt_self (by omega) (by omega))
      cases hg : (digs B (n / B)).getLast? with
      | none =>
        have h0 : n / B = 0 := (digs_nil hB).1 (by simpa using hg)
        have h1 : n < B := by rcases Nat.lt_or_ge n B with h | h
                              · exact h
                              · have := Nat.div_pos h (by omega); omega
        simp [Nat.mod_eq_of_lt h1, hn]
      | some b => rw [hg] at this; simpa using this
theorem trim_eq (B : Nat) (l : List Nat) (hB : 2 ≤ B) (h : ∀ a ∈ l, a < B) : trim l = digs B (val B l) := by
  rw [← val_trim B l]
  exact (digs_val B (trim l) hB (fun a ha => h a (mem_trim ha)) (trim_last l)).symm
theorem trim_of (B : Nat) (l : List Nat) (n : Nat) (hB : 2 ≤ B) (h : ∀ a ∈ l, a < B) (hv : val B l = n) : trim l = digs B n := by
  rw [trim_eq B l hB h, hv]
theorem digs_len (B n k : Nat) (hB : 2 ≤ B) : (digs B n).length ≤ k ↔ n < B ^ k := by
  induction k generalizing n with
  | zero =>
    constructor
    · intro h; have := (digs_nil hB).1 (List.length_eq_zero_iff.1 (Nat.le_zero.1 h)); subst this; simp
    · intro h; have : n = 0 := by simpa using h
      subst this; simp [digs_zero]
  | succ k ih =>
    by_cases hn : n = 0
    · subst hn; simp only [digs_zero, List.length_nil, Nat.zero_le, true_iff]; exact Nat.pow_pos (by omega)
    · rw [digs_pos B n hB (by omega), List.length_cons, Nat.add_le_add_iff_right, ih, Nat.pow_succ, Nat.div_lt_iff_lt_mul (by omega)]
theorem lt_pow_len (B n : Nat) (hB : 2 ≤ B) : n < B ^ (digs B n).length := (digs_len B n _ hB).1 (Nat.le_refl _)
theorem pow_len_le (B n : Nat) (hB : 2 ≤ B) (hn : 0 < n) : B ^ ((digs B n).length - 1) ≤ n := by
  rcases Nat.lt_or_ge n (B ^ ((digs B n).length - 1)) with h | h
  · have h1 := (digs_len B n _ hB).2 h
    have : 0 < (digs B n).length := by
      rcases Nat.eq_zero_or_pos (digs B n).length with h0 | h0
      · have := (digs_nil hB).1 (List.length_eq_zero_iff.1 h0); omega
      · exact h0
    omega
  · exact h
theorem digs_len_add (B a b : Nat) (hB : 2 ≤ B) : (digs B (a + b)).length ≤ max (digs B a).length (digs B b).length + 1 := by
  rw [digs_len _ _ _ hB, Nat.pow_succ]
  have h1 := lt_pow_len B a hB
  have h2 := lt_pow_len B b hB
  have h3 : B ^ (digs B a).length ≤ B ^ max (digs B a).length (digs B b).length := Nat.pow_le_pow_right (by omega) (by omega)
  have h4 : B ^ (digs B b).length ≤ B ^ max (digs B a).length (digs B b).length := Nat.pow_le_pow_right (by omega) (by omega)
  have h5 := Nat.mul_le_mul_left (B ^ max (digs B a).length (digs B b).length) hB
  omega
theorem digs_len_mul (B a b : Nat) (hB : 2 ≤ B) : (digs B (a * b)).length ≤ (digs B a).length + (digs B b).length := by
  rw [digs_len _ _ _ hB, Nat.pow_add]
  have h1 := lt_pow_len B a hB
  have h2 := lt_pow_len B b hB
  exact Nat.mul_lt_mul'' h1 h2
theorem digs_len_mono (B : Nat) {a b : Nat} (hB : 2 ≤ B) (h : a ≤ b) : (digs B a).length ≤ (digs B b).length := by
  rw [digs_len _ _ _ hB]; exact Nat.lt_of_le_of_lt h (lt_pow_len B b hB)
end Go.Proofs.YtcjcknncajinpaaGreatDoor
