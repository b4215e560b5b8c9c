/- Plain laws for the long division: the scale, and the steps put together. -/
import Derived.Test.YtcjcknncajinpaaDoorIE0
namespace Go.Proofs.YtcjcknncajinpaaDoor

theorem scale_ok (y s : Nat) (h1 : 1 ≤ y) (h2 : y < 1000000000) (hs : s = 1000000000 / (y + 1)) : 1 ≤ s ∧ s * (y + 1) ≤ 1000000000 ∧ 1000000000 ≤ 2 * (y * s) ∧ s ≤ 500000000 := by
  have hm := Nat.div_add_mod 1000000000 (y + 1)
  have hr := Nat.mod_lt 1000000000 (show 0 < y + 1 by omega)
  rw [← hs] at hm
  generalize 1000000000 % (y + 1) = r at *
  have hc : (y + 1) * s = y * s + s := by rw [Nat.add_mul, Nat.one_mul]
  have h5 : s ≤ 500000000 := by
    have := Nat.div_le_div_left (a := 1000000000) (show 2 ≤ y + 1 by omega) (by omega)
    omega
  have hs1 : 1 ≤ s := by
    rcases Nat.eq_zero_or_pos s with h | h
    · subst h; simp at hm; omega
    · exact h
  have hle : s * (y + 1) ≤ 1000000000 := by rw [Nat.mul_comm]; omega
  refine ⟨hs1, hle, ?_, h5⟩
  rcases Nat.lt_or_ge s 2 with h | h
  · obtain rfl : s = 1 := by omega
    omega
  · rcases Nat.lt_or_ge y 2 with h3 | h3
    · obtain rfl : y = 1 := by omega
      omega
    · -- r ≤ y, s ≥ 2, y ≥ 2: y + 2 s ≤ s (y + 1)
      obtain ⟨s', rfl⟩ : ∃ s', s = s' + 2 := ⟨s - 2, by omega⟩
      obtain ⟨y', rfl⟩ : ∃ y', y = y' + 2 := ⟨y - 2, by omega⟩
      have e1 : (y' + 2) * (s' + 2) = y' * s' + 2 * y' + 2 * s' + 4 := by grind
      rw [e1] at hc ⊢
      omega

theorem split1 (B : Nat) (l : List Nat) (m : Nat) (h : m + 1 = l.length) : val B l = l.getD m 0 * B ^ m + val B (l.take m) := by
  have h1 := val_take_succ B l m
  rw [h, List.take_of_length_le (Nat.le_refl _)] at h1
  rw [h1, Nat.mul_comm]; omega
/-- The divisor, scaled: as many words, the first of which is not less than half the base. -/
theorem norm_ok (b m s y : Nat) (hb : m + 1 = (digs 1000000000 b).length) (hy : y = (digs 1000000000 b).getD m 0) (hs : s = 1000000000 / (y + 1)) :
    1 ≤ y ∧ y < 1000000000 ∧ 1 ≤ s ∧ s ≤ 500000000 ∧ (digs 1000000000 (b * s)).length = m + 1 ∧ 500000000 ≤ (digs 1000000000 (b * s)).getD m 0 ∧ 1000000000 ^ m ≤ b := by
  have hlt := digs_lt 1000000000 b (by omega)
  have hy2 : y < 1000000000 := by rw [hy]; exact getD_lt hlt (by omega)
  have hlast := digs_last 1000000000 b (by omega)
  have hy1 : 1 ≤ y := by
    rw [List.getLast?_eq_getElem?, ← hb] at hlast
    rcases Nat.eq_zero_or_pos y with h | h
    · exfalso; apply hlast
      rw [h] at hy
      rw [show m + 1 - 1 = m by omega, List.getElem?_eq_getElem (by omega)]
      rw [List.getD_eq_getElem?_getD, List.getElem?_eq_getElem (by omega)] at hy
      simpa using hy.symm
    · exact h
  obtain ⟨hs1, hle, h2, h5⟩ := scale_ok y s hy1 hy2 hs
  have hv := split1 1000000000 _ m hb
  rw [val_digs 1000000000 b (by omega), ← hy] at hv
  have hvl := val_lt 1000000000 ((digs 1000000000 b).take m) (mem_take hlt)
  rw [List.length_take_of_le (by omega)] at hvl
  generalize val 1000000000 ((digs 1000000000 b).take m) = vl at *
  have hbs : b * s < 1000000000 ^ (m + 1) := by
    have e1 : b < (y + 1) * 1000000000 ^ m := by rw [Nat.add_mul, Nat.one_mul]; omega
    have e2 : b * s < (y + 1) * 1000000000 ^ m * s := Nat.mul_lt_mul_of_pos_right e1 hs1
    have e3 : s * (y + 1) * 1000000000 ^ m ≤ 1000000000 * 1000000000 ^ m := Nat.mul_le_mul_right _ hle
    have e4 : (y + 1) * 1000000000 ^ m * s = s * (y + 1) * 1000000000 ^ m := by grind
    rw [Nat.pow_succ, Nat.mul_comm (1000000000 ^ m)]
    omega
  have hbm : 1000000000 ^ m ≤ b := by
    have : 1 * 1000000000 ^ m ≤ y * 1000000000 ^ m := Nat.mul_le_mul_right _ hy1
    omega
  have hl : (digs 1000000000 (b * s)).length = m + 1 := by
    have h1 := (digs_len 1000000000 (b * s) (m + 1) (by omega)).2 hbs
    have h3 := digs_len_mono 1000000000 (by omega) (show b ≤ b * s from Nat.le_mul_of_pos_right b hs1)
    omega
  refine ⟨hy1, hy2, hs1, h5, hl, ?_, hbm⟩
  have hw := split1 1000000000 _ m hl.symm
  rw [val_digs 1000000000 (b * s) (by omega)] at hw
  have hwl := val_lt 1000000000 ((digs 1000000000 (b * s)).take m) (mem_take (digs_lt 1000000000 (b * s) (by omega)))
  rw [List.length_take_of_le (by omega)] at hwl
  generalize val 1000000000 ((digs 1000000000 (b * s)).take m) = wl at *
  generalize (digs 1000000000 (b * s)).getD m 0 = t at *
  have h3 : y * s * 1000000000 ^ m ≤ b * s := by
    rw [hv]; have : (y * 1000000000 ^ m) * s ≤ (y * 1000000000 ^ m + vl) * s := Nat.mul_le_mul_right _ (by omega)
    have e : y * s * 1000000000 ^ m = y * 1000000000 ^ m * s := by grind
    omega
  rcases Nat.lt_or_ge t 500000000 with h | h
  · exfalso
    have h4 : (t + 1) * 1000000000 ^ m ≤ y * s * 1000000000 ^ m := Nat.mul_le_mul_right _ (by omega)
    rw [Nat.add_mul, Nat.one_mul] at h4
    omega
  · exact h

/-- One step of the division, on the numbers. A: the words that are still to come, x the last of them; R: the rest; qs: the quotient's words. -/
theorem div_step (B V N a x R U q r Q k : Nat) (hN : a + B ^ k * x + B ^ (k + 1) * (R + V * Q) = N) (hU : U = x + B * R) (hq : U = q * V + r) : a + B ^ k * (r + V * (q + B * Q)) = N := by
  rw [← hN, Nat.pow_succ]
  have : x + B * R = q * V + r := by rw [← hU, hq]
  have e : B ^ k * (x + B * R) = B ^ k * (q * V + r) := by rw [this]
  grind
theorem div_end (a b s R Q : Nat) (hs : 1 ≤ s) (h : R + b * s * Q = a * s) (hR : R < b * s) : Q = a / b ∧ R / s = a % b := by
  have hb : 0 < b := by
    rcases Nat.eq_zero_or_pos b with h | h
    · subst h; simp at hR
    · exact h
  have hd : a * s / (b * s) = Q := by
    rw [← h, Nat.add_mul_div_left _ _ (by omega), Nat.div_eq_of_lt hR, Nat.zero_add]
  rw [Nat.mul_div_mul_right _ _ hs] at hd
  refine ⟨hd.symm, ?_⟩
  have hm : a * s % (b * s) = R := by rw [← h, Nat.add_mul_mod_self_left, Nat.mod_eq_of_lt hR]
  rw [Nat.mul_mod_mul_right] at hm
  rw [← hm, Nat.mul_div_cancel _ hs]
theorem div_start (B a b s L m : Nat) (us : List Nat) (ha : a < B ^ L) (hb : B ^ (m + 1) ≤ b) (hs : 0 < s) (hl : us.length = L + 1) (hm : m + 2 ≤ L) (hv : val B us = a * s) :
    val B (us.take (L - m - 1)) + B ^ (L - m - 1) * val B (us.drop (L - m - 1)) = a * s ∧ val B (us.drop (L - m - 1)) < b * s ∧ (us.take (L - m - 1)).length = L - m - 1 ∧ (us.drop (L - m - 1)).length = m + 2 := by
  have h1 := val_append B (us.take (L - m - 1)) (us.drop (L - m - 1))
  rw [List.take_append_drop, List.length_take_of_le (by omega), hv] at h1
  refine ⟨h1.symm, ?_, by simp; omega, by simp; omega⟩
  have h2 : a * s < B ^ L * s := Nat.mul_lt_mul_of_pos_right ha hs
  have h3 : B ^ L = B ^ (L - m - 1) * B ^ (m + 1) := by rw [← Nat.pow_add]; congr 1; omega
  have h4 : B ^ (L - m - 1) * val B (us.drop (L - m - 1)) < B ^ (L - m - 1) * (B ^ (m + 1) * s) := by rw [← Nat.mul_assoc, ← h3]; omega
  have h5 := Nat.lt_of_mul_lt_mul_left h4
  have h6 : B ^ (m + 1) * s ≤ b * s := Nat.mul_le_mul_right _ hb
  omega
theorem val_zeros (B n : Nat) : val B (List.replicate n 0) = 0 := by
  induction n with
  | zero => rfl
  | succ n ih => rw [List.replicate_succ, val, ih]; rfl
theorem trim_zeros (l : List Nat) (n : Nat) : trim (l ++ List.replicate n 0) = trim l := by
  induction n with
  | zero => simp
  | succ n ih => rw [List.replicate_succ', ← List.append_assoc, trim_snoc_zero, ih]
/-- A list of n + 1 words whose number has n: the last is 0. -/
theorem last_zero (B : Nat) (l : List Nat) (n : Nat) (hl : l.length = n + 1) (hv : val B l < B ^ n) : ∃ r, l = r ++ [0] ∧ r.length = n := by
  have h := split1 B l n hl.symm
  have hz : l.getD n 0 = 0 := by
    rcases Nat.eq_zero_or_pos (l.getD n 0) with h0 | h0
    · exact h0
    · have : 1 * B ^ n ≤ l.getD n 0 * B ^ n := Nat.mul_le_mul_right _ h0
      omega
  refine ⟨l.take n, ?_, by simp; omega⟩
  have h1 := take_snoc l n (by omega)
  rw [List.take_of_length_le (by omega)] at h1
  rw [List.getD_eq_getElem?_getD, List.getElem?_eq_getElem (by omega)] at hz
  simp only [Option.getD_some] at hz
  rw [hz] at h1
  exact h1
end Go.Proofs.YtcjcknncajinpaaDoor
