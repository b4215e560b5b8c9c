/- Plain laws on decimal texts of numbers in words. -/
import Derived.Test.YtcjcknncajinpaaGreatDoorIF
import Derived.Lib.ItoaNum
import Derived.Lib.Repeat
namespace Go.Proofs.YtcjcknncajinpaaGreatDoor

/-- The last k decimal digits. -/
def padR : Nat → Nat → List UInt8
  | 0, _ => []
  | k + 1, a => padR k (a / 10) ++ [UInt8.ofNat (48 + a % 10)]
theorem dec_pad (k : Nat) : ∀ m a : Nat, 0 < m → a < 10 ^ k → Lib.decDigits (m * 10 ^ k + a) = Lib.decDigits m ++ padR k a := by
  induction k with
  | zero => intro m a _ ha; have : a = 0 := by simpa using ha
            subst this; simp [padR]
  | succ k ih =>
    intro m a hm ha
    have hp : 1 ≤ 10 ^ k := Nat.one_le_pow _ _ (by decide)
    have h1 : 1 * 10 ^ k ≤ m * 10 ^ k := Nat.mul_le_mul_right _ hm
    rw [Lib.decDigits, dif_neg (by rw [Nat.pow_succ, ← Nat.mul_assoc]; omega)]
    have e1 : (m * 10 ^ (k + 1) + a) / 10 = m * 10 ^ k + a / 10 := by rw [Nat.pow_succ, ← Nat.mul_assoc]; omega
    have e2 : (m * 10 ^ (k + 1) + a) % 10 = a % 10 := by rw [Nat.pow_succ, ← Nat.mul_assoc]; omega
    rw [e1, e2, ih m (a / 10) hm (by rw [Nat.pow_succ] at ha; omega), padR, List.append_assoc]
theorem padR_eq (k : Nat) : ∀ a : Nat, a < 10 ^ (k + 1) → padR (k + 1) a = List.replicate (k + 1 - Lib.nDigits a) 48 ++ Lib.decDigits a := by
  induction k with
  | zero =>
    intro a ha
    have h10 : a < 10 := by simpa using ha
    rw [Lib.decDigits_one h10, Lib.nDigits_small h10]
    simp [padR, Nat.mod_eq_of_lt h10]
  | succ k ih =>
    intro a ha
    rw [padR, ih (a / 10) (by rw [Nat.pow_succ] at ha; omega)]
    by_cases h : a < 10
    · rw [Lib.decDigits_one h, Lib.nDigits_small h, Nat.div_eq_of_lt h, Lib.decDigits_one (by omega), Lib.nDigits_small (by omega), Nat.mod_eq_of_lt h]
      have : (48 : UInt8) = UInt8.ofNat (48 + 0) := rfl
      rw [show k + 1 + 1 - 1 = (k + 1 - 1) + 1 by omega, List.replicate_succ', this]
    · conv => rhs; rw [Lib.decDigits, dif_neg h]
      rw [Lib.nDigits_big h, ← List.append_assoc]
      congr 3
      omega
theorem nDigits_le {a k : Nat} (h : a < 10 ^ (k + 1)) : Lib.nDigits a ≤ k + 1 := by
  induction k generalizing a with
  | zero => rw [Lib.nDigits_small (by simpa using h)]; exact Nat.le_refl _
  | succ k ih =>
    by_cases h10 : a < 10
    · rw [Lib.nDigits_small h10]; omega
    · rw [Lib.nDigits_big h10]
      have := ih (a := a / 10) (by rw [Nat.pow_succ] at h; omega)
      omega
theorem dec_words (x m : Nat) (hx : x < 1000000000) (hm : 0 < m) :
    Lib.decDigits (x + 1000000000 * m) = Lib.decDigits m ++ (List.replicate (9 - (Lib.decDigits x).length) 48 ++ Lib.decDigits x) := by
  have h := dec_pad 9 m x hm (by simpa using hx)
  rw [padR_eq 8 x (by simpa using hx)] at h
  rw [Lib.decDigits_length, ← h]
  congr 1
  rw [Nat.add_comm, Nat.mul_comm]
theorem val_drop_pos (B : Nat) (xs : List Nat) (k : Nat) (hk : k < xs.length) (hl : xs.getLast? ≠ some 0) (hB : 0 < B) : 0 < val B (xs.drop k) := by
  have h1 := split1 B (xs.drop k) (xs.length - k - 1) (by simp; omega)
  have h2 : 0 < (xs.drop k).getD (xs.length - k - 1) 0 := by
    rcases Nat.eq_zero_or_pos ((xs.drop k).getD (xs.length - k - 1) 0) with h | h
    · exfalso; apply hl
      rw [List.getD_eq_getElem?_getD, List.getElem?_drop, show k + (xs.length - k - 1) = xs.length - 1 by omega] at h
      rw [List.getLast?_eq_getElem?, List.getElem?_eq_getElem (by omega)]
      rw [List.getElem?_eq_getElem (by omega)] at h
      simpa using h
    · exact h
  have := Nat.mul_pos h2 (Nat.pow_pos (n := xs.length - k - 1) hB)
  omega
end Go.Proofs.YtcjcknncajinpaaGreatDoor
