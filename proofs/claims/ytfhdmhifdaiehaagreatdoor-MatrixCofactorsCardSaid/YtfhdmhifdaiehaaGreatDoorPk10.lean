/- Plain law: a matrix, times the transposed matrix of its cofactors. -/
import Derived.Test.YtfhdmhifdaiehaaGreatDoorPk5
namespace Go.Proofs.YtfhdmhifdaiehaaGreatDoor
set_option maxRecDepth 100000

/-- The cofactors. -/
def cofM (n : Nat) (A : Mat) : Mat := fun i k => sgn (i + k) * det (n - 1) (mnr A i k)
theorem cof_prod {n : Nat} (A : Mat) {i j : Nat} (hi : i < n) (hj : j < n) : mulM n A (tr (cofM n A)) i j = if i = j then det n A else 0 := by
  obtain ⟨m, rfl⟩ : ∃ m, n = m + 1 := ⟨n - 1, by omega⟩
  by_cases e : i = j
  · subst e
    rw [if_pos rfl, det_row i m A hi]
    refine sm_congr fun k _ => ?_
    simp only [tr, cofM, Nat.add_sub_cancel]
    rw [← Int.mul_assoc, Int.mul_comm (A i k)]
  · rw [if_neg e]
    exact det_alien i j m A hi hj e
theorem diag_place : ∀ n, n ≤ 4 → ∀ t, t < n * n → (t % (n + 1) = 0 ↔ t / n = t % n) := by decide
theorem dn_cof {n : Nat} {A : Mat} (hn : n ≤ 4) (h : ∀ i j, i < n → j < n → dn (A i j) ≤ 9) {i k : Nat} (hi : i < n) (hk : k < n) : dn (det (n - 1) (mnr A i k)) ≤ 40 ∧ dn (cofM n A i k) ≤ 40 := by
  obtain ⟨m, rfl⟩ : ∃ m, n = m + 1 := ⟨n - 1, by omega⟩
  have h1 := dn_det (D := 9) m (mnr A i k) fun a b ha hb => h _ _ (by have := sk_lt (r := i) ha; omega) (by have := sk_lt (r := k) hb; omega)
  have h2 := Nat.mul_le_mul (show m ≤ 3 by omega) (show 9 + m ≤ 12 by omega)
  refine ⟨by rw [Nat.add_sub_cancel]; omega, ?_⟩
  unfold cofM
  rw [Nat.add_sub_cancel]
  have e : dn (sgn (i + k) * det m (mnr A i k)) = dn (det m (mnr A i k)) := by
    unfold sgn; split
    · rw [Int.one_mul]
    · rw [Int.neg_mul, Int.one_mul, dn_neg]
  omega
end Go.Proofs.YtfhdmhifdaiehaaGreatDoor
