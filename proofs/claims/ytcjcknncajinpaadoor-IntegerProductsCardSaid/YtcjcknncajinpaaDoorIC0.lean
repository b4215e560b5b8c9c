/- Plain laws for the product. -/
import Derived.Test.YtcjcknncajinpaaDoorIA
namespace Go.Proofs.YtcjcknncajinpaaDoor

theorem val_set (B : Nat) (l : List Nat) (j v : Nat) (h : j < l.length) : val B (l.set j v) + B ^ j * l.getD j 0 = val B l + B ^ j * v := by
  induction l generalizing j with
  | nil => simp at h
  | cons a l ih =>
    cases j with
    | zero => simp only [List.set_cons_zero, val, Nat.pow_zero, Nat.one_mul, List.getD_cons_zero]; omega
    | succ j =>
      have := ih j (by simpa using h)
      simp only [List.set_cons_succ, val, List.getD_cons_succ, Nat.pow_succ]
      have e1 : B ^ j * B * l.getD j 0 = B * (B ^ j * l.getD j 0) := by rw [Nat.mul_comm (B ^ j) B, Nat.mul_assoc]
      have e2 : B ^ j * B * v = B * (B ^ j * v) := by rw [Nat.mul_comm (B ^ j) B, Nat.mul_assoc]
      have e3 : B * (val B (l.set j v) + B ^ j * l.getD j 0) = B * (val B l + B ^ j * v) := by rw [this]
      rw [Nat.mul_add, Nat.mul_add] at e3
      omega
theorem getD_set (l : List Nat) (j i v : Nat) (h : j < l.length) : (l.set j v).getD i 0 = if i = j then v else l.getD i 0 := by
  simp only [List.getD_eq_getElem?_getD, List.getElem?_set]
  by_cases e : i = j
  · subst e; simp [h]
  · simp [e, Ne.symm e]
theorem mem_set_lt {l : List Nat} {B j v : Nat} (h : ∀ a ∈ l, a < B) (hv : v < B) : ∀ a ∈ l.set j v, a < B := by
  intro a ha
  rcases List.mem_or_eq_of_mem_set ha with h1 | h1
  · exact h a h1
  · omega

/-- One step of a row of the product. -/
theorem times_step (B : Nat) (xs ys cur : List Nat) (i k c s : Nat) (hcur : ∀ a ∈ cur, a < B) (hlen : cur.length = xs.length + ys.length) (hi : i < xs.length) (hk : k < ys.length)
    (hz : ∀ j, i + ys.length ≤ j → cur.getD j 0 = 0) (hB : 0 < B)
    (hv : val B cur + B ^ (i + k) * c = val B (xs.take i) * val B ys + B ^ i * (xs.getD i 0 * val B (ys.take k))) (hs : s = cur.getD (i + k) 0 + xs.getD i 0 * ys.getD k 0 + c) :
    (∀ a ∈ cur.set (i + k) (s % B), a < B) ∧ (cur.set (i + k) (s % B)).length = xs.length + ys.length ∧ (∀ j, i + ys.length ≤ j → (cur.set (i + k) (s % B)).getD j 0 = 0) ∧
    val B (cur.set (i + k) (s % B)) + B ^ (i + (k + 1)) * (s / B) = val B (xs.take i) * val B ys + B ^ i * (xs.getD i 0 * val B (ys.take (k + 1))) := by
  refine ⟨mem_set_lt hcur (Nat.mod_lt _ hB), by simp [hlen], fun j hj => ?_, ?_⟩
  · rw [getD_set _ _ _ _ (by omega), if_neg (by omega)]; exact hz j hj
  · have h1 := val_set B cur (i + k) (s % B) (by omega)
    have h2 : B ^ (i + k) * s = B ^ (i + k) * (s % B) + B ^ (i + (k + 1)) * (s / B) := by
      rw [← Nat.add_assoc, Nat.pow_succ, Nat.mul_assoc, ← Nat.mul_add, Nat.mod_add_div]
    have h3 : B ^ (i + k) * s = B ^ (i + k) * cur.getD (i + k) 0 + B ^ (i + k) * (xs.getD i 0 * ys.getD k 0) + B ^ (i + k) * c := by rw [hs, Nat.mul_add, Nat.mul_add]
    have h4 : B ^ i * (xs.getD i 0 * val B (ys.take (k + 1))) = B ^ i * (xs.getD i 0 * val B (ys.take k)) + B ^ (i + k) * (xs.getD i 0 * ys.getD k 0) := by
      rw [val_take_succ, Nat.mul_add, Nat.mul_add, Nat.pow_add]
      congr 1
      rw [Nat.mul_assoc]; congr 1
      rw [← Nat.mul_assoc, ← Nat.mul_assoc, Nat.mul_comm (xs.getD i 0)]
    omega
/-- The end of a row. -/
theorem times_row (B : Nat) (xs ys cur : List Nat) (i c : Nat) (hcur : ∀ a ∈ cur, a < B) (hlen : cur.length = xs.length + ys.length) (hi : i < xs.length) (hc : c < B)
    (hz : ∀ j, i + ys.length ≤ j → cur.getD j 0 = 0)
    (hv : val B cur + B ^ (i + ys.length) * c = val B (xs.take i) * val B ys + B ^ i * (xs.getD i 0 * val B ys)) :
    (∀ a ∈ cur.set (i + ys.length) c, a < B) ∧ (cur.set (i + ys.length) c).length = xs.length + ys.length ∧ (∀ j, i + 1 + ys.length ≤ j → (cur.set (i + ys.length) c).getD j 0 = 0) ∧
    val B (cur.set (i + ys.length) c) = val B (xs.take (i + 1)) * val B ys := by
  refine ⟨mem_set_lt hcur hc, by simp [hlen], fun j hj => ?_, ?_⟩
  · rw [getD_set _ _ _ _ (by omega), if_neg (by omega)]; exact hz j (by omega)
  · have h1 := val_set B cur (i + ys.length) c (by omega)
    rw [hz _ (Nat.le_refl _)] at h1
    rw [val_take_succ, Nat.add_mul, Nat.mul_assoc]
    omega
theorem times_bound {a b c d : Nat} (ha : a < 1000000000) (hb : b < 1000000000) (hc : c < 1000000000) (hd : d < 1000000000) : d + a * b + c < 1000000000000000000 ∧ a * b < 1000000000000000000 := by
  have := Nat.mul_le_mul (show a ≤ 999999999 by omega) (show b ≤ 999999999 by omega)
  omega
end Go.Proofs.YtcjcknncajinpaaDoor
