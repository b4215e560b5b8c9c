/- The words of a row of digits, from the right. -/
import Derived.Test.YtcjcknncajinpaaDoorIN0
namespace Go.Proofs.YtcjcknncajinpaaDoor
open Go.RowKit

/-- The words of the first e digits, the last one first. -/
def ws (d : List UInt8) (e : Nat) : List Nat :=
  if h : e = 0 then [] else dv 0 ((d.drop (e - 9)).take (e - (e - 9))) :: ws d (e - 9)
termination_by e
decreasing_by omega
theorem ws_zero (d : List UInt8) : ws d 0 = [] := by rw [ws]; simp
theorem ws_pos (d : List UInt8) (e : Nat) (h : 0 < e) : ws d e = dv 0 ((d.drop (e - 9)).take (e - (e - 9))) :: ws d (e - 9) := by rw [ws, dif_neg (by omega)]
theorem all_sub (d : List UInt8) (h : d.all isDig = true) (a b : Nat) : ((d.drop a).take b).all isDig = true := by
  rw [List.all_eq_true] at h ⊢
  intro x hx; exact h x (List.mem_of_mem_drop (List.mem_of_mem_take hx))
theorem ws_word (d : List UInt8) (e : Nat) (h : d.all isDig = true) (h0 : 0 < e) (he : e ≤ d.length) :
    Lib.parseUintB 32 ((d.drop (e - 9)).take (e - (e - 9))) = .ok (dv 0 ((d.drop (e - 9)).take (e - (e - 9)))) ∧ dv 0 ((d.drop (e - 9)).take (e - (e - 9))) < 1000000000 := by
  have hl : ((d.drop (e - 9)).take (e - (e - 9))).length = e - (e - 9) := by rw [List.length_take, List.length_drop]; omega
  refine parse_ok _ ?_ (all_sub d h _ _) (by rw [hl]; omega)
  intro e2; rw [e2] at hl; simp at hl; omega
theorem ws_lt (d : List UInt8) (h : d.all isDig = true) : ∀ e, e ≤ d.length → ∀ x ∈ ws d e, x < 1000000000 := by
  intro e
  induction e using Nat.strongRecOn with
  | _ e ih =>
    intro he x hx
    by_cases h0 : e = 0
    · subst h0; rw [ws_zero] at hx; cases hx
    · rw [ws_pos d e (by omega)] at hx
      rcases List.mem_cons.1 hx with rfl | hx
      · exact (ws_word d e h (by omega) he).2
      · exact ih (e - 9) (by omega) (by omega) x hx
theorem ws_len (d : List UInt8) : ∀ e, (ws d e).length ≤ e := by
  intro e
  induction e using Nat.strongRecOn with
  | _ e ih =>
    by_cases h0 : e = 0
    · subst h0; rw [ws_zero]; exact Nat.le_refl _
    · rw [ws_pos d e (by omega), List.length_cons]
      have := ih (e - 9) (by omega); omega
theorem ws_val (d : List UInt8) : ∀ e, e ≤ d.length → val 1000000000 (ws d e) = dv 0 (d.take e) := by
  intro e
  induction e using Nat.strongRecOn with
  | _ e ih =>
    intro he
    by_cases h0 : e = 0
    · subst h0; rw [ws_zero, List.take_zero, dv_nil]; rfl
    · rw [ws_pos d e (by omega), val, ih (e - 9) (by omega) (by omega)]
      have e1 : d.take e = d.take (e - 9) ++ (d.drop (e - 9)).take (e - (e - 9)) := by
        conv => lhs; rw [show e = (e - 9) + (e - (e - 9)) by omega]
        rw [List.take_add]
      have hl : ((d.drop (e - 9)).take (e - (e - 9))).length = e - (e - 9) := by rw [List.length_take, List.length_drop]; omega
      conv => rhs; rw [e1, dv_append, dv_acc, hl]
      by_cases h9 : 9 ≤ e
      · rw [show e - (e - 9) = 9 by omega, show (10 : Nat) ^ 9 = 1000000000 from rfl, Nat.add_comm, Nat.mul_comm]
      · rw [show e - 9 = 0 by omega, List.take_zero, dv_nil, Nat.zero_mul, Nat.mul_zero, Nat.add_comm]
theorem ws_dec (n : Nat) : val 1000000000 (ws (Lib.decDigits n) (Lib.decDigits n).length) = n := by
  rw [ws_val _ _ (Nat.le_refl _), List.take_length, dv_dec]
end Go.Proofs.YtcjcknncajinpaaDoor
