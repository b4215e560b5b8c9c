/- The walk of integer's Small. -/
import Derived.Test.YtcjcknncajinpaaGreatDoorIU
import Derived.Lib.AtoiAllCases
namespace Go.Proofs.YtcjcknncajinpaaGreatDoor
open Go.RowKit
set_option maxRecDepth 100000

theorem dv_ge (l : List UInt8) : ∀ acc, acc ≤ dv acc l := by
  induction l with
  | nil => intro acc; rw [dv_nil]; exact Nat.le_refl _
  | cons c l ih => intro acc; rw [dv_cons]; have := ih (acc * 10 + (c.toNat - 48)); omega
theorem parse10 (l : List UInt8) (h : l.all isDig = true) : ∀ acc, acc < 18446744073709551616 → Lib.parseUint10 acc l = if dv acc l < 18446744073709551616 then .ok (dv acc l) else .range := by
  induction l with
  | nil => intro acc ha; rw [dv_nil, if_pos ha]; rfl
  | cons c l ih =>
    intro acc ha
    simp only [List.all_cons, Bool.and_eq_true] at h
    have hx : 48 ≤ c.toNat ∧ c.toNat ≤ 57 := by have := h.1; simp [isDig] at this; exact ⟨this.1, this.2⟩
    have hge := dv_ge l (acc * 10 + (c.toNat - 48))
    rw [Lib.parseUint10, if_pos hx, dv_cons]
    by_cases h1 : 1844674407370955162 ≤ acc
    · rw [if_pos h1, if_neg (by omega)]
    · rw [if_neg h1]
      by_cases h2 : 18446744073709551616 ≤ acc * 10 + (c.toNat - 48)
      · rw [if_pos h2, if_neg (by omega)]
      · rw [if_neg h2]; exact ih h.2 _ (by omega)
theorem mag_dec (n : Nat) : Lib.parseMag (Lib.decDigits n) = if n < 18446744073709551616 then .ok n else .range := by
  unfold Lib.parseMag
  rw [if_neg (dec_ne n), parse10 _ (dec_all n) 0 (by omega), dv_dec]
/-- Is it an int? -/
def isI64 (z : Int) : Bool := decide (-9223372036854775808 ≤ z) && decide (z ≤ 9223372036854775807)
theorem atoi_itoa (z : Int) : Lib.atoiAll (Lib.itoa z) = if isI64 z then .ok z else .range := by
  rw [itoa_cases]
  by_cases h : z < 0
  · rw [if_pos h, Lib.atoiAll_minus, mag_dec]
    by_cases h1 : z.natAbs < 18446744073709551616
    · rw [if_pos h1]
      simp only [Lib.signed]
      by_cases h2 : 9223372036854775808 < z.natAbs
      · rw [if_pos h2, if_neg (by simp [isI64]; omega)]
      · rw [if_neg h2, if_pos (by simp [isI64]; omega)]; congr 1; omega
    · rw [if_neg h1, if_neg (by simp [isI64]; omega)]; rfl
  · rw [if_neg h]
    have hm := dec_mem z.natAbs
    have he := mag_dec z.natAbs
    cases e : Lib.decDigits z.natAbs with
    | nil => exact absurd e (dec_ne _)
    | cons c r =>
      rw [e] at hm he
      have := hm c (by simp)
      rw [Lib.atoiAll_plain c r (by omega) (by omega), he]
      by_cases h1 : z.natAbs < 18446744073709551616
      · rw [if_pos h1]
        simp only [Lib.signless]
        by_cases h2 : 9223372036854775808 ≤ z.natAbs
        · rw [if_pos h2, if_neg (by simp [isI64]; omega)]
        · rw [if_neg h2, if_pos (by simp [isI64]; omega)]; congr 1; omega
      · rw [if_neg h1, if_neg (by simp [isI64]; omega)]; rfl

end Go.Proofs.YtcjcknncajinpaaGreatDoor
