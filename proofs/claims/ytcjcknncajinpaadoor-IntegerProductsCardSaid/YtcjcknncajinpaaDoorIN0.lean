/- Decimal numerals: their values, what a canonical text is. -/
import Derived.Test.YtcjcknncajinpaaDoorIL
namespace Go.Proofs.YtcjcknncajinpaaDoor
open Go.RowKit

/-- The value of a row of digits behind others. -/
def dv (acc : Nat) (l : List UInt8) : Nat := l.foldl (fun a c => a * 10 + (c.toNat - 48)) acc
theorem dv_cons (acc : Nat) (c : UInt8) (l : List UInt8) : dv acc (c :: l) = dv (acc * 10 + (c.toNat - 48)) l := by unfold dv; rw [List.foldl_cons]
theorem dv_nil (acc : Nat) : dv acc [] = acc := by unfold dv; rw [List.foldl_nil]
theorem big_eq (z : Int) (n : Nat) (h : z.natAbs = n) : (if big z then (11 : Int) else 0) = if 1024 < (Lib.decDigits n).length then 11 else 0 := by
  subst h; simp [big]
theorem dv_append (l l' : List UInt8) (acc : Nat) : dv acc (l ++ l') = dv (dv acc l) l' := by unfold dv; rw [List.foldl_append]
theorem dv_acc (l : List UInt8) : ∀ acc, dv acc l = acc * 10 ^ l.length + dv 0 l := by
  induction l with
  | nil => intro acc; rw [dv_nil, dv_nil, List.length_nil, Nat.pow_zero, Nat.mul_one, Nat.add_zero]
  | cons c l ih =>
    intro acc
    rw [dv_cons, dv_cons, ih (acc * 10 + _), ih (0 * 10 + _), List.length_cons, Nat.pow_succ, Nat.zero_mul, Nat.zero_add, Nat.add_mul, Nat.mul_assoc, Nat.mul_comm 10, Nat.add_assoc]
theorem dv_lt (l : List UInt8) (h : l.all isDig = true) : dv 0 l < 10 ^ l.length := by
  induction l with
  | nil => rw [dv_nil]; exact Nat.pow_pos (by omega)
  | cons c l ih =>
    simp only [List.all_cons, Bool.and_eq_true] at h
    have hc : c.toNat ≤ 57 := by have := h.1; simp [isDig] at this; exact this.2
    have := ih h.2
    rw [dv_cons, dv_acc, List.length_cons, Nat.pow_succ]
    have h9 : (0 * 10 + (c.toNat - 48)) * 10 ^ l.length ≤ 9 * 10 ^ l.length := Nat.mul_le_mul_right _ (by omega)
    omega
theorem dec_step (m d : Nat) (hm : 0 < m) (hd : d < 10) : Lib.decDigits (m * 10 + d) = Lib.decDigits m ++ [UInt8.ofNat (48 + d)] := by
  rw [Lib.decDigits, dif_neg (by omega), show (m * 10 + d) / 10 = m by omega, show (m * 10 + d) % 10 = d by omega]
theorem dv_dec (n : Nat) : dv 0 (Lib.decDigits n) = n := by
  induction n using Nat.strongRecOn with
  | _ n ih =>
    by_cases h : n < 10
    · rw [Lib.decDigits_one h, dv_cons, dv_nil, UInt8.toNat_ofNat']; omega
    · have e : n = n / 10 * 10 + n % 10 := by omega
      rw [e, dec_step _ _ (by omega) (by omega), dv_append, ih _ (by omega)]
      rw [dv_cons, dv_nil, UInt8.toNat_ofNat']; omega
theorem ofNat_dig (c : UInt8) (h : isDig c = true) : UInt8.ofNat (48 + (c.toNat - 48)) = c := by
  simp [isDig] at h
  apply UInt8.toNat_inj.1
  rw [UInt8.toNat_ofNat']
  have := UInt8.toNat_lt c
  have h1 : 48 ≤ c.toNat := by have := h.1; omega
  omega
/-- A row of digits that does not begin with 0 is the numeral of its value. -/
theorem dec_dv_pos (l : List UInt8) (m : Nat) (hm : 0 < m) (h : l.all isDig = true) : Lib.decDigits (dv m l) = Lib.decDigits m ++ l := by
  induction l generalizing m with
  | nil => rw [dv_nil, List.append_nil]
  | cons c l ih =>
    simp only [List.all_cons, Bool.and_eq_true] at h
    have hc : c.toNat - 48 < 10 := by have := h.1; simp [isDig] at this; have := this.2; omega
    rw [dv_cons, ih _ (by omega) h.2, dec_step _ _ hm hc, ofNat_dig _ h.1]
    simp
theorem dec_dv (x : UInt8) (t : List UInt8) (h : (x :: t).all isDig = true) (h0 : x.toNat = 48 → t = []) : Lib.decDigits (dv 0 (x :: t)) = x :: t := by
  simp only [List.all_cons, Bool.and_eq_true] at h
  have hx : 48 ≤ x.toNat ∧ x.toNat ≤ 57 := by have := h.1; simp [isDig] at this; exact ⟨this.1, this.2⟩
  rw [dv_cons]
  by_cases e : x.toNat = 48
  · rw [h0 e, dv_nil, e, Lib.decDigits_one (by omega)]
    congr 1
    exact UInt8.toNat_inj.1 (by rw [e]; rfl)
  · rw [dec_dv_pos _ _ (by omega) h.2, Lib.decDigits_one (by omega)]
    rw [show 48 + (0 * 10 + (x.toNat - 48)) = 48 + (x.toNat - 48) by omega, ofNat_dig _ h.1]; rfl
theorem dec_all (n : Nat) : (Lib.decDigits n).all isDig = true := by
  rw [List.all_eq_true]; intro d hd
  have := dec_mem n d hd
  simp only [isDig, Bool.and_eq_true, decide_eq_true_eq]; exact this
theorem dec_head0 (n : Nat) (h : n ≠ 0) : ∃ x t, Lib.decDigits n = x :: t ∧ x.toNat ≠ 48 := by
  induction n using Nat.strongRecOn with
  | _ n ih =>
    by_cases hn : n < 10
    · exact ⟨_, [], Lib.decDigits_one hn, by rw [UInt8.toNat_ofNat']; omega⟩
    · obtain ⟨x, t, e, hx⟩ := ih (n / 10) (by omega) (by omega)
      refine ⟨x, t ++ [UInt8.ofNat (48 + n % 10)], ?_, hx⟩
      rw [Lib.decDigits, dif_neg hn, e]; rfl
theorem pre_cases (l : List UInt8) : (Lib.hasPrefix l [45] = true ∧ l = 45 :: Lib.trimPrefix l [45]) ∨ (Lib.hasPrefix l [45] = false ∧ l = Lib.trimPrefix l [45]) := by
  cases l with
  | nil => right; simp [Lib.hasPrefix, Lib.trimPrefix, List.isPrefixOf]
  | cons c l =>
    by_cases hc : c = 45
    · subst hc; left; simp [Lib.hasPrefix, Lib.trimPrefix, List.isPrefixOf]
    · right
      have : Lib.hasPrefix (c :: l) [45] = false := by simp [Lib.hasPrefix, List.isPrefixOf]; exact fun h => hc h.symm
      refine ⟨this, by simp [Lib.trimPrefix, this]⟩
/-- A text without a fault is the numeral of an integer that is not too long. -/
theorem chk_form (l : List UInt8) (h : chk l ≠ 3) : ∃ z, l = Lib.itoa z ∧ chk l = if big z then 11 else 0 := by
  unfold chk at h ⊢
  have hp := pre_cases l
  generalize Lib.trimPrefix l [45] = d at *
  generalize Lib.hasPrefix l [45] = m at *
  by_cases ha : d.all isDig = true
  · cases d with
    | nil => exact absurd (by simp [chkD]) h
    | cons x t =>
      rw [chkD_cons _ _ _ ha] at h ⊢
      by_cases h3 : x.toNat = 48 ∧ (0 < t.length ∨ m = true)
      · rw [if_pos h3] at h; exact absurd rfl h
      · have hd := dec_dv x t ha (fun e => by
          rcases t with _ | ⟨c, t⟩
          · rfl
          · exact absurd ⟨e, .inl (by simp)⟩ h3)
        have hlen : (1023 < t.length) ↔ 1024 < (Lib.decDigits (dv 0 (x :: t))).length := by rw [hd, List.length_cons]; omega
        rw [if_neg h3]
        rcases hp with ⟨hm, hl⟩ | ⟨hm, hl⟩
        · have h0 : dv 0 (x :: t) ≠ 0 := by
            intro e0
            rw [e0] at hd
            rw [show Lib.decDigits 0 = [48] from by rw [Lib.decDigits_one (by omega)]; rfl] at hd
            injection hd with hx ht
            exact h3 ⟨by rw [← hx]; rfl, .inr hm⟩
          refine ⟨-(dv 0 (x :: t) : Int), ?_, ?_⟩
          · rw [itoa_cases, if_pos (by omega), show (-(dv 0 (x :: t) : Int)).natAbs = dv 0 (x :: t) by omega, hd]; exact hl
          · rw [big_eq _ (dv 0 (x :: t)) (by omega)]; simp only [← hlen]
        · refine ⟨(dv 0 (x :: t) : Int), ?_, ?_⟩
          · rw [itoa_cases, if_neg (by omega), show ((dv 0 (x :: t) : Int)).natAbs = dv 0 (x :: t) by omega, hd]; exact hl
          · rw [big_eq _ (dv 0 (x :: t)) (by omega)]; simp only [← hlen]
  · exact absurd (by simp only [chkD]; rw [if_pos (by simpa using ha)]) h
/-- The numeral of an integer has no fault but its length. -/
theorem chk_itoa (z : Int) : chk (Lib.itoa z) = if big z then 11 else 0 := by
  unfold chk
  rw [pre_itoa, trim_itoa]
  have ha := dec_all z.natAbs
  rw [big_eq z _ rfl]
  by_cases h0 : z.natAbs = 0
  · obtain rfl : z = 0 := by omega
    rw [show Int.natAbs 0 = 0 from rfl, show Lib.decDigits 0 = [48] from by rw [Lib.decDigits_one (by omega)]; rfl]
    decide
  · obtain ⟨x, t, e, hx⟩ := dec_head0 _ h0
    rw [e] at ha ⊢
    rw [chkD_cons _ _ _ ha, if_neg (fun h => hx h.1)]
    have e2 : (1024 < (x :: t).length) = (1023 < t.length) := propext ⟨by simp; omega, by simp; omega⟩
    simp only [e2]
theorem parse_ok (l : List UInt8) (hne : l ≠ []) (h : l.all isDig = true) (hl : l.length ≤ 9) : Lib.parseUintB 32 l = .ok (dv 0 l) ∧ dv 0 l < 1000000000 := by
  have key : ∀ (l : List UInt8) (acc k : Nat), l.all isDig = true → l.length ≤ k → acc * 10 ^ k + 10 ^ k ≤ 1000000000 → Lib.parseUintM (2 ^ 32 - 1) acc l = .ok (dv acc l) := by
    intro l
    induction l with
    | nil => intro acc k _ _ _; rw [dv_nil]; rfl
    | cons c l ih =>
      intro acc k h hl hb
      simp only [List.all_cons, Bool.and_eq_true] at h
      have hx : 48 ≤ c.toNat ∧ c.toNat ≤ 57 := by have := h.1; simp [isDig] at this; exact ⟨this.1, this.2⟩
      obtain ⟨k, rfl⟩ : ∃ k', k = k' + 1 := ⟨k - 1, by simp at hl; omega⟩
      have hp : 1 ≤ 10 ^ k := Nat.pow_pos (by omega)
      rw [Nat.pow_succ] at hb
      have hb2 : (acc * 10 + 10) * 10 ^ k ≤ 1000000000 := by
        have : (acc * 10 + 10) * 10 ^ k = acc * (10 ^ k * 10) + 10 ^ k * 10 := by rw [Nat.add_mul, Nat.mul_assoc, Nat.mul_comm 10]
        omega
      have hs : acc * 10 + 10 ≤ 1000000000 := Nat.le_trans (Nat.le_mul_of_pos_right _ hp) hb2
      have hn : (acc * 10 + (c.toNat - 48)) * 10 ^ k + 10 ^ k ≤ 1000000000 := by
        have e : (acc * 10 + (c.toNat - 48)) * 10 ^ k + 10 ^ k = (acc * 10 + (c.toNat - 48) + 1) * 10 ^ k := by rw [Nat.add_mul (acc * 10 + (c.toNat - 48)) 1, Nat.one_mul]
        rw [e]; exact Nat.le_trans (Nat.mul_le_mul_right _ (by omega)) hb2
      rw [Lib.parseUintM, if_pos hx, if_neg (by omega), if_neg (by omega), dv_cons]
      exact ih _ k h.2 (by simpa using hl) hn
  refine ⟨?_, Nat.lt_of_lt_of_le (dv_lt l h) (Nat.le_trans (Nat.pow_le_pow_right (by omega) hl) (by decide))⟩
  unfold Lib.parseUintB
  rw [if_neg hne]
  exact key l 0 9 h hl (by decide)
end Go.Proofs.YtcjcknncajinpaaDoor
