/- Plain laws for the long division: the scale, and the steps put together. The walk of integer's division of natural numbers. The contracts of the library that the program calls, at this translation: laid by the guide's own tools (lay-shelf, lay-plain), the wanted ones alone. What is asked of the package-level variables, and that it stays; the builder's contracts in the program's own numbers. Plain laws on decimal texts of numbers in words. The walk of integer's text of a natural number. The walks of integer's natural numbers: the difference. The walks of integer's numbers with a sign. -/
import Derived.Test.YtlnhocgjgmhfgaaGreatDoorPk19
import Derived.Test.YtlnhocgjgmhfgaaGreatDoorPk18
import Derived.Shelf.Strings.Builder1
import Derived.Shelf.Strings.Builder2
import Derived.Shelf.Small.Bits
import Derived.Shelf.Small.Wraps
import Derived.Shelf.Strings.BuilderF
import Derived.Shelf.Strings.BuilderK
import Derived.Shelf.Strings.Builder2Cap
import Derived.Shelf.Strconv.Itoa0
import Derived.Shelf.Strconv.Itoa1
import Derived.Shelf.LaysM
import Derived.Shelf.Strconv.Itoa2
import Derived.Shelf.Strconv.Itoa3
import Derived.Shelf.Strconv.Clone
import Derived.Shelf.Strconv.SyntaxError
import Derived.Shelf.LaysC
import Derived.Shelf.Strconv.ToError
import Derived.Shelf.Strconv.Lower
import Derived.Shelf.Strconv.ParseUint10
import Derived.Shelf.Strconv.ParseUint10Empty
import Derived.Shelf.Strconv.ParseUint10Any
import Derived.Shelf.Strconv.RangeError
import Derived.Shelf.Strconv.ToErrorRange
import Derived.Shelf.Strconv.ParseUintEmpty
import Derived.Shelf.Strconv.ParseUint10b64
import Derived.Shelf.Strconv.ParseUint10b32
import Derived.Shelf.Strconv.ParseUint10b16
import Derived.Shelf.Strconv.ParseUint10b8
import Derived.Shelf.Strconv.ParseUint10At
import Derived.Ground.MpProg
import Derived.Shelf.Pu.ParseUintPublic10
import Derived.Shelf.Pu.ErrVarParseUint
import Derived.Shelf.Strings.Prefix
import Derived.Shelf.Bits.Mul64
import Derived.Shelf.Strings.Repeat
import Derived.Shelf.Strings.BuilderCap
import Derived.Shelf.Slices.Equal
import Derived.Ground.Names2Prog
import Derived.Shelf.Slices.Clone
import Derived.Shelf.Slices.SearchI
import Derived.Shelf.Slices.Empties2
import Derived.Ground.SlgnProg
import Derived.Shelf.SlicesE.Clone
import Derived.Test.YtlnhocgjgmhfgaaGreatDoorProg
import Derived.Test.YtlnhocgjgmhfgaaGreatDoorPk1
import Derived.Lib.AppendIntMem
import Derived.Lib.SmallJoins
import Derived.Lib.ItoaNum
import Derived.Lib.Repeat
namespace Go.Proofs.YtlnhocgjgmhfgaaGreatDoor

theorem scale_ok (y s : Nat) (h1 : 1 ≤ y) (h2 : y < 1000000000) (hs : s = 1000000000 / (y + 1)) : 1 ≤ s ∧ s * (y + 1) ≤ 1000000000 ∧ 1000000000 ≤ 2 * (y * s) ∧ s ≤ 500000000 := by
  have hm := Nat.div_add_mod 1000000000 (y + 1)
  have hr := Nat.mod_lt 1000000000 (show 0 < y + 1 by omega)
  rw [← hs] at hm
  generalize 1000000000 % (y + 1) = r at *
  have hc : (y + 1) * s = y * s + s := by rw [Nat.add_mul, Nat.one_mul]
  have h5 : s ≤ 500000000 := by
    have := Nat.div_le_div_left (a := 1000000000) (show 2 ≤ y + 1 by omega) (by omega)
    omega
  have hs1 : 1 ≤ s := by
    rcases Nat.eq_zero_or_pos s with h | h
    · subst h; simp at hm; omega
    · exact h
  have hle : s * (y + 1) ≤ 1000000000 := by rw [Nat.mul_comm]; omega
  refine ⟨hs1, hle, ?_, h5⟩
  rcases Nat.lt_or_ge s 2 with h | h
  · obtain rfl : s = 1 := by omega
    omega
  · rcases Nat.lt_or_ge y 2 with h3 | h3
    · obtain rfl : y = 1 := by omega
      omega
    · -- r ≤ y, s ≥ 2, y ≥ 2: y + 2 s ≤ s (y + 1)
      obtain ⟨s', rfl⟩ : ∃ s', s = s' + 2 := ⟨s - 2, by omega⟩
      obtain ⟨y', rfl⟩ : ∃ y', y = y' + 2 := ⟨y - 2, by omega⟩
      have e1 : (y' + 2) * (s' + 2) = y' * s' + 2 * y' + 2 * s' + 4 := by grind
      rw [e1] at hc ⊢
      omega

theorem split1 (B : Nat) (l : List Nat) (m : Nat) (h : m + 1 = l.length) : val B l = l.getD m 0 * B ^ m + val B (l.take m) := by
  have h1 := val_take_succ B l m
  rw [h, List.take_of_length_le (Nat.le_refl _)] at h1
  rw [h1, Nat.mul_comm]; omega
/-- The divisor, scaled: as many words, the first of which is not less than half the base. -/
theorem norm_ok (b m s y : Nat) (hb : m + 1 = (digs 1000000000 b).length) (hy : y = (digs 1000000000 b).getD m 0) (hs : s = 1000000000 / (y + 1)) :
    1 ≤ y ∧ y < 1000000000 ∧ 1 ≤ s ∧ s ≤ 500000000 ∧ (digs 1000000000 (b * s)).length = m + 1 ∧ 500000000 ≤ (digs 1000000000 (b * s)).getD m 0 ∧ 1000000000 ^ m ≤ b := by
  have hlt := digs_lt 1000000000 b (by omega)
  have hy2 : y < 1000000000 := by rw [hy]; exact getD_lt hlt (by omega)
  have hlast := digs_last 1000000000 b (by omega)
  have hy1 : 1 ≤ y := by
    rw [List.getLast?_eq_getElem?, ← hb] at hlast
    rcases Nat.eq_zero_or_pos y with h | h
    · exfalso; apply hlast
      rw [h] at hy
      rw [show m + 1 - 1 = m by omega, List.getElem?_eq_getElem (by omega)]
      rw [List.getD_eq_getElem?_getD, List.getElem?_eq_getElem (by omega)] at hy
      simpa using hy.symm
    · exact h
  obtain ⟨hs1, hle, h2, h5⟩ := scale_ok y s hy1 hy2 hs
  have hv := split1 1000000000 _ m hb
  rw [val_digs 1000000000 b (by omega), ← hy] at hv
  have hvl := val_lt 1000000000 ((digs 1000000000 b).take m) (mem_take hlt)
  rw [List.length_take_of_le (by omega)] at hvl
  generalize val 1000000000 ((digs 1000000000 b).take m) = vl at *
  have hbs : b * s < 1000000000 ^ (m + 1) := by
    have e1 : b < (y + 1) * 1000000000 ^ m := by rw [Nat.add_mul, Nat.one_mul]; omega
    have e2 : b * s < (y + 1) * 1000000000 ^ m * s := Nat.mul_lt_mul_of_pos_right e1 hs1
    have e3 : s * (y + 1) * 1000000000 ^ m ≤ 1000000000 * 1000000000 ^ m := Nat.mul_le_mul_right _ hle
    have e4 : (y + 1) * 1000000000 ^ m * s = s * (y + 1) * 1000000000 ^ m := by grind
    rw [Nat.pow_succ, Nat.mul_comm (1000000000 ^ m)]
    omega
  have hbm : 1000000000 ^ m ≤ b := by
    have : 1 * 1000000000 ^ m ≤ y * 1000000000 ^ m := Nat.mul_le_mul_right _ hy1
    omega
  have hl : (digs 1000000000 (b * s)).length = m + 1 := by
    have h1 := (digs_len 1000000000 (b * s) (m + 1) (by omega)).2 hbs
    have h3 := digs_len_mono 1000000000 (by omega) (show b ≤ b * s from Nat.le_mul_of_pos_right b hs1)
    omega
  refine ⟨hy1, hy2, hs1, h5, hl, ?_, hbm⟩
  have hw := split1 1000000000 _ m hl.symm
  rw [val_digs 1000000000 (b * s) (by omega)] at hw
  have hwl := val_lt 1000000000 ((digs 1000000000 (b * s)).take m) (mem_take (digs_lt 1000000000 (b * s) (by omega)))
  rw [List.length_take_of_le (by omega)] at hwl
  generalize val 1000000000 ((digs 1000000000 (b * s)).take m) = wl at *
  generalize (digs 1000000000 (b * s)).getD m 0 = t at *
  have h3 : y * s * 1000000000 ^ m ≤ b * s := by
    rw [hv]; have : (y * 1000000000 ^ m) * s ≤ (y * 1000000000 ^ m + vl) * s := Nat.mul_le_mul_right _ (by omega)
    have e : y * s * 1000000000 ^ m = y * 1000000000 ^ m * s := by grind
    omega
  rcases Nat.lt_or_ge t 500000000 with h | h
  · exfalso
    have h4 : (t + 1) * 1000000000 ^ m ≤ y * s * 1000000000 ^ m := Nat.mul_le_mul_right _ (by omega)
    rw [Nat.add_mul, Nat.one_mul] at h4
    omega
  · exact h

/-- One step of the division, on the numbers. A: the words that are still to come, x the last of them; R: the rest; qs: the quotient's words. -/
theorem div_step (B V N a x R U q r Q k : Nat) (hN : a + B ^ k * x + B ^ (k + 1) * (R + V * Q) = N) (hU : U = x + B * R) (hq : U = q * V + r) : a + B ^ k * (r + V * (q + B * Q)) = N := by
  rw [← hN, Nat.pow_succ]
  have : x + B * R = q * V + r := by rw [← hU, hq]
  have e : B ^ k * (x + B * R) = B ^ k * (q * V + r) := by rw [this]
  grind
theorem div_end (a b s R Q : Nat) (hs : 1 ≤ s) (h : R + b * s * Q = a * s) (hR : R < b * s) : Q = a / b ∧ R / s = a % b := by
  have hb : 0 < b := by
    rcases Nat.eq_zero_or_pos b with h | h
    · subst h; simp at hR
    · exact h
  have hd : a * s / (b * s) = Q := by
    rw [← h, Nat.add_mul_div_left _ _ (by omega), Nat.div_eq_of_lt hR, Nat.zero_add]
  rw [Nat.mul_div_mul_right _ _ hs] at hd
  refine ⟨hd.symm, ?_⟩
  have hm : a * s % (b * s) = R := by rw [← h, Nat.add_mul_mod_self_left, Nat.mod_eq_of_lt hR]
  rw [Nat.mul_mod_mul_right] at hm
  rw [← hm, Nat.mul_div_cancel _ hs]
theorem div_start (B a b s L m : Nat) (us : List Nat) (ha : a < B ^ L) (hb : B ^ (m + 1) ≤ b) (hs : 0 < s) (hl : us.length = L + 1) (hm : m + 2 ≤ L) (hv : val B us = a * s) :
    val B (us.take (L - m - 1)) + B ^ (L - m - 1) * val B (us.drop (L - m - 1)) = a * s ∧ val B (us.drop (L - m - 1)) < b * s ∧ (us.take (L - m - 1)).length = L - m - 1 ∧ (us.drop (L - m - 1)).length = m + 2 := by
  have h1 := val_append B (us.take (L - m - 1)) (us.drop (L - m - 1))
  rw [List.take_append_drop, List.length_take_of_le (by omega), hv] at h1
  refine ⟨h1.symm, ?_, by simp; omega, by simp; omega⟩
  have h2 : a * s < B ^ L * s := Nat.mul_lt_mul_of_pos_right ha hs
  have h3 : B ^ L = B ^ (L - m - 1) * B ^ (m + 1) := by rw [← Nat.pow_add]; congr 1; omega
  have h4 : B ^ (L - m - 1) * val B (us.drop (L - m - 1)) < B ^ (L - m - 1) * (B ^ (m + 1) * s) := by rw [← Nat.mul_assoc, ← h3]; omega
  have h5 := Nat.lt_of_mul_lt_mul_left h4
  have h6 : B ^ (m + 1) * s ≤ b * s := Nat.mul_le_mul_right _ hb
  omega
theorem val_zeros (B n : Nat) : val B (List.replicate n 0) = 0 := by
  induction n with
  | zero => rfl
  | succ n ih => rw [List.replicate_succ, val, ih]; rfl
theorem trim_zeros (l : List Nat) (n : Nat) : trim (l ++ List.replicate n 0) = trim l := by
  induction n with
  | zero => simp
  | succ n ih => rw [List.replicate_succ', ← List.append_assoc, trim_snoc_zero, ih]
/-- A list of n + 1 words whose number has n: the last is 0. -/
theorem last_zero (B : Nat) (l : List Nat) (n : Nat) (hl : l.length = n + 1) (hv : val B l < B ^ n) : ∃ r, l = r ++ [0] ∧ r.length = n := by
  have h := split1 B l n hl.symm
  have hz : l.getD n 0 = 0 := by
    rcases Nat.eq_zero_or_pos (l.getD n 0) with h0 | h0
    · exact h0
    · have : 1 * B ^ n ≤ l.getD n 0 * B ^ n := Nat.mul_le_mul_right _ h0
      omega
  refine ⟨l.take n, ?_, by simp; omega⟩
  have h1 := take_snoc l n (by omega)
  rw [List.take_of_length_le (by omega)] at h1
  rw [List.getD_eq_getElem?_getD, List.getElem?_eq_getElem (by omega)] at hz
  simp only [Option.getD_some] at hz
  rw [hz] at h1
  exact h1
end Go.Proofs.YtlnhocgjgmhfgaaGreatDoor
namespace Go.Proofs.YtlnhocgjgmhfgaaGreatDoor
open Go.RowKit
set_option maxRecDepth 100000

def QuoRem (a b : Nat) (v : Value) (w' : World) : Prop := ∃ q r, v = .tuple #[q, r] ∧ Sl eU w' q (digs 1000000000 (a / b)) ∧ Sl eU w' r (digs 1000000000 (a % b))

set_option maxHeartbeats 1000000 in
theorem divided_one (w : World) (x y : Value) (a b : Nat) (hx : Sl eU w x (digs 1000000000 a)) (hy : Sl eU w y (digs 1000000000 b)) (hb : 0 < b)
    (hl : (digs 1000000000 a).length ≤ 1099511627776) (h1 : b < 1000000000) :
    Calls Tryz.prog 170 #[x, y] w (Rets fun v w' => QuoRem a b v w' ∧ Below w.heap.size w w') := by
  have hd : digs 1000000000 b = [b] := by rw [digs_pos _ _ (by omega) hb, Nat.mod_eq_of_lt h1, Nat.div_eq_of_lt h1, digs_zero]
  rw [hd] at hy
  clear hd
  have HX := Lib.hid hx; clear hx
  obtain ⟨a', bl, o, c, rfl, hi, hq, -, -⟩ := hy.open elemNat
  clear hy
  have c0 : w.cell? ⟨bl, o, none⟩ = some (.int .u32 (b : Nat)) := hq.2 0 (by simp)
  go_enter Tryz.func170, Tryz.ntmps170
  go_wp2_with fail
  refine (short_any w x _ b HX.out (digs_lt _ _ (by omega)) hb h1 hl).mono ?_
  rintro e w' ⟨v, rfl, ⟨q, r, rfl, hq', hr'⟩, hb'⟩
  rw [val_digs _ _ (by omega)] at hq' hr'
  have HQ := Lib.hid hq'; clear hq'
  have HR := Lib.hid hr'; clear hr'
  go_wp2
  go_ret2
  exact ⟨_, rfl, ⟨_, _, rfl, HQ.out, HR.out⟩, hb'⟩

set_option maxHeartbeats 1000000 in
theorem divided_less (w : World) (x y : Value) (a b : Nat) (hx : Sl eU w x (digs 1000000000 a)) (hy : Sl eU w y (digs 1000000000 b))
    (hl : (digs 1000000000 a).length ≤ 1099511627776) (hl' : (digs 1000000000 b).length ≤ 1099511627776) (h1 : 1000000000 ≤ b) (hlt : a < b) :
    Calls Tryz.prog 170 #[x, y] w (Rets fun v w' => QuoRem a b v w' ∧ Below w.heap.size w w') := by
  have hne : 2 ≤ (digs 1000000000 b).length := by
    rcases Nat.lt_or_ge (digs 1000000000 b).length 2 with h | h
    · have := (digs_len 1000000000 b 1 (by omega)).1 (by omega); omega
    · exact h
  have HX := Lib.hid hx; clear hx
  have HY := Lib.hid hy
  obtain ⟨a', bl, o, c, rfl, -, -, -, -⟩ := hy.open elemNat
  clear hy
  have h2 : (((digs 1000000000 b).length : Int) == 1) = false := by simp; omega
  go_enter Tryz.func170, Tryz.ntmps170
  go_wp2_with fail
  refine (compare_any w _ _ a b HX.out HY.out hl hl').mono ?_
  rintro e w' ⟨v, rfl, ⟨r, rfl, hr, -⟩, hb'⟩
  have hr := hr.2 hlt
  go_wp2
  go_ret2
  exact ⟨_, rfl, ⟨_, _, rfl, by rw [Nat.div_eq_of_lt hlt, digs_zero]; exact Sl.nil, by rw [Nat.mod_eq_of_lt hlt]; exact HX.out.below hb' (Nat.le_refl _)⟩, hb'⟩

set_option maxHeartbeats 4000000 in
theorem divided_main (w : World) (x y : Value) (a b : Nat) (hx : Sl eU w x (digs 1000000000 a)) (hy : Sl eU w y (digs 1000000000 b))
    (hl : (digs 1000000000 a).length ≤ 1000000000000) (hl' : (digs 1000000000 b).length ≤ 1000000000000) (h1 : 1000000000 ≤ b) (hlt : b ≤ a) :
    Calls Tryz.prog 170 #[x, y] w (Rets fun v w' => QuoRem a b v w' ∧ Below w.heap.size w w') := by
  have hne : 2 ≤ (digs 1000000000 b).length := by
    rcases Nat.lt_or_ge (digs 1000000000 b).length 2 with h | h
    · have := (digs_len 1000000000 b 1 (by omega)).1 (by omega); omega
    · exact h
  obtain ⟨m, hm⟩ : ∃ m, m + 2 = (digs 1000000000 b).length := ⟨(digs 1000000000 b).length - 2, by omega⟩
  obtain ⟨L, hL⟩ : ∃ L, L = (digs 1000000000 a).length := ⟨_, rfl⟩
  have hmL : m + 2 ≤ L := by rw [hm, hL]; exact digs_len_mono _ (by omega) hlt
  obtain ⟨yt, hyt⟩ : ∃ x, x = (digs 1000000000 b).getD (m + 1) 0 := ⟨_, rfl⟩
  obtain ⟨s, hs⟩ : ∃ x, x = 1000000000 / (yt + 1) := ⟨_, rfl⟩
  have hnorm := norm_ok b (m + 1) s yt hm hyt hs
  have hy1 := hnorm.1
  have hy2 := hnorm.2.1
  have hs1 := hnorm.2.2.1
  have hs2 := hnorm.2.2.2.1
  have HN := Lib.hid hnorm; clear hnorm
  have HX := Lib.hid hx
  have HY := Lib.hid hy
  have bx := digs_lt 1000000000 a (by omega)
  have by' := digs_lt 1000000000 b (by omega)
  obtain ⟨a', bl, o, c, rfl, hi, hq, -, -⟩ := hy.open elemNat
  obtain ⟨a2, bl2, o2, c2, rfl, -, -, -, -⟩ := hx.open elemNat
  rw [← hm] at hi hl' ⊢
  rw [← hL] at hl ⊢
  clear hy hx hne
  have ct : w.cell? ⟨bl, o + (m + 1), none⟩ = some (.int .u32 (yt : Nat)) := by
    rw [hq.2 (m + 1) (by omega), hyt]
    simp [eU, show m + 1 < (digs 1000000000 b).length by omega]
  have HM := Lib.hid hm; clear hm
  have HL := Lib.hid hL; clear hL
  have HYT := Lib.hid hyt; clear hyt
  have HS := Lib.hid hs
  have hsI : (1000000000 : Int) / ((yt : Int) + 1) = (s : Int) := by rw [hs]; simp
  clear hs
  have BX := Lib.hid bx; clear bx
  have BY := Lib.hid by'; clear by'
  have h2 : (((m : Int) + 2) == 1) = false := by simp; omega
  go_enter Tryz.func170, Tryz.ntmps170
  go_wp2_with fail
  refine (compare_any w _ _ a b (by rw [HL.out]; exact HX.out) (by rw [HM.out]; exact HY.out) (by rw [← HL.out]; omega) (by rw [← HM.out]; omega)).mono ?_
  rintro e w1 ⟨v, rfl, ⟨r, rfl, hr, -⟩, hb1⟩
  have hr : 0 ≤ r := by have := hr.1; omega
  have ct1 := (hb1.cell (p := ⟨bl, o + (m + 1), none⟩) (hq.1 (by rw [← HM.out]; omega))).trans ct
  clear ct
  go_wp2_with fail
  refine (times_any _ _ _ (digs 1000000000 b) [s] (by rw [HM.out]; exact HY.out.below (hb1.alloc hb1.size _) (Nat.le_refl _)) (Sl.single w1 s _ rfl _) BY.out (by intro x hx; rw [List.mem_singleton.1 hx]; omega) (by rw [← HM.out]; simp; omega)).mono ?_
  rintro e w2 ⟨v2, rfl, hv, hb2⟩
  have hbs : val 1000000000 (digs 1000000000 b) * val 1000000000 [s] = b * s := by rw [val_digs _ _ (by omega)]; simp [val]
  rw [hbs] at hv
  have hb02 : Below w.heap.size w w2 := (hb1.alloc hb1.size _).trans (hb2.mono (by have := hb1.size; simp; omega))
  have HB02 := Lib.hid hb02
  clear hbs hb2 hb1 ct1 hi hq hb02 hsI
  have HV := Lib.hid hv
  obtain ⟨a3, bl3, o3, c3, rfl, -, -, -, -⟩ := hv.open elemNat
  have hlv := HN.out.2.2.2.2.1
  rw [show m + 1 + 1 = m + 2 by omega] at hlv
  have HLV := Lib.hid hlv
  rw [hlv]
  clear hv hlv
  go_wp2_with (at_make; refine mkN elemNat rfl _ _ rfl (L + 1) rfl rfl (by omega) (by omega) (by omega) (by unfold maxLen; omega) (Below.refl _ _) (Nat.le_refl _) rfl ?_; intro w3 hown hb3 hb3'; clear hb3')
  have hbW3 : Below w.heap.size w w3 := HB02.out.trans (hb3.mono HB02.out.size)
  refine (times_any _ _ _ (digs 1000000000 a) [s] (by rw [HL.out]; exact HX.out.below (hbW3.alloc hbW3.size _) (Nat.le_refl _)) (Sl.single w3 s _ rfl _) BX.out (by intro x hx; rw [List.mem_singleton.1 hx]; omega) (by rw [← HL.out]; simp; omega)).mono ?_
  rintro e w4 ⟨v4, rfl, hv4, hb4⟩
  have has : val 1000000000 (digs 1000000000 a) * val 1000000000 [s] = a * s := by rw [val_digs _ _ (by omega)]; simp [val]
  rw [has] at hv4
  have hlz : (digs 1000000000 (a * s)).length ≤ L + 1 := by
    have h1 := digs_len_mul 1000000000 a s (by omega)
    have h2 := (digs_len 1000000000 s 1 (by omega)).2 (by omega)
    rw [← HL.out] at h1; omega
  have hown4 := own_below (own_below hown ((Below.refl w3.heap.size w3).alloc (Nat.le_refl _) (.cells #[.int .u32 (s : Int)] 150)) (Nat.le_refl _)) hb4 (Nat.le_refl _)
  have hown4 := ownsRow_cast hown4 rfl (show List.replicate (L + 1) (Value.int .u32 0) = (List.replicate (L + 1) 0).map eU by simp [eU])
  have hb24 : Below w2.heap.size w2 w4 := (hb3.alloc hb3.size _).trans (hb4.mono (by have := hb3.size; simp; omega))
  clear hown hb3 hb4 hbW3 has
  have HV4 := Lib.hid hv4; clear hv4
  have HLZ := Lib.hid hlz; clear hlz
  have h24 := hb24.size
  go_wp2_with (first
    | ((with_reducible show wpList _ _ _ _ _ _); refine copy1 (sv := v4) elemNat rfl _ _ rfl rfl rfl hown4 HV4.out HLZ.out (fun _ => rfl) hb24 (Nat.le_refl _) ?_; intro w5 hown5 hb5)
    | (at_make; refine mkN elemNat rfl _ _ rfl (L - m - 1) rfl rfl (by omega) (by omega) (by omega) (by unfold maxLen; omega) hb5 hb5.size rfl ?_; intro w6 hownq hb6 hb56))
  -- the words of the scaled dividend
  obtain ⟨us, hus⟩ : ∃ us, us = digs 1000000000 (a * s) ++ List.drop (digs 1000000000 (a * s)).length (List.replicate (L + 1) 0) := ⟨_, rfl⟩
  rw [← hus] at hown5
  have husl : us.length = L + 1 := by rw [hus]; simp; have := HLZ.out; omega
  have husb : ∀ x ∈ us, x < 1000000000 := by
    intro x hx
    rw [hus] at hx
    rcases List.mem_append.1 hx with h | h
    · exact digs_lt _ _ (by omega) x h
    · rw [List.eq_of_mem_replicate (List.mem_of_mem_drop h)]; omega
  have husv : val 1000000000 us = a * s := by rw [hus, List.drop_replicate, val_append, val_zeros, val_digs _ _ (by omega)]; simp
  have hst := div_start 1000000000 a b s L m us (by rw [HL.out]; exact lt_pow_len _ _ (by omega)) HN.out.2.2.2.2.2.2 hs1 husl hmL husv
  have hownu := own_below hown5 hb56 (Nat.le_refl _)
  have hqg : w2.heap.size < w5.heap.size := by
    have := (hown5.lt w2.heap.size rfl).2
    exact this
  have HST := Lib.hid hst; have HUSB := Lib.hid husb; have HUSL := Lib.hid husl
  clear hst husb husl husv hus hown5 hown4 hb24 hb5 hb56 h24 HV4
  obtain ⟨K, hK⟩ : ∃ K, K = L - m - 1 := ⟨_, rfl⟩
  rw [← hK] at hownq HST ⊢
  obtain ⟨gq, hgq⟩ : ∃ gq, gq = w5.heap.size := ⟨_, rfl⟩
  rw [← hgq] at hownq hqg ⊢
  have HK := Lib.hid hK
  clear hgq
  have hownq := ownsRow_cast hownq rfl (show List.replicate K (Value.int .u32 0) = (List.replicate K 0 ++ ([] : List Nat)).map eU by simp [eU])
  have hKL : K + (m + 2) = L + 1 := by omega
  clear hK
  have hK1 : 1 ≤ K := by omega
  go_loopw [11] (fun jv wr => ∃ (k : Nat) (A R qs : List Nat), k ≤ K ∧ jv = .int .i64 ((k : Int) - 1) ∧ A.length = k ∧ R.length = m + 2 ∧ (∀ x ∈ A, x < 1000000000) ∧ (∀ x ∈ R, x < 1000000000) ∧ (∀ x ∈ qs, x < 1000000000) ∧
      qs.length = K - k ∧ val 1000000000 R < b * s ∧ val 1000000000 A + 1000000000 ^ k * (val 1000000000 R + b * s * val 1000000000 qs) = a * s ∧
      wr.ownsRow w2.heap.size 150 1 (.slice (some ⟨w2.heap.size, 0, none⟩) (L + 1) (L + 1)) (L + 1) ((A ++ (R ++ List.replicate (K - k) 0)).map eU) ∧
      wr.ownsRow gq 150 1 (.slice (some ⟨gq, 0, none⟩) K K) K ((List.replicate k 0 ++ qs).map eU) ∧ Below w2.heap.size w2 wr) (fun jv _ => (intOf jv + 1).toNat)
  case atStart =>
    refine ⟨K, us.take K, us.drop K, [], Nat.le_refl _, rfl, HST.out.2.2.1, HST.out.2.2.2, mem_take HUSB.out, fun x hx => HUSB.out x (List.mem_of_mem_drop hx), by simp, by simp, HST.out.2.1, by simpa [val] using HST.out.1, ?_, ?_, hb6⟩
    · simpa using hownu
    · simpa using hownq
  case round =>
    clear hownu hownq hb6
    obtain ⟨k, A, R, qs, hk, rfl, hA, hR, bA, bR, bQ, hql, hRV, hsum, hownu, hownq, hb⟩ := hrel
    have HA := Lib.hid hA; have HR := Lib.hid hR; have BA := Lib.hid bA; have BR := Lib.hid bR; have BQ := Lib.hid bQ; have HQL := Lib.hid hql; have HRV := Lib.hid hRV; have HSUM := Lib.hid hsum
    clear hA hR bA bR bQ hql hRV hsum
    rcases k with _ | k
    · obtain rfl : A = [] := List.length_eq_zero_iff.1 HA.out
      have hde := div_end a b s (val 1000000000 R) (val 1000000000 qs) hs1 (by have := HSUM.out; simpa [val] using this) HRV.out
      have HDE := Lib.hid hde; clear hde
      have hsl : Sl eU wr (.slice (some ⟨w2.heap.size, 0, none⟩) (L + 1) (L + 1)) (R ++ List.replicate K 0) := Sl.ofOwns (n := L + 1) (by simpa using hownu)
      have hslq : Sl eU wr (.slice (some ⟨gq, 0, none⟩) K K) qs := Sl.ofOwns (n := K) (by simpa using hownq)
      have HSLQ := Lib.hid hslq; clear hslq
      clear hownu hownq
      go_wp2_with fail
      refine (trimmed_any _ _ _ hsl).mono ?_
      rintro e w8 ⟨v8, rfl, hs8, rfl⟩
      rw [trim_zeros] at hs8
      have HS8 := Lib.hid hs8; clear hs8 hsl
      go_wp2_with fail
      refine (short_any wr v8 _ s HS8.out (fun y hy => BR.out y (mem_trim hy)) hs1 (by omega) (by have := trim_le R; have := HR.out; omega)).mono ?_
      rintro e w9 ⟨v9, rfl, ⟨q9, r9, rfl, hq9, -⟩, hb9⟩
      rw [val_trim, HDE.out.2] at hq9
      have HQ9 := Lib.hid hq9; clear hq9
      have HSLQ9 := Lib.hid (HSLQ.out.below hb9 (Nat.le_refl _))
      go_wp2_with fail
      refine (trimmed_any _ _ _ HSLQ9.out).mono ?_
      rintro e w10 ⟨v10, rfl, hs10, rfl⟩
      rw [trim_of 1000000000 qs (a / b) (by omega) BQ.out HDE.out.1] at hs10
      have HS10 := Lib.hid hs10; clear hs10
      go_wp2
      go_ret2
      exact ⟨_, rfl, ⟨_, _, rfl, HS10.out, HQ9.out⟩, HB02.out.trans ((hb.trans (hb9.mono hb.size)).mono HB02.out.size)⟩
    · rcases list_snoc A with hA0 | ⟨A', x, hA1⟩
      · have := HA.out; rw [hA0] at this; simp at this
      · subst hA1
        have hA' : A'.length = k := by have := HA.out; simpa using this
        have hbx : x < 1000000000 := BA.out x (by simp)
        have hsz := hb.size
        have hown2 : wr.ownsRow w2.heap.size 150 1 (.slice (some ⟨w2.heap.size, 0, none⟩) (L + 1) (L + 1)) (L + 1) ((A' ++ ((x :: R) ++ List.replicate (K - (k + 1)) 0)).map eU) := by simpa using hownu
        have hUV : val 1000000000 (x :: R) < 1000000000 * val 1000000000 (digs 1000000000 (b * s)) := by
          rw [val_digs _ _ (by omega), val]
          have := HRV.out
          have h3 : 1000000000 * (val 1000000000 R + 1) ≤ 1000000000 * (b * s) := Nat.mul_le_mul_left _ this
          omega
        have hstep := fun cu h1 h2 => step_any w2 wr _ w2.heap.size (L + 1) (L + 1) w2.heap.size cu m A' (x :: R) (List.replicate (K - (k + 1)) 0) (digs 1000000000 (b * s)) HV.out hb (Nat.le_refl _) hown2
          (by intro y hy; rcases List.mem_cons.1 hy with h | h; exact h ▸ hbx; exact BR.out y h) (digs_lt _ _ (by omega)) HLV.out.symm (by have := HR.out; simp; omega) h1 h2 (by omega) HN.out.2.2.2.2.2.1 hUV
        rw [hA', HLV.out] at hstep
        have HSTEP := Lib.hid hstep
        have HA' := Lib.hid hA'
        clear hstep hown2 hUV hA'
        have ek : (((k + 1 : Nat) : Int) - 1) = (k : Int) := by omega
        rw [ek]
        clear ek
        go_wp2_with fail
        rw [show k + (m + 2) + 1 - k = m + 3 by omega]
        refine (HSTEP.out (L + 1 - k) (by have := HR.out; simp; omega) (by unfold maxLen; omega)).mono ?_
        rintro e w7 ⟨v7, rfl, us', rfl, hv7, hb7, hl7, hown7, hkg⟩
        rw [val_digs _ _ (by omega)] at hv7
        have hlt7 : val 1000000000 us' < b * s := by rw [hv7]; exact Nat.mod_lt _ (by have := HRV.out; omega)
        have hBs : b * s < 1000000000 ^ (m + 2) := by have := lt_pow_len 1000000000 (b * s) (by omega); rw [HLV.out] at this; exact this
        obtain ⟨R', hus', hR'⟩ := last_zero 1000000000 us' (m + 2) hl7 (by omega)
        have hownq7 := own_kept hownq hkg.2 (by omega)
        have hkq : k < (List.replicate (k + 1) 0 ++ qs).length := by simp; omega
        have hcu := (own_get hownq7 hkq).1
        have hfu := (own_get hownq7 hkq).2
        have hb7' := hkg.1
        have hsU : val 1000000000 (x :: R) = x + 1000000000 * val 1000000000 R := rfl
        have hdm := Nat.div_add_mod (val 1000000000 (x :: R)) (b * s)
        have hqB : val 1000000000 (x :: R) / (b * s) < 1000000000 := by
          rw [Nat.div_lt_iff_lt_mul (by have := HRV.out; omega), hsU]
          have h3 : 1000000000 * (val 1000000000 R + 1) ≤ 1000000000 * (b * s) := Nat.mul_le_mul_left _ HRV.out
          omega
        have hnew := div_step 1000000000 (b * s) (a * s) (val 1000000000 A') x (val 1000000000 R) (val 1000000000 (x :: R)) (val 1000000000 (x :: R) / (b * s)) (val 1000000000 us') (val 1000000000 qs) k
          (by have := HSUM.out; rw [val_snoc, HA'.out] at this; exact this) hsU (by rw [hv7, Nat.mul_comm]; exact hdm.symm)
        rw [hus', val_snoc, Nat.mul_zero, Nat.add_zero] at hnew hlt7
        have hownu7 : w7.ownsRow w2.heap.size 150 1 (.slice (some ⟨w2.heap.size, 0, none⟩) (L + 1) (L + 1)) (L + 1) ((A' ++ (R' ++ List.replicate (K - k) 0)).map eU) := by
          have e : K - k = (K - (k + 1)) + 1 := by omega
          rw [e, List.replicate_succ]
          rw [hus'] at hown7
          simpa using hown7
        have hbR' : ∀ y ∈ R', y < 1000000000 := fun y hy => hb7 y (by rw [hus']; simp [hy])
        have hqI : ((val 1000000000 (x :: R) / val 1000000000 (digs 1000000000 (b * s)) : Nat) : Int) = ((val 1000000000 (x :: R) / (b * s) : Nat) : Int) := by rw [val_digs _ _ (by omega)]
        rw [hqI]
        obtain ⟨qd, hqd⟩ : ∃ qd, qd = val 1000000000 (x :: R) / (b * s) := ⟨_, rfl⟩
        rw [← hqd] at hnew hqB ⊢
        have HNEW := Lib.hid hnew; have HLT7 := Lib.hid hlt7; have HBR := Lib.hid hbR'; have HR' := Lib.hid hR'
        clear hnew hlt7 hbR' hqd hqI hdm hsU hBs hv7 hb7 hl7 hus' hR' hkg hown7 hownq hownu hb HSTEP
        go_wp2
        go_roundw
        case rel =>
          have R2 := own_put hownq7 hb7' (show w2.heap.size ≤ gq by omega) k qd _ rfl
          rw [fill_down] at R2
          have R1 := own_kept hownu7 (hownq7.stored k (.int .u32 (qd : Int))).2 (by omega)
          exact ⟨k, A', R', qd :: qs, by omega, rfl, HA'.out, HR'.out, fun y hy => BA.out y (by simp [hy]), HBR.out, fun y hy => by rcases List.mem_cons.1 hy with h | h; exact h ▸ hqB; exact BQ.out y h,
            by have := HQL.out; simp; omega, HLT7.out, HNEW.out, R1, R2.1, R2.2⟩
        case measure => simp [intOf]

/-- 'divided', for all natural numbers. -/
theorem divided_any (w : World) (x y : Value) (a b : Nat) (hx : Sl eU w x (digs 1000000000 a)) (hy : Sl eU w y (digs 1000000000 b)) (hb : 0 < b)
    (hl : (digs 1000000000 a).length ≤ 1000000000000) (hl' : (digs 1000000000 b).length ≤ 1000000000000) :
    Calls Tryz.prog 170 #[x, y] w (Rets fun v w' => QuoRem a b v w' ∧ Below w.heap.size w w') := by
  rcases Nat.lt_or_ge b 1000000000 with h1 | h1
  · exact divided_one w x y a b hx hy hb (by omega) h1
  · rcases Nat.lt_or_ge a b with h2 | h2
    · exact divided_less w x y a b hx hy (by omega) (by omega) h1 h2
    · exact divided_main w x y a b hx hy hl hl' h1 h2
end Go.Proofs.YtlnhocgjgmhfgaaGreatDoor

namespace Go.Proofs
def Tryz.lays169_ren : Go.Shelf.Ren := ⟨fun | 169 => 142 | n => n, fun | 70 => 208 | 9 => 9 | 0 => 0 | 72 => 210 | 37 => 193 | 127 => 225 | 3 => 3 | 5 => 5 | n => n, fun | n => n⟩
theorem Tryz.lays169 : Go.Proofs.Lays.n169 Tryz.prog Tryz.lays169_ren := {
  mixed := by kernel_rfl
  f169 := Tryz.func142.trans (congrArg some (by kernel_rfl))
  t0 := Tryz.underlying0
  a0 := Tryz.isAgg0
  z0 := Tryz.sizeOf0
  v0 := Tryz.zeroValue0
  t3 := Tryz.underlying3
  a3 := Tryz.isAgg3
  z3 := Tryz.sizeOf3
  v3 := Tryz.zeroValue3
  t9 := Tryz.underlying9
  a9 := Tryz.isAgg9
  z9 := Tryz.sizeOf9
  v9 := Tryz.zeroValue9
  t37 := Tryz.underlying193
  a37 := Tryz.isAgg193
  z37 := Tryz.sizeOf193
  v37 := Tryz.zeroValue193
  t70 := Tryz.underlying208
  a70 := Tryz.isAgg208
  z70 := Tryz.sizeOf208
  v70 := Tryz.zeroValue208
  t72 := Tryz.underlying210
  a72 := Tryz.isAgg210
  z72 := Tryz.sizeOf210
  v72 := Tryz.zeroValue210
  t127 := Tryz.underlying225
  a127 := Tryz.isAgg225
  z127 := Tryz.sizeOf225
  v127 := Tryz.zeroValue225 }
theorem Tryz.Builder_Extra_169 : Builder.Extra Tryz.prog Tryz.lays169_ren := {
  sizeBuilder := by kernel_rfl
  liesBuilder := by kernel_rfl
  t5 := Tryz.underlying5
  a5 := Tryz.isAgg5
  z5 := Tryz.sizeOf5
  v5 := Tryz.zeroValue5
  infoByte := by kernel_rfl
  cellsByte := by kernel_rfl
  sizeByte := by kernel_rfl
  neB5 := by decide }
def Tryz.lays103_ren : Go.Shelf.Ren := ⟨fun | 103 => 120 | 210 => 131 | 206 => 144 | n => n, fun | 9 => 9 | 4 => 4 | 24 => 184 | 3 => 3 | n => n, fun | n => n⟩
theorem Tryz.lays103 : Go.Proofs.Lays.n103 Tryz.prog Tryz.lays103_ren := {
  mixed := by kernel_rfl
  f103 := Tryz.func120.trans (congrArg some (by kernel_rfl))
  f206 := Tryz.func144.trans (congrArg some (by kernel_rfl))
  f210 := Tryz.func131.trans (congrArg some (by kernel_rfl))
  t3 := Tryz.underlying3
  a3 := Tryz.isAgg3
  z3 := Tryz.sizeOf3
  v3 := Tryz.zeroValue3
  t4 := Tryz.underlying4
  a4 := Tryz.isAgg4
  z4 := Tryz.sizeOf4
  v4 := Tryz.zeroValue4
  t9 := Tryz.underlying9
  a9 := Tryz.isAgg9
  z9 := Tryz.sizeOf9
  v9 := Tryz.zeroValue9
  t24 := Tryz.underlying184
  a24 := Tryz.isAgg184
  z24 := Tryz.sizeOf184
  v24 := Tryz.zeroValue184 }
open Go.RowKit in
theorem Tryz.strings_CutPrefix (s p : ByteArray) (w : World) :
    Calls Tryz.prog 120 #[.string s, .string p] w fun e w' => e = .returned (.tuple #[.string ⟨(Lib.trimPrefix s.data.toList p.data.toList).toArray⟩, .bool (Lib.hasPrefix s.data.toList p.data.toList)]) ∧ w' = w := Any.strings_CutPrefix Tryz.lays103 s p w
open Go.RowKit in
theorem Tryz.Builder_String_any_f (B b : Nat) (l : List UInt8) (w : World) (h : Lib.IsBuilderF 210 5 B b (Lib.byteCells l) w) (hBw : B ≤ w.heap.size) :
    Calls Tryz.prog 142 #[.pointer (some ⟨b, 0, none⟩)] w fun e w' => e = .returned (.string ⟨l.toArray⟩) ∧ (Lib.IsBuilderF 210 5 B b (Lib.byteCells l) w' ∧ Below B w w') := Any.Builder_String_any_f Tryz.lays169 Tryz.Builder_Extra_169 B b l w h hBw
def Tryz.laysM171_ren : Go.Shelf.Ren := ⟨fun | 171 => 79 | 243 => 106 | 246 => 123 | 283 => 134 | 284 => 135 | 285 => 136 | 286 => 137 | 129 => 91 | 317 => 147 | 318 => 148 | 319 => 149 | 320 => 150 | 337 => 165 | 338 => 166 | n => n, fun | 3 => 3 | 9 => 9 | 2 => 2 | 4 => 4 | 171 => 204 | 0 => 0 | 53 => 152 | 37 => 193 | 5 => 5 | 173 => 206 | 212 => 218 | 51 => 150 | 20 => 20 | 213 => 219 | 46 => 115 | 232 => 245 | 233 => 246 | n => n, fun | 17 => 0 | 18 => 3 | 19 => 4 | n => n⟩
theorem Tryz.laysM171 : Go.Proofs.LaysM.n171 Tryz.prog Tryz.laysM171_ren := {
  mixed := by kernel_rfl
  f129 := Tryz.func91.trans (congrArg some (by kernel_rfl))
  f171 := Tryz.func79.trans (congrArg some (by kernel_rfl))
  f243 := Tryz.func106.trans (congrArg some (by kernel_rfl))
  f246 := Tryz.func123.trans (congrArg some (by kernel_rfl))
  f283 := Tryz.func134.trans (congrArg some (by kernel_rfl))
  f284 := Tryz.func135.trans (congrArg some (by kernel_rfl))
  f285 := Tryz.func136.trans (congrArg some (by kernel_rfl))
  f286 := Tryz.func137.trans (congrArg some (by kernel_rfl))
  f317 := Tryz.func147.trans (congrArg some (by kernel_rfl))
  f318 := Tryz.func148.trans (congrArg some (by kernel_rfl))
  f319 := Tryz.func149.trans (congrArg some (by kernel_rfl))
  f320 := Tryz.func150.trans (congrArg some (by kernel_rfl))
  f337 := Tryz.func165.trans (congrArg some (by kernel_rfl))
  f338 := Tryz.func166.trans (congrArg some (by kernel_rfl))
  t0 := Tryz.underlying0
  a0 := Tryz.isAgg0
  z0 := Tryz.sizeOf0
  v0 := Tryz.zeroValue0
  t2 := Tryz.underlying2
  a2 := Tryz.isAgg2
  z2 := Tryz.sizeOf2
  v2 := Tryz.zeroValue2
  t3 := Tryz.underlying3
  a3 := Tryz.isAgg3
  z3 := Tryz.sizeOf3
  v3 := Tryz.zeroValue3
  t4 := Tryz.underlying4
  a4 := Tryz.isAgg4
  z4 := Tryz.sizeOf4
  v4 := Tryz.zeroValue4
  t5 := Tryz.underlying5
  a5 := Tryz.isAgg5
  z5 := Tryz.sizeOf5
  v5 := Tryz.zeroValue5
  t9 := Tryz.underlying9
  a9 := Tryz.isAgg9
  z9 := Tryz.sizeOf9
  v9 := Tryz.zeroValue9
  t20 := Tryz.underlying20
  a20 := Tryz.isAgg20
  z20 := Tryz.sizeOf20
  v20 := Tryz.zeroValue20
  t37 := Tryz.underlying193
  a37 := Tryz.isAgg193
  z37 := Tryz.sizeOf193
  v37 := Tryz.zeroValue193
  t46 := Tryz.underlying115
  a46 := Tryz.isAgg115
  z46 := Tryz.sizeOf115
  v46 := Tryz.zeroValue115
  t51 := Tryz.underlying150
  a51 := Tryz.isAgg150
  z51 := Tryz.sizeOf150
  v51 := Tryz.zeroValue150
  t53 := Tryz.underlying152
  a53 := Tryz.isAgg152
  z53 := Tryz.sizeOf152
  v53 := Tryz.zeroValue152
  t171 := Tryz.underlying204
  a171 := Tryz.isAgg204
  z171 := Tryz.sizeOf204
  v171 := Tryz.zeroValue204
  t173 := Tryz.underlying206
  a173 := Tryz.isAgg206
  z173 := Tryz.sizeOf206
  v173 := Tryz.zeroValue206
  t212 := Tryz.underlying218
  a212 := Tryz.isAgg218
  z212 := Tryz.sizeOf218
  v212 := Tryz.zeroValue218
  t213 := Tryz.underlying219
  a213 := Tryz.isAgg219
  z213 := Tryz.sizeOf219
  t232 := Tryz.underlying245
  a232 := Tryz.isAgg245
  z232 := Tryz.sizeOf245
  v232 := Tryz.zeroValue245
  t233 := Tryz.underlying246
  a233 := Tryz.isAgg246
  z233 := Tryz.sizeOf246
  v233 := Tryz.zeroValue246
  g17 := by kernel_rfl
  g18 := by kernel_rfl
  g19 := by kernel_rfl
  i0 := by kernel_rfl
  i2 := by kernel_rfl
  i3 := by kernel_rfl
  i4 := by kernel_rfl
  i5 := by kernel_rfl
  i9 := by kernel_rfl
  i20 := by kernel_rfl
  i37 := by kernel_rfl
  i46 := by kernel_rfl
  i51 := by kernel_rfl
  i53 := by kernel_rfl
  i171 := by kernel_rfl
  i173 := by kernel_rfl
  i212 := by kernel_rfl
  i232 := by kernel_rfl
  i233 := by kernel_rfl
  m17 := by kernel_rfl
  m18 := by kernel_rfl
  m19 := by kernel_rfl }
open Go.RowKit Go.Sort Go.Lib in
theorem Tryz.strconv_Itoa (n : Int) (h0 : -9223372036854775808 ≤ n) (h1 : n ≤ 9223372036854775807) (w : World) (htab : Lib.TabIs Tryz.prog w "internal/strconv.uint64pow10" .u64 Lib.pow10Tab) :
    Calls Tryz.prog 79 #[.int .i64 n] w fun e w' => e = .returned (.string ⟨(Lib.itoa n).toArray⟩) ∧ ∃ k os, w' = grow (w.drewN k) os := Any.strconv_Itoa Tryz.laysM171 n h0 h1 w htab
def Tryz.laysPu14_ren : Go.Shelf.Ren := ⟨fun | 14 => 133 | 16 => 145 | 17 => 146 | 19 => 159 | 20 => 160 | 21 => 161 | 22 => 162 | 23 => 163 | 24 => 164 | 25 => 175 | 27 => 79 | 26 => 176 | 28 => 106 | 29 => 123 | 30 => 134 | 31 => 135 | 32 => 136 | 33 => 137 | 35 => 91 | 34 => 147 | 36 => 148 | 37 => 149 | 38 => 150 | 39 => 165 | 40 => 166 | n => n, fun | 9 => 9 | 3 => 3 | 22 => 152 | 24 => 201 | 25 => 202 | 4 => 4 | 34 => 226 | 5 => 5 | 36 => 115 | 37 => 193 | 0 => 0 | 39 => 229 | 21 => 21 | 44 => 243 | 47 => 225 | 50 => 252 | 48 => 250 | 2 => 2 | 52 => 204 | 55 => 206 | 59 => 218 | 60 => 150 | 20 => 20 | 61 => 219 | 65 => 245 | 66 => 246 | 67 => 182 | n => n, fun | 0 => 1 | 1 => 2 | 2 => 0 | 3 => 3 | 4 => 4 | n => n⟩
theorem Tryz.laysPu14 : Go.Proofs.LaysPu.n14 Tryz.prog Tryz.laysPu14_ren := {
  mixed := by kernel_rfl
  f14 := Tryz.func133.trans (congrArg some (by kernel_rfl))
  f16 := Tryz.func145.trans (congrArg some (by kernel_rfl))
  f17 := Tryz.func146.trans (congrArg some (by kernel_rfl))
  f19 := Tryz.func159.trans (congrArg some (by kernel_rfl))
  f20 := Tryz.func160.trans (congrArg some (by kernel_rfl))
  f21 := Tryz.func161.trans (congrArg some (by kernel_rfl))
  f22 := Tryz.func162.trans (congrArg some (by kernel_rfl))
  f23 := Tryz.func163.trans (congrArg some (by kernel_rfl))
  f24 := Tryz.func164.trans (congrArg some (by kernel_rfl))
  f25 := Tryz.func175.trans (congrArg some (by kernel_rfl))
  f26 := Tryz.func176.trans (congrArg some (by kernel_rfl))
  f27 := Tryz.func79.trans (congrArg some (by kernel_rfl))
  f28 := Tryz.func106.trans (congrArg some (by kernel_rfl))
  f29 := Tryz.func123.trans (congrArg some (by kernel_rfl))
  f30 := Tryz.func134.trans (congrArg some (by kernel_rfl))
  f31 := Tryz.func135.trans (congrArg some (by kernel_rfl))
  f32 := Tryz.func136.trans (congrArg some (by kernel_rfl))
  f33 := Tryz.func137.trans (congrArg some (by kernel_rfl))
  f34 := Tryz.func147.trans (congrArg some (by kernel_rfl))
  f35 := Tryz.func91.trans (congrArg some (by kernel_rfl))
  f36 := Tryz.func148.trans (congrArg some (by kernel_rfl))
  f37 := Tryz.func149.trans (congrArg some (by kernel_rfl))
  f38 := Tryz.func150.trans (congrArg some (by kernel_rfl))
  f39 := Tryz.func165.trans (congrArg some (by kernel_rfl))
  f40 := Tryz.func166.trans (congrArg some (by kernel_rfl))
  t0 := Tryz.underlying0
  a0 := Tryz.isAgg0
  z0 := Tryz.sizeOf0
  v0 := Tryz.zeroValue0
  i0 := by kernel_rfl
  t2 := Tryz.underlying2
  a2 := Tryz.isAgg2
  z2 := Tryz.sizeOf2
  v2 := Tryz.zeroValue2
  i2 := by kernel_rfl
  t3 := Tryz.underlying3
  a3 := Tryz.isAgg3
  z3 := Tryz.sizeOf3
  v3 := Tryz.zeroValue3
  i3 := by kernel_rfl
  t4 := Tryz.underlying4
  a4 := Tryz.isAgg4
  z4 := Tryz.sizeOf4
  v4 := Tryz.zeroValue4
  i4 := by kernel_rfl
  t5 := Tryz.underlying5
  a5 := Tryz.isAgg5
  z5 := Tryz.sizeOf5
  v5 := Tryz.zeroValue5
  i5 := by kernel_rfl
  t9 := Tryz.underlying9
  a9 := Tryz.isAgg9
  z9 := Tryz.sizeOf9
  v9 := Tryz.zeroValue9
  i9 := by kernel_rfl
  t20 := Tryz.underlying20
  a20 := Tryz.isAgg20
  z20 := Tryz.sizeOf20
  v20 := Tryz.zeroValue20
  i20 := by kernel_rfl
  t21 := Tryz.underlying21
  a21 := Tryz.isAgg21
  z21 := Tryz.sizeOf21
  v21 := Tryz.zeroValue21
  i21 := by kernel_rfl
  t22 := Tryz.underlying152
  a22 := Tryz.isAgg152
  z22 := Tryz.sizeOf152
  v22 := Tryz.zeroValue152
  i22 := by kernel_rfl
  t24 := Tryz.underlying201
  a24 := Tryz.isAgg201
  z24 := Tryz.sizeOf201
  v24 := Tryz.zeroValue201
  i24 := by kernel_rfl
  t25 := Tryz.underlying202
  a25 := Tryz.isAgg202
  z25 := Tryz.sizeOf202
  v25 := Tryz.zeroValue202
  i25 := by kernel_rfl
  t34 := Tryz.underlying226
  a34 := Tryz.isAgg226
  z34 := Tryz.sizeOf226
  v34 := Tryz.zeroValue226
  i34 := by kernel_rfl
  c34 := by kernel_rfl
  t36 := Tryz.underlying115
  a36 := Tryz.isAgg115
  z36 := Tryz.sizeOf115
  v36 := Tryz.zeroValue115
  i36 := by kernel_rfl
  t37 := Tryz.underlying193
  a37 := Tryz.isAgg193
  z37 := Tryz.sizeOf193
  v37 := Tryz.zeroValue193
  i37 := by kernel_rfl
  t39 := Tryz.underlying229
  a39 := Tryz.isAgg229
  z39 := Tryz.sizeOf229
  v39 := Tryz.zeroValue229
  i39 := by kernel_rfl
  t44 := Tryz.underlying243
  a44 := Tryz.isAgg243
  z44 := Tryz.sizeOf243
  v44 := Tryz.zeroValue243
  i44 := by kernel_rfl
  t47 := Tryz.underlying225
  a47 := Tryz.isAgg225
  z47 := Tryz.sizeOf225
  v47 := Tryz.zeroValue225
  i47 := by kernel_rfl
  t48 := Tryz.underlying250
  a48 := Tryz.isAgg250
  z48 := Tryz.sizeOf250
  v48 := Tryz.zeroValue250
  i48 := by kernel_rfl
  t50 := Tryz.underlying252
  a50 := Tryz.isAgg252
  z50 := Tryz.sizeOf252
  v50 := Tryz.zeroValue252
  i50 := by kernel_rfl
  t52 := Tryz.underlying204
  a52 := Tryz.isAgg204
  z52 := Tryz.sizeOf204
  v52 := Tryz.zeroValue204
  i52 := by kernel_rfl
  t55 := Tryz.underlying206
  a55 := Tryz.isAgg206
  z55 := Tryz.sizeOf206
  v55 := Tryz.zeroValue206
  i55 := by kernel_rfl
  t59 := Tryz.underlying218
  a59 := Tryz.isAgg218
  z59 := Tryz.sizeOf218
  v59 := Tryz.zeroValue218
  i59 := by kernel_rfl
  t60 := Tryz.underlying150
  a60 := Tryz.isAgg150
  z60 := Tryz.sizeOf150
  v60 := Tryz.zeroValue150
  i60 := by kernel_rfl
  t61 := Tryz.underlying219
  a61 := Tryz.isAgg219
  z61 := Tryz.sizeOf219
  t65 := Tryz.underlying245
  a65 := Tryz.isAgg245
  z65 := Tryz.sizeOf245
  v65 := Tryz.zeroValue245
  i65 := by kernel_rfl
  t66 := Tryz.underlying246
  a66 := Tryz.isAgg246
  z66 := Tryz.sizeOf246
  v66 := Tryz.zeroValue246
  i66 := by kernel_rfl
  t67 := Tryz.underlying182
  a67 := Tryz.isAgg182
  z67 := Tryz.sizeOf182
  v67 := Tryz.zeroValue182
  i67 := by kernel_rfl
  g0 := by kernel_rfl
  m0 := by kernel_rfl
  g1 := by kernel_rfl
  m1 := by kernel_rfl
  g2 := by kernel_rfl
  m2 := by kernel_rfl
  g3 := by kernel_rfl
  m3 := by kernel_rfl
  g4 := by kernel_rfl
  m4 := by kernel_rfl }
open Go.RowKit in
theorem Tryz.strconv_ParseUint_10_at32_ok (s : ByteArray) (hmax : s.size ≤ 9223372036854775806) (u : Nat) (h : Lib.parseUintB 32 s.data.toList = .ok u) (w : World) :
    Calls Tryz.prog 133 #[.string s, .int .i64 10, .int .i64 32] w fun e w' => e = .returned (.tuple #[.int .u64 u, .nilIface]) ∧ (w' = w ∨ w' = Lib.bytesWorld w 5 s) := Any.strconv_ParseUint_10_at32_ok Tryz.laysPu14 s hmax u h w
def Tryz.lays101_ren : Go.Shelf.Ren := ⟨fun | 101 => 130 | 208 => 143 | 206 => 144 | n => n, fun | 9 => 9 | 4 => 4 | 3 => 3 | n => n, fun | n => n⟩
theorem Tryz.lays101 : Go.Proofs.Lays.n101 Tryz.prog Tryz.lays101_ren := {
  mixed := by kernel_rfl
  f101 := Tryz.func130.trans (congrArg some (by kernel_rfl))
  f206 := Tryz.func144.trans (congrArg some (by kernel_rfl))
  f208 := Tryz.func143.trans (congrArg some (by kernel_rfl))
  t3 := Tryz.underlying3
  a3 := Tryz.isAgg3
  z3 := Tryz.sizeOf3
  v3 := Tryz.zeroValue3
  t4 := Tryz.underlying4
  a4 := Tryz.isAgg4
  z4 := Tryz.sizeOf4
  v4 := Tryz.zeroValue4
  t9 := Tryz.underlying9
  a9 := Tryz.isAgg9
  z9 := Tryz.sizeOf9
  v9 := Tryz.zeroValue9 }
open Go.RowKit Go.Lib in
theorem Tryz.strings_TrimPrefix (s p : ByteArray) (w : World) :
    Calls Tryz.prog 130 #[.string s, .string p] w fun e w' => e = .returned (.string ⟨(Lib.trimPrefix s.data.toList p.data.toList).toArray⟩) ∧ w' = w := Any.strings_TrimPrefix Tryz.lays101 s p w
def Tryz.lays105_ren : Go.Shelf.Ren := ⟨fun | 105 => 141 | 212 => 155 | 99 => 156 | 165 => 157 | 166 => 140 | 170 => 158 | 169 => 142 | 263 => 172 | 264 => 173 | 206 => 144 | 240 => 154 | 241 => 174 | 276 => 171 | 277 => 179 | n => n, fun | 9 => 9 | 3 => 3 | 4 => 4 | 20 => 20 | 0 => 0 | 46 => 115 | 109 => 222 | 5 => 5 | 72 => 210 | 76 => 211 | 51 => 150 | 146 => 237 | 53 => 152 | 148 => 239 | 70 => 208 | 37 => 193 | 75 => 201 | 127 => 225 | 164 => 235 | 80 => 182 | n => n, fun | n => n⟩
theorem Tryz.lays105 : Go.Proofs.Lays.n105 Tryz.prog Tryz.lays105_ren := {
  mixed := by kernel_rfl
  f99 := Tryz.func156.trans (congrArg some (by kernel_rfl))
  f105 := Tryz.func141.trans (congrArg some (by kernel_rfl))
  f165 := Tryz.func157.trans (congrArg some (by kernel_rfl))
  f166 := Tryz.func140.trans (congrArg some (by kernel_rfl))
  f169 := Tryz.func142.trans (congrArg some (by kernel_rfl))
  f170 := Tryz.func158.trans (congrArg some (by kernel_rfl))
  f206 := Tryz.func144.trans (congrArg some (by kernel_rfl))
  f212 := Tryz.func155.trans (congrArg some (by kernel_rfl))
  f240 := Tryz.func154.trans (congrArg some (by kernel_rfl))
  f241 := Tryz.func174.trans (congrArg some (by kernel_rfl))
  f263 := Tryz.func172.trans (congrArg some (by kernel_rfl))
  f264 := Tryz.func173.trans (congrArg some (by kernel_rfl))
  f276 := Tryz.func171.trans (congrArg some (by kernel_rfl))
  f277 := Tryz.func179.trans (congrArg some (by kernel_rfl))
  t0 := Tryz.underlying0
  a0 := Tryz.isAgg0
  z0 := Tryz.sizeOf0
  v0 := Tryz.zeroValue0
  t3 := Tryz.underlying3
  a3 := Tryz.isAgg3
  z3 := Tryz.sizeOf3
  v3 := Tryz.zeroValue3
  t4 := Tryz.underlying4
  a4 := Tryz.isAgg4
  z4 := Tryz.sizeOf4
  v4 := Tryz.zeroValue4
  t5 := Tryz.underlying5
  a5 := Tryz.isAgg5
  z5 := Tryz.sizeOf5
  v5 := Tryz.zeroValue5
  t9 := Tryz.underlying9
  a9 := Tryz.isAgg9
  z9 := Tryz.sizeOf9
  v9 := Tryz.zeroValue9
  t20 := Tryz.underlying20
  a20 := Tryz.isAgg20
  z20 := Tryz.sizeOf20
  v20 := Tryz.zeroValue20
  t37 := Tryz.underlying193
  a37 := Tryz.isAgg193
  z37 := Tryz.sizeOf193
  v37 := Tryz.zeroValue193
  t46 := Tryz.underlying115
  a46 := Tryz.isAgg115
  z46 := Tryz.sizeOf115
  v46 := Tryz.zeroValue115
  t51 := Tryz.underlying150
  a51 := Tryz.isAgg150
  z51 := Tryz.sizeOf150
  v51 := Tryz.zeroValue150
  t53 := Tryz.underlying152
  a53 := Tryz.isAgg152
  z53 := Tryz.sizeOf152
  v53 := Tryz.zeroValue152
  t70 := Tryz.underlying208
  a70 := Tryz.isAgg208
  z70 := Tryz.sizeOf208
  v70 := Tryz.zeroValue208
  t72 := Tryz.underlying210
  a72 := Tryz.isAgg210
  z72 := Tryz.sizeOf210
  v72 := Tryz.zeroValue210
  t75 := Tryz.underlying201
  a75 := Tryz.isAgg201
  z75 := Tryz.sizeOf201
  v75 := Tryz.zeroValue201
  t76 := Tryz.underlying211
  a76 := Tryz.isAgg211
  z76 := Tryz.sizeOf211
  v76 := Tryz.zeroValue211
  t109 := Tryz.underlying222
  a109 := Tryz.isAgg222
  z109 := Tryz.sizeOf222
  v109 := Tryz.zeroValue222
  t127 := Tryz.underlying225
  a127 := Tryz.isAgg225
  z127 := Tryz.sizeOf225
  v127 := Tryz.zeroValue225
  t146 := Tryz.underlying237
  a146 := Tryz.isAgg237
  z146 := Tryz.sizeOf237
  v146 := Tryz.zeroValue237
  t148 := Tryz.underlying239
  a148 := Tryz.isAgg239
  z148 := Tryz.sizeOf239
  v148 := Tryz.zeroValue239
  t164 := Tryz.underlying235
  a164 := Tryz.isAgg235
  z164 := Tryz.sizeOf235
  v164 := Tryz.zeroValue235 }
theorem Tryz.Builder_Extra_105 : Builder.Extra Tryz.prog Tryz.lays105_ren := {
  sizeBuilder := by kernel_rfl
  liesBuilder := by kernel_rfl
  t5 := Tryz.underlying5
  a5 := Tryz.isAgg5
  z5 := Tryz.sizeOf5
  v5 := Tryz.zeroValue5
  infoByte := by kernel_rfl
  cellsByte := by kernel_rfl
  sizeByte := by kernel_rfl
  neB5 := by decide }
open Go.RowKit Go.Lib in
theorem Tryz.strings_Repeat (s : ByteArray) (c : Nat) (w : World) (hc : c ≤ 9223372036854775807) (hlen : s.size * c ≤ 140737488355328) :
    Calls Tryz.prog 141 #[.string s, .int .i64 c] w fun e w' => e = .returned (.string ⟨(Lib.repeatL s.data.toList c).toArray⟩) ∧ Below w.heap.size w w' := Any.strings_Repeat Tryz.lays105 Tryz.Builder_Extra_105 s c w hc hlen
end Go.Proofs

namespace Go.Proofs.YtlnhocgjgmhfgaaGreatDoor
open Go.RowKit

/-- The package-level variables that the library reads hold what the program lays. -/
structure Env (w : World) : Prop where
  pow : Lib.TabIs Tryz.prog w "internal/strconv.uint64pow10" .u64 Lib.pow10Tab
  syn : ∃ tp p, w.var? Tryz.prog "strconv.ErrSyntax" = some #[.iface tp p]
  rng : ∃ tp p, w.var? Tryz.prog "strconv.ErrRange" = some #[.iface tp p]

theorem var_below {P : Program} {B : Nat} {w w' : World} {n : String} {cs : Array Value} (hv : w.var? P n = some cs) (hb : Below B w w') (hB : w.heap.size ≤ B) : w'.var? P n = some cs := by
  unfold World.var? at hv ⊢
  cases hg : P.globalNamed n with
  | none => rw [hg] at hv; simp at hv
  | some g =>
    rw [hg] at hv
    simp only [Option.bind_some] at hv ⊢
    have hlt : g < w.heap.size := by
      rcases Nat.lt_or_ge g w.heap.size with h | h
      · exact h
      · rw [Array.getElem?_eq_none h] at hv; simp at hv
    rw [hb.block g (Nat.lt_of_lt_of_le hlt hB)]
    exact hv
theorem Env.below {B : Nat} {w w' : World} (h : Env w) (hb : Below B w w') (hB : w.heap.size ≤ B) : Env w' := by
  obtain ⟨h1, ⟨t2, p2, h2⟩, t3, p3, h3⟩ := h
  exact ⟨var_below h1 hb hB, ⟨t2, p2, var_below h2 hb hB⟩, t3, p3, var_below h3 hb hB⟩

/-- A builder of the call's own that holds the bytes l. -/
def Bld (B b : Nat) (l : List UInt8) (w : World) : Prop := Lib.IsBuilderF 210 5 B b (Lib.byteCells l) w ∧ B ≤ w.heap.size

theorem Bld.fresh (w : World) : Bld w.heap.size w.heap.size [] (w.alloc (.cells #[.pointer none, .slice none 0 0] 210)) :=
  ⟨Lib.IsBuilderF.of (Lib.fresh_isBuilder _ _ w), by simp⟩
theorem ownsRowF_below {w w' : World} {base e sz n B : Nat} {v : Value} {xs : List Value} (h : World.ownsRowF w base e sz v n xs) (hb : Below B w w') (hB : w.heap.size ≤ B) : World.ownsRowF w' base e sz v n xs := by
  refine ⟨h.1, ?_⟩
  rcases h.2 with hn | ⟨g, cap, cur, fz, hv, hg, hh, r⟩
  · exact .inl hn
  · exact .inr ⟨g, cap, cur, fz, hv, hg, by rw [hb.block g (Nat.lt_of_lt_of_le (Array.getElem?_eq_some_iff.1 hh).1 hB)]; exact hh, r⟩
theorem Bld.below {B b C : Nat} {l : List UInt8} {w w' : World} (h : Bld B b l w) (hb : Below C w w') (hC : w.heap.size ≤ C) : Bld B b l w' := by
  refine ⟨?_, Nat.le_trans h.2 hb.size⟩
  rcases h.1 with ⟨h1, v, h2, h3, h4⟩ | ⟨h1, v, h2, h3, h4⟩
  · exact .inl ⟨h1, v, by rw [hb.block b (Nat.lt_of_lt_of_le (Array.getElem?_eq_some_iff.1 h2).1 hC)]; exact h2, ownsRowF_below h3 hb hC, h4⟩
  · exact .inr ⟨h1, v, by rw [hb.block b (Nat.lt_of_lt_of_le (Array.getElem?_eq_some_iff.1 h2).1 hC)]; exact h2, ownsRowF_below h3 hb hC, h4⟩

theorem write_any (B b : Nat) (l : List UInt8) (s : ByteArray) (w : World) (h : Bld B b l w) (hl : l.length + s.size ≤ 140737488355328) :
    Calls Tryz.prog 140 #[.pointer (some ⟨b, 0, none⟩), .string s] w (Rets fun v w' => v = .tuple #[.int .i64 s.size, .nilIface] ∧ Bld B b (l ++ s.data.toList) w' ∧ Below B w w') := by
  have c := Any.Builder_WriteString_f { Tryz.lays105 with } Tryz.Builder_Extra_105 B b (Lib.byteCells l) s w h.1 (by simpa [Lib.byteCells] using hl) h.2
  refine Calls.mono (f := 140) c ?_
  rintro e w' ⟨rfl, hb, hbl⟩
  refine ⟨_, rfl, rfl, ⟨.inr ?_, Nat.le_trans h.2 hbl.size⟩, hbl⟩
  have e : Lib.byteCells (l ++ s.data.toList) = Lib.byteCells l ++ Lib.strCells s := by simp [Lib.byteCells, Lib.strCells]
  rw [e]; exact hb
theorem string_any (B b : Nat) (l : List UInt8) (w : World) (h : Bld B b l w) :
    Calls Tryz.prog 142 #[.pointer (some ⟨b, 0, none⟩)] w (Rets fun v w' => v = .string ⟨l.toArray⟩ ∧ Below B w w') := by
  refine (Tryz.Builder_String_any_f B b l w h.1 h.2).mono ?_
  rintro e w' ⟨rfl, _, hb⟩
  exact ⟨_, rfl, rfl, hb⟩
theorem itoa_any (n : Int) (h0 : -9223372036854775808 ≤ n) (h1 : n ≤ 9223372036854775807) (w : World) (he : Env w) :
    Calls Tryz.prog 79 #[.int .i64 n] w (Rets fun v w' => v = .string ⟨(Lib.itoa n).toArray⟩ ∧ Below w.heap.size w w') := by
  refine (Tryz.strconv_Itoa n h0 h1 w he.pow).mono ?_
  rintro e w' ⟨rfl, k, os, rfl⟩
  exact ⟨_, rfl, rfl, Lib.below_grow _ _ (Nat.le_refl _) _ _⟩
theorem repeat_any (s : ByteArray) (c : Nat) (w : World) (hc : c ≤ 9223372036854775807) (hl : s.size * c ≤ 140737488355328) :
    Calls Tryz.prog 141 #[.string s, .int .i64 c] w (Rets fun v w' => v = .string ⟨(Lib.repeatL s.data.toList c).toArray⟩ ∧ Below w.heap.size w w') := by
  refine (Tryz.strings_Repeat s c w hc hl).mono ?_
  rintro e w' ⟨rfl, hb⟩
  exact ⟨_, rfl, rfl, hb⟩
end Go.Proofs.YtlnhocgjgmhfgaaGreatDoor

namespace Go.Proofs.YtlnhocgjgmhfgaaGreatDoor

/-- The last k decimal digits. -/
def padR : Nat → Nat → List UInt8
  | 0, _ => []
  | k + 1, a => padR k (a / 10) ++ [UInt8.ofNat (48 + a % 10)]
theorem dec_pad (k : Nat) : ∀ m a : Nat, 0 < m → a < 10 ^ k → Lib.decDigits (m * 10 ^ k + a) = Lib.decDigits m ++ padR k a := by
  induction k with
  | zero => intro m a _ ha; have : a = 0 := by simpa using ha
            subst this; simp [padR]
  | succ k ih =>
    intro m a hm ha
    have hp : 1 ≤ 10 ^ k := Nat.one_le_pow _ _ (by decide)
    have h1 : 1 * 10 ^ k ≤ m * 10 ^ k := Nat.mul_le_mul_right _ hm
    rw [Lib.decDigits, dif_neg (by rw [Nat.pow_succ, ← Nat.mul_assoc]; omega)]
    have e1 : (m * 10 ^ (k + 1) + a) / 10 = m * 10 ^ k + a / 10 := by rw [Nat.pow_succ, ← Nat.mul_assoc]; omega
    have e2 : (m * 10 ^ (k + 1) + a) % 10 = a % 10 := by rw [Nat.pow_succ, ← Nat.mul_assoc]; omega
    rw [e1, e2, ih m (a / 10) hm (by rw [Nat.pow_succ] at ha; omega), padR, List.append_assoc]
theorem padR_eq (k : Nat) : ∀ a : Nat, a < 10 ^ (k + 1) → padR (k + 1) a = List.replicate (k + 1 - Lib.nDigits a) 48 ++ Lib.decDigits a := by
  induction k with
  | zero =>
    intro a ha
    have h10 : a < 10 := by simpa using ha
    rw [Lib.decDigits_one h10, Lib.nDigits_small h10]
    simp [padR, Nat.mod_eq_of_lt h10]
  | succ k ih =>
    intro a ha
    rw [padR, ih (a / 10) (by rw [Nat.pow_succ] at ha; omega)]
    by_cases h : a < 10
    · rw [Lib.decDigits_one h, Lib.nDigits_small h, Nat.div_eq_of_lt h, Lib.decDigits_one (by omega), Lib.nDigits_small (by omega), Nat.mod_eq_of_lt h]
      have : (48 : UInt8) = UInt8.ofNat (48 + 0) := rfl
      rw [show k + 1 + 1 - 1 = (k + 1 - 1) + 1 by omega, List.replicate_succ', this]
    · conv => rhs; rw [Lib.decDigits, dif_neg h]
      rw [Lib.nDigits_big h, ← List.append_assoc]
      congr 3
      omega
theorem nDigits_le {a k : Nat} (h : a < 10 ^ (k + 1)) : Lib.nDigits a ≤ k + 1 := by
  induction k generalizing a with
  | zero => rw [Lib.nDigits_small (by simpa using h)]; exact Nat.le_refl _
  | succ k ih =>
    by_cases h10 : a < 10
    · rw [Lib.nDigits_small h10]; omega
    · rw [Lib.nDigits_big h10]
      have := ih (a := a / 10) (by rw [Nat.pow_succ] at h; omega)
      omega
theorem dec_words (x m : Nat) (hx : x < 1000000000) (hm : 0 < m) :
    Lib.decDigits (x + 1000000000 * m) = Lib.decDigits m ++ (List.replicate (9 - (Lib.decDigits x).length) 48 ++ Lib.decDigits x) := by
  have h := dec_pad 9 m x hm (by simpa using hx)
  rw [padR_eq 8 x (by simpa using hx)] at h
  rw [Lib.decDigits_length, ← h]
  congr 1
  rw [Nat.add_comm, Nat.mul_comm]
theorem val_drop_pos (B : Nat) (xs : List Nat) (k : Nat) (hk : k < xs.length) (hl : xs.getLast? ≠ some 0) (hB : 0 < B) : 0 < val B (xs.drop k) := by
  have h1 := split1 B (xs.drop k) (xs.length - k - 1) (by simp; omega)
  have h2 : 0 < (xs.drop k).getD (xs.length - k - 1) 0 := by
    rcases Nat.eq_zero_or_pos ((xs.drop k).getD (xs.length - k - 1) 0) with h | h
    · exfalso; apply hl
      rw [List.getD_eq_getElem?_getD, List.getElem?_drop, show k + (xs.length - k - 1) = xs.length - 1 by omega] at h
      rw [List.getLast?_eq_getElem?, List.getElem?_eq_getElem (by omega)]
      rw [List.getElem?_eq_getElem (by omega)] at h
      simpa using h
    · exact h
  have := Nat.mul_pos h2 (Nat.pow_pos (n := xs.length - k - 1) hB)
  omega
end Go.Proofs.YtlnhocgjgmhfgaaGreatDoor

namespace Go.Proofs.YtlnhocgjgmhfgaaGreatDoor
open Go.RowKit
set_option maxRecDepth 100000

theorem str_size (l : List UInt8) : (⟨l.toArray⟩ : ByteArray).size = l.length := by simp [ByteArray.size]

set_option maxHeartbeats 1000000 in
theorem text_any (w : World) (x : Value) (n : Nat) (hx : Sl eU w x (digs 1000000000 n)) (hl : (digs 1000000000 n).length ≤ 1000000000000) (he : Env w) :
    Calls Tryz.prog 129 #[x] w (Rets fun v w' => v = .string ⟨(Lib.decDigits n).toArray⟩ ∧ Below w.heap.size w w') := by
  have bx := digs_lt 1000000000 n (by omega)
  have vx := val_digs 1000000000 n (by omega)
  have lx := digs_last 1000000000 n (by omega)
  have nx := @digs_nil 1000000000 n (by omega)
  generalize digs 1000000000 n = xs at *
  obtain ⟨a, bl, o, c, rfl, hi, hp, -, -⟩ := hx.open elemNat
  have BX := Lib.hid bx; have VX := Lib.hid vx; have LX := Lib.hid lx; have NX := Lib.hid nx
  clear bx vx lx nx hx
  by_cases h0 : xs.length = 0
  · have hb0 : ((xs.length : Int) == 0) = true := by simp [h0]
    have H0 := Lib.hid h0; clear h0
    go_enter Tryz.func129, Tryz.ntmps129
    go_wp2
    go_ret
    refine ⟨_, rfl, ?_, Below.refl _ _⟩
    obtain rfl : n = 0 := NX.out.1 (List.length_eq_zero_iff.1 H0.out)
    have e : Lib.decDigits 0 = [48] := by rw [Lib.decDigits_one (by omega)]; rfl
    rw [e]
    rfl
  · have hb0 : ((xs.length : Int) == 0) = false := by simp; intro h; exact h0 (by simp [h])
    go_enter Tryz.func129, Tryz.ntmps129
    go_wp2
    have hbl := Bld.fresh w
    go_loopw [4] (fun iv wr => ∃ (k : Nat) (l : List UInt8), k ≤ xs.length ∧ iv = .int .i64 ((k : Int) - 1) ∧ (k = xs.length → l = []) ∧ (k < xs.length → l = Lib.decDigits (val 1000000000 (xs.drop k))) ∧ l.length ≤ 9 * (xs.length - k) ∧
        Bld w.heap.size w.heap.size l wr ∧ Below w.heap.size w wr) (fun iv _ => (intOf iv + 1).toNat)
    case atStart => exact ⟨xs.length, [], Nat.le_refl _, rfl, fun _ => rfl, fun h => by omega, by simp, hbl, (Below.refl _ w).alloc (Nat.le_refl _) _⟩
    case round =>
      clear hbl
      obtain ⟨k, l, hk, rfl, hl1, hl2, hl3, hbl, hb⟩ := hrel
      have HL1 := Lib.hid hl1; have HL2 := Lib.hid hl2
      clear hl1 hl2
      rcases k with _ | k
      · have hfin : l = Lib.decDigits n := by rw [HL2.out (by omega), List.drop_zero, VX.out]
        have HF := Lib.hid hfin; clear hfin
        go_wp2_with fail
        refine (string_any _ _ l wr hbl).mono ?_
        rintro e w' ⟨v, rfl, rfl, hb'⟩
        go_wp2
        go_ret
        exact ⟨_, rfl, congrArg (fun l => Value.string ⟨List.toArray l⟩) HF.out, hb.trans hb'⟩
      · have hlt : k < xs.length := by omega
        obtain ⟨u, hu⟩ : ∃ u, u = xs[k] := ⟨_, rfl⟩
        have hbx : u < 1000000000 := by rw [hu]; exact BX.out xs[k] (List.getElem_mem hlt)
        have h1 : wr.cell? ⟨bl, o + k, none⟩ = some (.int .u32 (u : Nat)) := by rw [hu]; exact hp.at hb (Nat.le_refl _) k hlt
        have HU := Lib.hid hu; clear hu
        have ek : (((k + 1 : Nat) : Int) - 1) = (k : Int) := by omega
        rw [ek]
        clear ek
        have henv := he.below hb (Nat.le_refl _)
        go_wp2_with fail
        refine (itoa_any (u : Int) (by omega) (by omega) wr henv).mono ?_
        rintro e w1 ⟨v, rfl, rfl, hb1⟩
        obtain ⟨s, hs⟩ : ∃ s : ByteArray, s = ⟨(Lib.itoa (u : Int)).toArray⟩ := ⟨_, rfl⟩
        rw [← hs]
        have hsd : s.data.toList = Lib.decDigits u := by rw [hs]; simp [Lib.itoa_nonneg]
        have hsz : s.size = Lib.nDigits u := by rw [hs, str_size, Lib.itoa_nonneg, Lib.decDigits_length]
        have hs9 : s.size ≤ 9 := by rw [hsz]; exact nDigits_le (k := 8) (by simpa using hbx)
        have HSD := Lib.hid hsd; have HSZ := Lib.hid hsz
        clear hs hsd hsz h1 henv
        have hbl1 := hbl.below hb1 (Nat.le_refl _)
        have hbw1 := hb.trans (hb1.mono hb.size)
        clear hbl hb hb1
        by_cases hlast : k + 1 = xs.length
        · have hnl : ¬ ((k : Int) < (xs.length : Int) - 1) := by omega
          have hl0 := HL1.out hlast
          subst hl0
          have HLast := Lib.hid hlast; clear hlast
          go_wp2_with fail
          refine (write_any _ _ [] s w1 hbl1 (by simp; omega)).mono ?_
          rintro e w2 ⟨v, rfl, rfl, hbl2, hb2⟩
          have hval : val 1000000000 (xs.drop k) = u := by
            rw [drop_eq xs k hlt, show xs.drop (k + 1) = [] by rw [List.drop_of_length_le (by have := HLast.out; omega)], ← HU.out]; simp [val]
          have HVal := Lib.hid hval; clear hval
          go_wp2
          go_roundw
          case rel => exact ⟨k, [] ++ s.data.toList, by omega, rfl, fun h => by omega, fun _ => by rw [HVal.out, HSD.out]; rfl, by rw [HSD.out, List.nil_append, Lib.decDigits_length, ← HSZ.out]; omega, hbl2, hbw1.trans hb2⟩
          case measure => simp [intOf]
        · have hnl : (k : Int) < (xs.length : Int) - 1 := by omega
          have hl0 := HL2.out (by omega)
          have HL0 := Lib.hid hl0; clear hl0
          have hlk : k + 1 < xs.length := by omega
          clear hlast
          have hc9 : ((9 : Int) - (s.size : Int)) = ((9 - s.size : Nat) : Int) := by omega
          go_wp2_with fail
          refine (repeat_any ⟨#[48]⟩ (9 - s.size) w1 (by omega) (by show 1 * (9 - s.size) ≤ _; omega)).mono ?_
          rintro e w2 ⟨v, rfl, rfl, hb2⟩
          obtain ⟨z, hz⟩ : ∃ z : ByteArray, z = ⟨(Lib.repeatL (⟨#[48]⟩ : ByteArray).data.toList (9 - s.size)).toArray⟩ := ⟨_, rfl⟩
          rw [← hz]
          have hzd : z.data.toList = List.replicate (9 - s.size) 48 := by rw [hz]; have := Lib.repeatL_replicate 48 1 (9 - s.size); simpa using this
          have hzs : z.size = 9 - s.size := by rw [hz, str_size, Lib.repeatL_length]; exact Nat.mul_one _
          have hzl : z.size ≤ 9 := by omega
          have HZD := Lib.hid hzd; have HZS := Lib.hid hzs
          clear hz hzd hzs hc9
          have hbl2 := hbl1.below hb2 (Nat.le_refl _)
          have hbw2 := hbw1.trans (hb2.mono hbw1.size)
          clear hbl1 hbw1 hb2
          go_wp2_with fail
          refine (write_any _ _ l z w2 hbl2 (by omega)).mono ?_
          rintro e w3 ⟨v, rfl, rfl, hbl3, hb3⟩
          go_wp2_with fail
          refine (write_any _ _ _ s w3 hbl3 (by rw [List.length_append, Array.length_toList]; show l.length + z.size + s.size ≤ _; omega)).mono ?_
          rintro e w4 ⟨v, rfl, rfl, hbl4, hb4⟩
          have hval : (l ++ z.data.toList) ++ s.data.toList = Lib.decDigits (val 1000000000 (xs.drop k)) := by
            rw [drop_eq xs k hlt, ← HU.out, val, dec_words u _ hbx (val_drop_pos _ xs (k + 1) hlk LX.out (by omega)), HL0.out, HZD.out, HSD.out, HSZ.out, Lib.decDigits_length, List.append_assoc]
          have HVal := Lib.hid hval
          have hlen : ((l ++ z.data.toList) ++ s.data.toList).length ≤ 9 * (xs.length - k) := by
            rw [List.length_append, List.length_append, Array.length_toList, Array.length_toList]
            show l.length + z.size + s.size ≤ _
            have := HZS.out
            omega
          have HLen := Lib.hid hlen
          clear hval hlen
          go_wp2
          go_roundw
          case rel => exact ⟨k, _, by omega, rfl, fun h => by omega, fun _ => HVal.out, HLen.out, hbl4, (hbw2.trans hb3).trans hb4⟩
          case measure => simp [intOf]
end Go.Proofs.YtlnhocgjgmhfgaaGreatDoor

namespace Go.Proofs.YtlnhocgjgmhfgaaGreatDoor
open Go.RowKit
set_option maxRecDepth 100000

/-- One round of the difference. -/
theorem less_step (B : Nat) (ps qs os : List Nat) (k c d c' : Nat) (ho : os.length = k) (hos : ∀ a ∈ os, a < B) (hv : val B (ps.take k) + B ^ k * c = val B os + val B (qs.take k))
    (hd : d < B) (hs : ps.getD k 0 + B * c' = d + c + qs.getD k 0) :
    (os ++ [d]).length = k + 1 ∧ (∀ a ∈ os ++ [d], a < B) ∧ val B (ps.take (k + 1)) + B ^ (k + 1) * c' = val B (os ++ [d]) + val B (qs.take (k + 1)) := by
  refine ⟨by simp [ho], ?_, ?_⟩
  · intro a ha
    rcases List.mem_append.1 ha with h | h
    · exact hos a h
    · simp at h; omega
  · rw [val_take_succ, val_take_succ, val_snoc, ho, Nat.pow_succ, Nat.mul_assoc]
    have h1 : B ^ k * (ps.getD k 0) + B ^ k * (B * c') = B ^ k * d + B ^ k * c + B ^ k * qs.getD k 0 := by rw [← Nat.mul_add, hs, Nat.mul_add, Nat.mul_add]
    omega

set_option maxHeartbeats 1000000 in
theorem less_any (w : World) (x y : Value) (xs ys : List Nat) (hx : Sl eU w x xs) (hy : Sl eU w y ys) (bx : ∀ a ∈ xs, a < 1000000000) (by' : ∀ a ∈ ys, a < 1000000000)
    (hl : xs.length ≤ 1099511627776) (hl' : ys.length ≤ xs.length) (hle : val 1000000000 ys ≤ val 1000000000 xs) :
    Calls Tryz.prog 169 #[x, y] w (Rets fun v w' => Sl eU w' v (digs 1000000000 (val 1000000000 xs - val 1000000000 ys)) ∧ Below w.heap.size w w') := by
  obtain ⟨a, b, o, c, rfl, hi, hp, -, -⟩ := hx.open elemNat
  obtain ⟨a', b', o', c', rfl, hi', hq, -, -⟩ := hy.open elemNat
  have BX := Lib.hid bx; clear bx hx
  have BY := Lib.hid by'; clear by' hy
  have HLE := Lib.hid hle; clear hle
  go_enter Tryz.func169, Tryz.ntmps169
  go_wp2_with (at_make; refine mkN elemNat rfl _ _ rfl xs.length rfl rfl rfl rfl (by omega) (by unfold maxLen; omega) (Below.refl _ _) (Nat.le_refl _) rfl ?_; intro w1 hown hb hb2; clear hb2)
  have hown := ownsRow_cast hown rfl (show List.replicate xs.length (Value.int .u32 0) = (([] : List Nat) ++ List.replicate (xs.length - 0) 0).map eU by simp [eU])
  go_loopw [6, 14] (fun bw i wr => ∃ (k c : Nat) (os : List Nat), k ≤ xs.length ∧ i = .int .i64 k ∧ bw = .int .i64 c ∧ c ≤ 1 ∧ os.length = k ∧ (∀ a ∈ os, a < 1000000000) ∧
      val 1000000000 (xs.take k) + 1000000000 ^ k * c = val 1000000000 os + val 1000000000 (ys.take k) ∧ wr.ownsRow w.heap.size 150 1 (.slice (some ⟨w.heap.size, 0, none⟩) xs.length xs.length) xs.length ((os ++ List.replicate (xs.length - k) 0).map eU) ∧ Below w.heap.size w wr) (fun _ i _ => xs.length - (intOf i).toNat)
  case atStart => exact ⟨0, 0, [], by omega, rfl, rfl, by omega, rfl, by simp, by simp [val], hown, hb⟩
  case round =>
    clear hown hb
    obtain ⟨k, cy, os, hk, rfl, rfl, hcy, hol, hos, hv, hown, hb⟩ := hrel
    have HOL := Lib.hid hol; clear hol
    have HOS := Lib.hid hos; clear hos
    have HV := Lib.hid hv; clear hv
    have hbs := hb.size
    by_cases hlt : k < xs.length
    · have hbp := BX.out xs[k] (List.getElem_mem hlt)
      have hc1 : wr.cell? ⟨b, o + k, none⟩ = some (.int .u32 (xs[k] : Nat)) := hp.at hb (Nat.le_refl _) k hlt
      obtain ⟨u, -, hcu, hfu⟩ := own_at hown hlt
      by_cases hlt' : k < ys.length
      · have hbq := BY.out ys[k] (List.getElem_mem hlt')
        have hc2 : wr.cell? ⟨b', o' + k, none⟩ = some (.int .u32 (ys[k] : Nat)) := hq.at hb (Nat.le_refl _) k hlt'
        by_cases hneg : xs[k] < cy + ys[k]
        · skip
          have HR := Lib.hid (less_step 1000000000 xs ys os k cy (xs[k] + 1000000000 - cy - ys[k]) 1 HOL.out HOS.out HV.out (by omega) (by simp [hlt, hlt']; omega))
          go_wp2
          go_roundw
          case rel =>
            have R := fun (u : Value) (hu : u = eU (xs[k] + 1000000000 - cy - ys[k])) => fill_own hown hb (Nat.le_refl _) HOL.out hlt (xs[k] + 1000000000 - cy - ys[k]) u hu
            exact ⟨k + 1, 1, _, by omega, by go_num, rfl, by omega, HR.out.1, HR.out.2.1, HR.out.2.2, (R _ (congrArg (Value.int .u32) (by omega))).1, (R _ (congrArg (Value.int .u32) (by omega))).2⟩
          case measure => simp [intOf]; omega
        · skip
          have HR := Lib.hid (less_step 1000000000 xs ys os k cy (xs[k] - cy - ys[k]) 0 HOL.out HOS.out HV.out (by omega) (by simp [hlt, hlt']; omega))
          go_wp2
          go_roundw
          case rel =>
            have R := fun (u : Value) (hu : u = eU (xs[k] - cy - ys[k])) => fill_own hown hb (Nat.le_refl _) HOL.out hlt (xs[k] - cy - ys[k]) u hu
            exact ⟨k + 1, 0, _, by omega, by go_num, rfl, by omega, HR.out.1, HR.out.2.1, HR.out.2.2, (R _ (congrArg (Value.int .u32) (by omega))).1, (R _ (congrArg (Value.int .u32) (by omega))).2⟩
          case measure => simp [intOf]; omega
      · by_cases hneg : xs[k] < cy
        · skip
          have HR := Lib.hid (less_step 1000000000 xs ys os k cy (xs[k] + 1000000000 - cy) 1 HOL.out HOS.out HV.out (by omega) (by simp [hlt, List.getElem?_eq_none (Nat.le_of_not_lt hlt')]; omega))
          go_wp2
          go_roundw
          case rel =>
            have R := fun (u : Value) (hu : u = eU (xs[k] + 1000000000 - cy)) => fill_own hown hb (Nat.le_refl _) HOL.out hlt (xs[k] + 1000000000 - cy) u hu
            exact ⟨k + 1, 1, _, by omega, by go_num, rfl, by omega, HR.out.1, HR.out.2.1, HR.out.2.2, (R _ (congrArg (Value.int .u32) (by omega))).1, (R _ (congrArg (Value.int .u32) (by omega))).2⟩
          case measure => simp [intOf]; omega
        · skip
          have HR := Lib.hid (less_step 1000000000 xs ys os k cy (xs[k] - cy) 0 HOL.out HOS.out HV.out (by omega) (by simp [hlt, List.getElem?_eq_none (Nat.le_of_not_lt hlt')]; omega))
          go_wp2
          go_roundw
          case rel =>
            have R := fun (u : Value) (hu : u = eU (xs[k] - cy)) => fill_own hown hb (Nat.le_refl _) HOL.out hlt (xs[k] - cy) u hu
            exact ⟨k + 1, 0, _, by omega, by go_num, rfl, by omega, HR.out.1, HR.out.2.1, HR.out.2.2, (R _ (congrArg (Value.int .u32) (by omega))).1, (R _ (congrArg (Value.int .u32) (by omega))).2⟩
          case measure => simp [intOf]; omega
    · obtain rfl : k = xs.length := by omega
      have hsl : Sl eU wr (.slice (some ⟨w.heap.size, 0, none⟩) xs.length xs.length) os := Sl.ofOwns (n := xs.length) (by simpa using hown)
      have hfin : val 1000000000 os = val 1000000000 xs - val 1000000000 ys := by
        have h1 := HV.out
        rw [List.take_of_length_le (Nat.le_refl _), List.take_of_length_le hl'] at h1
        have h2 := val_lt 1000000000 os HOS.out
        rw [HOL.out] at h2
        have h3 := HLE.out
        rcases (show cy = 0 ∨ cy = 1 by omega) with rfl | rfl <;> omega
      have HF := Lib.hid hfin; clear hfin
      go_wp2_with fail
      refine (trimmed_any _ _ _ hsl).mono ?_
      rintro e w' ⟨v3, rfl, hs3, rfl⟩
      go_wp2
      go_ret
      refine ⟨_, rfl, ?_, hb⟩
      rw [← trim_of 1000000000 os _ (by omega) HOS.out HF.out]
      exact hs3
end Go.Proofs.YtlnhocgjgmhfgaaGreatDoor

namespace Go.Proofs.YtlnhocgjgmhfgaaGreatDoor
open Go.RowKit
set_option maxRecDepth 100000

/-- The value reads as the integer z. -/
def Num (w : World) (v : Value) (z : Int) : Prop := ∃ m a n c, v = .agg #[.bool m, .slice a n c] ∧ m = decide (z < 0) ∧ Sl eU w (.slice a n c) (digs 1000000000 z.natAbs)
/-- How many words an integer has. -/
def wl (z : Int) : Nat := (digs 1000000000 z.natAbs).length

theorem Num.below {w w' : World} {v : Value} {z : Int} {B : Nat} (h : Num w v z) (hb : Below B w w') (hB : w.heap.size ≤ B) : Num w' v z := by
  obtain ⟨m, a, n, c, rfl, hm, hs⟩ := h
  exact ⟨m, a, n, c, rfl, hm, hs.below hb hB⟩
theorem Sl.shape {α : Type} {enc : α → Value} {w : World} {v : Value} {xs : List α} (h : Sl enc w v xs) : ∃ a n c, v = .slice a n c := by
  obtain ⟨a, b, o, c, rfl, _⟩ := h; exact ⟨a, _, c, rfl⟩
/-- A number stored into a box of the call's own. -/
theorem store2 {w : World} {g : Nat} {p q : Value} {T : TypeId} (hk : Blk w g [p, q] T) (hp : ∀ n, p ≠ eU n) (hq : ∀ n, q ≠ eU n) (m : Bool) (a : Option Addr) (n c : Nat) {xs : List Nat} (hs : Sl eU w (.slice a n c) xs) :
    Sl eU ((w.setCell ⟨g, 0, none⟩ (.bool m)).setCell ⟨g, 1, none⟩ (.slice a n c)) (.slice a n c) xs ∧ ((w.setCell ⟨g, 0, none⟩ (.bool m)).setCell ⟨g, 1, none⟩ (.slice a n c)).cell? ⟨g, 0, none⟩ = some (.bool m) ∧
      ((w.setCell ⟨g, 0, none⟩ (.bool m)).setCell ⟨g, 1, none⟩ (.slice a n c)).cell? ⟨g, 1, none⟩ = some (.slice a n c) := by
  have h1 := hk.set 0 (.bool m)
  have h2 := h1.set 1 (.slice a n c)
  refine ⟨(hs.set_other hk ?_ _).set_other h1 ?_ _, h2.cell 0 _ rfl, h2.cell 1 _ rfl⟩
  · intro x hx; simp at hx; rcases hx with rfl | rfl; exact hp; exact hq
  · intro x hx n; simp at hx; rcases hx with rfl | rfl; simp [eU]; exact hq n
/-- The number with a sign and a size. -/
def sg (m : Bool) (n : Nat) : Int := if m then -(n : Int) else n
theorem sg_neg (m : Bool) (n : Nat) : decide (sg m n < 0) = (m && decide (0 < n)) := by
  cases m
  · simp [sg]
  · simp [sg]
theorem sg_abs (m : Bool) (n : Nat) : (sg m n).natAbs = n := by cases m <;> simp [sg]
theorem digs_pos_len (n : Nat) : 0 < (digs 1000000000 n).length ↔ 0 < n := by
  rw [List.length_pos_iff, Ne, digs_nil (by omega)]; omega

set_option maxHeartbeats 400000 in
theorem signed_any (w : World) (m : Bool) (x : Value) (n : Nat) (hx : Sl eU w x (digs 1000000000 n)) :
    Calls Tryz.prog 104 #[.bool m, x] w (Rets fun v w' => Num w' v (sg m n) ∧ Below w.heap.size w w') := by
  have HX := Lib.hid hx
  obtain ⟨a, l, c, rfl⟩ := hx.shape
  have hn := digs_pos_len n
  rw [← hx.len.1] at hn
  have HN := Lib.hid hn; clear hn hx
  cases m
  · go_enter Tryz.func104, Tryz.ntmps104
    go_wp2
    go_returns
    exact ⟨_, rfl, ⟨_, _, _, _, rfl, by rw [sg_neg]; rfl, by rw [sg_abs]; exact HX.out.below ((Below.refl _ w).alloc (Nat.le_refl _) _) (Nat.le_refl _)⟩, (Below.refl _ w).alloc (Nat.le_refl _) _⟩
  · go_enter Tryz.func104, Tryz.ntmps104
    go_wp2
    go_returns
    refine ⟨_, rfl, ⟨_, _, _, _, rfl, ?_, by rw [sg_abs]; exact HX.out.below ((Below.refl _ w).alloc (Nat.le_refl _) _) (Nat.le_refl _)⟩, (Below.refl _ w).alloc (Nat.le_refl _) _⟩
    have e : decide (0 < l) = decide (0 < n) := decide_eq_decide.2 HN.out
    rw [sg_neg, Bool.true_and, ← e]

set_option maxHeartbeats 400000 in
theorem neg_any (w : World) (x : Value) (z : Int) (hx : Num w x z) :
    Calls Tryz.prog 117 #[x] w (Rets fun v w' => Num w' v (-z) ∧ Below w.heap.size w w') := by
  obtain ⟨m, a, n, c, rfl, hm, hs⟩ := hx
  have HX := Lib.hid hs; clear hs
  have e2 : sg (!m) z.natAbs = -z := by
    rw [hm]; by_cases h : z < 0 <;> simp [sg, h] <;> omega
  have E2 := Lib.hid e2; clear e2 hm
  go_enter Tryz.func117, Tryz.ntmps117
  go_wp2_with fail
  have hb0 : Below w.heap.size w ((w.alloc (.cells #[.bool m, .slice a n c] 138)).alloc (.cells #[.bool false, .slice none 0 0] 138)) := ((Below.refl _ w).alloc (Nat.le_refl _) _).alloc (by simp) _
  refine (signed_any _ _ _ z.natAbs (HX.out.below hb0 (Nat.le_refl _))).mono ?_
  rintro e w1 ⟨v, rfl, ⟨m1, a1, n1, c1, rfl, hm1, hs1⟩, hb1⟩
  rw [E2.out] at hs1 hm1
  have hbk := (Blk.new (w.alloc (.cells #[.bool m, .slice a n c] 138)) [.bool false, .slice none 0 0] 138).below hb1 (Nat.le_refl _)
  rw [World.size_alloc] at hbk
  have k0 := hbk.cell 0 _ rfl
  have k1 := hbk.cell 1 _ rfl
  have f0 := hbk.free 0
  have f1 := hbk.free 1
  have HS1 := Lib.hid hs1
  have HM1 := Lib.hid hm1
  have hbw := hb0.trans (hb1.mono (by simp; omega))
  have HBW := Lib.hid hbw
  clear hs1 hb1 hb0 hbw hm1
  go_wp2
  obtain ⟨hs2, r0, r1⟩ := store2 hbk (by simp [eU]) (by simp [eU]) m1 a1 n1 c1 HS1.out
  refine bodyPost_ret (v := .agg #[.bool m1, .slice a1 n1 c1]) (by simp [results, Tryz.results117, go_sem, r0, r1]) rfl ?_
  exact ⟨_, rfl, ⟨_, _, _, _, rfl, HM1.out, hs2⟩, (HBW.out.setCell (by simp) _).setCell (by simp) _⟩
end Go.Proofs.YtlnhocgjgmhfgaaGreatDoor
