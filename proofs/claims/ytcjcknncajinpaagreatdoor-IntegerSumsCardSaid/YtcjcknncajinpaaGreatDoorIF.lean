/- Plain laws for the long division: the scale, and the steps put together. The walk of integer's division of natural numbers. -/
import Derived.Test.YtcjcknncajinpaaGreatDoorIE
import Derived.Test.YtcjcknncajinpaaGreatDoorIC
namespace Go.Proofs.YtcjcknncajinpaaGreatDoor

theorem scale_ok (y s : Nat) (h1 : 1 ≤ y) (h2 : y < 1000000000) (hs : s = 1000000000 / (y + 1)) : 1 ≤ s ∧ s * (y + 1) ≤ 1000000000 ∧ 1000000000 ≤ 2 * (y * s) ∧ s ≤ 500000000 := by
  have hm := Nat.div_add_mod 1000000000 (y + 1)
  have hr := Nat.mod_lt 1000000000 (show 0 < y + 1 by omega)
  rw [← hs] at hm
  generalize 1000000000 % (y + 1) = r at *
  have hc : (y + 1) * s = y * s + s := by rw [Nat.add_mul, Nat.one_mul]
  have h5 : s ≤ 500000000 := by
    have := Nat.div_le_div_left (a := 1000000000) (show 2 ≤ y + 1 by omega) (by omega)
    omega
  have hs1 : 1 ≤ s := by
    rcases Nat.eq_zero_or_pos s with h | h
    · subst h; simp at hm; omega
    · exact h
  have hle : s * (y + 1) ≤ 1000000000 := by rw [Nat.mul_comm]; omega
  refine ⟨hs1, hle, ?_, h5⟩
  rcases Nat.lt_or_ge s 2 with h | h
  · obtain rfl : s = 1 := by omega
    omega
  · rcases Nat.lt_or_ge y 2 with h3 | h3
    · obtain rfl : y = 1 := by omega
      omega
    · -- r ≤ y, s ≥ 2, y ≥ 2: y + 2 s ≤ s (y + 1)
      obtain ⟨s', rfl⟩ : ∃ s', s = s' + 2 := ⟨s - 2, by omega⟩
      obtain ⟨y', rfl⟩ : ∃ y', y = y' + 2 := ⟨y - 2, by omega⟩
      have e1 : (y' + 2) * (s' + 2) = y' * s' + 2 * y' + 2 * s' + 4 := by grind
      rw [e1] at hc ⊢
      omega

theorem split1 (B : Nat) (l : List Nat) (m : Nat) (h : m + 1 = l.length) : val B l = l.getD m 0 * B ^ m + val B (l.take m) := by
  have h1 := val_take_succ B l m
  rw [h, List.take_of_length_le (Nat.le_refl _)] at h1
  rw [h1, Nat.mul_comm]; omega
/-- The divisor, scaled: as many words, the first of which is not less than half the base. -/
theorem norm_ok (b m s y : Nat) (hb : m + 1 = (digs 1000000000 b).length) (hy : y = (digs 1000000000 b).getD m 0) (hs : s = 1000000000 / (y + 1)) :
    1 ≤ y ∧ y < 1000000000 ∧ 1 ≤ s ∧ s ≤ 500000000 ∧ (digs 1000000000 (b * s)).length = m + 1 ∧ 500000000 ≤ (digs 1000000000 (b * s)).getD m 0 ∧ 1000000000 ^ m ≤ b := by
  have hlt := digs_lt 1000000000 b (by omega)
  have hy2 : y < 1000000000 := by rw [hy]; exact getD_lt hlt (by omega)
  have hlast := digs_last 1000000000 b (by omega)
  have hy1 : 1 ≤ y := by
    rw [List.getLast?_eq_getElem?, ← hb] at hlast
    rcases Nat.eq_zero_or_pos y with h | h
    · exfalso; apply hlast
      rw [h] at hy
      rw [show m + 1 - 1 = m by omega, List.getElem?_eq_getElem (by omega)]
      rw [List.getD_eq_getElem?_getD, List.getElem?_eq_getElem (by omega)] at hy
      simpa using hy.symm
    · exact h
  obtain ⟨hs1, hle, h2, h5⟩ := scale_ok y s hy1 hy2 hs
  have hv := split1 1000000000 _ m hb
  rw [val_digs 1000000000 b (by omega), ← hy] at hv
  have hvl := val_lt 1000000000 ((digs 1000000000 b).take m) (mem_take hlt)
  rw [List.length_take_of_le (by omega)] at hvl
  generalize val 1000000000 ((digs 1000000000 b).take m) = vl at *
  have hbs : b * s < 1000000000 ^ (m + 1) := by
    have e1 : b < (y + 1) * 1000000000 ^ m := by rw [Nat.add_mul, Nat.one_mul]; omega
    have e2 : b * s < (y + 1) * 1000000000 ^ m * s := Nat.mul_lt_mul_of_pos_right e1 hs1
    have e3 : s * (y + 1) * 1000000000 ^ m ≤ 1000000000 * 1000000000 ^ m := Nat.mul_le_mul_right _ hle
    have e4 : (y + 1) * 1000000000 ^ m * s = s * (y + 1) * 1000000000 ^ m := by grind
    rw [Nat.pow_succ, Nat.mul_comm (1000000000 ^ m)]
    omega
  have hbm : 1000000000 ^ m ≤ b := by
    have : 1 * 1000000000 ^ m ≤ y * 1000000000 ^ m := Nat.mul_le_mul_right _ hy1
    omega
  have hl : (digs 1000000000 (b * s)).length = m + 1 := by
    have h1 := (digs_len 1000000000 (b * s) (m + 1) (by omega)).2 hbs
    have h3 := digs_len_mono 1000000000 (by omega) (show b ≤ b * s from Nat.le_mul_of_pos_right b hs1)
    omega
  refine ⟨hy1, hy2, hs1, h5, hl, ?_, hbm⟩
  have hw := split1 1000000000 _ m hl.symm
  rw [val_digs 1000000000 (b * s) (by omega)] at hw
  have hwl := val_lt 1000000000 ((digs 1000000000 (b * s)).take m) (mem_take (digs_lt 1000000000 (b * s) (by omega)))
  rw [List.length_take_of_le (by omega)] at hwl
  generalize val 1000000000 ((digs 1000000000 (b * s)).take m) = wl at *
  generalize (digs 1000000000 (b * s)).getD m 0 = t at *
  have h3 : y * s * 1000000000 ^ m ≤ b * s := by
    rw [hv]; have : (y * 1000000000 ^ m) * s ≤ (y * 1000000000 ^ m + vl) * s := Nat.mul_le_mul_right _ (by omega)
    have e : y * s * 1000000000 ^ m = y * 1000000000 ^ m * s := by grind
    omega
  rcases Nat.lt_or_ge t 500000000 with h | h
  · exfalso
    have h4 : (t + 1) * 1000000000 ^ m ≤ y * s * 1000000000 ^ m := Nat.mul_le_mul_right _ (by omega)
    rw [Nat.add_mul, Nat.one_mul] at h4
    omega
  · exact h

/-- One step of the division, on the numbers. A: the words that are still to come, x the last of them; R: the rest; qs: the quotient's words. -/
theorem div_step (B V N a x R U q r Q k : Nat) (hN : a + B ^ k * x + B ^ (k + 1) * (R + V * Q) = N) (hU : U = x + B * R) (hq : U = q * V + r) : a + B ^ k * (r + V * (q + B * Q)) = N := by
  rw [← hN, Nat.pow_succ]
  have : x + B * R = q * V + r := by rw [← hU, hq]
  have e : B ^ k * (x + B * R) = B ^ k * (q * V + r) := by rw [this]
  grind
theorem div_end (a b s R Q : Nat) (hs : 1 ≤ s) (h : R + b * s * Q = a * s) (hR : R < b * s) : Q = a / b ∧ R / s = a % b := by
  have hb : 0 < b := by
    rcases Nat.eq_zero_or_pos b with h | h
    · subst h; simp at hR
    · exact h
  have hd : a * s / (b * s) = Q := by
    rw [← h, Nat.add_mul_div_left _ _ (by omega), Nat.div_eq_of_lt hR, Nat.zero_add]
  rw [Nat.mul_div_mul_right _ _ hs] at hd
  refine ⟨hd.symm, ?_⟩
  have hm : a * s % (b * s) = R := by rw [← h, Nat.add_mul_mod_self_left, Nat.mod_eq_of_lt hR]
  rw [Nat.mul_mod_mul_right] at hm
  rw [← hm, Nat.mul_div_cancel _ hs]
theorem div_start (B a b s L m : Nat) (us : List Nat) (ha : a < B ^ L) (hb : B ^ (m + 1) ≤ b) (hs : 0 < s) (hl : us.length = L + 1) (hm : m + 2 ≤ L) (hv : val B us = a * s) :
    val B (us.take (L - m - 1)) + B ^ (L - m - 1) * val B (us.drop (L - m - 1)) = a * s ∧ val B (us.drop (L - m - 1)) < b * s ∧ (us.take (L - m - 1)).length = L - m - 1 ∧ (us.drop (L - m - 1)).length = m + 2 := by
  have h1 := val_append B (us.take (L - m - 1)) (us.drop (L - m - 1))
  rw [List.take_append_drop, List.length_take_of_le (by omega), hv] at h1
  refine ⟨h1.symm, ?_, by simp; omega, by simp; omega⟩
  have h2 : a * s < B ^ L * s := Nat.mul_lt_mul_of_pos_right ha hs
  have h3 : B ^ L = B ^ (L - m - 1) * B ^ (m + 1) := by rw [← Nat.pow_add]; congr 1; omega
  have h4 : B ^ (L - m - 1) * val B (us.drop (L - m - 1)) < B ^ (L - m - 1) * (B ^ (m + 1) * s) := by rw [← Nat.mul_assoc, ← h3]; omega
  have h5 := Nat.lt_of_mul_lt_mul_left h4
  have h6 : B ^ (m + 1) * s ≤ b * s := Nat.mul_le_mul_right _ hb
  omega
theorem val_zeros (B n : Nat) : val B (List.replicate n 0) = 0 := by
  induction n with
  | zero => rfl
  | succ n ih => rw [List.replicate_succ, val, ih]; rfl
theorem trim_zeros (l : List Nat) (n : Nat) : trim (l ++ List.replicate n 0) = trim l := by
  induction n with
  | zero => simp
  | succ n ih => rw [List.replicate_succ', ← List.append_assoc, trim_snoc_zero, ih]
/-- A list of n + 1 words whose number has n: the last is 0. -/
theorem last_zero (B : Nat) (l : List Nat) (n : Nat) (hl : l.length = n + 1) (hv : val B l < B ^ n) : ∃ r, l = r ++ [0] ∧ r.length = n := by
  have h := split1 B l n hl.symm
  have hz : l.getD n 0 = 0 := by
    rcases Nat.eq_zero_or_pos (l.getD n 0) with h0 | h0
    · exact h0
    · have : 1 * B ^ n ≤ l.getD n 0 * B ^ n := Nat.mul_le_mul_right _ h0
      omega
  refine ⟨l.take n, ?_, by simp; omega⟩
  have h1 := take_snoc l n (by omega)
  rw [List.take_of_length_le (by omega)] at h1
  rw [List.getD_eq_getElem?_getD, List.getElem?_eq_getElem (by omega)] at hz
  simp only [Option.getD_some] at hz
  rw [hz] at h1
  exact h1
end Go.Proofs.YtcjcknncajinpaaGreatDoor
namespace Go.Proofs.YtcjcknncajinpaaGreatDoor
open Go.RowKit
set_option maxRecDepth 100000

def QuoRem (a b : Nat) (v : Value) (w' : World) : Prop := ∃ q r, v = .tuple #[q, r] ∧ Sl eU w' q (digs 1000000000 (a / b)) ∧ Sl eU w' r (digs 1000000000 (a % b))

set_option maxHeartbeats 1000000 in
theorem divided_one (w : World) (x y : Value) (a b : Nat) (hx : Sl eU w x (digs 1000000000 a)) (hy : Sl eU w y (digs 1000000000 b)) (hb : 0 < b)
    (hl : (digs 1000000000 a).length ≤ 1099511627776) (h1 : b < 1000000000) :
    Calls Tryz.prog 59 #[x, y] w (Rets fun v w' => QuoRem a b v w' ∧ Below w.heap.size w w') := by
  have hd : digs 1000000000 b = [b] := by rw [digs_pos _ _ (by omega) hb, Nat.mod_eq_of_lt h1, Nat.div_eq_of_lt h1, digs_zero]
  rw [hd] at hy
  clear hd
  have HX := Lib.hid hx; clear hx
  obtain ⟨a', bl, o, c, rfl, hi, hq, -, -⟩ := hy.open elemNat
  clear hy
  have c0 : w.cell? ⟨bl, o, none⟩ = some (.int .u32 (b : Nat)) := hq.2 0 (by simp)
  go_enter Tryz.func59, Tryz.ntmps59
  go_wp2_with fail
  refine (short_any w x _ b HX.out (digs_lt _ _ (by omega)) hb h1 hl).mono ?_
  rintro e w' ⟨v, rfl, ⟨q, r, rfl, hq', hr'⟩, hb'⟩
  rw [val_digs _ _ (by omega)] at hq' hr'
  have HQ := Lib.hid hq'; clear hq'
  have HR := Lib.hid hr'; clear hr'
  go_wp2
  go_ret2
  exact ⟨_, rfl, ⟨_, _, rfl, HQ.out, HR.out⟩, hb'⟩

set_option maxHeartbeats 1000000 in
theorem divided_less (w : World) (x y : Value) (a b : Nat) (hx : Sl eU w x (digs 1000000000 a)) (hy : Sl eU w y (digs 1000000000 b))
    (hl : (digs 1000000000 a).length ≤ 1099511627776) (hl' : (digs 1000000000 b).length ≤ 1099511627776) (h1 : 1000000000 ≤ b) (hlt : a < b) :
    Calls Tryz.prog 59 #[x, y] w (Rets fun v w' => QuoRem a b v w' ∧ Below w.heap.size w w') := by
  have hne : 2 ≤ (digs 1000000000 b).length := by
    rcases Nat.lt_or_ge (digs 1000000000 b).length 2 with h | h
    · have := (digs_len 1000000000 b 1 (by omega)).1 (by omega); omega
    · exact h
  have HX := Lib.hid hx; clear hx
  have HY := Lib.hid hy
  obtain ⟨a', bl, o, c, rfl, -, -, -, -⟩ := hy.open elemNat
  clear hy
  have h2 : (((digs 1000000000 b).length : Int) == 1) = false := by simp; omega
  go_enter Tryz.func59, Tryz.ntmps59
  go_wp2_with fail
  refine (compare_any w _ _ a b HX.out HY.out hl hl').mono ?_
  rintro e w' ⟨v, rfl, ⟨r, rfl, hr, -⟩, hb'⟩
  have hr := hr.2 hlt
  go_wp2
  go_ret2
  exact ⟨_, rfl, ⟨_, _, rfl, by rw [Nat.div_eq_of_lt hlt, digs_zero]; exact Sl.nil, by rw [Nat.mod_eq_of_lt hlt]; exact HX.out.below hb' (Nat.le_refl _)⟩, hb'⟩

set_option maxHeartbeats 4000000 in
theorem divided_main (w : World) (x y : Value) (a b : Nat) (hx : Sl eU w x (digs 1000000000 a)) (hy : Sl eU w y (digs 1000000000 b))
    (hl : (digs 1000000000 a).length ≤ 1000000000000) (hl' : (digs 1000000000 b).length ≤ 1000000000000) (h1 : 1000000000 ≤ b) (hlt : b ≤ a) :
    Calls Tryz.prog 59 #[x, y] w (Rets fun v w' => QuoRem a b v w' ∧ Below w.heap.size w w') := by
  have hne : 2 ≤ (digs 1000000000 b).length := by
    rcases Nat.lt_or_ge (digs 1000000000 b).length 2 with h | h
    · have := (digs_len 1000000000 b 1 (by omega)).1 (by omega); omega
    · exact h
  obtain ⟨m, hm⟩ : ∃ m, m + 2 = (digs 1000000000 b).length := ⟨(digs 1000000000 b).length - 2, by omega⟩
  obtain ⟨L, hL⟩ : ∃ L, L = (digs 1000000000 a).length := ⟨_, rfl⟩
  have hmL : m + 2 ≤ L := by rw [hm, hL]; exact digs_len_mono _ (by omega) hlt
  obtain ⟨yt, hyt⟩ : ∃ x, x = (digs 1000000000 b).getD (m + 1) 0 := ⟨_, rfl⟩
  obtain ⟨s, hs⟩ : ∃ x, x = 1000000000 / (yt + 1) := ⟨_, rfl⟩
  have hnorm := norm_ok b (m + 1) s yt hm hyt hs
  have hy1 := hnorm.1
  have hy2 := hnorm.2.1
  have hs1 := hnorm.2.2.1
  have hs2 := hnorm.2.2.2.1
  have HN := Lib.hid hnorm; clear hnorm
  have HX := Lib.hid hx
  have HY := Lib.hid hy
  have bx := digs_lt 1000000000 a (by omega)
  have by' := digs_lt 1000000000 b (by omega)
  obtain ⟨a', bl, o, c, rfl, hi, hq, -, -⟩ := hy.open elemNat
  obtain ⟨a2, bl2, o2, c2, rfl, -, -, -, -⟩ := hx.open elemNat
  rw [← hm] at hi hl' ⊢
  rw [← hL] at hl ⊢
  clear hy hx hne
  have ct : w.cell? ⟨bl, o + (m + 1), none⟩ = some (.int .u32 (yt : Nat)) := by
    rw [hq.2 (m + 1) (by omega), hyt]
    simp [eU, show m + 1 < (digs 1000000000 b).length by omega]
  have HM := Lib.hid hm; clear hm
  have HL := Lib.hid hL; clear hL
  have HYT := Lib.hid hyt; clear hyt
  have HS := Lib.hid hs
  have hsI : (1000000000 : Int) / ((yt : Int) + 1) = (s : Int) := by rw [hs]; simp
  clear hs
  have BX := Lib.hid bx; clear bx
  have BY := Lib.hid by'; clear by'
  have h2 : (((m : Int) + 2) == 1) = false := by simp; omega
  go_enter Tryz.func59, Tryz.ntmps59
  go_wp2_with fail
  refine (compare_any w _ _ a b (by rw [HL.out]; exact HX.out) (by rw [HM.out]; exact HY.out) (by rw [← HL.out]; omega) (by rw [← HM.out]; omega)).mono ?_
  rintro e w1 ⟨v, rfl, ⟨r, rfl, hr, -⟩, hb1⟩
  have hr : 0 ≤ r := by have := hr.1; omega
  have ct1 := (hb1.cell (p := ⟨bl, o + (m + 1), none⟩) (hq.1 (by rw [← HM.out]; omega))).trans ct
  clear ct
  go_wp2_with fail
  refine (times_any _ _ _ (digs 1000000000 b) [s] (by rw [HM.out]; exact HY.out.below (hb1.alloc hb1.size _) (Nat.le_refl _)) (Sl.single w1 s _ rfl _) BY.out (by intro x hx; rw [List.mem_singleton.1 hx]; omega) (by rw [← HM.out]; simp; omega)).mono ?_
  rintro e w2 ⟨v2, rfl, hv, hb2⟩
  have hbs : val 1000000000 (digs 1000000000 b) * val 1000000000 [s] = b * s := by rw [val_digs _ _ (by omega)]; simp [val]
  rw [hbs] at hv
  have hb02 : Below w.heap.size w w2 := (hb1.alloc hb1.size _).trans (hb2.mono (by have := hb1.size; simp; omega))
  have HB02 := Lib.hid hb02
  clear hbs hb2 hb1 ct1 hi hq hb02 hsI
  have HV := Lib.hid hv
  obtain ⟨a3, bl3, o3, c3, rfl, -, -, -, -⟩ := hv.open elemNat
  have hlv := HN.out.2.2.2.2.1
  rw [show m + 1 + 1 = m + 2 by omega] at hlv
  have HLV := Lib.hid hlv
  rw [hlv]
  clear hv hlv
  go_wp2_with (at_make; refine mkN elemNat rfl _ _ rfl (L + 1) rfl rfl (by omega) (by omega) (by omega) (by unfold maxLen; omega) (Below.refl _ _) (Nat.le_refl _) rfl ?_; intro w3 hown hb3 hb3'; clear hb3')
  have hbW3 : Below w.heap.size w w3 := HB02.out.trans (hb3.mono HB02.out.size)
  refine (times_any _ _ _ (digs 1000000000 a) [s] (by rw [HL.out]; exact HX.out.below (hbW3.alloc hbW3.size _) (Nat.le_refl _)) (Sl.single w3 s _ rfl _) BX.out (by intro x hx; rw [List.mem_singleton.1 hx]; omega) (by rw [← HL.out]; simp; omega)).mono ?_
  rintro e w4 ⟨v4, rfl, hv4, hb4⟩
  have has : val 1000000000 (digs 1000000000 a) * val 1000000000 [s] = a * s := by rw [val_digs _ _ (by omega)]; simp [val]
  rw [has] at hv4
  have hlz : (digs 1000000000 (a * s)).length ≤ L + 1 := by
    have h1 := digs_len_mul 1000000000 a s (by omega)
    have h2 := (digs_len 1000000000 s 1 (by omega)).2 (by omega)
    rw [← HL.out] at h1; omega
  have hown4 := own_below (own_below hown ((Below.refl w3.heap.size w3).alloc (Nat.le_refl _) (.cells #[.int .u32 (s : Int)] 75)) (Nat.le_refl _)) hb4 (Nat.le_refl _)
  have hown4 := ownsRow_cast hown4 rfl (show List.replicate (L + 1) (Value.int .u32 0) = (List.replicate (L + 1) 0).map eU by simp [eU])
  have hb24 : Below w2.heap.size w2 w4 := (hb3.alloc hb3.size _).trans (hb4.mono (by have := hb3.size; simp; omega))
  clear hown hb3 hb4 hbW3 has
  have HV4 := Lib.hid hv4; clear hv4
  have HLZ := Lib.hid hlz; clear hlz
  have h24 := hb24.size
  go_wp2_with (first
    | ((with_reducible show wpList _ _ _ _ _ _); refine copy1 (sv := v4) elemNat rfl _ _ rfl rfl rfl hown4 HV4.out HLZ.out (fun _ => rfl) hb24 (Nat.le_refl _) ?_; intro w5 hown5 hb5)
    | (at_make; refine mkN elemNat rfl _ _ rfl (L - m - 1) rfl rfl (by omega) (by omega) (by omega) (by unfold maxLen; omega) hb5 hb5.size rfl ?_; intro w6 hownq hb6 hb56))
  -- the words of the scaled dividend
  obtain ⟨us, hus⟩ : ∃ us, us = digs 1000000000 (a * s) ++ List.drop (digs 1000000000 (a * s)).length (List.replicate (L + 1) 0) := ⟨_, rfl⟩
  rw [← hus] at hown5
  have husl : us.length = L + 1 := by rw [hus]; simp; have := HLZ.out; omega
  have husb : ∀ x ∈ us, x < 1000000000 := by
    intro x hx
    rw [hus] at hx
    rcases List.mem_append.1 hx with h | h
    · exact digs_lt _ _ (by omega) x h
    · rw [List.eq_of_mem_replicate (List.mem_of_mem_drop h)]; omega
  have husv : val 1000000000 us = a * s := by rw [hus, List.drop_replicate, val_append, val_zeros, val_digs _ _ (by omega)]; simp
  have hst := div_start 1000000000 a b s L m us (by rw [HL.out]; exact lt_pow_len _ _ (by omega)) HN.out.2.2.2.2.2.2 hs1 husl hmL husv
  have hownu := own_below hown5 hb56 (Nat.le_refl _)
  have hqg : w2.heap.size < w5.heap.size := by
    have := (hown5.lt w2.heap.size rfl).2
    exact this
  have HST := Lib.hid hst; have HUSB := Lib.hid husb; have HUSL := Lib.hid husl
  clear hst husb husl husv hus hown5 hown4 hb24 hb5 hb56 h24 HV4
  obtain ⟨K, hK⟩ : ∃ K, K = L - m - 1 := ⟨_, rfl⟩
  rw [← hK] at hownq HST ⊢
  obtain ⟨gq, hgq⟩ : ∃ gq, gq = w5.heap.size := ⟨_, rfl⟩
  rw [← hgq] at hownq hqg ⊢
  have HK := Lib.hid hK
  clear hgq
  have hownq := ownsRow_cast hownq rfl (show List.replicate K (Value.int .u32 0) = (List.replicate K 0 ++ ([] : List Nat)).map eU by simp [eU])
  have hKL : K + (m + 2) = L + 1 := by omega
  clear hK
  have hK1 : 1 ≤ K := by omega
  go_loopw [11] (fun jv wr => ∃ (k : Nat) (A R qs : List Nat), k ≤ K ∧ jv = .int .i64 ((k : Int) - 1) ∧ A.length = k ∧ R.length = m + 2 ∧ (∀ x ∈ A, x < 1000000000) ∧ (∀ x ∈ R, x < 1000000000) ∧ (∀ x ∈ qs, x < 1000000000) ∧
      qs.length = K - k ∧ val 1000000000 R < b * s ∧ val 1000000000 A + 1000000000 ^ k * (val 1000000000 R + b * s * val 1000000000 qs) = a * s ∧
      wr.ownsRow w2.heap.size 75 1 (.slice (some ⟨w2.heap.size, 0, none⟩) (L + 1) (L + 1)) (L + 1) ((A ++ (R ++ List.replicate (K - k) 0)).map eU) ∧
      wr.ownsRow gq 75 1 (.slice (some ⟨gq, 0, none⟩) K K) K ((List.replicate k 0 ++ qs).map eU) ∧ Below w2.heap.size w2 wr) (fun jv _ => (intOf jv + 1).toNat)
  case atStart =>
    refine ⟨K, us.take K, us.drop K, [], Nat.le_refl _, rfl, HST.out.2.2.1, HST.out.2.2.2, mem_take HUSB.out, fun x hx => HUSB.out x (List.mem_of_mem_drop hx), by simp, by simp, HST.out.2.1, by simpa [val] using HST.out.1, ?_, ?_, hb6⟩
    · simpa using hownu
    · simpa using hownq
  case round =>
    clear hownu hownq hb6
    obtain ⟨k, A, R, qs, hk, rfl, hA, hR, bA, bR, bQ, hql, hRV, hsum, hownu, hownq, hb⟩ := hrel
    have HA := Lib.hid hA; have HR := Lib.hid hR; have BA := Lib.hid bA; have BR := Lib.hid bR; have BQ := Lib.hid bQ; have HQL := Lib.hid hql; have HRV := Lib.hid hRV; have HSUM := Lib.hid hsum
    clear hA hR bA bR bQ hql hRV hsum
    rcases k with _ | k
    · obtain rfl : A = [] := List.length_eq_zero_iff.1 HA.out
      have hde := div_end a b s (val 1000000000 R) (val 1000000000 qs) hs1 (by have := HSUM.out; simpa [val] using this) HRV.out
      have HDE := Lib.hid hde; clear hde
      have hsl : Sl eU wr (.slice (some ⟨w2.heap.size, 0, none⟩) (L + 1) (L + 1)) (R ++ List.replicate K 0) := Sl.ofOwns (n := L + 1) (by simpa using hownu)
      have hslq : Sl eU wr (.slice (some ⟨gq, 0, none⟩) K K) qs := Sl.ofOwns (n := K) (by simpa using hownq)
      have HSLQ := Lib.hid hslq; clear hslq
      clear hownu hownq
      go_wp2_with fail
      refine (trimmed_any _ _ _ hsl).mono ?_
      rintro e w8 ⟨v8, rfl, hs8, rfl⟩
      rw [trim_zeros] at hs8
      have HS8 := Lib.hid hs8; clear hs8 hsl
      go_wp2_with fail
      refine (short_any wr v8 _ s HS8.out (fun y hy => BR.out y (mem_trim hy)) hs1 (by omega) (by have := trim_le R; have := HR.out; omega)).mono ?_
      rintro e w9 ⟨v9, rfl, ⟨q9, r9, rfl, hq9, -⟩, hb9⟩
      rw [val_trim, HDE.out.2] at hq9
      have HQ9 := Lib.hid hq9; clear hq9
      have HSLQ9 := Lib.hid (HSLQ.out.below hb9 (Nat.le_refl _))
      go_wp2_with fail
      refine (trimmed_any _ _ _ HSLQ9.out).mono ?_
      rintro e w10 ⟨v10, rfl, hs10, rfl⟩
      rw [trim_of 1000000000 qs (a / b) (by omega) BQ.out HDE.out.1] at hs10
      have HS10 := Lib.hid hs10; clear hs10
      go_wp2
      go_ret2
      exact ⟨_, rfl, ⟨_, _, rfl, HS10.out, HQ9.out⟩, HB02.out.trans ((hb.trans (hb9.mono hb.size)).mono HB02.out.size)⟩
    · rcases list_snoc A with hA0 | ⟨A', x, hA1⟩
      · have := HA.out; rw [hA0] at this; simp at this
      · subst hA1
        have hA' : A'.length = k := by have := HA.out; simpa using this
        have hbx : x < 1000000000 := BA.out x (by simp)
        have hsz := hb.size
        have hown2 : wr.ownsRow w2.heap.size 75 1 (.slice (some ⟨w2.heap.size, 0, none⟩) (L + 1) (L + 1)) (L + 1) ((A' ++ ((x :: R) ++ List.replicate (K - (k + 1)) 0)).map eU) := by simpa using hownu
        have hUV : val 1000000000 (x :: R) < 1000000000 * val 1000000000 (digs 1000000000 (b * s)) := by
          rw [val_digs _ _ (by omega), val]
          have := HRV.out
          have h3 : 1000000000 * (val 1000000000 R + 1) ≤ 1000000000 * (b * s) := Nat.mul_le_mul_left _ this
          omega
        have hstep := fun cu h1 h2 => step_any w2 wr _ w2.heap.size (L + 1) (L + 1) w2.heap.size cu m A' (x :: R) (List.replicate (K - (k + 1)) 0) (digs 1000000000 (b * s)) HV.out hb (Nat.le_refl _) hown2
          (by intro y hy; rcases List.mem_cons.1 hy with h | h; exact h ▸ hbx; exact BR.out y h) (digs_lt _ _ (by omega)) HLV.out.symm (by have := HR.out; simp; omega) h1 h2 (by omega) HN.out.2.2.2.2.2.1 hUV
        rw [hA', HLV.out] at hstep
        have HSTEP := Lib.hid hstep
        have HA' := Lib.hid hA'
        clear hstep hown2 hUV hA'
        have ek : (((k + 1 : Nat) : Int) - 1) = (k : Int) := by omega
        rw [ek]
        clear ek
        go_wp2_with fail
        rw [show k + (m + 2) + 1 - k = m + 3 by omega]
        refine (HSTEP.out (L + 1 - k) (by have := HR.out; simp; omega) (by unfold maxLen; omega)).mono ?_
        rintro e w7 ⟨v7, rfl, us', rfl, hv7, hb7, hl7, hown7, hkg⟩
        rw [val_digs _ _ (by omega)] at hv7
        have hlt7 : val 1000000000 us' < b * s := by rw [hv7]; exact Nat.mod_lt _ (by have := HRV.out; omega)
        have hBs : b * s < 1000000000 ^ (m + 2) := by have := lt_pow_len 1000000000 (b * s) (by omega); rw [HLV.out] at this; exact this
        obtain ⟨R', hus', hR'⟩ := last_zero 1000000000 us' (m + 2) hl7 (by omega)
        have hownq7 := own_kept hownq hkg.2 (by omega)
        have hkq : k < (List.replicate (k + 1) 0 ++ qs).length := by simp; omega
        have hcu := (own_get hownq7 hkq).1
        have hfu := (own_get hownq7 hkq).2
        have hb7' := hkg.1
        have hsU : val 1000000000 (x :: R) = x + 1000000000 * val 1000000000 R := rfl
        have hdm := Nat.div_add_mod (val 1000000000 (x :: R)) (b * s)
        have hqB : val 1000000000 (x :: R) / (b * s) < 1000000000 := by
          rw [Nat.div_lt_iff_lt_mul (by have := HRV.out; omega), hsU]
          have h3 : 1000000000 * (val 1000000000 R + 1) ≤ 1000000000 * (b * s) := Nat.mul_le_mul_left _ HRV.out
          omega
        have hnew := div_step 1000000000 (b * s) (a * s) (val 1000000000 A') x (val 1000000000 R) (val 1000000000 (x :: R)) (val 1000000000 (x :: R) / (b * s)) (val 1000000000 us') (val 1000000000 qs) k
          (by have := HSUM.out; rw [val_snoc, HA'.out] at this; exact this) hsU (by rw [hv7, Nat.mul_comm]; exact hdm.symm)
        rw [hus', val_snoc, Nat.mul_zero, Nat.add_zero] at hnew hlt7
        have hownu7 : w7.ownsRow w2.heap.size 75 1 (.slice (some ⟨w2.heap.size, 0, none⟩) (L + 1) (L + 1)) (L + 1) ((A' ++ (R' ++ List.replicate (K - k) 0)).map eU) := by
          have e : K - k = (K - (k + 1)) + 1 := by omega
          rw [e, List.replicate_succ]
          rw [hus'] at hown7
          simpa using hown7
        have hbR' : ∀ y ∈ R', y < 1000000000 := fun y hy => hb7 y (by rw [hus']; simp [hy])
        have hqI : ((val 1000000000 (x :: R) / val 1000000000 (digs 1000000000 (b * s)) : Nat) : Int) = ((val 1000000000 (x :: R) / (b * s) : Nat) : Int) := by rw [val_digs _ _ (by omega)]
        rw [hqI]
        obtain ⟨qd, hqd⟩ : ∃ qd, qd = val 1000000000 (x :: R) / (b * s) := ⟨_, rfl⟩
        rw [← hqd] at hnew hqB ⊢
        have HNEW := Lib.hid hnew; have HLT7 := Lib.hid hlt7; have HBR := Lib.hid hbR'; have HR' := Lib.hid hR'
        clear hnew hlt7 hbR' hqd hqI hdm hsU hBs hv7 hb7 hl7 hus' hR' hkg hown7 hownq hownu hb HSTEP
        go_wp2
        go_roundw
        case rel =>
          have R2 := own_put hownq7 hb7' (show w2.heap.size ≤ gq by omega) k qd _ rfl
          rw [fill_down] at R2
          have R1 := own_kept hownu7 (hownq7.stored k (.int .u32 (qd : Int))).2 (by omega)
          exact ⟨k, A', R', qd :: qs, by omega, rfl, HA'.out, HR'.out, fun y hy => BA.out y (by simp [hy]), HBR.out, fun y hy => by rcases List.mem_cons.1 hy with h | h; exact h ▸ hqB; exact BQ.out y h,
            by have := HQL.out; simp; omega, HLT7.out, HNEW.out, R1, R2.1, R2.2⟩
        case measure => simp [intOf]

/-- 'divided', for all natural numbers. -/
theorem divided_any (w : World) (x y : Value) (a b : Nat) (hx : Sl eU w x (digs 1000000000 a)) (hy : Sl eU w y (digs 1000000000 b)) (hb : 0 < b)
    (hl : (digs 1000000000 a).length ≤ 1000000000000) (hl' : (digs 1000000000 b).length ≤ 1000000000000) :
    Calls Tryz.prog 59 #[x, y] w (Rets fun v w' => QuoRem a b v w' ∧ Below w.heap.size w w') := by
  rcases Nat.lt_or_ge b 1000000000 with h1 | h1
  · exact divided_one w x y a b hx hy hb (by omega) h1
  · rcases Nat.lt_or_ge a b with h2 | h2
    · exact divided_less w x y a b hx hy (by omega) (by omega) h1 h2
    · exact divided_main w x y a b hx hy hl hl' h1 h2
end Go.Proofs.YtcjcknncajinpaaGreatDoor
