/- The walks of the reference's Down, Rest, Common, Divide and Bezout. -/
import Derived.Test.YtcjcknncajinpaaGreatDoorRQ
import Derived.Test.YtcjcknncajinpaaGreatDoorRA
import Derived.Test.YtcjcknncajinpaaGreatDoorRS
import Derived.Test.YtcjcknncajinpaaGreatDoorLI
import Derived.Test.YtcjcknncajinpaaGreatDoorLQ
import Derived.Test.YtcjcknncajinpaaGreatDoorSM
namespace Go.Proofs.YtcjcknncajinpaaGreatDoor
open Go.RowKit
set_option maxRecDepth 100000

theorem fdiv_cases (x y : Int) (h : y ≠ 0) : (decide (x < 0) = decide (y < 0) → Int.fdiv x y = ((x.natAbs / y.natAbs : Nat) : Int)) ∧
    (decide (x < 0) ≠ decide (y < 0) → (x.natAbs % y.natAbs = 0 → Int.fdiv x y = -((x.natAbs / y.natAbs : Nat) : Int)) ∧ (0 < x.natAbs % y.natAbs → Int.fdiv x y = -((x.natAbs / y.natAbs : Nat) : Int) - 1)) := by
  have hd := Nat.div_add_mod x.natAbs y.natAbs
  have hm := Nat.mod_lt x.natAbs (y := y.natAbs) (by omega)
  have hd' : (y.natAbs : Int) * ((x.natAbs / y.natAbs : Nat) : Int) + ((x.natAbs % y.natAbs : Nat) : Int) = (x.natAbs : Int) := by exact_mod_cast hd
  generalize x.natAbs / y.natAbs = q at *
  generalize x.natAbs % y.natAbs = r at *
  have uniq : ∀ r p : Int, r + y * p = x → (0 < y → 0 ≤ r ∧ r < y) → (y < 0 → y < r ∧ r ≤ 0) → Int.fdiv x y = p := by
    intro r p e hp hn
    rcases Int.lt_or_gt_of_ne h with h0 | h0
    · exact ((Int.fdiv_fmod_unique' (a := x) (b := y) (r := r) (q := p) h0).2 ⟨e, (hn h0).1, (hn h0).2⟩).1
    · exact ((Int.fdiv_fmod_unique (a := x) (b := y) (r := r) (q := p) h0).2 ⟨e, (hp h0).1, (hp h0).2⟩).1
  have hyq : y < 0 → (y.natAbs : Int) * (q : Int) = -(y * q) := fun h0 => by rw [show (y.natAbs : Int) = -y by omega, Int.neg_mul]
  have hyq' : 0 < y → (y.natAbs : Int) * (q : Int) = y * q := fun h0 => by rw [show (y.natAbs : Int) = y by omega]
  have e1 : y * (-(q : Int)) = -(y * q) := Int.mul_neg _ _
  have e2 : y * (-(q : Int) - 1) = -(y * q) - y := by rw [Int.mul_sub, e1, Int.mul_one]
  refine ⟨fun hs => ?_, fun hs => ⟨fun h0 => ?_, fun h0 => ?_⟩⟩
  · have hs2 : (x < 0 ↔ y < 0) := by simpa using hs
    by_cases hx : x < 0
    · have hy := hs2.1 hx
      have := hyq hy
      exact uniq (-(r : Int)) q (by omega) (by omega) (by omega)
    · have hy : 0 < y := by have : ¬ y < 0 := fun h => hx (hs2.2 h); omega
      have := hyq' hy
      exact uniq r q (by omega) (by omega) (by omega)
  · have hs2 : ¬ (x < 0 ↔ y < 0) := by simpa using hs
    rcases Int.lt_or_gt_of_ne h with hy | hy
    · have := hyq hy
      have hx : ¬ x < 0 := fun hx => hs2 ⟨fun _ => hy, fun _ => hx⟩
      exact uniq 0 (-(q : Int)) (by omega) (by omega) (by omega)
    · have := hyq' hy
      have hx : x < 0 := by
        rcases Int.lt_or_le x 0 with hx | hx
        · exact hx
        · exact absurd ⟨fun h => by omega, fun h => by omega⟩ hs2
      exact uniq 0 (-(q : Int)) (by omega) (by omega) (by omega)
  · have hs2 : ¬ (x < 0 ↔ y < 0) := by simpa using hs
    rcases Int.lt_or_gt_of_ne h with hy | hy
    · have := hyq hy
      have hx : ¬ x < 0 := fun hx => hs2 ⟨fun _ => hy, fun _ => hx⟩
      exact uniq (r + y) (-(q : Int) - 1) (by omega) (by omega) (by omega)
    · have := hyq' hy
      have hx : x < 0 := by
        rcases Int.lt_or_le x 0 with hx | hx
        · exact hx
        · exact absurd ⟨fun h => by omega, fun h => by omega⟩ hs2
      exact uniq (-(r : Int) + y) (-(q : Int) - 1) (by omega) (by omega) (by omega)
theorem sg_true (n : Nat) : sg true n = -(n : Int) := rfl
theorem sg_false (n : Nat) : sg false n = (n : Int) := rfl
theorem less_one (w : World) (x : Int) (hx : dn x ≤ 100000) :
    Calls Tryz.prog 48 #[.string (txt x), .string ⟨#[49]⟩] w (Rets fun v w' => v = .string (txt (x - 1)) ∧ Below w.heap.size w w') := by
  rw [g1.eq]; exact Less_any w x 1 hx (by have := g1.dn; omega)
theorem dn_nat_le {m n : Nat} (h : m ≤ n) : dn (m : Int) ≤ dn (n : Int) := dn_le (by omega)
theorem dn_abs (x : Int) : dn (x.natAbs : Int) = dn x := by unfold dn; rw [Int.natAbs_natCast]

theorem digs10_zero (r : Nat) : (digs 10 r).length = 0 ↔ r = 0 := by rw [List.length_eq_zero_iff, digs_nil (by omega)]
set_option maxHeartbeats 2000000 in
theorem Down_any (w : World) (x y : Int) (hx : dn x ≤ 90000) (hy : dn y ≤ 90000) (h0 : y ≠ 0) :
    Calls Tryz.prog 32 #[.string (txt x), .string (txt y)] w (Rets fun v w' => v = .string (txt (Int.fdiv x y)) ∧ Below w.heap.size w w') := by
  have hl := itoa_len x
  have hl' := itoa_len y
  have hc := fdiv_cases x y h0
  have hq : (digs 10 (x.natAbs / y.natAbs)).length ≤ 90000 := Nat.le_trans (digs_len_mono 10 (by omega) (Nat.div_le_self _ _)) hx
  have hqd : dn (-((x.natAbs / y.natAbs : Nat) : Int)) ≤ 90000 := by unfold dn; rw [Int.natAbs_neg, Int.natAbs_natCast]; exact hq
  have HL1 := Lib.hid hl; have HL2 := Lib.hid hl'; have HX1 := Lib.hid hx; have HX2 := Lib.hid hy; have HQ := Lib.hid hq; have HQD := Lib.hid hqd
  have HY0 := Lib.hid (show 0 < y.natAbs by omega)
  obtain ⟨m, hm⟩ : ∃ m, decide (x < 0) = m := ⟨_, rfl⟩
  obtain ⟨m', hm'⟩ : ∃ m, decide (y < 0) = m := ⟨_, rfl⟩
  rw [hm, hm'] at hc
  have HM := Lib.hid hm; have HM' := Lib.hid hm'
  clear hl hl' hx hy hq hm hm' h0 hqd
  by_cases hr : x.natAbs % y.natAbs = 0
  · have HE : Hid (sg (!(m == m')) (x.natAbs / y.natAbs) = Int.fdiv x y) := Lib.hid (by
      by_cases hs : m = m'
      · rw [hc.1 hs, hs]; simp [sg_false]
      · have hb : (m == m') = false := by simpa using hs
        rw [(hc.2 hs).1 hr, hb]; rfl)
    have HR := Lib.hid hr
    clear hc hr
    go_enter Tryz.func32, Tryz.ntmps32
    go_wp2_with (first
      | (go_at_call_of 54 (Value.string (txt x)); (with_reducible refine (digits_any _ x (by have := HL1.out; have := HX1.out; omega)).mono ?_); rintro e w1 ⟨v1, rfl, hs1, hb1⟩; have HS1 := Lib.hid hs1; clear hs1)
      | (go_at_call_of 54 (Value.string (txt y)); (with_reducible refine (digits_any _ y (by have := HL2.out; have := HX2.out; omega)).mono ?_); rintro e w2 ⟨v2, rfl, hs2, hb2⟩; have HS2 := Lib.hid hs2; have b2 := hb1.trans (hb2.mono hb1.size); clear hs2)
      | (go_at_call 64; (with_reducible refine (rdivided_any _ _ _ x.natAbs y.natAbs (HS1.out.below hb2 (Nat.le_refl _)) HS2.out (by have := HX1.out; unfold dn at this; omega) (by have := HX2.out; unfold dn at this; omega) HY0.out).mono ?_); rintro e w4 ⟨v4, rfl, vq, ar, nr, cr, rfl, hsq, hsr, hb4⟩; have HSQ := Lib.hid hsq; have hnr : nr = 0 := (by rw [hsr.len.1, HR.out, digs_zero]; rfl); subst hnr; have b4 := b2.trans (hb4.mono b2.size); clear hsq hsr)
      | (go_at_call_of 55 (Value.string (txt x)); (with_reducible refine (Minus_any _ x).mono ?_); rintro e w3 ⟨v, rfl, rfl, rfl⟩; rw [HM.out])
      | (go_at_call_of 55 (Value.string (txt y)); (with_reducible refine (Minus_any _ y).mono ?_); rintro e w3 ⟨v, rfl, rfl, rfl⟩; rw [HM'.out])
      | (go_at_call 53; refine (rtext_any _ _ (x.natAbs / y.natAbs) (!(m == m')) HSQ.out (by have := HQ.out; omega)).mono ?_; rintro e w5 ⟨v, rfl, rfl, hb5⟩; rw [HE.out]; have b5 := b4.trans (hb5.mono b4.size)))
    go_ret
    exact ⟨_, rfl, rfl, b5⟩
  · by_cases hs : m = m'
    · have HE := Lib.hid (show sg false (x.natAbs / y.natAbs) = Int.fdiv x y by rw [sg_false, hc.1 hs])
      have HR := Lib.hid hr
      subst hs
      clear hc hr
      go_enter Tryz.func32, Tryz.ntmps32
      go_wp2_with (first
      | (go_at_call_of 54 (Value.string (txt x)); (with_reducible refine (digits_any _ x (by have := HL1.out; have := HX1.out; omega)).mono ?_); rintro e w1 ⟨v1, rfl, hs1, hb1⟩; have HS1 := Lib.hid hs1; clear hs1)
      | (go_at_call_of 54 (Value.string (txt y)); (with_reducible refine (digits_any _ y (by have := HL2.out; have := HX2.out; omega)).mono ?_); rintro e w2 ⟨v2, rfl, hs2, hb2⟩; have HS2 := Lib.hid hs2; have b2 := hb1.trans (hb2.mono hb1.size); clear hs2)
      | (go_at_call 64; (with_reducible refine (rdivided_any _ _ _ x.natAbs y.natAbs (HS1.out.below hb2 (Nat.le_refl _)) HS2.out (by have := HX1.out; unfold dn at this; omega) (by have := HX2.out; unfold dn at this; omega) HY0.out).mono ?_); rintro e w4 ⟨v4, rfl, vq, ar, nr, cr, rfl, hsq, hsr, hb4⟩; have HSQ := Lib.hid hsq; have hnr : 0 < nr := (by rw [hsr.len.1]; have := mt (digs10_zero (x.natAbs % y.natAbs)).1 HR.out; omega); have b4 := b2.trans (hb4.mono b2.size); clear hsq hsr)
      | (go_at_call_of 55 (Value.string (txt x)); (with_reducible refine (Minus_any _ x).mono ?_); rintro e w3 ⟨v, rfl, rfl, rfl⟩; rw [HM.out])
      | (go_at_call_of 55 (Value.string (txt y)); (with_reducible refine (Minus_any _ y).mono ?_); rintro e w3 ⟨v, rfl, rfl, rfl⟩; rw [HM'.out])
      | (go_at_call 53; refine (rtext_any _ _ (x.natAbs / y.natAbs) false HSQ.out (by have := HQ.out; omega)).mono ?_; rintro e w5 ⟨v, rfl, rfl, hb5⟩; rw [HE.out]; have b5 := b4.trans (hb5.mono b4.size)))
      go_ret
      exact ⟨_, rfl, rfl, b5⟩
    · obtain ⟨z, hz⟩ : ∃ z : Int, -((x.natAbs / y.natAbs : Nat) : Int) = z := ⟨_, rfl⟩
      have HE := Lib.hid (show sg true (x.natAbs / y.natAbs) = z from hz)
      have HE2 := Lib.hid (show z - 1 = Int.fdiv x y by rw [(hc.2 hs).2 (by omega), hz])
      have HQD : Hid (dn z ≤ 90000) := Lib.hid (by rw [← hz]; exact HQD.out)
      clear hz
      have hne : (m == m') = false := by simpa using hs
      have HR := Lib.hid hr
      clear hc hr hs
      go_enter Tryz.func32, Tryz.ntmps32
      go_wp2_with (first
      | (go_at_call_of 54 (Value.string (txt x)); (with_reducible refine (digits_any _ x (by have := HL1.out; have := HX1.out; omega)).mono ?_); rintro e w1 ⟨v1, rfl, hs1, hb1⟩; have HS1 := Lib.hid hs1; clear hs1)
      | (go_at_call_of 54 (Value.string (txt y)); (with_reducible refine (digits_any _ y (by have := HL2.out; have := HX2.out; omega)).mono ?_); rintro e w2 ⟨v2, rfl, hs2, hb2⟩; have HS2 := Lib.hid hs2; have b2 := hb1.trans (hb2.mono hb1.size); clear hs2)
      | (go_at_call 64; (with_reducible refine (rdivided_any _ _ _ x.natAbs y.natAbs (HS1.out.below hb2 (Nat.le_refl _)) HS2.out (by have := HX1.out; unfold dn at this; omega) (by have := HX2.out; unfold dn at this; omega) HY0.out).mono ?_); rintro e w4 ⟨v4, rfl, vq, ar, nr, cr, rfl, hsq, hsr, hb4⟩; have HSQ := Lib.hid hsq; have hnr : 0 < nr := (by rw [hsr.len.1]; have := mt (digs10_zero (x.natAbs % y.natAbs)).1 HR.out; omega); have b4 := b2.trans (hb4.mono b2.size); clear hsq hsr)
      | (go_at_call_of 55 (Value.string (txt x)); (with_reducible refine (Minus_any _ x).mono ?_); rintro e w3 ⟨v, rfl, rfl, rfl⟩; rw [HM.out])
      | (go_at_call_of 55 (Value.string (txt y)); (with_reducible refine (Minus_any _ y).mono ?_); rintro e w3 ⟨v, rfl, rfl, rfl⟩; rw [HM'.out])
      | (go_at_call 53; refine (rtext_any _ _ (x.natAbs / y.natAbs) true HSQ.out (by have := HQ.out; omega)).mono ?_; rintro e w5 ⟨v, rfl, rfl, hb5⟩; rw [HE.out]; have b5 := b4.trans (hb5.mono b4.size))
      | (go_at_call 48; (with_reducible refine (less_one _ z (by have := HQD.out; omega)).mono ?_); rintro e w6 ⟨v, rfl, rfl, hb6⟩; rw [HE2.out]; have b6 := b5.trans (hb6.mono b5.size)))
      go_ret
      exact ⟨_, rfl, rfl, b6⟩

theorem dn_fmod2 (x y : Int) (h : y ≠ 0) : dn (Int.fmod x y) ≤ dn y := dn_fmod x y h
set_option maxHeartbeats 1000000 in
theorem Rest_any (w : World) (x y : Int) (hx : dn x ≤ 30000) (hy : dn y ≤ 30000) (h0 : y ≠ 0) :
    Calls Tryz.prog 33 #[.string (txt x), .string (txt y)] w (Rets fun v w' => v = .string (txt (Int.fmod x y)) ∧ Below w.heap.size w w') := by
  have hd := dn_fdiv x y h0
  have hm := dn_mul y (Int.fdiv x y)
  have HE := Lib.hid (show x - y * Int.fdiv x y = Int.fmod x y by have := Int.fmod_add_mul_fdiv x y; omega)
  have HX := Lib.hid hx; have HY := Lib.hid hy; have HD := Lib.hid hd; have HM := Lib.hid hm; have H0 := Lib.hid h0
  clear hx hy hd hm h0
  go_enter Tryz.func33, Tryz.ntmps33
  go_wp2_with (first
    | (go_at_call 32; (with_reducible refine (Down_any _ x y (by have := HX.out; omega) (by have := HY.out; omega) H0.out).mono ?_); rintro e w1 ⟨v, rfl, rfl, hb1⟩)
    | (go_at_call 49; (with_reducible refine (Times_any _ y (Int.fdiv x y) (by have := HY.out; omega) (by have := HX.out; have := HY.out; have := HD.out; omega)).mono ?_); rintro e w2 ⟨v, rfl, rfl, hb2⟩; have b2 := hb1.trans (hb2.mono hb1.size))
    | (go_at_call 48; (with_reducible refine (Less_any _ x (y * Int.fdiv x y) (by have := HX.out; omega) (by have := HX.out; have := HY.out; have := HD.out; have := HM.out; omega)).mono ?_); rintro e w3 ⟨v, rfl, rfl, hb3⟩; rw [HE.out]; have b3 := b2.trans (hb3.mono b2.size)))
  go_ret
  exact ⟨_, rfl, rfl, b3⟩

open Classical in
/-- The integer whose text a value is. -/
noncomputable def rdZ (v : Value) : Int := if h : ∃ z, v = .string (txt z) then Classical.choose h else 0
theorem rdZ_eq (z : Int) : rdZ (.string (txt z)) = z := by
  have hex : ∃ y, Value.string (txt z) = .string (txt y) := ⟨z, rfl⟩
  unfold rdZ
  rw [dif_pos hex]
  have h := Classical.choose_spec hex
  injection h with h
  exact (txt_inj h).symm
theorem txt_z0 : ((txt 0).toList == [48]) = true := by rw [txt_list, itoa0]; rfl

set_option maxHeartbeats 1000000 in
theorem Common_any (w : World) (x y : Int) (hx : dn x ≤ 30000) (hy : dn y ≤ 30000) :
    Calls Tryz.prog 45 #[.string (txt x), .string (txt y)] w (Rets fun v w' => v = .string (txt ((Nat.gcd x.natAbs y.natAbs : Nat) : Int)) ∧ Below w.heap.size w w') := by
  have HX := Lib.hid hx; have HY := Lib.hid hy
  have HZ0 := Lib.hid txt_z0
  clear hx hy
  go_enter Tryz.func45, Tryz.ntmps45
  go_wp2_with (first
    | (go_at_call_of 23 (Value.string (txt x)); (with_reducible refine (Positive_any _ x (by have := HX.out; omega)).mono ?_); rintro e w1 ⟨v, rfl, rfl, hb1⟩)
    | (go_at_call_of 23 (Value.string (txt y)); (with_reducible refine (Positive_any _ y (by have := HY.out; omega)).mono ?_); rintro e w2 ⟨v, rfl, rfl, hb2⟩; have b2 := hb1.trans (hb2.mono hb1.size)))
  go_loopw [0, 1] (fun a b wr => ∃ m k : Nat, Hid (a = .string (txt m)) ∧ Hid (b = .string (txt k)) ∧ Hid (Nat.gcd m k = Nat.gcd x.natAbs y.natAbs) ∧ Hid (dn (m : Int) ≤ 30000) ∧ Hid (dn (k : Int) ≤ 30000) ∧ Below w.heap.size w wr) (fun _ b _ => (rdZ b).natAbs)
  case atStart => exact ⟨x.natAbs, y.natAbs, Lib.hid rfl, Lib.hid rfl, Lib.hid rfl, Lib.hid (by rw [dn_abs]; exact HX.out), Lib.hid (by rw [dn_abs]; exact HY.out), b2⟩
  case round =>
    obtain ⟨m, k, ha, hk, hg, h1, h2, hb⟩ := hrel
    obtain rfl := ha.out
    obtain rfl := hk.out
    clear ha hk
    by_cases h0 : k = 0
    · obtain ⟨kz, hkz⟩ : ∃ z : Int, (k : Int) = z ∧ z = 0 := ⟨_, rfl, by omega⟩
      have hz0 : ((txt (k : Int)).toList == [48]) = true := by rw [h0]; exact txt_z0
      have HG := Lib.hid (show m = Nat.gcd x.natAbs y.natAbs by rw [← hg.out, h0, Nat.gcd_zero_right])
      clear hkz h0
      go_wp2
      go_ret
      exact ⟨_, rfl, by rw [← HG.out]; rfl, hb⟩
    · have hne : ((txt (k : Int)).toList == [48]) = false := txt_ne0 (by omega)
      have HE := Lib.hid (show Int.fmod (m : Int) (k : Int) = ((m % k : Nat) : Int) by rw [Int.fmod_eq_emod_of_nonneg _ (by omega)]; rfl)
      have H0 := Lib.hid h0
      clear h0
      go_wp2_with (go_at_call 33; (with_reducible refine (Rest_any _ (m : Int) (k : Int) h1.out h2.out (by have := H0.out; omega)).mono ?_); rintro e w3 ⟨v, rfl, rfl, hb3⟩; rw [HE.out])
      go_roundw
      case rel => exact ⟨k, m % k, Lib.hid rfl, Lib.hid rfl, Lib.hid (by rw [← hg.out, Nat.gcd_comm m k, Nat.gcd_rec k m, Nat.gcd_comm]), h2, Lib.hid (Nat.le_trans (dn_nat_le (Nat.le_of_lt (Nat.mod_lt m (by have := H0.out; omega)))) h2.out), hb.trans (hb3.mono hb.size)⟩
      case measure => rw [rdZ_eq, rdZ_eq]; have := Nat.mod_lt m (y := k) (by have := H0.out; omega); omega

set_option maxHeartbeats 1000000 in
theorem rDivide_err (w : World) (s t : ByteArray) (hs : s.size ≤ 1000000) (ht : t.size ≤ 1000000) (h : chks [s, t] ≠ 0) :
    Calls Tryz.prog 9 #[.string s, .string t] w (Rets fun v w' => v = .tuple #[.string ⟨#[]⟩, .string ⟨#[]⟩, .int .i64 (chks [s, t])] ∧ Below w.heap.size w w') := by
  have hne : (chks [s, t] != 0) = true := by simp [h]
  clear h
  go_enter Tryz.func9, Tryz.ntmps9
  go_wp2_with (go_at_call 31; (with_reducible refine (rchecked_any _ s t hs ht).mono ?_); rintro e w1 ⟨v, rfl, rfl, rfl⟩)
  refine bodyPost_ret (v := .tuple #[.string ⟨#[]⟩, .string ⟨#[]⟩, .int .i64 (chks [s, t])]) (by simp [results, Tryz.results9, go_sem]) rfl ?_
  exact ⟨_, rfl, rfl, Below.refl _ _⟩
set_option maxHeartbeats 1000000 in
theorem rDivide_zero (w : World) (x : Int) (hx : Good (txt x) x) :
    Calls Tryz.prog 9 #[.string (txt x), .string (txt 0)] w (Rets fun v w' => v = .tuple #[.string ⟨#[]⟩, .string ⟨#[]⟩, .int .i64 10] ∧ Below w.heap.size w w') := by
  have hg0 : Good (txt 0) 0 := by rw [txt0]; exact g0
  have h0 : chks [txt x, txt 0] = 0 := by rw [chks_pair, hx.chk, hg0.chk]; rfl
  have HX := Lib.hid hx; have H0 := Lib.hid h0; have HG := Lib.hid hg0.size
  have hz0 := txt_z0
  clear hx h0 hg0
  go_enter Tryz.func9, Tryz.ntmps9
  go_wp2_with (go_at_call 31; (with_reducible refine (rchecked_any _ _ _ (by have := HX.out.size; omega) (by have := HG.out; omega)).mono ?_); rintro e w1 ⟨v, rfl, rfl, rfl⟩; rw [H0.out])
  refine bodyPost_ret (v := .tuple #[.string ⟨#[]⟩, .string ⟨#[]⟩, .int .i64 10]) (by simp [results, Tryz.results9, go_sem]) rfl ?_
  exact ⟨_, rfl, rfl, Below.refl _ _⟩
set_option maxHeartbeats 1000000 in
theorem rDivide_ok (w : World) (x y : Int) (hx : Good (txt x) x) (hy : Good (txt y) y) (hy0 : y ≠ 0) :
    Calls Tryz.prog 9 #[.string (txt x), .string (txt y)] w (Rets fun v w' => v = .tuple #[.string (txt (Int.fdiv x y)), .string (txt (Int.fmod x y)), .int .i64 0] ∧ Below w.heap.size w w') := by
  have h0 : chks [txt x, txt y] = 0 := by rw [chks_pair, hx.chk, hy.chk]; rfl
  have HX := Lib.hid hx; have HY := Lib.hid hy; have H0 := Lib.hid h0; have HY0 := Lib.hid hy0
  have hne := txt_ne0 hy0
  clear hx hy h0 hy0
  go_enter Tryz.func9, Tryz.ntmps9
  go_wp2_with (first
    | (go_at_call 31; (with_reducible refine (rchecked_any _ _ _ (by have := HX.out.size; omega) (by have := HY.out.size; omega)).mono ?_); rintro e w1 ⟨v, rfl, rfl, rfl⟩; rw [H0.out])
    | (go_at_call 32; (with_reducible refine (Down_any _ x y (by have := HX.out.dn; omega) (by have := HY.out.dn; omega) HY0.out).mono ?_); rintro e w2 ⟨v, rfl, rfl, hb2⟩)
    | (go_at_call 33; (with_reducible refine (Rest_any _ x y (by have := HX.out.dn; omega) (by have := HY.out.dn; omega) HY0.out).mono ?_); rintro e w3 ⟨v, rfl, rfl, hb3⟩))
  refine bodyPost_ret (v := .tuple #[.string (txt (Int.fdiv x y)), .string (txt (Int.fmod x y)), .int .i64 0]) (by simp [results, Tryz.results9, go_sem]) rfl ?_
  exact ⟨_, rfl, rfl, hb2.trans (hb3.mono hb2.size)⟩
end Go.Proofs.YtcjcknncajinpaaGreatDoor
