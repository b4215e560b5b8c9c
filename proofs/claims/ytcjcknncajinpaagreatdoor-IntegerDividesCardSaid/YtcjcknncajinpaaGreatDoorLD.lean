/- The walk of the law IntegerDivides. -/
import Derived.Test.YtcjcknncajinpaaGreatDoorL1
import Derived.Test.YtcjcknncajinpaaGreatDoorL2
import Derived.Test.YtcjcknncajinpaaGreatDoorRB
import Derived.Test.YtcjcknncajinpaaGreatDoorSB
namespace Go.Proofs.YtcjcknncajinpaaGreatDoor
open Go.RowKit
set_option maxRecDepth 100000

theorem good2 {s t : ByteArray} (h : chks [s, t] = 0) : ∃ x y, Good s x ∧ Good t y := by
  rw [chks_pair] at h
  by_cases h3 : chk s.data.toList = 0
  · rw [if_pos h3] at h
    obtain ⟨x, hx⟩ := good_of h3
    obtain ⟨y, hy⟩ := good_of h
    exact ⟨x, y, hx, hy⟩
  · rw [if_neg h3] at h; exact absurd h h3
theorem few_sm {s : ByteArray} {z : Int} (hz : Good s z) (h : few s = true) : dn z ≤ 60 := by
  have h1 : s.size ≤ 60 := by simp [few, hz.chk] at h; exact h
  have h2 := digs10_len z.natAbs
  have h3 : (Lib.decDigits z.natAbs).length ≤ (Lib.itoa z).length := by rw [itoa_cases]; split <;> simp
  have h4 : (Lib.itoa z).length = s.size := by rw [← hz.1, Lib.size_eq]
  unfold dn; omega
/-- What the two packages' quotients and remainders answer. -/
theorem div_both (s t : ByteArray) (hs : few s = true) (ht : few t = true) : ∃ (Q R : ByteArray) (E : Int),
    (∀ w, Env w → Calls Tryz.prog 7 #[.string s, .string t] w (Rets fun v w' => v = .tuple #[.string Q, .int .i64 E] ∧ Below w.heap.size w w')) ∧
    (∀ w, Env w → Calls Tryz.prog 8 #[.string s, .string t] w (Rets fun v w' => v = .tuple #[.string R, .int .i64 E] ∧ Below w.heap.size w w')) ∧
    (∀ w, Calls Tryz.prog 9 #[.string s, .string t] w (Rets fun v w' => v = .tuple #[.string Q, .string R, .int .i64 E] ∧ Below w.heap.size w w')) := by
  have h1 := few_size hs
  have h2 := few_size ht
  by_cases h : chks [s, t] = 0
  · obtain ⟨x, y, hx, hy⟩ := good2 h
    have dx := few_sm hx hs
    have dy := few_sm hy ht
    obtain rfl := hx.eq
    obtain rfl := hy.eq
    by_cases hy0 : y = 0
    · subst hy0
      exact ⟨_, _, _, fun w _ => Quo_zero w _ _ x hx hy, fun w _ => Rem_zero w _ _ x hx hy, fun w => rDivide_zero w x hx⟩
    · refine ⟨txt (Int.fdiv x y), txt (Int.fmod x y), 0, fun w he => ?_, fun w he => ?_, fun w => rDivide_ok w x y hx hy hy0⟩
      · have hb : big (Int.fdiv x y) = false := big_dn (by have := dn_fdiv x y hy0; omega)
        have := Quo_ok w _ _ x y hx hy hy0 he
        rwa [resV_eq, resT_ok hb, resK_ok hb] at this
      · have hb : big (Int.fmod x y) = false := big_dn (by have := dn_fmod x y hy0; omega)
        have := Rem_ok w _ _ x y hx hy hy0 he
        rwa [resV_eq, resT_ok hb, resK_ok hb] at this
  · exact ⟨_, _, _, fun w _ => Quo_err w s t (by omega) (by omega) h, fun w _ => Rem_err w s t (by omega) (by omega) h, fun w => rDivide_err w s t (by omega) (by omega) h⟩
/-- What the two packages' greatest common divisors answer. -/
theorem bez_both (s t : ByteArray) (hs : few s = true) (ht : few t = true) : ∃ (D I J : ByteArray) (E : Int),
    (∀ w, Env w → Calls Tryz.prog 10 #[.string s, .string t] w (Rets fun v w' => v = .tuple #[.string D, .int .i64 E] ∧ Below w.heap.size w w')) ∧
    (∀ w, Env w → Calls Tryz.prog 11 #[.string s, .string t] w (Rets fun v w' => v = .tuple #[.string D, .string I, .string J, .int .i64 E] ∧ Below w.heap.size w w')) ∧
    (∀ w, Calls Tryz.prog 12 #[.string s, .string t] w (Rets fun v w' => v = .tuple #[.string D, .string I, .string J, .int .i64 E] ∧ Below w.heap.size w w')) := by
  have h1 := few_size hs
  have h2 := few_size ht
  by_cases h : chks [s, t] = 0
  · obtain ⟨x, y, hx, hy⟩ := good2 h
    have dx := few_sm hx hs
    have dy := few_sm hy ht
    obtain rfl := hx.eq
    obtain rfl := hy.eq
    have hg : dn ((Nat.gcd x.natAbs y.natAbs : Nat) : Int) ≤ 120 := gcd_dn x y dx dy
    have hbg : big ((Nat.gcd x.natAbs y.natAbs : Nat) : Int) = false := big_dn (by omega)
    have hgcd := fun w he => Gcd_ok w _ _ x y hx hy he
    rw [resV_eq, resT_ok hbg, resK_ok hbg] at hgcd
    by_cases hy0 : y = 0
    · subst hy0
      have e : ((Nat.gcd x.natAbs (Int.natAbs 0) : Nat) : Int) = (x.natAbs : Int) := by rw [show Int.natAbs 0 = 0 from rfl, Nat.gcd_zero_right]
      rw [e] at hgcd
      exact ⟨_, _, _, _, hgcd, fun w he => Bezout_zero w _ _ x hx hy he, fun w => rBezout_zero w x hx⟩
    · obtain ⟨k1, k2, c, k3⟩ := cox_is (a := x) (b := y) hy0
      have hgp : 0 < Int.gcd x y := Int.gcd_pos_of_ne_zero_right _ hy0
      have hu : dn (cox x y) ≤ 60 := by
        have : (cox x y).natAbs ≤ y.natAbs := by
          have : cox x y * 1 ≤ cox x y * (Int.gcd x y : Int) := Int.mul_le_mul_of_nonneg_left (by omega) k1
          omega
        have := dn_le this; omega
      have hv : dn (Int.fdiv ((Int.gcd x y : Int) - x * cox x y) y) ≤ 500 := by
        have e1 := dn_fdiv ((Int.gcd x y : Int) - x * cox x y) y hy0
        have e2 := dn_sub (Int.gcd x y : Int) (x * cox x y)
        have e3 := dn_mul x (cox x y)
        have e4 : dn (Int.gcd x y : Int) ≤ 120 := hg
        omega
      exact ⟨_, _, _, _, hgcd, fun w he => Bezout_ok w _ _ x y hx hy hy0 hbg (big_dn (by omega)) (big_dn (by omega)) he, fun w => rBezout_ok w x y hx hy hy0⟩
  · exact ⟨_, _, _, _, fun w _ => Gcd_err w s t (by omega) (by omega) h, fun w _ => Bezout_err w s t (by omega) (by omega) h, fun w => rBezout_err w s t (by omega) (by omega) h⟩

set_option maxHeartbeats 2000000 in
theorem divides_any (w : World) (a b : ByteArray) (ha : a.size ≤ 9223372036854775807) (hb : b.size ≤ 9223372036854775807) (he : Env w) :
    Calls Tryz.prog 3 #[.string a, .string b] w (Rets fun v w' => v = .bool true ∧ Below w.heap.size w w') := by
  have HE := Lib.hid he; clear he
  have b0 := Below.refl w.heap.size w
  cases hf : (few a && few b)
  · have HF := Lib.hid hf; clear hf
    go_enter Tryz.func3, Tryz.ntmps3
    go_wp2_with (first
      | (go_at_call 5; (with_reducible refine (pair_any _ a b ha hb).mono ?_); rintro e w1 ⟨v, rfl, rfl, rfl⟩; rw [HF.out])
      | (go_at_call 6; (with_reducible refine (awake_any _ HE.out).mono ?_); rintro e w2 ⟨v, rfl, rfl, hb2⟩))
    go_ret
    exact ⟨_, rfl, rfl, hb2⟩
  · have HF := Lib.hid hf
    have hfa : few a = true := by simp at hf; exact hf.1
    have hfb : few b = true := by simp at hf; exact hf.2
    obtain ⟨Q, R, E, h1, h2, h3⟩ := div_both a b hfa hfb
    obtain ⟨D, I, J, O, h4, h5, h6⟩ := bez_both a b hfa hfb
    have H1 := Lib.hid h1; have H2 := Lib.hid h2; have H3 := Lib.hid h3; have H4 := Lib.hid h4; have H5 := Lib.hid h5; have H6 := Lib.hid h6
    clear hf hfa hfb h1 h2 h3 h4 h5 h6
    go_enter Tryz.func3, Tryz.ntmps3
    go_wp2_with (first
      | (go_at_call 5; (with_reducible refine (pair_any _ a b ha hb).mono ?_); rintro e w1 ⟨v, rfl, rfl, rfl⟩; rw [HF.out])
      | (go_at_call 7; (with_reducible refine (H1.out _ (HE.out.below b0 (Nat.le_refl _))).mono ?_); rintro e w' ⟨v, rfl, rfl, hbq⟩; have b0 := b0.trans (hbq.mono b0.size))
      | (go_at_call 8; (with_reducible refine (H2.out _ (HE.out.below b0 (Nat.le_refl _))).mono ?_); rintro e w' ⟨v, rfl, rfl, hbq⟩; have b0 := b0.trans (hbq.mono b0.size))
      | (go_at_call 9; (with_reducible refine (H3.out _).mono ?_); rintro e w' ⟨v, rfl, rfl, hbq⟩; have b0 := b0.trans (hbq.mono b0.size))
      | (go_at_call 10; (with_reducible refine (H4.out _ (HE.out.below b0 (Nat.le_refl _))).mono ?_); rintro e w' ⟨v, rfl, rfl, hbq⟩; have b0 := b0.trans (hbq.mono b0.size))
      | (go_at_call 11; (with_reducible refine (H5.out _ (HE.out.below b0 (Nat.le_refl _))).mono ?_); rintro e w' ⟨v, rfl, rfl, hbq⟩; have b0 := b0.trans (hbq.mono b0.size))
      | (go_at_call 12; (with_reducible refine (H6.out _).mono ?_); rintro e w' ⟨v, rfl, rfl, hbq⟩; have b0 := b0.trans (hbq.mono b0.size))
      | (go_at_call 6; (with_reducible refine (awake_any _ (HE.out.below b0 (Nat.le_refl _))).mono ?_); rintro e w' ⟨v, rfl, rfl, hbq⟩; have b0 := b0.trans (hbq.mono b0.size)))
    go_ret
    exact ⟨_, rfl, rfl, b0⟩
end Go.Proofs.YtcjcknncajinpaaGreatDoor
