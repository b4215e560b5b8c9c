/- The walk of the law IntegerCombines. -/
import Derived.Test.YtcjcknncajinpaaDoorL1
import Derived.Test.YtcjcknncajinpaaDoorLS
import Derived.Test.YtcjcknncajinpaaDoorSM
import Derived.Test.YtcjcknncajinpaaDoorIR
import Derived.Test.YtcjcknncajinpaaDoorSB
namespace Go.Proofs.YtcjcknncajinpaaDoor
open Go.RowKit
set_option maxRecDepth 100000

theorem gcd_scale (x y z : Int) : ((Nat.gcd (x * z).natAbs (y * z).natAbs : Nat) : Int) = ((((Nat.gcd x.natAbs y.natAbs : Nat) : Int) * z).natAbs : Int) := by
  rw [Int.natAbs_mul, Int.natAbs_mul, Int.natAbs_mul, Nat.gcd_mul_right, Int.natAbs_natCast]

set_option maxHeartbeats 2000000 in
theorem combines_any (w : World) (a b c : ByteArray) (ha : a.size ≤ 9223372036854775807) (hb : b.size ≤ 9223372036854775807) (hc : c.size ≤ 9223372036854775807) (he : Env w) :
    Calls Tryd.prog 8 #[.string a, .string b, .string c] w (Rets fun v w' => v = .bool true ∧ Below w.heap.size w w') := by
  have HE := Lib.hid he
  have HSZ : Hid (∀ s ∈ [a, b, c], s.size ≤ 9223372036854775807) := Lib.hid (by intro s hs; simp at hs; rcases hs with rfl | rfl | rfl <;> assumption)
  clear he
  cases hf : [a, b, c].all sm1
  · have HF := Lib.hid hf; clear hf
    go_enter Tryd.func8, Tryd.ntmps8
    go_wp2_with (first
      | (go_at_call 18; (with_reducible refine (small_any _ _ [a, b, c] (sl3 w a b c _) HSZ.out).mono ?_); rintro e w1 ⟨v, rfl, rfl, rfl⟩; rw [HF.out]; have b := (Below.refl w.heap.size w).alloc (Nat.le_refl _) (.cells #[.string a, .string b, .string c] 22))
      | (go_at_call 13; (with_reducible refine (awake_any _ (HE.out.below b (Nat.le_refl _))).mono ?_); rintro e w' ⟨v, rfl, rfl, hb⟩; have b := b.trans (hb.mono b.size)))
    go_ret
    exact ⟨_, rfl, rfl, b⟩
  · have HF := Lib.hid hf
    obtain ⟨x, hx⟩ := sm_of (s := a) (by simp [sm1] at hf; omega) (by simp [sm1] at hf; simp [hf])
    obtain ⟨y, hy⟩ := sm_of (s := b) (by simp [sm1] at hf; omega) (by simp [sm1] at hf; simp [hf])
    obtain ⟨z, hz⟩ := sm_of (s := c) (by simp [sm1] at hf; omega) (by simp [sm1] at hf; simp [hf])
    obtain rfl := hx.txt
    obtain rfl := hy.txt
    obtain rfl := hz.txt
    clear hf
    obtain ⟨u, v, hB, h0, hg, hu, hv⟩ := bez_sm x y 60 hx hy (by decide)
    have h3 := gcd_scale x y z
    have HB := Lib.hid hB
    have hd1 : ((Nat.gcd x.natAbs y.natAbs : Nat) : Int) ∣ x := (Int.gcd_dvd_left .. : (Int.gcd x y : Int) ∣ x)
    have hd2 : ((Nat.gcd x.natAbs y.natAbs : Nat) : Int) ∣ y := (Int.gcd_dvd_right .. : (Int.gcd x y : Int) ∣ y)
    clear hB
    have hz0 : ((txt 0).toList == [48]) = true := by rw [txt_list, itoa0]; rfl
    by_cases hg0 : ((Nat.gcd x.natAbs y.natAbs : Nat) : Int) = 0
    · rw [hg0] at HB hg h0 hd1 hd2
      obtain rfl : x = 0 := by simpa using hd1
      obtain rfl : y = 0 := by simpa using hd2
      clear hd1 hd2 h3 hg0
      have E0 := Lib.hid h0; clear h0
      have E1 := E0; have E2 := E0; have E3 := E0
      go_enter Tryd.func8, Tryd.ntmps8
      go_wp2_with (first
        | (go_at_call 18; (with_reducible refine (small_any _ _ [txt 0, txt 0, txt z] (sl3 w (txt 0) (txt 0) (txt z) _) HSZ.out).mono ?_); rintro e w1 ⟨v, rfl, rfl, rfl⟩; rw [HF.out]; have b := (Below.refl w.heap.size w).alloc (Nat.le_refl _) (.cells #[.string (txt 0), .string (txt 0), .string (txt z)] 22))
        | (go_at_call 27; (with_reducible refine (HB.out _ (HE.out.below b (Nat.le_refl _))).mono ?_); rintro e w' ⟨v, rfl, rfl, hb⟩; have b := b.trans (hb.mono b.size))
        | (go_at_call 14; (with_reducible refine (mul_sm _ _ _ _ _ _ _ (by assumption) (by assumption) (by decide) (HE.out.below b (Nat.le_refl _))).mono ?_); rintro e w' ⟨v, rfl, rfl, hb, hS⟩; have b := b.trans (hb.mono b.size); (first | rw [E0.out] | rw [E1.out] | rw [E2.out] | rw [E3.out] | skip))
        | (go_at_call 22; (with_reducible refine (add_sm _ _ _ _ _ _ _ (by assumption) (by assumption) (by decide) (HE.out.below b (Nat.le_refl _))).mono ?_); rintro e w' ⟨v, rfl, rfl, hb, hS⟩; have b := b.trans (hb.mono b.size); (first | rw [E0.out] | rw [E1.out] | rw [E2.out] | rw [E3.out] | skip))
        | (go_at_call 28; (with_reducible refine (rem_sm _ _ _ _ _ _ _ (by assumption) (by assumption) (by assumption) (by decide) (HE.out.below b (Nat.le_refl _))).mono ?_); rintro e w' ⟨v, rfl, rfl, hb, hS⟩; have b := b.trans (hb.mono b.size); (first | rw [E0.out] | rw [E1.out] | rw [E2.out] | rw [E3.out] | skip))
        | (go_at_call 29; (with_reducible refine (gcd_sm _ _ _ _ _ _ _ (by assumption) (by assumption) (by decide) (HE.out.below b (Nat.le_refl _))).mono ?_); rintro e w' ⟨v, rfl, rfl, hb, hS⟩; have b := b.trans (hb.mono b.size); (first | rw [E0.out] | rw [E1.out] | rw [E2.out] | rw [E3.out] | skip))
        | (go_at_call 30; (with_reducible refine (abs_sm _ _ _ _ (by assumption) (by decide) (HE.out.below b (Nat.le_refl _))).mono ?_); rintro e w' ⟨v, rfl, rfl, hb, hS⟩; have b := b.trans (hb.mono b.size); (first | rw [E0.out] | rw [E1.out] | rw [E2.out] | rw [E3.out] | skip))
        | (go_at_call 13; (with_reducible refine (awake_any _ (HE.out.below b (Nat.le_refl _))).mono ?_); rintro e w' ⟨v, rfl, rfl, hb⟩; have b := b.trans (hb.mono b.size)))
      go_ret
      exact ⟨_, rfl, rfl, b⟩
    have hgz : ((txt ((Nat.gcd x.natAbs y.natAbs : Nat) : Int)).toList == [48]) = false := txt_ne0 hg0
    have E0 := Lib.hid h0
    have E1 := Lib.hid (Int.fmod_eq_zero_of_dvd hd1)
    have E2 := Lib.hid (Int.fmod_eq_zero_of_dvd hd2)
    have E3 := Lib.hid h3
    clear h0 h3 hd1 hd2
    generalize ((Nat.gcd x.natAbs y.natAbs : Nat) : Int) = g at *
    go_enter Tryd.func8, Tryd.ntmps8
    go_wp2_with (first
      | (go_at_call 18; (with_reducible refine (small_any _ _ [txt x, txt y, txt z] (sl3 w (txt x) (txt y) (txt z) _) HSZ.out).mono ?_); rintro e w1 ⟨v, rfl, rfl, rfl⟩; rw [HF.out]; have b := (Below.refl w.heap.size w).alloc (Nat.le_refl _) (.cells #[.string (txt x), .string (txt y), .string (txt z)] 22))
      | (go_at_call 27; (with_reducible refine (HB.out _ (HE.out.below b (Nat.le_refl _))).mono ?_); rintro e w' ⟨v, rfl, rfl, hb⟩; have b := b.trans (hb.mono b.size))
      | (go_at_call 14; (with_reducible refine (mul_sm _ _ _ _ _ _ _ (by assumption) (by assumption) (by decide) (HE.out.below b (Nat.le_refl _))).mono ?_); rintro e w' ⟨v, rfl, rfl, hb, hS⟩; have b := b.trans (hb.mono b.size); (first | rw [E0.out] | rw [E1.out] | rw [E2.out] | rw [E3.out] | skip))
      | (go_at_call 22; (with_reducible refine (add_sm _ _ _ _ _ _ _ (by assumption) (by assumption) (by decide) (HE.out.below b (Nat.le_refl _))).mono ?_); rintro e w' ⟨v, rfl, rfl, hb, hS⟩; have b := b.trans (hb.mono b.size); (first | rw [E0.out] | rw [E1.out] | rw [E2.out] | rw [E3.out] | skip))
      | (go_at_call 28; (with_reducible refine (rem_sm _ _ _ _ _ _ _ (by assumption) (by assumption) (by assumption) (by decide) (HE.out.below b (Nat.le_refl _))).mono ?_); rintro e w' ⟨v, rfl, rfl, hb, hS⟩; have b := b.trans (hb.mono b.size); (first | rw [E0.out] | rw [E1.out] | rw [E2.out] | rw [E3.out] | skip))
      | (go_at_call 29; (with_reducible refine (gcd_sm _ _ _ _ _ _ _ (by assumption) (by assumption) (by decide) (HE.out.below b (Nat.le_refl _))).mono ?_); rintro e w' ⟨v, rfl, rfl, hb, hS⟩; have b := b.trans (hb.mono b.size); (first | rw [E0.out] | rw [E1.out] | rw [E2.out] | rw [E3.out] | skip))
      | (go_at_call 30; (with_reducible refine (abs_sm _ _ _ _ (by assumption) (by decide) (HE.out.below b (Nat.le_refl _))).mono ?_); rintro e w' ⟨v, rfl, rfl, hb, hS⟩; have b := b.trans (hb.mono b.size); (first | rw [E0.out] | rw [E1.out] | rw [E2.out] | rw [E3.out] | skip))
      | (go_at_call 13; (with_reducible refine (awake_any _ (HE.out.below b (Nat.le_refl _))).mono ?_); rintro e w' ⟨v, rfl, rfl, hb⟩; have b := b.trans (hb.mono b.size)))
    go_ret
    exact ⟨_, rfl, rfl, b⟩
end Go.Proofs.YtcjcknncajinpaaDoor
