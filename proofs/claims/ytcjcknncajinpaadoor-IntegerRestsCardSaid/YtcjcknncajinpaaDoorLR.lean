/- The walk of the law IntegerRests. -/
import Derived.Test.YtcjcknncajinpaaDoorL1
import Derived.Test.YtcjcknncajinpaaDoorLS
import Derived.Test.YtcjcknncajinpaaDoorSM
import Derived.Test.YtcjcknncajinpaaDoorIR
import Derived.Test.YtcjcknncajinpaaDoorLI
namespace Go.Proofs.YtcjcknncajinpaaDoor
open Go.RowKit
set_option maxRecDepth 100000

theorem rest_signs (x y : Int) (h : y ≠ 0) : (y.sign = -1 ∨ y.sign = 1) ∧ ((Int.fmod x y).sign = 0 ∨ (Int.fmod x y).sign = y.sign) ∧ (((Int.fmod x y).natAbs : Int) - (y.natAbs : Int)).sign = -1 := by
  have h2 := fmod_abs x y h
  refine ⟨?_, ?_, Int.sign_eq_neg_one_of_neg (by omega)⟩
  · rcases Int.lt_or_gt_of_ne h with h0 | h0
    · exact .inl (Int.sign_eq_neg_one_of_neg h0)
    · exact .inr (Int.sign_eq_one_of_pos h0)
  · by_cases hr : Int.fmod x y = 0
    · left; rw [hr]; rfl
    · right
      rcases Int.lt_or_gt_of_ne h with h0 | h0
      · have h3 : Int.fmod x y ≤ 0 := by
          have := Int.fmod_nonneg_of_pos (-x) (b := -y) (by omega)
          rw [Int.neg_fmod_neg] at this; omega
        rw [Int.sign_eq_neg_one_of_neg h0, Int.sign_eq_neg_one_of_neg (by omega)]
      · have h3 := Int.fmod_nonneg_of_pos x (b := y) h0
        rw [Int.sign_eq_one_of_pos h0, Int.sign_eq_one_of_pos (by omega)]

set_option maxHeartbeats 2000000 in
theorem rests_any (w : World) (a b : ByteArray) (ha : a.size ≤ 9223372036854775807) (hb : b.size ≤ 9223372036854775807) (he : Env w) :
    Calls Tryd.prog 9 #[.string a, .string b] w (Rets fun v w' => v = .bool true ∧ Below w.heap.size w w') := by
  have HE := Lib.hid he
  have HSZ : Hid (∀ s ∈ [a, b], s.size ≤ 9223372036854775807) := Lib.hid (by intro s hs; simp at hs; rcases hs with rfl | rfl <;> assumption)
  clear he
  cases hf : [a, b].all sm1
  · have HF := Lib.hid hf; clear hf
    go_enter Tryd.func9, Tryd.ntmps9
    go_wp2_with (first
      | (go_at_call 18; (with_reducible refine (small_any _ _ [a, b] (Sl.pair w a b _) HSZ.out).mono ?_); rintro e w1 ⟨v, rfl, rfl, rfl⟩; rw [HF.out]; have b := (Below.refl w.heap.size w).alloc (Nat.le_refl _) (.cells #[.string a, .string b] 22))
      | (go_at_call 13; (with_reducible refine (awake_any _ (HE.out.below b (Nat.le_refl _))).mono ?_); rintro e w' ⟨v, rfl, rfl, hb⟩; have b := b.trans (hb.mono b.size)))
    go_ret
    exact ⟨_, rfl, rfl, b⟩
  · have HF := Lib.hid hf
    obtain ⟨x, hx⟩ := sm_of (s := a) (by simp [sm1] at hf; omega) (by simp [sm1] at hf; simp [hf])
    obtain ⟨y, hy⟩ := sm_of (s := b) (by simp [sm1] at hf; omega) (by simp [sm1] at hf; simp [hf])
    obtain rfl := hx.txt
    obtain rfl := hy.txt
    by_cases hy0 : y = 0
    · subst hy0
      have hz0 : ((txt 0).toList == [48]) = true := by rw [txt_list, itoa0]; rfl
      clear hf
      go_enter Tryd.func9, Tryd.ntmps9
      go_wp2_with (first
        | (go_at_call 18; (with_reducible refine (small_any _ _ [txt x, txt 0] (Sl.pair w (txt x) (txt 0) _) HSZ.out).mono ?_); rintro e w1 ⟨v, rfl, rfl, rfl⟩; rw [HF.out]; have b := (Below.refl w.heap.size w).alloc (Nat.le_refl _) (.cells #[.string (txt x), .string (txt 0)] 22))
        | (go_at_call 31; (with_reducible refine (quo_sm _ _ _ _ _ _ _ (by assumption) (by assumption) (by assumption) (by decide) (HE.out.below b (Nat.le_refl _))).mono ?_); rintro e w' ⟨v, rfl, rfl, hb, hS⟩; have b := b.trans (hb.mono b.size); skip)
        | (go_at_call 28; (with_reducible refine (rem_sm _ _ _ _ _ _ _ (by assumption) (by assumption) (by assumption) (by decide) (HE.out.below b (Nat.le_refl _))).mono ?_); rintro e w' ⟨v, rfl, rfl, hb, hS⟩; have b := b.trans (hb.mono b.size); skip)
        | (go_at_call 14; (with_reducible refine (mul_sm _ _ _ _ _ _ _ (by assumption) (by assumption) (by decide) (HE.out.below b (Nat.le_refl _))).mono ?_); rintro e w' ⟨v, rfl, rfl, hb, hS⟩; have b := b.trans (hb.mono b.size); skip)
        | (go_at_call 22; (with_reducible refine (add_sm _ _ _ _ _ _ _ (by assumption) (by assumption) (by decide) (HE.out.below b (Nat.le_refl _))).mono ?_); rintro e w' ⟨v, rfl, rfl, hb, hS⟩; have b := b.trans (hb.mono b.size); skip)
        | (go_at_call 26; (with_reducible refine (sign_sm _ _ _ _ (by assumption)).mono ?_); rintro e w' ⟨v, rfl, rfl, hb⟩; have b := b.trans (hb.mono b.size); skip)
        | (go_at_call 30; (with_reducible refine (abs_sm _ _ _ _ (by assumption) (by decide) (HE.out.below b (Nat.le_refl _))).mono ?_); rintro e w' ⟨v, rfl, rfl, hb, hS⟩; have b := b.trans (hb.mono b.size); skip)
        | (go_at_call 25; (with_reducible refine (cmp_sm _ _ _ _ _ _ _ (by assumption) (by assumption)).mono ?_); rintro e w' ⟨v, rfl, rfl, hb⟩; have b := b.trans (hb.mono b.size); skip)
        | (go_at_call 13; (with_reducible refine (awake_any _ (HE.out.below b (Nat.le_refl _))).mono ?_); rintro e w' ⟨v, rfl, rfl, hb⟩; have b := b.trans (hb.mono b.size)))
      go_ret
      exact ⟨_, rfl, rfl, b⟩
    clear hf
    have hnz : ((txt y).toList == [48]) = false := txt_ne0 hy0
    obtain ⟨h2, h1, h3⟩ := rest_signs x y hy0
    have E0 := Lib.hid (show x.fdiv y * y + x.fmod y = x by rw [Int.mul_comm]; exact Int.mul_fdiv_add_fmod x y)
    have E3 := Lib.hid h3
    rcases h2 with h2 | h2 <;> rw [h2] at h1 <;> rcases h1 with h1 | h1
    all_goals
      have E1 := Lib.hid h1
      have E2 := Lib.hid h2
      clear h1 h2 h3
      go_enter Tryd.func9, Tryd.ntmps9
      go_wp2_with (first
        | (go_at_call 18; (with_reducible refine (small_any _ _ [txt x, txt y] (Sl.pair w (txt x) (txt y) _) HSZ.out).mono ?_); rintro e w1 ⟨v, rfl, rfl, rfl⟩; rw [HF.out]; have b := (Below.refl w.heap.size w).alloc (Nat.le_refl _) (.cells #[.string (txt x), .string (txt y)] 22))
        | (go_at_call 31; (with_reducible refine (quo_sm _ _ _ _ _ _ _ (by assumption) (by assumption) (by assumption) (by decide) (HE.out.below b (Nat.le_refl _))).mono ?_); rintro e w' ⟨v, rfl, rfl, hb, hS⟩; have b := b.trans (hb.mono b.size); (first | rw [E0.out] | rw [E1.out] | rw [E2.out] | rw [E3.out] | skip))
        | (go_at_call 28; (with_reducible refine (rem_sm _ _ _ _ _ _ _ (by assumption) (by assumption) (by assumption) (by decide) (HE.out.below b (Nat.le_refl _))).mono ?_); rintro e w' ⟨v, rfl, rfl, hb, hS⟩; have b := b.trans (hb.mono b.size); (first | rw [E0.out] | rw [E1.out] | rw [E2.out] | rw [E3.out] | skip))
        | (go_at_call 14; (with_reducible refine (mul_sm _ _ _ _ _ _ _ (by assumption) (by assumption) (by decide) (HE.out.below b (Nat.le_refl _))).mono ?_); rintro e w' ⟨v, rfl, rfl, hb, hS⟩; have b := b.trans (hb.mono b.size); (first | rw [E0.out] | rw [E1.out] | rw [E2.out] | rw [E3.out] | skip))
        | (go_at_call 22; (with_reducible refine (add_sm _ _ _ _ _ _ _ (by assumption) (by assumption) (by decide) (HE.out.below b (Nat.le_refl _))).mono ?_); rintro e w' ⟨v, rfl, rfl, hb, hS⟩; have b := b.trans (hb.mono b.size); (first | rw [E0.out] | rw [E1.out] | rw [E2.out] | rw [E3.out] | skip))
        | (go_at_call 26; (with_reducible refine (sign_sm _ _ _ _ (by assumption)).mono ?_); rintro e w' ⟨v, rfl, rfl, hb⟩; have b := b.trans (hb.mono b.size); (first | rw [E0.out] | rw [E1.out] | rw [E2.out] | rw [E3.out] | skip))
        | (go_at_call 30; (with_reducible refine (abs_sm _ _ _ _ (by assumption) (by decide) (HE.out.below b (Nat.le_refl _))).mono ?_); rintro e w' ⟨v, rfl, rfl, hb, hS⟩; have b := b.trans (hb.mono b.size); (first | rw [E0.out] | rw [E1.out] | rw [E2.out] | rw [E3.out] | skip))
        | (go_at_call 25; (with_reducible refine (cmp_sm _ _ _ _ _ _ _ (by assumption) (by assumption)).mono ?_); rintro e w' ⟨v, rfl, rfl, hb⟩; have b := b.trans (hb.mono b.size); (first | rw [E0.out] | rw [E1.out] | rw [E2.out] | rw [E3.out] | skip))
        | (go_at_call 13; (with_reducible refine (awake_any _ (HE.out.below b (Nat.le_refl _))).mono ?_); rintro e w' ⟨v, rfl, rfl, hb⟩; have b := b.trans (hb.mono b.size)))
      go_ret
      exact ⟨_, rfl, rfl, b⟩
end Go.Proofs.YtcjcknncajinpaaDoor
