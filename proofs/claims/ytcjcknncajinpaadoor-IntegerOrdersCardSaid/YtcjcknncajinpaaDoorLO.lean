/- The walk of the law IntegerOrders. -/
import Derived.Test.YtcjcknncajinpaaDoorL1
import Derived.Test.YtcjcknncajinpaaDoorLS
import Derived.Test.YtcjcknncajinpaaDoorSM
import Derived.Test.YtcjcknncajinpaaDoorIR
import Derived.Test.YtcjcknncajinpaaDoorIS
import Derived.Test.YtcjcknncajinpaaDoorLI
namespace Go.Proofs.YtcjcknncajinpaaDoor
open Go.RowKit
set_option maxRecDepth 100000

set_option maxHeartbeats 2000000 in
theorem orders_any (w : World) (a b c : ByteArray) (ha : a.size ≤ 9223372036854775807) (hb : b.size ≤ 9223372036854775807) (hc : c.size ≤ 9223372036854775807) (he : Env w) :
    Calls Tryd.prog 7 #[.string a, .string b, .string c] w (Rets fun v w' => v = .bool true ∧ Below w.heap.size w w') := by
  have HE := Lib.hid he
  have HSZ : Hid (∀ s ∈ [a, b, c], s.size ≤ 9223372036854775807) := Lib.hid (by intro s hs; simp at hs; rcases hs with rfl | rfl | rfl <;> assumption)
  clear he
  cases hf : [a, b, c].all sm1
  · have HF := Lib.hid hf; clear hf
    go_enter Tryd.func7, Tryd.ntmps7
    go_wp2_with (first
      | (go_at_call 18; (with_reducible refine (small_any _ _ [a, b, c] (sl3 w a b c _) HSZ.out).mono ?_); rintro e w1 ⟨v, rfl, rfl, rfl⟩; rw [HF.out]; have b := (Below.refl w.heap.size w).alloc (Nat.le_refl _) (.cells #[.string a, .string b, .string c] 22))
      | (go_at_call 13; (with_reducible refine (awake_any _ (HE.out.below b (Nat.le_refl _))).mono ?_); rintro e w' ⟨v, rfl, rfl, hb⟩; have b := b.trans (hb.mono b.size)))
    go_ret
    exact ⟨_, rfl, rfl, b⟩
  · have HF := Lib.hid hf
    obtain ⟨x, hx⟩ := sm_of (s := a) (by simp [sm1] at hf; omega) (by simp [sm1] at hf; simp [hf])
    obtain ⟨y, hy⟩ := sm_of (s := b) (by simp [sm1] at hf; omega) (by simp [sm1] at hf; simp [hf])
    obtain ⟨z, hz⟩ := sm_of (s := c) (by simp [sm1] at hf; omega) (by simp [sm1] at hf; simp [hf])
    obtain rfl := hx.txt
    obtain rfl := hy.txt
    obtain rfl := hz.txt
    clear hf
    rcases Int.lt_trichotomy x y with hxy | hxy | hxy <;> rcases Int.lt_trichotomy z 0 with hz0 | hz0 | hz0
    · have e0 := (show (x - y).sign = -1 from Int.sign_eq_neg_one_of_neg (by omega))
      have e1 := (show (y - x).sign = 1 from Int.sign_eq_one_of_pos (by omega))
      have e2 := (show (x + z - (y + z)).sign = -1 from Int.sign_eq_neg_one_of_neg (by omega))
      have e3 := (show (z).sign = -1 from Int.sign_eq_neg_one_of_neg (by omega))
      have e4 : (x * z - y * z).sign = 1 := by rw [← Int.sub_mul, Int.sign_mul, e0, e3]; rfl
      have en : ((txt x).toList == (txt y).toList) = false := by
        rw [txt_list, txt_list]; simp only [beq_eq_false_iff_ne]; exact fun h => absurd (itoa_inj h) (by omega)
      have E0 := Lib.hid e0; have E1 := Lib.hid e1; have E2 := Lib.hid e2; have E3 := Lib.hid e3; have E4 := Lib.hid e4; clear e0 e1 e2 e3 e4 hz0 hxy
      go_enter Tryd.func7, Tryd.ntmps7
      go_wp2_with (first
        | (go_at_call 18; (with_reducible refine (small_any _ _ [txt x, txt y, txt z] (sl3 w (txt x) (txt y) (txt z) _) HSZ.out).mono ?_); rintro e w1 ⟨v, rfl, rfl, rfl⟩; rw [HF.out]; have b := (Below.refl w.heap.size w).alloc (Nat.le_refl _) (.cells #[.string (txt x), .string (txt y), .string (txt z)] 22))
        | (go_at_call 25; (with_reducible refine (cmp_sm _ _ _ _ _ _ _ (by assumption) (by assumption)).mono ?_); rintro e w' ⟨v, rfl, rfl, hb⟩; have b := b.trans (hb.mono b.size); (first | rw [E0.out] | rw [E1.out] | rw [E2.out] | rw [E3.out] | rw [E4.out] | skip))
        | (go_at_call 22; (with_reducible refine (add_sm _ _ _ _ _ _ _ (by assumption) (by assumption) (by decide) (HE.out.below b (Nat.le_refl _))).mono ?_); rintro e w' ⟨v, rfl, rfl, hb, hS⟩; have b := b.trans (hb.mono b.size); (first | rw [E0.out] | rw [E1.out] | rw [E2.out] | rw [E3.out] | rw [E4.out] | skip))
        | (go_at_call 26; (with_reducible refine (sign_sm _ _ _ _ (by assumption)).mono ?_); rintro e w' ⟨v, rfl, rfl, hb⟩; have b := b.trans (hb.mono b.size); (first | rw [E0.out] | rw [E1.out] | rw [E2.out] | rw [E3.out] | rw [E4.out] | skip))
        | (go_at_call 14; (with_reducible refine (mul_sm _ _ _ _ _ _ _ (by assumption) (by assumption) (by decide) (HE.out.below b (Nat.le_refl _))).mono ?_); rintro e w' ⟨v, rfl, rfl, hb, hS⟩; have b := b.trans (hb.mono b.size); (first | rw [E0.out] | rw [E1.out] | rw [E2.out] | rw [E3.out] | rw [E4.out] | skip))
        | (go_at_call 13; (with_reducible refine (awake_any _ (HE.out.below b (Nat.le_refl _))).mono ?_); rintro e w' ⟨v, rfl, rfl, hb⟩; have b := b.trans (hb.mono b.size)))
      go_ret
      exact ⟨_, rfl, rfl, b⟩
    · have e0 := (show (x - y).sign = -1 from Int.sign_eq_neg_one_of_neg (by omega))
      have e1 := (show (y - x).sign = 1 from Int.sign_eq_one_of_pos (by omega))
      have e2 := (show (x + z - (y + z)).sign = -1 from Int.sign_eq_neg_one_of_neg (by omega))
      have e3 := (show (z).sign = 0 from by rw [show (z) = 0 by omega]; rfl)
      have e4 : (x * z - y * z).sign = 0 := by rw [← Int.sub_mul, Int.sign_mul, e0, e3]; rfl
      have en : ((txt x).toList == (txt y).toList) = false := by
        rw [txt_list, txt_list]; simp only [beq_eq_false_iff_ne]; exact fun h => absurd (itoa_inj h) (by omega)
      have E0 := Lib.hid e0; have E1 := Lib.hid e1; have E2 := Lib.hid e2; have E3 := Lib.hid e3; have E4 := Lib.hid e4; clear e0 e1 e2 e3 e4 hz0 hxy
      go_enter Tryd.func7, Tryd.ntmps7
      go_wp2_with (first
        | (go_at_call 18; (with_reducible refine (small_any _ _ [txt x, txt y, txt z] (sl3 w (txt x) (txt y) (txt z) _) HSZ.out).mono ?_); rintro e w1 ⟨v, rfl, rfl, rfl⟩; rw [HF.out]; have b := (Below.refl w.heap.size w).alloc (Nat.le_refl _) (.cells #[.string (txt x), .string (txt y), .string (txt z)] 22))
        | (go_at_call 25; (with_reducible refine (cmp_sm _ _ _ _ _ _ _ (by assumption) (by assumption)).mono ?_); rintro e w' ⟨v, rfl, rfl, hb⟩; have b := b.trans (hb.mono b.size); (first | rw [E0.out] | rw [E1.out] | rw [E2.out] | rw [E3.out] | rw [E4.out] | skip))
        | (go_at_call 22; (with_reducible refine (add_sm _ _ _ _ _ _ _ (by assumption) (by assumption) (by decide) (HE.out.below b (Nat.le_refl _))).mono ?_); rintro e w' ⟨v, rfl, rfl, hb, hS⟩; have b := b.trans (hb.mono b.size); (first | rw [E0.out] | rw [E1.out] | rw [E2.out] | rw [E3.out] | rw [E4.out] | skip))
        | (go_at_call 26; (with_reducible refine (sign_sm _ _ _ _ (by assumption)).mono ?_); rintro e w' ⟨v, rfl, rfl, hb⟩; have b := b.trans (hb.mono b.size); (first | rw [E0.out] | rw [E1.out] | rw [E2.out] | rw [E3.out] | rw [E4.out] | skip))
        | (go_at_call 14; (with_reducible refine (mul_sm _ _ _ _ _ _ _ (by assumption) (by assumption) (by decide) (HE.out.below b (Nat.le_refl _))).mono ?_); rintro e w' ⟨v, rfl, rfl, hb, hS⟩; have b := b.trans (hb.mono b.size); (first | rw [E0.out] | rw [E1.out] | rw [E2.out] | rw [E3.out] | rw [E4.out] | skip))
        | (go_at_call 13; (with_reducible refine (awake_any _ (HE.out.below b (Nat.le_refl _))).mono ?_); rintro e w' ⟨v, rfl, rfl, hb⟩; have b := b.trans (hb.mono b.size)))
      go_ret
      exact ⟨_, rfl, rfl, b⟩
    · have e0 := (show (x - y).sign = -1 from Int.sign_eq_neg_one_of_neg (by omega))
      have e1 := (show (y - x).sign = 1 from Int.sign_eq_one_of_pos (by omega))
      have e2 := (show (x + z - (y + z)).sign = -1 from Int.sign_eq_neg_one_of_neg (by omega))
      have e3 := (show (z).sign = 1 from Int.sign_eq_one_of_pos (by omega))
      have e4 : (x * z - y * z).sign = -1 := by rw [← Int.sub_mul, Int.sign_mul, e0, e3]; rfl
      have en : ((txt x).toList == (txt y).toList) = false := by
        rw [txt_list, txt_list]; simp only [beq_eq_false_iff_ne]; exact fun h => absurd (itoa_inj h) (by omega)
      have E0 := Lib.hid e0; have E1 := Lib.hid e1; have E2 := Lib.hid e2; have E3 := Lib.hid e3; have E4 := Lib.hid e4; clear e0 e1 e2 e3 e4 hz0 hxy
      go_enter Tryd.func7, Tryd.ntmps7
      go_wp2_with (first
        | (go_at_call 18; (with_reducible refine (small_any _ _ [txt x, txt y, txt z] (sl3 w (txt x) (txt y) (txt z) _) HSZ.out).mono ?_); rintro e w1 ⟨v, rfl, rfl, rfl⟩; rw [HF.out]; have b := (Below.refl w.heap.size w).alloc (Nat.le_refl _) (.cells #[.string (txt x), .string (txt y), .string (txt z)] 22))
        | (go_at_call 25; (with_reducible refine (cmp_sm _ _ _ _ _ _ _ (by assumption) (by assumption)).mono ?_); rintro e w' ⟨v, rfl, rfl, hb⟩; have b := b.trans (hb.mono b.size); (first | rw [E0.out] | rw [E1.out] | rw [E2.out] | rw [E3.out] | rw [E4.out] | skip))
        | (go_at_call 22; (with_reducible refine (add_sm _ _ _ _ _ _ _ (by assumption) (by assumption) (by decide) (HE.out.below b (Nat.le_refl _))).mono ?_); rintro e w' ⟨v, rfl, rfl, hb, hS⟩; have b := b.trans (hb.mono b.size); (first | rw [E0.out] | rw [E1.out] | rw [E2.out] | rw [E3.out] | rw [E4.out] | skip))
        | (go_at_call 26; (with_reducible refine (sign_sm _ _ _ _ (by assumption)).mono ?_); rintro e w' ⟨v, rfl, rfl, hb⟩; have b := b.trans (hb.mono b.size); (first | rw [E0.out] | rw [E1.out] | rw [E2.out] | rw [E3.out] | rw [E4.out] | skip))
        | (go_at_call 14; (with_reducible refine (mul_sm _ _ _ _ _ _ _ (by assumption) (by assumption) (by decide) (HE.out.below b (Nat.le_refl _))).mono ?_); rintro e w' ⟨v, rfl, rfl, hb, hS⟩; have b := b.trans (hb.mono b.size); (first | rw [E0.out] | rw [E1.out] | rw [E2.out] | rw [E3.out] | rw [E4.out] | skip))
        | (go_at_call 13; (with_reducible refine (awake_any _ (HE.out.below b (Nat.le_refl _))).mono ?_); rintro e w' ⟨v, rfl, rfl, hb⟩; have b := b.trans (hb.mono b.size)))
      go_ret
      exact ⟨_, rfl, rfl, b⟩
    · subst hxy
      have e0 := (show (x - x).sign = 0 from by rw [show (x - x) = 0 by omega]; rfl)
      have e1 := (show (x - x).sign = 0 from by rw [show (x - x) = 0 by omega]; rfl)
      have e2 := (show (x + z - (x + z)).sign = 0 from by rw [show (x + z - (x + z)) = 0 by omega]; rfl)
      have e3 := (show (z).sign = -1 from Int.sign_eq_neg_one_of_neg (by omega))
      have e4 : (x * z - x * z).sign = 0 := by rw [← Int.sub_mul, Int.sign_mul, e0, e3]; rfl
      have E0 := Lib.hid e0; have E1 := Lib.hid e1; have E2 := Lib.hid e2; have E3 := Lib.hid e3; have E4 := Lib.hid e4; clear e0 e1 e2 e3 e4 hz0
      go_enter Tryd.func7, Tryd.ntmps7
      go_wp2_with (first
        | (go_at_call 18; (with_reducible refine (small_any _ _ [txt x, txt x, txt z] (sl3 w (txt x) (txt x) (txt z) _) HSZ.out).mono ?_); rintro e w1 ⟨v, rfl, rfl, rfl⟩; rw [HF.out]; have b := (Below.refl w.heap.size w).alloc (Nat.le_refl _) (.cells #[.string (txt x), .string (txt x), .string (txt z)] 22))
        | (go_at_call 25; (with_reducible refine (cmp_sm _ _ _ _ _ _ _ (by assumption) (by assumption)).mono ?_); rintro e w' ⟨v, rfl, rfl, hb⟩; have b := b.trans (hb.mono b.size); (first | rw [E0.out] | rw [E1.out] | rw [E2.out] | rw [E3.out] | rw [E4.out] | skip))
        | (go_at_call 22; (with_reducible refine (add_sm _ _ _ _ _ _ _ (by assumption) (by assumption) (by decide) (HE.out.below b (Nat.le_refl _))).mono ?_); rintro e w' ⟨v, rfl, rfl, hb, hS⟩; have b := b.trans (hb.mono b.size); (first | rw [E0.out] | rw [E1.out] | rw [E2.out] | rw [E3.out] | rw [E4.out] | skip))
        | (go_at_call 26; (with_reducible refine (sign_sm _ _ _ _ (by assumption)).mono ?_); rintro e w' ⟨v, rfl, rfl, hb⟩; have b := b.trans (hb.mono b.size); (first | rw [E0.out] | rw [E1.out] | rw [E2.out] | rw [E3.out] | rw [E4.out] | skip))
        | (go_at_call 14; (with_reducible refine (mul_sm _ _ _ _ _ _ _ (by assumption) (by assumption) (by decide) (HE.out.below b (Nat.le_refl _))).mono ?_); rintro e w' ⟨v, rfl, rfl, hb, hS⟩; have b := b.trans (hb.mono b.size); (first | rw [E0.out] | rw [E1.out] | rw [E2.out] | rw [E3.out] | rw [E4.out] | skip))
        | (go_at_call 13; (with_reducible refine (awake_any _ (HE.out.below b (Nat.le_refl _))).mono ?_); rintro e w' ⟨v, rfl, rfl, hb⟩; have b := b.trans (hb.mono b.size)))
      go_ret
      exact ⟨_, rfl, rfl, b⟩
    · subst hxy
      have e0 := (show (x - x).sign = 0 from by rw [show (x - x) = 0 by omega]; rfl)
      have e1 := (show (x - x).sign = 0 from by rw [show (x - x) = 0 by omega]; rfl)
      have e2 := (show (x + z - (x + z)).sign = 0 from by rw [show (x + z - (x + z)) = 0 by omega]; rfl)
      have e3 := (show (z).sign = 0 from by rw [show (z) = 0 by omega]; rfl)
      have e4 : (x * z - x * z).sign = 0 := by rw [← Int.sub_mul, Int.sign_mul, e0, e3]; rfl
      have E0 := Lib.hid e0; have E1 := Lib.hid e1; have E2 := Lib.hid e2; have E3 := Lib.hid e3; have E4 := Lib.hid e4; clear e0 e1 e2 e3 e4 hz0
      go_enter Tryd.func7, Tryd.ntmps7
      go_wp2_with (first
        | (go_at_call 18; (with_reducible refine (small_any _ _ [txt x, txt x, txt z] (sl3 w (txt x) (txt x) (txt z) _) HSZ.out).mono ?_); rintro e w1 ⟨v, rfl, rfl, rfl⟩; rw [HF.out]; have b := (Below.refl w.heap.size w).alloc (Nat.le_refl _) (.cells #[.string (txt x), .string (txt x), .string (txt z)] 22))
        | (go_at_call 25; (with_reducible refine (cmp_sm _ _ _ _ _ _ _ (by assumption) (by assumption)).mono ?_); rintro e w' ⟨v, rfl, rfl, hb⟩; have b := b.trans (hb.mono b.size); (first | rw [E0.out] | rw [E1.out] | rw [E2.out] | rw [E3.out] | rw [E4.out] | skip))
        | (go_at_call 22; (with_reducible refine (add_sm _ _ _ _ _ _ _ (by assumption) (by assumption) (by decide) (HE.out.below b (Nat.le_refl _))).mono ?_); rintro e w' ⟨v, rfl, rfl, hb, hS⟩; have b := b.trans (hb.mono b.size); (first | rw [E0.out] | rw [E1.out] | rw [E2.out] | rw [E3.out] | rw [E4.out] | skip))
        | (go_at_call 26; (with_reducible refine (sign_sm _ _ _ _ (by assumption)).mono ?_); rintro e w' ⟨v, rfl, rfl, hb⟩; have b := b.trans (hb.mono b.size); (first | rw [E0.out] | rw [E1.out] | rw [E2.out] | rw [E3.out] | rw [E4.out] | skip))
        | (go_at_call 14; (with_reducible refine (mul_sm _ _ _ _ _ _ _ (by assumption) (by assumption) (by decide) (HE.out.below b (Nat.le_refl _))).mono ?_); rintro e w' ⟨v, rfl, rfl, hb, hS⟩; have b := b.trans (hb.mono b.size); (first | rw [E0.out] | rw [E1.out] | rw [E2.out] | rw [E3.out] | rw [E4.out] | skip))
        | (go_at_call 13; (with_reducible refine (awake_any _ (HE.out.below b (Nat.le_refl _))).mono ?_); rintro e w' ⟨v, rfl, rfl, hb⟩; have b := b.trans (hb.mono b.size)))
      go_ret
      exact ⟨_, rfl, rfl, b⟩
    · subst hxy
      have e0 := (show (x - x).sign = 0 from by rw [show (x - x) = 0 by omega]; rfl)
      have e1 := (show (x - x).sign = 0 from by rw [show (x - x) = 0 by omega]; rfl)
      have e2 := (show (x + z - (x + z)).sign = 0 from by rw [show (x + z - (x + z)) = 0 by omega]; rfl)
      have e3 := (show (z).sign = 1 from Int.sign_eq_one_of_pos (by omega))
      have e4 : (x * z - x * z).sign = 0 := by rw [← Int.sub_mul, Int.sign_mul, e0, e3]; rfl
      have E0 := Lib.hid e0; have E1 := Lib.hid e1; have E2 := Lib.hid e2; have E3 := Lib.hid e3; have E4 := Lib.hid e4; clear e0 e1 e2 e3 e4 hz0
      go_enter Tryd.func7, Tryd.ntmps7
      go_wp2_with (first
        | (go_at_call 18; (with_reducible refine (small_any _ _ [txt x, txt x, txt z] (sl3 w (txt x) (txt x) (txt z) _) HSZ.out).mono ?_); rintro e w1 ⟨v, rfl, rfl, rfl⟩; rw [HF.out]; have b := (Below.refl w.heap.size w).alloc (Nat.le_refl _) (.cells #[.string (txt x), .string (txt x), .string (txt z)] 22))
        | (go_at_call 25; (with_reducible refine (cmp_sm _ _ _ _ _ _ _ (by assumption) (by assumption)).mono ?_); rintro e w' ⟨v, rfl, rfl, hb⟩; have b := b.trans (hb.mono b.size); (first | rw [E0.out] | rw [E1.out] | rw [E2.out] | rw [E3.out] | rw [E4.out] | skip))
        | (go_at_call 22; (with_reducible refine (add_sm _ _ _ _ _ _ _ (by assumption) (by assumption) (by decide) (HE.out.below b (Nat.le_refl _))).mono ?_); rintro e w' ⟨v, rfl, rfl, hb, hS⟩; have b := b.trans (hb.mono b.size); (first | rw [E0.out] | rw [E1.out] | rw [E2.out] | rw [E3.out] | rw [E4.out] | skip))
        | (go_at_call 26; (with_reducible refine (sign_sm _ _ _ _ (by assumption)).mono ?_); rintro e w' ⟨v, rfl, rfl, hb⟩; have b := b.trans (hb.mono b.size); (first | rw [E0.out] | rw [E1.out] | rw [E2.out] | rw [E3.out] | rw [E4.out] | skip))
        | (go_at_call 14; (with_reducible refine (mul_sm _ _ _ _ _ _ _ (by assumption) (by assumption) (by decide) (HE.out.below b (Nat.le_refl _))).mono ?_); rintro e w' ⟨v, rfl, rfl, hb, hS⟩; have b := b.trans (hb.mono b.size); (first | rw [E0.out] | rw [E1.out] | rw [E2.out] | rw [E3.out] | rw [E4.out] | skip))
        | (go_at_call 13; (with_reducible refine (awake_any _ (HE.out.below b (Nat.le_refl _))).mono ?_); rintro e w' ⟨v, rfl, rfl, hb⟩; have b := b.trans (hb.mono b.size)))
      go_ret
      exact ⟨_, rfl, rfl, b⟩
    · have e0 := (show (x - y).sign = 1 from Int.sign_eq_one_of_pos (by omega))
      have e1 := (show (y - x).sign = -1 from Int.sign_eq_neg_one_of_neg (by omega))
      have e2 := (show (x + z - (y + z)).sign = 1 from Int.sign_eq_one_of_pos (by omega))
      have e3 := (show (z).sign = -1 from Int.sign_eq_neg_one_of_neg (by omega))
      have e4 : (x * z - y * z).sign = -1 := by rw [← Int.sub_mul, Int.sign_mul, e0, e3]; rfl
      have en : ((txt x).toList == (txt y).toList) = false := by
        rw [txt_list, txt_list]; simp only [beq_eq_false_iff_ne]; exact fun h => absurd (itoa_inj h) (by omega)
      have E0 := Lib.hid e0; have E1 := Lib.hid e1; have E2 := Lib.hid e2; have E3 := Lib.hid e3; have E4 := Lib.hid e4; clear e0 e1 e2 e3 e4 hz0 hxy
      go_enter Tryd.func7, Tryd.ntmps7
      go_wp2_with (first
        | (go_at_call 18; (with_reducible refine (small_any _ _ [txt x, txt y, txt z] (sl3 w (txt x) (txt y) (txt z) _) HSZ.out).mono ?_); rintro e w1 ⟨v, rfl, rfl, rfl⟩; rw [HF.out]; have b := (Below.refl w.heap.size w).alloc (Nat.le_refl _) (.cells #[.string (txt x), .string (txt y), .string (txt z)] 22))
        | (go_at_call 25; (with_reducible refine (cmp_sm _ _ _ _ _ _ _ (by assumption) (by assumption)).mono ?_); rintro e w' ⟨v, rfl, rfl, hb⟩; have b := b.trans (hb.mono b.size); (first | rw [E0.out] | rw [E1.out] | rw [E2.out] | rw [E3.out] | rw [E4.out] | skip))
        | (go_at_call 22; (with_reducible refine (add_sm _ _ _ _ _ _ _ (by assumption) (by assumption) (by decide) (HE.out.below b (Nat.le_refl _))).mono ?_); rintro e w' ⟨v, rfl, rfl, hb, hS⟩; have b := b.trans (hb.mono b.size); (first | rw [E0.out] | rw [E1.out] | rw [E2.out] | rw [E3.out] | rw [E4.out] | skip))
        | (go_at_call 26; (with_reducible refine (sign_sm _ _ _ _ (by assumption)).mono ?_); rintro e w' ⟨v, rfl, rfl, hb⟩; have b := b.trans (hb.mono b.size); (first | rw [E0.out] | rw [E1.out] | rw [E2.out] | rw [E3.out] | rw [E4.out] | skip))
        | (go_at_call 14; (with_reducible refine (mul_sm _ _ _ _ _ _ _ (by assumption) (by assumption) (by decide) (HE.out.below b (Nat.le_refl _))).mono ?_); rintro e w' ⟨v, rfl, rfl, hb, hS⟩; have b := b.trans (hb.mono b.size); (first | rw [E0.out] | rw [E1.out] | rw [E2.out] | rw [E3.out] | rw [E4.out] | skip))
        | (go_at_call 13; (with_reducible refine (awake_any _ (HE.out.below b (Nat.le_refl _))).mono ?_); rintro e w' ⟨v, rfl, rfl, hb⟩; have b := b.trans (hb.mono b.size)))
      go_ret
      exact ⟨_, rfl, rfl, b⟩
    · have e0 := (show (x - y).sign = 1 from Int.sign_eq_one_of_pos (by omega))
      have e1 := (show (y - x).sign = -1 from Int.sign_eq_neg_one_of_neg (by omega))
      have e2 := (show (x + z - (y + z)).sign = 1 from Int.sign_eq_one_of_pos (by omega))
      have e3 := (show (z).sign = 0 from by rw [show (z) = 0 by omega]; rfl)
      have e4 : (x * z - y * z).sign = 0 := by rw [← Int.sub_mul, Int.sign_mul, e0, e3]; rfl
      have en : ((txt x).toList == (txt y).toList) = false := by
        rw [txt_list, txt_list]; simp only [beq_eq_false_iff_ne]; exact fun h => absurd (itoa_inj h) (by omega)
      have E0 := Lib.hid e0; have E1 := Lib.hid e1; have E2 := Lib.hid e2; have E3 := Lib.hid e3; have E4 := Lib.hid e4; clear e0 e1 e2 e3 e4 hz0 hxy
      go_enter Tryd.func7, Tryd.ntmps7
      go_wp2_with (first
        | (go_at_call 18; (with_reducible refine (small_any _ _ [txt x, txt y, txt z] (sl3 w (txt x) (txt y) (txt z) _) HSZ.out).mono ?_); rintro e w1 ⟨v, rfl, rfl, rfl⟩; rw [HF.out]; have b := (Below.refl w.heap.size w).alloc (Nat.le_refl _) (.cells #[.string (txt x), .string (txt y), .string (txt z)] 22))
        | (go_at_call 25; (with_reducible refine (cmp_sm _ _ _ _ _ _ _ (by assumption) (by assumption)).mono ?_); rintro e w' ⟨v, rfl, rfl, hb⟩; have b := b.trans (hb.mono b.size); (first | rw [E0.out] | rw [E1.out] | rw [E2.out] | rw [E3.out] | rw [E4.out] | skip))
        | (go_at_call 22; (with_reducible refine (add_sm _ _ _ _ _ _ _ (by assumption) (by assumption) (by decide) (HE.out.below b (Nat.le_refl _))).mono ?_); rintro e w' ⟨v, rfl, rfl, hb, hS⟩; have b := b.trans (hb.mono b.size); (first | rw [E0.out] | rw [E1.out] | rw [E2.out] | rw [E3.out] | rw [E4.out] | skip))
        | (go_at_call 26; (with_reducible refine (sign_sm _ _ _ _ (by assumption)).mono ?_); rintro e w' ⟨v, rfl, rfl, hb⟩; have b := b.trans (hb.mono b.size); (first | rw [E0.out] | rw [E1.out] | rw [E2.out] | rw [E3.out] | rw [E4.out] | skip))
        | (go_at_call 14; (with_reducible refine (mul_sm _ _ _ _ _ _ _ (by assumption) (by assumption) (by decide) (HE.out.below b (Nat.le_refl _))).mono ?_); rintro e w' ⟨v, rfl, rfl, hb, hS⟩; have b := b.trans (hb.mono b.size); (first | rw [E0.out] | rw [E1.out] | rw [E2.out] | rw [E3.out] | rw [E4.out] | skip))
        | (go_at_call 13; (with_reducible refine (awake_any _ (HE.out.below b (Nat.le_refl _))).mono ?_); rintro e w' ⟨v, rfl, rfl, hb⟩; have b := b.trans (hb.mono b.size)))
      go_ret
      exact ⟨_, rfl, rfl, b⟩
    · have e0 := (show (x - y).sign = 1 from Int.sign_eq_one_of_pos (by omega))
      have e1 := (show (y - x).sign = -1 from Int.sign_eq_neg_one_of_neg (by omega))
      have e2 := (show (x + z - (y + z)).sign = 1 from Int.sign_eq_one_of_pos (by omega))
      have e3 := (show (z).sign = 1 from Int.sign_eq_one_of_pos (by omega))
      have e4 : (x * z - y * z).sign = 1 := by rw [← Int.sub_mul, Int.sign_mul, e0, e3]; rfl
      have en : ((txt x).toList == (txt y).toList) = false := by
        rw [txt_list, txt_list]; simp only [beq_eq_false_iff_ne]; exact fun h => absurd (itoa_inj h) (by omega)
      have E0 := Lib.hid e0; have E1 := Lib.hid e1; have E2 := Lib.hid e2; have E3 := Lib.hid e3; have E4 := Lib.hid e4; clear e0 e1 e2 e3 e4 hz0 hxy
      go_enter Tryd.func7, Tryd.ntmps7
      go_wp2_with (first
        | (go_at_call 18; (with_reducible refine (small_any _ _ [txt x, txt y, txt z] (sl3 w (txt x) (txt y) (txt z) _) HSZ.out).mono ?_); rintro e w1 ⟨v, rfl, rfl, rfl⟩; rw [HF.out]; have b := (Below.refl w.heap.size w).alloc (Nat.le_refl _) (.cells #[.string (txt x), .string (txt y), .string (txt z)] 22))
        | (go_at_call 25; (with_reducible refine (cmp_sm _ _ _ _ _ _ _ (by assumption) (by assumption)).mono ?_); rintro e w' ⟨v, rfl, rfl, hb⟩; have b := b.trans (hb.mono b.size); (first | rw [E0.out] | rw [E1.out] | rw [E2.out] | rw [E3.out] | rw [E4.out] | skip))
        | (go_at_call 22; (with_reducible refine (add_sm _ _ _ _ _ _ _ (by assumption) (by assumption) (by decide) (HE.out.below b (Nat.le_refl _))).mono ?_); rintro e w' ⟨v, rfl, rfl, hb, hS⟩; have b := b.trans (hb.mono b.size); (first | rw [E0.out] | rw [E1.out] | rw [E2.out] | rw [E3.out] | rw [E4.out] | skip))
        | (go_at_call 26; (with_reducible refine (sign_sm _ _ _ _ (by assumption)).mono ?_); rintro e w' ⟨v, rfl, rfl, hb⟩; have b := b.trans (hb.mono b.size); (first | rw [E0.out] | rw [E1.out] | rw [E2.out] | rw [E3.out] | rw [E4.out] | skip))
        | (go_at_call 14; (with_reducible refine (mul_sm _ _ _ _ _ _ _ (by assumption) (by assumption) (by decide) (HE.out.below b (Nat.le_refl _))).mono ?_); rintro e w' ⟨v, rfl, rfl, hb, hS⟩; have b := b.trans (hb.mono b.size); (first | rw [E0.out] | rw [E1.out] | rw [E2.out] | rw [E3.out] | rw [E4.out] | skip))
        | (go_at_call 13; (with_reducible refine (awake_any _ (HE.out.below b (Nat.le_refl _))).mono ?_); rintro e w' ⟨v, rfl, rfl, hb⟩; have b := b.trans (hb.mono b.size)))
      go_ret
      exact ⟨_, rfl, rfl, b⟩
end Go.Proofs.YtcjcknncajinpaaDoor
