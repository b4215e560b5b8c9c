/- The walk of the law IntegerCounts. -/
import Derived.Test.YtcjcknncajinpaaDoorL1
import Derived.Test.YtcjcknncajinpaaDoorSM
import Derived.Test.YtcjcknncajinpaaDoorIR
import Derived.Test.YtcjcknncajinpaaDoorIV
namespace Go.Proofs.YtcjcknncajinpaaDoor
open Go.RowKit
set_option maxRecDepth 100000

theorem sm_int (z : Int) (k : Nat) (hk : k ≤ 1000) (h : z.natAbs < 10 ^ k) : Sm (txt z) z k := by
  have h1 : dn z ≤ k := (digs_len 10 z.natAbs k (by omega)).2 h
  exact ⟨⟨rfl, big_dn (by omega)⟩, h1⟩
theorem isI64_of {z : Int} (h0 : -9223372036854775808 ≤ z) (h1 : z ≤ 9223372036854775807) : isI64 z = true := by simp [isI64]; omega
theorem prod_bound {x y : Int} (hx : -2147483648 ≤ x ∧ x ≤ 2147483647) (hy : -2147483648 ≤ y ∧ y ≤ 2147483647) : -4611686018427387904 ≤ x * y ∧ x * y ≤ 4611686018427387904 := by
  have h1 : (x * y).natAbs = x.natAbs * y.natAbs := Int.natAbs_mul x y
  have h2 : x.natAbs * y.natAbs ≤ 2147483648 * 2147483648 := Nat.mul_le_mul (by omega) (by omega)
  omega
theorem small_sm (w : World) (z : Int) (k : Nat) (hz : Sm (txt z) z k) (hi : isI64 z = true) :
    Calls Tryd.prog 32 #[.string (txt z)] w (Rets fun v w' => v = .tuple #[.int .i64 z, .int .i64 0] ∧ Below w.heap.size w w') := Small_ok w _ z hz.good hi
/-- The remainder that is rounded to 0, and the one that has the divisor's sign. -/
theorem rest_cases (x y : Int) (h : y ≠ 0) : (x.tmod y = 0 ∧ Int.fmod x y = x.tmod y) ∨ (x.tmod y ≠ 0 ∧ (x.tmod y < 0 ↔ y < 0) ∧ Int.fmod x y = x.tmod y) ∨ (x.tmod y ≠ 0 ∧ ¬ (x.tmod y < 0 ↔ y < 0) ∧ Int.fmod x y = x.tmod y + y) := by
  have h1 : y * x.tdiv y + x.tmod y = x := Int.mul_tdiv_add_tmod x y
  have h2 : (x.tmod y).natAbs < y.natAbs := by rw [Int.natAbs_tmod]; exact Nat.mod_lt _ (by omega)
  have uniq : ∀ r p : Int, r + y * p = x → (0 < y → 0 ≤ r ∧ r < y) → (y < 0 → y < r ∧ r ≤ 0) → Int.fmod x y = r := by
    intro r p e hp hn
    rcases Int.lt_or_gt_of_ne h with h0 | h0
    · exact ((Int.fdiv_fmod_unique' (a := x) (b := y) (r := r) (q := p) h0).2 ⟨e, (hn h0).1, (hn h0).2⟩).2
    · exact ((Int.fdiv_fmod_unique (a := x) (b := y) (r := r) (q := p) h0).2 ⟨e, (hp h0).1, (hp h0).2⟩).2
  generalize x.tmod y = t at *
  generalize x.tdiv y = q at *
  by_cases ht : t = 0
  · exact .inl ⟨ht, uniq t q (by omega) (by omega) (by omega)⟩
  · right
    by_cases hs : t < 0 ↔ y < 0
    · exact .inl ⟨ht, hs, uniq t q (by omega) (by omega) (by omega)⟩
    · exact .inr ⟨ht, hs, uniq (t + y) (q - 1) (by rw [Int.mul_sub]; omega) (by omega) (by omega)⟩

set_option maxHeartbeats 2000000 in
theorem counts_any (w : World) (x y : Int) (hx : -2147483648 ≤ x ∧ x ≤ 2147483647) (hy : -2147483648 ≤ y ∧ y ≤ 2147483647) (he : Env w) :
    Calls Tryd.prog 11 #[.int .i32 x, .int .i32 y] w (Rets fun v w' => v = .bool true ∧ Below w.heap.size w w') := by
  have HE := Lib.hid he
  have hpb := prod_bound hx hy
  have sx := sm_int x 10 (by decide) (by omega)
  have sy := sm_int y 10 (by decide) (by omega)
  have I1 := Lib.hid (isI64_of (z := x + y) (by omega) (by omega))
  have I2 := Lib.hid (isI64_of (z := x * y) (by omega) (by omega))
  have b := Below.refl w.heap.size w
  clear he
  by_cases hy0 : y = 0
  · subst hy0
    have SX := Lib.hid sx; have SY := Lib.hid sy
    rw [Int.add_zero] at I1
    rw [Int.mul_zero] at I2
    go_enter Tryd.func11, Tryd.ntmps11
    go_wp2_with (first
      | (go_at_call 37; (with_reducible refine (Of_any _ _ (by omega) (by omega) (HE.out.below b (Nat.le_refl _))).mono ?_); rintro e w' ⟨v, rfl, rfl, hb⟩; have b := b.trans (hb.mono b.size))
      | (go_at_call 22; (with_reducible refine (add_sm _ _ _ _ _ _ _ (by assumption) (by assumption) (by decide) (HE.out.below b (Nat.le_refl _))).mono ?_); rintro e w' ⟨v, rfl, rfl, hb, hS⟩; have b := b.trans (hb.mono b.size))
      | (go_at_call 14; (with_reducible refine (mul_sm _ _ _ _ _ _ _ (by assumption) (by assumption) (by decide) (HE.out.below b (Nat.le_refl _))).mono ?_); rintro e w' ⟨v, rfl, rfl, hb, hS⟩; have b := b.trans (hb.mono b.size))
      | (go_at_call 32; (with_reducible refine (small_sm _ x _ SX.out I1.out).mono ?_); rintro e w' ⟨v, rfl, rfl, hb⟩; have b := b.trans (hb.mono b.size))
      | (go_at_call 32; (with_reducible refine (small_sm _ 0 _ SY.out I2.out).mono ?_); rintro e w' ⟨v, rfl, rfl, hb⟩; have b := b.trans (hb.mono b.size))
      | (go_at_call 31; (with_reducible refine (Quo_zero _ _ _ x SX.out.good SY.out.good).mono ?_); rintro e w' ⟨v, rfl, rfl, hb⟩; have b := b.trans (hb.mono b.size))
      | (go_at_call 13; (with_reducible refine (awake_any _ (HE.out.below b (Nat.le_refl _))).mono ?_); rintro e w' ⟨v, rfl, rfl, hb⟩; have b := b.trans (hb.mono b.size)))
    go_ret
    exact ⟨_, rfl, rfl, b⟩
  · have hfb := fmod_abs x y hy0
    have I3 := Lib.hid (isI64_of (z := Int.fmod x y) (by omega) (by omega))
    have HY0 := Lib.hid hy0
    have hne : (y == 0) = false := by simp [hy0]
    have key : ∀ f : Int, Int.fmod x y = f → ((x.tmod y = 0 ∧ f = x.tmod y) ∨ (0 < x.tmod y ∧ 0 < y ∧ f = x.tmod y) ∨ (x.tmod y < 0 ∧ y < 0 ∧ f = x.tmod y) ∨ (0 < x.tmod y ∧ y < 0 ∧ f = x.tmod y + y) ∨ (x.tmod y < 0 ∧ 0 < y ∧ f = x.tmod y + y)) := by
      intro f hf
      have := rest_cases x y hy0
      rw [hf] at this
      omega
    rcases key _ rfl with ⟨h1, h2⟩ | ⟨h1, h0, h2⟩ | ⟨h1, h0, h2⟩ | ⟨h1, h0, h2⟩ | ⟨h1, h0, h2⟩
    · clear key
      have hb1 : -2147483648 ≤ x.tmod y ∧ x.tmod y ≤ 2147483648 := by
        have : (x.tmod y).natAbs < y.natAbs := by rw [Int.natAbs_tmod]; exact Nat.mod_lt _ (by omega)
        omega
      have HF := Lib.hid h2
      clear h2 hfb
      go_enter Tryd.func11, Tryd.ntmps11
      go_wp2_with (first
      | (go_at_call 37; (with_reducible refine (Of_any _ _ (by omega) (by omega) (HE.out.below b (Nat.le_refl _))).mono ?_); rintro e w' ⟨v, rfl, rfl, hb⟩; have b := b.trans (hb.mono b.size))
      | (go_at_call 22; (with_reducible refine (add_sm _ _ _ _ _ _ _ (by assumption) (by assumption) (by decide) (HE.out.below b (Nat.le_refl _))).mono ?_); rintro e w' ⟨v, rfl, rfl, hb, hS⟩; have b := b.trans (hb.mono b.size))
      | (go_at_call 14; (with_reducible refine (mul_sm _ _ _ _ _ _ _ (by assumption) (by assumption) (by decide) (HE.out.below b (Nat.le_refl _))).mono ?_); rintro e w' ⟨v, rfl, rfl, hb, hS⟩; have b := b.trans (hb.mono b.size))
      | (go_at_call 32; (with_reducible refine (small_sm _ (x + y) _ (by assumption) I1.out).mono ?_); rintro e w' ⟨v, rfl, rfl, hb⟩; have b := b.trans (hb.mono b.size))
      | (go_at_call 32; (with_reducible refine (small_sm _ (x * y) _ (by assumption) I2.out).mono ?_); rintro e w' ⟨v, rfl, rfl, hb⟩; have b := b.trans (hb.mono b.size))
      | (go_at_call 28; (with_reducible refine (rem_sm _ _ _ _ _ _ _ (by assumption) (by assumption) HY0.out (by decide) (HE.out.below b (Nat.le_refl _))).mono ?_); rintro e w' ⟨v, rfl, rfl, hb, hS⟩; have b := b.trans (hb.mono b.size))
      | (go_at_call 32; (with_reducible refine (small_sm _ (Int.fmod x y) _ (by assumption) I3.out).mono ?_); rintro e w' ⟨v, rfl, rfl, hb⟩; have b := b.trans (hb.mono b.size); rw [HF.out])
      | (go_at_call 13; (with_reducible refine (awake_any _ (HE.out.below b (Nat.le_refl _))).mono ?_); rintro e w' ⟨v, rfl, rfl, hb⟩; have b := b.trans (hb.mono b.size)))
      go_ret
      exact ⟨_, rfl, rfl, b⟩
    · clear key
      have hb1 : -2147483648 ≤ x.tmod y ∧ x.tmod y ≤ 2147483648 := by
        have : (x.tmod y).natAbs < y.natAbs := by rw [Int.natAbs_tmod]; exact Nat.mod_lt _ (by omega)
        omega
      have HF := Lib.hid h2
      clear h2 hfb
      have hA : (x.tmod y != 0) = true := by simp; omega
      have hB : decide (x.tmod y < 0) = false := by simp; omega
      have hC : decide (y < 0) = false := by simp; omega
      go_enter Tryd.func11, Tryd.ntmps11
      go_wp2_with (first
      | (go_at_call 37; (with_reducible refine (Of_any _ _ (by omega) (by omega) (HE.out.below b (Nat.le_refl _))).mono ?_); rintro e w' ⟨v, rfl, rfl, hb⟩; have b := b.trans (hb.mono b.size))
      | (go_at_call 22; (with_reducible refine (add_sm _ _ _ _ _ _ _ (by assumption) (by assumption) (by decide) (HE.out.below b (Nat.le_refl _))).mono ?_); rintro e w' ⟨v, rfl, rfl, hb, hS⟩; have b := b.trans (hb.mono b.size))
      | (go_at_call 14; (with_reducible refine (mul_sm _ _ _ _ _ _ _ (by assumption) (by assumption) (by decide) (HE.out.below b (Nat.le_refl _))).mono ?_); rintro e w' ⟨v, rfl, rfl, hb, hS⟩; have b := b.trans (hb.mono b.size))
      | (go_at_call 32; (with_reducible refine (small_sm _ (x + y) _ (by assumption) I1.out).mono ?_); rintro e w' ⟨v, rfl, rfl, hb⟩; have b := b.trans (hb.mono b.size))
      | (go_at_call 32; (with_reducible refine (small_sm _ (x * y) _ (by assumption) I2.out).mono ?_); rintro e w' ⟨v, rfl, rfl, hb⟩; have b := b.trans (hb.mono b.size))
      | (go_at_call 28; (with_reducible refine (rem_sm _ _ _ _ _ _ _ (by assumption) (by assumption) HY0.out (by decide) (HE.out.below b (Nat.le_refl _))).mono ?_); rintro e w' ⟨v, rfl, rfl, hb, hS⟩; have b := b.trans (hb.mono b.size))
      | (go_at_call 32; (with_reducible refine (small_sm _ (Int.fmod x y) _ (by assumption) I3.out).mono ?_); rintro e w' ⟨v, rfl, rfl, hb⟩; have b := b.trans (hb.mono b.size); rw [HF.out])
      | (go_at_call 13; (with_reducible refine (awake_any _ (HE.out.below b (Nat.le_refl _))).mono ?_); rintro e w' ⟨v, rfl, rfl, hb⟩; have b := b.trans (hb.mono b.size)))
      go_ret
      exact ⟨_, rfl, rfl, b⟩
    · clear key
      have hb1 : -2147483648 ≤ x.tmod y ∧ x.tmod y ≤ 2147483648 := by
        have : (x.tmod y).natAbs < y.natAbs := by rw [Int.natAbs_tmod]; exact Nat.mod_lt _ (by omega)
        omega
      have HF := Lib.hid h2
      clear h2 hfb
      have hA : (x.tmod y != 0) = true := by simp; omega
      have hB : decide (x.tmod y < 0) = true := by simp; omega
      have hC : decide (y < 0) = true := by simp; omega
      go_enter Tryd.func11, Tryd.ntmps11
      go_wp2_with (first
      | (go_at_call 37; (with_reducible refine (Of_any _ _ (by omega) (by omega) (HE.out.below b (Nat.le_refl _))).mono ?_); rintro e w' ⟨v, rfl, rfl, hb⟩; have b := b.trans (hb.mono b.size))
      | (go_at_call 22; (with_reducible refine (add_sm _ _ _ _ _ _ _ (by assumption) (by assumption) (by decide) (HE.out.below b (Nat.le_refl _))).mono ?_); rintro e w' ⟨v, rfl, rfl, hb, hS⟩; have b := b.trans (hb.mono b.size))
      | (go_at_call 14; (with_reducible refine (mul_sm _ _ _ _ _ _ _ (by assumption) (by assumption) (by decide) (HE.out.below b (Nat.le_refl _))).mono ?_); rintro e w' ⟨v, rfl, rfl, hb, hS⟩; have b := b.trans (hb.mono b.size))
      | (go_at_call 32; (with_reducible refine (small_sm _ (x + y) _ (by assumption) I1.out).mono ?_); rintro e w' ⟨v, rfl, rfl, hb⟩; have b := b.trans (hb.mono b.size))
      | (go_at_call 32; (with_reducible refine (small_sm _ (x * y) _ (by assumption) I2.out).mono ?_); rintro e w' ⟨v, rfl, rfl, hb⟩; have b := b.trans (hb.mono b.size))
      | (go_at_call 28; (with_reducible refine (rem_sm _ _ _ _ _ _ _ (by assumption) (by assumption) HY0.out (by decide) (HE.out.below b (Nat.le_refl _))).mono ?_); rintro e w' ⟨v, rfl, rfl, hb, hS⟩; have b := b.trans (hb.mono b.size))
      | (go_at_call 32; (with_reducible refine (small_sm _ (Int.fmod x y) _ (by assumption) I3.out).mono ?_); rintro e w' ⟨v, rfl, rfl, hb⟩; have b := b.trans (hb.mono b.size); rw [HF.out])
      | (go_at_call 13; (with_reducible refine (awake_any _ (HE.out.below b (Nat.le_refl _))).mono ?_); rintro e w' ⟨v, rfl, rfl, hb⟩; have b := b.trans (hb.mono b.size)))
      go_ret
      exact ⟨_, rfl, rfl, b⟩
    · clear key
      have hb1 : -2147483648 ≤ x.tmod y ∧ x.tmod y ≤ 2147483648 := by
        have : (x.tmod y).natAbs < y.natAbs := by rw [Int.natAbs_tmod]; exact Nat.mod_lt _ (by omega)
        omega
      have HF := Lib.hid h2
      clear h2 hfb
      have hA : (x.tmod y != 0) = true := by simp; omega
      have hB : decide (x.tmod y < 0) = false := by simp; omega
      have hC : decide (y < 0) = true := by simp; omega
      go_enter Tryd.func11, Tryd.ntmps11
      go_wp2_with (first
      | (go_at_call 37; (with_reducible refine (Of_any _ _ (by omega) (by omega) (HE.out.below b (Nat.le_refl _))).mono ?_); rintro e w' ⟨v, rfl, rfl, hb⟩; have b := b.trans (hb.mono b.size))
      | (go_at_call 22; (with_reducible refine (add_sm _ _ _ _ _ _ _ (by assumption) (by assumption) (by decide) (HE.out.below b (Nat.le_refl _))).mono ?_); rintro e w' ⟨v, rfl, rfl, hb, hS⟩; have b := b.trans (hb.mono b.size))
      | (go_at_call 14; (with_reducible refine (mul_sm _ _ _ _ _ _ _ (by assumption) (by assumption) (by decide) (HE.out.below b (Nat.le_refl _))).mono ?_); rintro e w' ⟨v, rfl, rfl, hb, hS⟩; have b := b.trans (hb.mono b.size))
      | (go_at_call 32; (with_reducible refine (small_sm _ (x + y) _ (by assumption) I1.out).mono ?_); rintro e w' ⟨v, rfl, rfl, hb⟩; have b := b.trans (hb.mono b.size))
      | (go_at_call 32; (with_reducible refine (small_sm _ (x * y) _ (by assumption) I2.out).mono ?_); rintro e w' ⟨v, rfl, rfl, hb⟩; have b := b.trans (hb.mono b.size))
      | (go_at_call 28; (with_reducible refine (rem_sm _ _ _ _ _ _ _ (by assumption) (by assumption) HY0.out (by decide) (HE.out.below b (Nat.le_refl _))).mono ?_); rintro e w' ⟨v, rfl, rfl, hb, hS⟩; have b := b.trans (hb.mono b.size))
      | (go_at_call 32; (with_reducible refine (small_sm _ (Int.fmod x y) _ (by assumption) I3.out).mono ?_); rintro e w' ⟨v, rfl, rfl, hb⟩; have b := b.trans (hb.mono b.size); rw [HF.out])
      | (go_at_call 13; (with_reducible refine (awake_any _ (HE.out.below b (Nat.le_refl _))).mono ?_); rintro e w' ⟨v, rfl, rfl, hb⟩; have b := b.trans (hb.mono b.size)))
      go_ret
      exact ⟨_, rfl, rfl, b⟩
    · clear key
      have hb1 : -2147483648 ≤ x.tmod y ∧ x.tmod y ≤ 2147483648 := by
        have : (x.tmod y).natAbs < y.natAbs := by rw [Int.natAbs_tmod]; exact Nat.mod_lt _ (by omega)
        omega
      have HF := Lib.hid h2
      clear h2 hfb
      have hA : (x.tmod y != 0) = true := by simp; omega
      have hB : decide (x.tmod y < 0) = true := by simp; omega
      have hC : decide (y < 0) = false := by simp; omega
      go_enter Tryd.func11, Tryd.ntmps11
      go_wp2_with (first
      | (go_at_call 37; (with_reducible refine (Of_any _ _ (by omega) (by omega) (HE.out.below b (Nat.le_refl _))).mono ?_); rintro e w' ⟨v, rfl, rfl, hb⟩; have b := b.trans (hb.mono b.size))
      | (go_at_call 22; (with_reducible refine (add_sm _ _ _ _ _ _ _ (by assumption) (by assumption) (by decide) (HE.out.below b (Nat.le_refl _))).mono ?_); rintro e w' ⟨v, rfl, rfl, hb, hS⟩; have b := b.trans (hb.mono b.size))
      | (go_at_call 14; (with_reducible refine (mul_sm _ _ _ _ _ _ _ (by assumption) (by assumption) (by decide) (HE.out.below b (Nat.le_refl _))).mono ?_); rintro e w' ⟨v, rfl, rfl, hb, hS⟩; have b := b.trans (hb.mono b.size))
      | (go_at_call 32; (with_reducible refine (small_sm _ (x + y) _ (by assumption) I1.out).mono ?_); rintro e w' ⟨v, rfl, rfl, hb⟩; have b := b.trans (hb.mono b.size))
      | (go_at_call 32; (with_reducible refine (small_sm _ (x * y) _ (by assumption) I2.out).mono ?_); rintro e w' ⟨v, rfl, rfl, hb⟩; have b := b.trans (hb.mono b.size))
      | (go_at_call 28; (with_reducible refine (rem_sm _ _ _ _ _ _ _ (by assumption) (by assumption) HY0.out (by decide) (HE.out.below b (Nat.le_refl _))).mono ?_); rintro e w' ⟨v, rfl, rfl, hb, hS⟩; have b := b.trans (hb.mono b.size))
      | (go_at_call 32; (with_reducible refine (small_sm _ (Int.fmod x y) _ (by assumption) I3.out).mono ?_); rintro e w' ⟨v, rfl, rfl, hb⟩; have b := b.trans (hb.mono b.size); rw [HF.out])
      | (go_at_call 13; (with_reducible refine (awake_any _ (HE.out.below b (Nat.le_refl _))).mono ?_); rintro e w' ⟨v, rfl, rfl, hb⟩; have b := b.trans (hb.mono b.size)))
      go_ret
      exact ⟨_, rfl, rfl, b⟩
end Go.Proofs.YtcjcknncajinpaaDoor
