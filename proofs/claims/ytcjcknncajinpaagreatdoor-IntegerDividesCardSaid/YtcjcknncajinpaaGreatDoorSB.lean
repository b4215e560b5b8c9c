/- Bezout at short numbers. -/
import Derived.Test.YtcjcknncajinpaaGreatDoorSM
import Derived.Test.YtcjcknncajinpaaGreatDoorR8
import Derived.Test.YtcjcknncajinpaaGreatDoorIZ
namespace Go.Proofs.YtcjcknncajinpaaGreatDoor
open Go.RowKit
set_option maxRecDepth 100000

theorem cox_is {a b : Int} (hb : b ≠ 0) : IsCo a b (cox a b) := by
  have hM : (0 : Int) < b.natAbs := by omega
  have key : ∀ (n : Nat) (r rest s nx : Int), rest.natAbs ≤ n → CoInv a b.natAbs r rest s nx → ∃ x, IsCo a b x := by
    intro n
    induction n with
    | zero =>
      intro r rest s nx hn h
      obtain rfl : rest = 0 := by omega
      obtain ⟨h1, -, -, -, h2⟩ := h.stop
      rw [h1] at h2
      exact ⟨_, CoInv.isCo h2⟩
    | succ n ih =>
      intro r rest s nx hn h
      by_cases h0 : rest = 0
      · subst h0
        obtain ⟨h1, -, -, -, h2⟩ := h.stop
        rw [h1] at h2
        exact ⟨_, CoInv.isCo h2⟩
      · exact ih _ _ _ _ (by have := fmod_abs r rest h0; omega) (h.step h0)
  obtain ⟨x, hx⟩ := key _ _ _ _ _ (Nat.le_refl _) (CoInv.start a b.natAbs hM)
  rw [cox_eq hb hx]; exact hx
theorem gcd_ofNat (x y : Int) : ((Nat.gcd x.natAbs y.natAbs : Nat) : Int) = (Int.gcd x y : Int) := rfl
theorem sign_abs (x : Int) : x.sign.natAbs ≤ x.natAbs := by
  rcases Int.lt_trichotomy x 0 with h | h | h
  · rw [Int.sign_eq_neg_one_of_neg h]; omega
  · rw [h]; decide
  · rw [Int.sign_eq_one_of_pos h]; omega
/-- What Bezout returns, and that it is a combination. -/
theorem bez_sm (x y : Int) (k : Nat) (hx : Sm (txt x) x k) (hy : Sm (txt y) y k) (hk : 4 * k + 2 ≤ 1000) : ∃ u v : Int,
    (∀ w, Env w → Calls Tryz.prog 11 #[.string (txt x), .string (txt y)] w (Rets fun r w' => r = .tuple #[.string (txt (((Nat.gcd x.natAbs y.natAbs : Nat) : Int))), .string (txt u), .string (txt v), .int .i64 0] ∧ Below w.heap.size w w')) ∧
    x * u + y * v = ((Nat.gcd x.natAbs y.natAbs : Nat) : Int) ∧ Sm (txt (((Nat.gcd x.natAbs y.natAbs : Nat) : Int))) (((Nat.gcd x.natAbs y.natAbs : Nat) : Int)) (2 * k) ∧ Sm (txt u) u (k + 1) ∧ Sm (txt v) v (4 * k + 2) := by
  have hg : dn (((Nat.gcd x.natAbs y.natAbs : Nat) : Int)) ≤ 2 * k := by have := gcd_dn x y hx.le hy.le; omega
  have hd0 : dn 0 ≤ 0 := by unfold dn; rw [show Int.natAbs 0 = 0 from rfl, digs_zero]; exact Nat.le_refl _
  have hx' := hx.le
  have hy' := hy.le
  by_cases h0 : y = 0
  · subst h0
    have hs : dn x.sign ≤ k + 1 := by have := dn_le (sign_abs x); omega
    have hgx : ((Nat.gcd x.natAbs (Int.natAbs 0) : Nat) : Int) = (x.natAbs : Int) := by rw [show Int.natAbs 0 = 0 from rfl, Nat.gcd_zero_right]
    refine ⟨x.sign, 0, fun w he => ?_, ?_, ⟨⟨rfl, big_dn (by omega)⟩, hg⟩, ⟨⟨rfl, big_dn (by omega)⟩, hs⟩, ⟨⟨rfl, big_dn (by omega)⟩, by omega⟩⟩
    · have := Bezout_zero w (txt x) (txt 0) x hx.good hy.good he
      rw [← txt0] at this
      rw [hgx]; exact this
    · rw [hgx]
      rcases Int.lt_trichotomy x 0 with h | h | h
      · rw [Int.sign_eq_neg_one_of_neg h]; omega
      · subst h; decide
      · rw [Int.sign_eq_one_of_pos h]; omega
  · obtain ⟨h1, h2, c, h3⟩ := cox_is (a := x) (b := y) h0
    have hgp : 0 < Int.gcd x y := Int.gcd_pos_of_ne_zero_right _ h0
    have hu : dn (cox x y) ≤ k := by
      have : (cox x y).natAbs ≤ y.natAbs := by
        have : cox x y * 1 ≤ cox x y * (Int.gcd x y : Int) := Int.mul_le_mul_of_nonneg_left (by omega) h1
        omega
      have := dn_le this; omega
    have hv : dn (Int.fdiv ((Int.gcd x y : Int) - x * cox x y) y) ≤ 4 * k + 2 := by
      have e1 := dn_fdiv ((Int.gcd x y : Int) - x * cox x y) y h0
      have e2 := dn_sub (Int.gcd x y : Int) (x * cox x y)
      have e3 := dn_mul x (cox x y)
      have e4 : dn (Int.gcd x y : Int) ≤ 2 * k := hg
      omega
    refine ⟨cox x y, Int.fdiv ((Int.gcd x y : Int) - x * cox x y) y, fun w he => ?_, ?_, ⟨⟨rfl, big_dn (by omega)⟩, hg⟩, ⟨⟨rfl, big_dn (by omega)⟩, by omega⟩, ⟨⟨rfl, big_dn (by omega)⟩, hv⟩⟩
    · exact Bezout_ok w (txt x) (txt y) x y hx.good hy.good h0 (big_dn (show dn (Int.gcd x y : Int) ≤ 1024 from Nat.le_trans hg (by omega))) (big_dn (by omega)) (big_dn (by omega)) he
    · rw [gcd_ofNat, show (Int.gcd x y : Int) - x * cox x y = y * (-c) by rw [Int.mul_neg, ← h3]; omega, Int.mul_fdiv_cancel_left _ h0, Int.mul_neg, ← h3]; omega
end Go.Proofs.YtcjcknncajinpaaGreatDoor
