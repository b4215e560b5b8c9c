/- Pow at short numbers. -/
import Derived.Test.YtcjcknncajinpaaDoorSM
import Derived.Test.YtcjcknncajinpaaDoorIW
namespace Go.Proofs.YtcjcknncajinpaaDoor
open Go.RowKit
set_option maxRecDepth 100000

theorem dn_pow (x : Int) (n : Nat) : dn (x ^ n) ≤ n * dn x + 1 := by
  induction n with
  | zero => rw [Int.pow_zero]; unfold dn; rw [show Int.natAbs 1 = 1 from rfl, digs_pos _ _ (by omega) (by omega), show 1 / 10 = 0 by omega, digs_zero]; simp
  | succ n ih =>
    rw [Int.pow_succ]
    have := dn_mul (x ^ n) x
    rw [Nat.succ_mul]; omega
theorem sm_of_le {s : ByteArray} (k : Nat) (h1 : s.size ≤ k) (h : chk s.data.toList = 0) : ∃ z, Sm s z k := by
  obtain ⟨z, hz⟩ := good_of h
  refine ⟨z, hz, ?_⟩
  have h2 := digs10_len z.natAbs
  have h3 : (Lib.decDigits z.natAbs).length ≤ (Lib.itoa z).length := by rw [itoa_cases]; split <;> simp
  have h4 : (Lib.itoa z).length = s.size := by rw [← hz.1, Lib.size_eq]
  unfold dn; omega
theorem pow_sm (w : World) (s : ByteArray) (x : Int) (k n : Nat) (hx : Sm s x k) (hn : n ≤ 14) (hk : 14 * k + 1 ≤ 1000) (he : Env w) :
    Calls Tryd.prog 16 #[.string s, .int .i64 n] w (Rets fun v w' => v = .tuple #[.string (txt (x ^ n)), .int .i64 0] ∧ Below w.heap.size w w' ∧ Sm (txt (x ^ n)) (x ^ n) (14 * k + 1)) := by
  have hd : dn (x ^ n) ≤ 14 * k + 1 := by
    have h1 := dn_pow x n
    have h2 : n * dn x ≤ 14 * k := Nat.mul_le_mul hn hx.le
    omega
  have hb : big (x ^ n) = false := big_dn (by omega)
  refine (Pow_ok w s n x hx.good (by omega) he).mono ?_
  rintro e w' ⟨v, rfl, rfl, hbl⟩
  exact ⟨_, rfl, by rw [resV_eq, resT_ok hb, resK_ok hb], hbl, ⟨rfl, hb⟩, hd⟩
end Go.Proofs.YtcjcknncajinpaaDoor
