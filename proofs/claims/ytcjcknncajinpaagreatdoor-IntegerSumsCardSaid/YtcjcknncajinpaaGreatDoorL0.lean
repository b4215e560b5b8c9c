/- The public functions at the chapter's examples. -/
import Derived.Test.YtcjcknncajinpaaGreatDoorIZ
import Derived.Test.YtcjcknncajinpaaGreatDoorLQ
namespace Go.Proofs.YtcjcknncajinpaaGreatDoor
open Go.RowKit
set_option maxRecDepth 100000

theorem res_good {s : ByteArray} {z : Int} (h : Good s z) : resV z = .tuple #[.string s, .int .i64 0] := by
  rw [resV_eq, resT_ok h.2, resK_ok h.2, ← h.eq]
theorem gm7 : Good ⟨#[45, 55]⟩ (-7) := good_lit (by decide) (by decide)
theorem g2 : Good ⟨#[50]⟩ 2 := good_lit (by decide) (by decide)
theorem gm4 : Good ⟨#[45, 52]⟩ (-4) := good_lit (by decide) (by decide)
theorem g7 : Good ⟨#[55]⟩ 7 := good_lit (by decide) (by decide)
theorem gm2 : Good ⟨#[45, 50]⟩ (-2) := good_lit (by decide) (by decide)
theorem gm1 : Good ⟨#[45, 49]⟩ (-1) := good_lit (by decide) (by decide)
theorem g12 : Good ⟨#[49, 50]⟩ 12 := good_lit (by decide) (by decide)
theorem g18 : Good ⟨#[49, 56]⟩ 18 := good_lit (by decide) (by decide)
theorem g6 : Good ⟨#[54]⟩ 6 := good_lit (by decide) (by decide)
theorem g4 : Good ⟨#[52]⟩ 4 := good_lit (by decide) (by decide)
theorem gm3 : Good ⟨#[45, 51]⟩ (-3) := good_lit (by decide) (by decide)
theorem gm243 : Good ⟨#[45, 50, 52, 51]⟩ (-243) := good_lit (by decide) (by decide)

theorem quo1 (w : World) (he : Env w) : Calls Tryz.prog 7 #[.string ⟨#[45, 55]⟩, .string ⟨#[50]⟩] w (Rets fun v w' => v = .tuple #[.string ⟨#[45, 52]⟩, .int .i64 0] ∧ Below w.heap.size w w') := by
  have := Quo_ok w _ _ _ _ gm7 g2 (by decide) he
  rwa [show Int.fdiv (-7) 2 = -4 by decide, res_good gm4] at this
theorem rem1 (w : World) (he : Env w) : Calls Tryz.prog 8 #[.string ⟨#[45, 55]⟩, .string ⟨#[50]⟩] w (Rets fun v w' => v = .tuple #[.string ⟨#[49]⟩, .int .i64 0] ∧ Below w.heap.size w w') := by
  have := Rem_ok w _ _ _ _ gm7 g2 (by decide) he
  rwa [show Int.fmod (-7) 2 = 1 by decide, res_good g1] at this
theorem quo2 (w : World) (he : Env w) : Calls Tryz.prog 7 #[.string ⟨#[55]⟩, .string ⟨#[45, 50]⟩] w (Rets fun v w' => v = .tuple #[.string ⟨#[45, 52]⟩, .int .i64 0] ∧ Below w.heap.size w w') := by
  have := Quo_ok w _ _ _ _ g7 gm2 (by decide) he
  rwa [show Int.fdiv 7 (-2) = -4 by decide, res_good gm4] at this
theorem rem2 (w : World) (he : Env w) : Calls Tryz.prog 8 #[.string ⟨#[55]⟩, .string ⟨#[45, 50]⟩] w (Rets fun v w' => v = .tuple #[.string ⟨#[45, 49]⟩, .int .i64 0] ∧ Below w.heap.size w w') := by
  have := Rem_ok w _ _ _ _ g7 gm2 (by decide) he
  rwa [show Int.fmod 7 (-2) = -1 by decide, res_good gm1] at this
theorem bez1 (w : World) (he : Env w) : Calls Tryz.prog 11 #[.string ⟨#[49, 50]⟩, .string ⟨#[49, 56]⟩] w (Rets fun v w' => v = .tuple #[.string ⟨#[54]⟩, .string ⟨#[50]⟩, .string ⟨#[45, 49]⟩, .int .i64 0] ∧ Below w.heap.size w w') := by
  have hc : cox 12 18 = 2 := cox_eq (by decide) ⟨by decide, by decide, 1, by decide⟩
  have hg : (Int.gcd 12 18 : Int) = 6 := by decide
  have hy : Int.fdiv ((Int.gcd 12 18 : Int) - 12 * cox 12 18) 18 = -1 := by rw [hc, hg]; decide
  have := Bezout_ok w _ _ _ _ g12 g18 (by decide) (by rw [hg]; exact g6.2) (by rw [hc]; exact g2.2) (by rw [hy]; exact gm1.2) he
  rwa [hy, hg, hc, ← g6.eq, ← g2.eq, ← gm1.eq] at this
theorem bez2 (w : World) (he : Env w) : Calls Tryz.prog 11 #[.string ⟨#[52]⟩, .string ⟨#[48]⟩] w (Rets fun v w' => v = .tuple #[.string ⟨#[52]⟩, .string ⟨#[49]⟩, .string ⟨#[48]⟩, .int .i64 0] ∧ Below w.heap.size w w') := by
  have := Bezout_zero w _ _ _ g4 g0 he
  rwa [show ((Int.natAbs 4 : Nat) : Int) = 4 by decide, show Int.sign 4 = 1 by decide, ← g4.eq, ← g1.eq] at this
theorem pow1 (w : World) (he : Env w) : Calls Tryz.prog 25 #[.string ⟨#[45, 51]⟩, .int .i64 5] w (Rets fun v w' => v = .tuple #[.string ⟨#[45, 50, 52, 51]⟩, .int .i64 0] ∧ Below w.heap.size w w') := by
  have := Pow_ok w _ 5 _ gm3 (by decide) he
  rwa [show (-3 : Int) ^ 5 = -243 by decide, res_good gm243] at this
theorem chk1 (w : World) : Calls Tryz.prog 26 #[.string ⟨#[48, 48, 55]⟩] w (Rets fun v w' => v = .int .i64 3 ∧ Below w.heap.size w w') := by
  have := check_any w ⟨#[48, 48, 55]⟩ (by decide)
  rwa [show chk (⟨#[48, 48, 55]⟩ : ByteArray).data.toList = 3 by decide] at this
theorem chk2 (w : World) : Calls Tryz.prog 26 #[.string ⟨#[45, 48]⟩] w (Rets fun v w' => v = .int .i64 3 ∧ Below w.heap.size w w') := by
  have := check_any w ⟨#[45, 48]⟩ (by decide)
  rwa [show chk (⟨#[45, 48]⟩ : ByteArray).data.toList = 3 by decide] at this
theorem chk3 (w : World) : Calls Tryz.prog 26 #[.string ⟨#[43, 49]⟩] w (Rets fun v w' => v = .int .i64 3 ∧ Below w.heap.size w w') := by
  have := check_any w ⟨#[43, 49]⟩ (by decide)
  rwa [show chk (⟨#[43, 49]⟩ : ByteArray).data.toList = 3 by decide] at this
end Go.Proofs.YtcjcknncajinpaaGreatDoor
