/- The walk of the reference's Mul. -/
import Derived.Test.YtcjcknncajinpaaDoorR8
namespace Go.Proofs.YtcjcknncajinpaaDoor
open Go.RowKit
set_option maxRecDepth 100000

set_option maxHeartbeats 400000 in
theorem rMul_err (w : World) (s t : ByteArray) (hs : s.size ≤ 1000000) (ht : t.size ≤ 1000000) (h : chks [s, t] ≠ 0) :
    Calls Tryd.prog 15 #[.string s, .string t] w (Rets fun v w' => v = .tuple #[.string ⟨#[]⟩, .int .i64 (chks [s, t])] ∧ Below w.heap.size w w') := by
  have hne : (chks [s, t] != 0) = true := by simp [h]
  clear h
  go_enter Tryd.func15, Tryd.ntmps15
  go_wp2_with (go_at_call 42; (with_reducible refine (rchecked_any _ s t hs ht).mono ?_); rintro e w1 ⟨v, rfl, rfl, rfl⟩)
  go_ret2
  exact ⟨_, rfl, rfl, Below.refl _ _⟩

set_option maxHeartbeats 400000 in
theorem rMul_ok (w : World) (s t : ByteArray) (x y : Int) (hx : Good s x) (hy : Good t y) :
    Calls Tryd.prog 15 #[.string s, .string t] w (Rets fun v w' => v = resV (x * y) ∧ Below w.heap.size w w') := by
  have h0 : chks [s, t] = 0 := by rw [chks_pair, hx.chk, hy.chk]; rfl
  obtain rfl := hx.eq
  obtain rfl := hy.eq
  obtain ⟨tt, k, hr, -, -⟩ := resV_cases (x * y)
  have HR := Lib.hid hr; have HX := Lib.hid hx; have HY := Lib.hid hy; have H0 := Lib.hid h0
  clear hr hx hy h0
  go_enter Tryd.func15, Tryd.ntmps15
  go_wp2_with (first
    | (go_at_call 42; (with_reducible refine (rchecked_any _ _ _ (by have := HX.out.size; omega) (by have := HY.out.size; omega)).mono ?_); rintro e w1 ⟨v, rfl, rfl, rfl⟩; rw [H0.out])
    | (go_at_call 44; (with_reducible refine (Times_any _ x y (by have := HX.out.dn; omega) (by have := HY.out.dn; omega)).mono ?_); rintro e w2 ⟨v, rfl, rfl, hb2⟩)
    | (go_at_call 43; (with_reducible refine (Bounded_any _ (x * y) (by have := dn_mul x y; have := HX.out.dn; have := HY.out.dn; omega)).mono ?_); rintro e w3 ⟨v, rfl, rfl, hb3⟩; rw [HR.out]))
  go_ret2
  exact ⟨_, rfl, by rw [HR.out]; rfl, hb2.trans (hb3.mono hb2.size)⟩
end Go.Proofs.YtcjcknncajinpaaDoor
