/- The walks of the reference's Add, Sub and Positive. -/
import Derived.Test.YtcjcknncajinpaaGreatDoorR8
namespace Go.Proofs.YtcjcknncajinpaaGreatDoor
open Go.RowKit
set_option maxRecDepth 100000

set_option maxHeartbeats 400000 in
theorem rAdd_err (w : World) (s t : ByteArray) (hs : s.size ≤ 1000000) (ht : t.size ≤ 1000000) (h : chks [s, t] ≠ 0) :
    Calls Tryz.prog 14 #[.string s, .string t] w (Rets fun v w' => v = .tuple #[.string ⟨#[]⟩, .int .i64 (chks [s, t])] ∧ Below w.heap.size w w') := by
  have hne : (chks [s, t] != 0) = true := by simp [h]
  clear h
  go_enter Tryz.func14, Tryz.ntmps14
  go_wp2_with (go_at_call 31; (with_reducible refine (rchecked_any _ s t hs ht).mono ?_); rintro e w1 ⟨v, rfl, rfl, rfl⟩)
  go_ret2
  exact ⟨_, rfl, rfl, Below.refl _ _⟩

set_option maxHeartbeats 400000 in
theorem rAdd_ok (w : World) (s t : ByteArray) (x y : Int) (hx : Good s x) (hy : Good t y) :
    Calls Tryz.prog 14 #[.string s, .string t] w (Rets fun v w' => v = resV (x + y) ∧ Below w.heap.size w w') := by
  have h0 : chks [s, t] = 0 := by rw [chks_pair, hx.chk, hy.chk]; rfl
  obtain rfl := hx.eq
  obtain rfl := hy.eq
  obtain ⟨tt, k, hr, -, -⟩ := resV_cases (x + y)
  have HR := Lib.hid hr; have HX := Lib.hid hx; have HY := Lib.hid hy; have H0 := Lib.hid h0
  clear hr hx hy h0
  go_enter Tryz.func14, Tryz.ntmps14
  go_wp2_with (first
    | (go_at_call 31; (with_reducible refine (rchecked_any _ _ _ (by have := HX.out.size; omega) (by have := HY.out.size; omega)).mono ?_); rintro e w1 ⟨v, rfl, rfl, rfl⟩; rw [H0.out])
    | (go_at_call 51; (with_reducible refine (Plus_any _ x y (by have := HX.out.dn; omega) (by have := HY.out.dn; omega)).mono ?_); rintro e w2 ⟨v, rfl, rfl, hb2⟩)
    | (go_at_call 50; (with_reducible refine (Bounded_any _ (x + y) (by have := dn_add x y; have := HX.out.dn; have := HY.out.dn; omega)).mono ?_); rintro e w3 ⟨v, rfl, rfl, hb3⟩; rw [HR.out]))
  go_ret2
  exact ⟨_, rfl, by rw [HR.out]; rfl, hb2.trans (hb3.mono hb2.size)⟩

set_option maxHeartbeats 400000 in
theorem rSub_err (w : World) (s t : ByteArray) (hs : s.size ≤ 1000000) (ht : t.size ≤ 1000000) (h : chks [s, t] ≠ 0) :
    Calls Tryz.prog 16 #[.string s, .string t] w (Rets fun v w' => v = .tuple #[.string ⟨#[]⟩, .int .i64 (chks [s, t])] ∧ Below w.heap.size w w') := by
  have hne : (chks [s, t] != 0) = true := by simp [h]
  clear h
  go_enter Tryz.func16, Tryz.ntmps16
  go_wp2_with (go_at_call 31; (with_reducible refine (rchecked_any _ s t hs ht).mono ?_); rintro e w1 ⟨v, rfl, rfl, rfl⟩)
  go_ret2
  exact ⟨_, rfl, rfl, Below.refl _ _⟩

set_option maxHeartbeats 400000 in
theorem rSub_ok (w : World) (s t : ByteArray) (x y : Int) (hx : Good s x) (hy : Good t y) :
    Calls Tryz.prog 16 #[.string s, .string t] w (Rets fun v w' => v = resV (x - y) ∧ Below w.heap.size w w') := by
  have h0 : chks [s, t] = 0 := by rw [chks_pair, hx.chk, hy.chk]; rfl
  obtain rfl := hx.eq
  obtain rfl := hy.eq
  obtain ⟨tt, k, hr, -, -⟩ := resV_cases (x - y)
  have HR := Lib.hid hr; have HX := Lib.hid hx; have HY := Lib.hid hy; have H0 := Lib.hid h0
  clear hr hx hy h0
  go_enter Tryz.func16, Tryz.ntmps16
  go_wp2_with (first
    | (go_at_call 31; (with_reducible refine (rchecked_any _ _ _ (by have := HX.out.size; omega) (by have := HY.out.size; omega)).mono ?_); rintro e w1 ⟨v, rfl, rfl, rfl⟩; rw [H0.out])
    | (go_at_call 48; (with_reducible refine (Less_any _ x y (by have := HX.out.dn; omega) (by have := HY.out.dn; omega)).mono ?_); rintro e w2 ⟨v, rfl, rfl, hb2⟩)
    | (go_at_call 50; (with_reducible refine (Bounded_any _ (x - y) (by have := dn_sub x y; have := HX.out.dn; have := HY.out.dn; omega)).mono ?_); rintro e w3 ⟨v, rfl, rfl, hb3⟩; rw [HR.out]))
  go_ret2
  exact ⟨_, rfl, by rw [HR.out]; rfl, hb2.trans (hb3.mono hb2.size)⟩
set_option maxHeartbeats 400000 in
theorem Positive_any (w : World) (z : Int) (hz : dn z ≤ 100000) :
    Calls Tryz.prog 23 #[.string (txt z)] w (Rets fun v w' => v = .string (txt (z.natAbs : Int)) ∧ Below w.heap.size w w') := by
  have hl := itoa_len z
  have HL := Lib.hid hl; have HZ := Lib.hid hz
  have HS := Lib.hid (show sg false z.natAbs = (z.natAbs : Int) from rfl)
  clear hl hz
  go_enter Tryz.func23, Tryz.ntmps23
  go_wp2_with (first
    | (go_at_call 54; (with_reducible refine (digits_any _ z (by have := HL.out; have := HZ.out; omega)).mono ?_); rintro e w1 ⟨v1, rfl, hs1, hb1⟩; have HS1 := Lib.hid hs1; clear hs1)
    | (go_at_call 53; (with_reducible refine (rtext_any _ _ z.natAbs false HS1.out (by have := HZ.out; unfold dn at this; omega)).mono ?_); rintro e w2 ⟨v, rfl, rfl, hb2⟩; rw [HS.out]))
  go_ret
  exact ⟨_, rfl, rfl, hb1.trans (hb2.mono hb1.size)⟩

end Go.Proofs.YtcjcknncajinpaaGreatDoor
