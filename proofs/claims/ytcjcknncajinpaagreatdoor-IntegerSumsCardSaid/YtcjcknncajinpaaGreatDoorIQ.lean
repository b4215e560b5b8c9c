/- The walk of integer's Compare. -/
import Derived.Test.YtcjcknncajinpaaGreatDoorIO
namespace Go.Proofs.YtcjcknncajinpaaGreatDoor
open Go.RowKit
set_option maxRecDepth 100000

theorem Sl.pair (w : World) (s t : ByteArray) (e : TypeId) : Sl eS (w.alloc (.cells #[.string s, .string t] e)) (.slice (some ⟨w.heap.size, 0, none⟩) 2 2) [s, t] :=
  Sl.ofOwns (n := 2) (base := 0) (e := e) ⟨rfl, .inr ⟨w.heap.size, 2, #[.string s, .string t], rfl, by omega, heap_alloc_new w _, by omega, by simp [maxLen], rfl, rfl⟩⟩
theorem chks_pair (s t : ByteArray) : chks [s, t] = if chk s.data.toList = 0 then chk t.data.toList else chk s.data.toList := by
  simp only [chks]
  by_cases h : chk t.data.toList = 0 <;> simp [h]

set_option maxHeartbeats 400000 in
theorem Compare_err (w : World) (s t : ByteArray) (hs : s.size ≤ 1000000) (ht : t.size ≤ 1000000) (h : chks [s, t] ≠ 0) :
    Calls Tryz.prog 17 #[.string s, .string t] w (Rets fun v w' => v = .tuple #[.int .i64 0, .int .i64 (chks [s, t])] ∧ Below w.heap.size w w') := by
  have hne : (chks [s, t] != 0) = true := by simp [h]
  have hb0 : Below w.heap.size w (w.alloc (.cells #[.string s, .string t] 22)) := (Below.refl _ w).alloc (Nat.le_refl _) _
  have HB0 := Lib.hid hb0
  have HSZ := Lib.hid (show ∀ x ∈ [s, t], x.size ≤ 1000000 by intro x hx; simp at hx; rcases hx with rfl | rfl; exact hs; exact ht)
  clear h hb0
  go_enter Tryz.func17, Tryz.ntmps17
  go_wp2_with (go_at_call 27; refine (checked_any _ _ _ (Sl.pair w s t _) HSZ.out (by simp)).mono ?_; rintro e w' ⟨v, rfl, rfl, hb⟩)
  go_ret2
  exact ⟨_, rfl, rfl, HB0.out.trans (hb.mono (by simp))⟩

set_option maxHeartbeats 400000 in
theorem Compare_ok (w : World) (s t : ByteArray) (x y : Int) (hx : Good s x) (hy : Good t y) :
    Calls Tryz.prog 17 #[.string s, .string t] w (Rets fun v w' => v = .tuple #[.int .i64 (x - y).sign, .int .i64 0] ∧ Below w.heap.size w w') := by
  have h0 : chks [s, t] = 0 := by rw [chks_pair, hx.chk, hy.chk]; rfl
  have hb0 : Below w.heap.size w (w.alloc (.cells #[.string s, .string t] 22)) := (Below.refl _ w).alloc (Nat.le_refl _) _
  have HB0 := Lib.hid hb0; have H0 := Lib.hid h0; have HX := Lib.hid hx; have HY := Lib.hid hy
  have HSZ := Lib.hid (show ∀ x ∈ [s, t], x.size ≤ 1000000 by intro x h; simp at h; rcases h with rfl | rfl; (have := hx.size; omega); (have := hy.size; omega))
  clear h0 hb0 hx hy
  go_enter Tryz.func17, Tryz.ntmps17
  go_wp2_with (first
    | (go_at_call 27; refine (checked_any _ _ _ (Sl.pair w s t _) HSZ.out (by simp)).mono ?_; rintro e w1 ⟨v, rfl, rfl, hb1⟩; rw [H0.out]; have b1 := HB0.out.trans (hb1.mono (by simp)))
    | (go_at_call_of 28 (Value.string s); refine (read_any _ _ x HX.out.1 (by have := HX.out.size; omega)).mono ?_; rintro e w2 ⟨v, rfl, hn2, hb2⟩; have HN2 := Lib.hid hn2; clear hn2; have b2 := b1.trans (hb2.mono b1.size))
    | (go_at_call_of 28 (Value.string t); refine (read_any _ _ y HY.out.1 (by have := HY.out.size; omega)).mono ?_; rintro e w3 ⟨v, rfl, hn3, hb3⟩; have HN3 := Lib.hid hn3; clear hn3; have b3 := b2.trans (hb3.mono b2.size))
    | (go_at_call 44; refine (neg_any _ _ y HN3.out).mono ?_; rintro e w4 ⟨v, rfl, hn4, hb4⟩; have HN4 := Lib.hid hn4; clear hn4; have b4 := b3.trans (hb4.mono b3.size))
    | (go_at_call 42; refine (sum_any _ _ _ x (-y) ((HN2.out.below hb3 (Nat.le_refl _)).below hb4 (Nat.le_refl _)) HN4.out (by have := HX.out.wl; omega) (by have := HY.out.wl; rw [wl_neg]; omega)).mono ?_; rintro e w5 ⟨v, rfl, hn5, hb5⟩; have HN5 := Lib.hid hn5; clear hn5; have b5 := b4.trans (hb5.mono b4.size))
    | (go_at_call 38; refine (sign_any _ _ _ HN5.out).mono ?_; rintro e w6 ⟨v, rfl, rfl, hb6⟩))
  go_ret2
  exact ⟨_, rfl, by rw [Int.sub_eq_add_neg]; rfl, b5.trans (hb6.mono b5.size)⟩
end Go.Proofs.YtcjcknncajinpaaGreatDoor
