/- The walk of the law IntegerSums. -/
import Derived.Test.YtcjcknncajinpaaGreatDoorL1
import Derived.Test.YtcjcknncajinpaaGreatDoorSM
import Derived.Test.YtcjcknncajinpaaGreatDoorRA
namespace Go.Proofs.YtcjcknncajinpaaGreatDoor
open Go.RowKit
set_option maxRecDepth 100000

/-- Two calls that answer the same text and number. -/
def Both (f g : FuncId) (args : Array Value) : Prop := ∃ (T : ByteArray) (K : Int), (∀ w, Env w → Calls Tryz.prog f args w (Rets fun v w' => v = .tuple #[.string T, .int .i64 K] ∧ Below w.heap.size w w')) ∧
  (∀ w, Env w → Calls Tryz.prog g args w (Rets fun v w' => v = .tuple #[.string T, .int .i64 K] ∧ Below w.heap.size w w'))
theorem Both.of {f g : FuncId} {args : Array Value} {z : Int} (h1 : ∀ w, Env w → Calls Tryz.prog f args w (Rets fun v w' => v = resV z ∧ Below w.heap.size w w')) (h2 : ∀ w, Env w → Calls Tryz.prog g args w (Rets fun v w' => v = resV z ∧ Below w.heap.size w w')) : Both f g args := by
  rw [resV_eq] at h1 h2
  exact ⟨_, _, h1, h2⟩
theorem good_two {s t : ByteArray} (h : chks [s, t] = 0) : ∃ x y, Good s x ∧ Good t y := by
  rw [chks_pair] at h
  by_cases h3 : chk s.data.toList = 0
  · rw [if_pos h3] at h
    obtain ⟨x, hx⟩ := good_of h3
    obtain ⟨y, hy⟩ := good_of h
    exact ⟨x, y, hx, hy⟩
  · rw [if_neg h3] at h; exact absurd h h3
theorem add_both (s t : ByteArray) (hs : s.size ≤ 1000000) (ht : t.size ≤ 1000000) : Both 13 14 #[.string s, .string t] := by
  by_cases h : chks [s, t] = 0
  · obtain ⟨x, y, hx, hy⟩ := good_two h
    exact .of (fun w he => Add_ok w s t x y hx hy he) (fun w _ => rAdd_ok w s t x y hx hy)
  · exact ⟨_, _, fun w _ => Add_err w s t hs ht h, fun w _ => rAdd_err w s t hs ht h⟩
theorem sub_both (s t : ByteArray) (hs : s.size ≤ 1000000) (ht : t.size ≤ 1000000) : Both 15 16 #[.string s, .string t] := by
  by_cases h : chks [s, t] = 0
  · obtain ⟨x, y, hx, hy⟩ := good_two h
    exact .of (fun w he => Sub_ok w s t x y hx hy he) (fun w _ => rSub_ok w s t x y hx hy)
  · exact ⟨_, _, fun w _ => Sub_err w s t hs ht h, fun w _ => rSub_err w s t hs ht h⟩
theorem cmp_both (s t : ByteArray) (hs : s.size ≤ 1000000) (ht : t.size ≤ 1000000) : ∃ (K E : Int),
    (∀ w, Calls Tryz.prog 17 #[.string s, .string t] w (Rets fun v w' => v = .tuple #[.int .i64 K, .int .i64 E] ∧ Below w.heap.size w w')) ∧
    (∀ w, Calls Tryz.prog 18 #[.string s, .string t] w (Rets fun v w' => v = .tuple #[.int .i64 K, .int .i64 E] ∧ Below w.heap.size w w')) := by
  by_cases h : chks [s, t] = 0
  · obtain ⟨x, y, hx, hy⟩ := good_two h
    exact ⟨_, _, fun w => Compare_ok w s t x y hx hy, fun w => rCompare_ok w s t x y hx hy⟩
  · exact ⟨0, _, fun w => Compare_err w s t hs ht h, fun w => rCompare_err w s t hs ht h⟩
theorem big_neg (z : Int) : big (-z) = big z := by rw [big_digs, big_digs, Int.natAbs_neg]
theorem big_abs (z : Int) : big (z.natAbs : Int) = big z := by rw [big_digs, big_digs, Int.natAbs_natCast]

set_option maxHeartbeats 4000000 in
theorem sums_any (w : World) (a b : ByteArray) (ha : a.size ≤ 9223372036854775807) (hb : b.size ≤ 9223372036854775807) (he : Env w) :
    Calls Tryz.prog 4 #[.string a, .string b] w (Rets fun v w' => v = .bool true ∧ Below w.heap.size w w') := by
  have HE := Lib.hid he
  have b0 := Below.refl w.heap.size w
  clear he
  by_cases ha2 : a.size ≤ 2048
  · by_cases hb2 : b.size ≤ 2048
    · obtain ⟨T1, K1, h1, h2⟩ := add_both a b (by omega) (by omega)
      obtain ⟨T2, K2, h3, h4⟩ := sub_both a b (by omega) (by omega)
      obtain ⟨C, E, h5, h6⟩ := cmp_both a b (by omega) (by omega)
      have H1 := Lib.hid h1; have H2 := Lib.hid h2; have H3 := Lib.hid h3; have H4 := Lib.hid h4; have H5 := Lib.hid h5; have H6 := Lib.hid h6; have HA := Lib.hid ha2
      have b := b0
      clear h1 h2 h3 h4 h5 h6
      by_cases hc : chk a.data.toList = 0
      · obtain ⟨z, hz⟩ := good_of hc
        obtain rfl := hz.eq
        have HZ := Lib.hid hz; have HC := Lib.hid hc
        have hr1 := resV_eq (-z); have hr2 := resV_eq (z.natAbs : Int)
        rw [resT_ok (by rw [big_neg]; exact hz.2), resK_ok (by rw [big_neg]; exact hz.2)] at hr1
        rw [resT_ok (by rw [big_abs]; exact hz.2), resK_ok (by rw [big_abs]; exact hz.2)] at hr2
        have HR1 := Lib.hid hr1; have HR2 := Lib.hid hr2
        clear hz hc hr1 hr2
        go_enter Tryz.func4, Tryz.ntmps4
        go_wp2_with (first
          | (go_at_call 13; (with_reducible refine (H1.out _ (HE.out.below b (Nat.le_refl _))).mono ?_); rintro e w' ⟨v, rfl, rfl, hb⟩; have b := b.trans (hb.mono b.size))
          | (go_at_call 14; (with_reducible refine (H2.out _ (HE.out.below b (Nat.le_refl _))).mono ?_); rintro e w' ⟨v, rfl, rfl, hb⟩; have b := b.trans (hb.mono b.size))
          | (go_at_call 15; (with_reducible refine (H3.out _ (HE.out.below b (Nat.le_refl _))).mono ?_); rintro e w' ⟨v, rfl, rfl, hb⟩; have b := b.trans (hb.mono b.size))
          | (go_at_call 16; (with_reducible refine (H4.out _ (HE.out.below b (Nat.le_refl _))).mono ?_); rintro e w' ⟨v, rfl, rfl, hb⟩; have b := b.trans (hb.mono b.size))
          | (go_at_call 17; (with_reducible refine (H5.out _).mono ?_); rintro e w' ⟨v, rfl, rfl, hb⟩; have b := b.trans (hb.mono b.size))
          | (go_at_call 18; (with_reducible refine (H6.out _).mono ?_); rintro e w' ⟨v, rfl, rfl, hb⟩; have b := b.trans (hb.mono b.size))
          | (go_at_call 19; (with_reducible refine (Neg_ok _ _ z HZ.out (HE.out.below b (Nat.le_refl _))).mono ?_); rintro e w' ⟨v, rfl, rfl, hb⟩; have b := b.trans (hb.mono b.size); rw [HR1.out])
          | (go_at_call 20; (with_reducible refine (Abs_ok _ _ z HZ.out (HE.out.below b (Nat.le_refl _))).mono ?_); rintro e w' ⟨v, rfl, rfl, hb⟩; have b := b.trans (hb.mono b.size); rw [HR2.out])
          | (go_at_call 21; (with_reducible refine (rCheck_any _ _ (by have := HA.out; omega)).mono ?_); rintro e w' ⟨v, rfl, rfl, rfl⟩; rw [HC.out])
          | (go_at_call 22; (with_reducible refine (Turned_any _ z (by have := HZ.out.dn; omega)).mono ?_); rintro e w' ⟨v, rfl, rfl, hb⟩; have b := b.trans (hb.mono b.size))
          | (go_at_call 23; (with_reducible refine (Positive_any _ z (by have := HZ.out.dn; omega)).mono ?_); rintro e w' ⟨v, rfl, rfl, hb⟩; have b := b.trans (hb.mono b.size))
          | (go_at_call 6; (with_reducible refine (awake_any _ (HE.out.below b (Nat.le_refl _))).mono ?_); rintro e w' ⟨v, rfl, rfl, hb⟩; have b := b.trans (hb.mono b.size)))
        go_ret
        exact ⟨_, rfl, rfl, b⟩
      · have HC := Lib.hid hc
        have hne : (chk a.data.toList != 0) = true := by simp [hc]
        clear hc
        go_enter Tryz.func4, Tryz.ntmps4
        go_wp2_with (first
          | (go_at_call 13; (with_reducible refine (H1.out _ (HE.out.below b (Nat.le_refl _))).mono ?_); rintro e w' ⟨v, rfl, rfl, hb⟩; have b := b.trans (hb.mono b.size))
          | (go_at_call 14; (with_reducible refine (H2.out _ (HE.out.below b (Nat.le_refl _))).mono ?_); rintro e w' ⟨v, rfl, rfl, hb⟩; have b := b.trans (hb.mono b.size))
          | (go_at_call 15; (with_reducible refine (H3.out _ (HE.out.below b (Nat.le_refl _))).mono ?_); rintro e w' ⟨v, rfl, rfl, hb⟩; have b := b.trans (hb.mono b.size))
          | (go_at_call 16; (with_reducible refine (H4.out _ (HE.out.below b (Nat.le_refl _))).mono ?_); rintro e w' ⟨v, rfl, rfl, hb⟩; have b := b.trans (hb.mono b.size))
          | (go_at_call 17; (with_reducible refine (H5.out _).mono ?_); rintro e w' ⟨v, rfl, rfl, hb⟩; have b := b.trans (hb.mono b.size))
          | (go_at_call 18; (with_reducible refine (H6.out _).mono ?_); rintro e w' ⟨v, rfl, rfl, hb⟩; have b := b.trans (hb.mono b.size))
          | (go_at_call 19; (with_reducible refine (Neg_err _ _ (by have := HA.out; omega) HC.out).mono ?_); rintro e w' ⟨v, rfl, rfl, hb⟩; have b := b.trans (hb.mono b.size))
          | (go_at_call 20; (with_reducible refine (Abs_err _ _ (by have := HA.out; omega) HC.out).mono ?_); rintro e w' ⟨v, rfl, rfl, hb⟩; have b := b.trans (hb.mono b.size))
          | (go_at_call 21; (with_reducible refine (rCheck_any _ _ (by have := HA.out; omega)).mono ?_); rintro e w' ⟨v, rfl, rfl, rfl⟩)
          | (go_at_call 6; (with_reducible refine (awake_any _ (HE.out.below b (Nat.le_refl _))).mono ?_); rintro e w' ⟨v, rfl, rfl, hb⟩; have b := b.trans (hb.mono b.size)))
        go_ret
        exact ⟨_, rfl, rfl, b⟩
    · go_enter Tryz.func4, Tryz.ntmps4
      go_wp2_with (go_at_call 6; (with_reducible refine (awake_any _ HE.out).mono ?_); rintro e w' ⟨v, rfl, rfl, hb⟩)
      go_ret
      exact ⟨_, rfl, rfl, hb⟩
  · go_enter Tryz.func4, Tryz.ntmps4
    go_wp2_with (go_at_call 6; (with_reducible refine (awake_any _ HE.out).mono ?_); rintro e w' ⟨v, rfl, rfl, hb⟩)
    go_ret
    exact ⟨_, rfl, rfl, hb⟩
end Go.Proofs.YtcjcknncajinpaaGreatDoor
