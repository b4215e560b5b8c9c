/- The walk of the law IntegerChecks. -/
import Derived.Test.YtcjcknncajinpaaDoorL1
import Derived.Test.YtcjcknncajinpaaDoorRS
namespace Go.Proofs.YtcjcknncajinpaaDoor
open Go.RowKit
set_option maxRecDepth 100000

theorem small_both (s : ByteArray) (hs : s.size ≤ 1000000) : ∃ (K E : Int),
    (∀ w, Env w → Calls Tryd.prog 32 #[.string s] w (Rets fun v w' => v = .tuple #[.int .i64 K, .int .i64 E] ∧ Below w.heap.size w w')) ∧
    (∀ w, Calls Tryd.prog 33 #[.string s] w (Rets fun v w' => v = .tuple #[.int .i64 K, .int .i64 E] ∧ Below w.heap.size w w')) := by
  by_cases h : chk s.data.toList = 0
  · obtain ⟨z, hz⟩ := good_of h
    cases hi : isI64 z
    · exact ⟨0, 2, fun w he => Small_range w s z hz hi he, fun w => rSmall_range w s z hz hi⟩
    · exact ⟨z, 0, fun w _ => Small_ok w s z hz hi, fun w => rSmall_ok w s z hz hi⟩
  · exact ⟨0, _, fun w _ => Small_err w s hs h, fun w => rSmall_err w s hs h⟩
theorem sign_both (s : ByteArray) (hs : s.size ≤ 1000000) : ∃ (K E : Int),
    (∀ w, Calls Tryd.prog 26 #[.string s] w (Rets fun v w' => v = .tuple #[.int .i64 K, .int .i64 E] ∧ Below w.heap.size w w')) ∧
    (∀ w, Calls Tryd.prog 34 #[.string s, .string ⟨#[48]⟩] w (Rets fun v w' => v = .tuple #[.int .i64 K, .int .i64 E] ∧ Below w.heap.size w w')) := by
  by_cases h : chk s.data.toList = 0
  · obtain ⟨z, hz⟩ := good_of h
    refine ⟨z.sign, 0, fun w => Sign_ok w s z hz, fun w => ?_⟩
    have := rCompare_ok w s _ z 0 hz g0
    rwa [Int.sub_zero] at this
  · have h2 : chks [s, ⟨#[48]⟩] = chk s.data.toList := by rw [chks_pair, if_neg h]
    refine ⟨0, chk s.data.toList, fun w => Sign_err w s hs h, fun w => ?_⟩
    have := rCompare_err w s ⟨#[48]⟩ hs (by decide) (by rw [h2]; exact h)
    rwa [h2] at this

set_option maxHeartbeats 2000000 in
theorem checks_any (w : World) (a : ByteArray) (n : Int) (ha : a.size ≤ 9223372036854775807) (hn : -9223372036854775808 ≤ n ∧ n ≤ 9223372036854775807) (he : Env w) :
    Calls Tryd.prog 10 #[.string a, .int .i64 n] w (Rets fun v w' => v = .bool true ∧ Below w.heap.size w w') := by
  have HE := Lib.hid he
  clear he
  by_cases hsz : a.size ≤ 2048
  · obtain ⟨K, E, h1, h2⟩ := small_both a (by omega)
    obtain ⟨S, G, h3, h4⟩ := sign_both a (by omega)
    have H1 := Lib.hid h1; have H2 := Lib.hid h2; have H3 := Lib.hid h3; have H4 := Lib.hid h4; have HN := Lib.hid hn; have HA := Lib.hid hsz
    have b := Below.refl w.heap.size w
    clear h1 h2 h3 h4 hn
    go_enter Tryd.func10, Tryd.ntmps10
    go_wp2_with (first
      | (go_at_call 32; (with_reducible refine (H1.out _ (HE.out.below b (Nat.le_refl _))).mono ?_); rintro e w' ⟨v, rfl, rfl, hb⟩; have b := b.trans (hb.mono b.size))
      | (go_at_call 33; (with_reducible refine (H2.out _).mono ?_); rintro e w' ⟨v, rfl, rfl, hb⟩; have b := b.trans (hb.mono b.size))
      | (go_at_call 26; (with_reducible refine (H3.out _).mono ?_); rintro e w' ⟨v, rfl, rfl, hb⟩; have b := b.trans (hb.mono b.size))
      | (go_at_call 34; (with_reducible refine (H4.out _).mono ?_); rintro e w' ⟨v, rfl, rfl, hb⟩; have b := b.trans (hb.mono b.size))
      | (go_at_call 35; (with_reducible refine (check_any _ a (by have := HA.out; omega)).mono ?_); rintro e w' ⟨v, rfl, rfl, hb⟩; have b := b.trans (hb.mono b.size))
      | (go_at_call 36; (with_reducible refine (rCheck_any _ a (by have := HA.out; omega)).mono ?_); rintro e w' ⟨v, rfl, rfl, rfl⟩)
      | (go_at_call 37; (with_reducible refine (Of_any _ n HN.out.1 HN.out.2 (HE.out.below b (Nat.le_refl _))).mono ?_); rintro e w' ⟨v, rfl, rfl, hb⟩; have b := b.trans (hb.mono b.size))
      | (go_at_call 38; (with_reducible refine (rOf_any _ n HN.out.1 HN.out.2).mono ?_); rintro e w' ⟨v, rfl, rfl, hb⟩; have b := b.trans (hb.mono b.size))
      | (go_at_call 13; (with_reducible refine (awake_any _ (HE.out.below b (Nat.le_refl _))).mono ?_); rintro e w' ⟨v, rfl, rfl, hb⟩; have b := b.trans (hb.mono b.size)))
    go_ret
    exact ⟨_, rfl, rfl, b⟩
  · go_enter Tryd.func10, Tryd.ntmps10
    go_wp2_with (go_at_call 13; (with_reducible refine (awake_any _ HE.out).mono ?_); rintro e w' ⟨v, rfl, rfl, hb⟩)
    go_ret
    exact ⟨_, rfl, rfl, hb⟩
end Go.Proofs.YtcjcknncajinpaaDoor
