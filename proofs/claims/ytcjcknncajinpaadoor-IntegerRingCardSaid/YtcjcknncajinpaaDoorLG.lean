/- The walk of the law IntegerRing. -/
import Derived.Test.YtcjcknncajinpaaDoorL1
import Derived.Test.YtcjcknncajinpaaDoorLS
import Derived.Test.YtcjcknncajinpaaDoorSM
import Derived.Test.YtcjcknncajinpaaDoorIR
import Derived.Test.YtcjcknncajinpaaDoorIS
namespace Go.Proofs.YtcjcknncajinpaaDoor
open Go.RowKit
set_option maxRecDepth 100000

set_option maxHeartbeats 2000000 in
theorem ring_any (w : World) (a b c : ByteArray) (ha : a.size ≤ 9223372036854775807) (hb : b.size ≤ 9223372036854775807) (hc : c.size ≤ 9223372036854775807) (he : Env w) :
    Calls Tryd.prog 6 #[.string a, .string b, .string c] w (Rets fun v w' => v = .bool true ∧ Below w.heap.size w w') := by
  have HE := Lib.hid he
  have HSZ : Hid (∀ s ∈ [a, b, c], s.size ≤ 9223372036854775807) := Lib.hid (by intro s hs; simp at hs; rcases hs with rfl | rfl | rfl <;> assumption)
  clear he
  cases hf : [a, b, c].all sm1
  · have HF := Lib.hid hf; clear hf
    go_enter Tryd.func6, Tryd.ntmps6
    go_wp2_with (first
      | (go_at_call 18; (with_reducible refine (small_any _ _ [a, b, c] (sl3 w a b c _) HSZ.out).mono ?_); rintro e w1 ⟨v, rfl, rfl, rfl⟩; rw [HF.out]; have b := (Below.refl w.heap.size w).alloc (Nat.le_refl _) (.cells #[.string a, .string b, .string c] 22))
      | (go_at_call 13; (with_reducible refine (awake_any _ (HE.out.below b (Nat.le_refl _))).mono ?_); rintro e w' ⟨v, rfl, rfl, hb⟩; have b := b.trans (hb.mono b.size)))
    go_ret
    exact ⟨_, rfl, rfl, b⟩
  · have HF := Lib.hid hf
    obtain ⟨x, hx⟩ := sm_of (s := a) (by simp [sm1] at hf; omega) (by simp [sm1] at hf; simp [hf])
    obtain ⟨y, hy⟩ := sm_of (s := b) (by simp [sm1] at hf; omega) (by simp [sm1] at hf; simp [hf])
    obtain ⟨z, hz⟩ := sm_of (s := c) (by simp [sm1] at hf; omega) (by simp [sm1] at hf; simp [hf])
    obtain rfl := hx.txt
    obtain rfl := hy.txt
    obtain rfl := hz.txt
    clear hf
    have E0 := Lib.hid (show z * x + x * y = x * (y + z) by grind)
    have E1 := Lib.hid (show y * x = x * y by exact Int.mul_comm _ _)
    have E2 := Lib.hid (show x * (y + z) - z * x = x * y by grind)
    have E3 := Lib.hid (show y + z + -z = y by omega)
    go_enter Tryd.func6, Tryd.ntmps6
    go_wp2_with (first
      | (go_at_call 18; (with_reducible refine (small_any _ _ [txt x, txt y, txt z] (sl3 w (txt x) (txt y) (txt z) _) HSZ.out).mono ?_); rintro e w1 ⟨v, rfl, rfl, rfl⟩; rw [HF.out]; have b := (Below.refl w.heap.size w).alloc (Nat.le_refl _) (.cells #[.string (txt x), .string (txt y), .string (txt z)] 22))
      | (go_at_call 22; (with_reducible refine (add_sm _ _ _ _ _ _ _ (by assumption) (by assumption) (by decide) (HE.out.below b (Nat.le_refl _))).mono ?_); rintro e w' ⟨v, rfl, rfl, hb, hS⟩; have b := b.trans (hb.mono b.size); (first | rw [E0.out] | rw [E1.out] | rw [E2.out] | rw [E3.out] | skip))
      | (go_at_call 14; (with_reducible refine (mul_sm _ _ _ _ _ _ _ (by assumption) (by assumption) (by decide) (HE.out.below b (Nat.le_refl _))).mono ?_); rintro e w' ⟨v, rfl, rfl, hb, hS⟩; have b := b.trans (hb.mono b.size); (first | rw [E0.out] | rw [E1.out] | rw [E2.out] | rw [E3.out] | skip))
      | (go_at_call 23; (with_reducible refine (sub_sm _ _ _ _ _ _ _ (by assumption) (by assumption) (by decide) (HE.out.below b (Nat.le_refl _))).mono ?_); rintro e w' ⟨v, rfl, rfl, hb, hS⟩; have b := b.trans (hb.mono b.size); (first | rw [E0.out] | rw [E1.out] | rw [E2.out] | rw [E3.out] | skip))
      | (go_at_call 24; (with_reducible refine (neg_sm _ _ _ _ (by assumption) (by decide) (HE.out.below b (Nat.le_refl _))).mono ?_); rintro e w' ⟨v, rfl, rfl, hb, hS⟩; have b := b.trans (hb.mono b.size); (first | rw [E0.out] | rw [E1.out] | rw [E2.out] | rw [E3.out] | skip))
      | (go_at_call 13; (with_reducible refine (awake_any _ (HE.out.below b (Nat.le_refl _))).mono ?_); rintro e w' ⟨v, rfl, rfl, hb⟩; have b := b.trans (hb.mono b.size)))
    go_ret
    exact ⟨_, rfl, rfl, b⟩
end Go.Proofs.YtcjcknncajinpaaDoor
