/- The walk of the law IntegerPowers. -/
import Derived.Test.YtcjcknncajinpaaDoorL1
import Derived.Test.YtcjcknncajinpaaDoorLS
import Derived.Test.YtcjcknncajinpaaDoorSP
namespace Go.Proofs.YtcjcknncajinpaaDoor
open Go.RowKit
set_option maxRecDepth 100000

set_option maxHeartbeats 2000000 in
theorem powers_any (w : World) (a b : ByteArray) (m n : Int) (ha : a.size ≤ 9223372036854775807) (hb : b.size ≤ 9223372036854775807) (hm : 0 ≤ m ∧ m ≤ 255) (hn : 0 ≤ n ∧ n ≤ 255) (he : Env w) :
    Calls Tryd.prog 4 #[.string a, .string b, .agg #[.int .u8 m, .int .u8 n]] w (Rets fun v w' => v = .bool true ∧ Below w.heap.size w w') := by
  have HE := Lib.hid he
  have HSZ : Hid (∀ s ∈ [a, b], s.size ≤ 9223372036854775807) := Lib.hid (by intro s hs; simp at hs; rcases hs with rfl | rfl <;> assumption)
  have b0 := (Below.refl w.heap.size w).alloc (Nat.le_refl _) (.cells #[.int .u8 m, .int .u8 n] 33)
  have hbs : w.heap.size ≤ (w.alloc (.cells #[.int .u8 m, .int .u8 n] 33)).heap.size := by simp
  have HSL : ∀ s t : ByteArray, Sl eS ((w.alloc (.cells #[.int .u8 m, .int .u8 n] 33)).alloc (.cells #[.string s, .string t] 22)) (.slice (some ⟨w.heap.size + 1, 0, none⟩) 2 2) [s, t] := fun s t => by
    have := Sl.pair (w.alloc (.cells #[.int .u8 m, .int .u8 n] 33)) s t 22
    rwa [World.size_alloc] at this
  have HSL := Lib.hid HSL
  clear he
  by_cases ha2 : a.size ≤ 20
  · by_cases hb2 : b.size ≤ 20
    · cases hf : [a, b].all sm1
      · have HF := Lib.hid hf; clear hf
        go_enter Tryd.func4, Tryd.ntmps4
        go_wp2_with (first
          | (go_at_call 18; (with_reducible refine (small_any _ _ [a, b] (HSL.out a b) HSZ.out).mono ?_); rintro e w1 ⟨v, rfl, rfl, rfl⟩; rw [HF.out]; have b := b0.alloc hbs (.cells #[.string a, .string b] 22))
          | (go_at_call 13; (with_reducible refine (awake_any _ (HE.out.below b (Nat.le_refl _))).mono ?_); rintro e w' ⟨v, rfl, rfl, hb⟩; have b := b.trans (hb.mono b.size)))
        go_ret
        exact ⟨_, rfl, rfl, b⟩
      · have HF := Lib.hid hf
        obtain ⟨x, hx⟩ := sm_of_le (s := a) 20 ha2 (by simp [sm1] at hf; simp [hf])
        obtain ⟨y, hy⟩ := sm_of_le (s := b) 20 hb2 (by simp [sm1] at hf; simp [hf])
        obtain rfl := hx.txt
        obtain rfl := hy.txt
        clear hf
        obtain ⟨i, hi, hi7⟩ : ∃ i : Nat, m % 8 = i ∧ i ≤ 7 := ⟨(m % 8).toNat, by omega, by omega⟩
        obtain ⟨k, hk, hk7⟩ : ∃ k : Nat, n % 8 = k ∧ k ≤ 7 := ⟨(n % 8).toNat, by omega, by omega⟩
        have E0 := Lib.hid (Int.pow_add x i k).symm
        have E1 := Lib.hid (show x ^ i * y ^ i = (x * y) ^ i from Int.mul_pow.symm)
        have EP := Lib.hid (show (i : Int) + (k : Int) = ((i + k : Nat) : Int) from rfl)
        have EI := Lib.hid hi; have EK := Lib.hid hk
        go_enter Tryd.func4, Tryd.ntmps4
        go_wp2_with (first
          | (go_at_call 18; (with_reducible refine (small_any _ _ [txt x, txt y] (HSL.out (txt x) (txt y)) HSZ.out).mono ?_); rintro e w1 ⟨v, rfl, rfl, rfl⟩; rw [HF.out]; have b := b0.alloc hbs (.cells #[.string (txt x), .string (txt y)] 22))
          | (go_at_call 16; (try rw [EP.out]); (with_reducible refine (pow_sm _ _ _ _ _ (by assumption) (by omega) (by decide) (HE.out.below b (Nat.le_refl _))).mono ?_); rintro e w' ⟨v, rfl, rfl, hb, hS⟩; have b := b.trans (hb.mono b.size))
          | (go_at_call 14; (with_reducible refine (mul_sm _ _ _ _ _ _ _ (by assumption) (by assumption) (by decide) (HE.out.below b (Nat.le_refl _))).mono ?_); rintro e w' ⟨v, rfl, rfl, hb, hS⟩; have b := b.trans (hb.mono b.size); (first | rw [E0.out] | rw [E1.out] | skip))
          | (go_at_call 13; (with_reducible refine (awake_any _ (HE.out.below b (Nat.le_refl _))).mono ?_); rintro e w' ⟨v, rfl, rfl, hb⟩; have b := b.trans (hb.mono b.size)))
        have hc0 := ((Blk.new w [.int .u8 m, .int .u8 n] 33).alloc (.cells #[.string (txt x), .string (txt y)] 22)).cell 0 _ rfl
        have hc1 := ((Blk.new w [.int .u8 m, .int .u8 n] 33).alloc (.cells #[.string (txt x), .string (txt y)] 22)).cell 1 _ rfl
        go_quiet (fail)
        have b := below_drewN b nq
        go_wp2_with (first
          | (go_at_call 18; (with_reducible refine (small_any _ _ [txt x, txt y] (HSL.out (txt x) (txt y)) HSZ.out).mono ?_); rintro e w1 ⟨v, rfl, rfl, rfl⟩; rw [HF.out]; have b := b0.alloc hbs (.cells #[.string (txt x), .string (txt y)] 22))
          | (go_at_call 16; (try rw [EP.out]); (with_reducible refine (pow_sm _ _ _ _ _ (by assumption) (by omega) (by decide) (HE.out.below b (Nat.le_refl _))).mono ?_); rintro e w' ⟨v, rfl, rfl, hb, hS⟩; have b := b.trans (hb.mono b.size))
          | (go_at_call 14; (with_reducible refine (mul_sm _ _ _ _ _ _ _ (by assumption) (by assumption) (by decide) (HE.out.below b (Nat.le_refl _))).mono ?_); rintro e w' ⟨v, rfl, rfl, hb, hS⟩; have b := b.trans (hb.mono b.size); (first | rw [E0.out] | rw [E1.out] | skip))
          | (go_at_call 13; (with_reducible refine (awake_any _ (HE.out.below b (Nat.le_refl _))).mono ?_); rintro e w' ⟨v, rfl, rfl, hb⟩; have b := b.trans (hb.mono b.size)))
        go_ret
        exact ⟨_, rfl, rfl, b⟩
    · go_enter Tryd.func4, Tryd.ntmps4
      go_wp2_with (go_at_call 13; (with_reducible refine (awake_any _ (HE.out.below b0 (Nat.le_refl _))).mono ?_); rintro e w' ⟨v, rfl, rfl, hb⟩; have b := b0.trans (hb.mono b0.size))
      go_ret
      exact ⟨_, rfl, rfl, b⟩
  · go_enter Tryd.func4, Tryd.ntmps4
    go_wp2_with (go_at_call 13; (with_reducible refine (awake_any _ (HE.out.below b0 (Nat.le_refl _))).mono ?_); rintro e w' ⟨v, rfl, rfl, hb⟩; have b := b0.trans (hb.mono b0.size))
    go_ret
    exact ⟨_, rfl, rfl, b⟩
end Go.Proofs.YtcjcknncajinpaaDoor
