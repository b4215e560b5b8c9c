/- The walk of the law IntegerProducts. -/
import Derived.Test.YtcjcknncajinpaaDoorL1
import Derived.Test.YtcjcknncajinpaaDoorIR
import Derived.Test.YtcjcknncajinpaaDoorL2
import Derived.Test.YtcjcknncajinpaaDoorRM
import Derived.Test.YtcjcknncajinpaaDoorRP
namespace Go.Proofs.YtcjcknncajinpaaDoor
open Go.RowKit
set_option maxRecDepth 100000

/-- Two calls that answer the same text and number. -/
def Both2 (f g : FuncId) (args : Array Value) : Prop := ∃ (T : ByteArray) (K : Int), (∀ w, Env w → Calls Tryd.prog f args w (Rets fun v w' => v = .tuple #[.string T, .int .i64 K] ∧ Below w.heap.size w w')) ∧
  (∀ w, Env w → Calls Tryd.prog g args w (Rets fun v w' => v = .tuple #[.string T, .int .i64 K] ∧ Below w.heap.size w w'))
theorem Both2.of {f g : FuncId} {args : Array Value} {z : Int} (h1 : ∀ w, Env w → Calls Tryd.prog f args w (Rets fun v w' => v = resV z ∧ Below w.heap.size w w')) (h2 : ∀ w, Env w → Calls Tryd.prog g args w (Rets fun v w' => v = resV z ∧ Below w.heap.size w w')) : Both2 f g args := by
  rw [resV_eq] at h1 h2
  exact ⟨_, _, h1, h2⟩
theorem mul_both (s t : ByteArray) (hs : s.size ≤ 1000000) (ht : t.size ≤ 1000000) : Both2 14 15 #[.string s, .string t] := by
  by_cases h : chks [s, t] = 0
  · have h2 := h
    rw [chks_pair] at h2
    by_cases h3 : chk s.data.toList = 0
    · rw [if_pos h3] at h2
      obtain ⟨x, hx⟩ := good_of h3
      obtain ⟨y, hy⟩ := good_of h2
      exact .of (fun w he => Mul_ok w s t x y hx hy he) (fun w _ => rMul_ok w s t x y hx hy)
    · rw [if_neg h3] at h2; exact absurd h2 h3
  · exact ⟨_, _, fun w _ => Mul_err w s t hs ht h, fun w _ => rMul_err w s t hs ht h⟩
theorem pow_both (s : ByteArray) (n : Int) (hs : s.size ≤ 1000000) : Both2 16 17 #[.string s, .int .i64 n] := by
  by_cases h : chk s.data.toList = 0
  · obtain ⟨z, hz⟩ := good_of h
    by_cases hn : n < 0 ∨ 4096 < n
    · exact ⟨_, _, fun w _ => Pow_range w s n z hz hn, fun w _ => rPow_range w s n z hz hn⟩
    · obtain ⟨k, rfl⟩ : ∃ k : Nat, n = k := ⟨n.toNat, by omega⟩
      exact .of (fun w he => Pow_ok w s k z hz (by omega) he) (fun w _ => rPow_ok w s k z hz (by omega))
  · exact ⟨_, _, fun w _ => Pow_err w s n hs h, fun w _ => rPow_err w s n hs h⟩

set_option maxHeartbeats 2000000 in
theorem products_any (w : World) (a b : ByteArray) (n : Int) (ha : a.size ≤ 9223372036854775807) (hb : b.size ≤ 9223372036854775807) (_hn : -9223372036854775808 ≤ n ∧ n ≤ 9223372036854775807) (he : Env w) :
    Calls Tryd.prog 3 #[.string a, .string b, .int .i64 n] w (Rets fun v w' => v = .bool true ∧ Below w.heap.size w w') := by
  have HE := Lib.hid he; clear he
  cases hf : (few a && few b)
  · have HF := Lib.hid hf; clear hf
    go_enter Tryd.func3, Tryd.ntmps3
    go_wp2_with (first
      | (go_at_call 12; (with_reducible refine (pair_any _ a b ha hb).mono ?_); rintro e w1 ⟨v, rfl, rfl, rfl⟩; rw [HF.out])
      | (go_at_call 13; (with_reducible refine (awake_any _ HE.out).mono ?_); rintro e w2 ⟨v, rfl, rfl, hb2⟩))
    go_ret
    exact ⟨_, rfl, rfl, hb2⟩
  · have HF := Lib.hid hf
    have hfa : few a = true := by simp at hf; exact hf.1
    have hfb : few b = true := by simp at hf; exact hf.2
    have hsa := few_size hfa
    have hsb := few_size hfb
    obtain ⟨T, K, hm1, hm2⟩ := mul_both a b (by omega) (by omega)
    obtain ⟨T', K', hp1, hp2⟩ := pow_both a n (by omega)
    have HM1 := Lib.hid hm1; have HM2 := Lib.hid hm2; have HP1 := Lib.hid hp1; have HP2 := Lib.hid hp2
    clear hf hfa hfb hm1 hm2 hp1 hp2
    go_enter Tryd.func3, Tryd.ntmps3
    go_wp2_with (first
      | (go_at_call 12; (with_reducible refine (pair_any _ a b ha hb).mono ?_); rintro e w1 ⟨v, rfl, rfl, rfl⟩; rw [HF.out])
      | (go_at_call 14; (with_reducible refine (HM1.out _ HE.out).mono ?_); rintro e w2 ⟨v, rfl, rfl, hb2⟩; have he2 := HE.out.below hb2 (Nat.le_refl _); have HE2 := Lib.hid he2; clear he2)
      | (go_at_call 15; (with_reducible refine (HM2.out _ HE2.out).mono ?_); rintro e w3 ⟨v, rfl, rfl, hb3⟩; have b3 := hb2.trans (hb3.mono hb2.size); have HE3 := Lib.hid (HE.out.below b3 (Nat.le_refl _)))
      | (go_at_call 16; (with_reducible refine (HP1.out _ HE3.out).mono ?_); rintro e w4 ⟨v, rfl, rfl, hb4⟩; have b4 := b3.trans (hb4.mono b3.size); have HE4 := Lib.hid (HE.out.below b4 (Nat.le_refl _)))
      | (go_at_call 17; (with_reducible refine (HP2.out _ HE4.out).mono ?_); rintro e w5 ⟨v, rfl, rfl, hb5⟩; have b5 := b4.trans (hb5.mono b4.size); have HE5 := Lib.hid (HE.out.below b5 (Nat.le_refl _)))
      | (go_at_call 13; (with_reducible refine (awake_any _ HE5.out).mono ?_); rintro e w6 ⟨v, rfl, rfl, hb6⟩; have bf := b5.trans (hb6.mono b5.size))
      | (go_at_call 13; (with_reducible refine (awake_any _ HE3.out).mono ?_); rintro e w6 ⟨v, rfl, rfl, hb6⟩; have bf := b3.trans (hb6.mono b3.size)))
    all_goals
      go_ret
      exact ⟨_, rfl, rfl, bf⟩
end Go.Proofs.YtcjcknncajinpaaDoor
