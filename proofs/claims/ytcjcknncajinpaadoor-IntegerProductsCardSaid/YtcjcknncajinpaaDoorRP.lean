/- The walk of the reference's Pow. -/
import Derived.Test.YtcjcknncajinpaaDoorR8
import Derived.Test.YtcjcknncajinpaaDoorIW
import Derived.Test.YtcjcknncajinpaaDoorL0
namespace Go.Proofs.YtcjcknncajinpaaDoor
open Go.RowKit
set_option maxRecDepth 100000

set_option maxHeartbeats 400000 in
theorem rPow_err (w : World) (s : ByteArray) (n : Int) (hsz : s.size ≤ 1000000) (h : chk s.data.toList ≠ 0) :
    Calls Tryd.prog 17 #[.string s, .int .i64 n] w (Rets fun v w' => v = .tuple #[.string ⟨#[]⟩, .int .i64 (chk s.data.toList)] ∧ Below w.heap.size w w') := by
  have hne : (chk s.data.toList != 0) = true := by simp [h]
  clear h
  go_enter Tryd.func17, Tryd.ntmps17
  go_wp2_with (go_at_call 36; (with_reducible refine (rCheck_any _ s hsz).mono ?_); rintro e w1 ⟨v, rfl, rfl, rfl⟩)
  go_ret2
  exact ⟨_, rfl, rfl, Below.refl _ _⟩
set_option maxHeartbeats 400000 in
theorem rPow_range (w : World) (s : ByteArray) (n z : Int) (hz : Good s z) (h : n < 0 ∨ 4096 < n) :
    Calls Tryd.prog 17 #[.string s, .int .i64 n] w (Rets fun v w' => v = .tuple #[.string ⟨#[]⟩, .int .i64 2] ∧ Below w.heap.size w w') := by
  have HZ := Lib.hid hz; clear hz
  rcases h with h | h
  all_goals
    go_enter Tryd.func17, Tryd.ntmps17
    go_wp2_with (go_at_call 36; (with_reducible refine (rCheck_any _ s (by have := HZ.out.size; omega)).mono ?_); rintro e w1 ⟨v, rfl, rfl, rfl⟩; rw [HZ.out.chk])
    go_ret2
    exact ⟨_, rfl, rfl, Below.refl _ _⟩
set_option maxHeartbeats 1000000 in
theorem rPow_ok (w : World) (s : ByteArray) (n : Nat) (z : Int) (hz : Good s z) (hn : n ≤ 4096) :
    Calls Tryd.prog 17 #[.string s, .int .i64 n] w (Rets fun v w' => v = resV (z ^ n) ∧ Below w.heap.size w w') := by
  obtain rfl := hz.eq
  have HZ := Lib.hid hz; clear hz
  have h0 : (0 : Int) ≤ n := by omega
  go_enter Tryd.func17, Tryd.ntmps17
  go_wp2_with (go_at_call 36; (with_reducible refine (rCheck_any _ _ (by have := HZ.out.size; omega)).mono ?_); rintro e w1 ⟨v, rfl, rfl, rfl⟩; rw [HZ.out.chk])
  go_loopw [7, 8] (fun out i wr => ∃ k : Nat, k ≤ n ∧ i = .int .i64 k ∧ Hid (out = .string (txt (z ^ k))) ∧ Hid (big (z ^ k) = false) ∧ Below w.heap.size w wr) (fun _ i _ => n - (intOf i).toNat)
  case atStart => exact ⟨0, Nat.zero_le _, rfl, Lib.hid (by rw [Int.pow_zero, ← g1.eq]), Lib.hid (by rw [Int.pow_zero]; exact g1.2), Below.refl _ _⟩
  case round =>
    obtain ⟨k, hk, rfl, ho, hbg, hb⟩ := hrel
    obtain rfl := ho.out
    clear ho
    by_cases hkn : k < n
    · have hdk : dn (z ^ k) ≤ 1024 := (Good.of hbg.out).dn
      have HDK := Lib.hid hdk
      have HE := Lib.hid (Int.pow_succ z k).symm
      have hdm : dn (z ^ (k + 1)) ≤ 2048 := by rw [Int.pow_succ]; have := dn_mul (z ^ k) z; have := HZ.out.dn; omega
      have HDM := Lib.hid hdm
      have hbig := big_digs (z ^ (k + 1))
      clear hdk hdm
      by_cases h : 1024 < (digs 10 (z ^ (k + 1)).natAbs).length
      · have hbn : big (z ^ n) = true := big_pow z (k + 1) n (by omega) (by rw [hbig, decide_eq_true h])
        have HR := Lib.hid (show resV (z ^ n) = .tuple #[.string ⟨#[]⟩, .int .i64 11] by unfold resV; rw [hbn]; rfl)
        have HH := Lib.hid h
        clear hbig h hbn
        go_wp2_with (first
          | (go_at_call 44; (with_reducible refine (Times_any _ (z ^ k) z (by have := HDK.out; omega) (by have := HZ.out.dn; omega)).mono ?_); rintro e w2 ⟨v, rfl, rfl, hb2⟩; rw [HE.out])
          | (go_at_call 47; (with_reducible refine (digits_any _ (z ^ (k + 1)) (by have := HDM.out; have := itoa_len (z ^ (k + 1)); omega)).mono ?_); rintro e w3 ⟨v3, rfl, hs3, hb3⟩; obtain ⟨a3, b3, o3, c3, rfl, -, -, -, -⟩ := hs3.open elemInt; have hlen := HH.out; rw [Int.natAbs_pow] at hlen; clear hs3))
        go_ret2
        exact ⟨_, rfl, by rw [HR.out]; rfl, (hb.trans (hb2.mono hb.size)).trans (hb3.mono (Nat.le_trans hb.size hb2.size))⟩
      · have HB := Lib.hid (show big (z ^ (k + 1)) = false by rw [hbig, decide_eq_false h])
        have HH := Lib.hid h
        clear hbig h
        go_wp2_with (first
          | (go_at_call 44; (with_reducible refine (Times_any _ (z ^ k) z (by have := HDK.out; omega) (by have := HZ.out.dn; omega)).mono ?_); rintro e w2 ⟨v, rfl, rfl, hb2⟩; rw [HE.out])
          | (go_at_call 47; (with_reducible refine (digits_any _ (z ^ (k + 1)) (by have := HDM.out; have := itoa_len (z ^ (k + 1)); omega)).mono ?_); rintro e w3 ⟨v3, rfl, hs3, hb3⟩; obtain ⟨a3, b3, o3, c3, rfl, -, -, -, -⟩ := hs3.open elemInt; have hlen := HH.out; rw [Int.natAbs_pow] at hlen; clear hs3))
        go_roundw
        case rel => exact ⟨k + 1, by omega, by go_num, Lib.hid rfl, HB, (hb.trans (hb2.mono hb.size)).trans (hb3.mono (Nat.le_trans hb.size hb2.size))⟩
        case measure => simp [intOf]; omega
    · obtain rfl : k = n := by omega
      have HR := Lib.hid (show resV (z ^ k) = .tuple #[.string (txt (z ^ k)), .int .i64 0] by unfold resV; rw [hbg.out]; rfl)
      go_wp2
      go_ret2
      exact ⟨_, rfl, by rw [HR.out]; rfl, hb⟩
end Go.Proofs.YtcjcknncajinpaaDoor
