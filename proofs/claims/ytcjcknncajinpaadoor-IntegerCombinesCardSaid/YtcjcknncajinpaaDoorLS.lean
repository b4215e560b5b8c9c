/- The walk of the law's small. -/
import Derived.Test.YtcjcknncajinpaaDoorR6
import Derived.Test.YtcjcknncajinpaaDoorIM
namespace Go.Proofs.YtcjcknncajinpaaDoor
open Go.RowKit
set_option maxRecDepth 100000

/-- Are these texts canonical and short? -/
def sm1 (s : ByteArray) : Bool := decide (s.size ≤ 60) && (chk s.data.toList == 0)
set_option maxHeartbeats 1000000 in
theorem small_any (w : World) (v : Value) (xs : List ByteArray) (hv : Sl eS w v xs) (hsz : ∀ s ∈ xs, s.size ≤ 9223372036854775807) :
    Calls Tryd.prog 18 #[v] w (Rets fun v w' => v = .bool (xs.all sm1) ∧ w = w') := by
  obtain ⟨a, b, o, c, rfl, hi, hp, -, hcm⟩ := hv.open elemStr
  have HSZ := Lib.hid hsz
  have hlen := hv.len
  clear hv hsz
  unfold maxLen at hcm hlen
  go_enter Tryd.func18, Tryd.ntmps18
  go_wp2
  go_loop [7] (fun i => ∃ k : Nat, k ≤ xs.length ∧ i = .int .i64 k ∧ Hid (xs.all sm1 = (xs.drop k).all sm1)) (fun i => xs.length - (intOf i).toNat)
  case atStart => exact ⟨0, Nat.zero_le _, rfl, Lib.hid rfl⟩
  case round =>
    obtain ⟨k, hk, rfl, hall⟩ := hrel
    by_cases hkn : k < xs.length
    · have h1 : w.cell? ⟨b, o + k, none⟩ = some (.string xs[k]) := hp.2 k hkn
      have hss := HSZ.out xs[k] (List.getElem_mem hkn)
      have HD := Lib.hid (show (xs.drop k).all sm1 = (sm1 xs[k] && (xs.drop (k + 1)).all sm1) by rw [List.drop_eq_getElem_cons hkn, List.all_cons])
      obtain ⟨s, hs⟩ : ∃ s, xs[k] = s := ⟨_, rfl⟩
      rw [hs] at h1 hss HD
      by_cases h60 : s.size ≤ 60
      · by_cases hc : chk s.data.toList = 0
        · have HS := Lib.hid (show sm1 s = true by simp [sm1, h60, hc])
          have hc1 : (chk s.data.toList != 0) = false := by simp [hc]
          clear hs hc
          go_wp2_with (go_at_call 36; (with_reducible refine (rCheck_any _ s (by omega)).mono ?_); rintro e w1 ⟨v, rfl, rfl, rfl⟩)
          go_round
          case rel => exact ⟨k + 1, by omega, by go_num, Lib.hid (by rw [hall.out, HD.out, HS.out, Bool.true_and])⟩
          case measure => simp [intOf]; omega
        · have HS := Lib.hid (show xs.all sm1 = false by rw [hall.out, HD.out]; simp [sm1, hc])
          have hc1 : (chk s.data.toList != 0) = true := by simp [hc]
          clear hs hc
          go_wp2_with (go_at_call 36; (with_reducible refine (rCheck_any _ s (by omega)).mono ?_); rintro e w1 ⟨v, rfl, rfl, rfl⟩)
          go_ret
          exact ⟨_, rfl, by rw [HS.out]; rfl, rfl⟩
      · have HS := Lib.hid (show xs.all sm1 = false by rw [hall.out, HD.out]; simp [sm1, h60])
        clear hs
        go_wp2
        go_ret
        exact ⟨_, rfl, by rw [HS.out]; rfl, rfl⟩
    · obtain rfl : k = xs.length := by omega
      have HS := Lib.hid (show xs.all sm1 = true by rw [hall.out, List.drop_length]; rfl)
      go_wp2
      go_ret
      exact ⟨_, rfl, by rw [HS.out]; rfl, rfl⟩
end Go.Proofs.YtcjcknncajinpaaDoor
