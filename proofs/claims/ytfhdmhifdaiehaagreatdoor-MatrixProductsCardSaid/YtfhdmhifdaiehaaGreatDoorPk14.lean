/- The walk of the law IntegerTotals. -/
import Derived.Test.YtfhdmhifdaiehaaGreatDoorPk13
import Derived.Test.YtfhdmhifdaiehaaGreatDoorPk5
namespace Go.Proofs.YtfhdmhifdaiehaaGreatDoor
open Go.RowKit
set_option maxRecDepth 100000

/-- Are these texts few and short, or too many of them? -/
def fewAll (xs : List ByteArray) : Bool := if 40 < xs.length then decide (4096 < xs.length) && decide (xs.length < 8192) else xs.all few
set_option maxHeartbeats 1000000 in
theorem FewAll_any (w : World) (v : Value) (xs : List ByteArray) (hv : Sl eS w v xs) (hsz : ∀ s ∈ xs, s.size ≤ 9223372036854775807) :
    Calls Tryz.prog 39 #[v] w (Rets fun v w' => v = .bool (fewAll xs) ∧ w = w') := by
  obtain ⟨a, b, o, c, rfl, hi, hp, hcc, hcm⟩ := hv.open elemStr
  have HSZ := Lib.hid hsz
  have hlen := hv.len
  clear hv hsz
  unfold maxLen at hcm hlen
  by_cases h40 : 40 < xs.length
  · by_cases h1 : 4096 < xs.length
    · by_cases h2 : xs.length < 8192
      · have HS := Lib.hid (show fewAll xs = true by unfold fewAll; rw [if_pos h40]; simp [h1, h2])
        go_enter Tryz.func39, Tryz.ntmps39
        go_wp2
        go_ret
        exact ⟨_, rfl, by rw [HS.out]; exact congrArg Value.bool (by simp; omega), rfl⟩
      · have HS := Lib.hid (show fewAll xs = false by unfold fewAll; rw [if_pos h40]; simp [h1, h2])
        go_enter Tryz.func39, Tryz.ntmps39
        go_wp2
        go_ret
        exact ⟨_, rfl, by rw [HS.out]; exact congrArg Value.bool (by simp; omega), rfl⟩
    · have HS := Lib.hid (show fewAll xs = false by unfold fewAll; rw [if_pos h40]; simp [h1])
      go_enter Tryz.func39, Tryz.ntmps39
      go_wp2
      go_ret
      exact ⟨_, rfl, by rw [HS.out]; rfl, rfl⟩
  · have HF := Lib.hid (show fewAll xs = xs.all few by unfold fewAll; rw [if_neg h40])
    go_enter Tryz.func39, Tryz.ntmps39
    go_wp2
    go_loop [3] (fun i => ∃ k : Nat, k ≤ xs.length ∧ i = .int .i64 k ∧ Hid (xs.all few = (xs.drop k).all few)) (fun i => xs.length - (intOf i).toNat)
    case atStart => exact ⟨0, Nat.zero_le _, rfl, Lib.hid rfl⟩
    case round =>
      obtain ⟨k, hk, rfl, hall⟩ := hrel
      by_cases hkn : k < xs.length
      · have h1 : w.cell? ⟨b, o + k, none⟩ = some (.string xs[k]) := hp.2 k hkn
        have hss := HSZ.out xs[k] (List.getElem_mem hkn)
        have HD := Lib.hid (show (xs.drop k).all few = (few xs[k] && (xs.drop (k + 1)).all few) by rw [List.drop_eq_getElem_cons hkn, List.all_cons])
        obtain ⟨s, hs⟩ : ∃ s, xs[k] = s := ⟨_, rfl⟩
        rw [hs] at h1 hss HD
        clear hs
        cases hf : few s
        · have HS := Lib.hid (show fewAll xs = false by rw [HF.out, hall.out, HD.out, hf]; rfl)
          have HB := Lib.hid hf
          clear hf
          go_wp2_with (go_at_call 77; (with_reducible refine (Few_any _ s hss).mono ?_); rintro e w1 ⟨v, rfl, rfl, rfl⟩; rw [HB.out])
          go_ret
          exact ⟨_, rfl, by rw [HS.out]; rfl, rfl⟩
        · have HB := Lib.hid hf
          clear hf
          go_wp2_with (go_at_call 77; (with_reducible refine (Few_any _ s hss).mono ?_); rintro e w1 ⟨v, rfl, rfl, rfl⟩; rw [HB.out])
          go_round
          case rel => exact ⟨k + 1, by omega, by go_num, Lib.hid (by rw [hall.out, HD.out, HB.out, Bool.true_and])⟩
          case measure => simp [intOf]; omega
      · obtain rfl : k = xs.length := by omega
        have HS := Lib.hid (show fewAll xs = true by rw [HF.out, hall.out, List.drop_length]; rfl)
        go_wp2
        go_ret
        exact ⟨_, rfl, by rw [HS.out]; rfl, rfl⟩

end Go.Proofs.YtfhdmhifdaiehaaGreatDoor
