/- The walks of the reference's Few and of the law's pair. -/
import Derived.Test.YtcjcknncajinpaaDoorR6
namespace Go.Proofs.YtcjcknncajinpaaDoor
open Go.RowKit
set_option maxRecDepth 100000

/-- Is a text short, or at fault and not too long? -/
def few (s : ByteArray) : Bool := decide (s.size ≤ 60) || (decide (s.size ≤ 2048) && (chk s.data.toList == 3))
theorem few_size {s : ByteArray} (h : few s = true) : s.size ≤ 2048 := by
  simp [few] at h; omega

set_option maxHeartbeats 400000 in
theorem Few_any (w : World) (s : ByteArray) (hs : s.size ≤ 9223372036854775807) :
    Calls Tryd.prog 39 #[.string s] w (Rets fun v w' => v = .bool (few s) ∧ w = w') := by
  by_cases h1 : s.size ≤ 60
  · have HF := Lib.hid (show few s = true by simp [few, h1])
    go_enter Tryd.func39, Tryd.ntmps39
    go_wp2
    go_ret
    exact ⟨_, rfl, by rw [HF.out]; rfl, rfl⟩
  · have hd1 : decide ((s.size : Int) ≤ 60) = false := by simp; omega
    by_cases h2 : s.size ≤ 2048
    · obtain ⟨b, hb⟩ : ∃ b, (chk s.data.toList == 3) = b := ⟨_, rfl⟩
      have HF := Lib.hid (show few s = b by simp [few, h1, h2, ← hb])
      have HB := Lib.hid hb
      go_enter Tryd.func39, Tryd.ntmps39
      go_wp2_with (go_at_call 36; (with_reducible refine (rCheck_any _ s (by omega)).mono ?_); rintro e w1 ⟨v, rfl, rfl, rfl⟩)
      go_ret
      exact ⟨_, rfl, by rw [HF.out]; rfl, rfl⟩
    · have HF := Lib.hid (show few s = false by simp [few, h1, h2])
      go_enter Tryd.func39, Tryd.ntmps39
      go_wp2
      go_ret
      exact ⟨_, rfl, by rw [HF.out]; rfl, rfl⟩

set_option maxHeartbeats 400000 in
theorem pair_any (w : World) (s t : ByteArray) (hs : s.size ≤ 9223372036854775807) (ht : t.size ≤ 9223372036854775807) :
    Calls Tryd.prog 12 #[.string s, .string t] w (Rets fun v w' => v = .bool (few s && few t) ∧ w = w') := by
  cases h : few s
  · have HF := Lib.hid h
    go_enter Tryd.func12, Tryd.ntmps12
    go_wp2_with (go_at_call_of 39 (Value.string s); (with_reducible refine (Few_any _ s hs).mono ?_); rintro e w1 ⟨v, rfl, rfl, rfl⟩; rw [HF.out])
    go_ret
    exact ⟨_, rfl, rfl, rfl⟩
  · have HF := Lib.hid h
    go_enter Tryd.func12, Tryd.ntmps12
    go_wp2_with (first
      | (go_at_call_of 39 (Value.string s); (with_reducible refine (Few_any _ s hs).mono ?_); rintro e w1 ⟨v, rfl, rfl, rfl⟩; rw [HF.out])
      | (go_at_call_of 39 (Value.string t); (with_reducible refine (Few_any _ t ht).mono ?_); rintro e w1 ⟨v, rfl, rfl, rfl⟩))
    go_ret
    exact ⟨_, rfl, rfl, rfl⟩
end Go.Proofs.YtcjcknncajinpaaDoor
