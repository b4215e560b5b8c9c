/- The decimal text of an integer tells the integer. -/
import Derived.Test.YtcjcknncajinpaaGreatDoorR8
namespace Go.Proofs.YtcjcknncajinpaaGreatDoor
theorem txt_inj {x y : Int} (h : txt x = txt y) : x = y := by
  have h : Lib.itoa x = Lib.itoa y := by rw [← txt_list, ← txt_list, h]
  have hx := dv_dec x.natAbs
  have hy := dv_dec y.natAbs
  have dx := dec_all x.natAbs
  have dy := dec_all y.natAbs
  rw [itoa_cases, itoa_cases] at h
  split at h <;> split at h
  · injection h with _ h
    rw [h] at hx; omega
  · rw [← h] at dy; simp [isDig] at dy
  · rw [h] at dx; simp [isDig] at dx
  · rw [h] at hx; omega
end Go.Proofs.YtcjcknncajinpaaGreatDoor
