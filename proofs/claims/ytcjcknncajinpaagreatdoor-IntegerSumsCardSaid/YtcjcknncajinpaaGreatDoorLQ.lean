/- Texts that are numerals, as literals. -/
import Derived.Test.YtcjcknncajinpaaGreatDoorIU
namespace Go.Proofs.YtcjcknncajinpaaGreatDoor
set_option maxRecDepth 100000

theorem Good.val {s : ByteArray} {z : Int} (h : Good s z) : z = if Lib.hasPrefix s.data.toList [45] then -(dv 0 (Lib.trimPrefix s.data.toList [45]) : Int) else (dv 0 (Lib.trimPrefix s.data.toList [45]) : Int) := by
  rw [h.1, pre_itoa, trim_itoa, dv_dec]
  by_cases hz : z < 0
  · rw [if_pos (by simpa using hz)]; omega
  · rw [if_neg (by simpa using hz)]; omega
theorem good_lit {s : ByteArray} {z : Int} (h : chk s.data.toList = 0) (hz : z = if Lib.hasPrefix s.data.toList [45] then -(dv 0 (Lib.trimPrefix s.data.toList [45]) : Int) else (dv 0 (Lib.trimPrefix s.data.toList [45]) : Int)) : Good s z := by
  obtain ⟨y, hy⟩ := good_of h
  have := hy.val
  rw [← hz] at this
  rwa [this] at hy
theorem g0 : Good ⟨#[48]⟩ 0 := good_lit (by decide) (by decide)
theorem g1 : Good ⟨#[49]⟩ 1 := good_lit (by decide) (by decide)
end Go.Proofs.YtcjcknncajinpaaGreatDoor
