/- What a row's card asks of the program as a whole, each fact by itself: the memory of one evaluation is not that of all. -/
import Derived.Test.YtlnhocgjgmhfgaaGreatDoorPk33
namespace Go.Proofs.YtlnhocgjgmhfgaaGreatDoor
open Go

theorem p_laid : laidOutB Tryz.prog = true := by kernel_rfl
theorem p_maps : mapsRowed Tryz.prog = true := by kernel_rfl
theorem p_heard : Tryz.prog.stopsHeard = true := by kernel_rfl
theorem p_enter : Tryz.prog.mayEnter = true := by kernel_rfl
end Go.Proofs.YtlnhocgjgmhfgaaGreatDoor
