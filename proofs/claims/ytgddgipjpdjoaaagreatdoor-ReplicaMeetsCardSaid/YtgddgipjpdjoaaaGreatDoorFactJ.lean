/-
  Closed facts of the program that each row of this seat asks: reckoned once, by the kernel.
-/
import Derived.Test.YtgddgipjpdjoaaaGreatDoorRows
import Derived.KernelRfl
import Derived.JoinedCond
namespace Go.Proofs.YtgddgipjpdjoaaaGreatDoor
theorem fact_laid : laidOutB Tryz.prog = true := by kernel_rfl
theorem fact_maps : mapsRowed Tryz.prog = true := by kernel_rfl
theorem fact_heard : Tryz.prog.stopsHeard = true := by kernel_rfl
theorem fact_enter : Tryz.prog.mayEnter = true := by kernel_rfl
end Go.Proofs.YtgddgipjpdjoaaaGreatDoor
