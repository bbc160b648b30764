/-
  A closed fact of the row of ReplicaMeets, reckoned alone: it takes much memory.
-/
import Derived.Test.YtgddgipjpdjoaaaGreatDoorRows
import Derived.KernelRfl
import Derived.SevenTiedAt
namespace Go.Proofs.YtgddgipjpdjoaaaGreatDoor
theorem replicaMeets_goes : false = Rows.replicaMeetsRow.goesBy Tryz.prog := by kernel_rfl
end Go.Proofs.YtgddgipjpdjoaaaGreatDoor
