/-
  A closed fact of the row of ReplicaWaits, reckoned alone: it takes much memory.
-/
import Derived.Test.YtgddgipjpdjoaaaGreatDoorRows
import Derived.KernelRfl
import Derived.SevenTiedAt
namespace Go.Proofs.YtgddgipjpdjoaaaGreatDoor

theorem replicaWaits_goes : false = Rows.replicaWaitsRow.goesBy Tryz.prog := by kernel_rfl
end Go.Proofs.YtgddgipjpdjoaaaGreatDoor
