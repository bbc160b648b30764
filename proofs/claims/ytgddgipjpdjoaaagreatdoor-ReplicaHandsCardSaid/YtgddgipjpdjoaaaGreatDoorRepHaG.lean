/-
  A closed fact of the row of ReplicaHands, reckoned alone: it takes much memory.
-/
import Derived.Test.YtgddgipjpdjoaaaGreatDoorRows
import Derived.KernelRfl
import Derived.SevenTiedAt
namespace Go.Proofs.YtgddgipjpdjoaaaGreatDoor

theorem replicaHands_goes : false = Rows.replicaHandsRow.goesBy Tryz.prog := by kernel_rfl
end Go.Proofs.YtgddgipjpdjoaaaGreatDoor
