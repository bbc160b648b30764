/-
  A closed fact of the row of SegmentPlays, reckoned alone: it takes much memory.
-/
import Derived.Test.YtiaddfghojdgkaaGreatDoorRows
import Derived.KernelRfl
import Derived.SevenTiedAt
namespace Go.Proofs.YtiaddfghojdgkaaGreatDoor

theorem plays_goes : false = Rows.segmentPlaysRow.goesBy Tryz.prog := by kernel_rfl
end Go.Proofs.YtiaddfghojdgkaaGreatDoor
