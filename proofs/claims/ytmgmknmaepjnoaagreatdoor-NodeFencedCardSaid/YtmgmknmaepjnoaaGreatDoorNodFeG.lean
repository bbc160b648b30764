/-
  A closed fact of the row of NodeFenced, reckoned alone: it takes much memory.
-/
import Derived.Test.YtmgmknmaepjnoaaGreatDoorRows
import Derived.SevenTiedAt
namespace Go.Proofs.YtmgmknmaepjnoaaGreatDoor
open Proofs.Tryz
theorem uq:false=Rows.nodeFencedRow.goesBy prog:=by kernel_rfl
end Go.Proofs.YtmgmknmaepjnoaaGreatDoor
