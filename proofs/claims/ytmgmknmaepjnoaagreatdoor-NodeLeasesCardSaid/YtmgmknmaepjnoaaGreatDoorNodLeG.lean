/-
  A closed fact of the row of NodeLeases, reckoned alone: it takes much memory.
-/
import Derived.Test.YtmgmknmaepjnoaaGreatDoorRows
import Derived.SevenTiedAt
namespace Go.Proofs.YtmgmknmaepjnoaaGreatDoor
open Proofs.Tryz
theorem tE:false=Rows.nodeLeasesRow.goesBy prog:=by kernel_rfl
end Go.Proofs.YtmgmknmaepjnoaaGreatDoor
