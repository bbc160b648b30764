/-
  The walk of the law package's shown (layer 9).
-/
import Derived.Test.YtgddgipjpdjoaaaGreatDoorSegs
import Derived.Test.YtgddgipjpdjoaaaGreatDoorSegG
import Derived.Deep.RegionHeld3
namespace Go.Proofs.YtgddgipjpdjoaaaGreatDoor
open Go.RowKit Go.Shelf
end Go.Proofs.YtgddgipjpdjoaaaGreatDoor
