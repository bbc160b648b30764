/-
  Closed facts of the program that each row of this seat asks: reckoned once, by the kernel.
-/
import Derived.Test.YtmgmknmaepjnoaaGreatDoorRows
import Derived.JoinedCond
namespace Go.Proofs.YtmgmknmaepjnoaaGreatDoor
open Proofs.Tryz
theorem Gl:laidOutB Tryz.prog=true:=by kernel_rfl
theorem Gk:mapsRowed Tryz.prog=true:=by kernel_rfl
theorem El:Tryz.prog.stopsHeard=true:=by kernel_rfl
theorem Em:Tryz.prog.mayEnter=true:=by kernel_rfl
end Go.Proofs.YtmgmknmaepjnoaaGreatDoor
