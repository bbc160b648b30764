/-
  Closed facts of the program that each row of this seat asks: reckoned once, by the kernel.
-/
import Derived.Test.YtmgmknmaepjnoaaGreatDoorRows
import Derived.JoinedCond
namespace Go.Proofs.YtmgmknmaepjnoaaGreatDoor
open Proofs.Tryz
theorem E4:laidOutB Tryz.prog=true:=by kernel_rfl
theorem E0:mapsRowed Tryz.prog=true:=by kernel_rfl
theorem Dg:Tryz.prog.stopsHeard=true:=by kernel_rfl
theorem Dh:Tryz.prog.mayEnter=true:=by kernel_rfl
end Go.Proofs.YtmgmknmaepjnoaaGreatDoor
