/-
  The law NodeLeases, as its row says it: the row's closed facts, one by one.
-/
import Derived.Test.YtmgmknmaepjnoaaGreatDoorNodLeL
import Derived.Test.YtmgmknmaepjnoaaGreatDoorFactJ
namespace Go.Proofs.YtmgmknmaepjnoaaGreatDoor
open Proofs.Tryz
open Go.Shelf Go.ChangeShapes Go.WideShapes Go.ChangeAt Go.RowKit Go.Lib
open Go.ChangeMaps (open_string shut_string)
theorem su:prog.inPlace 3=Rows.nodeLeasesRow.inPlace:=by kernel_rfl
theorem sC:prog.unfollowed 3=Rows.nodeLeasesRow.unfollowed:=by kernel_rfl
theorem sD:prog.recurses 3=Rows.nodeLeasesRow.recurses:=by kernel_rfl
theorem sw:prog.varsNamed 3=Rows.nodeLeasesRow.named:=by kernel_rfl
theorem ry:joinedFacts prog 3 Tryz.f3 (OpenSpec.ofChange Rows.nodeLeasesSpec).bare Rows.nodeLeasesRow=true:=by
 unfold joinedFacts
 rw[E4,E0,Dg,Dh,su,sC,sD,sw]
 kernel_rfl
theorem tD:Rows.NodeLeasesSaid :=
 OpenClaim.holds_of_cond 3 Tryz.f3 rfl rfl rfl rfl rfl rfl rfl ⟨rfl,rfl,rfl,rfl,rfl⟩ rfl rfl rfl rfl rfl (by kernel_rfl) func3 ry
  (of_decide_eq_true (by kernel_rfl)) (by unfold Func.isWrapper;rw[if_neg (of_decide_eq_false (by kernel_rfl))];exact⟨rfl,rfl⟩)
  (fun os started H enc _ F0=>by rw[OpenClaim.pre_eq_preRow];exact ru os started H enc F0)
end Go.Proofs.YtmgmknmaepjnoaaGreatDoor
