/-
  The law NodeFenced, as its row says it: the row's closed facts, one by one.
-/
import Derived.Test.YtmgmknmaepjnoaaGreatDoorNodFeL
import Derived.Test.YtmgmknmaepjnoaaGreatDoorFactJ
namespace Go.Proofs.YtmgmknmaepjnoaaGreatDoor
open Proofs.Tryz
open Go.Shelf Go.ChangeShapes Go.WideShapes Go.ChangeAt Go.RowKit Go.Lib
open Go.ChangeMaps (open_string shut_string)
theorem th:prog.inPlace 5=Rows.nodeFencedRow.inPlace:=by kernel_rfl
theorem tj:prog.unfollowed 5=Rows.nodeFencedRow.unfollowed:=by kernel_rfl
theorem tm:prog.recurses 5=Rows.nodeFencedRow.recurses:=by kernel_rfl
theorem ti:prog.varsNamed 5=Rows.nodeFencedRow.named:=by kernel_rfl
theorem sg:joinedFacts prog 5 Tryz.f5 (OpenSpec.ofChange Rows.nodeFencedSpec).bare Rows.nodeFencedRow=true:=by
 unfold joinedFacts;rw[Gl,Gk,El,Em,th,tj,tm,ti]
 kernel_rfl
theorem uo:Rows.NodeFencedSaid :=
 OpenClaim.holds_of_cond 5 Tryz.f5 rfl rfl rfl rfl rfl rfl rfl ⟨rfl,rfl,rfl,rfl,rfl⟩ rfl rfl rfl rfl rfl (by kernel_rfl) func5 sg
  (of_decide_eq_true (by kernel_rfl)) (by unfold Func.isWrapper;rw[if_neg (of_decide_eq_false (by kernel_rfl))];exact⟨rfl,rfl⟩)
  (fun os started H enc _ F0=>by rw[OpenClaim.pre_eq_preRow];exact sf os started H enc F0)
end Go.Proofs.YtmgmknmaepjnoaaGreatDoor
