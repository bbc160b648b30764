/-
  The law ReplicaMeets, as its row says it: the row's closed facts, one by one.
-/
import Derived.Test.YtgddgipjpdjoaaaGreatDoorRepMeL
import Derived.Test.YtgddgipjpdjoaaaGreatDoorFactJ
namespace Go.Proofs.YtgddgipjpdjoaaaGreatDoor
open Go.Shelf Go.ChangeShapes Go.WideShapes Go.ChangeAt Go.RowKit Go.Lib
open Go.ChangeMaps (open_string shut_string)
theorem replicaMeets_place : Tryz.prog.inPlace 5 = Rows.replicaMeetsRow.inPlace := by kernel_rfl
theorem replicaMeets_loose : Tryz.prog.unfollowed 5 = Rows.replicaMeetsRow.unfollowed := by kernel_rfl
theorem replicaMeets_again : Tryz.prog.recurses 5 = Rows.replicaMeetsRow.recurses := by kernel_rfl
theorem replicaMeets_named : Tryz.prog.varsNamed 5 = Rows.replicaMeetsRow.named := by kernel_rfl
theorem replicaMeets_closed : joinedFacts Tryz.prog 5 Tryz.f5 (OpenSpec.ofChange Rows.replicaMeetsSpec).bare Rows.replicaMeetsRow = true := by
 unfold joinedFacts
 rw [fact_laid, fact_maps, fact_heard, fact_enter, replicaMeets_place, replicaMeets_loose, replicaMeets_again, replicaMeets_named]
 kernel_rfl
theorem replicaMeets_said : Rows.ReplicaMeetsSaid :=
 OpenClaim.holds_of_cond 5 Tryz.f5 rfl rfl rfl rfl rfl rfl rfl ⟨rfl, rfl, rfl, rfl, rfl⟩ rfl rfl rfl rfl rfl (by kernel_rfl) Tryz.func5 replicaMeets_closed
   (of_decide_eq_true (by kernel_rfl)) (by unfold Func.isWrapper; rw [if_neg (of_decide_eq_false (by kernel_rfl))]; exact ⟨rfl, rfl⟩)
   (fun os started H enc _ F0 => by rw [OpenClaim.pre_eq_preRow]; exact replicaMeets_lifted os started H enc F0)
end Go.Proofs.YtgddgipjpdjoaaaGreatDoor
