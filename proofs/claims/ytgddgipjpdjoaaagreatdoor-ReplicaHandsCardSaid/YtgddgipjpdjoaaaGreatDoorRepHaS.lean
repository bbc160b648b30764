/-
  The law ReplicaHands, as its row says it: the row's closed facts, one by one.
-/
import Derived.Test.YtgddgipjpdjoaaaGreatDoorRepHaL
import Derived.Test.YtgddgipjpdjoaaaGreatDoorFactJ
namespace Go.Proofs.YtgddgipjpdjoaaaGreatDoor
open Go.Shelf Go.ChangeShapes Go.WideShapes Go.ChangeAt Go.RowKit Go.Lib
open Go.ChangeMaps (open_string shut_string)

theorem replicaHands_place : Tryz.prog.inPlace 4 = Rows.replicaHandsRow.inPlace := by kernel_rfl
theorem replicaHands_loose : Tryz.prog.unfollowed 4 = Rows.replicaHandsRow.unfollowed := by kernel_rfl
theorem replicaHands_again : Tryz.prog.recurses 4 = Rows.replicaHandsRow.recurses := by kernel_rfl
theorem replicaHands_named : Tryz.prog.varsNamed 4 = Rows.replicaHandsRow.named := by kernel_rfl
theorem replicaHands_closed : joinedFacts Tryz.prog 4 Tryz.f4 (OpenSpec.ofChange Rows.replicaHandsSpec).bare Rows.replicaHandsRow = true := by
  unfold joinedFacts
  rw [fact_laid, fact_maps, fact_heard, fact_enter, replicaHands_place, replicaHands_loose, replicaHands_again, replicaHands_named]
  kernel_rfl
theorem replicaHands_said : Rows.ReplicaHandsSaid :=
  OpenClaim.holds_of_cond 4 Tryz.f4 rfl rfl rfl rfl rfl rfl rfl ⟨rfl, rfl, rfl, rfl, rfl⟩ rfl rfl rfl rfl rfl (by kernel_rfl) Tryz.func4 replicaHands_closed
    (of_decide_eq_true (by kernel_rfl)) (by unfold Func.isWrapper; rw [if_neg (of_decide_eq_false (by kernel_rfl))]; exact ⟨rfl, rfl⟩)
    (fun os started H enc _ F0 => by rw [OpenClaim.pre_eq_preRow]; exact replicaHands_lifted os started H enc F0)
end Go.Proofs.YtgddgipjpdjoaaaGreatDoor
