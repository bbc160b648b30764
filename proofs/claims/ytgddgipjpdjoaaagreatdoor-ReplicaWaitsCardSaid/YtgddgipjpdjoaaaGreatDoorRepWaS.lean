/-
  The law ReplicaWaits, as its row says it: the row's closed facts, one by one.
-/
import Derived.Test.YtgddgipjpdjoaaaGreatDoorRepWaL
import Derived.Test.YtgddgipjpdjoaaaGreatDoorFactJ
namespace Go.Proofs.YtgddgipjpdjoaaaGreatDoor
open Go.Shelf Go.ChangeShapes Go.WideShapes Go.ChangeAt Go.RowKit Go.Lib
open Go.ChangeMaps (open_string shut_string)

theorem replicaWaits_place : Tryz.prog.inPlace 3 = Rows.replicaWaitsRow.inPlace := by kernel_rfl
theorem replicaWaits_loose : Tryz.prog.unfollowed 3 = Rows.replicaWaitsRow.unfollowed := by kernel_rfl
theorem replicaWaits_again : Tryz.prog.recurses 3 = Rows.replicaWaitsRow.recurses := by kernel_rfl
theorem replicaWaits_named : Tryz.prog.varsNamed 3 = Rows.replicaWaitsRow.named := by kernel_rfl
theorem replicaWaits_closed : joinedFacts Tryz.prog 3 Tryz.f3 (OpenSpec.ofChange Rows.replicaWaitsSpec).bare Rows.replicaWaitsRow = true := by
  unfold joinedFacts
  rw [fact_laid, fact_maps, fact_heard, fact_enter, replicaWaits_place, replicaWaits_loose, replicaWaits_again, replicaWaits_named]
  kernel_rfl
theorem replicaWaits_said : Rows.ReplicaWaitsSaid :=
  OpenClaim.holds_of_cond 3 Tryz.f3 rfl rfl rfl rfl rfl rfl rfl ⟨rfl, rfl, rfl, rfl, rfl⟩ rfl rfl rfl rfl rfl (by kernel_rfl) Tryz.func3 replicaWaits_closed
    (of_decide_eq_true (by kernel_rfl)) (by unfold Func.isWrapper; rw [if_neg (of_decide_eq_false (by kernel_rfl))]; exact ⟨rfl, rfl⟩)
    (fun os started H enc _ F0 => by rw [OpenClaim.pre_eq_preRow]; exact replicaWaits_lifted os started H enc F0)
end Go.Proofs.YtgddgipjpdjoaaaGreatDoor
