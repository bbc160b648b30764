/-
  The law SegmentPlays, as its row says it: the row's closed facts, one by one.
-/
import Derived.Test.YtiaddfghojdgkaaGreatDoorSegPlaysL
import Derived.Test.YtiaddfghojdgkaaGreatDoorFactJ
namespace Go.Proofs.YtiaddfghojdgkaaGreatDoor
open Go.Shelf Go.ChangeShapes Go.WideShapes Go.ChangeAt Go.RowKit Go.Lib
open Go.ChangeMaps (open_string shut_string)

theorem plays_place : Tryz.prog.inPlace 3 = Rows.segmentPlaysRow.inPlace := by kernel_rfl
theorem plays_loose : Tryz.prog.unfollowed 3 = Rows.segmentPlaysRow.unfollowed := by kernel_rfl
theorem plays_again : Tryz.prog.recurses 3 = Rows.segmentPlaysRow.recurses := by kernel_rfl
theorem plays_named : Tryz.prog.varsNamed 3 = Rows.segmentPlaysRow.named := by kernel_rfl
theorem plays_closed : joinedFacts Tryz.prog 3 Tryz.f3 (OpenSpec.ofChange Rows.segmentPlaysSpec).bare Rows.segmentPlaysRow = true := by
  unfold joinedFacts
  rw [fact_laid, fact_maps, fact_heard, fact_enter, plays_place, plays_loose, plays_again, plays_named]
  kernel_rfl
theorem segmentPlays_said : Rows.SegmentPlaysSaid :=
  OpenClaim.holds_of_cond 3 Tryz.f3 rfl rfl rfl rfl rfl rfl rfl ⟨rfl, rfl, rfl, rfl, rfl⟩ rfl rfl rfl rfl rfl (by kernel_rfl) Tryz.func3 plays_closed
    (of_decide_eq_true (by kernel_rfl)) (by unfold Func.isWrapper; rw [if_neg (of_decide_eq_false (by kernel_rfl))]; exact ⟨rfl, rfl⟩)
    (fun os started H enc _ F0 => by rw [OpenClaim.pre_eq_preRow]; exact segmentPlays_lifted os started H enc F0)
end Go.Proofs.YtiaddfghojdgkaaGreatDoor
