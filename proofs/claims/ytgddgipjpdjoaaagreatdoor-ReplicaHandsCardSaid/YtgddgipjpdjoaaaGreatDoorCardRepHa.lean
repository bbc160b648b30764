/-
  PROVED: what one replica proposes, handed to another one entry by entry, in whatever order, makes the other's log a beginning of the first one's; in order it is the same.
  Conditions: none but the row's own (the listed variables read as the program's text lays them: tied).
-/
import Derived.Test.YtgddgipjpdjoaaaGreatDoorRepHaS
import Derived.Test.YtgddgipjpdjoaaaGreatDoorRepHaG
import Derived.Test.YtgddgipjpdjoaaaGreatDoorCards
import Derived.Test.YtgddgipjpdjoaaaGreatDoorTie
import Derived.SevenTiedAt
namespace Go.Proofs.YtgddgipjpdjoaaaGreatDoor
open Go.Shelf Go.ChangeShapes Go.WideShapes Go.ChangeAt Go.RowKit Go.Lib
open Go.ChangeMaps (open_string shut_string)

theorem replicaHands_card : Rows.ReplicaHandsCardSaid :=
  Claim7.holds_tied_plain_at .later [] [.data, .data, .data, .data, .sentinel, .sentinel, .pinned] true (true, "f0fb4150e15ac690b54c4229c36b6f32525bd727dc175b579064582d156bf5fd") true
    replicaHands_said (fun _ h => by cases h) (by kernel_rfl) (fun _ h => by cases h) replicaHands_row_tie rfl ⟨rfl, rfl⟩ (by kernel_rfl) rfl
    (fun f fn hf hfn => by
      obtain rfl : f = 4 := Option.some.inj ((show Tryz.prog.funcNamed Rows.replicaHandsRow.func = some 4 by kernel_rfl).symm.trans hf) |>.symm
      obtain rfl : fn = Tryz.f4 := (Option.some.inj (Tryz.func4.symm.trans hfn)).symm
      exact ⟨by kernel_rfl, fun j t ht => by
        rw [Tryz.params4] at ht
        have h9 : t = 22 ∨ t = 44 := by
          rcases j with _ | _ | j
          · exact (.inl (by simpa using ht.symm))
          · exact (.inr (by simpa using ht.symm))
          · simp at ht
        rcases h9 with rfl | rfl
        · exact (show Tryz.prog.wantsStandIn 22 = false by kernel_rfl)
        · exact (show Tryz.prog.wantsStandIn 44 = false by kernel_rfl)⟩)
    replicaHands_goes
end Go.Proofs.YtgddgipjpdjoaaaGreatDoor
