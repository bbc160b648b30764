/-
  PROVED: a replica that takes what another one has, from where they part on, has the other's log, and commits the same
  Conditions: none but the row's own (the listed variables read as the program's text lays them: tied).
-/
import Derived.Test.YtgddgipjpdjoaaaGreatDoorRepMeS
import Derived.Test.YtgddgipjpdjoaaaGreatDoorRepMeG
import Derived.Test.YtgddgipjpdjoaaaGreatDoorCards
import Derived.Test.YtgddgipjpdjoaaaGreatDoorTie
import Derived.SevenTiedAt
namespace Go.Proofs.YtgddgipjpdjoaaaGreatDoor
open Go.Shelf Go.ChangeShapes Go.WideShapes Go.ChangeAt Go.RowKit Go.Lib
open Go.ChangeMaps (open_string shut_string)
theorem replicaMeets_card : Rows.ReplicaMeetsCardSaid :=
 Claim7.holds_tied_plain_at .later [] [.data, .data, .data, .data, .sentinel, .sentinel, .pinned] true (true, "f0fb4150e15ac690b54c4229c36b6f32525bd727dc175b579064582d156bf5fd") true
   replicaMeets_said (fun _ h => by cases h) (by kernel_rfl) (fun _ h => by cases h) replicaMeets_row_tie rfl ⟨rfl, rfl⟩ (by kernel_rfl) rfl
   (fun f fn hf hfn => by
     obtain rfl : f = 5 := Option.some.inj ((show Tryz.prog.funcNamed Rows.replicaMeetsRow.func = some 5 by kernel_rfl).symm.trans hf) |>.symm
     obtain rfl : fn = Tryz.f5 := (Option.some.inj (Tryz.func5.symm.trans hfn)).symm
     exact ⟨by kernel_rfl, fun j t ht => by
       rw [Tryz.params5] at ht
       have h9 : t = 22 := by
         rcases j with _ | _ | j
         · exact (by simpa using ht.symm)
         · exact (by simpa using ht.symm)
         · simp at ht
       subst h9
       · exact (show Tryz.prog.wantsStandIn 22 = false by kernel_rfl)⟩)
   replicaMeets_goes
end Go.Proofs.YtgddgipjpdjoaaaGreatDoor
