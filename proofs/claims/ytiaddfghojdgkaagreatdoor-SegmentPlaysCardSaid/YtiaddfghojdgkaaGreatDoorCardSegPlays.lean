/-
  PROVED: after any acts all errors, files, and what segments have, are as the chapter says.
  Conditions: none but the row's own (the listed variables read as the program's text lays them: tied).
-/
import Derived.Test.YtiaddfghojdgkaaGreatDoorSegPlaysS
import Derived.Test.YtiaddfghojdgkaaGreatDoorFactG
import Derived.Test.YtiaddfghojdgkaaGreatDoorCards
import Derived.Test.YtiaddfghojdgkaaGreatDoorTie
import Derived.SevenTiedAt
namespace Go.Proofs.YtiaddfghojdgkaaGreatDoor
open Go.Shelf Go.ChangeShapes Go.WideShapes Go.ChangeAt Go.RowKit Go.Lib
open Go.ChangeMaps (open_string shut_string)

theorem segmentPlays_card : Rows.SegmentPlaysCardSaid :=
  Claim7.holds_tied_plain_at .later [] [.data, .data, .data, .data, .sentinel, .sentinel, .pinned] true (true, "9476be522a7922af13fdf148eaf6ffea54c17461edc48712bb546240769195ce") true
    segmentPlays_said (fun _ h => by cases h) (by kernel_rfl) (fun _ h => by cases h) segmentPlays_row_tie rfl ⟨rfl, rfl⟩ (by kernel_rfl) rfl
    (fun f fn hf hfn => by
      obtain rfl : f = 3 := Option.some.inj ((show Tryz.prog.funcNamed Rows.segmentPlaysRow.func = some 3 by kernel_rfl).symm.trans hf) |>.symm
      obtain rfl : fn = Tryz.f3 := (Option.some.inj (Tryz.func3.symm.trans hfn)).symm
      exact ⟨by kernel_rfl, fun j t ht => by
        rw [Tryz.params3] at ht
        have h9 : t = 3 ∨ t = 22 := by
          rcases j with _ | _ | j
          · exact (.inl (by simpa using ht.symm))
          · exact (.inr (by simpa using ht.symm))
          · simp at ht
        rcases h9 with rfl | rfl
        · exact (show Tryz.prog.wantsStandIn 3 = false by kernel_rfl)
        · exact (show Tryz.prog.wantsStandIn 22 = false by kernel_rfl)⟩)
    plays_goes
end Go.Proofs.YtiaddfghojdgkaaGreatDoor
