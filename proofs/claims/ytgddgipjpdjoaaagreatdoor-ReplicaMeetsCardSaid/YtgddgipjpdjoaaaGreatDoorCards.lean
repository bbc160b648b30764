/-
  DERIVED. GIVEN WITH THE SEED: THE CARDS: each row of YtgddgipjpdjoaaaGreatDoorRows.lean that lists a variable, with what it lists TIED to the program's text (the seventh form; the later family's looks); each row that meets fmt, with fmt's text TOLD by the authors' own Lean function (tested against real Go, not proved from fmt's source: count such statements apart). THE CARD IS WHAT COUNTS. Prove the row's statement (the work); the ties are given (YtgddgipjpdjoaaaGreatDoorTie.lean); close each card by the builder's one call (the guide's Derived/Test/ToyasCard.lean, 'card_holds'). Laid BY PROGRAM, IN A SANDBOX (cutbox-door.mjs). By AI agents, Wed Nov 11 2026. No macro, syntax, notation, axiom, sorry.
-/
import Derived.Test.YtgddgipjpdjoaaaGreatDoorRows
import GoSem.ClaimSeven
namespace Go.Proofs.YtgddgipjpdjoaaaGreatDoor
namespace Rows

/-- THE TIED CARD OF 'bucketlinelaw17.ReplicaWaits'. -/
def replicaWaitsCard : Claim7 := { stood := { row := replicaWaitsRow, standIns := [], harness := (true, "f0fb4150e15ac690b54c4229c36b6f32525bd727dc175b579064582d156bf5fd"), looks := true }, kinds := [], alts := [], laidByText := true, laidKinds := [.data, .data, .data, .data, .sentinel, .sentinel, .pinned], laidTests := true, laidLooks := .later }
def ReplicaWaitsCardSaid : Prop := Claim7.holds Tryz.pinned (.plain (OpenSpec.ofChange replicaWaitsSpec)) replicaWaitsCard

/-- THE TIED CARD OF 'bucketlinelaw17.ReplicaHands'. -/
def replicaHandsCard : Claim7 := { stood := { row := replicaHandsRow, standIns := [], harness := (true, "f0fb4150e15ac690b54c4229c36b6f32525bd727dc175b579064582d156bf5fd"), looks := true }, kinds := [], alts := [], laidByText := true, laidKinds := [.data, .data, .data, .data, .sentinel, .sentinel, .pinned], laidTests := true, laidLooks := .later }
def ReplicaHandsCardSaid : Prop := Claim7.holds Tryz.pinned (.plain (OpenSpec.ofChange replicaHandsSpec)) replicaHandsCard

/-- THE TIED CARD OF 'bucketlinelaw17.ReplicaMeets'. -/
def replicaMeetsCard : Claim7 := { stood := { row := replicaMeetsRow, standIns := [], harness := (true, "f0fb4150e15ac690b54c4229c36b6f32525bd727dc175b579064582d156bf5fd"), looks := true }, kinds := [], alts := [], laidByText := true, laidKinds := [.data, .data, .data, .data, .sentinel, .sentinel, .pinned], laidTests := true, laidLooks := .later }
def ReplicaMeetsCardSaid : Prop := Claim7.holds Tryz.pinned (.plain (OpenSpec.ofChange replicaMeetsSpec)) replicaMeetsCard

/-- THE SECOND FORM's CARD OF 'bucketlinelaw17.ReplicaWaits'. -/
def replicaWaitsUptoCard : Claim7 := { stood := { row := replicaWaitsUptoRow, standIns := [], harness := (true, "f0fb4150e15ac690b54c4229c36b6f32525bd727dc175b579064582d156bf5fd"), looks := true }, kinds := [], alts := [], laidByText := true, laidKinds := [.data, .data, .data, .data, .sentinel, .sentinel, .pinned], laidTests := true, laidLooks := .later }
def ReplicaWaitsUptoCardSaid : Prop := Claim7.holds Tryz.pinned (.plain (OpenSpec.upto replicaWaitsSpec)) replicaWaitsUptoCard

/-- THE SECOND FORM's CARD OF 'bucketlinelaw17.ReplicaHands'. -/
def replicaHandsUptoCard : Claim7 := { stood := { row := replicaHandsUptoRow, standIns := [], harness := (true, "f0fb4150e15ac690b54c4229c36b6f32525bd727dc175b579064582d156bf5fd"), looks := true }, kinds := [], alts := [], laidByText := true, laidKinds := [.data, .data, .data, .data, .sentinel, .sentinel, .pinned], laidTests := true, laidLooks := .later }
def ReplicaHandsUptoCardSaid : Prop := Claim7.holds Tryz.pinned (.plain (OpenSpec.upto replicaHandsSpec)) replicaHandsUptoCard

/-- THE SECOND FORM's CARD OF 'bucketlinelaw17.ReplicaMeets'. -/
def replicaMeetsUptoCard : Claim7 := { stood := { row := replicaMeetsUptoRow, standIns := [], harness := (true, "f0fb4150e15ac690b54c4229c36b6f32525bd727dc175b579064582d156bf5fd"), looks := true }, kinds := [], alts := [], laidByText := true, laidKinds := [.data, .data, .data, .data, .sentinel, .sentinel, .pinned], laidTests := true, laidLooks := .later }
def ReplicaMeetsUptoCardSaid : Prop := Claim7.holds Tryz.pinned (.plain (OpenSpec.upto replicaMeetsSpec)) replicaMeetsUptoCard
end Rows
end Go.Proofs.YtgddgipjpdjoaaaGreatDoor
