/-
  DERIVED. GIVEN WITH THE SEED: THE CARDS: each row of YtmgmknmaepjnoaaGreatDoorRows.lean that lists a variable, with what it lists TIED to the program's text (the seventh form; the later family's looks); each row that meets fmt, with fmt's text TOLD by the authors' own Lean function (tested against real Go, not proved from fmt's source: count such statements apart). THE CARD IS WHAT COUNTS. Prove the row's statement (the work); the ties are given (YtmgmknmaepjnoaaGreatDoorTie.lean); close each card by the builder's one call (the guide's Derived/Test/ToyasCard.lean, 'card_holds'). Laid BY PROGRAM, IN A SANDBOX (cutbox-door.mjs). By AI agents, Wed Nov 11 2026. No macro, syntax, notation, axiom, sorry.
-/
import Derived.Test.YtmgmknmaepjnoaaGreatDoorRows
import GoSem.ClaimSeven
namespace Go.Proofs.YtmgmknmaepjnoaaGreatDoor
namespace Rows

/-- THE TIED CARD OF 'bucketlinelaw21.NodeLeases'. -/
def nodeLeasesCard : Claim7 := { stood := { row := nodeLeasesRow, standIns := [], harness := (true, "048f9cd363eb9c4ba9e24b8bbafb735724629a1757b45eaab4a46aae51d29ec0"), looks := true }, kinds := [], alts := [], laidByText := true, laidKinds := [.data, .data, .data, .data, .sentinel, .sentinel, .pinned], laidTests := true, laidLooks := .later }
def NodeLeasesCardSaid : Prop := Claim7.holds Tryz.pinned (.plain (OpenSpec.ofChange nodeLeasesSpec)) nodeLeasesCard

/-- THE TIED CARD OF 'bucketlinelaw21.NodeAsks'. -/
def nodeAsksCard : Claim7 := { stood := { row := nodeAsksRow, standIns := [], harness := (true, "048f9cd363eb9c4ba9e24b8bbafb735724629a1757b45eaab4a46aae51d29ec0"), looks := true }, kinds := [], alts := [], laidByText := true, laidKinds := [.data, .data, .data, .data, .sentinel, .sentinel, .pinned], laidTests := true, laidLooks := .later }
def NodeAsksCardSaid : Prop := Claim7.holds Tryz.pinned (.plain (OpenSpec.ofChange nodeAsksSpec)) nodeAsksCard

/-- THE TIED CARD OF 'bucketlinelaw21.NodeFenced'. -/
def nodeFencedCard : Claim7 := { stood := { row := nodeFencedRow, standIns := [], harness := (true, "048f9cd363eb9c4ba9e24b8bbafb735724629a1757b45eaab4a46aae51d29ec0"), looks := true }, kinds := [], alts := [], laidByText := true, laidKinds := [.data, .data, .data, .data, .sentinel, .sentinel, .pinned], laidTests := true, laidLooks := .later }
def NodeFencedCardSaid : Prop := Claim7.holds Tryz.pinned (.plain (OpenSpec.ofChange nodeFencedSpec)) nodeFencedCard

/-- THE SECOND FORM's CARD OF 'bucketlinelaw21.NodeLeases'. -/
def nodeLeasesUptoCard : Claim7 := { stood := { row := nodeLeasesUptoRow, standIns := [], harness := (true, "048f9cd363eb9c4ba9e24b8bbafb735724629a1757b45eaab4a46aae51d29ec0"), looks := true }, kinds := [], alts := [], laidByText := true, laidKinds := [.data, .data, .data, .data, .sentinel, .sentinel, .pinned], laidTests := true, laidLooks := .later }
def NodeLeasesUptoCardSaid : Prop := Claim7.holds Tryz.pinned (.plain (OpenSpec.upto nodeLeasesSpec)) nodeLeasesUptoCard

/-- THE SECOND FORM's CARD OF 'bucketlinelaw21.NodeAsks'. -/
def nodeAsksUptoCard : Claim7 := { stood := { row := nodeAsksUptoRow, standIns := [], harness := (true, "048f9cd363eb9c4ba9e24b8bbafb735724629a1757b45eaab4a46aae51d29ec0"), looks := true }, kinds := [], alts := [], laidByText := true, laidKinds := [.data, .data, .data, .data, .sentinel, .sentinel, .pinned], laidTests := true, laidLooks := .later }
def NodeAsksUptoCardSaid : Prop := Claim7.holds Tryz.pinned (.plain (OpenSpec.upto nodeAsksSpec)) nodeAsksUptoCard

/-- THE SECOND FORM's CARD OF 'bucketlinelaw21.NodeFenced'. -/
def nodeFencedUptoCard : Claim7 := { stood := { row := nodeFencedUptoRow, standIns := [], harness := (true, "048f9cd363eb9c4ba9e24b8bbafb735724629a1757b45eaab4a46aae51d29ec0"), looks := true }, kinds := [], alts := [], laidByText := true, laidKinds := [.data, .data, .data, .data, .sentinel, .sentinel, .pinned], laidTests := true, laidLooks := .later }
def NodeFencedUptoCardSaid : Prop := Claim7.holds Tryz.pinned (.plain (OpenSpec.upto nodeFencedSpec)) nodeFencedUptoCard
end Rows
end Go.Proofs.YtmgmknmaepjnoaaGreatDoor
