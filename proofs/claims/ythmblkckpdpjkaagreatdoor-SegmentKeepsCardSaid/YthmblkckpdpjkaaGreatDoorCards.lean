/-
  DERIVED. GIVEN WITH THE SEED: THE CARDS: each row of YthmblkckpdpjkaaGreatDoorRows.lean that lists a variable, with what it lists TIED to the program's text (the seventh form; the later family's looks); each row that meets fmt, with fmt's text TOLD by the authors' own Lean function (tested against real Go, not proved from fmt's source: count such statements apart). THE CARD IS WHAT COUNTS. Prove the row's statement (the work); the ties are given (YthmblkckpdpjkaaGreatDoorTie.lean); close each card by the builder's one call (the guide's Derived/Test/ToyasCard.lean, 'card_holds'). Laid BY PROGRAM, IN A SANDBOX (cutbox-door.mjs). By AI agents, Wed Nov 11 2026. No macro, syntax, notation, axiom, sorry.
-/
import Derived.Test.YthmblkckpdpjkaaGreatDoorRows
import GoSem.ClaimSeven
namespace Go.Proofs.YthmblkckpdpjkaaGreatDoor
namespace Rows

/-- THE TIED CARD OF 'bucketlinelaw9.SegmentNames'. -/
def segmentNamesCard : Claim7 := { stood := { row := segmentNamesRow, standIns := [], harness := (true, "87fe640204f1797d1b81762245b53c4c7f9feb73559b7fea7621a7ae75d1c939"), looks := true }, kinds := [], alts := [], laidByText := true, laidKinds := [.data, .data, .data, .data, .sentinel, .sentinel, .pinned], laidTests := true, laidLooks := .later }
def SegmentNamesCardSaid : Prop := Claim7.holds Tryz.pinned (.plain (OpenSpec.ofChange segmentNamesSpec)) segmentNamesCard

/-- THE TIED CARD OF 'bucketlinelaw9.SegmentRows'. -/
def segmentRowsCard : Claim7 := { stood := { row := segmentRowsRow, standIns := [], harness := (true, "87fe640204f1797d1b81762245b53c4c7f9feb73559b7fea7621a7ae75d1c939"), looks := true }, kinds := [], alts := [], laidByText := true, laidKinds := [.data, .data, .data, .data, .sentinel, .sentinel, .pinned], laidTests := true, laidLooks := .later }
def SegmentRowsCardSaid : Prop := Claim7.holds Tryz.pinned (.plain (OpenSpec.ofChange segmentRowsSpec)) segmentRowsCard

/-- THE TIED CARD OF 'bucketlinelaw9.SegmentTells'. -/
def segmentTellsCard : Claim7 := { stood := { row := segmentTellsRow, standIns := [], harness := (true, "87fe640204f1797d1b81762245b53c4c7f9feb73559b7fea7621a7ae75d1c939"), looks := true }, kinds := [], alts := [], laidByText := true, laidKinds := [.data, .data, .data, .data, .sentinel, .sentinel, .pinned], laidTests := true, laidLooks := .later }
def SegmentTellsCardSaid : Prop := Claim7.holds Tryz.pinned (.plain (OpenSpec.ofChange segmentTellsSpec)) segmentTellsCard

/-- THE TIED CARD OF 'bucketlinelaw9.SegmentKeeps'. -/
def segmentKeepsCard : Claim7 := { stood := { row := segmentKeepsRow, standIns := [], harness := (true, "87fe640204f1797d1b81762245b53c4c7f9feb73559b7fea7621a7ae75d1c939"), looks := true }, kinds := [], alts := [], laidByText := true, laidKinds := [.data, .data, .data, .data, .sentinel, .sentinel, .pinned], laidTests := true, laidLooks := .later }
def SegmentKeepsCardSaid : Prop := Claim7.holds Tryz.pinned (.plain (OpenSpec.ofChange segmentKeepsSpec)) segmentKeepsCard

/-- THE TIED CARD OF 'bucketlinelaw9.SegmentCuts'. -/
def segmentCutsCard : Claim7 := { stood := { row := segmentCutsRow, standIns := [], harness := (true, "87fe640204f1797d1b81762245b53c4c7f9feb73559b7fea7621a7ae75d1c939"), looks := true }, kinds := [], alts := [], laidByText := true, laidKinds := [.data, .data, .data, .data, .sentinel, .sentinel, .pinned], laidTests := true, laidLooks := .later }
def SegmentCutsCardSaid : Prop := Claim7.holds Tryz.pinned (.plain (OpenSpec.ofChange segmentCutsSpec)) segmentCutsCard

/-- THE TIED CARD OF 'bucketlinelaw9.SegmentPlays'. -/
def segmentPlaysCard : Claim7 := { stood := { row := segmentPlaysRow, standIns := [], harness := (true, "87fe640204f1797d1b81762245b53c4c7f9feb73559b7fea7621a7ae75d1c939"), looks := true }, kinds := [], alts := [], laidByText := true, laidKinds := [.data, .data, .data, .data, .sentinel, .sentinel, .pinned], laidTests := true, laidLooks := .later }
def SegmentPlaysCardSaid : Prop := Claim7.holds Tryz.pinned (.plain (OpenSpec.ofChange segmentPlaysSpec)) segmentPlaysCard

/-- THE SECOND FORM's CARD OF 'bucketlinelaw9.SegmentNames'. -/
def segmentNamesUptoCard : Claim7 := { stood := { row := segmentNamesUptoRow, standIns := [], harness := (true, "87fe640204f1797d1b81762245b53c4c7f9feb73559b7fea7621a7ae75d1c939"), looks := true }, kinds := [], alts := [], laidByText := true, laidKinds := [.data, .data, .data, .data, .sentinel, .sentinel, .pinned], laidTests := true, laidLooks := .later }
def SegmentNamesUptoCardSaid : Prop := Claim7.holds Tryz.pinned (.plain (OpenSpec.upto segmentNamesSpec)) segmentNamesUptoCard

/-- THE SECOND FORM's CARD OF 'bucketlinelaw9.SegmentRows'. -/
def segmentRowsUptoCard : Claim7 := { stood := { row := segmentRowsUptoRow, standIns := [], harness := (true, "87fe640204f1797d1b81762245b53c4c7f9feb73559b7fea7621a7ae75d1c939"), looks := true }, kinds := [], alts := [], laidByText := true, laidKinds := [.data, .data, .data, .data, .sentinel, .sentinel, .pinned], laidTests := true, laidLooks := .later }
def SegmentRowsUptoCardSaid : Prop := Claim7.holds Tryz.pinned (.plain (OpenSpec.upto segmentRowsSpec)) segmentRowsUptoCard

/-- THE SECOND FORM's CARD OF 'bucketlinelaw9.SegmentTells'. -/
def segmentTellsUptoCard : Claim7 := { stood := { row := segmentTellsUptoRow, standIns := [], harness := (true, "87fe640204f1797d1b81762245b53c4c7f9feb73559b7fea7621a7ae75d1c939"), looks := true }, kinds := [], alts := [], laidByText := true, laidKinds := [.data, .data, .data, .data, .sentinel, .sentinel, .pinned], laidTests := true, laidLooks := .later }
def SegmentTellsUptoCardSaid : Prop := Claim7.holds Tryz.pinned (.plain (OpenSpec.upto segmentTellsSpec)) segmentTellsUptoCard

/-- THE SECOND FORM's CARD OF 'bucketlinelaw9.SegmentKeeps'. -/
def segmentKeepsUptoCard : Claim7 := { stood := { row := segmentKeepsUptoRow, standIns := [], harness := (true, "87fe640204f1797d1b81762245b53c4c7f9feb73559b7fea7621a7ae75d1c939"), looks := true }, kinds := [], alts := [], laidByText := true, laidKinds := [.data, .data, .data, .data, .sentinel, .sentinel, .pinned], laidTests := true, laidLooks := .later }
def SegmentKeepsUptoCardSaid : Prop := Claim7.holds Tryz.pinned (.plain (OpenSpec.upto segmentKeepsSpec)) segmentKeepsUptoCard

/-- THE SECOND FORM's CARD OF 'bucketlinelaw9.SegmentCuts'. -/
def segmentCutsUptoCard : Claim7 := { stood := { row := segmentCutsUptoRow, standIns := [], harness := (true, "87fe640204f1797d1b81762245b53c4c7f9feb73559b7fea7621a7ae75d1c939"), looks := true }, kinds := [], alts := [], laidByText := true, laidKinds := [.data, .data, .data, .data, .sentinel, .sentinel, .pinned], laidTests := true, laidLooks := .later }
def SegmentCutsUptoCardSaid : Prop := Claim7.holds Tryz.pinned (.plain (OpenSpec.upto segmentCutsSpec)) segmentCutsUptoCard

/-- THE SECOND FORM's CARD OF 'bucketlinelaw9.SegmentPlays'. -/
def segmentPlaysUptoCard : Claim7 := { stood := { row := segmentPlaysUptoRow, standIns := [], harness := (true, "87fe640204f1797d1b81762245b53c4c7f9feb73559b7fea7621a7ae75d1c939"), looks := true }, kinds := [], alts := [], laidByText := true, laidKinds := [.data, .data, .data, .data, .sentinel, .sentinel, .pinned], laidTests := true, laidLooks := .later }
def SegmentPlaysUptoCardSaid : Prop := Claim7.holds Tryz.pinned (.plain (OpenSpec.upto segmentPlaysSpec)) segmentPlaysUptoCard
end Rows
end Go.Proofs.YthmblkckpdpjkaaGreatDoor
