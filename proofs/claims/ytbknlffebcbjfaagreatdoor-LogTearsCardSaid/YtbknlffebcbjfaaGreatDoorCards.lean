/-
  DERIVED. GIVEN WITH THE SEED: THE CARDS: each row of YtbknlffebcbjfaaGreatDoorRows.lean that lists a variable, with what it lists TIED to the program's text (the seventh form; the later family's looks); each row that meets fmt, with fmt's text TOLD by the authors' own Lean function (tested against real Go, not proved from fmt's source: count such statements apart). THE CARD IS WHAT COUNTS. Prove the row's statement (the work); the ties are given (YtbknlffebcbjfaaGreatDoorTie.lean); close each card by the builder's one call (the guide's Derived/Test/ToyasCard.lean, 'card_holds'). Laid BY PROGRAM, IN A SANDBOX (cutbox-door.mjs). By AI agents, Wed Nov 11 2026. No macro, syntax, notation, axiom, sorry.
-/
import Derived.Test.YtbknlffebcbjfaaGreatDoorRows
import GoSem.ClaimSeven
namespace Go.Proofs.YtbknlffebcbjfaaGreatDoor
namespace Rows

/-- THE TIED CARD OF 'bucketlinelaw9.SegmentPlays'. -/
def segmentPlaysCard : Claim7 := { stood := { row := segmentPlaysRow, standIns := [], harness := (true, "a18f35b31243a0d84ef4706eae1f13d479979986f4339d71a54d714de783b2ce"), looks := true }, kinds := [], alts := [], laidByText := true, laidKinds := [.data, .data, .data, .data, .sentinel, .sentinel, .pinned], laidTests := true, laidLooks := .later }
def SegmentPlaysCardSaid : Prop := Claim7.holds Tryz.pinned (.plain (OpenSpec.ofChange segmentPlaysSpec)) segmentPlaysCard

/-- THE TIED CARD OF 'bucketlinelaw11.LogAppends'. -/
def logAppendsCard : Claim7 := { stood := { row := logAppendsRow, standIns := [], harness := (true, "a18f35b31243a0d84ef4706eae1f13d479979986f4339d71a54d714de783b2ce"), looks := true }, kinds := [], alts := [], laidByText := true, laidKinds := [.data, .data, .data, .data, .sentinel, .sentinel, .pinned], laidTests := true, laidLooks := .later }
def LogAppendsCardSaid : Prop := Claim7.holds Tryz.pinned (.plain (OpenSpec.ofChange logAppendsSpec)) logAppendsCard

/-- THE TIED CARD OF 'bucketlinelaw11.LogKeeps'. -/
def logKeepsCard : Claim7 := { stood := { row := logKeepsRow, standIns := [], harness := (true, "a18f35b31243a0d84ef4706eae1f13d479979986f4339d71a54d714de783b2ce"), looks := true }, kinds := [], alts := [], laidByText := true, laidKinds := [.data, .data, .data, .data, .sentinel, .sentinel, .pinned], laidTests := true, laidLooks := .later }
def LogKeepsCardSaid : Prop := Claim7.holds Tryz.pinned (.plain (OpenSpec.ofChange logKeepsSpec)) logKeepsCard

/-- THE TIED CARD OF 'bucketlinelaw11.LogTruncates'. -/
def logTruncatesCard : Claim7 := { stood := { row := logTruncatesRow, standIns := [], harness := (true, "a18f35b31243a0d84ef4706eae1f13d479979986f4339d71a54d714de783b2ce"), looks := true }, kinds := [], alts := [], laidByText := true, laidKinds := [.data, .data, .data, .data, .sentinel, .sentinel, .pinned], laidTests := true, laidLooks := .later }
def LogTruncatesCardSaid : Prop := Claim7.holds Tryz.pinned (.plain (OpenSpec.ofChange logTruncatesSpec)) logTruncatesCard

/-- THE TIED CARD OF 'bucketlinelaw11.LogRanges'. -/
def logRangesCard : Claim7 := { stood := { row := logRangesRow, standIns := [], harness := (true, "a18f35b31243a0d84ef4706eae1f13d479979986f4339d71a54d714de783b2ce"), looks := true }, kinds := [], alts := [], laidByText := true, laidKinds := [.data, .data, .data, .data, .sentinel, .sentinel, .pinned], laidTests := true, laidLooks := .later }
def LogRangesCardSaid : Prop := Claim7.holds Tryz.pinned (.plain (OpenSpec.ofChange logRangesSpec)) logRangesCard

/-- THE TIED CARD OF 'bucketlinelaw11.LogTears'. -/
def logTearsCard : Claim7 := { stood := { row := logTearsRow, standIns := [], harness := (true, "a18f35b31243a0d84ef4706eae1f13d479979986f4339d71a54d714de783b2ce"), looks := true }, kinds := [], alts := [], laidByText := true, laidKinds := [.data, .data, .data, .data, .sentinel, .sentinel, .pinned], laidTests := true, laidLooks := .later }
def LogTearsCardSaid : Prop := Claim7.holds Tryz.pinned (.plain (OpenSpec.ofChange logTearsSpec)) logTearsCard

/-- THE SECOND FORM's CARD OF 'bucketlinelaw9.SegmentPlays'. -/
def segmentPlaysUptoCard : Claim7 := { stood := { row := segmentPlaysUptoRow, standIns := [], harness := (true, "a18f35b31243a0d84ef4706eae1f13d479979986f4339d71a54d714de783b2ce"), looks := true }, kinds := [], alts := [], laidByText := true, laidKinds := [.data, .data, .data, .data, .sentinel, .sentinel, .pinned], laidTests := true, laidLooks := .later }
def SegmentPlaysUptoCardSaid : Prop := Claim7.holds Tryz.pinned (.plain (OpenSpec.upto segmentPlaysSpec)) segmentPlaysUptoCard

/-- THE SECOND FORM's CARD OF 'bucketlinelaw11.LogAppends'. -/
def logAppendsUptoCard : Claim7 := { stood := { row := logAppendsUptoRow, standIns := [], harness := (true, "a18f35b31243a0d84ef4706eae1f13d479979986f4339d71a54d714de783b2ce"), looks := true }, kinds := [], alts := [], laidByText := true, laidKinds := [.data, .data, .data, .data, .sentinel, .sentinel, .pinned], laidTests := true, laidLooks := .later }
def LogAppendsUptoCardSaid : Prop := Claim7.holds Tryz.pinned (.plain (OpenSpec.upto logAppendsSpec)) logAppendsUptoCard

/-- THE SECOND FORM's CARD OF 'bucketlinelaw11.LogKeeps'. -/
def logKeepsUptoCard : Claim7 := { stood := { row := logKeepsUptoRow, standIns := [], harness := (true, "a18f35b31243a0d84ef4706eae1f13d479979986f4339d71a54d714de783b2ce"), looks := true }, kinds := [], alts := [], laidByText := true, laidKinds := [.data, .data, .data, .data, .sentinel, .sentinel, .pinned], laidTests := true, laidLooks := .later }
def LogKeepsUptoCardSaid : Prop := Claim7.holds Tryz.pinned (.plain (OpenSpec.upto logKeepsSpec)) logKeepsUptoCard

/-- THE SECOND FORM's CARD OF 'bucketlinelaw11.LogTruncates'. -/
def logTruncatesUptoCard : Claim7 := { stood := { row := logTruncatesUptoRow, standIns := [], harness := (true, "a18f35b31243a0d84ef4706eae1f13d479979986f4339d71a54d714de783b2ce"), looks := true }, kinds := [], alts := [], laidByText := true, laidKinds := [.data, .data, .data, .data, .sentinel, .sentinel, .pinned], laidTests := true, laidLooks := .later }
def LogTruncatesUptoCardSaid : Prop := Claim7.holds Tryz.pinned (.plain (OpenSpec.upto logTruncatesSpec)) logTruncatesUptoCard

/-- THE SECOND FORM's CARD OF 'bucketlinelaw11.LogRanges'. -/
def logRangesUptoCard : Claim7 := { stood := { row := logRangesUptoRow, standIns := [], harness := (true, "a18f35b31243a0d84ef4706eae1f13d479979986f4339d71a54d714de783b2ce"), looks := true }, kinds := [], alts := [], laidByText := true, laidKinds := [.data, .data, .data, .data, .sentinel, .sentinel, .pinned], laidTests := true, laidLooks := .later }
def LogRangesUptoCardSaid : Prop := Claim7.holds Tryz.pinned (.plain (OpenSpec.upto logRangesSpec)) logRangesUptoCard

/-- THE SECOND FORM's CARD OF 'bucketlinelaw11.LogTears'. -/
def logTearsUptoCard : Claim7 := { stood := { row := logTearsUptoRow, standIns := [], harness := (true, "a18f35b31243a0d84ef4706eae1f13d479979986f4339d71a54d714de783b2ce"), looks := true }, kinds := [], alts := [], laidByText := true, laidKinds := [.data, .data, .data, .data, .sentinel, .sentinel, .pinned], laidTests := true, laidLooks := .later }
def LogTearsUptoCardSaid : Prop := Claim7.holds Tryz.pinned (.plain (OpenSpec.upto logTearsSpec)) logTearsUptoCard
end Rows
end Go.Proofs.YtbknlffebcbjfaaGreatDoor
