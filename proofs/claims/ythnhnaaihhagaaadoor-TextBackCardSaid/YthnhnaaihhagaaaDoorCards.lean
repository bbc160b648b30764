/-
  DERIVED. GIVEN WITH THE SEED: THE CARDS: each row of YthnhnaaihhagaaaDoorRows.lean that lists a variable, with what it lists TIED to the program's text (the seventh form; the later family's looks); each row that meets fmt, with fmt's text TOLD by the authors' own Lean function (tested against real Go, not proved from fmt's source: count such statements apart). THE CARD IS WHAT COUNTS. Prove the row's statement (the work); the ties are given (YthnhnaaihhagaaaDoorTie.lean); close each card by the builder's one call (the guide's Derived/Test/ToyasCard.lean, 'card_holds'). Laid BY PROGRAM, IN A SANDBOX (cutbox-door.mjs). By AI agents, Wed Nov 11 2026. No macro, syntax, notation, axiom, sorry.
-/
import Derived.Test.YthnhnaaihhagaaaDoorRows
import GoSem.ClaimSeven
namespace Go.Proofs.YthnhnaaihhagaaaDoor
namespace Rows

/-- THE TIED CARD OF 'bucketlinelaw1.TextQuotes'. -/
def textQuotesCard : Claim7 := { stood := { row := textQuotesRow, standIns := [], harness := (true, "772f7ce97ae04ec3c0230b9540b7c021c33bbb1a8df3120b32aa9a96c8e5e263"), looks := true }, kinds := [], alts := [], laidByText := true, laidKinds := [.data, .data, .data, .data, .sentinel, .sentinel, .pinned], laidTests := true, laidLooks := .later }
def TextQuotesCardSaid : Prop := Claim7.holds Tryd.pinned (.plain (OpenSpec.ofChange textQuotesSpec)) textQuotesCard

/-- THE TIED CARD OF 'bucketlinelaw1.TextOnce'. -/
def textOnceCard : Claim7 := { stood := { row := textOnceRow, standIns := [], harness := (true, "772f7ce97ae04ec3c0230b9540b7c021c33bbb1a8df3120b32aa9a96c8e5e263"), looks := true }, kinds := [], alts := [], laidByText := true, laidKinds := [.data, .data, .data, .data, .sentinel, .sentinel, .pinned], laidTests := true, laidLooks := .later }
def TextOnceCardSaid : Prop := Claim7.holds Tryd.pinned (.plain (OpenSpec.ofChange textOnceSpec)) textOnceCard

/-- THE TIED CARD OF 'bucketlinelaw1.TextParts'. -/
def textPartsCard : Claim7 := { stood := { row := textPartsRow, standIns := [], harness := (true, "772f7ce97ae04ec3c0230b9540b7c021c33bbb1a8df3120b32aa9a96c8e5e263"), looks := true }, kinds := [], alts := [], laidByText := true, laidKinds := [.data, .data, .data, .data, .sentinel, .sentinel, .pinned], laidTests := true, laidLooks := .later }
def TextPartsCardSaid : Prop := Claim7.holds Tryd.pinned (.plain (OpenSpec.ofChange textPartsSpec)) textPartsCard

/-- THE TIED CARD OF 'bucketlinelaw1.TextWords'. -/
def textWordsCard : Claim7 := { stood := { row := textWordsRow, standIns := [], harness := (true, "772f7ce97ae04ec3c0230b9540b7c021c33bbb1a8df3120b32aa9a96c8e5e263"), looks := true }, kinds := [], alts := [], laidByText := true, laidKinds := [.data, .data, .data, .data, .sentinel, .sentinel, .pinned], laidTests := true, laidLooks := .later }
def TextWordsCardSaid : Prop := Claim7.holds Tryd.pinned (.plain (OpenSpec.ofChange textWordsSpec)) textWordsCard

/-- THE TIED CARD OF 'bucketlinelaw1.TextBack'. -/
def textBackCard : Claim7 := { stood := { row := textBackRow, standIns := [], harness := (true, "772f7ce97ae04ec3c0230b9540b7c021c33bbb1a8df3120b32aa9a96c8e5e263"), looks := true }, kinds := [], alts := [], laidByText := true, laidKinds := [.data, .data, .data, .data, .sentinel, .sentinel, .pinned], laidTests := true, laidLooks := .later }
def TextBackCardSaid : Prop := Claim7.holds Tryd.pinned (.plain (OpenSpec.ofChange textBackSpec)) textBackCard

/-- THE TIED CARD OF 'bucketlinelaw1.TextRunes'. -/
def textRunesCard : Claim7 := { stood := { row := textRunesRow, standIns := [], harness := (true, "772f7ce97ae04ec3c0230b9540b7c021c33bbb1a8df3120b32aa9a96c8e5e263"), looks := true }, kinds := [], alts := [], laidByText := true, laidKinds := [.data, .data, .data, .data, .sentinel, .sentinel, .pinned], laidTests := true, laidLooks := .later }
def TextRunesCardSaid : Prop := Claim7.holds Tryd.pinned (.plain (OpenSpec.ofChange textRunesSpec)) textRunesCard

/-- THE TIED CARD OF 'bucketlinelaw1.TextNames'. -/
def textNamesCard : Claim7 := { stood := { row := textNamesRow, standIns := [], harness := (true, "772f7ce97ae04ec3c0230b9540b7c021c33bbb1a8df3120b32aa9a96c8e5e263"), looks := true }, kinds := [], alts := [], laidByText := true, laidKinds := [.data, .data, .data, .data, .sentinel, .sentinel, .pinned], laidTests := true, laidLooks := .later }
def TextNamesCardSaid : Prop := Claim7.holds Tryd.pinned (.plain (OpenSpec.ofChange textNamesSpec)) textNamesCard

/-- THE TIED CARD OF 'bucketlinelaw1.TextJoins'. -/
def textJoinsCard : Claim7 := { stood := { row := textJoinsRow, standIns := [], harness := (true, "772f7ce97ae04ec3c0230b9540b7c021c33bbb1a8df3120b32aa9a96c8e5e263"), looks := true }, kinds := [], alts := [], laidByText := true, laidKinds := [.data, .data, .data, .data, .sentinel, .sentinel, .pinned], laidTests := true, laidLooks := .later }
def TextJoinsCardSaid : Prop := Claim7.holds Tryd.pinned (.plain (OpenSpec.ofChange textJoinsSpec)) textJoinsCard

/-- THE SECOND FORM's CARD OF 'bucketlinelaw1.TextQuotes'. -/
def textQuotesUptoCard : Claim7 := { stood := { row := textQuotesUptoRow, standIns := [], harness := (true, "772f7ce97ae04ec3c0230b9540b7c021c33bbb1a8df3120b32aa9a96c8e5e263"), looks := true }, kinds := [], alts := [], laidByText := true, laidKinds := [.data, .data, .data, .data, .sentinel, .sentinel, .pinned], laidTests := true, laidLooks := .later }
def TextQuotesUptoCardSaid : Prop := Claim7.holds Tryd.pinned (.plain (OpenSpec.upto textQuotesSpec)) textQuotesUptoCard

/-- THE SECOND FORM's CARD OF 'bucketlinelaw1.TextOnce'. -/
def textOnceUptoCard : Claim7 := { stood := { row := textOnceUptoRow, standIns := [], harness := (true, "772f7ce97ae04ec3c0230b9540b7c021c33bbb1a8df3120b32aa9a96c8e5e263"), looks := true }, kinds := [], alts := [], laidByText := true, laidKinds := [.data, .data, .data, .data, .sentinel, .sentinel, .pinned], laidTests := true, laidLooks := .later }
def TextOnceUptoCardSaid : Prop := Claim7.holds Tryd.pinned (.plain (OpenSpec.upto textOnceSpec)) textOnceUptoCard

/-- THE SECOND FORM's CARD OF 'bucketlinelaw1.TextParts'. -/
def textPartsUptoCard : Claim7 := { stood := { row := textPartsUptoRow, standIns := [], harness := (true, "772f7ce97ae04ec3c0230b9540b7c021c33bbb1a8df3120b32aa9a96c8e5e263"), looks := true }, kinds := [], alts := [], laidByText := true, laidKinds := [.data, .data, .data, .data, .sentinel, .sentinel, .pinned], laidTests := true, laidLooks := .later }
def TextPartsUptoCardSaid : Prop := Claim7.holds Tryd.pinned (.plain (OpenSpec.upto textPartsSpec)) textPartsUptoCard

/-- THE SECOND FORM's CARD OF 'bucketlinelaw1.TextWords'. -/
def textWordsUptoCard : Claim7 := { stood := { row := textWordsUptoRow, standIns := [], harness := (true, "772f7ce97ae04ec3c0230b9540b7c021c33bbb1a8df3120b32aa9a96c8e5e263"), looks := true }, kinds := [], alts := [], laidByText := true, laidKinds := [.data, .data, .data, .data, .sentinel, .sentinel, .pinned], laidTests := true, laidLooks := .later }
def TextWordsUptoCardSaid : Prop := Claim7.holds Tryd.pinned (.plain (OpenSpec.upto textWordsSpec)) textWordsUptoCard

/-- THE SECOND FORM's CARD OF 'bucketlinelaw1.TextBack'. -/
def textBackUptoCard : Claim7 := { stood := { row := textBackUptoRow, standIns := [], harness := (true, "772f7ce97ae04ec3c0230b9540b7c021c33bbb1a8df3120b32aa9a96c8e5e263"), looks := true }, kinds := [], alts := [], laidByText := true, laidKinds := [.data, .data, .data, .data, .sentinel, .sentinel, .pinned], laidTests := true, laidLooks := .later }
def TextBackUptoCardSaid : Prop := Claim7.holds Tryd.pinned (.plain (OpenSpec.upto textBackSpec)) textBackUptoCard

/-- THE SECOND FORM's CARD OF 'bucketlinelaw1.TextRunes'. -/
def textRunesUptoCard : Claim7 := { stood := { row := textRunesUptoRow, standIns := [], harness := (true, "772f7ce97ae04ec3c0230b9540b7c021c33bbb1a8df3120b32aa9a96c8e5e263"), looks := true }, kinds := [], alts := [], laidByText := true, laidKinds := [.data, .data, .data, .data, .sentinel, .sentinel, .pinned], laidTests := true, laidLooks := .later }
def TextRunesUptoCardSaid : Prop := Claim7.holds Tryd.pinned (.plain (OpenSpec.upto textRunesSpec)) textRunesUptoCard

/-- THE SECOND FORM's CARD OF 'bucketlinelaw1.TextNames'. -/
def textNamesUptoCard : Claim7 := { stood := { row := textNamesUptoRow, standIns := [], harness := (true, "772f7ce97ae04ec3c0230b9540b7c021c33bbb1a8df3120b32aa9a96c8e5e263"), looks := true }, kinds := [], alts := [], laidByText := true, laidKinds := [.data, .data, .data, .data, .sentinel, .sentinel, .pinned], laidTests := true, laidLooks := .later }
def TextNamesUptoCardSaid : Prop := Claim7.holds Tryd.pinned (.plain (OpenSpec.upto textNamesSpec)) textNamesUptoCard

/-- THE SECOND FORM's CARD OF 'bucketlinelaw1.TextJoins'. -/
def textJoinsUptoCard : Claim7 := { stood := { row := textJoinsUptoRow, standIns := [], harness := (true, "772f7ce97ae04ec3c0230b9540b7c021c33bbb1a8df3120b32aa9a96c8e5e263"), looks := true }, kinds := [], alts := [], laidByText := true, laidKinds := [.data, .data, .data, .data, .sentinel, .sentinel, .pinned], laidTests := true, laidLooks := .later }
def TextJoinsUptoCardSaid : Prop := Claim7.holds Tryd.pinned (.plain (OpenSpec.upto textJoinsSpec)) textJoinsUptoCard
end Rows
end Go.Proofs.YthnhnaaihhagaaaDoor
