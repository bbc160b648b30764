/-
  DERIVED. GIVEN WITH THE SEED: THE CARDS: each row of YtiaddfghojdgkaaGreatDoorRows.lean that lists a variable, with what it lists TIED to the program's text (the seventh form; the later family's looks); each row that meets fmt, with fmt's text TOLD by the authors' own Lean function (tested against real Go, not proved from fmt's source: count such statements apart). THE CARD IS WHAT COUNTS. Prove the row's statement (the work); the ties are given (YtiaddfghojdgkaaGreatDoorTie.lean); close each card by the builder's one call (the guide's Derived/Test/ToyasCard.lean, 'card_holds'). Laid BY PROGRAM, IN A SANDBOX (cutbox-door.mjs). By AI agents, Wed Nov 11 2026. No macro, syntax, notation, axiom, sorry.
-/
import Derived.Test.YtiaddfghojdgkaaGreatDoorRows
import GoSem.ClaimSeven
namespace Go.Proofs.YtiaddfghojdgkaaGreatDoor
namespace Rows

/-- THE TIED CARD OF 'bucketlinelaw9.SegmentPlays'. -/
def segmentPlaysCard : Claim7 := { stood := { row := segmentPlaysRow, standIns := [], harness := (true, "9476be522a7922af13fdf148eaf6ffea54c17461edc48712bb546240769195ce"), looks := true }, kinds := [], alts := [], laidByText := true, laidKinds := [.data, .data, .data, .data, .sentinel, .sentinel, .pinned], laidTests := true, laidLooks := .later }
def SegmentPlaysCardSaid : Prop := Claim7.holds Tryz.pinned (.plain (OpenSpec.ofChange segmentPlaysSpec)) segmentPlaysCard

/-- THE TIED CARD OF 'bucketlinelaw17.ReplicaWaits'. -/
def replicaWaitsCard : Claim7 := { stood := { row := replicaWaitsRow, standIns := [], harness := (true, "9476be522a7922af13fdf148eaf6ffea54c17461edc48712bb546240769195ce"), looks := true }, kinds := [], alts := [], laidByText := true, laidKinds := [.data, .data, .data, .data, .sentinel, .sentinel, .pinned], laidTests := true, laidLooks := .later }
def ReplicaWaitsCardSaid : Prop := Claim7.holds Tryz.pinned (.plain (OpenSpec.ofChange replicaWaitsSpec)) replicaWaitsCard

/-- THE TIED CARD OF 'bucketlinelaw17.ReplicaHands'. -/
def replicaHandsCard : Claim7 := { stood := { row := replicaHandsRow, standIns := [], harness := (true, "9476be522a7922af13fdf148eaf6ffea54c17461edc48712bb546240769195ce"), looks := true }, kinds := [], alts := [], laidByText := true, laidKinds := [.data, .data, .data, .data, .sentinel, .sentinel, .pinned], laidTests := true, laidLooks := .later }
def ReplicaHandsCardSaid : Prop := Claim7.holds Tryz.pinned (.plain (OpenSpec.ofChange replicaHandsSpec)) replicaHandsCard

/-- THE TIED CARD OF 'bucketlinelaw17.ReplicaCommits'. -/
def replicaCommitsCard : Claim7 := { stood := { row := replicaCommitsRow, standIns := [], harness := (true, "9476be522a7922af13fdf148eaf6ffea54c17461edc48712bb546240769195ce"), looks := true }, kinds := [], alts := [], laidByText := true, laidKinds := [.data, .data, .data, .data, .sentinel, .sentinel, .pinned], laidTests := true, laidLooks := .later }
def ReplicaCommitsCardSaid : Prop := Claim7.holds Tryz.pinned (.plain (OpenSpec.ofChange replicaCommitsSpec)) replicaCommitsCard

/-- THE TIED CARD OF 'bucketlinelaw17.ReplicaMeets'. -/
def replicaMeetsCard : Claim7 := { stood := { row := replicaMeetsRow, standIns := [], harness := (true, "9476be522a7922af13fdf148eaf6ffea54c17461edc48712bb546240769195ce"), looks := true }, kinds := [], alts := [], laidByText := true, laidKinds := [.data, .data, .data, .data, .sentinel, .sentinel, .pinned], laidTests := true, laidLooks := .later }
def ReplicaMeetsCardSaid : Prop := Claim7.holds Tryz.pinned (.plain (OpenSpec.ofChange replicaMeetsSpec)) replicaMeetsCard

/-- THE TIED CARD OF 'bucketlinelaw17.ReplicaPlays'. -/
def replicaPlaysCard : Claim7 := { stood := { row := replicaPlaysRow, standIns := [], harness := (true, "9476be522a7922af13fdf148eaf6ffea54c17461edc48712bb546240769195ce"), looks := true }, kinds := [], alts := [], laidByText := true, laidKinds := [.data, .data, .data, .data, .sentinel, .sentinel, .pinned], laidTests := true, laidLooks := .later }
def ReplicaPlaysCardSaid : Prop := Claim7.holds Tryz.pinned (.plain (OpenSpec.ofChange replicaPlaysSpec)) replicaPlaysCard

/-- THE SECOND FORM's CARD OF 'bucketlinelaw9.SegmentPlays'. -/
def segmentPlaysUptoCard : Claim7 := { stood := { row := segmentPlaysUptoRow, standIns := [], harness := (true, "9476be522a7922af13fdf148eaf6ffea54c17461edc48712bb546240769195ce"), looks := true }, kinds := [], alts := [], laidByText := true, laidKinds := [.data, .data, .data, .data, .sentinel, .sentinel, .pinned], laidTests := true, laidLooks := .later }
def SegmentPlaysUptoCardSaid : Prop := Claim7.holds Tryz.pinned (.plain (OpenSpec.upto segmentPlaysSpec)) segmentPlaysUptoCard

/-- THE SECOND FORM's CARD OF 'bucketlinelaw17.ReplicaWaits'. -/
def replicaWaitsUptoCard : Claim7 := { stood := { row := replicaWaitsUptoRow, standIns := [], harness := (true, "9476be522a7922af13fdf148eaf6ffea54c17461edc48712bb546240769195ce"), looks := true }, kinds := [], alts := [], laidByText := true, laidKinds := [.data, .data, .data, .data, .sentinel, .sentinel, .pinned], laidTests := true, laidLooks := .later }
def ReplicaWaitsUptoCardSaid : Prop := Claim7.holds Tryz.pinned (.plain (OpenSpec.upto replicaWaitsSpec)) replicaWaitsUptoCard

/-- THE SECOND FORM's CARD OF 'bucketlinelaw17.ReplicaHands'. -/
def replicaHandsUptoCard : Claim7 := { stood := { row := replicaHandsUptoRow, standIns := [], harness := (true, "9476be522a7922af13fdf148eaf6ffea54c17461edc48712bb546240769195ce"), looks := true }, kinds := [], alts := [], laidByText := true, laidKinds := [.data, .data, .data, .data, .sentinel, .sentinel, .pinned], laidTests := true, laidLooks := .later }
def ReplicaHandsUptoCardSaid : Prop := Claim7.holds Tryz.pinned (.plain (OpenSpec.upto replicaHandsSpec)) replicaHandsUptoCard

/-- THE SECOND FORM's CARD OF 'bucketlinelaw17.ReplicaCommits'. -/
def replicaCommitsUptoCard : Claim7 := { stood := { row := replicaCommitsUptoRow, standIns := [], harness := (true, "9476be522a7922af13fdf148eaf6ffea54c17461edc48712bb546240769195ce"), looks := true }, kinds := [], alts := [], laidByText := true, laidKinds := [.data, .data, .data, .data, .sentinel, .sentinel, .pinned], laidTests := true, laidLooks := .later }
def ReplicaCommitsUptoCardSaid : Prop := Claim7.holds Tryz.pinned (.plain (OpenSpec.upto replicaCommitsSpec)) replicaCommitsUptoCard

/-- THE SECOND FORM's CARD OF 'bucketlinelaw17.ReplicaMeets'. -/
def replicaMeetsUptoCard : Claim7 := { stood := { row := replicaMeetsUptoRow, standIns := [], harness := (true, "9476be522a7922af13fdf148eaf6ffea54c17461edc48712bb546240769195ce"), looks := true }, kinds := [], alts := [], laidByText := true, laidKinds := [.data, .data, .data, .data, .sentinel, .sentinel, .pinned], laidTests := true, laidLooks := .later }
def ReplicaMeetsUptoCardSaid : Prop := Claim7.holds Tryz.pinned (.plain (OpenSpec.upto replicaMeetsSpec)) replicaMeetsUptoCard

/-- THE SECOND FORM's CARD OF 'bucketlinelaw17.ReplicaPlays'. -/
def replicaPlaysUptoCard : Claim7 := { stood := { row := replicaPlaysUptoRow, standIns := [], harness := (true, "9476be522a7922af13fdf148eaf6ffea54c17461edc48712bb546240769195ce"), looks := true }, kinds := [], alts := [], laidByText := true, laidKinds := [.data, .data, .data, .data, .sentinel, .sentinel, .pinned], laidTests := true, laidLooks := .later }
def ReplicaPlaysUptoCardSaid : Prop := Claim7.holds Tryz.pinned (.plain (OpenSpec.upto replicaPlaysSpec)) replicaPlaysUptoCard
end Rows
end Go.Proofs.YtiaddfghojdgkaaGreatDoor
