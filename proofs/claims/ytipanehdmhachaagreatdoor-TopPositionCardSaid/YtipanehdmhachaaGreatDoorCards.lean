/-
  DERIVED. GIVEN WITH THE SEED: THE CARDS: each row of YtipanehdmhachaaGreatDoorRows.lean that lists a variable, with what it lists TIED to the program's text (the seventh form; the later family's looks); each row that meets fmt, with fmt's text TOLD by the authors' own Lean function (tested against real Go, not proved from fmt's source: count such statements apart). THE CARD IS WHAT COUNTS. Prove the row's statement (the work); the ties are given (YtipanehdmhachaaGreatDoorTie.lean); close each card by the builder's one call (the guide's Derived/Test/ToyasCard.lean, 'card_holds'). Laid BY PROGRAM, IN A SANDBOX (cutbox-door.mjs). By AI agents, Wed Nov 11 2026. No macro, syntax, notation, axiom, sorry.
-/
import Derived.Test.YtipanehdmhachaaGreatDoorRows
import GoSem.ClaimSeven
namespace Go.Proofs.YtipanehdmhachaaGreatDoor
namespace Rows

/-- THE TIED CARD OF 'dynpostop.TopPosition'. -/
def topPositionCard : Claim7 := { stood := { row := topPositionRow, standIns := [], harness := (true, "720cf3a134f5dfe0a663593bdde865152838df3b0d43bc9f2067dac4c7b8ea90"), looks := true }, kinds := [], alts := [], laidByText := true, laidKinds := [.data, .data, .data, .data, .sentinel, .sentinel, .pinned], laidTests := true, laidLooks := .later }
def TopPositionCardSaid : Prop := Claim7.holds Tryz.pinned (.plain (OpenSpec.ofChange topPositionSpec)) topPositionCard

/-- THE SECOND FORM's CARD OF 'dynpostop.TopPosition'. -/
def topPositionUptoCard : Claim7 := { stood := { row := topPositionUptoRow, standIns := [], harness := (true, "720cf3a134f5dfe0a663593bdde865152838df3b0d43bc9f2067dac4c7b8ea90"), looks := true }, kinds := [], alts := [], laidByText := true, laidKinds := [.data, .data, .data, .data, .sentinel, .sentinel, .pinned], laidTests := true, laidLooks := .later }
def TopPositionUptoCardSaid : Prop := Claim7.holds Tryz.pinned (.plain (OpenSpec.upto topPositionSpec)) topPositionUptoCard
end Rows
end Go.Proofs.YtipanehdmhachaaGreatDoor
