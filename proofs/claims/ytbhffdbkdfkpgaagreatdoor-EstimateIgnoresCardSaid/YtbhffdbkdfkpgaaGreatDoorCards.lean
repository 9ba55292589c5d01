/-
  DERIVED. GIVEN WITH THE SEED: THE CARDS: each row of YtbhffdbkdfkpgaaGreatDoorRows.lean that lists a variable, with what it lists TIED to the program's text (the seventh form; the later family's looks); each row that meets fmt, with fmt's text TOLD by the authors' own Lean function (tested against real Go, not proved from fmt's source: count such statements apart). THE CARD IS WHAT COUNTS. Prove the row's statement (the work); the ties are given (YtbhffdbkdfkpgaaGreatDoorTie.lean); close each card by the builder's one call (the guide's Derived/Test/ToyasCard.lean, 'card_holds'). Laid BY PROGRAM, IN A SANDBOX (cutbox-door.mjs). By AI agents, Wed Nov 11 2026. No macro, syntax, notation, axiom, sorry.
-/
import Derived.Test.YtbhffdbkdfkpgaaGreatDoorRows
import GoSem.ClaimSeven
namespace Go.Proofs.YtbhffdbkdfkpgaaGreatDoor
namespace Rows

/-- THE TIED CARD OF 'dynposlaw10.EstimateIgnores'. -/
def estimateIgnoresCard : Claim7 := { stood := { row := estimateIgnoresRow, standIns := [], harness := (true, "13119501477c266a87419ff737df688c1d7fb6d1875610847c379f29d5b6f4c3"), looks := false }, kinds := [], alts := [], laidByText := true, laidKinds := [.data, .data], laidTests := true, laidLooks := .later }
def EstimateIgnoresCardSaid : Prop := Claim7.holds Tryz.pinned (.plain (OpenSpec.ofChange estimateIgnoresSpec)) estimateIgnoresCard

/-- THE SECOND FORM's CARD OF 'dynposlaw10.EstimateIgnores'. -/
def estimateIgnoresUptoCard : Claim7 := { stood := { row := estimateIgnoresUptoRow, standIns := [], harness := (true, "13119501477c266a87419ff737df688c1d7fb6d1875610847c379f29d5b6f4c3"), looks := false }, kinds := [], alts := [], laidByText := true, laidKinds := [.data, .data], laidTests := true, laidLooks := .later }
def EstimateIgnoresUptoCardSaid : Prop := Claim7.holds Tryz.pinned (.plain (OpenSpec.upto estimateIgnoresSpec)) estimateIgnoresUptoCard
end Rows
end Go.Proofs.YtbhffdbkdfkpgaaGreatDoor
