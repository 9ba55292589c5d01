/-
  DERIVED. GIVEN WITH THE SEED: THE CARDS: each row of YtbhffdbkdfkpgaaDoorRows.lean that lists a variable, with what it lists TIED to the program's text (the seventh form; the later family's looks); each row that meets fmt, with fmt's text TOLD by the authors' own Lean function (tested against real Go, not proved from fmt's source: count such statements apart). THE CARD IS WHAT COUNTS. Prove the row's statement (the work); the ties are given (YtbhffdbkdfkpgaaDoorTie.lean); close each card by the builder's one call (the guide's Derived/Test/ToyasCard.lean, 'card_holds'). Laid BY PROGRAM, IN A SANDBOX (cutbox-door.mjs). By AI agents, Wed Nov 11 2026. No macro, syntax, notation, axiom, sorry.
-/
import Derived.Test.YtbhffdbkdfkpgaaDoorRows
import GoSem.ClaimSeven
namespace Go.Proofs.YtbhffdbkdfkpgaaDoor
namespace Rows

/-- THE TIED CARD OF 'dynposlaw10.EstimateLoses'. -/
def estimateLosesCard : Claim7 := { stood := { row := estimateLosesRow, standIns := [], harness := (true, "aa1538c4011e10dab952d4767836ed660774e60f3e921e4ee66d83547674e34f"), looks := false }, kinds := [], alts := [], laidByText := true, laidKinds := [.data, .data], laidTests := true, laidLooks := .later }
def EstimateLosesCardSaid : Prop := Claim7.holds Tryd.pinned (.plain (OpenSpec.ofChange estimateLosesSpec)) estimateLosesCard

/-- THE TIED CARD OF 'dynposlaw10.EstimateHolds'. -/
def estimateHoldsCard : Claim7 := { stood := { row := estimateHoldsRow, standIns := [], harness := (true, "aa1538c4011e10dab952d4767836ed660774e60f3e921e4ee66d83547674e34f"), looks := false }, kinds := [], alts := [], laidByText := true, laidKinds := [.data, .data], laidTests := true, laidLooks := .later }
def EstimateHoldsCardSaid : Prop := Claim7.holds Tryd.pinned (.plain (OpenSpec.ofChange estimateHoldsSpec)) estimateHoldsCard

/-- THE SECOND FORM's CARD OF 'dynposlaw10.EstimateLoses'. -/
def estimateLosesUptoCard : Claim7 := { stood := { row := estimateLosesUptoRow, standIns := [], harness := (true, "aa1538c4011e10dab952d4767836ed660774e60f3e921e4ee66d83547674e34f"), looks := false }, kinds := [], alts := [], laidByText := true, laidKinds := [.data, .data], laidTests := true, laidLooks := .later }
def EstimateLosesUptoCardSaid : Prop := Claim7.holds Tryd.pinned (.plain (OpenSpec.upto estimateLosesSpec)) estimateLosesUptoCard

/-- THE SECOND FORM's CARD OF 'dynposlaw10.EstimateHolds'. -/
def estimateHoldsUptoCard : Claim7 := { stood := { row := estimateHoldsUptoRow, standIns := [], harness := (true, "aa1538c4011e10dab952d4767836ed660774e60f3e921e4ee66d83547674e34f"), looks := false }, kinds := [], alts := [], laidByText := true, laidKinds := [.data, .data], laidTests := true, laidLooks := .later }
def EstimateHoldsUptoCardSaid : Prop := Claim7.holds Tryd.pinned (.plain (OpenSpec.upto estimateHoldsSpec)) estimateHoldsUptoCard
end Rows
end Go.Proofs.YtbhffdbkdfkpgaaDoor
