/-
  No cell of these rows narrows 'for every input' (looked for: loops, veiled, ifaces, maps, wideKeys, modest, calm, conditions, laid).
  DERIVED. THE GIVEN ROWS OF THIS SEAT. 6 by the template 'for every input the law returns true; each argument reads behind the call as it read before'; 0 by the template 'total and deterministic' (their statements: YtnnnmdmniceenaaTotals.lean).
  GIVEN WITH THE SEED: the statements are not yours to turn. If you find one false, say at which input.
  Laid BY PROGRAM, IN A SANDBOX (cutbox-rows.mjs): the forced cells as the released guide's own fill.sh prints them over the translation f2559036453f83f7… (all of the seat's roots in one cut). By AI agents, Wed Nov 11 2026. No macro, syntax, notation, axiom, sorry.
-/
import Derived.Test.YtnnnmdmniceenaaChecked
import GoSem.Claim
import GoSem.ClaimJoined
import GoSem.ClaimMapViews
import Derived.JoinedTies
import Derived.KernelRfl
namespace Go.Proofs.Ytnnnmdmniceenaa
/- THE CELL 'sum', in the pinned program and in every row, IS THE sha256 OF THE DUMP (.gsa) THAT YtnnnmdmniceenaaProg.lean LOADS. Nothing in Lean hashes anything: it is a label: what it is worth is what the hold of that sum in a sandbox is worth. -/
noncomputable def Try.pinned : Pinned := { name := "ytnnnmdmniceenaa", sum := "f2559036453f83f73f4bb323b7fc0ffbd826a1dadfef869ec75da4cca308e596", checked := Try.checked }
namespace Rows
def none {H : Type} : Left H := { results := [], args := [] }

/-- 'dynposlaw23.VesselReturns': WHATEVER THE INPUT: true; the input reads as it did. -/
def vesselReturnsSpec : ChangeSpec := { name := "vesselReturns", fn := fun _ => fun
  | [d1, d2] => { results := [.lit (.bool true)], args := [d1, d2] }
  | _ => none }
def vesselReturnsRow : OpenClaim := { program := "ytnnnmdmniceenaa", sum := "f2559036453f83f73f4bb323b7fc0ffbd826a1dadfef869ec75da4cca308e596", func := "dynpos/dynposlaw23.VesselReturns", spec := "vesselReturns", unfollowed := true, recurses := true, apart := false }
def VesselReturnsSaid : Prop := vesselReturnsRow.holds Try.pinned (OpenSpec.ofChange vesselReturnsSpec)

/-- ITS FALSE NEIGHBOUR: 'it returns false'. Refute it at one input. -/
def vesselReturnsWrong : ChangeSpec := { name := "vesselReturns", fn := fun _ => fun
  | [d1, d2] => { results := [.lit (.bool false)], args := [d1, d2] }
  | _ => none }
def VesselReturnsWrongFalsely : Prop := vesselReturnsRow.holds Try.pinned (OpenSpec.ofChange vesselReturnsWrong)

/-- 'dynposlaw23.VesselDrags': WHATEVER THE INPUT: true; the input reads as it did. -/
def vesselDragsSpec : ChangeSpec := { name := "vesselDrags", fn := fun _ => fun
  | [d] => { results := [.lit (.bool true)], args := [d] }
  | _ => none }
def vesselDragsRow : OpenClaim := { program := "ytnnnmdmniceenaa", sum := "f2559036453f83f73f4bb323b7fc0ffbd826a1dadfef869ec75da4cca308e596", func := "dynpos/dynposlaw23.VesselDrags", spec := "vesselDrags", unfollowed := true, recurses := true, apart := false }
def VesselDragsSaid : Prop := vesselDragsRow.holds Try.pinned (OpenSpec.ofChange vesselDragsSpec)

/-- ITS FALSE NEIGHBOUR: 'it returns false'. Refute it at one input. -/
def vesselDragsWrong : ChangeSpec := { name := "vesselDrags", fn := fun _ => fun
  | [d] => { results := [.lit (.bool false)], args := [d] }
  | _ => none }
def VesselDragsWrongFalsely : Prop := vesselDragsRow.holds Try.pinned (OpenSpec.ofChange vesselDragsWrong)

/-- 'dynposlaw23.VesselSteers': WHATEVER THE INPUT: true; the input reads as it did. -/
def vesselSteersSpec : ChangeSpec := { name := "vesselSteers", fn := fun _ => fun
  | [d] => { results := [.lit (.bool true)], args := [d] }
  | _ => none }
def vesselSteersRow : OpenClaim := { program := "ytnnnmdmniceenaa", sum := "f2559036453f83f73f4bb323b7fc0ffbd826a1dadfef869ec75da4cca308e596", func := "dynpos/dynposlaw23.VesselSteers", spec := "vesselSteers", unfollowed := true, recurses := true, apart := false }
def VesselSteersSaid : Prop := vesselSteersRow.holds Try.pinned (OpenSpec.ofChange vesselSteersSpec)

/-- ITS FALSE NEIGHBOUR: 'it returns false'. Refute it at one input. -/
def vesselSteersWrong : ChangeSpec := { name := "vesselSteers", fn := fun _ => fun
  | [d] => { results := [.lit (.bool false)], args := [d] }
  | _ => none }
def VesselSteersWrongFalsely : Prop := vesselSteersRow.holds Try.pinned (OpenSpec.ofChange vesselSteersWrong)

/-- 'dynposlaw23.VesselExact': WHATEVER THE INPUT: true; the input reads as it did. -/
def vesselExactSpec : ChangeSpec := { name := "vesselExact", fn := fun _ => fun
  | [d1, d2, d3, d4] => { results := [.lit (.bool true)], args := [d1, d2, d3, d4] }
  | _ => none }
def vesselExactRow : OpenClaim := { program := "ytnnnmdmniceenaa", sum := "f2559036453f83f73f4bb323b7fc0ffbd826a1dadfef869ec75da4cca308e596", func := "dynpos/dynposlaw23.VesselExact", spec := "vesselExact", unfollowed := true, recurses := true, apart := false }
def VesselExactSaid : Prop := vesselExactRow.holds Try.pinned (OpenSpec.ofChange vesselExactSpec)

/-- ITS FALSE NEIGHBOUR: 'it returns false'. Refute it at one input. -/
def vesselExactWrong : ChangeSpec := { name := "vesselExact", fn := fun _ => fun
  | [d1, d2, d3, d4] => { results := [.lit (.bool false)], args := [d1, d2, d3, d4] }
  | _ => none }
def VesselExactWrongFalsely : Prop := vesselExactRow.holds Try.pinned (OpenSpec.ofChange vesselExactWrong)

/-- 'dynposlaw23.VesselSplits': WHATEVER THE INPUT: true; the input reads as it did. -/
def vesselSplitsSpec : ChangeSpec := { name := "vesselSplits", fn := fun _ => fun
  | [d1, d2, d3] => { results := [.lit (.bool true)], args := [d1, d2, d3] }
  | _ => none }
def vesselSplitsRow : OpenClaim := { program := "ytnnnmdmniceenaa", sum := "f2559036453f83f73f4bb323b7fc0ffbd826a1dadfef869ec75da4cca308e596", func := "dynpos/dynposlaw23.VesselSplits", spec := "vesselSplits", unfollowed := true, recurses := true, apart := false }
def VesselSplitsSaid : Prop := vesselSplitsRow.holds Try.pinned (OpenSpec.ofChange vesselSplitsSpec)

/-- ITS FALSE NEIGHBOUR: 'it returns false'. Refute it at one input. -/
def vesselSplitsWrong : ChangeSpec := { name := "vesselSplits", fn := fun _ => fun
  | [d1, d2, d3] => { results := [.lit (.bool false)], args := [d1, d2, d3] }
  | _ => none }
def VesselSplitsWrongFalsely : Prop := vesselSplitsRow.holds Try.pinned (OpenSpec.ofChange vesselSplitsWrong)

/-- 'dynposlaw23.VesselRests': WHATEVER THE INPUT: true; the input reads as it did. -/
def vesselRestsSpec : ChangeSpec := { name := "vesselRests", fn := fun _ => fun
  | [d1, d2] => { results := [.lit (.bool true)], args := [d1, d2] }
  | _ => none }
def vesselRestsRow : OpenClaim := { program := "ytnnnmdmniceenaa", sum := "f2559036453f83f73f4bb323b7fc0ffbd826a1dadfef869ec75da4cca308e596", func := "dynpos/dynposlaw23.VesselRests", spec := "vesselRests", unfollowed := true, recurses := true, apart := false }
def VesselRestsSaid : Prop := vesselRestsRow.holds Try.pinned (OpenSpec.ofChange vesselRestsSpec)

/-- ITS FALSE NEIGHBOUR: 'it returns false'. Refute it at one input. -/
def vesselRestsWrong : ChangeSpec := { name := "vesselRests", fn := fun _ => fun
  | [d1, d2] => { results := [.lit (.bool false)], args := [d1, d2] }
  | _ => none }
def VesselRestsWrongFalsely : Prop := vesselRestsRow.holds Try.pinned (OpenSpec.ofChange vesselRestsWrong)

/- THE SECOND FORM. 'bulk': how many values and letters a reading holds, each counted each time it is reached (what is shared counts as often as it is met; a slice's spare places count too). A statement '..UptoSaid' is the law's where the arguments, and the package variables that the reading takes, are together of bulk at most 1048576: NARROWER than '..Said'. Prove '..Said' where nothing that the law and all that it calls make is longer than what came in: it says more and counts as full. Else prove '..UptoSaid'. A law counts once. -/
mutual
def uptoBulk {H : Type} : DataW H → Nat
  | .lit (.string bytes) => bytes.length + 1
  | .lit _ => 1
  | .nil => 1
  | .ptr d => uptoBulk d + 1
  | .slice elems spare => uptoBulkAll elems + uptoBulkAll spare + 1
  | .agg parts => uptoBulkAll parts + 1
  | .iface _ d => uptoBulk d + 1
  | .map entries => uptoBulkEntries entries + 1
  | .held _ => 1
def uptoBulkAll {H : Type} : List (DataW H) → Nat
  | [] => 0
  | d :: r => uptoBulk d + uptoBulkAll r
def uptoBulkEntries {H : Type} : List (Lit × DataW H) → Nat
  | [] => 0
  | x :: r => uptoBulkEntry x + uptoBulkEntries r
def uptoBulkEntry {H : Type} : Lit × DataW H → Nat
  | (.string bytes, d) => bytes.length + uptoBulk d + 1
  | (_, d) => uptoBulk d + 1
 end
def uptoSmall : (H : Type) → List (DataW H) → Bool := fun _ ds => decide (uptoBulkAll ds ≤ 1048576)
def OpenSpec.upto (s : _root_.Go.ChangeSpec) : _root_.Go.OpenSpec := { _root_.Go.OpenSpec.ofChange s with cond := some uptoSmall }

/-- 'dynposlaw23.VesselReturns', WHERE WHAT IT READS IS OF BULK AT MOST 1048576: true; the input reads as it did. -/
def vesselReturnsUptoRow : OpenClaim := { program := "ytnnnmdmniceenaa", sum := "f2559036453f83f73f4bb323b7fc0ffbd826a1dadfef869ec75da4cca308e596", func := "dynpos/dynposlaw23.VesselReturns", spec := "vesselReturns", unfollowed := true, recurses := true, apart := false, narrowed := true }
def VesselReturnsUptoSaid : Prop := vesselReturnsUptoRow.holds Try.pinned (OpenSpec.upto vesselReturnsSpec)

/-- 'dynposlaw23.VesselDrags', WHERE WHAT IT READS IS OF BULK AT MOST 1048576: true; the input reads as it did. -/
def vesselDragsUptoRow : OpenClaim := { program := "ytnnnmdmniceenaa", sum := "f2559036453f83f73f4bb323b7fc0ffbd826a1dadfef869ec75da4cca308e596", func := "dynpos/dynposlaw23.VesselDrags", spec := "vesselDrags", unfollowed := true, recurses := true, apart := false, narrowed := true }
def VesselDragsUptoSaid : Prop := vesselDragsUptoRow.holds Try.pinned (OpenSpec.upto vesselDragsSpec)

/-- 'dynposlaw23.VesselSteers', WHERE WHAT IT READS IS OF BULK AT MOST 1048576: true; the input reads as it did. -/
def vesselSteersUptoRow : OpenClaim := { program := "ytnnnmdmniceenaa", sum := "f2559036453f83f73f4bb323b7fc0ffbd826a1dadfef869ec75da4cca308e596", func := "dynpos/dynposlaw23.VesselSteers", spec := "vesselSteers", unfollowed := true, recurses := true, apart := false, narrowed := true }
def VesselSteersUptoSaid : Prop := vesselSteersUptoRow.holds Try.pinned (OpenSpec.upto vesselSteersSpec)

/-- 'dynposlaw23.VesselExact', WHERE WHAT IT READS IS OF BULK AT MOST 1048576: true; the input reads as it did. -/
def vesselExactUptoRow : OpenClaim := { program := "ytnnnmdmniceenaa", sum := "f2559036453f83f73f4bb323b7fc0ffbd826a1dadfef869ec75da4cca308e596", func := "dynpos/dynposlaw23.VesselExact", spec := "vesselExact", unfollowed := true, recurses := true, apart := false, narrowed := true }
def VesselExactUptoSaid : Prop := vesselExactUptoRow.holds Try.pinned (OpenSpec.upto vesselExactSpec)

/-- 'dynposlaw23.VesselSplits', WHERE WHAT IT READS IS OF BULK AT MOST 1048576: true; the input reads as it did. -/
def vesselSplitsUptoRow : OpenClaim := { program := "ytnnnmdmniceenaa", sum := "f2559036453f83f73f4bb323b7fc0ffbd826a1dadfef869ec75da4cca308e596", func := "dynpos/dynposlaw23.VesselSplits", spec := "vesselSplits", unfollowed := true, recurses := true, apart := false, narrowed := true }
def VesselSplitsUptoSaid : Prop := vesselSplitsUptoRow.holds Try.pinned (OpenSpec.upto vesselSplitsSpec)

/-- 'dynposlaw23.VesselRests', WHERE WHAT IT READS IS OF BULK AT MOST 1048576: true; the input reads as it did. -/
def vesselRestsUptoRow : OpenClaim := { program := "ytnnnmdmniceenaa", sum := "f2559036453f83f73f4bb323b7fc0ffbd826a1dadfef869ec75da4cca308e596", func := "dynpos/dynposlaw23.VesselRests", spec := "vesselRests", unfollowed := true, recurses := true, apart := false, narrowed := true }
def VesselRestsUptoSaid : Prop := vesselRestsUptoRow.holds Try.pinned (OpenSpec.upto vesselRestsSpec)

end Rows
end Go.Proofs.Ytnnnmdmniceenaa
