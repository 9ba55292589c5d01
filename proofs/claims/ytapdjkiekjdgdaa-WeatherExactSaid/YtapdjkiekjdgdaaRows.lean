/-
  No cell of these rows narrows 'for every input' (looked for: loops, veiled, ifaces, maps, wideKeys, modest, calm, conditions, laid).
  DERIVED. THE GIVEN ROWS OF THIS SEAT. 6 by the template 'for every input the law returns true; each argument reads behind the call as it read before'; 0 by the template 'total and deterministic' (their statements: YtapdjkiekjdgdaaTotals.lean).
  GIVEN WITH THE SEED: the statements are not yours to turn. If you find one false, say at which input.
  Laid BY PROGRAM, IN A SANDBOX (cutbox-rows.mjs): the forced cells as the released guide's own fill.sh prints them over the translation ed8a657d2f652894… (all of the seat's roots in one cut). By AI agents, Wed Nov 11 2026. No macro, syntax, notation, axiom, sorry.
-/
import Derived.Test.YtapdjkiekjdgdaaChecked
import GoSem.Claim
import GoSem.ClaimJoined
import GoSem.ClaimMapViews
import Derived.JoinedTies
import Derived.KernelRfl
namespace Go.Proofs.Ytapdjkiekjdgdaa
/- THE CELL 'sum', in the pinned program and in every row, IS THE sha256 OF THE DUMP (.gsa) THAT YtapdjkiekjdgdaaProg.lean LOADS. Nothing in Lean hashes anything: it is a label: what it is worth is what the hold of that sum in a sandbox is worth. -/
noncomputable def Try.pinned : Pinned := { name := "ytapdjkiekjdgdaa", sum := "ed8a657d2f65289487d364534ac92e80ba15b55ea92479773afb6ff73ae93197", checked := Try.checked }
namespace Rows
def none {H : Type} : Left H := { results := [], args := [] }

/-- 'dynposlaw22.WeatherBetween': WHATEVER THE INPUT: true; the input reads as it did. -/
def weatherBetweenSpec : ChangeSpec := { name := "weatherBetween", fn := fun _ => fun
  | [d1, d2] => { results := [.lit (.bool true)], args := [d1, d2] }
  | _ => none }
def weatherBetweenRow : OpenClaim := { program := "ytapdjkiekjdgdaa", sum := "ed8a657d2f65289487d364534ac92e80ba15b55ea92479773afb6ff73ae93197", func := "dynpos/dynposlaw22.WeatherBetween", spec := "weatherBetween", apart := false }
def WeatherBetweenSaid : Prop := weatherBetweenRow.holds Try.pinned (OpenSpec.ofChange weatherBetweenSpec)

/-- ITS FALSE NEIGHBOUR: 'it returns false'. Refute it at one input. -/
def weatherBetweenWrong : ChangeSpec := { name := "weatherBetween", fn := fun _ => fun
  | [d1, d2] => { results := [.lit (.bool false)], args := [d1, d2] }
  | _ => none }
def WeatherBetweenWrongFalsely : Prop := weatherBetweenRow.holds Try.pinned (OpenSpec.ofChange weatherBetweenWrong)

/-- 'dynposlaw22.WeatherMirror': WHATEVER THE INPUT: true; the input reads as it did. -/
def weatherMirrorSpec : ChangeSpec := { name := "weatherMirror", fn := fun _ => fun
  | [d1, d2] => { results := [.lit (.bool true)], args := [d1, d2] }
  | _ => none }
def weatherMirrorRow : OpenClaim := { program := "ytapdjkiekjdgdaa", sum := "ed8a657d2f65289487d364534ac92e80ba15b55ea92479773afb6ff73ae93197", func := "dynpos/dynposlaw22.WeatherMirror", spec := "weatherMirror", apart := false }
def WeatherMirrorSaid : Prop := weatherMirrorRow.holds Try.pinned (OpenSpec.ofChange weatherMirrorSpec)

/-- ITS FALSE NEIGHBOUR: 'it returns false'. Refute it at one input. -/
def weatherMirrorWrong : ChangeSpec := { name := "weatherMirror", fn := fun _ => fun
  | [d1, d2] => { results := [.lit (.bool false)], args := [d1, d2] }
  | _ => none }
def WeatherMirrorWrongFalsely : Prop := weatherMirrorRow.holds Try.pinned (OpenSpec.ofChange weatherMirrorWrong)

/-- 'dynposlaw22.WeatherGrows': WHATEVER THE INPUT: true; the input reads as it did. -/
def weatherGrowsSpec : ChangeSpec := { name := "weatherGrows", fn := fun _ => fun
  | [d1, d2] => { results := [.lit (.bool true)], args := [d1, d2] }
  | _ => none }
def weatherGrowsRow : OpenClaim := { program := "ytapdjkiekjdgdaa", sum := "ed8a657d2f65289487d364534ac92e80ba15b55ea92479773afb6ff73ae93197", func := "dynpos/dynposlaw22.WeatherGrows", spec := "weatherGrows", apart := false }
def WeatherGrowsSaid : Prop := weatherGrowsRow.holds Try.pinned (OpenSpec.ofChange weatherGrowsSpec)

/-- ITS FALSE NEIGHBOUR: 'it returns false'. Refute it at one input. -/
def weatherGrowsWrong : ChangeSpec := { name := "weatherGrows", fn := fun _ => fun
  | [d1, d2] => { results := [.lit (.bool false)], args := [d1, d2] }
  | _ => none }
def WeatherGrowsWrongFalsely : Prop := weatherGrowsRow.holds Try.pinned (OpenSpec.ofChange weatherGrowsWrong)

/-- 'dynposlaw22.WeatherExact': WHATEVER THE INPUT: true; the input reads as it did. -/
def weatherExactSpec : ChangeSpec := { name := "weatherExact", fn := fun _ => fun
  | [d1, d2, d3, d4, d5] => { results := [.lit (.bool true)], args := [d1, d2, d3, d4, d5] }
  | _ => none }
def weatherExactRow : OpenClaim := { program := "ytapdjkiekjdgdaa", sum := "ed8a657d2f65289487d364534ac92e80ba15b55ea92479773afb6ff73ae93197", func := "dynpos/dynposlaw22.WeatherExact", spec := "weatherExact", apart := false }
def WeatherExactSaid : Prop := weatherExactRow.holds Try.pinned (OpenSpec.ofChange weatherExactSpec)

/-- ITS FALSE NEIGHBOUR: 'it returns false'. Refute it at one input. -/
def weatherExactWrong : ChangeSpec := { name := "weatherExact", fn := fun _ => fun
  | [d1, d2, d3, d4, d5] => { results := [.lit (.bool false)], args := [d1, d2, d3, d4, d5] }
  | _ => none }
def WeatherExactWrongFalsely : Prop := weatherExactRow.holds Try.pinned (OpenSpec.ofChange weatherExactWrong)

/-- 'dynposlaw22.WeatherTurns': WHATEVER THE INPUT: true; the input reads as it did. -/
def weatherTurnsSpec : ChangeSpec := { name := "weatherTurns", fn := fun _ => fun
  | [d1, d2] => { results := [.lit (.bool true)], args := [d1, d2] }
  | _ => none }
def weatherTurnsRow : OpenClaim := { program := "ytapdjkiekjdgdaa", sum := "ed8a657d2f65289487d364534ac92e80ba15b55ea92479773afb6ff73ae93197", func := "dynpos/dynposlaw22.WeatherTurns", spec := "weatherTurns", apart := false }
def WeatherTurnsSaid : Prop := weatherTurnsRow.holds Try.pinned (OpenSpec.ofChange weatherTurnsSpec)

/-- ITS FALSE NEIGHBOUR: 'it returns false'. Refute it at one input. -/
def weatherTurnsWrong : ChangeSpec := { name := "weatherTurns", fn := fun _ => fun
  | [d1, d2] => { results := [.lit (.bool false)], args := [d1, d2] }
  | _ => none }
def WeatherTurnsWrongFalsely : Prop := weatherTurnsRow.holds Try.pinned (OpenSpec.ofChange weatherTurnsWrong)

/-- 'dynposlaw22.WeatherCalm': WHATEVER THE INPUT: true; the input reads as it did. -/
def weatherCalmSpec : ChangeSpec := { name := "weatherCalm", fn := fun _ => fun
  | [d] => { results := [.lit (.bool true)], args := [d] }
  | _ => none }
def weatherCalmRow : OpenClaim := { program := "ytapdjkiekjdgdaa", sum := "ed8a657d2f65289487d364534ac92e80ba15b55ea92479773afb6ff73ae93197", func := "dynpos/dynposlaw22.WeatherCalm", spec := "weatherCalm", apart := false }
def WeatherCalmSaid : Prop := weatherCalmRow.holds Try.pinned (OpenSpec.ofChange weatherCalmSpec)

/-- ITS FALSE NEIGHBOUR: 'it returns false'. Refute it at one input. -/
def weatherCalmWrong : ChangeSpec := { name := "weatherCalm", fn := fun _ => fun
  | [d] => { results := [.lit (.bool false)], args := [d] }
  | _ => none }
def WeatherCalmWrongFalsely : Prop := weatherCalmRow.holds Try.pinned (OpenSpec.ofChange weatherCalmWrong)

/- THE SECOND FORM. 'bulk': how many values and letters a reading holds, each counted each time it is reached (what is shared counts as often as it is met; a slice's spare places count too). A statement '..UptoSaid' is the law's where the arguments, and the package variables that the reading takes, are together of bulk at most 1048576: NARROWER than '..Said'. Prove '..Said' where nothing that the law and all that it calls make is longer than what came in: it says more and counts as full. Else prove '..UptoSaid'. A law counts once. -/
mutual
def uptoBulk {H : Type} : DataW H → Nat
  | .lit (.string bytes) => bytes.length + 1
  | .lit _ => 1
  | .nil => 1
  | .ptr d => uptoBulk d + 1
  | .slice elems spare => uptoBulkAll elems + uptoBulkAll spare + 1
  | .agg parts => uptoBulkAll parts + 1
  | .iface _ d => uptoBulk d + 1
  | .map entries => uptoBulkEntries entries + 1
  | .held _ => 1
def uptoBulkAll {H : Type} : List (DataW H) → Nat
  | [] => 0
  | d :: r => uptoBulk d + uptoBulkAll r
def uptoBulkEntries {H : Type} : List (Lit × DataW H) → Nat
  | [] => 0
  | x :: r => uptoBulkEntry x + uptoBulkEntries r
def uptoBulkEntry {H : Type} : Lit × DataW H → Nat
  | (.string bytes, d) => bytes.length + uptoBulk d + 1
  | (_, d) => uptoBulk d + 1
 end
def uptoSmall : (H : Type) → List (DataW H) → Bool := fun _ ds => decide (uptoBulkAll ds ≤ 1048576)
def OpenSpec.upto (s : _root_.Go.ChangeSpec) : _root_.Go.OpenSpec := { _root_.Go.OpenSpec.ofChange s with cond := some uptoSmall }

/-- 'dynposlaw22.WeatherBetween', WHERE WHAT IT READS IS OF BULK AT MOST 1048576: true; the input reads as it did. -/
def weatherBetweenUptoRow : OpenClaim := { program := "ytapdjkiekjdgdaa", sum := "ed8a657d2f65289487d364534ac92e80ba15b55ea92479773afb6ff73ae93197", func := "dynpos/dynposlaw22.WeatherBetween", spec := "weatherBetween", apart := false, narrowed := true }
def WeatherBetweenUptoSaid : Prop := weatherBetweenUptoRow.holds Try.pinned (OpenSpec.upto weatherBetweenSpec)

/-- 'dynposlaw22.WeatherMirror', WHERE WHAT IT READS IS OF BULK AT MOST 1048576: true; the input reads as it did. -/
def weatherMirrorUptoRow : OpenClaim := { program := "ytapdjkiekjdgdaa", sum := "ed8a657d2f65289487d364534ac92e80ba15b55ea92479773afb6ff73ae93197", func := "dynpos/dynposlaw22.WeatherMirror", spec := "weatherMirror", apart := false, narrowed := true }
def WeatherMirrorUptoSaid : Prop := weatherMirrorUptoRow.holds Try.pinned (OpenSpec.upto weatherMirrorSpec)

/-- 'dynposlaw22.WeatherGrows', WHERE WHAT IT READS IS OF BULK AT MOST 1048576: true; the input reads as it did. -/
def weatherGrowsUptoRow : OpenClaim := { program := "ytapdjkiekjdgdaa", sum := "ed8a657d2f65289487d364534ac92e80ba15b55ea92479773afb6ff73ae93197", func := "dynpos/dynposlaw22.WeatherGrows", spec := "weatherGrows", apart := false, narrowed := true }
def WeatherGrowsUptoSaid : Prop := weatherGrowsUptoRow.holds Try.pinned (OpenSpec.upto weatherGrowsSpec)

/-- 'dynposlaw22.WeatherExact', WHERE WHAT IT READS IS OF BULK AT MOST 1048576: true; the input reads as it did. -/
def weatherExactUptoRow : OpenClaim := { program := "ytapdjkiekjdgdaa", sum := "ed8a657d2f65289487d364534ac92e80ba15b55ea92479773afb6ff73ae93197", func := "dynpos/dynposlaw22.WeatherExact", spec := "weatherExact", apart := false, narrowed := true }
def WeatherExactUptoSaid : Prop := weatherExactUptoRow.holds Try.pinned (OpenSpec.upto weatherExactSpec)

/-- 'dynposlaw22.WeatherTurns', WHERE WHAT IT READS IS OF BULK AT MOST 1048576: true; the input reads as it did. -/
def weatherTurnsUptoRow : OpenClaim := { program := "ytapdjkiekjdgdaa", sum := "ed8a657d2f65289487d364534ac92e80ba15b55ea92479773afb6ff73ae93197", func := "dynpos/dynposlaw22.WeatherTurns", spec := "weatherTurns", apart := false, narrowed := true }
def WeatherTurnsUptoSaid : Prop := weatherTurnsUptoRow.holds Try.pinned (OpenSpec.upto weatherTurnsSpec)

/-- 'dynposlaw22.WeatherCalm', WHERE WHAT IT READS IS OF BULK AT MOST 1048576: true; the input reads as it did. -/
def weatherCalmUptoRow : OpenClaim := { program := "ytapdjkiekjdgdaa", sum := "ed8a657d2f65289487d364534ac92e80ba15b55ea92479773afb6ff73ae93197", func := "dynpos/dynposlaw22.WeatherCalm", spec := "weatherCalm", apart := false, narrowed := true }
def WeatherCalmUptoSaid : Prop := weatherCalmUptoRow.holds Try.pinned (OpenSpec.upto weatherCalmSpec)

end Rows
end Go.Proofs.Ytapdjkiekjdgdaa
