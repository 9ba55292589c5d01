/-
  No cell of these rows narrows 'for every input' (looked for: loops, veiled, ifaces, maps, wideKeys, modest, calm, conditions, laid).
  DERIVED. THE GIVEN ROWS OF THIS SEAT. 4 by the template 'for every input the law returns true; each argument reads behind the call as it read before'; 0 by the template 'total and deterministic' (their statements: YtejklpbiieofoaaTotals.lean).
  GIVEN WITH THE SEED: the statements are not yours to turn. If you find one false, say at which input.
  Laid BY PROGRAM, IN A SANDBOX (cutbox-rows.mjs): the forced cells as the released guide's own fill.sh prints them over the translation e0753964655ab85b… (all of the seat's roots in one cut). By AI agents, Wed Nov 11 2026. No macro, syntax, notation, axiom, sorry.
-/
import Derived.Test.YtejklpbiieofoaaChecked
import GoSem.Claim
import GoSem.ClaimJoined
import GoSem.ClaimMapViews
import Derived.JoinedTies
import Derived.KernelRfl
namespace Go.Proofs.Ytejklpbiieofoaa
/- THE CELL 'sum', in the pinned program and in every row, IS THE sha256 OF THE DUMP (.gsa) THAT YtejklpbiieofoaaProg.lean LOADS. Nothing in Lean hashes anything: it is a label: what it is worth is what the hold of that sum in a sandbox is worth. -/
noncomputable def Try.pinned : Pinned := { name := "ytejklpbiieofoaa", sum := "e0753964655ab85bf3fad13566da7767b802eb1f3bcb421c8471b3ac52315ce6", checked := Try.checked }
namespace Rows
def none {H : Type} : Left H := { results := [], args := [] }

/-- 'dynposlaw07.MonitorTrue': WHATEVER THE INPUT: true; the input reads as it did. -/
def monitorTrueSpec : ChangeSpec := { name := "monitorTrue", fn := fun _ => fun
  | [d] => { results := [.lit (.bool true)], args := [d] }
  | _ => none }
def monitorTrueRow : OpenClaim := { program := "ytejklpbiieofoaa", sum := "e0753964655ab85bf3fad13566da7767b802eb1f3bcb421c8471b3ac52315ce6", func := "dynpos/dynposlaw07.MonitorTrue", spec := "monitorTrue", apart := false }
def MonitorTrueSaid : Prop := monitorTrueRow.holds Try.pinned (OpenSpec.ofChange monitorTrueSpec)

/-- ITS FALSE NEIGHBOUR: 'it returns false'. Refute it at one input. -/
def monitorTrueWrong : ChangeSpec := { name := "monitorTrue", fn := fun _ => fun
  | [d] => { results := [.lit (.bool false)], args := [d] }
  | _ => none }
def MonitorTrueWrongFalsely : Prop := monitorTrueRow.holds Try.pinned (OpenSpec.ofChange monitorTrueWrong)

/-- 'dynposlaw07.MonitorReturns': WHATEVER THE INPUT: true; the input reads as it did. -/
def monitorReturnsSpec : ChangeSpec := { name := "monitorReturns", fn := fun _ => fun
  | [d1, d2] => { results := [.lit (.bool true)], args := [d1, d2] }
  | _ => none }
def monitorReturnsRow : OpenClaim := { program := "ytejklpbiieofoaa", sum := "e0753964655ab85bf3fad13566da7767b802eb1f3bcb421c8471b3ac52315ce6", func := "dynpos/dynposlaw07.MonitorReturns", spec := "monitorReturns", apart := false }
def MonitorReturnsSaid : Prop := monitorReturnsRow.holds Try.pinned (OpenSpec.ofChange monitorReturnsSpec)

/-- ITS FALSE NEIGHBOUR: 'it returns false'. Refute it at one input. -/
def monitorReturnsWrong : ChangeSpec := { name := "monitorReturns", fn := fun _ => fun
  | [d1, d2] => { results := [.lit (.bool false)], args := [d1, d2] }
  | _ => none }
def MonitorReturnsWrongFalsely : Prop := monitorReturnsRow.holds Try.pinned (OpenSpec.ofChange monitorReturnsWrong)

/-- 'dynposlaw07.MonitorTicks': WHATEVER THE INPUT: true; the input reads as it did. -/
def monitorTicksSpec : ChangeSpec := { name := "monitorTicks", fn := fun _ => fun
  | [d] => { results := [.lit (.bool true)], args := [d] }
  | _ => none }
def monitorTicksRow : OpenClaim := { program := "ytejklpbiieofoaa", sum := "e0753964655ab85bf3fad13566da7767b802eb1f3bcb421c8471b3ac52315ce6", func := "dynpos/dynposlaw07.MonitorTicks", spec := "monitorTicks", apart := false }
def MonitorTicksSaid : Prop := monitorTicksRow.holds Try.pinned (OpenSpec.ofChange monitorTicksSpec)

/-- ITS FALSE NEIGHBOUR: 'it returns false'. Refute it at one input. -/
def monitorTicksWrong : ChangeSpec := { name := "monitorTicks", fn := fun _ => fun
  | [d] => { results := [.lit (.bool false)], args := [d] }
  | _ => none }
def MonitorTicksWrongFalsely : Prop := monitorTicksRow.holds Try.pinned (OpenSpec.ofChange monitorTicksWrong)

/-- 'dynposlaw07.MonitorFreezes': WHATEVER THE INPUT: true; the input reads as it did. -/
def monitorFreezesSpec : ChangeSpec := { name := "monitorFreezes", fn := fun _ => fun
  | [d1, d2] => { results := [.lit (.bool true)], args := [d1, d2] }
  | _ => none }
def monitorFreezesRow : OpenClaim := { program := "ytejklpbiieofoaa", sum := "e0753964655ab85bf3fad13566da7767b802eb1f3bcb421c8471b3ac52315ce6", func := "dynpos/dynposlaw07.MonitorFreezes", spec := "monitorFreezes", apart := false }
def MonitorFreezesSaid : Prop := monitorFreezesRow.holds Try.pinned (OpenSpec.ofChange monitorFreezesSpec)

/-- ITS FALSE NEIGHBOUR: 'it returns false'. Refute it at one input. -/
def monitorFreezesWrong : ChangeSpec := { name := "monitorFreezes", fn := fun _ => fun
  | [d1, d2] => { results := [.lit (.bool false)], args := [d1, d2] }
  | _ => none }
def MonitorFreezesWrongFalsely : Prop := monitorFreezesRow.holds Try.pinned (OpenSpec.ofChange monitorFreezesWrong)

/- THE SECOND FORM. 'bulk': how many values and letters a reading holds, each counted each time it is reached (what is shared counts as often as it is met; a slice's spare places count too). A statement '..UptoSaid' is the law's where the arguments, and the package variables that the reading takes, are together of bulk at most 1048576: NARROWER than '..Said'. Prove '..Said' where nothing that the law and all that it calls make is longer than what came in: it says more and counts as full. Else prove '..UptoSaid'. A law counts once. -/
mutual
def uptoBulk {H : Type} : DataW H → Nat
  | .lit (.string bytes) => bytes.length + 1
  | .lit _ => 1
  | .nil => 1
  | .ptr d => uptoBulk d + 1
  | .slice elems spare => uptoBulkAll elems + uptoBulkAll spare + 1
  | .agg parts => uptoBulkAll parts + 1
  | .iface _ d => uptoBulk d + 1
  | .map entries => uptoBulkEntries entries + 1
  | .held _ => 1
def uptoBulkAll {H : Type} : List (DataW H) → Nat
  | [] => 0
  | d :: r => uptoBulk d + uptoBulkAll r
def uptoBulkEntries {H : Type} : List (Lit × DataW H) → Nat
  | [] => 0
  | x :: r => uptoBulkEntry x + uptoBulkEntries r
def uptoBulkEntry {H : Type} : Lit × DataW H → Nat
  | (.string bytes, d) => bytes.length + uptoBulk d + 1
  | (_, d) => uptoBulk d + 1
 end
def uptoSmall : (H : Type) → List (DataW H) → Bool := fun _ ds => decide (uptoBulkAll ds ≤ 1048576)
def OpenSpec.upto (s : _root_.Go.ChangeSpec) : _root_.Go.OpenSpec := { _root_.Go.OpenSpec.ofChange s with cond := some uptoSmall }

/-- 'dynposlaw07.MonitorTrue', WHERE WHAT IT READS IS OF BULK AT MOST 1048576: true; the input reads as it did. -/
def monitorTrueUptoRow : OpenClaim := { program := "ytejklpbiieofoaa", sum := "e0753964655ab85bf3fad13566da7767b802eb1f3bcb421c8471b3ac52315ce6", func := "dynpos/dynposlaw07.MonitorTrue", spec := "monitorTrue", apart := false, narrowed := true }
def MonitorTrueUptoSaid : Prop := monitorTrueUptoRow.holds Try.pinned (OpenSpec.upto monitorTrueSpec)

/-- 'dynposlaw07.MonitorReturns', WHERE WHAT IT READS IS OF BULK AT MOST 1048576: true; the input reads as it did. -/
def monitorReturnsUptoRow : OpenClaim := { program := "ytejklpbiieofoaa", sum := "e0753964655ab85bf3fad13566da7767b802eb1f3bcb421c8471b3ac52315ce6", func := "dynpos/dynposlaw07.MonitorReturns", spec := "monitorReturns", apart := false, narrowed := true }
def MonitorReturnsUptoSaid : Prop := monitorReturnsUptoRow.holds Try.pinned (OpenSpec.upto monitorReturnsSpec)

/-- 'dynposlaw07.MonitorTicks', WHERE WHAT IT READS IS OF BULK AT MOST 1048576: true; the input reads as it did. -/
def monitorTicksUptoRow : OpenClaim := { program := "ytejklpbiieofoaa", sum := "e0753964655ab85bf3fad13566da7767b802eb1f3bcb421c8471b3ac52315ce6", func := "dynpos/dynposlaw07.MonitorTicks", spec := "monitorTicks", apart := false, narrowed := true }
def MonitorTicksUptoSaid : Prop := monitorTicksUptoRow.holds Try.pinned (OpenSpec.upto monitorTicksSpec)

/-- 'dynposlaw07.MonitorFreezes', WHERE WHAT IT READS IS OF BULK AT MOST 1048576: true; the input reads as it did. -/
def monitorFreezesUptoRow : OpenClaim := { program := "ytejklpbiieofoaa", sum := "e0753964655ab85bf3fad13566da7767b802eb1f3bcb421c8471b3ac52315ce6", func := "dynpos/dynposlaw07.MonitorFreezes", spec := "monitorFreezes", apart := false, narrowed := true }
def MonitorFreezesUptoSaid : Prop := monitorFreezesUptoRow.holds Try.pinned (OpenSpec.upto monitorFreezesSpec)

end Rows
end Go.Proofs.Ytejklpbiieofoaa
