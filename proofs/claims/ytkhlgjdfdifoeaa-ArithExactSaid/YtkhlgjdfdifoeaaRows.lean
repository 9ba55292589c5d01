/-
  No cell of these rows narrows 'for every input' (looked for: loops, veiled, ifaces, maps, wideKeys, modest, calm, conditions, laid).
  DERIVED. THE GIVEN ROWS OF THIS SEAT. 6 by the template 'for every input the law returns true; each argument reads behind the call as it read before'; 0 by the template 'total and deterministic' (their statements: YtkhlgjdfdifoeaaTotals.lean).
  GIVEN WITH THE SEED: the statements are not yours to turn. If you find one false, say at which input.
  Laid BY PROGRAM, IN A SANDBOX (cutbox-rows.mjs): the forced cells as the released guide's own fill.sh prints them over the translation 8f1c4d46805c15b3… (all of the seat's roots in one cut). By AI agents, Wed Nov 11 2026. No macro, syntax, notation, axiom, sorry.
-/
import Derived.Test.YtkhlgjdfdifoeaaChecked
import GoSem.Claim
import GoSem.ClaimJoined
import GoSem.ClaimMapViews
import Derived.JoinedTies
import Derived.KernelRfl
namespace Go.Proofs.Ytkhlgjdfdifoeaa
/- THE CELL 'sum', in the pinned program and in every row, IS THE sha256 OF THE DUMP (.gsa) THAT YtkhlgjdfdifoeaaProg.lean LOADS. Nothing in Lean hashes anything: it is a label: what it is worth is what the hold of that sum in a sandbox is worth. -/
noncomputable def Try.pinned : Pinned := { name := "ytkhlgjdfdifoeaa", sum := "8f1c4d46805c15b3d543c4212af88d1c64684be5c2a180e50c9d382c8060a1e9", checked := Try.checked }
namespace Rows
def none {H : Type} : Left H := { results := [], args := [] }

/-- 'dynposlaw01.ArithClamps': WHATEVER THE INPUT: true; the input reads as it did. -/
def arithClampsSpec : ChangeSpec := { name := "arithClamps", fn := fun _ => fun
  | [d1, d2, d3] => { results := [.lit (.bool true)], args := [d1, d2, d3] }
  | _ => none }
def arithClampsRow : OpenClaim := { program := "ytkhlgjdfdifoeaa", sum := "8f1c4d46805c15b3d543c4212af88d1c64684be5c2a180e50c9d382c8060a1e9", func := "dynpos/dynposlaw01.ArithClamps", spec := "arithClamps", unfollowed := true, recurses := true, apart := false }
def ArithClampsSaid : Prop := arithClampsRow.holds Try.pinned (OpenSpec.ofChange arithClampsSpec)

/-- ITS FALSE NEIGHBOUR: 'it returns false'. Refute it at one input. -/
def arithClampsWrong : ChangeSpec := { name := "arithClamps", fn := fun _ => fun
  | [d1, d2, d3] => { results := [.lit (.bool false)], args := [d1, d2, d3] }
  | _ => none }
def ArithClampsWrongFalsely : Prop := arithClampsRow.holds Try.pinned (OpenSpec.ofChange arithClampsWrong)

/-- 'dynposlaw01.ArithRoots': WHATEVER THE INPUT: true; the input reads as it did. -/
def arithRootsSpec : ChangeSpec := { name := "arithRoots", fn := fun _ => fun
  | [d] => { results := [.lit (.bool true)], args := [d] }
  | _ => none }
def arithRootsRow : OpenClaim := { program := "ytkhlgjdfdifoeaa", sum := "8f1c4d46805c15b3d543c4212af88d1c64684be5c2a180e50c9d382c8060a1e9", func := "dynpos/dynposlaw01.ArithRoots", spec := "arithRoots", unfollowed := true, recurses := true, apart := false }
def ArithRootsSaid : Prop := arithRootsRow.holds Try.pinned (OpenSpec.ofChange arithRootsSpec)

/-- ITS FALSE NEIGHBOUR: 'it returns false'. Refute it at one input. -/
def arithRootsWrong : ChangeSpec := { name := "arithRoots", fn := fun _ => fun
  | [d] => { results := [.lit (.bool false)], args := [d] }
  | _ => none }
def ArithRootsWrongFalsely : Prop := arithRootsRow.holds Try.pinned (OpenSpec.ofChange arithRootsWrong)

/-- 'dynposlaw01.ArithNear': WHATEVER THE INPUT: true; the input reads as it did. -/
def arithNearSpec : ChangeSpec := { name := "arithNear", fn := fun _ => fun
  | [d1, d2, d3] => { results := [.lit (.bool true)], args := [d1, d2, d3] }
  | _ => none }
def arithNearRow : OpenClaim := { program := "ytkhlgjdfdifoeaa", sum := "8f1c4d46805c15b3d543c4212af88d1c64684be5c2a180e50c9d382c8060a1e9", func := "dynpos/dynposlaw01.ArithNear", spec := "arithNear", unfollowed := true, recurses := true, apart := false }
def ArithNearSaid : Prop := arithNearRow.holds Try.pinned (OpenSpec.ofChange arithNearSpec)

/-- ITS FALSE NEIGHBOUR: 'it returns false'. Refute it at one input. -/
def arithNearWrong : ChangeSpec := { name := "arithNear", fn := fun _ => fun
  | [d1, d2, d3] => { results := [.lit (.bool false)], args := [d1, d2, d3] }
  | _ => none }
def ArithNearWrongFalsely : Prop := arithNearRow.holds Try.pinned (OpenSpec.ofChange arithNearWrong)

/-- 'dynposlaw01.ArithShifts': WHATEVER THE INPUT: true; the input reads as it did. -/
def arithShiftsSpec : ChangeSpec := { name := "arithShifts", fn := fun _ => fun
  | [d1, d2, d3] => { results := [.lit (.bool true)], args := [d1, d2, d3] }
  | _ => none }
def arithShiftsRow : OpenClaim := { program := "ytkhlgjdfdifoeaa", sum := "8f1c4d46805c15b3d543c4212af88d1c64684be5c2a180e50c9d382c8060a1e9", func := "dynpos/dynposlaw01.ArithShifts", spec := "arithShifts", unfollowed := true, recurses := true, apart := false }
def ArithShiftsSaid : Prop := arithShiftsRow.holds Try.pinned (OpenSpec.ofChange arithShiftsSpec)

/-- ITS FALSE NEIGHBOUR: 'it returns false'. Refute it at one input. -/
def arithShiftsWrong : ChangeSpec := { name := "arithShifts", fn := fun _ => fun
  | [d1, d2, d3] => { results := [.lit (.bool false)], args := [d1, d2, d3] }
  | _ => none }
def ArithShiftsWrongFalsely : Prop := arithShiftsRow.holds Try.pinned (OpenSpec.ofChange arithShiftsWrong)

/-- 'dynposlaw01.ArithExact': WHATEVER THE INPUT: true; the input reads as it did. -/
def arithExactSpec : ChangeSpec := { name := "arithExact", fn := fun _ => fun
  | [d1, d2, d3, d4] => { results := [.lit (.bool true)], args := [d1, d2, d3, d4] }
  | _ => none }
def arithExactRow : OpenClaim := { program := "ytkhlgjdfdifoeaa", sum := "8f1c4d46805c15b3d543c4212af88d1c64684be5c2a180e50c9d382c8060a1e9", func := "dynpos/dynposlaw01.ArithExact", spec := "arithExact", unfollowed := true, recurses := true, apart := false }
def ArithExactSaid : Prop := arithExactRow.holds Try.pinned (OpenSpec.ofChange arithExactSpec)

/-- ITS FALSE NEIGHBOUR: 'it returns false'. Refute it at one input. -/
def arithExactWrong : ChangeSpec := { name := "arithExact", fn := fun _ => fun
  | [d1, d2, d3, d4] => { results := [.lit (.bool false)], args := [d1, d2, d3, d4] }
  | _ => none }
def ArithExactWrongFalsely : Prop := arithExactRow.holds Try.pinned (OpenSpec.ofChange arithExactWrong)

/-- 'dynposlaw01.ArithRounds': WHATEVER THE INPUT: true; the input reads as it did. -/
def arithRoundsSpec : ChangeSpec := { name := "arithRounds", fn := fun _ => fun
  | [d1, d2] => { results := [.lit (.bool true)], args := [d1, d2] }
  | _ => none }
def arithRoundsRow : OpenClaim := { program := "ytkhlgjdfdifoeaa", sum := "8f1c4d46805c15b3d543c4212af88d1c64684be5c2a180e50c9d382c8060a1e9", func := "dynpos/dynposlaw01.ArithRounds", spec := "arithRounds", unfollowed := true, recurses := true, apart := false }
def ArithRoundsSaid : Prop := arithRoundsRow.holds Try.pinned (OpenSpec.ofChange arithRoundsSpec)

/-- ITS FALSE NEIGHBOUR: 'it returns false'. Refute it at one input. -/
def arithRoundsWrong : ChangeSpec := { name := "arithRounds", fn := fun _ => fun
  | [d1, d2] => { results := [.lit (.bool false)], args := [d1, d2] }
  | _ => none }
def ArithRoundsWrongFalsely : Prop := arithRoundsRow.holds Try.pinned (OpenSpec.ofChange arithRoundsWrong)

/- THE SECOND FORM. 'bulk': how many values and letters a reading holds, each counted each time it is reached (what is shared counts as often as it is met; a slice's spare places count too). A statement '..UptoSaid' is the law's where the arguments, and the package variables that the reading takes, are together of bulk at most 1048576: NARROWER than '..Said'. Prove '..Said' where nothing that the law and all that it calls make is longer than what came in: it says more and counts as full. Else prove '..UptoSaid'. A law counts once. -/
mutual
def uptoBulk {H : Type} : DataW H → Nat
  | .lit (.string bytes) => bytes.length + 1
  | .lit _ => 1
  | .nil => 1
  | .ptr d => uptoBulk d + 1
  | .slice elems spare => uptoBulkAll elems + uptoBulkAll spare + 1
  | .agg parts => uptoBulkAll parts + 1
  | .iface _ d => uptoBulk d + 1
  | .map entries => uptoBulkEntries entries + 1
  | .held _ => 1
def uptoBulkAll {H : Type} : List (DataW H) → Nat
  | [] => 0
  | d :: r => uptoBulk d + uptoBulkAll r
def uptoBulkEntries {H : Type} : List (Lit × DataW H) → Nat
  | [] => 0
  | x :: r => uptoBulkEntry x + uptoBulkEntries r
def uptoBulkEntry {H : Type} : Lit × DataW H → Nat
  | (.string bytes, d) => bytes.length + uptoBulk d + 1
  | (_, d) => uptoBulk d + 1
 end
def uptoSmall : (H : Type) → List (DataW H) → Bool := fun _ ds => decide (uptoBulkAll ds ≤ 1048576)
def OpenSpec.upto (s : _root_.Go.ChangeSpec) : _root_.Go.OpenSpec := { _root_.Go.OpenSpec.ofChange s with cond := some uptoSmall }

/-- 'dynposlaw01.ArithClamps', WHERE WHAT IT READS IS OF BULK AT MOST 1048576: true; the input reads as it did. -/
def arithClampsUptoRow : OpenClaim := { program := "ytkhlgjdfdifoeaa", sum := "8f1c4d46805c15b3d543c4212af88d1c64684be5c2a180e50c9d382c8060a1e9", func := "dynpos/dynposlaw01.ArithClamps", spec := "arithClamps", unfollowed := true, recurses := true, apart := false, narrowed := true }
def ArithClampsUptoSaid : Prop := arithClampsUptoRow.holds Try.pinned (OpenSpec.upto arithClampsSpec)

/-- 'dynposlaw01.ArithRoots', WHERE WHAT IT READS IS OF BULK AT MOST 1048576: true; the input reads as it did. -/
def arithRootsUptoRow : OpenClaim := { program := "ytkhlgjdfdifoeaa", sum := "8f1c4d46805c15b3d543c4212af88d1c64684be5c2a180e50c9d382c8060a1e9", func := "dynpos/dynposlaw01.ArithRoots", spec := "arithRoots", unfollowed := true, recurses := true, apart := false, narrowed := true }
def ArithRootsUptoSaid : Prop := arithRootsUptoRow.holds Try.pinned (OpenSpec.upto arithRootsSpec)

/-- 'dynposlaw01.ArithNear', WHERE WHAT IT READS IS OF BULK AT MOST 1048576: true; the input reads as it did. -/
def arithNearUptoRow : OpenClaim := { program := "ytkhlgjdfdifoeaa", sum := "8f1c4d46805c15b3d543c4212af88d1c64684be5c2a180e50c9d382c8060a1e9", func := "dynpos/dynposlaw01.ArithNear", spec := "arithNear", unfollowed := true, recurses := true, apart := false, narrowed := true }
def ArithNearUptoSaid : Prop := arithNearUptoRow.holds Try.pinned (OpenSpec.upto arithNearSpec)

/-- 'dynposlaw01.ArithShifts', WHERE WHAT IT READS IS OF BULK AT MOST 1048576: true; the input reads as it did. -/
def arithShiftsUptoRow : OpenClaim := { program := "ytkhlgjdfdifoeaa", sum := "8f1c4d46805c15b3d543c4212af88d1c64684be5c2a180e50c9d382c8060a1e9", func := "dynpos/dynposlaw01.ArithShifts", spec := "arithShifts", unfollowed := true, recurses := true, apart := false, narrowed := true }
def ArithShiftsUptoSaid : Prop := arithShiftsUptoRow.holds Try.pinned (OpenSpec.upto arithShiftsSpec)

/-- 'dynposlaw01.ArithExact', WHERE WHAT IT READS IS OF BULK AT MOST 1048576: true; the input reads as it did. -/
def arithExactUptoRow : OpenClaim := { program := "ytkhlgjdfdifoeaa", sum := "8f1c4d46805c15b3d543c4212af88d1c64684be5c2a180e50c9d382c8060a1e9", func := "dynpos/dynposlaw01.ArithExact", spec := "arithExact", unfollowed := true, recurses := true, apart := false, narrowed := true }
def ArithExactUptoSaid : Prop := arithExactUptoRow.holds Try.pinned (OpenSpec.upto arithExactSpec)

/-- 'dynposlaw01.ArithRounds', WHERE WHAT IT READS IS OF BULK AT MOST 1048576: true; the input reads as it did. -/
def arithRoundsUptoRow : OpenClaim := { program := "ytkhlgjdfdifoeaa", sum := "8f1c4d46805c15b3d543c4212af88d1c64684be5c2a180e50c9d382c8060a1e9", func := "dynpos/dynposlaw01.ArithRounds", spec := "arithRounds", unfollowed := true, recurses := true, apart := false, narrowed := true }
def ArithRoundsUptoSaid : Prop := arithRoundsUptoRow.holds Try.pinned (OpenSpec.upto arithRoundsSpec)

end Rows
end Go.Proofs.Ytkhlgjdfdifoeaa
