/-
  No cell of these rows narrows 'for every input' (looked for: loops, veiled, ifaces, maps, wideKeys, modest, calm, conditions, laid).
  DERIVED. THE GIVEN ROWS OF THIS SEAT. 4 by the template 'for every input the law returns true; each argument reads behind the call as it read before'; 0 by the template 'total and deterministic' (their statements: YtcedkkleclhglaaTotals.lean).
  GIVEN WITH THE SEED: the statements are not yours to turn. If you find one false, say at which input.
  Laid BY PROGRAM, IN A SANDBOX (cutbox-rows.mjs): the forced cells as the released guide's own fill.sh prints them over the translation e7ed6100e60ceff4… (all of the seat's roots in one cut). By AI agents, Wed Nov 11 2026. No macro, syntax, notation, axiom, sorry.
-/
import Derived.Test.YtcedkkleclhglaaChecked
import GoSem.Claim
import GoSem.ClaimJoined
import GoSem.ClaimMapViews
import Derived.JoinedTies
import Derived.KernelRfl
namespace Go.Proofs.Ytcedkkleclhglaa
/- THE CELL 'sum', in the pinned program and in every row, IS THE sha256 OF THE DUMP (.gsa) THAT YtcedkkleclhglaaProg.lean LOADS. Nothing in Lean hashes anything: it is a label: what it is worth is what the hold of that sum in a sandbox is worth. -/
noncomputable def Try.pinned : Pinned := { name := "ytcedkkleclhglaa", sum := "e7ed6100e60ceff435a19fc6edf3c4d9c449f21483aaabfcba4dce060015edf3", checked := Try.checked }
namespace Rows
def none {H : Type} : Left H := { results := [], args := [] }

/-- 'dynposlaw09.FuseGrows': WHATEVER THE INPUT: true; the input reads as it did. -/
def fuseGrowsSpec : ChangeSpec := { name := "fuseGrows", fn := fun _ => fun
  | [d1, d2, d3, d4, d5] => { results := [.lit (.bool true)], args := [d1, d2, d3, d4, d5] }
  | _ => none }
def fuseGrowsRow : OpenClaim := { program := "ytcedkkleclhglaa", sum := "e7ed6100e60ceff435a19fc6edf3c4d9c449f21483aaabfcba4dce060015edf3", func := "dynpos/dynposlaw09.FuseGrows", spec := "fuseGrows", unfollowed := true, recurses := true, apart := false }
def FuseGrowsSaid : Prop := fuseGrowsRow.holds Try.pinned (OpenSpec.ofChange fuseGrowsSpec)

/-- ITS FALSE NEIGHBOUR: 'it returns false'. Refute it at one input. -/
def fuseGrowsWrong : ChangeSpec := { name := "fuseGrows", fn := fun _ => fun
  | [d1, d2, d3, d4, d5] => { results := [.lit (.bool false)], args := [d1, d2, d3, d4, d5] }
  | _ => none }
def FuseGrowsWrongFalsely : Prop := fuseGrowsRow.holds Try.pinned (OpenSpec.ofChange fuseGrowsWrong)

/-- 'dynposlaw09.FuseBound': WHATEVER THE INPUT: true; the input reads as it did. -/
def fuseBoundSpec : ChangeSpec := { name := "fuseBound", fn := fun _ => fun
  | [d] => { results := [.lit (.bool true)], args := [d] }
  | _ => none }
def fuseBoundRow : OpenClaim := { program := "ytcedkkleclhglaa", sum := "e7ed6100e60ceff435a19fc6edf3c4d9c449f21483aaabfcba4dce060015edf3", func := "dynpos/dynposlaw09.FuseBound", spec := "fuseBound", unfollowed := true, recurses := true, apart := false }
def FuseBoundSaid : Prop := fuseBoundRow.holds Try.pinned (OpenSpec.ofChange fuseBoundSpec)

/-- ITS FALSE NEIGHBOUR: 'it returns false'. Refute it at one input. -/
def fuseBoundWrong : ChangeSpec := { name := "fuseBound", fn := fun _ => fun
  | [d] => { results := [.lit (.bool false)], args := [d] }
  | _ => none }
def FuseBoundWrongFalsely : Prop := fuseBoundRow.holds Try.pinned (OpenSpec.ofChange fuseBoundWrong)

/-- 'dynposlaw09.FuseExact': WHATEVER THE INPUT: true; the input reads as it did. -/
def fuseExactSpec : ChangeSpec := { name := "fuseExact", fn := fun _ => fun
  | [d1, d2, d3, d4, d5] => { results := [.lit (.bool true)], args := [d1, d2, d3, d4, d5] }
  | _ => none }
def fuseExactRow : OpenClaim := { program := "ytcedkkleclhglaa", sum := "e7ed6100e60ceff435a19fc6edf3c4d9c449f21483aaabfcba4dce060015edf3", func := "dynpos/dynposlaw09.FuseExact", spec := "fuseExact", unfollowed := true, recurses := true, apart := false }
def FuseExactSaid : Prop := fuseExactRow.holds Try.pinned (OpenSpec.ofChange fuseExactSpec)

/-- ITS FALSE NEIGHBOUR: 'it returns false'. Refute it at one input. -/
def fuseExactWrong : ChangeSpec := { name := "fuseExact", fn := fun _ => fun
  | [d1, d2, d3, d4, d5] => { results := [.lit (.bool false)], args := [d1, d2, d3, d4, d5] }
  | _ => none }
def FuseExactWrongFalsely : Prop := fuseExactRow.holds Try.pinned (OpenSpec.ofChange fuseExactWrong)

/-- 'dynposlaw09.FuseMean': WHATEVER THE INPUT: true; the input reads as it did. -/
def fuseMeanSpec : ChangeSpec := { name := "fuseMean", fn := fun _ => fun
  | [d] => { results := [.lit (.bool true)], args := [d] }
  | _ => none }
def fuseMeanRow : OpenClaim := { program := "ytcedkkleclhglaa", sum := "e7ed6100e60ceff435a19fc6edf3c4d9c449f21483aaabfcba4dce060015edf3", func := "dynpos/dynposlaw09.FuseMean", spec := "fuseMean", unfollowed := true, recurses := true, apart := false }
def FuseMeanSaid : Prop := fuseMeanRow.holds Try.pinned (OpenSpec.ofChange fuseMeanSpec)

/-- ITS FALSE NEIGHBOUR: 'it returns false'. Refute it at one input. -/
def fuseMeanWrong : ChangeSpec := { name := "fuseMean", fn := fun _ => fun
  | [d] => { results := [.lit (.bool false)], args := [d] }
  | _ => none }
def FuseMeanWrongFalsely : Prop := fuseMeanRow.holds Try.pinned (OpenSpec.ofChange fuseMeanWrong)

/- THE SECOND FORM. 'bulk': how many values and letters a reading holds, each counted each time it is reached (what is shared counts as often as it is met; a slice's spare places count too). A statement '..UptoSaid' is the law's where the arguments, and the package variables that the reading takes, are together of bulk at most 1048576: NARROWER than '..Said'. Prove '..Said' where nothing that the law and all that it calls make is longer than what came in: it says more and counts as full. Else prove '..UptoSaid'. A law counts once. -/
mutual
def uptoBulk {H : Type} : DataW H → Nat
  | .lit (.string bytes) => bytes.length + 1
  | .lit _ => 1
  | .nil => 1
  | .ptr d => uptoBulk d + 1
  | .slice elems spare => uptoBulkAll elems + uptoBulkAll spare + 1
  | .agg parts => uptoBulkAll parts + 1
  | .iface _ d => uptoBulk d + 1
  | .map entries => uptoBulkEntries entries + 1
  | .held _ => 1
def uptoBulkAll {H : Type} : List (DataW H) → Nat
  | [] => 0
  | d :: r => uptoBulk d + uptoBulkAll r
def uptoBulkEntries {H : Type} : List (Lit × DataW H) → Nat
  | [] => 0
  | x :: r => uptoBulkEntry x + uptoBulkEntries r
def uptoBulkEntry {H : Type} : Lit × DataW H → Nat
  | (.string bytes, d) => bytes.length + uptoBulk d + 1
  | (_, d) => uptoBulk d + 1
 end
def uptoSmall : (H : Type) → List (DataW H) → Bool := fun _ ds => decide (uptoBulkAll ds ≤ 1048576)
def OpenSpec.upto (s : _root_.Go.ChangeSpec) : _root_.Go.OpenSpec := { _root_.Go.OpenSpec.ofChange s with cond := some uptoSmall }

/-- 'dynposlaw09.FuseGrows', WHERE WHAT IT READS IS OF BULK AT MOST 1048576: true; the input reads as it did. -/
def fuseGrowsUptoRow : OpenClaim := { program := "ytcedkkleclhglaa", sum := "e7ed6100e60ceff435a19fc6edf3c4d9c449f21483aaabfcba4dce060015edf3", func := "dynpos/dynposlaw09.FuseGrows", spec := "fuseGrows", unfollowed := true, recurses := true, apart := false, narrowed := true }
def FuseGrowsUptoSaid : Prop := fuseGrowsUptoRow.holds Try.pinned (OpenSpec.upto fuseGrowsSpec)

/-- 'dynposlaw09.FuseBound', WHERE WHAT IT READS IS OF BULK AT MOST 1048576: true; the input reads as it did. -/
def fuseBoundUptoRow : OpenClaim := { program := "ytcedkkleclhglaa", sum := "e7ed6100e60ceff435a19fc6edf3c4d9c449f21483aaabfcba4dce060015edf3", func := "dynpos/dynposlaw09.FuseBound", spec := "fuseBound", unfollowed := true, recurses := true, apart := false, narrowed := true }
def FuseBoundUptoSaid : Prop := fuseBoundUptoRow.holds Try.pinned (OpenSpec.upto fuseBoundSpec)

/-- 'dynposlaw09.FuseExact', WHERE WHAT IT READS IS OF BULK AT MOST 1048576: true; the input reads as it did. -/
def fuseExactUptoRow : OpenClaim := { program := "ytcedkkleclhglaa", sum := "e7ed6100e60ceff435a19fc6edf3c4d9c449f21483aaabfcba4dce060015edf3", func := "dynpos/dynposlaw09.FuseExact", spec := "fuseExact", unfollowed := true, recurses := true, apart := false, narrowed := true }
def FuseExactUptoSaid : Prop := fuseExactUptoRow.holds Try.pinned (OpenSpec.upto fuseExactSpec)

/-- 'dynposlaw09.FuseMean', WHERE WHAT IT READS IS OF BULK AT MOST 1048576: true; the input reads as it did. -/
def fuseMeanUptoRow : OpenClaim := { program := "ytcedkkleclhglaa", sum := "e7ed6100e60ceff435a19fc6edf3c4d9c449f21483aaabfcba4dce060015edf3", func := "dynpos/dynposlaw09.FuseMean", spec := "fuseMean", unfollowed := true, recurses := true, apart := false, narrowed := true }
def FuseMeanUptoSaid : Prop := fuseMeanUptoRow.holds Try.pinned (OpenSpec.upto fuseMeanSpec)

end Rows
end Go.Proofs.Ytcedkkleclhglaa
