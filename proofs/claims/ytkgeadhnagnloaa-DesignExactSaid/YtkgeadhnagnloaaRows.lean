/-
  No cell of these rows narrows 'for every input' (looked for: loops, veiled, ifaces, maps, wideKeys, modest, calm, conditions, laid).
  DERIVED. THE GIVEN ROWS OF THIS SEAT. 6 by the template 'for every input the law returns true; each argument reads behind the call as it read before'; 0 by the template 'total and deterministic' (their statements: YtkgeadhnagnloaaTotals.lean).
  GIVEN WITH THE SEED: the statements are not yours to turn. If you find one false, say at which input.
  Laid BY PROGRAM, IN A SANDBOX (cutbox-rows.mjs): the forced cells as the released guide's own fill.sh prints them over the translation f4de8ece8fc72f44… (all of the seat's roots in one cut). By AI agents, Wed Nov 11 2026. No macro, syntax, notation, axiom, sorry.
-/
import Derived.Test.YtkgeadhnagnloaaChecked
import GoSem.Claim
import GoSem.ClaimJoined
import GoSem.ClaimMapViews
import Derived.JoinedTies
import Derived.KernelRfl
namespace Go.Proofs.Ytkgeadhnagnloaa
/- THE CELL 'sum', in the pinned program and in every row, IS THE sha256 OF THE DUMP (.gsa) THAT YtkgeadhnagnloaaProg.lean LOADS. Nothing in Lean hashes anything: it is a label: what it is worth is what the hold of that sum in a sandbox is worth. -/
noncomputable def Try.pinned : Pinned := { name := "ytkgeadhnagnloaa", sum := "f4de8ece8fc72f44c6d5b80575897367503dbdb11e63dbe6099a82ca04436314", checked := Try.checked }
namespace Rows
def none {H : Type} : Left H := { results := [], args := [] }

/-- 'dynposlaw26.DesignExact': WHATEVER THE INPUT: true; the input reads as it did. -/
def designExactSpec : ChangeSpec := { name := "designExact", fn := fun _ => fun
  | [d1, d2, d3, d4, d5, d6, d7] => { results := [.lit (.bool true)], args := [d1, d2, d3, d4, d5, d6, d7] }
  | _ => none }
def designExactRow : OpenClaim := { program := "ytkgeadhnagnloaa", sum := "f4de8ece8fc72f44c6d5b80575897367503dbdb11e63dbe6099a82ca04436314", func := "dynpos/dynposlaw26.DesignExact", spec := "designExact", unfollowed := true, recurses := true, plainKeys := false, apart := false }
def DesignExactSaid : Prop := designExactRow.holds Try.pinned (OpenSpec.ofChange designExactSpec)

/-- ITS FALSE NEIGHBOUR: 'it returns false'. Refute it at one input. -/
def designExactWrong : ChangeSpec := { name := "designExact", fn := fun _ => fun
  | [d1, d2, d3, d4, d5, d6, d7] => { results := [.lit (.bool false)], args := [d1, d2, d3, d4, d5, d6, d7] }
  | _ => none }
def DesignExactWrongFalsely : Prop := designExactRow.holds Try.pinned (OpenSpec.ofChange designExactWrong)

/-- 'dynposlaw26.DesignFalls': WHATEVER THE INPUT: true; the input reads as it did. -/
def designFallsSpec : ChangeSpec := { name := "designFalls", fn := fun _ => fun
  | [d] => { results := [.lit (.bool true)], args := [d] }
  | _ => none }
def designFallsRow : OpenClaim := { program := "ytkgeadhnagnloaa", sum := "f4de8ece8fc72f44c6d5b80575897367503dbdb11e63dbe6099a82ca04436314", func := "dynpos/dynposlaw26.DesignFalls", spec := "designFalls", unfollowed := true, recurses := true, plainKeys := false, apart := false }
def DesignFallsSaid : Prop := designFallsRow.holds Try.pinned (OpenSpec.ofChange designFallsSpec)

/-- ITS FALSE NEIGHBOUR: 'it returns false'. Refute it at one input. -/
def designFallsWrong : ChangeSpec := { name := "designFalls", fn := fun _ => fun
  | [d] => { results := [.lit (.bool false)], args := [d] }
  | _ => none }
def DesignFallsWrongFalsely : Prop := designFallsRow.holds Try.pinned (OpenSpec.ofChange designFallsWrong)

/-- 'dynposlaw26.DesignGrows': WHATEVER THE INPUT: true; the input reads as it did. -/
def designGrowsSpec : ChangeSpec := { name := "designGrows", fn := fun _ => fun
  | [d] => { results := [.lit (.bool true)], args := [d] }
  | _ => none }
def designGrowsRow : OpenClaim := { program := "ytkgeadhnagnloaa", sum := "f4de8ece8fc72f44c6d5b80575897367503dbdb11e63dbe6099a82ca04436314", func := "dynpos/dynposlaw26.DesignGrows", spec := "designGrows", unfollowed := true, recurses := true, plainKeys := false, apart := false }
def DesignGrowsSaid : Prop := designGrowsRow.holds Try.pinned (OpenSpec.ofChange designGrowsSpec)

/-- ITS FALSE NEIGHBOUR: 'it returns false'. Refute it at one input. -/
def designGrowsWrong : ChangeSpec := { name := "designGrows", fn := fun _ => fun
  | [d] => { results := [.lit (.bool false)], args := [d] }
  | _ => none }
def DesignGrowsWrongFalsely : Prop := designGrowsRow.holds Try.pinned (OpenSpec.ofChange designGrowsWrong)

/-- 'dynposlaw26.DesignChains': WHATEVER THE INPUT: true; the input reads as it did. -/
def designChainsSpec : ChangeSpec := { name := "designChains", fn := fun _ => fun
  | [d] => { results := [.lit (.bool true)], args := [d] }
  | _ => none }
def designChainsRow : OpenClaim := { program := "ytkgeadhnagnloaa", sum := "f4de8ece8fc72f44c6d5b80575897367503dbdb11e63dbe6099a82ca04436314", func := "dynpos/dynposlaw26.DesignChains", spec := "designChains", unfollowed := true, recurses := true, plainKeys := false, apart := false }
def DesignChainsSaid : Prop := designChainsRow.holds Try.pinned (OpenSpec.ofChange designChainsSpec)

/-- ITS FALSE NEIGHBOUR: 'it returns false'. Refute it at one input. -/
def designChainsWrong : ChangeSpec := { name := "designChains", fn := fun _ => fun
  | [d] => { results := [.lit (.bool false)], args := [d] }
  | _ => none }
def DesignChainsWrongFalsely : Prop := designChainsRow.holds Try.pinned (OpenSpec.ofChange designChainsWrong)

/-- 'dynposlaw26.DesignCommon': WHATEVER THE INPUT: true; the input reads as it did. -/
def designCommonSpec : ChangeSpec := { name := "designCommon", fn := fun _ => fun
  | [d] => { results := [.lit (.bool true)], args := [d] }
  | _ => none }
def designCommonRow : OpenClaim := { program := "ytkgeadhnagnloaa", sum := "f4de8ece8fc72f44c6d5b80575897367503dbdb11e63dbe6099a82ca04436314", func := "dynpos/dynposlaw26.DesignCommon", spec := "designCommon", unfollowed := true, recurses := true, plainKeys := false, apart := false }
def DesignCommonSaid : Prop := designCommonRow.holds Try.pinned (OpenSpec.ofChange designCommonSpec)

/-- ITS FALSE NEIGHBOUR: 'it returns false'. Refute it at one input. -/
def designCommonWrong : ChangeSpec := { name := "designCommon", fn := fun _ => fun
  | [d] => { results := [.lit (.bool false)], args := [d] }
  | _ => none }
def DesignCommonWrongFalsely : Prop := designCommonRow.holds Try.pinned (OpenSpec.ofChange designCommonWrong)

/-- 'dynposlaw26.DesignAlone': WHATEVER THE INPUT: true; the input reads as it did. -/
def designAloneSpec : ChangeSpec := { name := "designAlone", fn := fun _ => fun
  | [d] => { results := [.lit (.bool true)], args := [d] }
  | _ => none }
def designAloneRow : OpenClaim := { program := "ytkgeadhnagnloaa", sum := "f4de8ece8fc72f44c6d5b80575897367503dbdb11e63dbe6099a82ca04436314", func := "dynpos/dynposlaw26.DesignAlone", spec := "designAlone", unfollowed := true, recurses := true, plainKeys := false, apart := false }
def DesignAloneSaid : Prop := designAloneRow.holds Try.pinned (OpenSpec.ofChange designAloneSpec)

/-- ITS FALSE NEIGHBOUR: 'it returns false'. Refute it at one input. -/
def designAloneWrong : ChangeSpec := { name := "designAlone", fn := fun _ => fun
  | [d] => { results := [.lit (.bool false)], args := [d] }
  | _ => none }
def DesignAloneWrongFalsely : Prop := designAloneRow.holds Try.pinned (OpenSpec.ofChange designAloneWrong)

/- THE SECOND FORM. 'bulk': how many values and letters a reading holds, each counted each time it is reached (what is shared counts as often as it is met; a slice's spare places count too). A statement '..UptoSaid' is the law's where the arguments, and the package variables that the reading takes, are together of bulk at most 1048576: NARROWER than '..Said'. Prove '..Said' where nothing that the law and all that it calls make is longer than what came in: it says more and counts as full. Else prove '..UptoSaid'. A law counts once. -/
mutual
def uptoBulk {H : Type} : DataW H → Nat
  | .lit (.string bytes) => bytes.length + 1
  | .lit _ => 1
  | .nil => 1
  | .ptr d => uptoBulk d + 1
  | .slice elems spare => uptoBulkAll elems + uptoBulkAll spare + 1
  | .agg parts => uptoBulkAll parts + 1
  | .iface _ d => uptoBulk d + 1
  | .map entries => uptoBulkEntries entries + 1
  | .held _ => 1
def uptoBulkAll {H : Type} : List (DataW H) → Nat
  | [] => 0
  | d :: r => uptoBulk d + uptoBulkAll r
def uptoBulkEntries {H : Type} : List (Lit × DataW H) → Nat
  | [] => 0
  | x :: r => uptoBulkEntry x + uptoBulkEntries r
def uptoBulkEntry {H : Type} : Lit × DataW H → Nat
  | (.string bytes, d) => bytes.length + uptoBulk d + 1
  | (_, d) => uptoBulk d + 1
 end
def uptoSmall : (H : Type) → List (DataW H) → Bool := fun _ ds => decide (uptoBulkAll ds ≤ 1048576)
def OpenSpec.upto (s : _root_.Go.ChangeSpec) : _root_.Go.OpenSpec := { _root_.Go.OpenSpec.ofChange s with cond := some uptoSmall }

/-- 'dynposlaw26.DesignExact', WHERE WHAT IT READS IS OF BULK AT MOST 1048576: true; the input reads as it did. -/
def designExactUptoRow : OpenClaim := { program := "ytkgeadhnagnloaa", sum := "f4de8ece8fc72f44c6d5b80575897367503dbdb11e63dbe6099a82ca04436314", func := "dynpos/dynposlaw26.DesignExact", spec := "designExact", unfollowed := true, recurses := true, plainKeys := false, apart := false, narrowed := true }
def DesignExactUptoSaid : Prop := designExactUptoRow.holds Try.pinned (OpenSpec.upto designExactSpec)

/-- 'dynposlaw26.DesignFalls', WHERE WHAT IT READS IS OF BULK AT MOST 1048576: true; the input reads as it did. -/
def designFallsUptoRow : OpenClaim := { program := "ytkgeadhnagnloaa", sum := "f4de8ece8fc72f44c6d5b80575897367503dbdb11e63dbe6099a82ca04436314", func := "dynpos/dynposlaw26.DesignFalls", spec := "designFalls", unfollowed := true, recurses := true, plainKeys := false, apart := false, narrowed := true }
def DesignFallsUptoSaid : Prop := designFallsUptoRow.holds Try.pinned (OpenSpec.upto designFallsSpec)

/-- 'dynposlaw26.DesignGrows', WHERE WHAT IT READS IS OF BULK AT MOST 1048576: true; the input reads as it did. -/
def designGrowsUptoRow : OpenClaim := { program := "ytkgeadhnagnloaa", sum := "f4de8ece8fc72f44c6d5b80575897367503dbdb11e63dbe6099a82ca04436314", func := "dynpos/dynposlaw26.DesignGrows", spec := "designGrows", unfollowed := true, recurses := true, plainKeys := false, apart := false, narrowed := true }
def DesignGrowsUptoSaid : Prop := designGrowsUptoRow.holds Try.pinned (OpenSpec.upto designGrowsSpec)

/-- 'dynposlaw26.DesignChains', WHERE WHAT IT READS IS OF BULK AT MOST 1048576: true; the input reads as it did. -/
def designChainsUptoRow : OpenClaim := { program := "ytkgeadhnagnloaa", sum := "f4de8ece8fc72f44c6d5b80575897367503dbdb11e63dbe6099a82ca04436314", func := "dynpos/dynposlaw26.DesignChains", spec := "designChains", unfollowed := true, recurses := true, plainKeys := false, apart := false, narrowed := true }
def DesignChainsUptoSaid : Prop := designChainsUptoRow.holds Try.pinned (OpenSpec.upto designChainsSpec)

/-- 'dynposlaw26.DesignCommon', WHERE WHAT IT READS IS OF BULK AT MOST 1048576: true; the input reads as it did. -/
def designCommonUptoRow : OpenClaim := { program := "ytkgeadhnagnloaa", sum := "f4de8ece8fc72f44c6d5b80575897367503dbdb11e63dbe6099a82ca04436314", func := "dynpos/dynposlaw26.DesignCommon", spec := "designCommon", unfollowed := true, recurses := true, plainKeys := false, apart := false, narrowed := true }
def DesignCommonUptoSaid : Prop := designCommonUptoRow.holds Try.pinned (OpenSpec.upto designCommonSpec)

/-- 'dynposlaw26.DesignAlone', WHERE WHAT IT READS IS OF BULK AT MOST 1048576: true; the input reads as it did. -/
def designAloneUptoRow : OpenClaim := { program := "ytkgeadhnagnloaa", sum := "f4de8ece8fc72f44c6d5b80575897367503dbdb11e63dbe6099a82ca04436314", func := "dynpos/dynposlaw26.DesignAlone", spec := "designAlone", unfollowed := true, recurses := true, plainKeys := false, apart := false, narrowed := true }
def DesignAloneUptoSaid : Prop := designAloneUptoRow.holds Try.pinned (OpenSpec.upto designAloneSpec)

end Rows
end Go.Proofs.Ytkgeadhnagnloaa
