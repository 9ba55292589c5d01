/-
  No cell of these rows narrows 'for every input' (looked for: loops, veiled, ifaces, maps, wideKeys, modest, calm, conditions, laid).
  DERIVED. THE GIVEN ROWS OF THIS SEAT. 11 by the template 'for every input the law returns true; each argument reads behind the call as it read before'; 0 by the template 'total and deterministic' (their statements: YthhaeaiheidpoaaTotals.lean).
  GIVEN WITH THE SEED: the statements are not yours to turn. If you find one false, say at which input.
  Laid BY PROGRAM, IN A SANDBOX (cutbox-rows.mjs): the forced cells as the released guide's own fill.sh prints them over the translation a0d0f7998a81612d… (all of the seat's roots in one cut). By AI agents, Wed Nov 11 2026. No macro, syntax, notation, axiom, sorry.
-/
import Derived.Test.YthhaeaiheidpoaaChecked
import GoSem.Claim
import GoSem.ClaimJoined
import GoSem.ClaimMapViews
import Derived.JoinedTies
import Derived.KernelRfl
namespace Go.Proofs.Ythhaeaiheidpoaa
/- THE CELL 'sum', in the pinned program and in every row, IS THE sha256 OF THE DUMP (.gsa) THAT YthhaeaiheidpoaaProg.lean LOADS. Nothing in Lean hashes anything: it is a label: what it is worth is what the hold of that sum in a sandbox is worth. -/
noncomputable def Try.pinned : Pinned := { name := "ythhaeaiheidpoaa", sum := "a0d0f7998a81612d95017845028c37b3e28661258c5749674a726b8b232a86f8", checked := Try.checked }
namespace Rows
def none {H : Type} : Left H := { results := [], args := [] }

/-- 'dynposlaw03.FrameTurns': WHATEVER THE INPUT: true; the input reads as it did. -/
def frameTurnsSpec : ChangeSpec := { name := "frameTurns", fn := fun _ => fun
  | [d1, d2] => { results := [.lit (.bool true)], args := [d1, d2] }
  | _ => none }
def frameTurnsRow : OpenClaim := { program := "ythhaeaiheidpoaa", sum := "a0d0f7998a81612d95017845028c37b3e28661258c5749674a726b8b232a86f8", func := "dynpos/dynposlaw03.FrameTurns", spec := "frameTurns", unfollowed := true, recurses := true, apart := false }
def FrameTurnsSaid : Prop := frameTurnsRow.holds Try.pinned (OpenSpec.ofChange frameTurnsSpec)

/-- ITS FALSE NEIGHBOUR: 'it returns false'. Refute it at one input. -/
def frameTurnsWrong : ChangeSpec := { name := "frameTurns", fn := fun _ => fun
  | [d1, d2] => { results := [.lit (.bool false)], args := [d1, d2] }
  | _ => none }
def FrameTurnsWrongFalsely : Prop := frameTurnsRow.holds Try.pinned (OpenSpec.ofChange frameTurnsWrong)

/-- 'dynposlaw03.FrameDistances': WHATEVER THE INPUT: true; the input reads as it did. -/
def frameDistancesSpec : ChangeSpec := { name := "frameDistances", fn := fun _ => fun
  | [d] => { results := [.lit (.bool true)], args := [d] }
  | _ => none }
def frameDistancesRow : OpenClaim := { program := "ythhaeaiheidpoaa", sum := "a0d0f7998a81612d95017845028c37b3e28661258c5749674a726b8b232a86f8", func := "dynpos/dynposlaw03.FrameDistances", spec := "frameDistances", unfollowed := true, recurses := true, apart := false }
def FrameDistancesSaid : Prop := frameDistancesRow.holds Try.pinned (OpenSpec.ofChange frameDistancesSpec)

/-- ITS FALSE NEIGHBOUR: 'it returns false'. Refute it at one input. -/
def frameDistancesWrong : ChangeSpec := { name := "frameDistances", fn := fun _ => fun
  | [d] => { results := [.lit (.bool false)], args := [d] }
  | _ => none }
def FrameDistancesWrongFalsely : Prop := frameDistancesRow.holds Try.pinned (OpenSpec.ofChange frameDistancesWrong)

/-- 'dynposlaw03.FrameFrames': WHATEVER THE INPUT: true; the input reads as it did. -/
def frameFramesSpec : ChangeSpec := { name := "frameFrames", fn := fun _ => fun
  | [d] => { results := [.lit (.bool true)], args := [d] }
  | _ => none }
def frameFramesRow : OpenClaim := { program := "ythhaeaiheidpoaa", sum := "a0d0f7998a81612d95017845028c37b3e28661258c5749674a726b8b232a86f8", func := "dynpos/dynposlaw03.FrameFrames", spec := "frameFrames", unfollowed := true, recurses := true, apart := false }
def FrameFramesSaid : Prop := frameFramesRow.holds Try.pinned (OpenSpec.ofChange frameFramesSpec)

/-- ITS FALSE NEIGHBOUR: 'it returns false'. Refute it at one input. -/
def frameFramesWrong : ChangeSpec := { name := "frameFrames", fn := fun _ => fun
  | [d] => { results := [.lit (.bool false)], args := [d] }
  | _ => none }
def FrameFramesWrongFalsely : Prop := frameFramesRow.holds Try.pinned (OpenSpec.ofChange frameFramesWrong)

/-- 'dynposlaw03.FrameLimits': WHATEVER THE INPUT: true; the input reads as it did. -/
def frameLimitsSpec : ChangeSpec := { name := "frameLimits", fn := fun _ => fun
  | [d] => { results := [.lit (.bool true)], args := [d] }
  | _ => none }
def frameLimitsRow : OpenClaim := { program := "ythhaeaiheidpoaa", sum := "a0d0f7998a81612d95017845028c37b3e28661258c5749674a726b8b232a86f8", func := "dynpos/dynposlaw03.FrameLimits", spec := "frameLimits", unfollowed := true, recurses := true, apart := false }
def FrameLimitsSaid : Prop := frameLimitsRow.holds Try.pinned (OpenSpec.ofChange frameLimitsSpec)

/-- ITS FALSE NEIGHBOUR: 'it returns false'. Refute it at one input. -/
def frameLimitsWrong : ChangeSpec := { name := "frameLimits", fn := fun _ => fun
  | [d] => { results := [.lit (.bool false)], args := [d] }
  | _ => none }
def FrameLimitsWrongFalsely : Prop := frameLimitsRow.holds Try.pinned (OpenSpec.ofChange frameLimitsWrong)

/-- 'dynposlaw03.FrameExact': WHATEVER THE INPUT: true; the input reads as it did. -/
def frameExactSpec : ChangeSpec := { name := "frameExact", fn := fun _ => fun
  | [d1, d2, d3, d4, d5, d6] => { results := [.lit (.bool true)], args := [d1, d2, d3, d4, d5, d6] }
  | _ => none }
def frameExactRow : OpenClaim := { program := "ythhaeaiheidpoaa", sum := "a0d0f7998a81612d95017845028c37b3e28661258c5749674a726b8b232a86f8", func := "dynpos/dynposlaw03.FrameExact", spec := "frameExact", unfollowed := true, recurses := true, apart := false }
def FrameExactSaid : Prop := frameExactRow.holds Try.pinned (OpenSpec.ofChange frameExactSpec)

/-- ITS FALSE NEIGHBOUR: 'it returns false'. Refute it at one input. -/
def frameExactWrong : ChangeSpec := { name := "frameExact", fn := fun _ => fun
  | [d1, d2, d3, d4, d5, d6] => { results := [.lit (.bool false)], args := [d1, d2, d3, d4, d5, d6] }
  | _ => none }
def FrameExactWrongFalsely : Prop := frameExactRow.holds Try.pinned (OpenSpec.ofChange frameExactWrong)

/-- 'dynposlaw24.ControlExact': WHATEVER THE INPUT: true; the input reads as it did. -/
def controlExactSpec : ChangeSpec := { name := "controlExact", fn := fun _ => fun
  | [d1, d2, d3, d4, d5, d6] => { results := [.lit (.bool true)], args := [d1, d2, d3, d4, d5, d6] }
  | _ => none }
def controlExactRow : OpenClaim := { program := "ythhaeaiheidpoaa", sum := "a0d0f7998a81612d95017845028c37b3e28661258c5749674a726b8b232a86f8", func := "dynpos/dynposlaw24.ControlExact", spec := "controlExact", unfollowed := true, recurses := true, apart := false }
def ControlExactSaid : Prop := controlExactRow.holds Try.pinned (OpenSpec.ofChange controlExactSpec)

/-- ITS FALSE NEIGHBOUR: 'it returns false'. Refute it at one input. -/
def controlExactWrong : ChangeSpec := { name := "controlExact", fn := fun _ => fun
  | [d1, d2, d3, d4, d5, d6] => { results := [.lit (.bool false)], args := [d1, d2, d3, d4, d5, d6] }
  | _ => none }
def ControlExactWrongFalsely : Prop := controlExactRow.holds Try.pinned (OpenSpec.ofChange controlExactWrong)

/-- 'dynposlaw24.ControlRests': WHATEVER THE INPUT: true; the input reads as it did. -/
def controlRestsSpec : ChangeSpec := { name := "controlRests", fn := fun _ => fun
  | [d] => { results := [.lit (.bool true)], args := [d] }
  | _ => none }
def controlRestsRow : OpenClaim := { program := "ythhaeaiheidpoaa", sum := "a0d0f7998a81612d95017845028c37b3e28661258c5749674a726b8b232a86f8", func := "dynpos/dynposlaw24.ControlRests", spec := "controlRests", unfollowed := true, recurses := true, apart := false }
def ControlRestsSaid : Prop := controlRestsRow.holds Try.pinned (OpenSpec.ofChange controlRestsSpec)

/-- ITS FALSE NEIGHBOUR: 'it returns false'. Refute it at one input. -/
def controlRestsWrong : ChangeSpec := { name := "controlRests", fn := fun _ => fun
  | [d] => { results := [.lit (.bool false)], args := [d] }
  | _ => none }
def ControlRestsWrongFalsely : Prop := controlRestsRow.holds Try.pinned (OpenSpec.ofChange controlRestsWrong)

/-- 'dynposlaw24.ControlBounds': WHATEVER THE INPUT: true; the input reads as it did. -/
def controlBoundsSpec : ChangeSpec := { name := "controlBounds", fn := fun _ => fun
  | [d] => { results := [.lit (.bool true)], args := [d] }
  | _ => none }
def controlBoundsRow : OpenClaim := { program := "ythhaeaiheidpoaa", sum := "a0d0f7998a81612d95017845028c37b3e28661258c5749674a726b8b232a86f8", func := "dynpos/dynposlaw24.ControlBounds", spec := "controlBounds", unfollowed := true, recurses := true, apart := false }
def ControlBoundsSaid : Prop := controlBoundsRow.holds Try.pinned (OpenSpec.ofChange controlBoundsSpec)

/-- ITS FALSE NEIGHBOUR: 'it returns false'. Refute it at one input. -/
def controlBoundsWrong : ChangeSpec := { name := "controlBounds", fn := fun _ => fun
  | [d] => { results := [.lit (.bool false)], args := [d] }
  | _ => none }
def ControlBoundsWrongFalsely : Prop := controlBoundsRow.holds Try.pinned (OpenSpec.ofChange controlBoundsWrong)

/-- 'dynposlaw24.ControlShifts': WHATEVER THE INPUT: true; the input reads as it did. -/
def controlShiftsSpec : ChangeSpec := { name := "controlShifts", fn := fun _ => fun
  | [d1, d2, d3] => { results := [.lit (.bool true)], args := [d1, d2, d3] }
  | _ => none }
def controlShiftsRow : OpenClaim := { program := "ythhaeaiheidpoaa", sum := "a0d0f7998a81612d95017845028c37b3e28661258c5749674a726b8b232a86f8", func := "dynpos/dynposlaw24.ControlShifts", spec := "controlShifts", unfollowed := true, recurses := true, apart := false }
def ControlShiftsSaid : Prop := controlShiftsRow.holds Try.pinned (OpenSpec.ofChange controlShiftsSpec)

/-- ITS FALSE NEIGHBOUR: 'it returns false'. Refute it at one input. -/
def controlShiftsWrong : ChangeSpec := { name := "controlShifts", fn := fun _ => fun
  | [d1, d2, d3] => { results := [.lit (.bool false)], args := [d1, d2, d3] }
  | _ => none }
def ControlShiftsWrongFalsely : Prop := controlShiftsRow.holds Try.pinned (OpenSpec.ofChange controlShiftsWrong)

/-- 'dynposlaw24.ControlDirects': WHATEVER THE INPUT: true; the input reads as it did. -/
def controlDirectsSpec : ChangeSpec := { name := "controlDirects", fn := fun _ => fun
  | [d] => { results := [.lit (.bool true)], args := [d] }
  | _ => none }
def controlDirectsRow : OpenClaim := { program := "ythhaeaiheidpoaa", sum := "a0d0f7998a81612d95017845028c37b3e28661258c5749674a726b8b232a86f8", func := "dynpos/dynposlaw24.ControlDirects", spec := "controlDirects", unfollowed := true, recurses := true, apart := false }
def ControlDirectsSaid : Prop := controlDirectsRow.holds Try.pinned (OpenSpec.ofChange controlDirectsSpec)

/-- ITS FALSE NEIGHBOUR: 'it returns false'. Refute it at one input. -/
def controlDirectsWrong : ChangeSpec := { name := "controlDirects", fn := fun _ => fun
  | [d] => { results := [.lit (.bool false)], args := [d] }
  | _ => none }
def ControlDirectsWrongFalsely : Prop := controlDirectsRow.holds Try.pinned (OpenSpec.ofChange controlDirectsWrong)

/-- 'dynposlaw24.ControlSigned': WHATEVER THE INPUT: true; the input reads as it did. -/
def controlSignedSpec : ChangeSpec := { name := "controlSigned", fn := fun _ => fun
  | [d] => { results := [.lit (.bool true)], args := [d] }
  | _ => none }
def controlSignedRow : OpenClaim := { program := "ythhaeaiheidpoaa", sum := "a0d0f7998a81612d95017845028c37b3e28661258c5749674a726b8b232a86f8", func := "dynpos/dynposlaw24.ControlSigned", spec := "controlSigned", unfollowed := true, recurses := true, apart := false }
def ControlSignedSaid : Prop := controlSignedRow.holds Try.pinned (OpenSpec.ofChange controlSignedSpec)

/-- ITS FALSE NEIGHBOUR: 'it returns false'. Refute it at one input. -/
def controlSignedWrong : ChangeSpec := { name := "controlSigned", fn := fun _ => fun
  | [d] => { results := [.lit (.bool false)], args := [d] }
  | _ => none }
def ControlSignedWrongFalsely : Prop := controlSignedRow.holds Try.pinned (OpenSpec.ofChange controlSignedWrong)

/- THE SECOND FORM. 'bulk': how many values and letters a reading holds, each counted each time it is reached (what is shared counts as often as it is met; a slice's spare places count too). A statement '..UptoSaid' is the law's where the arguments, and the package variables that the reading takes, are together of bulk at most 1048576: NARROWER than '..Said'. Prove '..Said' where nothing that the law and all that it calls make is longer than what came in: it says more and counts as full. Else prove '..UptoSaid'. A law counts once. -/
mutual
def uptoBulk {H : Type} : DataW H → Nat
  | .lit (.string bytes) => bytes.length + 1
  | .lit _ => 1
  | .nil => 1
  | .ptr d => uptoBulk d + 1
  | .slice elems spare => uptoBulkAll elems + uptoBulkAll spare + 1
  | .agg parts => uptoBulkAll parts + 1
  | .iface _ d => uptoBulk d + 1
  | .map entries => uptoBulkEntries entries + 1
  | .held _ => 1
def uptoBulkAll {H : Type} : List (DataW H) → Nat
  | [] => 0
  | d :: r => uptoBulk d + uptoBulkAll r
def uptoBulkEntries {H : Type} : List (Lit × DataW H) → Nat
  | [] => 0
  | x :: r => uptoBulkEntry x + uptoBulkEntries r
def uptoBulkEntry {H : Type} : Lit × DataW H → Nat
  | (.string bytes, d) => bytes.length + uptoBulk d + 1
  | (_, d) => uptoBulk d + 1
 end
def uptoSmall : (H : Type) → List (DataW H) → Bool := fun _ ds => decide (uptoBulkAll ds ≤ 1048576)
def OpenSpec.upto (s : _root_.Go.ChangeSpec) : _root_.Go.OpenSpec := { _root_.Go.OpenSpec.ofChange s with cond := some uptoSmall }

/-- 'dynposlaw03.FrameTurns', WHERE WHAT IT READS IS OF BULK AT MOST 1048576: true; the input reads as it did. -/
def frameTurnsUptoRow : OpenClaim := { program := "ythhaeaiheidpoaa", sum := "a0d0f7998a81612d95017845028c37b3e28661258c5749674a726b8b232a86f8", func := "dynpos/dynposlaw03.FrameTurns", spec := "frameTurns", unfollowed := true, recurses := true, apart := false, narrowed := true }
def FrameTurnsUptoSaid : Prop := frameTurnsUptoRow.holds Try.pinned (OpenSpec.upto frameTurnsSpec)

/-- 'dynposlaw03.FrameDistances', WHERE WHAT IT READS IS OF BULK AT MOST 1048576: true; the input reads as it did. -/
def frameDistancesUptoRow : OpenClaim := { program := "ythhaeaiheidpoaa", sum := "a0d0f7998a81612d95017845028c37b3e28661258c5749674a726b8b232a86f8", func := "dynpos/dynposlaw03.FrameDistances", spec := "frameDistances", unfollowed := true, recurses := true, apart := false, narrowed := true }
def FrameDistancesUptoSaid : Prop := frameDistancesUptoRow.holds Try.pinned (OpenSpec.upto frameDistancesSpec)

/-- 'dynposlaw03.FrameFrames', WHERE WHAT IT READS IS OF BULK AT MOST 1048576: true; the input reads as it did. -/
def frameFramesUptoRow : OpenClaim := { program := "ythhaeaiheidpoaa", sum := "a0d0f7998a81612d95017845028c37b3e28661258c5749674a726b8b232a86f8", func := "dynpos/dynposlaw03.FrameFrames", spec := "frameFrames", unfollowed := true, recurses := true, apart := false, narrowed := true }
def FrameFramesUptoSaid : Prop := frameFramesUptoRow.holds Try.pinned (OpenSpec.upto frameFramesSpec)

/-- 'dynposlaw03.FrameLimits', WHERE WHAT IT READS IS OF BULK AT MOST 1048576: true; the input reads as it did. -/
def frameLimitsUptoRow : OpenClaim := { program := "ythhaeaiheidpoaa", sum := "a0d0f7998a81612d95017845028c37b3e28661258c5749674a726b8b232a86f8", func := "dynpos/dynposlaw03.FrameLimits", spec := "frameLimits", unfollowed := true, recurses := true, apart := false, narrowed := true }
def FrameLimitsUptoSaid : Prop := frameLimitsUptoRow.holds Try.pinned (OpenSpec.upto frameLimitsSpec)

/-- 'dynposlaw03.FrameExact', WHERE WHAT IT READS IS OF BULK AT MOST 1048576: true; the input reads as it did. -/
def frameExactUptoRow : OpenClaim := { program := "ythhaeaiheidpoaa", sum := "a0d0f7998a81612d95017845028c37b3e28661258c5749674a726b8b232a86f8", func := "dynpos/dynposlaw03.FrameExact", spec := "frameExact", unfollowed := true, recurses := true, apart := false, narrowed := true }
def FrameExactUptoSaid : Prop := frameExactUptoRow.holds Try.pinned (OpenSpec.upto frameExactSpec)

/-- 'dynposlaw24.ControlExact', WHERE WHAT IT READS IS OF BULK AT MOST 1048576: true; the input reads as it did. -/
def controlExactUptoRow : OpenClaim := { program := "ythhaeaiheidpoaa", sum := "a0d0f7998a81612d95017845028c37b3e28661258c5749674a726b8b232a86f8", func := "dynpos/dynposlaw24.ControlExact", spec := "controlExact", unfollowed := true, recurses := true, apart := false, narrowed := true }
def ControlExactUptoSaid : Prop := controlExactUptoRow.holds Try.pinned (OpenSpec.upto controlExactSpec)

/-- 'dynposlaw24.ControlRests', WHERE WHAT IT READS IS OF BULK AT MOST 1048576: true; the input reads as it did. -/
def controlRestsUptoRow : OpenClaim := { program := "ythhaeaiheidpoaa", sum := "a0d0f7998a81612d95017845028c37b3e28661258c5749674a726b8b232a86f8", func := "dynpos/dynposlaw24.ControlRests", spec := "controlRests", unfollowed := true, recurses := true, apart := false, narrowed := true }
def ControlRestsUptoSaid : Prop := controlRestsUptoRow.holds Try.pinned (OpenSpec.upto controlRestsSpec)

/-- 'dynposlaw24.ControlBounds', WHERE WHAT IT READS IS OF BULK AT MOST 1048576: true; the input reads as it did. -/
def controlBoundsUptoRow : OpenClaim := { program := "ythhaeaiheidpoaa", sum := "a0d0f7998a81612d95017845028c37b3e28661258c5749674a726b8b232a86f8", func := "dynpos/dynposlaw24.ControlBounds", spec := "controlBounds", unfollowed := true, recurses := true, apart := false, narrowed := true }
def ControlBoundsUptoSaid : Prop := controlBoundsUptoRow.holds Try.pinned (OpenSpec.upto controlBoundsSpec)

/-- 'dynposlaw24.ControlShifts', WHERE WHAT IT READS IS OF BULK AT MOST 1048576: true; the input reads as it did. -/
def controlShiftsUptoRow : OpenClaim := { program := "ythhaeaiheidpoaa", sum := "a0d0f7998a81612d95017845028c37b3e28661258c5749674a726b8b232a86f8", func := "dynpos/dynposlaw24.ControlShifts", spec := "controlShifts", unfollowed := true, recurses := true, apart := false, narrowed := true }
def ControlShiftsUptoSaid : Prop := controlShiftsUptoRow.holds Try.pinned (OpenSpec.upto controlShiftsSpec)

/-- 'dynposlaw24.ControlDirects', WHERE WHAT IT READS IS OF BULK AT MOST 1048576: true; the input reads as it did. -/
def controlDirectsUptoRow : OpenClaim := { program := "ythhaeaiheidpoaa", sum := "a0d0f7998a81612d95017845028c37b3e28661258c5749674a726b8b232a86f8", func := "dynpos/dynposlaw24.ControlDirects", spec := "controlDirects", unfollowed := true, recurses := true, apart := false, narrowed := true }
def ControlDirectsUptoSaid : Prop := controlDirectsUptoRow.holds Try.pinned (OpenSpec.upto controlDirectsSpec)

/-- 'dynposlaw24.ControlSigned', WHERE WHAT IT READS IS OF BULK AT MOST 1048576: true; the input reads as it did. -/
def controlSignedUptoRow : OpenClaim := { program := "ythhaeaiheidpoaa", sum := "a0d0f7998a81612d95017845028c37b3e28661258c5749674a726b8b232a86f8", func := "dynpos/dynposlaw24.ControlSigned", spec := "controlSigned", unfollowed := true, recurses := true, apart := false, narrowed := true }
def ControlSignedUptoSaid : Prop := controlSignedUptoRow.holds Try.pinned (OpenSpec.upto controlSignedSpec)

end Rows
end Go.Proofs.Ythhaeaiheidpoaa
