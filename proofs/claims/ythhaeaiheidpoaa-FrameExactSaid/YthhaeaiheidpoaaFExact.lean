/- 'dynpos/dynposlaw03.FrameExact': the walk; every leaf is plainly true. -/
import Derived.Test.YthhaeaiheidpoaaEvQ
import Derived.Test.YthhaeaiheidpoaaF24E
import Derived.Test.YthhaeaiheidpoaaF24G
import Derived.Test.YthhaeaiheidpoaaF24S
set_option linter.unusedSimpArgs false
set_option linter.unusedVariables false
namespace Go.Proofs.Ythhaeaiheidpoaa.frameExact
open Go.RowKit Ev
def tab : List (FuncId × PC) := [(27, cFV), (28, cFV), (24, cAdd), (29, cAdd), (25, cSub), (30, cSub), (20, cBox), (31, cBox), (19, cDist), (32, cDist), (16, cTurn), (34, cTurn), (22, cTurn), (35, cTurn), (23, cBody), (36, cBody), (18, cSane)]
def SS : List Sh := [.agg [some .i64, some .i64], .agg [some .i64, some .i64], .one (some .i64), .one (some .i64), .one (some .i64)]
def hints : FuncId → Nat → Option Hint := fun f u => if f = 7 then (match u with | 0 => some { id := 0, ps := [.tmp 53, .cell 13 1], rg := [(0, 4), (0, 600)], me := .sub (.lit 4) (.v 0) } | 2 => some { id := 2, ps := [.tmp 64], rg := [(0, 4)], me := .sub (.lit 4) (.v 0) } | 4 => some { id := 4, ps := [.tmp 159], rg := [(0, 3)], me := .sub (.lit 3) (.v 0) } | 6 => some { id := 6, ps := [.tmp 171], rg := [(0, 2)], me := .sub (.lit 2) (.v 0) } | _ => none) else none
theorem tree_triv : (evFn Try.prog (rowCtx tab hints) 60 12 7 (.sls 0 (.v 0) (.v 1) :: shsS SS 2) [] (rowFx (rngE 2 (ksRg (shsKs SS)))) (shsW SS + 2)).triv = true := by kernel_rfl
theorem walk (a0 : Option Addr) (len0 cap0 : Nat) (z0 : List Int) (w : World) (w0 : IsRow .i64 w a0 len0 cap0 z0) (r : List Int) (hr : KsOK (shsKs SS) r) :
    Calls Try.prog 7 (.slice a0 len0 cap0 :: shsV SS r).toArray w fun e w' => e = .returned (.bool true) ∧ Below w.heap.size w w' :=
  row_trivS w0 (g := f24F) (l := tab) ⟨fv_ok, fvR_ok, add_ok, addR_ok, sub_ok, subR_ok, box_ok, boxR_ok, dist_ok, distR_ok, turn_ok, turnR_ok, earth_ok, earthR_ok, body_ok, bodyR_ok, sane03_ok, trivial⟩ (by kernel_rfl) tree_triv hr
end Go.Proofs.Ythhaeaiheidpoaa.frameExact
