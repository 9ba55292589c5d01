/- 'dynpos/dynposlaw24.ControlExact': the walk; every leaf is plainly true. -/
import Derived.Test.YthhaeaiheidpoaaEvQ
import Derived.Test.YthhaeaiheidpoaaF24N
import Derived.Test.YthhaeaiheidpoaaF24Y
import Derived.Test.YthhaeaiheidpoaaF24Z
import Derived.Test.YthhaeaiheidpoaaF24Za
import Derived.Test.YthhaeaiheidpoaaF24V
set_option linter.unusedSimpArgs false
set_option linter.unusedVariables false
namespace Go.Proofs.Ythhaeaiheidpoaa.controlExact
open Go.RowKit Ev
def tab : List (FuncId × PC) := [(41, cChk), (42, cChk), (43, cVld), (44, cVld), (45, cDem), (46, cDem), (47, cBod), (48, cBod), (49, cSgn), (50, cSgn), (37, cSane)]
def SS : List Sh := [.agg [some .i64, some .i64, some .i64, some .i64, some .i64, some .i64, some .i64, some .i64, some .i64], .agg [some .i64, some .i64, some .i64, some .i64, some .i64, some .i64, none], .agg [some .i64, some .i64], .one (some .i64), .agg [some .i64, some .i64, some .i64]]
def hints : FuncId → Nat → Option Hint := fun f u => if f = 8 then (match u with | 0 => some { id := 0, ps := [.tmp 56, .cell 13 1], rg := [(0, 2), (0, 600)], me := .sub (.lit 2) (.v 0) } | 2 => some { id := 2, ps := [.tmp 67, .cell 13 1], rg := [(0, 2), (0, 600)], me := .sub (.lit 2) (.v 0) } | 4 => some { id := 4, ps := [.tmp 80, .cell 13 1], rg := [(0, 2), (0, 600)], me := .sub (.lit 2) (.v 0) } | 6 => some { id := 6, ps := [.tmp 87, .cell 13 1], rg := [(0, 2), (0, 600)], me := .sub (.lit 2) (.v 0) } | 8 => some { id := 8, ps := [.tmp 94, .cell 13 1], rg := [(0, 2), (0, 600)], me := .sub (.lit 2) (.v 0) } | _ => none) else none
theorem tree_triv : (evFn Try.prog (rowCtx tab hints) 60 12 8 (.sls 0 (.v 0) (.v 1) :: shsS SS 2) [] (rowFx (rngE 2 (ksRg (shsKs SS)))) (shsW SS + 2)).triv = true := by kernel_rfl
theorem walk (a0 : Option Addr) (len0 cap0 : Nat) (z0 : List Int) (w : World) (w0 : IsRow .i64 w a0 len0 cap0 z0) (r : List Int) (hr : KsOK (shsKs SS) r) :
    Calls Try.prog 8 (.slice a0 len0 cap0 :: shsV SS r).toArray w fun e w' => e = .returned (.bool true) ∧ Below w.heap.size w w' :=
  row_trivS w0 (g := f24F) (l := tab) ⟨chk_ok, chkR_ok, vld_ok, vldR_ok, dem_ok, demR_ok, bod_ok, bodR_ok, sgn_ok, sgnR_ok, sane24_ok, trivial⟩ (by kernel_rfl) tree_triv hr
end Go.Proofs.Ythhaeaiheidpoaa.controlExact
