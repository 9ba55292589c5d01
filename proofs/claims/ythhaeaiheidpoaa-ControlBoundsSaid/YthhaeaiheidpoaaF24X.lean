/- The third table of contracts. -/
import Derived.Test.YthhaeaiheidpoaaF24K
import Derived.Test.YthhaeaiheidpoaaF24J
import Derived.Test.YthhaeaiheidpoaaF24E
set_option linter.unusedSimpArgs false
set_option linter.unusedVariables false
namespace Go.Proofs.Ythhaeaiheidpoaa
open Ev
def tab3 : List (FuncId × PC) := (27, cFV) :: (28, cFV) :: (47, cBod) :: (48, cBod) :: (49, cSgn) :: (50, cSgn) :: (75, cRnd) :: (74, cRnd) :: []
theorem tab3_ok : TabOK Try.prog f24Sig tab3 := ⟨fv_ok, fvR_ok, bod_ok, bodR_ok, sgn_ok, sgnR_ok, rnd_ok, rndR_ok, trivial⟩
theorem ctx3_ok : CtxOK Try.prog f24Sig (ctxOf tab3) := ctxOf_ok tab3_ok
end Go.Proofs.Ythhaeaiheidpoaa
