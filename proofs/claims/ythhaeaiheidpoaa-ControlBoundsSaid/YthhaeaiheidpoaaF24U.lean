/- The second table of contracts. -/
import Derived.Test.YthhaeaiheidpoaaF24C
set_option linter.unusedSimpArgs false
set_option linter.unusedVariables false
namespace Go.Proofs.Ythhaeaiheidpoaa
open Ev
def tab2 : List (FuncId × PC) := (55, cSin) :: (66, cSin) :: tab1
theorem tab2_ok : TabOK Try.prog f24Sig tab2 := ⟨sin_ok, sinR_ok, tab1_ok⟩
theorem ctx2_ok : CtxOK Try.prog f24Sig (ctxOf tab2) := ctxOf_ok tab2_ok
end Go.Proofs.Ythhaeaiheidpoaa
