/- The first table of contracts. -/
import Derived.Test.YthhaeaiheidpoaaF24R
import Derived.Test.YthhaeaiheidpoaaF24B
import Derived.Test.YthhaeaiheidpoaaF24W
set_option linter.unusedSimpArgs false
set_option linter.unusedVariables false
namespace Go.Proofs.Ythhaeaiheidpoaa
open Ev
/-- What the contracts' names stand for. -/
def f24F : Nat → List Int → List Int
  | 0 => gFloor | 1 => gHalf | 2 => gUp | 3 => gMod | 4 => gRoot | 5 => gClamp | 6 => gNear | 7 => gSane
  | 10 => gNorm | 11 => gSin | 12 => gCos | 13 => gFV | 14 => gAdd | 15 => gSub | 16 => gBox | 17 => gDist | 18 => gTurn | 19 => gBody | 20 => gRnd | 21 => gSgn | 22 => gBod | 23 => gChk | 24 => gVld | 25 => gDem
  | _ => fun _ => []
def f24Sig : Sig := { f := f24F }
def tab1 : List (FuncId × PC) := [(56, cHalf), (58, cRoot), (64, cHalf), (62, cRoot), (81, cClamp), (59, cNorm), (67, cNorm), (75, cRnd), (74, cRnd)]
theorem tab1_ok : TabOK Try.prog f24Sig tab1 := ⟨half_ok, root_ok, halfR_ok, rootR_ok, clamp_ok, norm_ok, normR_ok, rnd_ok, rndR_ok, trivial⟩
theorem ctx1_ok : CtxOK Try.prog f24Sig (ctxOf tab1) := ctxOf_ok tab1_ok
end Go.Proofs.Ythhaeaiheidpoaa
