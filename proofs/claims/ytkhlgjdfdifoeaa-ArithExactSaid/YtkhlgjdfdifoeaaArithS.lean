/- The table of the contracts of arith, and what its chapter's examples say. -/
import Derived.Test.YtkhlgjdfdifoeaaRootC
namespace Go.Proofs.Ytkhlgjdfdifoeaa
open Ev
def arithF : Nat → List Int → List Int
  | 0 => gFloor | 1 => gHalf | 2 => gUp | 3 => gMod | 4 => gRoot | 5 => gClamp | 6 => gNear | 7 => gSane
  | _ => fun _ => []
def arithSig : Sig := { f := arithF }
def t_sane : T Leaf := .leaf (.bool (.lit true), [], [])
theorem t_sane_eq : evFn Try.prog noCtx 40 6 10 [] [] ⟨[], []⟩ 0 = t_sane := by kernel_rfl
theorem sane_ok : PCOK Try.prog 10 cSane gSane := pc_of_tree noCtx_ok (Φ := noSig) rfl (fun _ => trivial) (by kernel_rfl) (by kernel_rfl) rfl t_sane_eq fun xs _ _ => by
  simp [t_sane, T.ok, LVal, gSane, cSane, RngOK, denV, denB, retV, shV, cellV]
def arithTab : List (FuncId × PC) := [(10, cSane), (15, cFloor), (13, cHalf), (14, cUp), (16, cMod), (11, cRoot), (9, cClamp), (12, cNear),
  (21, cFloor), (22, cHalf), (23, cUp), (24, cMod), (20, cRoot), (25, cClamp), (26, cNear)]
theorem arithTab_ok : TabOK Try.prog arithSig arithTab := ⟨sane_ok, floor_ok, half_ok, up_ok, mod_ok, root_ok, clamp_ok, near_ok, floorR_ok, halfR_ok, upR_ok, modR_ok, rootR_ok, clampR_ok, nearR_ok, trivial⟩
abbrev arithC : Ctx := ctxOf arithTab
theorem arithC_ok : CtxOK Try.prog arithSig arithC := ctxOf_ok arithTab_ok
abbrev saneC : Ctx := ctxOf [(10, cSane)]
theorem saneC_ok : CtxOK Try.prog arithSig saneC := ctxOf_ok (l := [(10, cSane)]) ⟨sane_ok, trivial⟩
end Go.Proofs.Ytkhlgjdfdifoeaa
