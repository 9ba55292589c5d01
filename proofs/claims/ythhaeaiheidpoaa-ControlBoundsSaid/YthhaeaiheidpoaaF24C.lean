/- Sines: contracts. -/
import Derived.Test.YthhaeaiheidpoaaRows
import Derived.Test.YthhaeaiheidpoaaF24T
namespace Go.Proofs.Ythhaeaiheidpoaa
open Ev
set_option linter.unusedSimpArgs false
set_option linter.unusedVariables false

def t_sin : T Leaf :=
(.call 10 [(.v 0)] 1
(.ite (.lt (.lit 1800) (.v 1))
 (.call 1 [(.mul (.lit 40000) (.mul (.sub (.v 1) (.lit 1800)) (.sub (.lit 1800) (.sub (.v 1) (.lit 1800))))), (.sub (.lit 4050000) (.mul (.sub (.v 1) (.lit 1800)) (.sub (.lit 1800) (.sub (.v 1) (.lit 1800)))))] 2
 (.leaf ((.int .i64 (.mul (.lit (-1)) (.v 2))), [], []))
 )
 (.call 1 [(.mul (.lit 40000) (.mul (.v 1) (.sub (.lit 1800) (.v 1)))), (.sub (.lit 4050000) (.mul (.v 1) (.sub (.lit 1800) (.v 1))))] 2
 (.leaf ((.int .i64 (.mul (.lit 1) (.v 2))), [], []))
 )
)
)
theorem t_sin_eq : evFn Try.prog (ctxOf tab1) 100 12 55 (shsS cSin.args 0) [] ⟨rngE 0 cSin.dom, []⟩ cSin.dom.length = t_sin := by kernel_rfl
set_option maxHeartbeats 2000000 in
theorem sin_ok : PCOK Try.prog 55 cSin gSin := pc_of_tree ctx1_ok (Φ := f24Sig) rfl (fun _ => trivial) (by kernel_rfl) (by kernel_rfl) rfl t_sin_eq fun xs hl hx => by
  match xs, hl with
  | [x0], _ =>
    simp [rngE, cSin, den] at hx
    simp [t_sin, T.ok, LVal, gSin, cSin, f24Sig, f24F, gNorm, gHalf, gSin, gCos, gRoot, gRnd, gClamp, RngOK, denV, denL, denB, den, retV, shsV, shV, cellV, cellsV, a0, a1, a2, a3, a4, Sh.w, fit0, fit1, fit2, fit3, fit4]
    refine ⟨sinS_bd x0, fun h => ?_, fun h => ?_⟩
    · unfold sinS; rw [if_pos h]; rfl
    · unfold sinS; rw [if_neg (by omega)]; rfl
def t_sinR : T Leaf :=
(.call 10 [(.v 0)] 1
(.ite (.lt (.lit 1800) (.v 1))
 (.call 10 [(.sub (.v 1) (.lit 1800))] 1
 (.ite (.lt (.lit 1800) (.v 2))
  .bad
  (.call 1 [(.mul (.lit 40000) (.mul (.v 2) (.sub (.lit 1800) (.v 2)))), (.sub (.lit 4050000) (.mul (.v 2) (.sub (.lit 1800) (.v 2))))] 2
  (.leaf ((.int .i64 (.sub (.lit 0) (.v 3))), [], []))
  )
 )
 )
 (.call 1 [(.mul (.lit 40000) (.mul (.v 1) (.sub (.lit 1800) (.v 1)))), (.sub (.lit 4050000) (.mul (.v 1) (.sub (.lit 1800) (.v 1))))] 2
 (.leaf ((.int .i64 (.v 2)), [], []))
 )
)
)
theorem t_sinR_eq : evFn Try.prog (ctxOf tab1) 100 2 66 (shsS cSin.args 0) [] ⟨rngE 0 cSin.dom, []⟩ cSin.dom.length = t_sinR := by kernel_rfl
set_option maxHeartbeats 2000000 in
theorem sinR_ok : PCOK Try.prog 66 cSin gSin := pc_of_tree ctx1_ok (Φ := f24Sig) rfl (fun _ => trivial) (by kernel_rfl) (by kernel_rfl) rfl t_sinR_eq fun xs hl hx => by
  match xs, hl with
  | [x0], _ =>
    simp [rngE, cSin, den] at hx
    simp [t_sinR, T.ok, LVal, gSin, cSin, f24Sig, f24F, gNorm, gHalf, gSin, gCos, gRoot, gRnd, gClamp, RngOK, denV, denL, denB, den, retV, shsV, shV, cellV, cellsV, a0, a1, a2, a3, a4, Sh.w, fit0, fit1, fit2, fit3, fit4]
    refine ⟨sinS_bd x0, fun h => ?_, fun h => ?_⟩
    · have e : (x0 - 1800) % 3600 = x0 % 3600 - 1800 := by omega
      rw [e]
      refine ⟨by omega, fun _ => ?_⟩
      unfold sinS; rw [if_pos h]; rfl
    · unfold sinS; rw [if_neg (by omega)]; rfl
end Go.Proofs.Ythhaeaiheidpoaa
