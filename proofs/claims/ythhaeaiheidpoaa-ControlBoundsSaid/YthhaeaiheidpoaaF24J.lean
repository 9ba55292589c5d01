/- Signed angles: contracts. -/
import Derived.Test.YthhaeaiheidpoaaRows
import Derived.Test.YthhaeaiheidpoaaF24D
namespace Go.Proofs.Ythhaeaiheidpoaa
open Ev
set_option linter.unusedSimpArgs false
set_option linter.unusedVariables false

def t_sgn : T Leaf :=
(.ite (.lt (.rem (.v 0) (.lit 3600)) (.lit 0))
 (.ite (.le (.lit 1800) (.add (.rem (.v 0) (.lit 3600)) (.lit 3600)))
  (.leaf ((.int .i64 (.sub (.add (.rem (.v 0) (.lit 3600)) (.lit 3600)) (.lit 3600))), [], []))
  (.leaf ((.int .i64 (.add (.rem (.v 0) (.lit 3600)) (.lit 3600))), [], []))
 )
 (.ite (.le (.lit 1800) (.rem (.v 0) (.lit 3600)))
  (.leaf ((.int .i64 (.sub (.rem (.v 0) (.lit 3600)) (.lit 3600))), [], []))
  (.leaf ((.int .i64 (.rem (.v 0) (.lit 3600))), [], []))
 )
)
theorem t_sgn_eq : evFn Try.prog (noCtx) 100 12 49 (shsS cSgn.args 0) [] ⟨rngE 0 cSgn.dom, []⟩ cSgn.dom.length = t_sgn := by kernel_rfl
set_option maxHeartbeats 2000000 in
theorem sgn_ok : PCOK Try.prog 49 cSgn gSgn := pc_of_tree noCtx_ok (Φ := noSig) rfl (fun _ => trivial) (by kernel_rfl) (by kernel_rfl) rfl t_sgn_eq fun xs hl hx => by
  match xs, hl with
  | [x0], _ =>
    simp [rngE, cSgn, den] at hx
    simp [t_sgn, T.ok, LVal, gSgn, cSgn, gSgn, RngOK, denV, denL, denB, den, retV, shsV, shV, cellV, cellsV, a0, a1, a2, a3, a4, Sh.w, fit0, fit1, fit2, fit3, fit4]
    have b0 := norm_bd x0
    have e1 := fun h => tmod_neg (x := x0) (d := 3600) (by omega) h
    have e2 := fun h => tmod_pos (x := x0) (d := 3600) (by omega) h
    unfold sgnS
    split <;> omega
def t_sgnR : T Leaf :=
(.ite (.le (.lit 1800) (.rem (.add (.rem (.v 0) (.lit 3600)) (.lit 3600)) (.lit 3600)))
 (.leaf ((.int .i64 (.sub (.rem (.add (.rem (.v 0) (.lit 3600)) (.lit 3600)) (.lit 3600)) (.lit 3600))), [], []))
 (.leaf ((.int .i64 (.rem (.add (.rem (.v 0) (.lit 3600)) (.lit 3600)) (.lit 3600))), [], []))
)
theorem t_sgnR_eq : evFn Try.prog (noCtx) 100 12 50 (shsS cSgn.args 0) [] ⟨rngE 0 cSgn.dom, []⟩ cSgn.dom.length = t_sgnR := by kernel_rfl
set_option maxHeartbeats 2000000 in
theorem sgnR_ok : PCOK Try.prog 50 cSgn gSgn := pc_of_tree noCtx_ok (Φ := noSig) rfl (fun _ => trivial) (by kernel_rfl) (by kernel_rfl) rfl t_sgnR_eq fun xs hl hx => by
  match xs, hl with
  | [x0], _ =>
    simp [rngE, cSgn, den] at hx
    simp [t_sgnR, T.ok, LVal, gSgn, cSgn, gSgn, RngOK, denV, denL, denB, den, retV, shsV, shV, cellV, cellsV, a0, a1, a2, a3, a4, Sh.w, fit0, fit1, fit2, fit3, fit4]
    have b0 := norm_bd x0
    have e1 := fun h => tmod_neg (x := x0) (d := 3600) (by omega) h
    have e2 := fun h => tmod_pos (x := x0) (d := 3600) (by omega) h
    have a := Int.lt_tmod_of_pos x0 (show (0 : Int) < 3600 by omega)
    have e3 : (x0.tmod 3600 + 3600).tmod 3600 = x0 % 3600 := by
      rw [Int.tmod_eq_emod_of_nonneg (by omega)]; omega
    try rw [e3]
    try simp only [e3]
    unfold sgnS
    split <;> omega
end Go.Proofs.Ythhaeaiheidpoaa
