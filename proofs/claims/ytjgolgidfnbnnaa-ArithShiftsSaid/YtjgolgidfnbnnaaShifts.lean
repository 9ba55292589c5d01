/- 'dynpos/dynposlaw01.ArithShifts': the tree of its walk, and that each of its leaves is true. -/
import Derived.Test.YtjgolgidfnbnnaaRows
import Derived.Test.YtjgolgidfnbnnaaArithS
import Derived.Test.YtjgolgidfnbnnaaArithG
namespace Go.Proofs.Ytjgolgidfnbnnaa.arithShifts
open Go.RowKit Ev
def tree : T Leaf :=
(.ite (.le (.v 1) (.lit 0))
 (.call 1 [(.rem (.v 0) (.lit 1099511627776)), (.sub (.lit 1) (.v 1))] 2
 (.call 1 [(.add (.rem (.v 0) (.lit 1099511627776)) (.mul (.v 2) (.sub (.lit 1) (.v 1)))), (.sub (.lit 1) (.v 1))] 2
 (.call 2 [(.rem (.v 0) (.lit 1099511627776)), (.sub (.lit 1) (.v 1))] 2
 (.call 0 [(.sub (.lit 0) (.rem (.v 0) (.lit 1099511627776))), (.sub (.lit 1) (.v 1))] 2
 (.call 3 [(.add (.rem (.v 0) (.lit 1099511627776)) (.mul (.v 2) (.sub (.lit 1) (.v 1)))), (.sub (.lit 1) (.v 1))] 2
 (.call 3 [(.rem (.v 0) (.lit 1099511627776)), (.sub (.lit 1) (.v 1))] 2
 (.ite (.and (.and (.and (.and (.and (.and (.and (.and (.eq (.v 4) (.lit 0)) (.eq (.v 6) (.lit 0))) (.eq (.v 8) (.lit 0))) (.eq (.v 10) (.lit 0))) (.eq (.v 12) (.lit 0))) (.eq (.v 14) (.lit 0))) (.eq (.v 5) (.add (.v 3) (.v 2)))) (.eq (.v 7) (.sub (.lit 0) (.v 9)))) (.eq (.v 11) (.v 13)))
  (.call 7 [] 1
  (.leaf ((.bool (.nz (.v 15))), [], []))
  )
  (.leaf ((.bool (.lit false)), [], []))
 )
 )
 )
 )
 )
 )
 )
 (.call 1 [(.rem (.v 0) (.lit 1099511627776)), (.v 1)] 2
 (.call 1 [(.add (.rem (.v 0) (.lit 1099511627776)) (.mul (.v 2) (.v 1))), (.v 1)] 2
 (.call 2 [(.rem (.v 0) (.lit 1099511627776)), (.v 1)] 2
 (.call 0 [(.sub (.lit 0) (.rem (.v 0) (.lit 1099511627776))), (.v 1)] 2
 (.call 3 [(.add (.rem (.v 0) (.lit 1099511627776)) (.mul (.v 2) (.v 1))), (.v 1)] 2
 (.call 3 [(.rem (.v 0) (.lit 1099511627776)), (.v 1)] 2
 (.ite (.and (.and (.and (.and (.and (.and (.and (.and (.eq (.v 4) (.lit 0)) (.eq (.v 6) (.lit 0))) (.eq (.v 8) (.lit 0))) (.eq (.v 10) (.lit 0))) (.eq (.v 12) (.lit 0))) (.eq (.v 14) (.lit 0))) (.eq (.v 5) (.add (.v 3) (.v 2)))) (.eq (.v 7) (.sub (.lit 0) (.v 9)))) (.eq (.v 11) (.v 13)))
  (.call 7 [] 1
  (.leaf ((.bool (.nz (.v 15))), [], []))
  )
  (.leaf ((.bool (.lit false)), [], []))
 )
 )
 )
 )
 )
 )
 )
)
theorem tree_eq : evFn Try.prog (ctxOf arithTab) 100 12 noDraw 6 [.int .i64 (.v 0), .int .i16 (.v 1), .int .i16 (.v 2)] [] ⟨[(.v 0, (-9223372036854775808), 9223372036854775807), (.v 1, (-32768), 32767), (.v 2, (-32768), 32767)], []⟩ 3 = tree := by kernel_rfl

theorem walk (a0 : Int) (a1 : Int) (a2 : Int) (w0 : (Lit.int .i64 a0).wf = true) (w1 : (Lit.int .i16 a1).wf = true) (w2 : (Lit.int .i16 a2).wf = true) (w : World) :
    Calls Try.prog 6 #[.int .i64 a0, .int .i16 a1, .int .i16 a2] w fun e w' => e = .returned (.bool true) ∧ Below w.heap.size w w' := by
  refine law_ok arithC_ok noDraw_ok (Φ := arithSig) (ρ := [a0, a1, a2]) tree_eq ?_ rfl (FxOK_cons (wf_bd w0).1 (wf_bd w0).2 (FxOK_cons (wf_bd w1).1 (wf_bd w1).2 (FxOK_cons (wf_bd w2).1 (wf_bd w2).2 (FxOK_nil _)))) rfl w
  have b0 : (-9223372036854775808) ≤ a0 ∧ a0 ≤ 9223372036854775807 := wf_bd w0
  have b1 : (-32768) ≤ a1 ∧ a1 ≤ 32767 := wf_bd w1
  have b2 : (-32768) ≤ a2 ∧ a2 ≤ 32767 := wf_bd w2
  clear w0 w1 w2 w
  simp [tree, T.ok, LTrue, denB, den, arithSig, gFloor, gHalf, gUp, gMod, gRoot, gSane, gClamp, gNear, fit1, fit2, Go.Proofs.Ytjgolgidfnbnnaa.a0, Go.Proofs.Ytjgolgidfnbnnaa.a1, Go.Proofs.Ytjgolgidfnbnnaa.a2]
  have l1 := Int.tmod_lt_of_pos a0 (by decide : (0 : Int) < 1099511627776)
  have l2 := Int.lt_tmod_of_pos a0 (by decide : (0 : Int) < 1099511627776)
  exact ⟨fun h => shifts_goal _ _ _ (by omega) (by omega) b2, fun h => shifts_goal _ _ _ (by omega) (by omega) b2⟩
end Go.Proofs.Ytjgolgidfnbnnaa.arithShifts
