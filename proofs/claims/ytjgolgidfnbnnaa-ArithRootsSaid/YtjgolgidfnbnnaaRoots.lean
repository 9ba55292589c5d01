/- 'dynpos/dynposlaw01.ArithRoots': the tree of its walk, and that each of its leaves is true. -/
import Derived.Test.YtjgolgidfnbnnaaRows
import Derived.Test.YtjgolgidfnbnnaaArithS
import Derived.Test.YtjgolgidfnbnnaaArithG
namespace Go.Proofs.Ytjgolgidfnbnnaa.arithRoots
open Go.RowKit Ev
def tree : T Leaf :=
(.ite (.lt (.rem (.v 0) (.lit 1000000000)) (.lit 0))
 (.call 4 [(.mul (.sub (.lit 0) (.rem (.v 0) (.lit 1000000000))) (.add (.rem (.sub (.lit 0) (.rem (.v 0) (.lit 1000000000))) (.lit 1000)) (.lit 1)))] 2
 (.call 4 [(.mul (.sub (.lit 0) (.rem (.v 0) (.lit 1000000000))) (.sub (.lit 0) (.rem (.v 0) (.lit 1000000000))))] 2
 (.ite (.and (.and (.and (.and (.eq (.v 2) (.lit 0)) (.eq (.v 4) (.lit 0))) (.eq (.v 3) (.sub (.lit 0) (.rem (.v 0) (.lit 1000000000))))) (.le (.mul (.v 1) (.v 1)) (.mul (.sub (.lit 0) (.rem (.v 0) (.lit 1000000000))) (.add (.rem (.sub (.lit 0) (.rem (.v 0) (.lit 1000000000))) (.lit 1000)) (.lit 1))))) (.lt (.mul (.sub (.lit 0) (.rem (.v 0) (.lit 1000000000))) (.add (.rem (.sub (.lit 0) (.rem (.v 0) (.lit 1000000000))) (.lit 1000)) (.lit 1))) (.mul (.add (.v 1) (.lit 1)) (.add (.v 1) (.lit 1)))))
  (.call 7 [] 1
  (.leaf ((.bool (.nz (.v 5))), [], []))
  )
  (.leaf ((.bool (.lit false)), [], []))
 )
 )
 )
 (.call 4 [(.mul (.rem (.v 0) (.lit 1000000000)) (.add (.rem (.rem (.v 0) (.lit 1000000000)) (.lit 1000)) (.lit 1)))] 2
 (.call 4 [(.mul (.rem (.v 0) (.lit 1000000000)) (.rem (.v 0) (.lit 1000000000)))] 2
 (.ite (.and (.and (.and (.and (.eq (.v 2) (.lit 0)) (.eq (.v 4) (.lit 0))) (.eq (.v 3) (.rem (.v 0) (.lit 1000000000)))) (.le (.mul (.v 1) (.v 1)) (.mul (.rem (.v 0) (.lit 1000000000)) (.add (.rem (.rem (.v 0) (.lit 1000000000)) (.lit 1000)) (.lit 1))))) (.lt (.mul (.rem (.v 0) (.lit 1000000000)) (.add (.rem (.rem (.v 0) (.lit 1000000000)) (.lit 1000)) (.lit 1))) (.mul (.add (.v 1) (.lit 1)) (.add (.v 1) (.lit 1)))))
  (.call 7 [] 1
  (.leaf ((.bool (.nz (.v 5))), [], []))
  )
  (.leaf ((.bool (.lit false)), [], []))
 )
 )
 )
)
theorem tree_eq : evFn Try.prog (ctxOf arithTab) 100 12 noDraw 4 [.int .i64 (.v 0)] [] ⟨[(.v 0, (-9223372036854775808), 9223372036854775807)], []⟩ 1 = tree := by kernel_rfl

theorem walk (a0 : Int) (w0 : (Lit.int .i64 a0).wf = true) (w : World) :
    Calls Try.prog 4 #[.int .i64 a0] w fun e w' => e = .returned (.bool true) ∧ Below w.heap.size w w' := by
  refine law_ok arithC_ok noDraw_ok (Φ := arithSig) (ρ := [a0]) tree_eq ?_ rfl (FxOK_cons (wf_bd w0).1 (wf_bd w0).2 (FxOK_nil _)) rfl w
  have b0 : (-9223372036854775808) ≤ a0 ∧ a0 ≤ 9223372036854775807 := wf_bd w0
  clear w0 w
  simp [tree, T.ok, LTrue, denB, den, arithSig, gFloor, gHalf, gUp, gMod, gRoot, gSane, gClamp, gNear, fit1, fit2, Go.Proofs.Ytjgolgidfnbnnaa.a0, Go.Proofs.Ytjgolgidfnbnnaa.a1, Go.Proofs.Ytjgolgidfnbnnaa.a2]
  have s1 := tmod_sg a0 1000000000 1000 (by decide)
  have s2 := tmod_sg' a0 1000000000 1000 (by decide)
  have l1 := Int.tmod_lt_of_pos a0 (by decide : (0 : Int) < 1000000000)
  have l2 := Int.lt_tmod_of_pos a0 (by decide : (0 : Int) < 1000000000)
  have l3 := Int.tmod_lt_of_pos a0 (by decide : (0 : Int) < 1000)
  have l4 := Int.lt_tmod_of_pos a0 (by decide : (0 : Int) < 1000)
  exact ⟨fun h => have s := s1 h; roots_goal _ _ ⟨by omega, by omega⟩ ⟨by omega, by omega⟩, fun h => have s := s2 h; roots_goal _ _ ⟨by omega, by omega⟩ ⟨by omega, by omega⟩⟩
end Go.Proofs.Ytjgolgidfnbnnaa.arithRoots
