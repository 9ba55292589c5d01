/- 'dynpos/dynposlaw01.ArithNear': the tree of its walk, and that each of its leaves is true. -/
import Derived.Test.YtjgolgidfnbnnaaRows
import Derived.Test.YtjgolgidfnbnnaaArithS
namespace Go.Proofs.Ytjgolgidfnbnnaa.arithNear
open Go.RowKit Ev
def tree : T Leaf :=
(.ite (.le (.v 2) (.lit 0))
 (.ite (.lt (.sub (.v 1) (.v 0)) (.lit 0))
  (.ite (.and (.le (.sub (.lit 0) (.sub (.v 1) (.v 0))) (.sub (.lit 0) (.sub (.v 1) (.v 0)))) (.le (.sub (.sub (.lit 0) (.sub (.v 1) (.v 0))) (.sub (.lit 0) (.sub (.v 1) (.v 0)))) (.v 2)))
   (.call 7 [] 1
   (.leaf ((.bool (.nz (.v 3))), [], []))
   )
   (.leaf ((.bool (.lit false)), [], []))
  )
  (.ite (.and (.and (.le (.sub (.v 1) (.v 0)) (.sub (.v 1) (.v 0))) (.le (.sub (.sub (.v 1) (.v 0)) (.sub (.v 1) (.v 0))) (.v 2))) (.iff (.eq (.sub (.v 1) (.v 0)) (.lit 0)) (.le (.sub (.v 1) (.v 0)) (.v 2))))
   (.call 7 [] 1
   (.leaf ((.bool (.nz (.v 3))), [], []))
   )
   (.leaf ((.bool (.lit false)), [], []))
  )
 )
 (.ite (.lt (.sub (.v 1) (.v 0)) (.lit 0))
  (.ite (.and (.and (.and (.le (.lit 0) (.sub (.lit 0) (.sub (.v 1) (.mx (.sub (.v 0) (.v 2)) (.mn (.v 1) (.add (.v 0) (.v 2))))))) (.le (.sub (.lit 0) (.sub (.v 1) (.mx (.sub (.v 0) (.v 2)) (.mn (.v 1) (.add (.v 0) (.v 2)))))) (.sub (.lit 0) (.sub (.v 1) (.v 0))))) (.le (.sub (.sub (.lit 0) (.sub (.v 1) (.v 0))) (.sub (.lit 0) (.sub (.v 1) (.mx (.sub (.v 0) (.v 2)) (.mn (.v 1) (.add (.v 0) (.v 2))))))) (.v 2))) (.iff (.eq (.sub (.lit 0) (.sub (.v 1) (.mx (.sub (.v 0) (.v 2)) (.mn (.v 1) (.add (.v 0) (.v 2)))))) (.lit 0)) (.le (.sub (.lit 0) (.sub (.v 1) (.v 0))) (.v 2))))
   (.call 7 [] 1
   (.leaf ((.bool (.nz (.v 3))), [], []))
   )
   (.leaf ((.bool (.lit false)), [], []))
  )
  (.ite (.and (.and (.and (.le (.lit 0) (.sub (.v 1) (.mx (.sub (.v 0) (.v 2)) (.mn (.v 1) (.add (.v 0) (.v 2)))))) (.le (.sub (.v 1) (.mx (.sub (.v 0) (.v 2)) (.mn (.v 1) (.add (.v 0) (.v 2))))) (.sub (.v 1) (.v 0)))) (.le (.sub (.sub (.v 1) (.v 0)) (.sub (.v 1) (.mx (.sub (.v 0) (.v 2)) (.mn (.v 1) (.add (.v 0) (.v 2)))))) (.v 2))) (.iff (.eq (.sub (.v 1) (.mx (.sub (.v 0) (.v 2)) (.mn (.v 1) (.add (.v 0) (.v 2))))) (.lit 0)) (.le (.sub (.v 1) (.v 0)) (.v 2))))
   (.call 7 [] 1
   (.leaf ((.bool (.nz (.v 3))), [], []))
   )
   (.leaf ((.bool (.lit false)), [], []))
  )
 )
)
theorem tree_eq : evFn Try.prog (saneC) 100 12 noDraw 5 [.int .i16 (.v 0), .int .i16 (.v 1), .int .u8 (.v 2)] [] ⟨[(.v 0, (-32768), 32767), (.v 1, (-32768), 32767), (.v 2, 0, 255)], []⟩ 3 = tree := by kernel_rfl

theorem walk (a0 : Int) (a1 : Int) (a2 : Int) (w0 : (Lit.int .i16 a0).wf = true) (w1 : (Lit.int .i16 a1).wf = true) (w2 : (Lit.int .u8 a2).wf = true) (w : World) :
    Calls Try.prog 5 #[.int .i16 a0, .int .i16 a1, .int .u8 a2] w fun e w' => e = .returned (.bool true) ∧ Below w.heap.size w w' := by
  refine law_ok saneC_ok noDraw_ok (Φ := arithSig) (ρ := [a0, a1, a2]) tree_eq ?_ rfl (FxOK_cons (wf_bd w0).1 (wf_bd w0).2 (FxOK_cons (wf_bd w1).1 (wf_bd w1).2 (FxOK_cons (wf_bd w2).1 (wf_bd w2).2 (FxOK_nil _)))) rfl w
  have b0 : (-32768) ≤ a0 ∧ a0 ≤ 32767 := wf_bd w0
  have b1 : (-32768) ≤ a1 ∧ a1 ≤ 32767 := wf_bd w1
  have b2 : 0 ≤ a2 ∧ a2 ≤ 255 := wf_bd w2
  clear w0 w1 w2 w
  simp [tree, T.ok, LTrue, denB, den, arithSig, gSane, fit1]
  omega
end Go.Proofs.Ytjgolgidfnbnnaa.arithNear
