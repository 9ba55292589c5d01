import Derived.Test.YtjgolgidfnbnnaaRows
import Derived.Test.YtjgolgidfnbnnaaEvG
namespace Go.Proofs.Ytjgolgidfnbnnaa.arithClamps
open Go.RowKit Ev
def fx : Fx := ⟨[(.v 0, -9223372036854775808, 9223372036854775807), (.v 1, -9223372036854775808, 9223372036854775807), (.v 2, -9223372036854775808, 9223372036854775807)], []⟩
def tree : T Leaf :=
(.ite (.not (.eq (.mx (.v 1) (.mn (.mx (.v 1) (.mn (.v 0) (.v 2))) (.v 2))) (.mx (.v 1) (.mn (.v 0) (.v 2)))))
 (.leaf ((.bool (.lit false)), [], []))
 (.ite (.lt (.v 2) (.v 1))
  (.ite (.eq (.mx (.v 1) (.mn (.v 0) (.v 2))) (.v 1))
   (.leaf ((.bool (.lit true)), [], []))
   (.leaf ((.bool (.lit false)), [], []))
  )
  (.ite (.and (.and (.and (.le (.v 1) (.mx (.v 1) (.mn (.v 0) (.v 2)))) (.le (.mx (.v 1) (.mn (.v 0) (.v 2))) (.v 2))) (.or (.or (.lt (.v 0) (.v 1)) (.lt (.v 2) (.v 0))) (.eq (.mx (.v 1) (.mn (.v 0) (.v 2))) (.v 0)))) (.or (.or (.eq (.mx (.v 1) (.mn (.v 0) (.v 2))) (.v 0)) (.eq (.mx (.v 1) (.mn (.v 0) (.v 2))) (.v 1))) (.eq (.mx (.v 1) (.mn (.v 0) (.v 2))) (.v 2))))
   (.leaf ((.bool (.lit true)), [], []))
   (.leaf ((.bool (.lit false)), [], []))
  )
 )
)
theorem tree_eq : evFn Try.prog noCtx 40 6 noDraw 3 [.int .i64 (.v 0), .int .i64 (.v 1), .int .i64 (.v 2)] [] fx 3 = tree := by kernel_rfl
theorem walk (a0 : Int) (a1 : Int) (a2 : Int) (w0 : (Lit.int .i64 a0).wf = true) (w1 : (Lit.int .i64 a1).wf = true) (w2 : (Lit.int .i64 a2).wf = true) (w : World) :
    Calls Try.prog 3 #[.int .i64 a0, .int .i64 a1, .int .i64 a2] w fun e w' => e = .returned (.bool true) ∧ Below w.heap.size w w' := by
  refine law_ok noCtx_ok (Φ := noSig) noDraw_ok (ρ := [a0, a1, a2]) tree_eq ?_ rfl (FxOK_cons (wf_bd w0).1 (wf_bd w0).2 (FxOK_cons (wf_bd w1).1 (wf_bd w1).2 (FxOK_cons (wf_bd w2).1 (wf_bd w2).2 (FxOK_nil _)))) rfl w
  simp [tree, T.ok, LTrue, denB, den]
  omega
end Go.Proofs.Ytjgolgidfnbnnaa.arithClamps
