/- 'dynpos/dynposlaw01.ArithRounds': the tree of its walk, and that each of its leaves is true. -/
import Derived.Test.YtjgolgidfnbnnaaRows
import Derived.Test.YtjgolgidfnbnnaaArithS
import Derived.Test.YtjgolgidfnbnnaaArithG
namespace Go.Proofs.Ytjgolgidfnbnnaa.arithRounds
open Go.RowKit Ev
def tree : T Leaf :=
(.call 0 [(.rem (.v 0) (.lit 1125899906842624)), (.add (.v 1) (.lit 1))] 2
(.call 1 [(.rem (.v 0) (.lit 1125899906842624)), (.add (.v 1) (.lit 1))] 2
(.call 2 [(.rem (.v 0) (.lit 1125899906842624)), (.add (.v 1) (.lit 1))] 2
(.call 3 [(.rem (.v 0) (.lit 1125899906842624)), (.add (.v 1) (.lit 1))] 2
(.ite (.or (.or (.or (.or (.or (.or (.or (.or (.or (.not (.eq (.v 3) (.lit 0))) (.not (.eq (.v 5) (.lit 0)))) (.not (.eq (.v 7) (.lit 0)))) (.not (.eq (.v 9) (.lit 0)))) (.lt (.v 4) (.v 2))) (.lt (.v 6) (.v 4))) (.lt (.lit 1) (.sub (.v 6) (.v 2)))) (.le (.add (.v 1) (.lit 1)) (.v 8))) (.not (.eq (.wr .i64 (.add (.wr .i64 (.mul (.v 2) (.add (.v 1) (.lit 1)))) (.v 8))) (.rem (.v 0) (.lit 1125899906842624))))) (.not (.iff (.eq (.v 6) (.v 2)) (.eq (.v 8) (.lit 0)))))
 (.leaf ((.bool (.lit false)), [], []))
 (.ite (.iff (.eq (.v 4) (.v 2)) (.lt (.mul (.lit 2) (.v 8)) (.add (.v 1) (.lit 1))))
  (.call 7 [] 1
  (.leaf ((.bool (.nz (.v 10))), [], []))
  )
  (.leaf ((.bool (.lit false)), [], []))
 )
)
)
)
)
)
theorem tree_eq : evFn Try.prog (ctxOf arithTab) 100 12 noDraw 8 [.int .i64 (.v 0), .int .u16 (.v 1)] [] ⟨[(.v 0, (-9223372036854775808), 9223372036854775807), (.v 1, 0, 65535)], []⟩ 2 = tree := by kernel_rfl

theorem walk (a0 : Int) (a1 : Int) (w0 : (Lit.int .i64 a0).wf = true) (w1 : (Lit.int .u16 a1).wf = true) (w : World) :
    Calls Try.prog 8 #[.int .i64 a0, .int .u16 a1] w fun e w' => e = .returned (.bool true) ∧ Below w.heap.size w w' := by
  refine law_ok arithC_ok noDraw_ok (Φ := arithSig) (ρ := [a0, a1]) tree_eq ?_ rfl (FxOK_cons (wf_bd w0).1 (wf_bd w0).2 (FxOK_cons (wf_bd w1).1 (wf_bd w1).2 (FxOK_nil _))) rfl w
  have b0 : (-9223372036854775808) ≤ a0 ∧ a0 ≤ 9223372036854775807 := wf_bd w0
  have b1 : 0 ≤ a1 ∧ a1 ≤ 65535 := wf_bd w1
  clear w0 w1 w
  simp [tree, T.ok, LTrue, denB, den, arithSig, gFloor, gHalf, gUp, gMod, gRoot, gSane, gClamp, gNear, fit1, fit2, Go.Proofs.Ytjgolgidfnbnnaa.a0, Go.Proofs.Ytjgolgidfnbnnaa.a1, Go.Proofs.Ytjgolgidfnbnnaa.a2]
  have l1 := Int.tmod_lt_of_pos a0 (by decide : (0 : Int) < 1125899906842624)
  have l2 := Int.lt_tmod_of_pos a0 (by decide : (0 : Int) < 1125899906842624)
  obtain ⟨h1, h2, h3, h4, h5, h6, h7, h8⟩ := rounds_goal (a0.tmod 1125899906842624) (a1 + 1) (by omega) (by omega)
  exact ⟨⟨⟨⟨⟨⟨⟨h1, h2⟩, h3⟩, h4⟩, h5⟩, h6⟩, h7⟩, fun _ _ _ _ _ _ _ => h8⟩
end Go.Proofs.Ytjgolgidfnbnnaa.arithRounds
