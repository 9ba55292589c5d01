/- 'dynpos/dynposlaw09.FuseGrows': the tree of its walk, and that each of its leaves is true. -/
import Derived.Test.YtcedkkleclhglaaRows
import Derived.Test.YtcedkkleclhglaaFuS
namespace Go.Proofs.Ytcedkkleclhglaa.fuseGrows
open Go.RowKit Ev
set_option linter.unusedSimpArgs false
set_option linter.unusedVariables false
def tab : List (FuncId × PC) := [(9, cSane)]
def tree : T Leaf :=
(.ite (.and (.eq (.mn (.add (.v 0) (.mul (.v 1) (.add (.v 2) (.v 3)))) (.lit 200000000)) (.mn (.add (.mn (.add (.v 0) (.mul (.v 1) (.v 2))) (.lit 200000000)) (.mul (.v 1) (.v 3))) (.lit 200000000))) (.le (.v 0) (.mn (.add (.v 0) (.mul (.v 1) (.add (.v 2) (.v 3)))) (.lit 200000000))))
 (.ite (.le (.mx (.lit 1) (.quo (.lit 1000000000) (.mul (.add (.add (.lit 1) (.v 4)) (.lit 1)) (.add (.add (.lit 1) (.v 4)) (.lit 1))))) (.mx (.lit 1) (.quo (.lit 1000000000) (.mul (.add (.lit 1) (.v 4)) (.add (.lit 1) (.v 4))))))
  (.call 7 [] 1
  (.leaf ((.bool (.lit true)), [], []))
  )
  (.leaf ((.bool (.lit false)), [], []))
 )
 (.leaf ((.bool (.lit false)), [], []))
)
theorem tree_eq : evFn Try.prog (ctxOf tab) 60 12 3 [.int .u16 (.v 0), .int .u8 (.v 1), .int .u16 (.v 2), .int .u16 (.v 3), .int .u16 (.v 4)] [] ⟨[(.v 0, 0, 65535), (.v 1, 0, 255), (.v 2, 0, 65535), (.v 3, 0, 65535), (.v 4, 0, 65535)], []⟩ 5 = tree := by kernel_rfl

theorem walk (a0 : Int) (a1 : Int) (a2 : Int) (a3 : Int) (a4 : Int) (w0 : (Lit.int .u16 a0).wf = true) (w1 : (Lit.int .u8 a1).wf = true) (w2 : (Lit.int .u16 a2).wf = true) (w3 : (Lit.int .u16 a3).wf = true) (w4 : (Lit.int .u16 a4).wf = true) (w : World) :
    Calls Try.prog 3 #[.int .u16 a0, .int .u8 a1, .int .u16 a2, .int .u16 a3, .int .u16 a4] w fun e w' => e = .returned (.bool true) ∧ Below w.heap.size w w' := by
  refine law_ok (g := (fun _ => gSane)) (ctxOf_ok (l := tab) ⟨sane09_ok, trivial⟩) (ρ := [a0, a1, a2, a3, a4]) tree_eq ?_ rfl (FxOK_cons (wf_bd w0).1 (wf_bd w0).2 (FxOK_cons (wf_bd w1).1 (wf_bd w1).2 (FxOK_cons (wf_bd w2).1 (wf_bd w2).2 (FxOK_cons (wf_bd w3).1 (wf_bd w3).2 (FxOK_cons (wf_bd w4).1 (wf_bd w4).2 (FxOK_nil _)))))) rfl w
  have b0 : 0 ≤ a0 ∧ a0 ≤ 65535 := wf_bd w0
  have b1 : 0 ≤ a1 ∧ a1 ≤ 255 := wf_bd w1
  have b2 : 0 ≤ a2 ∧ a2 ≤ 65535 := wf_bd w2
  have b3 : 0 ≤ a3 ∧ a3 ≤ 65535 := wf_bd w3
  have b4 : 0 ≤ a4 ∧ a4 ≤ 65535 := wf_bd w4
  clear w0 w1 w2 w3 w4 w
  simp [tree, T.ok, LTrue, denB, den, gSane, fit1]
  have p0 : 0 ≤ a1 * a2 := Int.mul_nonneg (by omega) (by omega)
  have q0 : 0 ≤ a1 * a3 := Int.mul_nonneg (by omega) (by omega)
  rw [Int.mul_add]
  have d0 : 1 ≤ (1 + a4) * (1 + a4) := by
    have := Int.mul_le_mul (show (1 : Int) ≤ 1 + a4 by omega) (show (1 : Int) ≤ 1 + a4 by omega) (by omega) (by omega)
    omega
  have d1 : (1 + a4) * (1 + a4) ≤ (1 + a4 + 1) * (1 + a4 + 1) := Int.mul_le_mul (by omega) (by omega) (by omega) (by omega)
  have w : Int.tdiv 1000000000 ((1 + a4 + 1) * (1 + a4 + 1)) ≤ Int.tdiv 1000000000 ((1 + a4) * (1 + a4)) := by
    generalize (1 + a4) * (1 + a4) = m at *
    generalize (1 + a4 + 1) * (1 + a4 + 1) = n at *
    rw [Int.tdiv_eq_ediv_of_nonneg (by omega), Int.tdiv_eq_ediv_of_nonneg (by omega)]
    apply Int.le_ediv_of_mul_le (by omega)
    have h0 : 0 ≤ 1000000000 / n := Int.ediv_nonneg (by omega) (by omega)
    have h1 : 1000000000 / n * m ≤ 1000000000 / n * n := Int.mul_le_mul_of_nonneg_left d1 h0
    have h2 : 1000000000 / n * n ≤ 1000000000 := Int.ediv_mul_le _ (by omega)
    omega
  generalize Int.tdiv 1000000000 ((1 + a4 + 1) * (1 + a4 + 1)) = x at *
  generalize Int.tdiv 1000000000 ((1 + a4) * (1 + a4)) = y at *
  generalize a1 * a2 = p at *
  generalize a1 * a3 = q at *
  refine ⟨fun _ _ => ?_, ?_, ?_⟩
  · (repeat' split) <;> omega
  · (repeat' split) <;> omega
  · (repeat' split) <;> omega
end Go.Proofs.Ytcedkkleclhglaa.fuseGrows
