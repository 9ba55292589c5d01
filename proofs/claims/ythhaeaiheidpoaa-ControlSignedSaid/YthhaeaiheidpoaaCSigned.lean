/- 'dynpos/dynposlaw24.ControlSigned': the tree of its walk, and that each of its leaves is true. -/
import Derived.Test.YthhaeaiheidpoaaRows
import Derived.Test.YthhaeaiheidpoaaF24J
import Derived.Test.YthhaeaiheidpoaaF24V
namespace Go.Proofs.Ythhaeaiheidpoaa.controlSigned
open Go.RowKit Ev
set_option linter.unusedSimpArgs false
set_option linter.unusedVariables false
def tab : List (FuncId × PC) := [(37, cSane), (49, cSgn)]
def gCS : Nat → List Int → List Int
  | 7 => gSane | 21 => gSgn
  | _ => fun _ => []
def tree : T Leaf :=
(.call 21 [(.rem (.v 0) (.lit 1099511627776))] 1
(.ite (.eq (.rem (.sub (.rem (.v 0) (.lit 1099511627776)) (.v 1)) (.lit 3600)) (.lit 0))
 (.call 21 [(.v 1)] 1
 (.ite (.eq (.v 2) (.v 1))
  (.call 7 [] 1
  (.leaf ((.bool (.lit true)), [], []))
  )
  (.leaf ((.bool (.lit false)), [], []))
 )
 )
 (.leaf ((.bool (.lit false)), [], []))
)
)
theorem tree_eq : evFn Try.prog (ctxOf tab) 60 12 13 [.int .i64 (.v 0)] [] ⟨[(.v 0, (-9223372036854775808), 9223372036854775807)], []⟩ 1 = tree := by kernel_rfl

theorem walk (a0 : Int) (w0 : (Lit.int .i64 a0).wf = true) (w : World) :
    Calls Try.prog 13 #[.int .i64 a0] w fun e w' => e = .returned (.bool true) ∧ Below w.heap.size w w' := by
  refine law_ok (g := gCS) (ctxOf_ok (l := tab) ⟨sane24_ok, sgn_ok, trivial⟩) (ρ := [a0]) tree_eq ?_ rfl (FxOK_cons (wf_bd w0).1 (wf_bd w0).2 (FxOK_nil _)) rfl w
  have b0 : (-9223372036854775808) ≤ a0 ∧ a0 ≤ 9223372036854775807 := wf_bd w0
  clear w0 w
  simp [tree, T.ok, LTrue, denB, den, gCS, gSane, gSgn, fit1, Go.Proofs.Ythhaeaiheidpoaa.a0]
  generalize a0.tmod 1099511627776 = a
  have h : (a - sgnS a) % 3600 = 0 := by unfold sgnS; split <;> omega
  refine ⟨fun _ => ?_, ?_⟩
  · have h2 : -1800 ≤ sgnS a ∧ sgnS a ≤ 1799 := by unfold sgnS; split <;> omega
    generalize sgnS a = n at *
    unfold sgnS
    split <;> omega
  · rcases Int.lt_or_le ((a - sgnS a).tmod 3600) 0 with g | g
    · have e1 := tmod_neg (d := 3600) (by omega) g
      have e2 := Int.lt_tmod_of_pos (a - sgnS a) (show (0 : Int) < 3600 by omega)
      omega
    · have e1 := tmod_pos (d := 3600) (by omega) g
      omega
end Go.Proofs.Ythhaeaiheidpoaa.controlSigned
