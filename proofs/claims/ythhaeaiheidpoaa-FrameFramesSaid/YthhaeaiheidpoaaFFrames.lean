/- 'dynpos/dynposlaw03.FrameFrames': the tree of its walk, and that each of its leaves is true. -/
import Derived.Test.YthhaeaiheidpoaaF24E
import Derived.Test.YthhaeaiheidpoaaF24G
import Derived.Test.YthhaeaiheidpoaaF24S
import Derived.Test.YthhaeaiheidpoaaSrc
namespace Go.Proofs.Ythhaeaiheidpoaa.frameFrames
open Go.RowKit Ev
set_option linter.unusedSimpArgs false
set_option linter.unusedVariables false
def tab : List (FuncId × PC) := [(24, cAdd), (25, cSub), (22, cTurn), (23, cBody), (18, cSane)]
def tree : T Leaf :=
(.call 900 [(.lit 1801), (.mn (.v 0) (.lit 600)), (.lit 0)] 2
(.call 900 [(.lit 1801), (.mn (.v 0) (.lit 600)), (.v 3)] 2
(.call 900 [(.lit 1801), (.mn (.v 0) (.lit 600)), (.v 5)] 2
(.call 900 [(.lit 1801), (.mn (.v 0) (.lit 600)), (.v 7)] 2
(.call 18 [(.add (.lit (-900)) (.v 2)), (.add (.lit (-900)) (.v 4)), (.lit 0)] 3
(.call 19 [(.add (.lit (-900)) (.v 2)), (.add (.lit (-900)) (.v 4)), (.lit 900)] 3
(.call 14 [(.add (.lit (-900)) (.v 2)), (.add (.lit (-900)) (.v 4)), (.add (.lit (-900)) (.v 6)), (.add (.lit (-900)) (.v 8))] 3
(.call 15 [(.v 16), (.v 17), (.add (.lit (-900)) (.v 6)), (.add (.lit (-900)) (.v 8))] 3
(.ite (.and (.and (.and (.and (.and (.and (.and (.and (.eq (.v 12) (.lit 0)) (.eq (.v 15) (.lit 0))) (.eq (.v 18) (.lit 0))) (.eq (.v 21) (.lit 0))) (.eq (.v 10) (.add (.lit (-900)) (.v 2)))) (.eq (.v 11) (.add (.lit (-900)) (.v 4)))) (.eq (.v 13) (.add (.lit (-900)) (.v 4)))) (.eq (.v 14) (.sub (.lit 0) (.add (.lit (-900)) (.v 2))))) (.and (.eq (.v 19) (.add (.lit (-900)) (.v 2))) (.eq (.v 20) (.add (.lit (-900)) (.v 4)))))
 (.call 7 [] 1
 (.leaf ((.bool (.lit true)), [some (73, [(.sls 0 (.mn (.v 0) (.lit 600)) (.v 1)), (.int .i64 (.v 9))]), some (26, [(.int .i64 (.add (.lit (-900)) (.v 2))), (.int .i64 (.add (.lit (-900)) (.v 4)))]), some (26, [(.int .i64 (.add (.lit (-900)) (.v 6))), (.int .i64 (.add (.lit (-900)) (.v 8)))]), some (26, [(.int .i64 (.v 16)), (.int .i64 (.v 17))]), some (26, [(.int .i64 (.v 19)), (.int .i64 (.v 20))])], [4, 4, 3, 3, 2, 2, 0, 0, 1, 1, 0, 0, 0]))
 )
 (.leaf ((.bool (.lit false)), [some (73, [(.sls 0 (.mn (.v 0) (.lit 600)) (.v 1)), (.int .i64 (.v 9))]), some (26, [(.int .i64 (.add (.lit (-900)) (.v 2))), (.int .i64 (.add (.lit (-900)) (.v 4)))]), some (26, [(.int .i64 (.add (.lit (-900)) (.v 6))), (.int .i64 (.add (.lit (-900)) (.v 8)))]), some (26, [(.int .i64 (.v 16)), (.int .i64 (.v 17))]), some (26, [(.int .i64 (.v 19)), (.int .i64 (.v 20))])], [4, 4, 3, 3, 2, 2, 0, 0, 1, 1, 0, 0, 0]))
)
)
)
)
)
)
)
)
)
theorem tree_eq : evFn Try.prog (rowCtx tab) 60 12 5 [.sls 0 (.v 0) (.v 1)] [] (rowFx []) 2 = tree := by kernel_rfl

set_option maxHeartbeats 4000000 in
theorem plain (l c : Int) : T.okD f24F LTrue [l, c] tree := by
  simp [tree, T.okD, LTrue, denB, den, f24F, gAdd, gSub, gTurn, gBody, gSane, fit1, fit2, fit3, a0, a1, a2, a3]
  intro v _ _ v1 _ _ v2 _ _ v3 _ _
  have p1 : -900 ≤ -900 + v ∧ -900 + v ≤ 900 := by omega
  have p2 : -900 ≤ -900 + v1 ∧ -900 + v1 ≤ 900 := by omega
  have q1 : -900 ≤ -900 + v2 ∧ -900 + v2 ≤ 900 := by omega
  have q2 : -900 ≤ -900 + v3 ∧ -900 + v3 ≤ 900 := by omega
  generalize -900 + v = px at *
  generalize -900 + v1 = py at *
  generalize -900 + v2 = qx at *
  generalize -900 + v3 = qy at *
  have o1 : okPt px py = true := decide_eq_true (by omega)
  have o2 : okPt qx qy = true := decide_eq_true (by omega)
  have o3 : okPt (px + qx) (py + qy) = true := decide_eq_true (by omega)
  have o4 : okPt (px + qx - qx) (py + qy - qy) = true := decide_eq_true (by omega)
  have hadd : addS px py qx qy = [px + qx, py + qy, 0] := by unfold addS; rw [if_pos ⟨o1, o2, o3⟩]
  have hsub : subS (px + qx) (py + qy) qx qy = [px + qx - qx, py + qy - qy, 0] := by unfold subS; rw [if_pos ⟨o3, o2, o4⟩]
  have k : ∀ n : Int, -1000000 ≤ n → n ≤ 1000000 → halfS (n * 10000) 10000 = n := fun n h1 h2 => by
    unfold halfS
    rw [if_pos (divB_mk (by omega) (by omega) (by omega) (by omega))]
    omega
  have c0 : cosS 0 = 10000 := rfl
  have s0 : sinS 0 = 0 := rfl
  have c9 : cosS (-900) = 0 := rfl
  have s9 : sinS (-900) = -10000 := rfl
  have t0 : turnS px py 0 = [px, py, 0] := by
    unfold turnS
    rw [if_pos o1, c0, s0, Int.mul_zero, Int.mul_zero, Int.sub_zero, Int.zero_add, k px (by omega) (by omega), k py (by omega) (by omega)]
  have t9 : turnS px py (-900) = [py, -px, 0] := by
    unfold turnS
    have e1 : px * 0 - py * -10000 = py * 10000 := by omega
    have e2 : px * -10000 + py * 0 = -px * 10000 := by omega
    rw [if_pos o1, c9, s9, e1, e2, k py (by omega) (by omega), k (-px) (by omega) (by omega)]
  rw [t0, t9, hadd]
  simp only [List.getElem?_cons_zero, List.getElem?_cons_succ, Option.getD_some]
  rw [hsub]
  simp only [List.getElem?_cons_zero, List.getElem?_cons_succ, Option.getD_some, true_and]
  omega
theorem walk (a0 : Option Addr) (len0 cap0 : Nat) (z0 : List Int) (w : World) (w0 : IsRow .i64 w a0 len0 cap0 z0) :
    Calls Try.prog 5 #[.slice a0 len0 cap0] w fun e w' => e = .returned (.bool true) ∧ Below w.heap.size w w' :=
  row_law w0 (l := tab) ⟨add_ok, sub_ok, earth_ok, body_ok, sane03_ok, trivial⟩ (by kernel_rfl) tree_eq (r := []) (plain _ _) rfl (fxNil _) rfl
end Go.Proofs.Ythhaeaiheidpoaa.frameFrames
