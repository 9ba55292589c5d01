/- 'dynpos/dynposlaw03.FrameDistances': the tree of its walk, and that each of its leaves is true. -/
import Derived.Test.YthhaeaiheidpoaaF24E
import Derived.Test.YthhaeaiheidpoaaF24G
import Derived.Test.YthhaeaiheidpoaaF24S
import Derived.Test.YthhaeaiheidpoaaSrc
import Derived.Test.YthhaeaiheidpoaaFDL
namespace Go.Proofs.Ythhaeaiheidpoaa.frameDistances
open Go.RowKit Ev
set_option linter.unusedSimpArgs false
set_option linter.unusedVariables false
def tab : List (FuncId × PC) := [(19, cDist), (20, cBox), (18, cSane)]
def tree : T Leaf :=
(.call 900 [(.lit 4), (.mn (.v 0) (.lit 600)), (.lit 0)] 2
(.call 900 [(.add (.sub (.sw (.v 2) 0 (.lit 10) (.sw (.v 2) 1 (.lit 100) (.sw (.v 2) 2 (.lit 1000) (.lit 100000000)))) (.sub (.lit 0) (.sw (.v 2) 0 (.lit 10) (.sw (.v 2) 1 (.lit 100) (.sw (.v 2) 2 (.lit 1000) (.lit 100000000)))))) (.lit 1)), (.mn (.v 0) (.lit 600)), (.v 3)] 2
(.call 900 [(.add (.sub (.sw (.v 2) 0 (.lit 10) (.sw (.v 2) 1 (.lit 100) (.sw (.v 2) 2 (.lit 1000) (.lit 100000000)))) (.sub (.lit 0) (.sw (.v 2) 0 (.lit 10) (.sw (.v 2) 1 (.lit 100) (.sw (.v 2) 2 (.lit 1000) (.lit 100000000)))))) (.lit 1)), (.mn (.v 0) (.lit 600)), (.v 5)] 2
(.call 900 [(.lit 4), (.mn (.v 0) (.lit 600)), (.v 7)] 2
(.call 900 [(.add (.sub (.sw (.v 8) 0 (.lit 10) (.sw (.v 8) 1 (.lit 100) (.sw (.v 8) 2 (.lit 1000) (.lit 100000000)))) (.sub (.lit 0) (.sw (.v 8) 0 (.lit 10) (.sw (.v 8) 1 (.lit 100) (.sw (.v 8) 2 (.lit 1000) (.lit 100000000)))))) (.lit 1)), (.mn (.v 0) (.lit 600)), (.v 9)] 2
(.call 900 [(.add (.sub (.sw (.v 8) 0 (.lit 10) (.sw (.v 8) 1 (.lit 100) (.sw (.v 8) 2 (.lit 1000) (.lit 100000000)))) (.sub (.lit 0) (.sw (.v 8) 0 (.lit 10) (.sw (.v 8) 1 (.lit 100) (.sw (.v 8) 2 (.lit 1000) (.lit 100000000)))))) (.lit 1)), (.mn (.v 0) (.lit 600)), (.v 11)] 2
(.call 900 [(.lit 4), (.mn (.v 0) (.lit 600)), (.v 13)] 2
(.call 900 [(.add (.sub (.sw (.v 14) 0 (.lit 10) (.sw (.v 14) 1 (.lit 100) (.sw (.v 14) 2 (.lit 1000) (.lit 100000000)))) (.sub (.lit 0) (.sw (.v 14) 0 (.lit 10) (.sw (.v 14) 1 (.lit 100) (.sw (.v 14) 2 (.lit 1000) (.lit 100000000)))))) (.lit 1)), (.mn (.v 0) (.lit 600)), (.v 15)] 2
(.call 900 [(.add (.sub (.sw (.v 14) 0 (.lit 10) (.sw (.v 14) 1 (.lit 100) (.sw (.v 14) 2 (.lit 1000) (.lit 100000000)))) (.sub (.lit 0) (.sw (.v 14) 0 (.lit 10) (.sw (.v 14) 1 (.lit 100) (.sw (.v 14) 2 (.lit 1000) (.lit 100000000)))))) (.lit 1)), (.mn (.v 0) (.lit 600)), (.v 17)] 2
(.call 17 [(.add (.sub (.lit 0) (.sw (.v 2) 0 (.lit 10) (.sw (.v 2) 1 (.lit 100) (.sw (.v 2) 2 (.lit 1000) (.lit 100000000))))) (.v 4)), (.add (.sub (.lit 0) (.sw (.v 2) 0 (.lit 10) (.sw (.v 2) 1 (.lit 100) (.sw (.v 2) 2 (.lit 1000) (.lit 100000000))))) (.v 6)), (.add (.sub (.lit 0) (.sw (.v 8) 0 (.lit 10) (.sw (.v 8) 1 (.lit 100) (.sw (.v 8) 2 (.lit 1000) (.lit 100000000))))) (.v 10)), (.add (.sub (.lit 0) (.sw (.v 8) 0 (.lit 10) (.sw (.v 8) 1 (.lit 100) (.sw (.v 8) 2 (.lit 1000) (.lit 100000000))))) (.v 12))] 2
(.call 17 [(.add (.sub (.lit 0) (.sw (.v 8) 0 (.lit 10) (.sw (.v 8) 1 (.lit 100) (.sw (.v 8) 2 (.lit 1000) (.lit 100000000))))) (.v 10)), (.add (.sub (.lit 0) (.sw (.v 8) 0 (.lit 10) (.sw (.v 8) 1 (.lit 100) (.sw (.v 8) 2 (.lit 1000) (.lit 100000000))))) (.v 12)), (.add (.sub (.lit 0) (.sw (.v 2) 0 (.lit 10) (.sw (.v 2) 1 (.lit 100) (.sw (.v 2) 2 (.lit 1000) (.lit 100000000))))) (.v 4)), (.add (.sub (.lit 0) (.sw (.v 2) 0 (.lit 10) (.sw (.v 2) 1 (.lit 100) (.sw (.v 2) 2 (.lit 1000) (.lit 100000000))))) (.v 6))] 2
(.call 17 [(.add (.sub (.lit 0) (.sw (.v 8) 0 (.lit 10) (.sw (.v 8) 1 (.lit 100) (.sw (.v 8) 2 (.lit 1000) (.lit 100000000))))) (.v 10)), (.add (.sub (.lit 0) (.sw (.v 8) 0 (.lit 10) (.sw (.v 8) 1 (.lit 100) (.sw (.v 8) 2 (.lit 1000) (.lit 100000000))))) (.v 12)), (.add (.sub (.lit 0) (.sw (.v 14) 0 (.lit 10) (.sw (.v 14) 1 (.lit 100) (.sw (.v 14) 2 (.lit 1000) (.lit 100000000))))) (.v 16)), (.add (.sub (.lit 0) (.sw (.v 14) 0 (.lit 10) (.sw (.v 14) 1 (.lit 100) (.sw (.v 14) 2 (.lit 1000) (.lit 100000000))))) (.v 18))] 2
(.call 17 [(.add (.sub (.lit 0) (.sw (.v 2) 0 (.lit 10) (.sw (.v 2) 1 (.lit 100) (.sw (.v 2) 2 (.lit 1000) (.lit 100000000))))) (.v 4)), (.add (.sub (.lit 0) (.sw (.v 2) 0 (.lit 10) (.sw (.v 2) 1 (.lit 100) (.sw (.v 2) 2 (.lit 1000) (.lit 100000000))))) (.v 6)), (.add (.sub (.lit 0) (.sw (.v 14) 0 (.lit 10) (.sw (.v 14) 1 (.lit 100) (.sw (.v 14) 2 (.lit 1000) (.lit 100000000))))) (.v 16)), (.add (.sub (.lit 0) (.sw (.v 14) 0 (.lit 10) (.sw (.v 14) 1 (.lit 100) (.sw (.v 14) 2 (.lit 1000) (.lit 100000000))))) (.v 18))] 2
(.call 16 [(.add (.sub (.lit 0) (.sw (.v 2) 0 (.lit 10) (.sw (.v 2) 1 (.lit 100) (.sw (.v 2) 2 (.lit 1000) (.lit 100000000))))) (.v 4)), (.add (.sub (.lit 0) (.sw (.v 2) 0 (.lit 10) (.sw (.v 2) 1 (.lit 100) (.sw (.v 2) 2 (.lit 1000) (.lit 100000000))))) (.v 6)), (.add (.sub (.lit 0) (.sw (.v 8) 0 (.lit 10) (.sw (.v 8) 1 (.lit 100) (.sw (.v 8) 2 (.lit 1000) (.lit 100000000))))) (.v 10)), (.add (.sub (.lit 0) (.sw (.v 8) 0 (.lit 10) (.sw (.v 8) 1 (.lit 100) (.sw (.v 8) 2 (.lit 1000) (.lit 100000000))))) (.v 12))] 2
(.call 17 [(.add (.sub (.lit 0) (.sw (.v 2) 0 (.lit 10) (.sw (.v 2) 1 (.lit 100) (.sw (.v 2) 2 (.lit 1000) (.lit 100000000))))) (.v 4)), (.add (.sub (.lit 0) (.sw (.v 2) 0 (.lit 10) (.sw (.v 2) 1 (.lit 100) (.sw (.v 2) 2 (.lit 1000) (.lit 100000000))))) (.v 6)), (.add (.sub (.lit 0) (.sw (.v 2) 0 (.lit 10) (.sw (.v 2) 1 (.lit 100) (.sw (.v 2) 2 (.lit 1000) (.lit 100000000))))) (.v 4)), (.add (.sub (.lit 0) (.sw (.v 2) 0 (.lit 10) (.sw (.v 2) 1 (.lit 100) (.sw (.v 2) 2 (.lit 1000) (.lit 100000000))))) (.v 6))] 2
(.ite (.and (.and (.and (.and (.and (.and (.and (.and (.and (.and (.and (.eq (.v 21) (.lit 0)) (.eq (.v 23) (.lit 0))) (.eq (.v 25) (.lit 0))) (.eq (.v 27) (.lit 0))) (.eq (.v 29) (.lit 0))) (.eq (.v 31) (.lit 0))) (.eq (.v 20) (.v 22))) (.le (.v 26) (.add (.v 20) (.v 24)))) (.le (.v 28) (.v 20))) (.le (.mul (.lit 2) (.v 20)) (.add (.mul (.lit 3) (.v 28)) (.lit 1)))) (.eq (.v 30) (.lit 0))) (.iff (.eq (.v 20) (.lit 0)) (.and (.eq (.add (.sub (.lit 0) (.sw (.v 2) 0 (.lit 10) (.sw (.v 2) 1 (.lit 100) (.sw (.v 2) 2 (.lit 1000) (.lit 100000000))))) (.v 4)) (.add (.sub (.lit 0) (.sw (.v 8) 0 (.lit 10) (.sw (.v 8) 1 (.lit 100) (.sw (.v 8) 2 (.lit 1000) (.lit 100000000))))) (.v 10))) (.eq (.add (.sub (.lit 0) (.sw (.v 2) 0 (.lit 10) (.sw (.v 2) 1 (.lit 100) (.sw (.v 2) 2 (.lit 1000) (.lit 100000000))))) (.v 6)) (.add (.sub (.lit 0) (.sw (.v 8) 0 (.lit 10) (.sw (.v 8) 1 (.lit 100) (.sw (.v 8) 2 (.lit 1000) (.lit 100000000))))) (.v 12))))))
 (.call 7 [] 1
 (.leaf ((.bool (.lit true)), [some (73, [(.sls 0 (.mn (.v 0) (.lit 600)) (.v 1)), (.int .i64 (.v 19))]), some (26, [(.int .i64 (.add (.sub (.lit 0) (.sw (.v 2) 0 (.lit 10) (.sw (.v 2) 1 (.lit 100) (.sw (.v 2) 2 (.lit 1000) (.lit 100000000))))) (.v 4))), (.int .i64 (.add (.sub (.lit 0) (.sw (.v 2) 0 (.lit 10) (.sw (.v 2) 1 (.lit 100) (.sw (.v 2) 2 (.lit 1000) (.lit 100000000))))) (.v 6)))]), some (3, [(.int .i64 (.lit 10)), (.int .i64 (.lit 100)), (.int .i64 (.lit 1000)), (.int .i64 (.lit 100000000))]), some (26, [(.int .i64 (.add (.sub (.lit 0) (.sw (.v 8) 0 (.lit 10) (.sw (.v 8) 1 (.lit 100) (.sw (.v 8) 2 (.lit 1000) (.lit 100000000))))) (.v 10))), (.int .i64 (.add (.sub (.lit 0) (.sw (.v 8) 0 (.lit 10) (.sw (.v 8) 1 (.lit 100) (.sw (.v 8) 2 (.lit 1000) (.lit 100000000))))) (.v 12)))]), some (3, [(.int .i64 (.lit 10)), (.int .i64 (.lit 100)), (.int .i64 (.lit 1000)), (.int .i64 (.lit 100000000))]), some (26, [(.int .i64 (.add (.sub (.lit 0) (.sw (.v 14) 0 (.lit 10) (.sw (.v 14) 1 (.lit 100) (.sw (.v 14) 2 (.lit 1000) (.lit 100000000))))) (.v 16))), (.int .i64 (.add (.sub (.lit 0) (.sw (.v 14) 0 (.lit 10) (.sw (.v 14) 1 (.lit 100) (.sw (.v 14) 2 (.lit 1000) (.lit 100000000))))) (.v 18)))]), some (3, [(.int .i64 (.lit 10)), (.int .i64 (.lit 100)), (.int .i64 (.lit 1000)), (.int .i64 (.lit 100000000))]), some (26, [(.int .i64 (.add (.sub (.lit 0) (.sw (.v 2) 0 (.lit 10) (.sw (.v 2) 1 (.lit 100) (.sw (.v 2) 2 (.lit 1000) (.lit 100000000))))) (.v 4))), (.int .i64 (.add (.sub (.lit 0) (.sw (.v 2) 0 (.lit 10) (.sw (.v 2) 1 (.lit 100) (.sw (.v 2) 2 (.lit 1000) (.lit 100000000))))) (.v 6)))]), some (26, [(.int .i64 (.add (.sub (.lit 0) (.sw (.v 8) 0 (.lit 10) (.sw (.v 8) 1 (.lit 100) (.sw (.v 8) 2 (.lit 1000) (.lit 100000000))))) (.v 10))), (.int .i64 (.add (.sub (.lit 0) (.sw (.v 8) 0 (.lit 10) (.sw (.v 8) 1 (.lit 100) (.sw (.v 8) 2 (.lit 1000) (.lit 100000000))))) (.v 12)))]), some (26, [(.int .i64 (.add (.sub (.lit 0) (.sw (.v 14) 0 (.lit 10) (.sw (.v 14) 1 (.lit 100) (.sw (.v 14) 2 (.lit 1000) (.lit 100000000))))) (.v 16))), (.int .i64 (.add (.sub (.lit 0) (.sw (.v 14) 0 (.lit 10) (.sw (.v 14) 1 (.lit 100) (.sw (.v 14) 2 (.lit 1000) (.lit 100000000))))) (.v 18)))])], [9, 8, 7, 9, 8, 7, 5, 0, 0, 0, 6, 5, 3, 0, 0, 0, 4, 3, 1, 0, 0, 0, 2, 1, 0]))
 )
 (.leaf ((.bool (.lit false)), [some (73, [(.sls 0 (.mn (.v 0) (.lit 600)) (.v 1)), (.int .i64 (.v 19))]), some (26, [(.int .i64 (.add (.sub (.lit 0) (.sw (.v 2) 0 (.lit 10) (.sw (.v 2) 1 (.lit 100) (.sw (.v 2) 2 (.lit 1000) (.lit 100000000))))) (.v 4))), (.int .i64 (.add (.sub (.lit 0) (.sw (.v 2) 0 (.lit 10) (.sw (.v 2) 1 (.lit 100) (.sw (.v 2) 2 (.lit 1000) (.lit 100000000))))) (.v 6)))]), some (3, [(.int .i64 (.lit 10)), (.int .i64 (.lit 100)), (.int .i64 (.lit 1000)), (.int .i64 (.lit 100000000))]), some (26, [(.int .i64 (.add (.sub (.lit 0) (.sw (.v 8) 0 (.lit 10) (.sw (.v 8) 1 (.lit 100) (.sw (.v 8) 2 (.lit 1000) (.lit 100000000))))) (.v 10))), (.int .i64 (.add (.sub (.lit 0) (.sw (.v 8) 0 (.lit 10) (.sw (.v 8) 1 (.lit 100) (.sw (.v 8) 2 (.lit 1000) (.lit 100000000))))) (.v 12)))]), some (3, [(.int .i64 (.lit 10)), (.int .i64 (.lit 100)), (.int .i64 (.lit 1000)), (.int .i64 (.lit 100000000))]), some (26, [(.int .i64 (.add (.sub (.lit 0) (.sw (.v 14) 0 (.lit 10) (.sw (.v 14) 1 (.lit 100) (.sw (.v 14) 2 (.lit 1000) (.lit 100000000))))) (.v 16))), (.int .i64 (.add (.sub (.lit 0) (.sw (.v 14) 0 (.lit 10) (.sw (.v 14) 1 (.lit 100) (.sw (.v 14) 2 (.lit 1000) (.lit 100000000))))) (.v 18)))]), some (3, [(.int .i64 (.lit 10)), (.int .i64 (.lit 100)), (.int .i64 (.lit 1000)), (.int .i64 (.lit 100000000))]), some (26, [(.int .i64 (.add (.sub (.lit 0) (.sw (.v 2) 0 (.lit 10) (.sw (.v 2) 1 (.lit 100) (.sw (.v 2) 2 (.lit 1000) (.lit 100000000))))) (.v 4))), (.int .i64 (.add (.sub (.lit 0) (.sw (.v 2) 0 (.lit 10) (.sw (.v 2) 1 (.lit 100) (.sw (.v 2) 2 (.lit 1000) (.lit 100000000))))) (.v 6)))]), some (26, [(.int .i64 (.add (.sub (.lit 0) (.sw (.v 8) 0 (.lit 10) (.sw (.v 8) 1 (.lit 100) (.sw (.v 8) 2 (.lit 1000) (.lit 100000000))))) (.v 10))), (.int .i64 (.add (.sub (.lit 0) (.sw (.v 8) 0 (.lit 10) (.sw (.v 8) 1 (.lit 100) (.sw (.v 8) 2 (.lit 1000) (.lit 100000000))))) (.v 12)))]), some (26, [(.int .i64 (.add (.sub (.lit 0) (.sw (.v 14) 0 (.lit 10) (.sw (.v 14) 1 (.lit 100) (.sw (.v 14) 2 (.lit 1000) (.lit 100000000))))) (.v 16))), (.int .i64 (.add (.sub (.lit 0) (.sw (.v 14) 0 (.lit 10) (.sw (.v 14) 1 (.lit 100) (.sw (.v 14) 2 (.lit 1000) (.lit 100000000))))) (.v 18)))])], [9, 8, 7, 9, 8, 7, 5, 0, 0, 0, 6, 5, 3, 0, 0, 0, 4, 3, 1, 0, 0, 0, 2, 1, 0]))
)
)
)
)
)
)
)
)
)
)
)
)
)
)
)
)
theorem tree_eq : evFn Try.prog (rowCtx tab) 60 12 4 [.sls 0 (.v 0) (.v 1)] [] (rowFx []) 2 = tree := by kernel_rfl

set_option maxHeartbeats 4000000 in
theorem plain (l c : Int) : T.okD f24F LTrue [l, c] tree := by
  simp [tree, T.okD, LTrue, denB, den, f24F, gDist, gBox, gSane, fit1, fit2, fit3, a0, a1, a2, a3]
  have hm : ∀ v : Int, 10 ≤ (if v = 0 then (10 : Int) else if v = 1 then 100 else if v = 2 then 1000 else 100000000) ∧ (if v = 0 then (10 : Int) else if v = 1 then 100 else if v = 2 then 1000 else 100000000) ≤ 100000000 := by
    intro v; (repeat' split) <;> omega
  intro v _ _ x hx hx' _ y hy hy' _ v2 _ _ x2 hx2 hx2' _ y2 hy2 hy2' _ v3 _ _ x3 hx3 hx3' _ y3 hy3 hy3' _
  have m1 := hm v
  have m2 := hm v2
  have m3 := hm v3
  generalize (if v = 0 then (10 : Int) else if v = 1 then 100 else if v = 2 then 1000 else 100000000) = M1 at *
  generalize (if v2 = 0 then (10 : Int) else if v2 = 1 then 100 else if v2 = 2 then 1000 else 100000000) = M2 at *
  generalize (if v3 = 0 then (10 : Int) else if v3 = 1 then 100 else if v3 = 2 then 1000 else 100000000) = M3 at *
  clear hm
  have p1 : -100000000 ≤ -M1 + x ∧ -M1 + x ≤ 100000000 := by omega
  have p2 : -100000000 ≤ -M1 + y ∧ -M1 + y ≤ 100000000 := by omega
  have q1 : -100000000 ≤ -M2 + x2 ∧ -M2 + x2 ≤ 100000000 := by omega
  have q2 : -100000000 ≤ -M2 + y2 ∧ -M2 + y2 ≤ 100000000 := by omega
  have r1 : -100000000 ≤ -M3 + x3 ∧ -M3 + x3 ≤ 100000000 := by omega
  have r2 : -100000000 ≤ -M3 + y3 ∧ -M3 + y3 ≤ 100000000 := by omega
  generalize -M1 + x = px at *
  generalize -M1 + y = py at *
  generalize -M2 + x2 = qx at *
  generalize -M2 + y2 = qy at *
  generalize -M3 + x3 = rx at *
  generalize -M3 + y3 = ry at *
  clear hx hx' hy hy' hx2 hx2' hy2 hy2' hx3 hx3' hy3 hy3' m1 m2 m3
  have o1 : okPt px py = true := decide_eq_true (by omega)
  have o2 : okPt qx qy = true := decide_eq_true (by omega)
  have o3 : okPt rx ry = true := decide_eq_true (by omega)
  simp only [o1, o2, o3, and_self, if_true]
  have b1 := sqS_bd (a := px) (b := py) (c := qx) (d := qy) (by omega) (by omega)
  have b2 := sqS_bd (a := qx) (b := qy) (c := rx) (d := ry) (by omega) (by omega)
  have b3 := sqS_bd (a := px) (b := py) (c := rx) (d := ry) (by omega) (by omega)
  have e0 : sqS px py px py = 0 := by unfold sqS; simp
  have e1 : sqS qx qy px py = sqS px py qx qy := by unfold sqS; grind
  obtain ⟨A0, A1, A2⟩ := upRoot_spec b1.1 (by omega)
  obtain ⟨C0, C1, C2⟩ := upRoot_spec b2.1 (by omega)
  obtain ⟨D0, D1, D2⟩ := upRoot_spec b3.1 (by omega)
  have z0 : upRoot 0 = 0 := by
    obtain ⟨Z0, Z1, Z2⟩ := upRoot_spec (n := 0) (by omega) (by omega)
    have := Z2 0 (by omega) (by omega); omega
  have tri : upRoot (sqS px py rx ry) ≤ upRoot (sqS px py qx qy) + upRoot (sqS qx qy rx ry) := by
    apply D2 _ (by omega)
    have t := tri_sq (u := px - qx) (v := py - qy) (s := qx - rx) (t := qy - ry) A0 C0 A1 C1
    have e : sqS px py rx ry = (px - qx + (qx - rx)) * (px - qx + (qx - rx)) + (py - qy + (qy - ry)) * (py - qy + (qy - ry)) := by unfold sqS; grind
    rw [e]; exact t
  have ab : ∀ x : Int, absS x = max x (-x) := by intro x; unfold absS; split <;> omega
  have m0 : 0 ≤ boxS px py qx qy ∧ -boxS px py qx qy ≤ px - qx ∧ px - qx ≤ boxS px py qx qy ∧ -boxS px py qx qy ≤ py - qy ∧ py - qy ≤ boxS px py qx qy ∧ (boxS px py qx qy = px - qx ∨ boxS px py qx qy = -(px - qx) ∨ boxS px py qx qy = py - qy ∨ boxS px py qx qy = -(py - qy)) := by
    unfold boxS; simp only [ab]; omega
  have mA : boxS px py qx qy ≤ upRoot (sqS px py qx qy) := by
    apply le_of_sq A0
    have n1 := sq_nn (px - qx)
    have n2 := sq_nn (py - qy)
    have hs : sqS px py qx qy = (px - qx) * (px - qx) + (py - qy) * (py - qy) := rfl
    obtain ⟨_, _, _, _, _, h | h | h | h⟩ := m0
    · rw [h]; omega
    · rw [h, Int.neg_mul_neg]; omega
    · rw [h]; omega
    · rw [h, Int.neg_mul_neg]; omega
  have hA : upRoot (sqS px py qx qy) ≤ (3 * boxS px py qx qy + 1) / 2 := by
    apply A2 _ (by omega)
    exact half_sq m0.1 ⟨m0.2.1, m0.2.2.1⟩ ⟨m0.2.2.2.1, m0.2.2.2.2.1⟩ (by omega)
  have hz : upRoot (sqS px py qx qy) = 0 ↔ px = qx ∧ py = qy := by
    constructor
    · intro h
      rw [h] at A1
      have := sq_zero (x := px - qx) (y := py - qy) (by have hs : sqS px py qx qy = (px - qx) * (px - qx) + (py - qy) * (py - qy) := rfl; omega)
      omega
    · rintro ⟨rfl, rfl⟩
      rw [e0, z0]
  simp only [e0, e1, z0]
  refine ⟨rfl, rfl, rfl, rfl, rfl, rfl, trivial, tri, mA, ?_, rfl, ?_⟩
  · show 2 * upRoot (sqS px py qx qy) ≤ 3 * boxS px py qx qy + 1
    omega
  · show decide (upRoot (sqS px py qx qy) = 0) = _
    rw [Bool.eq_iff_iff]
    simp only [Bool.and_eq_true, decide_eq_true_eq]
    exact hz
theorem walk (a0 : Option Addr) (len0 cap0 : Nat) (z0 : List Int) (w : World) (w0 : IsRow .i64 w a0 len0 cap0 z0) :
    Calls Try.prog 4 #[.slice a0 len0 cap0] w fun e w' => e = .returned (.bool true) ∧ Below w.heap.size w w' :=
  row_law w0 (l := tab) ⟨dist_ok, box_ok, sane03_ok, trivial⟩ (by kernel_rfl) tree_eq (r := []) (plain _ _) rfl (fxNil _) rfl
end Go.Proofs.Ythhaeaiheidpoaa.frameDistances
