/- 'dynpos/dynposlaw03.FrameLimits': the tree of its walk, and that each of its leaves is true. -/
import Derived.Test.YthhaeaiheidpoaaF24E
import Derived.Test.YthhaeaiheidpoaaF24S
import Derived.Test.YthhaeaiheidpoaaSrc
namespace Go.Proofs.Ythhaeaiheidpoaa.frameLimits
open Go.RowKit Ev
set_option linter.unusedSimpArgs false
set_option linter.unusedVariables false
def tab : List (FuncId × PC) := [(24, cAdd), (20, cBox), (18, cSane)]
def tree : T Leaf :=
(.call 900 [(.lit 4), (.mn (.v 0) (.lit 600)), (.lit 0)] 2
(.call 900 [(.add (.sub (.sw (.v 2) 0 (.lit 10) (.sw (.v 2) 1 (.lit 100) (.sw (.v 2) 2 (.lit 1000) (.lit 100000000)))) (.sub (.lit 0) (.sw (.v 2) 0 (.lit 10) (.sw (.v 2) 1 (.lit 100) (.sw (.v 2) 2 (.lit 1000) (.lit 100000000)))))) (.lit 1)), (.mn (.v 0) (.lit 600)), (.v 3)] 2
(.call 900 [(.add (.sub (.sw (.v 2) 0 (.lit 10) (.sw (.v 2) 1 (.lit 100) (.sw (.v 2) 2 (.lit 1000) (.lit 100000000)))) (.sub (.lit 0) (.sw (.v 2) 0 (.lit 10) (.sw (.v 2) 1 (.lit 100) (.sw (.v 2) 2 (.lit 1000) (.lit 100000000)))))) (.lit 1)), (.mn (.v 0) (.lit 600)), (.v 5)] 2
(.call 900 [(.lit 4), (.mn (.v 0) (.lit 600)), (.v 7)] 2
(.call 900 [(.add (.sub (.sw (.v 8) 0 (.lit 10) (.sw (.v 8) 1 (.lit 100) (.sw (.v 8) 2 (.lit 1000) (.lit 100000000)))) (.sub (.lit 0) (.sw (.v 8) 0 (.lit 10) (.sw (.v 8) 1 (.lit 100) (.sw (.v 8) 2 (.lit 1000) (.lit 100000000)))))) (.lit 1)), (.mn (.v 0) (.lit 600)), (.v 9)] 2
(.call 900 [(.add (.sub (.sw (.v 8) 0 (.lit 10) (.sw (.v 8) 1 (.lit 100) (.sw (.v 8) 2 (.lit 1000) (.lit 100000000)))) (.sub (.lit 0) (.sw (.v 8) 0 (.lit 10) (.sw (.v 8) 1 (.lit 100) (.sw (.v 8) 2 (.lit 1000) (.lit 100000000)))))) (.lit 1)), (.mn (.v 0) (.lit 600)), (.v 11)] 2
(.call 900 [(.lit 4), (.mn (.v 0) (.lit 600)), (.v 13)] 2
(.call 900 [(.add (.sub (.sw (.v 14) 0 (.lit 10) (.sw (.v 14) 1 (.lit 100) (.sw (.v 14) 2 (.lit 1000) (.lit 100000000)))) (.sub (.lit 0) (.sw (.v 14) 0 (.lit 10) (.sw (.v 14) 1 (.lit 100) (.sw (.v 14) 2 (.lit 1000) (.lit 100000000)))))) (.lit 1)), (.mn (.v 0) (.lit 600)), (.v 15)] 2
(.call 900 [(.add (.sub (.sw (.v 14) 0 (.lit 10) (.sw (.v 14) 1 (.lit 100) (.sw (.v 14) 2 (.lit 1000) (.lit 100000000)))) (.sub (.lit 0) (.sw (.v 14) 0 (.lit 10) (.sw (.v 14) 1 (.lit 100) (.sw (.v 14) 2 (.lit 1000) (.lit 100000000)))))) (.lit 1)), (.mn (.v 0) (.lit 600)), (.v 17)] 2
(.call 14 [(.add (.sub (.lit 0) (.sw (.v 2) 0 (.lit 10) (.sw (.v 2) 1 (.lit 100) (.sw (.v 2) 2 (.lit 1000) (.lit 100000000))))) (.v 4)), (.add (.sub (.lit 0) (.sw (.v 2) 0 (.lit 10) (.sw (.v 2) 1 (.lit 100) (.sw (.v 2) 2 (.lit 1000) (.lit 100000000))))) (.v 6)), (.add (.sub (.lit 0) (.sw (.v 8) 0 (.lit 10) (.sw (.v 8) 1 (.lit 100) (.sw (.v 8) 2 (.lit 1000) (.lit 100000000))))) (.v 10)), (.add (.sub (.lit 0) (.sw (.v 8) 0 (.lit 10) (.sw (.v 8) 1 (.lit 100) (.sw (.v 8) 2 (.lit 1000) (.lit 100000000))))) (.v 12))] 3
(.call 14 [(.add (.sub (.lit 0) (.sw (.v 8) 0 (.lit 10) (.sw (.v 8) 1 (.lit 100) (.sw (.v 8) 2 (.lit 1000) (.lit 100000000))))) (.v 10)), (.add (.sub (.lit 0) (.sw (.v 8) 0 (.lit 10) (.sw (.v 8) 1 (.lit 100) (.sw (.v 8) 2 (.lit 1000) (.lit 100000000))))) (.v 12)), (.add (.sub (.lit 0) (.sw (.v 2) 0 (.lit 10) (.sw (.v 2) 1 (.lit 100) (.sw (.v 2) 2 (.lit 1000) (.lit 100000000))))) (.v 4)), (.add (.sub (.lit 0) (.sw (.v 2) 0 (.lit 10) (.sw (.v 2) 1 (.lit 100) (.sw (.v 2) 2 (.lit 1000) (.lit 100000000))))) (.v 6))] 3
(.call 16 [(.add (.sub (.lit 0) (.sw (.v 2) 0 (.lit 10) (.sw (.v 2) 1 (.lit 100) (.sw (.v 2) 2 (.lit 1000) (.lit 100000000))))) (.v 4)), (.add (.sub (.lit 0) (.sw (.v 2) 0 (.lit 10) (.sw (.v 2) 1 (.lit 100) (.sw (.v 2) 2 (.lit 1000) (.lit 100000000))))) (.v 6)), (.add (.sub (.lit 0) (.sw (.v 8) 0 (.lit 10) (.sw (.v 8) 1 (.lit 100) (.sw (.v 8) 2 (.lit 1000) (.lit 100000000))))) (.v 10)), (.add (.sub (.lit 0) (.sw (.v 8) 0 (.lit 10) (.sw (.v 8) 1 (.lit 100) (.sw (.v 8) 2 (.lit 1000) (.lit 100000000))))) (.v 12))] 2
(.call 16 [(.add (.sub (.lit 0) (.sw (.v 8) 0 (.lit 10) (.sw (.v 8) 1 (.lit 100) (.sw (.v 8) 2 (.lit 1000) (.lit 100000000))))) (.v 10)), (.add (.sub (.lit 0) (.sw (.v 8) 0 (.lit 10) (.sw (.v 8) 1 (.lit 100) (.sw (.v 8) 2 (.lit 1000) (.lit 100000000))))) (.v 12)), (.add (.sub (.lit 0) (.sw (.v 14) 0 (.lit 10) (.sw (.v 14) 1 (.lit 100) (.sw (.v 14) 2 (.lit 1000) (.lit 100000000))))) (.v 16)), (.add (.sub (.lit 0) (.sw (.v 14) 0 (.lit 10) (.sw (.v 14) 1 (.lit 100) (.sw (.v 14) 2 (.lit 1000) (.lit 100000000))))) (.v 18))] 2
(.call 16 [(.add (.sub (.lit 0) (.sw (.v 2) 0 (.lit 10) (.sw (.v 2) 1 (.lit 100) (.sw (.v 2) 2 (.lit 1000) (.lit 100000000))))) (.v 4)), (.add (.sub (.lit 0) (.sw (.v 2) 0 (.lit 10) (.sw (.v 2) 1 (.lit 100) (.sw (.v 2) 2 (.lit 1000) (.lit 100000000))))) (.v 6)), (.add (.sub (.lit 0) (.sw (.v 14) 0 (.lit 10) (.sw (.v 14) 1 (.lit 100) (.sw (.v 14) 2 (.lit 1000) (.lit 100000000))))) (.v 16)), (.add (.sub (.lit 0) (.sw (.v 14) 0 (.lit 10) (.sw (.v 14) 1 (.lit 100) (.sw (.v 14) 2 (.lit 1000) (.lit 100000000))))) (.v 18))] 2
(.ite (.and (.and (.and (.and (.and (.and (.and (.and (.eq (.v 20) (.v 23)) (.eq (.v 21) (.v 24))) (.eq (.v 22) (.v 25))) (.iff (.eq (.v 22) (.lit 0)) (.and (.and (.and (.le (.add (.add (.sub (.lit 0) (.sw (.v 2) 0 (.lit 10) (.sw (.v 2) 1 (.lit 100) (.sw (.v 2) 2 (.lit 1000) (.lit 100000000))))) (.v 4)) (.add (.sub (.lit 0) (.sw (.v 8) 0 (.lit 10) (.sw (.v 8) 1 (.lit 100) (.sw (.v 8) 2 (.lit 1000) (.lit 100000000))))) (.v 10))) (.lit 100000000)) (.le (.lit (-100000000)) (.add (.add (.sub (.lit 0) (.sw (.v 2) 0 (.lit 10) (.sw (.v 2) 1 (.lit 100) (.sw (.v 2) 2 (.lit 1000) (.lit 100000000))))) (.v 4)) (.add (.sub (.lit 0) (.sw (.v 8) 0 (.lit 10) (.sw (.v 8) 1 (.lit 100) (.sw (.v 8) 2 (.lit 1000) (.lit 100000000))))) (.v 10))))) (.le (.add (.add (.sub (.lit 0) (.sw (.v 2) 0 (.lit 10) (.sw (.v 2) 1 (.lit 100) (.sw (.v 2) 2 (.lit 1000) (.lit 100000000))))) (.v 6)) (.add (.sub (.lit 0) (.sw (.v 8) 0 (.lit 10) (.sw (.v 8) 1 (.lit 100) (.sw (.v 8) 2 (.lit 1000) (.lit 100000000))))) (.v 12))) (.lit 100000000))) (.le (.lit (-100000000)) (.add (.add (.sub (.lit 0) (.sw (.v 2) 0 (.lit 10) (.sw (.v 2) 1 (.lit 100) (.sw (.v 2) 2 (.lit 1000) (.lit 100000000))))) (.v 6)) (.add (.sub (.lit 0) (.sw (.v 8) 0 (.lit 10) (.sw (.v 8) 1 (.lit 100) (.sw (.v 8) 2 (.lit 1000) (.lit 100000000))))) (.v 12))))))) (.eq (.v 27) (.lit 0))) (.eq (.v 29) (.lit 0))) (.eq (.v 31) (.lit 0))) (.le (.v 30) (.add (.v 26) (.v 28)))) (.iff (.eq (.v 26) (.lit 0)) (.and (.eq (.add (.sub (.lit 0) (.sw (.v 2) 0 (.lit 10) (.sw (.v 2) 1 (.lit 100) (.sw (.v 2) 2 (.lit 1000) (.lit 100000000))))) (.v 4)) (.add (.sub (.lit 0) (.sw (.v 8) 0 (.lit 10) (.sw (.v 8) 1 (.lit 100) (.sw (.v 8) 2 (.lit 1000) (.lit 100000000))))) (.v 10))) (.eq (.add (.sub (.lit 0) (.sw (.v 2) 0 (.lit 10) (.sw (.v 2) 1 (.lit 100) (.sw (.v 2) 2 (.lit 1000) (.lit 100000000))))) (.v 6)) (.add (.sub (.lit 0) (.sw (.v 8) 0 (.lit 10) (.sw (.v 8) 1 (.lit 100) (.sw (.v 8) 2 (.lit 1000) (.lit 100000000))))) (.v 12))))))
 (.call 7 [] 1
 (.leaf ((.bool (.lit true)), [some (73, [(.sls 0 (.mn (.v 0) (.lit 600)) (.v 1)), (.int .i64 (.v 19))]), some (26, [(.int .i64 (.add (.sub (.lit 0) (.sw (.v 2) 0 (.lit 10) (.sw (.v 2) 1 (.lit 100) (.sw (.v 2) 2 (.lit 1000) (.lit 100000000))))) (.v 4))), (.int .i64 (.add (.sub (.lit 0) (.sw (.v 2) 0 (.lit 10) (.sw (.v 2) 1 (.lit 100) (.sw (.v 2) 2 (.lit 1000) (.lit 100000000))))) (.v 6)))]), some (3, [(.int .i64 (.lit 10)), (.int .i64 (.lit 100)), (.int .i64 (.lit 1000)), (.int .i64 (.lit 100000000))]), some (26, [(.int .i64 (.add (.sub (.lit 0) (.sw (.v 8) 0 (.lit 10) (.sw (.v 8) 1 (.lit 100) (.sw (.v 8) 2 (.lit 1000) (.lit 100000000))))) (.v 10))), (.int .i64 (.add (.sub (.lit 0) (.sw (.v 8) 0 (.lit 10) (.sw (.v 8) 1 (.lit 100) (.sw (.v 8) 2 (.lit 1000) (.lit 100000000))))) (.v 12)))]), some (3, [(.int .i64 (.lit 10)), (.int .i64 (.lit 100)), (.int .i64 (.lit 1000)), (.int .i64 (.lit 100000000))]), some (26, [(.int .i64 (.add (.sub (.lit 0) (.sw (.v 14) 0 (.lit 10) (.sw (.v 14) 1 (.lit 100) (.sw (.v 14) 2 (.lit 1000) (.lit 100000000))))) (.v 16))), (.int .i64 (.add (.sub (.lit 0) (.sw (.v 14) 0 (.lit 10) (.sw (.v 14) 1 (.lit 100) (.sw (.v 14) 2 (.lit 1000) (.lit 100000000))))) (.v 18)))]), some (3, [(.int .i64 (.lit 10)), (.int .i64 (.lit 100)), (.int .i64 (.lit 1000)), (.int .i64 (.lit 100000000))]), some (26, [(.int .i64 (.add (.sub (.lit 0) (.sw (.v 2) 0 (.lit 10) (.sw (.v 2) 1 (.lit 100) (.sw (.v 2) 2 (.lit 1000) (.lit 100000000))))) (.v 4))), (.int .i64 (.add (.sub (.lit 0) (.sw (.v 2) 0 (.lit 10) (.sw (.v 2) 1 (.lit 100) (.sw (.v 2) 2 (.lit 1000) (.lit 100000000))))) (.v 6)))]), some (26, [(.int .i64 (.add (.sub (.lit 0) (.sw (.v 8) 0 (.lit 10) (.sw (.v 8) 1 (.lit 100) (.sw (.v 8) 2 (.lit 1000) (.lit 100000000))))) (.v 10))), (.int .i64 (.add (.sub (.lit 0) (.sw (.v 8) 0 (.lit 10) (.sw (.v 8) 1 (.lit 100) (.sw (.v 8) 2 (.lit 1000) (.lit 100000000))))) (.v 12)))]), some (26, [(.int .i64 (.add (.sub (.lit 0) (.sw (.v 14) 0 (.lit 10) (.sw (.v 14) 1 (.lit 100) (.sw (.v 14) 2 (.lit 1000) (.lit 100000000))))) (.v 16))), (.int .i64 (.add (.sub (.lit 0) (.sw (.v 14) 0 (.lit 10) (.sw (.v 14) 1 (.lit 100) (.sw (.v 14) 2 (.lit 1000) (.lit 100000000))))) (.v 18)))]), some (26, [(.int .i64 (.v 20)), (.int .i64 (.v 21))]), some (26, [(.int .i64 (.v 23)), (.int .i64 (.v 24))])], [11, 11, 10, 10, 9, 8, 7, 9, 8, 7, 5, 0, 0, 0, 6, 5, 3, 0, 0, 0, 4, 3, 1, 0, 0, 0, 2, 1, 0]))
 )
 (.leaf ((.bool (.lit false)), [some (73, [(.sls 0 (.mn (.v 0) (.lit 600)) (.v 1)), (.int .i64 (.v 19))]), some (26, [(.int .i64 (.add (.sub (.lit 0) (.sw (.v 2) 0 (.lit 10) (.sw (.v 2) 1 (.lit 100) (.sw (.v 2) 2 (.lit 1000) (.lit 100000000))))) (.v 4))), (.int .i64 (.add (.sub (.lit 0) (.sw (.v 2) 0 (.lit 10) (.sw (.v 2) 1 (.lit 100) (.sw (.v 2) 2 (.lit 1000) (.lit 100000000))))) (.v 6)))]), some (3, [(.int .i64 (.lit 10)), (.int .i64 (.lit 100)), (.int .i64 (.lit 1000)), (.int .i64 (.lit 100000000))]), some (26, [(.int .i64 (.add (.sub (.lit 0) (.sw (.v 8) 0 (.lit 10) (.sw (.v 8) 1 (.lit 100) (.sw (.v 8) 2 (.lit 1000) (.lit 100000000))))) (.v 10))), (.int .i64 (.add (.sub (.lit 0) (.sw (.v 8) 0 (.lit 10) (.sw (.v 8) 1 (.lit 100) (.sw (.v 8) 2 (.lit 1000) (.lit 100000000))))) (.v 12)))]), some (3, [(.int .i64 (.lit 10)), (.int .i64 (.lit 100)), (.int .i64 (.lit 1000)), (.int .i64 (.lit 100000000))]), some (26, [(.int .i64 (.add (.sub (.lit 0) (.sw (.v 14) 0 (.lit 10) (.sw (.v 14) 1 (.lit 100) (.sw (.v 14) 2 (.lit 1000) (.lit 100000000))))) (.v 16))), (.int .i64 (.add (.sub (.lit 0) (.sw (.v 14) 0 (.lit 10) (.sw (.v 14) 1 (.lit 100) (.sw (.v 14) 2 (.lit 1000) (.lit 100000000))))) (.v 18)))]), some (3, [(.int .i64 (.lit 10)), (.int .i64 (.lit 100)), (.int .i64 (.lit 1000)), (.int .i64 (.lit 100000000))]), some (26, [(.int .i64 (.add (.sub (.lit 0) (.sw (.v 2) 0 (.lit 10) (.sw (.v 2) 1 (.lit 100) (.sw (.v 2) 2 (.lit 1000) (.lit 100000000))))) (.v 4))), (.int .i64 (.add (.sub (.lit 0) (.sw (.v 2) 0 (.lit 10) (.sw (.v 2) 1 (.lit 100) (.sw (.v 2) 2 (.lit 1000) (.lit 100000000))))) (.v 6)))]), some (26, [(.int .i64 (.add (.sub (.lit 0) (.sw (.v 8) 0 (.lit 10) (.sw (.v 8) 1 (.lit 100) (.sw (.v 8) 2 (.lit 1000) (.lit 100000000))))) (.v 10))), (.int .i64 (.add (.sub (.lit 0) (.sw (.v 8) 0 (.lit 10) (.sw (.v 8) 1 (.lit 100) (.sw (.v 8) 2 (.lit 1000) (.lit 100000000))))) (.v 12)))]), some (26, [(.int .i64 (.add (.sub (.lit 0) (.sw (.v 14) 0 (.lit 10) (.sw (.v 14) 1 (.lit 100) (.sw (.v 14) 2 (.lit 1000) (.lit 100000000))))) (.v 16))), (.int .i64 (.add (.sub (.lit 0) (.sw (.v 14) 0 (.lit 10) (.sw (.v 14) 1 (.lit 100) (.sw (.v 14) 2 (.lit 1000) (.lit 100000000))))) (.v 18)))]), some (26, [(.int .i64 (.v 20)), (.int .i64 (.v 21))]), some (26, [(.int .i64 (.v 23)), (.int .i64 (.v 24))])], [11, 11, 10, 10, 9, 8, 7, 9, 8, 7, 5, 0, 0, 0, 6, 5, 3, 0, 0, 0, 4, 3, 1, 0, 0, 0, 2, 1, 0]))
)
)
)
)
)
)
)
)
)
)
)
)
)
)
)
theorem tree_eq : evFn Try.prog (rowCtx tab) 60 12 6 [.sls 0 (.v 0) (.v 1)] [] (rowFx []) 2 = tree := by kernel_rfl

set_option maxHeartbeats 4000000 in
theorem plain (l c : Int) : T.okD f24F LTrue [l, c] tree := by
  simp [tree, T.okD, LTrue, denB, den, f24F, gAdd, gBox, gSane, fit1, fit2, fit3, a0, a1, a2, a3]
  have hm : ∀ v : Int, 10 ≤ (if v = 0 then (10 : Int) else if v = 1 then 100 else if v = 2 then 1000 else 100000000) ∧ (if v = 0 then (10 : Int) else if v = 1 then 100 else if v = 2 then 1000 else 100000000) ≤ 100000000 := by
    intro v; (repeat' split) <;> omega
  intro v _ _ x hx hx' _ y hy hy' _ v2 _ _ x2 hx2 hx2' _ y2 hy2 hy2' _ v3 _ _ x3 hx3 hx3' _ y3 hy3 hy3' _
  have m1 := hm v
  have m2 := hm v2
  have m3 := hm v3
  generalize (if v = 0 then (10 : Int) else if v = 1 then 100 else if v = 2 then 1000 else 100000000) = M1 at *
  generalize (if v2 = 0 then (10 : Int) else if v2 = 1 then 100 else if v2 = 2 then 1000 else 100000000) = M2 at *
  generalize (if v3 = 0 then (10 : Int) else if v3 = 1 then 100 else if v3 = 2 then 1000 else 100000000) = M3 at *
  clear hm
  have p1 : -100000000 ≤ -M1 + x ∧ -M1 + x ≤ 100000000 := by omega
  have p2 : -100000000 ≤ -M1 + y ∧ -M1 + y ≤ 100000000 := by omega
  have q1 : -100000000 ≤ -M2 + x2 ∧ -M2 + x2 ≤ 100000000 := by omega
  have q2 : -100000000 ≤ -M2 + y2 ∧ -M2 + y2 ≤ 100000000 := by omega
  have r1 : -100000000 ≤ -M3 + x3 ∧ -M3 + x3 ≤ 100000000 := by omega
  have r2 : -100000000 ≤ -M3 + y3 ∧ -M3 + y3 ≤ 100000000 := by omega
  generalize -M1 + x = px at *
  generalize -M1 + y = py at *
  generalize -M2 + x2 = qx at *
  generalize -M2 + y2 = qy at *
  generalize -M3 + x3 = rx at *
  generalize -M3 + y3 = ry at *
  have o1 : okPt px py = true := decide_eq_true (by omega)
  have o2 : okPt qx qy = true := decide_eq_true (by omega)
  have o3 : okPt rx ry = true := decide_eq_true (by omega)
  have cm : addS qx qy px py = addS px py qx qy := by
    unfold addS
    rw [Int.add_comm qx px, Int.add_comm qy py]
    simp [o1, o2]
  have ab : ∀ x : Int, absS x = max x (-x) := by intro x; unfold absS; split <;> omega
  rw [cm]
  refine ⟨rfl, rfl, rfl, ?_, ?_⟩
  · rw [Bool.eq_iff_iff]
    simp only [Bool.and_eq_true, decide_eq_true_eq]
    unfold addS
    by_cases hs : okPt (px + qx) (py + qy) = true
    · have := of_decide_eq_true hs
      simp [o1, o2, hs]; omega
    · have : ¬ (-100000000 ≤ px + qx ∧ px + qx ≤ 100000000 ∧ -100000000 ≤ py + qy ∧ py + qy ≤ 100000000) := fun h => hs (decide_eq_true h)
      simp [o1, o2, hs]; omega
  · simp only [o1, o2, o3, and_self, if_true, boxS, ab]
    simp
    rw [Bool.eq_iff_iff]
    simp only [Bool.and_eq_true, decide_eq_true_eq]
    omega
theorem walk (a0 : Option Addr) (len0 cap0 : Nat) (z0 : List Int) (w : World) (w0 : IsRow .i64 w a0 len0 cap0 z0) :
    Calls Try.prog 6 #[.slice a0 len0 cap0] w fun e w' => e = .returned (.bool true) ∧ Below w.heap.size w w' :=
  row_law w0 (l := tab) ⟨add_ok, box_ok, sane03_ok, trivial⟩ (by kernel_rfl) tree_eq (r := []) (plain _ _) rfl (fxNil _) rfl
end Go.Proofs.Ythhaeaiheidpoaa.frameLimits
