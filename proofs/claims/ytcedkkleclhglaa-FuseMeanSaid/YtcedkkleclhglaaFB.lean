/- Small functions of the chapter: their contracts. -/
import Derived.Test.YtcedkkleclhglaaFA
set_option linter.unusedSimpArgs false
set_option linter.unusedVariables false
set_option maxRecDepth 100000
namespace Go.Proofs.Ytcedkkleclhglaa
open Go.RowKit Ev
def hints_FB : FuncId → Nat → Option Hint := fun _ _ => none
def c_fix : MC := { args := [.one (.ptr 0 0), .one (.num (some .i64))], blks := [(0, 51, [.sls 0, .num (some .i64)])], rg := [(0, 60), (0, 600), (0, 9223372036854775807), (0, 600)], dom := [.le (.v 3) (.v 0)], res := [.agg [.num (some .i64), .num (some .i64), .num (some .i64), .num (some .i64)]], out := [(0, 51, [.slo 0 1, .num (some .i64)])], nn := 0, rng := [(0, 60), ((-30), 1000), ((-20), 5), (1, 200), (0, 600)], key := 11, clamp := true }
def t_fix : T (List E) :=
(.call 900 [(.lit 6), (.v 3), (.v 5)] 2
(.call 900 [(.lit 4), (.v 3), (.v 7)] 2
(.call 900 [(.lit 4), (.v 3), (.v 9)] 2
(.leaf [(.mx (.lit 0) (.mn (.lit 60) (.v 2))), (.sw (.v 6) 0 (.lit 0) (.sw (.v 6) 1 (.lit 0) (.sw (.v 6) 2 (.lit 1) (.sw (.v 6) 3 (.lit 20) (.sw (.v 6) 4 (.lit (-30)) (.lit 1000)))))), (.sw (.v 8) 0 (.lit 0) (.sw (.v 8) 1 (.lit 0) (.sw (.v 8) 2 (.lit 5) (.lit (-20))))), (.sw (.v 10) 0 (.lit 1) (.sw (.v 10) 1 (.lit 10) (.sw (.v 10) 2 (.lit 50) (.lit 200)))), (.mx (.lit 0) (.mn (.lit 600) (.v 11)))]))))
theorem t_fix_eq : c_fix.tree Try.prog (rowCtxE (exL en10) [] hints_FB) 60 12 25 = t_fix := by kernel_rfl
theorem t_fix_chk : t_fix.chk c_fix = true := by kernel_rfl
abbrev en11 : List En := (25, c_fix, t_fix) :: en10
theorem en11_con : EnCon en11 := EnCon.cons en10_con t_fix_eq (by kernel_rfl) (by kernel_rfl) (chk_det t_fix_chk)
theorem en11_kl : EnKl en11 = true := EnKl.cons en10_kl t_fix_chk (by kernel_rfl)
def c_weight : MC := { args := [.one (.num (some .i64))], blks := [], rg := [(1, 200)], dom := [], res := [.one (.num (some .i64))], out := [], nn := 0, rng := [(1, 1000000000)], key := 12, clamp := false }
def t_weight : T (List E) :=
(.leaf [(.mx (.lit 1) (.quo (.lit 1000000000) (.mul (.v 2) (.v 2))))])
theorem t_weight_eq : c_weight.tree Try.prog (rowCtxE (exL en11) [] hints_FB) 60 12 8 = t_weight := by kernel_rfl
theorem t_weight_chk : t_weight.chk c_weight = true := by kernel_rfl
abbrev en12 : List En := (8, c_weight, t_weight) :: en11
theorem en12_con : EnCon en12 := EnCon.cons en11_con t_weight_eq (by kernel_rfl) (by kernel_rfl) (chk_det t_weight_chk)
theorem en12_kl : EnKl en12 = true := EnKl.cons en11_kl t_weight_chk (by kernel_rfl)
def c_up : MC := { args := [.one (.num (some .i64)), .one (.num (some .i64))], blks := [], rg := [(1, 1000000000000), (1, 1000000000)], dom := [], res := [.one (.num (some .i64)), .one (.num (some .i64))], out := [], nn := 0, rng := [(0, 1000000000001), (0, 0)], key := 13, clamp := false }
def t_up : T (List E) :=
(.ite (.lt (.rem (.sub (.lit 0) (.v 2)) (.v 3)) (.lit 0))
(.leaf [(.sub (.lit 0) (.sub (.quo (.sub (.lit 0) (.v 2)) (.v 3)) (.lit 1))), (.lit 0)])
(.leaf [(.sub (.lit 0) (.quo (.sub (.lit 0) (.v 2)) (.v 3))), (.lit 0)]))
theorem t_up_eq : c_up.tree Try.prog (rowCtxE (exL en12) [] hints_FB) 60 12 27 = t_up := by kernel_rfl
theorem t_up_chk : t_up.chk c_up = true := by kernel_rfl
abbrev en13 : List En := (27, c_up, t_up) :: en12
theorem en13_con : EnCon en13 := EnCon.cons en12_con t_up_eq (by kernel_rfl) (by kernel_rfl) (chk_det t_up_chk)
theorem en13_kl : EnKl en13 = true := EnKl.cons en12_kl t_up_chk (by kernel_rfl)
def c_half : MC := { args := [.one (.num (some .i64)), .one (.num (some .i64))], blks := [], rg := [((-100000000000000000), 100000000000000000), (0, 10000000000000)], dom := [], res := [.one (.num (some .i64)), .one (.num (some .i64))], out := [], nn := 0, rng := [((-200000000000000000), 200000000000000000), (0, 16)], key := 14, clamp := false }
def t_half : T (List E) :=
(.ite (.or (.lt (.v 3) (.lit 1)) (.lt (.lit 1000000000) (.v 3)))
(.leaf [(.lit 0), (.lit 1)])
(.ite (.lt (.rem (.add (.mul (.lit 2) (.v 2)) (.v 3)) (.mul (.lit 2) (.v 3))) (.lit 0))
(.leaf [(.sub (.quo (.add (.mul (.lit 2) (.v 2)) (.v 3)) (.mul (.lit 2) (.v 3))) (.lit 1)), (.lit 0)])
(.leaf [(.quo (.add (.mul (.lit 2) (.v 2)) (.v 3)) (.mul (.lit 2) (.v 3))), (.lit 0)])))
theorem t_half_eq : c_half.tree Try.prog (rowCtxE (exL en13) [] hints_FB) 60 12 28 = t_half := by kernel_rfl
theorem t_half_chk : t_half.chk c_half = true := by kernel_rfl
abbrev en14 : List En := (28, c_half, t_half) :: en13
theorem en14_con : EnCon en14 := EnCon.cons en13_con t_half_eq (by kernel_rfl) (by kernel_rfl) (chk_det t_half_chk)
theorem en14_kl : EnKl en14 = true := EnKl.cons en13_kl t_half_chk (by kernel_rfl)
def c_box : MC := { args := [.agg [.num (some .i64), .num (some .i64)], .agg [.num (some .i64), .num (some .i64)]], blks := [], rg := [((-200000000000000000), 200000000000000000), ((-200000000000000000), 200000000000000000), ((-100000000), 100000000), ((-100000000), 100000000)], dom := [], res := [.one (.num (some .i64)), .one (.num (some .i64))], out := [], nn := 0, rng := [((-200000000), 200000000), (0, 16)], key := 15, clamp := false }
def t_box : T (List E) :=
(.ite (.not (.and (.le (.mx (.v 2) (.v 3)) (.lit 100000000)) (.le (.lit (-100000000)) (.mn (.v 2) (.v 3)))))
(.leaf [(.lit 0), (.lit 1)])
(.leaf [(.mx (.mx (.sub (.v 2) (.v 4)) (.sub (.v 4) (.v 2))) (.mx (.sub (.v 3) (.v 5)) (.sub (.v 5) (.v 3)))), (.lit 0)]))
theorem t_box_eq : c_box.tree Try.prog (rowCtxE (exL en14) [] hints_FB) 60 12 29 = t_box := by kernel_rfl
theorem t_box_chk : t_box.chk c_box = true := by kernel_rfl
abbrev en15 : List En := (29, c_box, t_box) :: en14
theorem en15_con : EnCon en15 := EnCon.cons en14_con t_box_eq (by kernel_rfl) (by kernel_rfl) (chk_det t_box_chk)
theorem en15_kl : EnKl en15 = true := EnKl.cons en14_kl t_box_chk (by kernel_rfl)
def c_halfR : MC := { args := [.one (.num (some .i64)), .one (.num (some .i64))], blks := [], rg := [((-1000000000), 1000000000), (1, 1000000000)], dom := [], res := [.one (.num (some .i64)), .one (.num (some .i64))], out := [], nn := 0, rng := [((-2000000000), 2000000000), (0, 0)], key := 16, clamp := false }
def t_halfR : T (List E) :=
(.ite (.lt (.rem (.add (.mul (.lit 2) (.v 2)) (.v 3)) (.mul (.lit 2) (.v 3))) (.lit 0))
(.leaf [(.sub (.quo (.add (.mul (.lit 2) (.v 2)) (.v 3)) (.mul (.lit 2) (.v 3))) (.lit 1)), (.lit 0)])
(.leaf [(.quo (.add (.mul (.lit 2) (.v 2)) (.v 3)) (.mul (.lit 2) (.v 3))), (.lit 0)]))
theorem t_halfR_eq : c_halfR.tree Try.prog (rowCtxE (exL en15) [] hints_FB) 60 12 24 = t_halfR := by kernel_rfl
theorem t_halfR_chk : t_halfR.chk c_halfR = true := by kernel_rfl
abbrev en16 : List En := (24, c_halfR, t_halfR) :: en15
theorem en16_con : EnCon en16 := EnCon.cons en15_con t_halfR_eq (by kernel_rfl) (by kernel_rfl) (chk_det t_halfR_chk)
theorem en16_kl : EnKl en16 = true := EnKl.cons en15_kl t_halfR_chk (by kernel_rfl)
end Go.Proofs.Ytcedkkleclhglaa
