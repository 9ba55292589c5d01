/- Small functions of the chapter: their contracts. -/
import Derived.Test.YtapdjkiekjdgdaaWA
set_option linter.unusedSimpArgs false
set_option linter.unusedVariables false
set_option maxRecDepth 100000
namespace Go.Proofs.Ytapdjkiekjdgdaa
open Go.RowKit Ev
def hints_WB : FuncId → Nat → Option Hint := fun _ _ => none
def c_list : MC := { args := [.one (.ptr 0 0)], blks := [(0, 65, [.sls 0, .num (some .i64)])], rg := [(0, 600), (0, 9223372036854775807), (0, 600)], dom := [.le (.v 2) (.v 0)], res := [.one (.slc 1 0 12 12)], out := [(0, 65, [.slo 0 0, .num (some .i64)]), (1, 3, [.num (some .i64), .num (some .i64), .num (some .i64), .num (some .i64), .num (some .i64), .num (some .i64), .num (some .i64), .num (some .i64), .num (some .i64), .num (some .i64), .num (some .i64), .num (some .i64)])], nn := 1, rng := [(0, 600), ((-1000), 1000), ((-1000), 1000), ((-1000), 1000), ((-1000), 1000), ((-1000), 1000), ((-1000), 1000), ((-1000), 1000), ((-1000), 1000), ((-1000), 1000), ((-1000), 1000), ((-1000), 1000), ((-1000), 1000)], key := 11, clamp := true }
def t_list : T (List E) :=
(.call 900 [(.lit 6), (.v 2), (.v 4)] 2
(.call 900 [(.lit 6), (.v 2), (.v 6)] 2
(.call 900 [(.lit 6), (.v 2), (.v 8)] 2
(.call 900 [(.lit 6), (.v 2), (.v 10)] 2
(.call 900 [(.lit 6), (.v 2), (.v 12)] 2
(.call 900 [(.lit 6), (.v 2), (.v 14)] 2
(.call 900 [(.lit 6), (.v 2), (.v 16)] 2
(.call 900 [(.lit 6), (.v 2), (.v 18)] 2
(.call 900 [(.lit 6), (.v 2), (.v 20)] 2
(.call 900 [(.lit 6), (.v 2), (.v 22)] 2
(.call 900 [(.lit 6), (.v 2), (.v 24)] 2
(.call 900 [(.lit 6), (.v 2), (.v 26)] 2
(.leaf [(.mx (.lit 0) (.mn (.lit 600) (.v 28))), (.sw (.v 5) 0 (.lit 0) (.sw (.v 5) 1 (.lit 100) (.sw (.v 5) 2 (.lit (-300)) (.sw (.v 5) 3 (.lit 700) (.sw (.v 5) 4 (.lit (-1000)) (.lit 1000)))))), (.sw (.v 7) 0 (.lit 0) (.sw (.v 7) 1 (.lit 100) (.sw (.v 7) 2 (.lit (-300)) (.sw (.v 7) 3 (.lit 700) (.sw (.v 7) 4 (.lit (-1000)) (.lit 1000)))))), (.sw (.v 9) 0 (.lit 0) (.sw (.v 9) 1 (.lit 100) (.sw (.v 9) 2 (.lit (-300)) (.sw (.v 9) 3 (.lit 700) (.sw (.v 9) 4 (.lit (-1000)) (.lit 1000)))))), (.sw (.v 11) 0 (.lit 0) (.sw (.v 11) 1 (.lit 100) (.sw (.v 11) 2 (.lit (-300)) (.sw (.v 11) 3 (.lit 700) (.sw (.v 11) 4 (.lit (-1000)) (.lit 1000)))))), (.sw (.v 13) 0 (.lit 0) (.sw (.v 13) 1 (.lit 100) (.sw (.v 13) 2 (.lit (-300)) (.sw (.v 13) 3 (.lit 700) (.sw (.v 13) 4 (.lit (-1000)) (.lit 1000)))))), (.sw (.v 15) 0 (.lit 0) (.sw (.v 15) 1 (.lit 100) (.sw (.v 15) 2 (.lit (-300)) (.sw (.v 15) 3 (.lit 700) (.sw (.v 15) 4 (.lit (-1000)) (.lit 1000)))))), (.sw (.v 17) 0 (.lit 0) (.sw (.v 17) 1 (.lit 100) (.sw (.v 17) 2 (.lit (-300)) (.sw (.v 17) 3 (.lit 700) (.sw (.v 17) 4 (.lit (-1000)) (.lit 1000)))))), (.sw (.v 19) 0 (.lit 0) (.sw (.v 19) 1 (.lit 100) (.sw (.v 19) 2 (.lit (-300)) (.sw (.v 19) 3 (.lit 700) (.sw (.v 19) 4 (.lit (-1000)) (.lit 1000)))))), (.sw (.v 21) 0 (.lit 0) (.sw (.v 21) 1 (.lit 100) (.sw (.v 21) 2 (.lit (-300)) (.sw (.v 21) 3 (.lit 700) (.sw (.v 21) 4 (.lit (-1000)) (.lit 1000)))))), (.sw (.v 23) 0 (.lit 0) (.sw (.v 23) 1 (.lit 100) (.sw (.v 23) 2 (.lit (-300)) (.sw (.v 23) 3 (.lit 700) (.sw (.v 23) 4 (.lit (-1000)) (.lit 1000)))))), (.sw (.v 25) 0 (.lit 0) (.sw (.v 25) 1 (.lit 100) (.sw (.v 25) 2 (.lit (-300)) (.sw (.v 25) 3 (.lit 700) (.sw (.v 25) 4 (.lit (-1000)) (.lit 1000)))))), (.sw (.v 27) 0 (.lit 0) (.sw (.v 27) 1 (.lit 100) (.sw (.v 27) 2 (.lit (-300)) (.sw (.v 27) 3 (.lit 700) (.sw (.v 27) 4 (.lit (-1000)) (.lit 1000))))))])))))))))))))
theorem t_list_eq : c_list.tree Try.prog (rowCtxE (exL en10) [] hints_WB) 60 12 29 = t_list := by kernel_rfl
theorem t_list_chk : t_list.chk c_list = true := by kernel_rfl
abbrev en11 : List En := (29, c_list, t_list) :: en10
theorem en11_con : EnCon en11 := EnCon.cons en10_con t_list_eq (by kernel_rfl) (by kernel_rfl) (chk_det t_list_chk)
theorem en11_kl : EnKl en11 = true := EnKl.cons en10_kl t_list_chk (by kernel_rfl)
def c_norm : MC := { args := [.one (.num (some .i64))], blks := [], rg := [((-7200), 7200)], dom := [], res := [.one (.num (some .i64))], out := [], nn := 0, rng := [(0, 3599)], key := 12, clamp := false }
def t_norm : T (List E) :=
(.ite (.lt (.rem (.v 2) (.lit 3600)) (.lit 0))
(.leaf [(.add (.rem (.v 2) (.lit 3600)) (.lit 3600))])
(.leaf [(.rem (.v 2) (.lit 3600))]))
theorem t_norm_eq : c_norm.tree Try.prog (rowCtxE (exL en11) [] hints_WB) 60 12 37 = t_norm := by kernel_rfl
theorem t_norm_chk : t_norm.chk c_norm = true := by kernel_rfl
abbrev en12 : List En := (37, c_norm, t_norm) :: en11
theorem en12_con : EnCon en12 := EnCon.cons en11_con t_norm_eq (by kernel_rfl) (by kernel_rfl) (chk_det t_norm_chk)
theorem en12_kl : EnKl en12 = true := EnKl.cons en11_kl t_norm_chk (by kernel_rfl)
def c_read : MC := { args := [.one (.slc 0 0 12 12)], blks := [(0, 3, [.num (some .i64), .num (some .i64), .num (some .i64), .num (some .i64), .num (some .i64), .num (some .i64), .num (some .i64), .num (some .i64), .num (some .i64), .num (some .i64), .num (some .i64), .num (some .i64)])], rg := [((-1000), 1000), ((-1000), 1000), ((-1000), 1000), ((-1000), 1000), ((-1000), 1000), ((-1000), 1000), ((-1000), 1000), ((-1000), 1000), ((-1000), 1000), ((-1000), 1000), ((-1000), 1000), ((-1000), 1000)], dom := [], res := [.agg [.num (some .i64), .num (some .i64), .num (some .i64), .num (some .i64), .num (some .i64), .num (some .i64), .num (some .i64), .num (some .i64), .num (some .i64), .num (some .i64), .num (some .i64), .num (some .i64)], .one (.num none)], out := [], nn := 0, rng := [((-1000), 1000), ((-1000), 1000), ((-1000), 1000), ((-1000), 1000), ((-1000), 1000), ((-1000), 1000), ((-1000), 1000), ((-1000), 1000), ((-1000), 1000), ((-1000), 1000), ((-1000), 1000), ((-1000), 1000), (1, 1)], key := 13, clamp := false }
def t_read : T (List E) :=
(.leaf [(.v 2), (.v 3), (.v 4), (.v 5), (.v 6), (.v 7), (.v 8), (.v 9), (.v 10), (.v 11), (.v 12), (.v 13), (.lit 1)])
theorem t_read_eq : c_read.tree Try.prog (rowCtxE (exL en12) [] hints_WB) 60 12 30 = t_read := by kernel_rfl
theorem t_read_chk : t_read.chk c_read = true := by kernel_rfl
abbrev en13 : List En := (30, c_read, t_read) :: en12
theorem en13_con : EnCon en13 := EnCon.cons en12_con t_read_eq (by kernel_rfl) (by kernel_rfl) (chk_det t_read_chk)
theorem en13_kl : EnKl en13 = true := EnKl.cons en12_kl t_read_chk (by kernel_rfl)
def c_half3 : MC := { args := [.one (.num (some .i64)), .one (.num (some .i64))], blks := [], rg := [((-600000), 600000), (300, 300)], dom := [], res := [.one (.num (some .i64))], out := [], nn := 0, rng := [((-2001), 2001)], key := 14, clamp := false }
def t_half3 : T (List E) :=
(.ite (.lt (.rem (.v 2) (.v 3)) (.lit 0))
(.ite (.le (.sub (.v 3) (.sub (.v 2) (.mul (.sub (.quo (.v 2) (.v 3)) (.lit 1)) (.v 3)))) (.sub (.v 2) (.mul (.sub (.quo (.v 2) (.v 3)) (.lit 1)) (.v 3))))
(.leaf [(.add (.sub (.quo (.v 2) (.v 3)) (.lit 1)) (.lit 1))])
(.leaf [(.sub (.quo (.v 2) (.v 3)) (.lit 1))]))
(.ite (.le (.sub (.v 3) (.sub (.v 2) (.mul (.quo (.v 2) (.v 3)) (.v 3)))) (.sub (.v 2) (.mul (.quo (.v 2) (.v 3)) (.v 3))))
(.leaf [(.add (.quo (.v 2) (.v 3)) (.lit 1))])
(.leaf [(.quo (.v 2) (.v 3))])))
theorem t_half3_eq : c_half3.tree Try.prog (rowCtxE (exL en13) [] hints_WB) 60 12 36 = t_half3 := by kernel_rfl
theorem t_half3_chk : t_half3.chk c_half3 = true := by kernel_rfl
abbrev en14 : List En := (36, c_half3, t_half3) :: en13
theorem en14_con : EnCon en14 := EnCon.cons en13_con t_half3_eq (by kernel_rfl) (by kernel_rfl) (chk_det t_half3_chk)
theorem en14_kl : EnKl en14 = true := EnKl.cons en13_kl t_half3_chk (by kernel_rfl)
def c_half6 : MC := { args := [.one (.num (some .i64)), .one (.num (some .i64))], blks := [], rg := [((-200100000000), 200100000000), (1000000, 1000000)], dom := [], res := [.one (.num (some .i64))], out := [], nn := 0, rng := [((-200101), 200101)], key := 15, clamp := false }
def t_half6 : T (List E) :=
(.ite (.lt (.rem (.v 2) (.v 3)) (.lit 0))
(.ite (.le (.sub (.v 3) (.sub (.v 2) (.mul (.sub (.quo (.v 2) (.v 3)) (.lit 1)) (.v 3)))) (.sub (.v 2) (.mul (.sub (.quo (.v 2) (.v 3)) (.lit 1)) (.v 3))))
(.leaf [(.add (.sub (.quo (.v 2) (.v 3)) (.lit 1)) (.lit 1))])
(.leaf [(.sub (.quo (.v 2) (.v 3)) (.lit 1))]))
(.ite (.le (.sub (.v 3) (.sub (.v 2) (.mul (.quo (.v 2) (.v 3)) (.v 3)))) (.sub (.v 2) (.mul (.quo (.v 2) (.v 3)) (.v 3))))
(.leaf [(.add (.quo (.v 2) (.v 3)) (.lit 1))])
(.leaf [(.quo (.v 2) (.v 3))])))
theorem t_half6_eq : c_half6.tree Try.prog (rowCtxE (exL en14) [] hints_WB) 60 12 36 = t_half6 := by kernel_rfl
theorem t_half6_chk : t_half6.chk c_half6 = true := by kernel_rfl
abbrev en15 : List En := (36, c_half6, t_half6) :: en14
theorem en15_con : EnCon en15 := EnCon.cons en14_con t_half6_eq (by kernel_rfl) (by kernel_rfl) (chk_det t_half6_chk)
theorem en15_kl : EnKl en15 = true := EnKl.cons en14_kl t_half6_chk (by kernel_rfl)
def c_at : MC := { args := [.agg [.num (some .i64), .num (some .i64), .num (some .i64), .num (some .i64), .num (some .i64), .num (some .i64), .num (some .i64), .num (some .i64), .num (some .i64), .num (some .i64), .num (some .i64), .num (some .i64)], .one (.num (some .i64))], blks := [], rg := [((-1000), 1000), ((-1000), 1000), ((-1000), 1000), ((-1000), 1000), ((-1000), 1000), ((-1000), 1000), ((-1000), 1000), ((-1000), 1000), ((-1000), 1000), ((-1000), 1000), ((-1000), 1000), ((-1000), 1000), (0, 3599)], dom := [], res := [.one (.num (some .i64))], out := [], nn := 0, rng := [((-2001), 2001)], key := 16, clamp := false }
def t_at : T (List E) :=
(.call 14 [(.add (.mul (.sub (.lit 300) (.rem (.v 14) (.lit 300))) (.sw (.quo (.v 14) (.lit 300)) 0 (.v 2) (.sw (.quo (.v 14) (.lit 300)) 1 (.v 3) (.sw (.quo (.v 14) (.lit 300)) 2 (.v 4) (.sw (.quo (.v 14) (.lit 300)) 3 (.v 5) (.sw (.quo (.v 14) (.lit 300)) 4 (.v 6) (.sw (.quo (.v 14) (.lit 300)) 5 (.v 7) (.sw (.quo (.v 14) (.lit 300)) 6 (.v 8) (.sw (.quo (.v 14) (.lit 300)) 7 (.v 9) (.sw (.quo (.v 14) (.lit 300)) 8 (.v 10) (.sw (.quo (.v 14) (.lit 300)) 9 (.v 11) (.sw (.quo (.v 14) (.lit 300)) 10 (.v 12) (.v 13))))))))))))) (.mul (.rem (.v 14) (.lit 300)) (.sw (.rem (.add (.quo (.v 14) (.lit 300)) (.lit 1)) (.lit 12)) 0 (.v 2) (.sw (.rem (.add (.quo (.v 14) (.lit 300)) (.lit 1)) (.lit 12)) 1 (.v 3) (.sw (.rem (.add (.quo (.v 14) (.lit 300)) (.lit 1)) (.lit 12)) 2 (.v 4) (.sw (.rem (.add (.quo (.v 14) (.lit 300)) (.lit 1)) (.lit 12)) 3 (.v 5) (.sw (.rem (.add (.quo (.v 14) (.lit 300)) (.lit 1)) (.lit 12)) 4 (.v 6) (.sw (.rem (.add (.quo (.v 14) (.lit 300)) (.lit 1)) (.lit 12)) 5 (.v 7) (.sw (.rem (.add (.quo (.v 14) (.lit 300)) (.lit 1)) (.lit 12)) 6 (.v 8) (.sw (.rem (.add (.quo (.v 14) (.lit 300)) (.lit 1)) (.lit 12)) 7 (.v 9) (.sw (.rem (.add (.quo (.v 14) (.lit 300)) (.lit 1)) (.lit 12)) 8 (.v 10) (.sw (.rem (.add (.quo (.v 14) (.lit 300)) (.lit 1)) (.lit 12)) 9 (.v 11) (.sw (.rem (.add (.quo (.v 14) (.lit 300)) (.lit 1)) (.lit 12)) 10 (.v 12) (.v 13)))))))))))))), (.lit 300)] 1
(.leaf [(.v 15)]))
theorem t_at_eq : c_at.tree Try.prog (rowCtxE (exL en15) [] hints_WB) 60 12 32 = t_at := by kernel_rfl
theorem t_at_chk : t_at.chk c_at = true := by kernel_rfl
abbrev en16 : List En := (32, c_at, t_at) :: en15
theorem en16_con : EnCon en16 := EnCon.cons en15_con t_at_eq (by kernel_rfl) (by kernel_rfl) (chk_det t_at_chk)
theorem en16_kl : EnKl en16 = true := EnKl.cons en15_kl t_at_chk (by kernel_rfl)
end Go.Proofs.Ytapdjkiekjdgdaa
