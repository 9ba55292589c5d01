/- Steps: contracts for each number of fixes ahead. -/
import Derived.Test.YtejklpbiieofoaaMTA
set_option linter.unusedSimpArgs false
set_option linter.unusedVariables false
set_option maxRecDepth 100000
namespace Go.Proofs.Ytejklpbiieofoaa
open Go.RowKit Ev
def hints_MTB : FuncId → Nat → Option Hint := fun _ _ => none
def c_step5 : MC := { args := [.agg [.num (some .i64), .num (some .i64), .num (some .i64), .num (some .i64)], .agg [.num (some .i64), .num (some .i64), .num (some .i64), .num (some .i64), .num (some .i64), .num (some .i64), .num (some .i64), .num (some .i64), .num none, .num (some .i64), .num (some .i64)], .agg [.num (some .i64), .num (some .i64), .num (some .i64), .num (some .i64)]], blks := [], rg := [(0, 3), (0, 100), (1, 10), (0, 4), (0, 60), ((-30), 1000), ((-20), 5), (0, 200), (0, 60), ((-30), 1000), ((-20), 5), (0, 200), (0, 1), (0, 5), (0, 4), (0, 60), ((-30), 1000), ((-20), 5), (1, 200)], dom := [], res := [.agg [.num (some .i64), .num (some .i64), .num (some .i64), .num (some .i64), .num (some .i64), .num (some .i64), .num (some .i64), .num (some .i64), .num none, .num (some .i64), .num (some .i64)], .one (.num (some .i64))], out := [], nn := 0, rng := [(0, 60), ((-30), 1000), ((-20), 5), (0, 200), (0, 60), ((-30), 1000), ((-20), 5), (0, 200), (0, 1), (0, 6), (0, 4), (0, 16)], key := 13, clamp := false, rgx := [] }
def t_step5 : T (List E) :=
(.ite (.not (.not (.nz (.v 14))))
(.ite (.le (.lit 1) (.v 9))
(.ite (.le (.lit 1) (.v 13))
(.ite (.lt (.v 15) (.lit 1))
(.leaf [(.lit 0), (.lit 0), (.lit 0), (.lit 0), (.lit 0), (.lit 0), (.lit 0), (.lit 0), (.lit 0), (.lit 0), (.lit 0), (.lit 1)])
(.ite (.le (.v 17) (.v 6))
(.leaf [(.lit 0), (.lit 0), (.lit 0), (.lit 0), (.lit 0), (.lit 0), (.lit 0), (.lit 0), (.lit 0), (.lit 0), (.lit 0), (.lit 16)])
(.ite (.and (.eq (.v 7) (.v 18)) (.eq (.v 8) (.v 19)))
(.ite (.lt (.add (.add (.mul (.v 3) (.sub (.v 17) (.v 10))) (.v 13)) (.v 20)) (.mx (.mx (.sub (.v 11) (.v 18)) (.sub (.v 18) (.v 11))) (.mx (.sub (.v 12) (.v 19)) (.sub (.v 19) (.v 12)))))
(.leaf [(.v 17), (.v 18), (.v 19), (.v 20), (.v 10), (.v 11), (.v 12), (.v 13), (.lit 1), (.add (.v 15) (.lit 1)), (.lit 4), (.lit 0)])
(.ite (.and (.not (.eq (.v 5) (.lit 0))) (.le (.v 5) (.add (.v 15) (.lit 1))))
(.leaf [(.v 17), (.v 18), (.v 19), (.v 20), (.v 10), (.v 11), (.v 12), (.v 13), (.lit 1), (.add (.v 15) (.lit 1)), (.lit 3), (.lit 0)])
(.leaf [(.v 17), (.v 18), (.v 19), (.v 20), (.v 17), (.v 18), (.v 19), (.v 20), (.lit 1), (.add (.v 15) (.lit 1)), (.lit 1), (.lit 0)])))
(.ite (.lt (.add (.add (.mul (.v 3) (.sub (.v 17) (.v 10))) (.v 13)) (.v 20)) (.mx (.mx (.sub (.v 11) (.v 18)) (.sub (.v 18) (.v 11))) (.mx (.sub (.v 12) (.v 19)) (.sub (.v 19) (.v 12)))))
(.leaf [(.v 17), (.v 18), (.v 19), (.v 20), (.v 10), (.v 11), (.v 12), (.v 13), (.lit 1), (.lit 1), (.lit 4), (.lit 0)])
(.ite (.and (.not (.eq (.v 5) (.lit 0))) (.le (.v 5) (.lit 1)))
(.leaf [(.v 17), (.v 18), (.v 19), (.v 20), (.v 10), (.v 11), (.v 12), (.v 13), (.lit 1), (.lit 1), (.lit 3), (.lit 0)])
(.leaf [(.v 17), (.v 18), (.v 19), (.v 20), (.v 17), (.v 18), (.v 19), (.v 20), (.lit 1), (.lit 1), (.lit 1), (.lit 0)]))))))
(.leaf [(.lit 0), (.lit 0), (.lit 0), (.lit 0), (.lit 0), (.lit 0), (.lit 0), (.lit 0), (.lit 0), (.lit 0), (.lit 0), (.lit 1)]))
(.leaf [(.lit 0), (.lit 0), (.lit 0), (.lit 0), (.lit 0), (.lit 0), (.lit 0), (.lit 0), (.lit 0), (.lit 0), (.lit 0), (.lit 1)]))
(.leaf [(.v 17), (.v 18), (.v 19), (.v 20), (.v 17), (.v 18), (.v 19), (.v 20), (.lit 1), (.lit 1), (.lit 1), (.lit 0)]))
theorem t_step5_eq : c_step5.tree Try.prog (rowCtxE (exL en12) [] hints_MTB) 60 12 12 = t_step5 := by kernel_rfl
theorem t_step5_chk : t_step5.chk c_step5 = true := by kernel_rfl
abbrev en13 : List En := (12, c_step5, t_step5) :: en12
theorem en13_con : EnCon en13 := EnCon.cons en12_con t_step5_eq (by kernel_rfl) (by kernel_rfl) (chk_det t_step5_chk)
theorem en13_kl : EnKl en13 = true := EnKl.cons en12_kl t_step5_chk (by kernel_rfl)
def c_step4 : MC := { args := [.agg [.num (some .i64), .num (some .i64), .num (some .i64), .num (some .i64)], .agg [.num (some .i64), .num (some .i64), .num (some .i64), .num (some .i64), .num (some .i64), .num (some .i64), .num (some .i64), .num (some .i64), .num none, .num (some .i64), .num (some .i64)], .agg [.num (some .i64), .num (some .i64), .num (some .i64), .num (some .i64)]], blks := [], rg := [(0, 3), (0, 100), (1, 10), (0, 4), (0, 60), ((-30), 1000), ((-20), 5), (0, 200), (0, 60), ((-30), 1000), ((-20), 5), (0, 200), (0, 1), (0, 4), (0, 4), (0, 60), ((-30), 1000), ((-20), 5), (1, 200)], dom := [], res := [.agg [.num (some .i64), .num (some .i64), .num (some .i64), .num (some .i64), .num (some .i64), .num (some .i64), .num (some .i64), .num (some .i64), .num none, .num (some .i64), .num (some .i64)], .one (.num (some .i64))], out := [], nn := 0, rng := [(0, 60), ((-30), 1000), ((-20), 5), (0, 200), (0, 60), ((-30), 1000), ((-20), 5), (0, 200), (0, 1), (0, 5), (0, 4), (0, 16)], key := 14, clamp := false, rgx := [] }
def t_step4 : T (List E) :=
(.ite (.not (.not (.nz (.v 14))))
(.ite (.le (.lit 1) (.v 9))
(.ite (.le (.lit 1) (.v 13))
(.ite (.lt (.v 15) (.lit 1))
(.leaf [(.lit 0), (.lit 0), (.lit 0), (.lit 0), (.lit 0), (.lit 0), (.lit 0), (.lit 0), (.lit 0), (.lit 0), (.lit 0), (.lit 1)])
(.ite (.le (.v 17) (.v 6))
(.leaf [(.lit 0), (.lit 0), (.lit 0), (.lit 0), (.lit 0), (.lit 0), (.lit 0), (.lit 0), (.lit 0), (.lit 0), (.lit 0), (.lit 16)])
(.ite (.and (.eq (.v 7) (.v 18)) (.eq (.v 8) (.v 19)))
(.ite (.lt (.add (.add (.mul (.v 3) (.sub (.v 17) (.v 10))) (.v 13)) (.v 20)) (.mx (.mx (.sub (.v 11) (.v 18)) (.sub (.v 18) (.v 11))) (.mx (.sub (.v 12) (.v 19)) (.sub (.v 19) (.v 12)))))
(.leaf [(.v 17), (.v 18), (.v 19), (.v 20), (.v 10), (.v 11), (.v 12), (.v 13), (.lit 1), (.add (.v 15) (.lit 1)), (.lit 4), (.lit 0)])
(.ite (.and (.not (.eq (.v 5) (.lit 0))) (.le (.v 5) (.add (.v 15) (.lit 1))))
(.leaf [(.v 17), (.v 18), (.v 19), (.v 20), (.v 10), (.v 11), (.v 12), (.v 13), (.lit 1), (.add (.v 15) (.lit 1)), (.lit 3), (.lit 0)])
(.leaf [(.v 17), (.v 18), (.v 19), (.v 20), (.v 17), (.v 18), (.v 19), (.v 20), (.lit 1), (.add (.v 15) (.lit 1)), (.lit 1), (.lit 0)])))
(.ite (.lt (.add (.add (.mul (.v 3) (.sub (.v 17) (.v 10))) (.v 13)) (.v 20)) (.mx (.mx (.sub (.v 11) (.v 18)) (.sub (.v 18) (.v 11))) (.mx (.sub (.v 12) (.v 19)) (.sub (.v 19) (.v 12)))))
(.leaf [(.v 17), (.v 18), (.v 19), (.v 20), (.v 10), (.v 11), (.v 12), (.v 13), (.lit 1), (.lit 1), (.lit 4), (.lit 0)])
(.ite (.and (.not (.eq (.v 5) (.lit 0))) (.le (.v 5) (.lit 1)))
(.leaf [(.v 17), (.v 18), (.v 19), (.v 20), (.v 10), (.v 11), (.v 12), (.v 13), (.lit 1), (.lit 1), (.lit 3), (.lit 0)])
(.leaf [(.v 17), (.v 18), (.v 19), (.v 20), (.v 17), (.v 18), (.v 19), (.v 20), (.lit 1), (.lit 1), (.lit 1), (.lit 0)]))))))
(.leaf [(.lit 0), (.lit 0), (.lit 0), (.lit 0), (.lit 0), (.lit 0), (.lit 0), (.lit 0), (.lit 0), (.lit 0), (.lit 0), (.lit 1)]))
(.leaf [(.lit 0), (.lit 0), (.lit 0), (.lit 0), (.lit 0), (.lit 0), (.lit 0), (.lit 0), (.lit 0), (.lit 0), (.lit 0), (.lit 1)]))
(.leaf [(.v 17), (.v 18), (.v 19), (.v 20), (.v 17), (.v 18), (.v 19), (.v 20), (.lit 1), (.lit 1), (.lit 1), (.lit 0)]))
theorem t_step4_eq : c_step4.tree Try.prog (rowCtxE (exL en13) [] hints_MTB) 60 12 12 = t_step4 := by kernel_rfl
theorem t_step4_chk : t_step4.chk c_step4 = true := by kernel_rfl
abbrev en14 : List En := (12, c_step4, t_step4) :: en13
theorem en14_con : EnCon en14 := EnCon.cons en13_con t_step4_eq (by kernel_rfl) (by kernel_rfl) (chk_det t_step4_chk)
theorem en14_kl : EnKl en14 = true := EnKl.cons en13_kl t_step4_chk (by kernel_rfl)
def c_step3 : MC := { args := [.agg [.num (some .i64), .num (some .i64), .num (some .i64), .num (some .i64)], .agg [.num (some .i64), .num (some .i64), .num (some .i64), .num (some .i64), .num (some .i64), .num (some .i64), .num (some .i64), .num (some .i64), .num none, .num (some .i64), .num (some .i64)], .agg [.num (some .i64), .num (some .i64), .num (some .i64), .num (some .i64)]], blks := [], rg := [(0, 3), (0, 100), (1, 10), (0, 4), (0, 60), ((-30), 1000), ((-20), 5), (0, 200), (0, 60), ((-30), 1000), ((-20), 5), (0, 200), (0, 1), (0, 3), (0, 4), (0, 60), ((-30), 1000), ((-20), 5), (1, 200)], dom := [], res := [.agg [.num (some .i64), .num (some .i64), .num (some .i64), .num (some .i64), .num (some .i64), .num (some .i64), .num (some .i64), .num (some .i64), .num none, .num (some .i64), .num (some .i64)], .one (.num (some .i64))], out := [], nn := 0, rng := [(0, 60), ((-30), 1000), ((-20), 5), (0, 200), (0, 60), ((-30), 1000), ((-20), 5), (0, 200), (0, 1), (0, 4), (0, 4), (0, 16)], key := 15, clamp := false, rgx := [] }
def t_step3 : T (List E) :=
(.ite (.not (.not (.nz (.v 14))))
(.ite (.le (.lit 1) (.v 9))
(.ite (.le (.lit 1) (.v 13))
(.ite (.lt (.v 15) (.lit 1))
(.leaf [(.lit 0), (.lit 0), (.lit 0), (.lit 0), (.lit 0), (.lit 0), (.lit 0), (.lit 0), (.lit 0), (.lit 0), (.lit 0), (.lit 1)])
(.ite (.le (.v 17) (.v 6))
(.leaf [(.lit 0), (.lit 0), (.lit 0), (.lit 0), (.lit 0), (.lit 0), (.lit 0), (.lit 0), (.lit 0), (.lit 0), (.lit 0), (.lit 16)])
(.ite (.and (.eq (.v 7) (.v 18)) (.eq (.v 8) (.v 19)))
(.ite (.lt (.add (.add (.mul (.v 3) (.sub (.v 17) (.v 10))) (.v 13)) (.v 20)) (.mx (.mx (.sub (.v 11) (.v 18)) (.sub (.v 18) (.v 11))) (.mx (.sub (.v 12) (.v 19)) (.sub (.v 19) (.v 12)))))
(.leaf [(.v 17), (.v 18), (.v 19), (.v 20), (.v 10), (.v 11), (.v 12), (.v 13), (.lit 1), (.add (.v 15) (.lit 1)), (.lit 4), (.lit 0)])
(.ite (.and (.not (.eq (.v 5) (.lit 0))) (.le (.v 5) (.add (.v 15) (.lit 1))))
(.leaf [(.v 17), (.v 18), (.v 19), (.v 20), (.v 10), (.v 11), (.v 12), (.v 13), (.lit 1), (.add (.v 15) (.lit 1)), (.lit 3), (.lit 0)])
(.leaf [(.v 17), (.v 18), (.v 19), (.v 20), (.v 17), (.v 18), (.v 19), (.v 20), (.lit 1), (.add (.v 15) (.lit 1)), (.lit 1), (.lit 0)])))
(.ite (.lt (.add (.add (.mul (.v 3) (.sub (.v 17) (.v 10))) (.v 13)) (.v 20)) (.mx (.mx (.sub (.v 11) (.v 18)) (.sub (.v 18) (.v 11))) (.mx (.sub (.v 12) (.v 19)) (.sub (.v 19) (.v 12)))))
(.leaf [(.v 17), (.v 18), (.v 19), (.v 20), (.v 10), (.v 11), (.v 12), (.v 13), (.lit 1), (.lit 1), (.lit 4), (.lit 0)])
(.ite (.and (.not (.eq (.v 5) (.lit 0))) (.le (.v 5) (.lit 1)))
(.leaf [(.v 17), (.v 18), (.v 19), (.v 20), (.v 10), (.v 11), (.v 12), (.v 13), (.lit 1), (.lit 1), (.lit 3), (.lit 0)])
(.leaf [(.v 17), (.v 18), (.v 19), (.v 20), (.v 17), (.v 18), (.v 19), (.v 20), (.lit 1), (.lit 1), (.lit 1), (.lit 0)]))))))
(.leaf [(.lit 0), (.lit 0), (.lit 0), (.lit 0), (.lit 0), (.lit 0), (.lit 0), (.lit 0), (.lit 0), (.lit 0), (.lit 0), (.lit 1)]))
(.leaf [(.lit 0), (.lit 0), (.lit 0), (.lit 0), (.lit 0), (.lit 0), (.lit 0), (.lit 0), (.lit 0), (.lit 0), (.lit 0), (.lit 1)]))
(.leaf [(.v 17), (.v 18), (.v 19), (.v 20), (.v 17), (.v 18), (.v 19), (.v 20), (.lit 1), (.lit 1), (.lit 1), (.lit 0)]))
theorem t_step3_eq : c_step3.tree Try.prog (rowCtxE (exL en14) [] hints_MTB) 60 12 12 = t_step3 := by kernel_rfl
theorem t_step3_chk : t_step3.chk c_step3 = true := by kernel_rfl
abbrev en15 : List En := (12, c_step3, t_step3) :: en14
theorem en15_con : EnCon en15 := EnCon.cons en14_con t_step3_eq (by kernel_rfl) (by kernel_rfl) (chk_det t_step3_chk)
theorem en15_kl : EnKl en15 = true := EnKl.cons en14_kl t_step3_chk (by kernel_rfl)
def c_step2 : MC := { args := [.agg [.num (some .i64), .num (some .i64), .num (some .i64), .num (some .i64)], .agg [.num (some .i64), .num (some .i64), .num (some .i64), .num (some .i64), .num (some .i64), .num (some .i64), .num (some .i64), .num (some .i64), .num none, .num (some .i64), .num (some .i64)], .agg [.num (some .i64), .num (some .i64), .num (some .i64), .num (some .i64)]], blks := [], rg := [(0, 3), (0, 100), (1, 10), (0, 4), (0, 60), ((-30), 1000), ((-20), 5), (0, 200), (0, 60), ((-30), 1000), ((-20), 5), (0, 200), (0, 1), (0, 2), (0, 4), (0, 60), ((-30), 1000), ((-20), 5), (1, 200)], dom := [], res := [.agg [.num (some .i64), .num (some .i64), .num (some .i64), .num (some .i64), .num (some .i64), .num (some .i64), .num (some .i64), .num (some .i64), .num none, .num (some .i64), .num (some .i64)], .one (.num (some .i64))], out := [], nn := 0, rng := [(0, 60), ((-30), 1000), ((-20), 5), (0, 200), (0, 60), ((-30), 1000), ((-20), 5), (0, 200), (0, 1), (0, 3), (0, 4), (0, 16)], key := 16, clamp := false, rgx := [] }
def t_step2 : T (List E) :=
(.ite (.not (.not (.nz (.v 14))))
(.ite (.le (.lit 1) (.v 9))
(.ite (.le (.lit 1) (.v 13))
(.ite (.lt (.v 15) (.lit 1))
(.leaf [(.lit 0), (.lit 0), (.lit 0), (.lit 0), (.lit 0), (.lit 0), (.lit 0), (.lit 0), (.lit 0), (.lit 0), (.lit 0), (.lit 1)])
(.ite (.le (.v 17) (.v 6))
(.leaf [(.lit 0), (.lit 0), (.lit 0), (.lit 0), (.lit 0), (.lit 0), (.lit 0), (.lit 0), (.lit 0), (.lit 0), (.lit 0), (.lit 16)])
(.ite (.and (.eq (.v 7) (.v 18)) (.eq (.v 8) (.v 19)))
(.ite (.lt (.add (.add (.mul (.v 3) (.sub (.v 17) (.v 10))) (.v 13)) (.v 20)) (.mx (.mx (.sub (.v 11) (.v 18)) (.sub (.v 18) (.v 11))) (.mx (.sub (.v 12) (.v 19)) (.sub (.v 19) (.v 12)))))
(.leaf [(.v 17), (.v 18), (.v 19), (.v 20), (.v 10), (.v 11), (.v 12), (.v 13), (.lit 1), (.add (.v 15) (.lit 1)), (.lit 4), (.lit 0)])
(.ite (.and (.not (.eq (.v 5) (.lit 0))) (.le (.v 5) (.add (.v 15) (.lit 1))))
(.leaf [(.v 17), (.v 18), (.v 19), (.v 20), (.v 10), (.v 11), (.v 12), (.v 13), (.lit 1), (.add (.v 15) (.lit 1)), (.lit 3), (.lit 0)])
(.leaf [(.v 17), (.v 18), (.v 19), (.v 20), (.v 17), (.v 18), (.v 19), (.v 20), (.lit 1), (.add (.v 15) (.lit 1)), (.lit 1), (.lit 0)])))
(.ite (.lt (.add (.add (.mul (.v 3) (.sub (.v 17) (.v 10))) (.v 13)) (.v 20)) (.mx (.mx (.sub (.v 11) (.v 18)) (.sub (.v 18) (.v 11))) (.mx (.sub (.v 12) (.v 19)) (.sub (.v 19) (.v 12)))))
(.leaf [(.v 17), (.v 18), (.v 19), (.v 20), (.v 10), (.v 11), (.v 12), (.v 13), (.lit 1), (.lit 1), (.lit 4), (.lit 0)])
(.ite (.and (.not (.eq (.v 5) (.lit 0))) (.le (.v 5) (.lit 1)))
(.leaf [(.v 17), (.v 18), (.v 19), (.v 20), (.v 10), (.v 11), (.v 12), (.v 13), (.lit 1), (.lit 1), (.lit 3), (.lit 0)])
(.leaf [(.v 17), (.v 18), (.v 19), (.v 20), (.v 17), (.v 18), (.v 19), (.v 20), (.lit 1), (.lit 1), (.lit 1), (.lit 0)]))))))
(.leaf [(.lit 0), (.lit 0), (.lit 0), (.lit 0), (.lit 0), (.lit 0), (.lit 0), (.lit 0), (.lit 0), (.lit 0), (.lit 0), (.lit 1)]))
(.leaf [(.lit 0), (.lit 0), (.lit 0), (.lit 0), (.lit 0), (.lit 0), (.lit 0), (.lit 0), (.lit 0), (.lit 0), (.lit 0), (.lit 1)]))
(.leaf [(.v 17), (.v 18), (.v 19), (.v 20), (.v 17), (.v 18), (.v 19), (.v 20), (.lit 1), (.lit 1), (.lit 1), (.lit 0)]))
theorem t_step2_eq : c_step2.tree Try.prog (rowCtxE (exL en15) [] hints_MTB) 60 12 12 = t_step2 := by kernel_rfl
theorem t_step2_chk : t_step2.chk c_step2 = true := by kernel_rfl
abbrev en16 : List En := (12, c_step2, t_step2) :: en15
theorem en16_con : EnCon en16 := EnCon.cons en15_con t_step2_eq (by kernel_rfl) (by kernel_rfl) (chk_det t_step2_chk)
theorem en16_kl : EnKl en16 = true := EnKl.cons en15_kl t_step2_chk (by kernel_rfl)
def c_step1 : MC := { args := [.agg [.num (some .i64), .num (some .i64), .num (some .i64), .num (some .i64)], .agg [.num (some .i64), .num (some .i64), .num (some .i64), .num (some .i64), .num (some .i64), .num (some .i64), .num (some .i64), .num (some .i64), .num none, .num (some .i64), .num (some .i64)], .agg [.num (some .i64), .num (some .i64), .num (some .i64), .num (some .i64)]], blks := [], rg := [(0, 3), (0, 100), (1, 10), (0, 4), (0, 60), ((-30), 1000), ((-20), 5), (0, 200), (0, 60), ((-30), 1000), ((-20), 5), (0, 200), (0, 1), (0, 1), (0, 4), (0, 60), ((-30), 1000), ((-20), 5), (1, 200)], dom := [], res := [.agg [.num (some .i64), .num (some .i64), .num (some .i64), .num (some .i64), .num (some .i64), .num (some .i64), .num (some .i64), .num (some .i64), .num none, .num (some .i64), .num (some .i64)], .one (.num (some .i64))], out := [], nn := 0, rng := [(0, 60), ((-30), 1000), ((-20), 5), (0, 200), (0, 60), ((-30), 1000), ((-20), 5), (0, 200), (0, 1), (0, 2), (0, 4), (0, 16)], key := 17, clamp := false, rgx := [] }
def t_step1 : T (List E) :=
(.ite (.not (.not (.nz (.v 14))))
(.ite (.le (.lit 1) (.v 9))
(.ite (.le (.lit 1) (.v 13))
(.ite (.lt (.v 15) (.lit 1))
(.leaf [(.lit 0), (.lit 0), (.lit 0), (.lit 0), (.lit 0), (.lit 0), (.lit 0), (.lit 0), (.lit 0), (.lit 0), (.lit 0), (.lit 1)])
(.ite (.le (.v 17) (.v 6))
(.leaf [(.lit 0), (.lit 0), (.lit 0), (.lit 0), (.lit 0), (.lit 0), (.lit 0), (.lit 0), (.lit 0), (.lit 0), (.lit 0), (.lit 16)])
(.ite (.and (.eq (.v 7) (.v 18)) (.eq (.v 8) (.v 19)))
(.ite (.lt (.add (.add (.mul (.v 3) (.sub (.v 17) (.v 10))) (.v 13)) (.v 20)) (.mx (.mx (.sub (.v 11) (.v 18)) (.sub (.v 18) (.v 11))) (.mx (.sub (.v 12) (.v 19)) (.sub (.v 19) (.v 12)))))
(.leaf [(.v 17), (.v 18), (.v 19), (.v 20), (.v 10), (.v 11), (.v 12), (.v 13), (.lit 1), (.lit 2), (.lit 4), (.lit 0)])
(.ite (.and (.not (.eq (.v 5) (.lit 0))) (.le (.v 5) (.lit 2)))
(.leaf [(.v 17), (.v 18), (.v 19), (.v 20), (.v 10), (.v 11), (.v 12), (.v 13), (.lit 1), (.lit 2), (.lit 3), (.lit 0)])
(.leaf [(.v 17), (.v 18), (.v 19), (.v 20), (.v 17), (.v 18), (.v 19), (.v 20), (.lit 1), (.lit 2), (.lit 1), (.lit 0)])))
(.ite (.lt (.add (.add (.mul (.v 3) (.sub (.v 17) (.v 10))) (.v 13)) (.v 20)) (.mx (.mx (.sub (.v 11) (.v 18)) (.sub (.v 18) (.v 11))) (.mx (.sub (.v 12) (.v 19)) (.sub (.v 19) (.v 12)))))
(.leaf [(.v 17), (.v 18), (.v 19), (.v 20), (.v 10), (.v 11), (.v 12), (.v 13), (.lit 1), (.lit 1), (.lit 4), (.lit 0)])
(.ite (.and (.not (.eq (.v 5) (.lit 0))) (.le (.v 5) (.lit 1)))
(.leaf [(.v 17), (.v 18), (.v 19), (.v 20), (.v 10), (.v 11), (.v 12), (.v 13), (.lit 1), (.lit 1), (.lit 3), (.lit 0)])
(.leaf [(.v 17), (.v 18), (.v 19), (.v 20), (.v 17), (.v 18), (.v 19), (.v 20), (.lit 1), (.lit 1), (.lit 1), (.lit 0)]))))))
(.leaf [(.lit 0), (.lit 0), (.lit 0), (.lit 0), (.lit 0), (.lit 0), (.lit 0), (.lit 0), (.lit 0), (.lit 0), (.lit 0), (.lit 1)]))
(.leaf [(.lit 0), (.lit 0), (.lit 0), (.lit 0), (.lit 0), (.lit 0), (.lit 0), (.lit 0), (.lit 0), (.lit 0), (.lit 0), (.lit 1)]))
(.leaf [(.v 17), (.v 18), (.v 19), (.v 20), (.v 17), (.v 18), (.v 19), (.v 20), (.lit 1), (.lit 1), (.lit 1), (.lit 0)]))
theorem t_step1_eq : c_step1.tree Try.prog (rowCtxE (exL en16) [] hints_MTB) 60 12 12 = t_step1 := by kernel_rfl
theorem t_step1_chk : t_step1.chk c_step1 = true := by kernel_rfl
abbrev en17 : List En := (12, c_step1, t_step1) :: en16
theorem en17_con : EnCon en17 := EnCon.cons en16_con t_step1_eq (by kernel_rfl) (by kernel_rfl) (chk_det t_step1_chk)
theorem en17_kl : EnKl en17 = true := EnKl.cons en16_kl t_step1_chk (by kernel_rfl)
def c_step0 : MC := { args := [.agg [.num (some .i64), .num (some .i64), .num (some .i64), .num (some .i64)], .agg [.num (some .i64), .num (some .i64), .num (some .i64), .num (some .i64), .num (some .i64), .num (some .i64), .num (some .i64), .num (some .i64), .num none, .num (some .i64), .num (some .i64)], .agg [.num (some .i64), .num (some .i64), .num (some .i64), .num (some .i64)]], blks := [], rg := [(0, 3), (0, 100), (1, 10), (0, 4), (0, 60), ((-30), 1000), ((-20), 5), (0, 200), (0, 60), ((-30), 1000), ((-20), 5), (0, 200), (0, 1), (0, 0), (0, 4), (0, 60), ((-30), 1000), ((-20), 5), (1, 200)], dom := [], res := [.agg [.num (some .i64), .num (some .i64), .num (some .i64), .num (some .i64), .num (some .i64), .num (some .i64), .num (some .i64), .num (some .i64), .num none, .num (some .i64), .num (some .i64)], .one (.num (some .i64))], out := [], nn := 0, rng := [(0, 60), ((-30), 1000), ((-20), 5), (0, 200), (0, 60), ((-30), 1000), ((-20), 5), (0, 200), (0, 1), (0, 1), (0, 4), (0, 16)], key := 18, clamp := false, rgx := [] }
def t_step0 : T (List E) :=
(.ite (.not (.not (.nz (.v 14))))
(.ite (.le (.lit 1) (.v 9))
(.ite (.le (.lit 1) (.v 13))
(.leaf [(.lit 0), (.lit 0), (.lit 0), (.lit 0), (.lit 0), (.lit 0), (.lit 0), (.lit 0), (.lit 0), (.lit 0), (.lit 0), (.lit 1)])
(.leaf [(.lit 0), (.lit 0), (.lit 0), (.lit 0), (.lit 0), (.lit 0), (.lit 0), (.lit 0), (.lit 0), (.lit 0), (.lit 0), (.lit 1)]))
(.leaf [(.lit 0), (.lit 0), (.lit 0), (.lit 0), (.lit 0), (.lit 0), (.lit 0), (.lit 0), (.lit 0), (.lit 0), (.lit 0), (.lit 1)]))
(.leaf [(.v 17), (.v 18), (.v 19), (.v 20), (.v 17), (.v 18), (.v 19), (.v 20), (.lit 1), (.lit 1), (.lit 1), (.lit 0)]))
theorem t_step0_eq : c_step0.tree Try.prog (rowCtxE (exL en17) [] hints_MTB) 60 12 12 = t_step0 := by kernel_rfl
theorem t_step0_chk : t_step0.chk c_step0 = true := by kernel_rfl
abbrev en18 : List En := (12, c_step0, t_step0) :: en17
theorem en18_con : EnCon en18 := EnCon.cons en17_con t_step0_eq (by kernel_rfl) (by kernel_rfl) (chk_det t_step0_chk)
theorem en18_kl : EnKl en18 = true := EnKl.cons en17_kl t_step0_chk (by kernel_rfl)
end Go.Proofs.Ytejklpbiieofoaa
