/- What the boxes of some fixes have in common, and their hull: contracts for each count. -/
import Derived.Test.YtcedkkleclhglaaFC
set_option linter.unusedSimpArgs false
set_option linter.unusedVariables false
set_option maxRecDepth 100000
namespace Go.Proofs.Ytcedkkleclhglaa
open Go.RowKit Ev
def hints_FD : FuncId → Nat → Option Hint := fun _ _ => none
def c_common1 : MC := { args := [.one (.sln 0 4 1)], blks := [(0, 39, [.num (some .i64), .num (some .i64), .num (some .i64), .num (some .i64)])], rg := [(0, 60), ((-30), 1000), ((-20), 5), (1, 200)], dom := [], res := [.agg [.num (some .i64), .num (some .i64)], .agg [.num (some .i64), .num (some .i64)], .one (.num none)], out := [], nn := 0, rng := [((-1300), 1300), ((-1300), 1300), ((-1300), 1300), ((-1300), 1300), (0, 1)], key := 31, clamp := false, rgx := [] }
def t_common1 : T (List E) :=
(.call 12 [(.v 5)] 1
(.ite (.or (.lt (.mn (.add (.v 3) (.v 5)) (.add (.v 3) (.v 5))) (.mx (.sub (.v 3) (.v 5)) (.sub (.v 3) (.v 5)))) (.lt (.mn (.add (.v 4) (.v 5)) (.add (.v 4) (.v 5))) (.mx (.sub (.v 4) (.v 5)) (.sub (.v 4) (.v 5)))))
(.leaf [(.lit 0), (.lit 0), (.lit 0), (.lit 0), (.lit 0)])
(.leaf [(.mx (.sub (.v 3) (.v 5)) (.sub (.v 3) (.v 5))), (.mx (.sub (.v 4) (.v 5)) (.sub (.v 4) (.v 5))), (.mn (.add (.v 3) (.v 5)) (.add (.v 3) (.v 5))), (.mn (.add (.v 4) (.v 5)) (.add (.v 4) (.v 5))), (.lit 1)])))
theorem t_common1_eq : c_common1.tree Try.prog (rowCtxE (exL en25) [] hints_FD) 60 12 18 = t_common1 := by kernel_rfl
theorem t_common1_chk : t_common1.chk c_common1 = true := by kernel_rfl
abbrev en31 : List En := (18, c_common1, t_common1) :: en25
theorem en31_con : EnCon en31 := EnCon.cons en25_con t_common1_eq (by kernel_rfl) (by kernel_rfl) (chk_det t_common1_chk)
theorem en31_kl : EnKl en31 = true := EnKl.cons en25_kl t_common1_chk (by kernel_rfl)
def c_common2 : MC := { args := [.one (.sln 0 4 2)], blks := [(0, 39, [.num (some .i64), .num (some .i64), .num (some .i64), .num (some .i64), .num (some .i64), .num (some .i64), .num (some .i64), .num (some .i64)])], rg := [(0, 60), ((-30), 1000), ((-20), 5), (1, 200), (0, 60), ((-30), 1000), ((-20), 5), (1, 200)], dom := [], res := [.agg [.num (some .i64), .num (some .i64)], .agg [.num (some .i64), .num (some .i64)], .one (.num none)], out := [], nn := 0, rng := [((-1300), 1300), ((-1300), 1300), ((-1300), 1300), ((-1300), 1300), (0, 1)], key := 32, clamp := false, rgx := [] }
def t_common2 : T (List E) :=
(.call 12 [(.v 5)] 1
(.call 12 [(.v 9)] 1
(.ite (.or (.lt (.mn (.mn (.add (.v 3) (.v 5)) (.add (.v 3) (.v 5))) (.add (.v 7) (.v 9))) (.mx (.mx (.sub (.v 3) (.v 5)) (.sub (.v 3) (.v 5))) (.sub (.v 7) (.v 9)))) (.lt (.mn (.mn (.add (.v 4) (.v 5)) (.add (.v 4) (.v 5))) (.add (.v 8) (.v 9))) (.mx (.mx (.sub (.v 4) (.v 5)) (.sub (.v 4) (.v 5))) (.sub (.v 8) (.v 9)))))
(.leaf [(.lit 0), (.lit 0), (.lit 0), (.lit 0), (.lit 0)])
(.leaf [(.mx (.mx (.sub (.v 3) (.v 5)) (.sub (.v 3) (.v 5))) (.sub (.v 7) (.v 9))), (.mx (.mx (.sub (.v 4) (.v 5)) (.sub (.v 4) (.v 5))) (.sub (.v 8) (.v 9))), (.mn (.mn (.add (.v 3) (.v 5)) (.add (.v 3) (.v 5))) (.add (.v 7) (.v 9))), (.mn (.mn (.add (.v 4) (.v 5)) (.add (.v 4) (.v 5))) (.add (.v 8) (.v 9))), (.lit 1)]))))
theorem t_common2_eq : c_common2.tree Try.prog (rowCtxE (exL en31) [] hints_FD) 60 12 18 = t_common2 := by kernel_rfl
theorem t_common2_chk : t_common2.chk c_common2 = true := by kernel_rfl
abbrev en32 : List En := (18, c_common2, t_common2) :: en31
theorem en32_con : EnCon en32 := EnCon.cons en31_con t_common2_eq (by kernel_rfl) (by kernel_rfl) (chk_det t_common2_chk)
theorem en32_kl : EnKl en32 = true := EnKl.cons en31_kl t_common2_chk (by kernel_rfl)
def c_common3 : MC := { args := [.one (.sln 0 4 3)], blks := [(0, 39, [.num (some .i64), .num (some .i64), .num (some .i64), .num (some .i64), .num (some .i64), .num (some .i64), .num (some .i64), .num (some .i64), .num (some .i64), .num (some .i64), .num (some .i64), .num (some .i64)])], rg := [(0, 60), ((-30), 1000), ((-20), 5), (1, 200), (0, 60), ((-30), 1000), ((-20), 5), (1, 200), (0, 60), ((-30), 1000), ((-20), 5), (1, 200)], dom := [], res := [.agg [.num (some .i64), .num (some .i64)], .agg [.num (some .i64), .num (some .i64)], .one (.num none)], out := [], nn := 0, rng := [((-1300), 1300), ((-1300), 1300), ((-1300), 1300), ((-1300), 1300), (0, 1)], key := 33, clamp := false, rgx := [] }
def t_common3 : T (List E) :=
(.call 12 [(.v 5)] 1
(.call 12 [(.v 9)] 1
(.call 12 [(.v 13)] 1
(.ite (.or (.lt (.mn (.mn (.mn (.add (.v 3) (.v 5)) (.add (.v 3) (.v 5))) (.add (.v 7) (.v 9))) (.add (.v 11) (.v 13))) (.mx (.mx (.mx (.sub (.v 3) (.v 5)) (.sub (.v 3) (.v 5))) (.sub (.v 7) (.v 9))) (.sub (.v 11) (.v 13)))) (.lt (.mn (.mn (.mn (.add (.v 4) (.v 5)) (.add (.v 4) (.v 5))) (.add (.v 8) (.v 9))) (.add (.v 12) (.v 13))) (.mx (.mx (.mx (.sub (.v 4) (.v 5)) (.sub (.v 4) (.v 5))) (.sub (.v 8) (.v 9))) (.sub (.v 12) (.v 13)))))
(.leaf [(.lit 0), (.lit 0), (.lit 0), (.lit 0), (.lit 0)])
(.leaf [(.mx (.mx (.mx (.sub (.v 3) (.v 5)) (.sub (.v 3) (.v 5))) (.sub (.v 7) (.v 9))) (.sub (.v 11) (.v 13))), (.mx (.mx (.mx (.sub (.v 4) (.v 5)) (.sub (.v 4) (.v 5))) (.sub (.v 8) (.v 9))) (.sub (.v 12) (.v 13))), (.mn (.mn (.mn (.add (.v 3) (.v 5)) (.add (.v 3) (.v 5))) (.add (.v 7) (.v 9))) (.add (.v 11) (.v 13))), (.mn (.mn (.mn (.add (.v 4) (.v 5)) (.add (.v 4) (.v 5))) (.add (.v 8) (.v 9))) (.add (.v 12) (.v 13))), (.lit 1)])))))
theorem t_common3_eq : c_common3.tree Try.prog (rowCtxE (exL en32) [] hints_FD) 60 12 18 = t_common3 := by kernel_rfl
theorem t_common3_chk : t_common3.chk c_common3 = true := by kernel_rfl
abbrev en33 : List En := (18, c_common3, t_common3) :: en32
theorem en33_con : EnCon en33 := EnCon.cons en32_con t_common3_eq (by kernel_rfl) (by kernel_rfl) (chk_det t_common3_chk)
theorem en33_kl : EnKl en33 = true := EnKl.cons en32_kl t_common3_chk (by kernel_rfl)
def c_common4 : MC := { args := [.one (.sln 0 4 4)], blks := [(0, 39, [.num (some .i64), .num (some .i64), .num (some .i64), .num (some .i64), .num (some .i64), .num (some .i64), .num (some .i64), .num (some .i64), .num (some .i64), .num (some .i64), .num (some .i64), .num (some .i64), .num (some .i64), .num (some .i64), .num (some .i64), .num (some .i64)])], rg := [(0, 60), ((-30), 1000), ((-20), 5), (1, 200), (0, 60), ((-30), 1000), ((-20), 5), (1, 200), (0, 60), ((-30), 1000), ((-20), 5), (1, 200), (0, 60), ((-30), 1000), ((-20), 5), (1, 200)], dom := [], res := [.agg [.num (some .i64), .num (some .i64)], .agg [.num (some .i64), .num (some .i64)], .one (.num none)], out := [], nn := 0, rng := [((-1300), 1300), ((-1300), 1300), ((-1300), 1300), ((-1300), 1300), (0, 1)], key := 34, clamp := false, rgx := [] }
def t_common4 : T (List E) :=
(.call 12 [(.v 5)] 1
(.call 12 [(.v 9)] 1
(.call 12 [(.v 13)] 1
(.call 12 [(.v 17)] 1
(.ite (.or (.lt (.mn (.mn (.mn (.mn (.add (.v 3) (.v 5)) (.add (.v 3) (.v 5))) (.add (.v 7) (.v 9))) (.add (.v 11) (.v 13))) (.add (.v 15) (.v 17))) (.mx (.mx (.mx (.mx (.sub (.v 3) (.v 5)) (.sub (.v 3) (.v 5))) (.sub (.v 7) (.v 9))) (.sub (.v 11) (.v 13))) (.sub (.v 15) (.v 17)))) (.lt (.mn (.mn (.mn (.mn (.add (.v 4) (.v 5)) (.add (.v 4) (.v 5))) (.add (.v 8) (.v 9))) (.add (.v 12) (.v 13))) (.add (.v 16) (.v 17))) (.mx (.mx (.mx (.mx (.sub (.v 4) (.v 5)) (.sub (.v 4) (.v 5))) (.sub (.v 8) (.v 9))) (.sub (.v 12) (.v 13))) (.sub (.v 16) (.v 17)))))
(.leaf [(.lit 0), (.lit 0), (.lit 0), (.lit 0), (.lit 0)])
(.leaf [(.mx (.mx (.mx (.mx (.sub (.v 3) (.v 5)) (.sub (.v 3) (.v 5))) (.sub (.v 7) (.v 9))) (.sub (.v 11) (.v 13))) (.sub (.v 15) (.v 17))), (.mx (.mx (.mx (.mx (.sub (.v 4) (.v 5)) (.sub (.v 4) (.v 5))) (.sub (.v 8) (.v 9))) (.sub (.v 12) (.v 13))) (.sub (.v 16) (.v 17))), (.mn (.mn (.mn (.mn (.add (.v 3) (.v 5)) (.add (.v 3) (.v 5))) (.add (.v 7) (.v 9))) (.add (.v 11) (.v 13))) (.add (.v 15) (.v 17))), (.mn (.mn (.mn (.mn (.add (.v 4) (.v 5)) (.add (.v 4) (.v 5))) (.add (.v 8) (.v 9))) (.add (.v 12) (.v 13))) (.add (.v 16) (.v 17))), (.lit 1)]))))))
theorem t_common4_eq : c_common4.tree Try.prog (rowCtxE (exL en33) [] hints_FD) 60 12 18 = t_common4 := by kernel_rfl
theorem t_common4_chk : t_common4.chk c_common4 = true := by kernel_rfl
abbrev en34 : List En := (18, c_common4, t_common4) :: en33
theorem en34_con : EnCon en34 := EnCon.cons en33_con t_common4_eq (by kernel_rfl) (by kernel_rfl) (chk_det t_common4_chk)
theorem en34_kl : EnKl en34 = true := EnKl.cons en33_kl t_common4_chk (by kernel_rfl)
def c_common5 : MC := { args := [.one (.sln 0 4 5)], blks := [(0, 39, [.num (some .i64), .num (some .i64), .num (some .i64), .num (some .i64), .num (some .i64), .num (some .i64), .num (some .i64), .num (some .i64), .num (some .i64), .num (some .i64), .num (some .i64), .num (some .i64), .num (some .i64), .num (some .i64), .num (some .i64), .num (some .i64), .num (some .i64), .num (some .i64), .num (some .i64), .num (some .i64)])], rg := [(0, 60), ((-30), 1000), ((-20), 5), (1, 200), (0, 60), ((-30), 1000), ((-20), 5), (1, 200), (0, 60), ((-30), 1000), ((-20), 5), (1, 200), (0, 60), ((-30), 1000), ((-20), 5), (1, 200), (0, 60), ((-30), 1000), ((-20), 5), (1, 200)], dom := [], res := [.agg [.num (some .i64), .num (some .i64)], .agg [.num (some .i64), .num (some .i64)], .one (.num none)], out := [], nn := 0, rng := [((-1300), 1300), ((-1300), 1300), ((-1300), 1300), ((-1300), 1300), (0, 1)], key := 35, clamp := false, rgx := [] }
def t_common5 : T (List E) :=
(.call 12 [(.v 5)] 1
(.call 12 [(.v 9)] 1
(.call 12 [(.v 13)] 1
(.call 12 [(.v 17)] 1
(.call 12 [(.v 21)] 1
(.ite (.or (.lt (.mn (.mn (.mn (.mn (.mn (.add (.v 3) (.v 5)) (.add (.v 3) (.v 5))) (.add (.v 7) (.v 9))) (.add (.v 11) (.v 13))) (.add (.v 15) (.v 17))) (.add (.v 19) (.v 21))) (.mx (.mx (.mx (.mx (.mx (.sub (.v 3) (.v 5)) (.sub (.v 3) (.v 5))) (.sub (.v 7) (.v 9))) (.sub (.v 11) (.v 13))) (.sub (.v 15) (.v 17))) (.sub (.v 19) (.v 21)))) (.lt (.mn (.mn (.mn (.mn (.mn (.add (.v 4) (.v 5)) (.add (.v 4) (.v 5))) (.add (.v 8) (.v 9))) (.add (.v 12) (.v 13))) (.add (.v 16) (.v 17))) (.add (.v 20) (.v 21))) (.mx (.mx (.mx (.mx (.mx (.sub (.v 4) (.v 5)) (.sub (.v 4) (.v 5))) (.sub (.v 8) (.v 9))) (.sub (.v 12) (.v 13))) (.sub (.v 16) (.v 17))) (.sub (.v 20) (.v 21)))))
(.leaf [(.lit 0), (.lit 0), (.lit 0), (.lit 0), (.lit 0)])
(.leaf [(.mx (.mx (.mx (.mx (.mx (.sub (.v 3) (.v 5)) (.sub (.v 3) (.v 5))) (.sub (.v 7) (.v 9))) (.sub (.v 11) (.v 13))) (.sub (.v 15) (.v 17))) (.sub (.v 19) (.v 21))), (.mx (.mx (.mx (.mx (.mx (.sub (.v 4) (.v 5)) (.sub (.v 4) (.v 5))) (.sub (.v 8) (.v 9))) (.sub (.v 12) (.v 13))) (.sub (.v 16) (.v 17))) (.sub (.v 20) (.v 21))), (.mn (.mn (.mn (.mn (.mn (.add (.v 3) (.v 5)) (.add (.v 3) (.v 5))) (.add (.v 7) (.v 9))) (.add (.v 11) (.v 13))) (.add (.v 15) (.v 17))) (.add (.v 19) (.v 21))), (.mn (.mn (.mn (.mn (.mn (.add (.v 4) (.v 5)) (.add (.v 4) (.v 5))) (.add (.v 8) (.v 9))) (.add (.v 12) (.v 13))) (.add (.v 16) (.v 17))) (.add (.v 20) (.v 21))), (.lit 1)])))))))
theorem t_common5_eq : c_common5.tree Try.prog (rowCtxE (exL en34) [] hints_FD) 60 12 18 = t_common5 := by kernel_rfl
theorem t_common5_chk : t_common5.chk c_common5 = true := by kernel_rfl
abbrev en35 : List En := (18, c_common5, t_common5) :: en34
theorem en35_con : EnCon en35 := EnCon.cons en34_con t_common5_eq (by kernel_rfl) (by kernel_rfl) (chk_det t_common5_chk)
theorem en35_kl : EnKl en35 = true := EnKl.cons en34_kl t_common5_chk (by kernel_rfl)
def c_hull1 : MC := { args := [.one (.sln 0 4 1)], blks := [(0, 39, [.num (some .i64), .num (some .i64), .num (some .i64), .num (some .i64)])], rg := [(0, 60), ((-30), 1000), ((-20), 5), (1, 200)], dom := [], res := [.agg [.num (some .i64), .num (some .i64)], .agg [.num (some .i64), .num (some .i64)], .one (.num none)], out := [], nn := 0, rng := [((-1300), 1300), ((-1300), 1300), ((-1300), 1300), ((-1300), 1300), (1, 1)], key := 41, clamp := false, rgx := [] }
def t_hull1 : T (List E) :=
(.call 12 [(.v 5)] 1
(.leaf [(.mn (.sub (.v 3) (.v 5)) (.sub (.v 3) (.v 5))), (.mn (.sub (.v 4) (.v 5)) (.sub (.v 4) (.v 5))), (.mx (.add (.v 3) (.v 5)) (.add (.v 3) (.v 5))), (.mx (.add (.v 4) (.v 5)) (.add (.v 4) (.v 5))), (.lit 1)]))
theorem t_hull1_eq : c_hull1.tree Try.prog (rowCtxE (exL en35) [] hints_FD) 60 12 20 = t_hull1 := by kernel_rfl
theorem t_hull1_chk : t_hull1.chk c_hull1 = true := by kernel_rfl
abbrev en41 : List En := (20, c_hull1, t_hull1) :: en35
theorem en41_con : EnCon en41 := EnCon.cons en35_con t_hull1_eq (by kernel_rfl) (by kernel_rfl) (chk_det t_hull1_chk)
theorem en41_kl : EnKl en41 = true := EnKl.cons en35_kl t_hull1_chk (by kernel_rfl)
def c_hull2 : MC := { args := [.one (.sln 0 4 2)], blks := [(0, 39, [.num (some .i64), .num (some .i64), .num (some .i64), .num (some .i64), .num (some .i64), .num (some .i64), .num (some .i64), .num (some .i64)])], rg := [(0, 60), ((-30), 1000), ((-20), 5), (1, 200), (0, 60), ((-30), 1000), ((-20), 5), (1, 200)], dom := [], res := [.agg [.num (some .i64), .num (some .i64)], .agg [.num (some .i64), .num (some .i64)], .one (.num none)], out := [], nn := 0, rng := [((-1300), 1300), ((-1300), 1300), ((-1300), 1300), ((-1300), 1300), (1, 1)], key := 42, clamp := false, rgx := [] }
def t_hull2 : T (List E) :=
(.call 12 [(.v 5)] 1
(.call 12 [(.v 9)] 1
(.leaf [(.mn (.mn (.sub (.v 3) (.v 5)) (.sub (.v 3) (.v 5))) (.sub (.v 7) (.v 9))), (.mn (.mn (.sub (.v 4) (.v 5)) (.sub (.v 4) (.v 5))) (.sub (.v 8) (.v 9))), (.mx (.mx (.add (.v 3) (.v 5)) (.add (.v 3) (.v 5))) (.add (.v 7) (.v 9))), (.mx (.mx (.add (.v 4) (.v 5)) (.add (.v 4) (.v 5))) (.add (.v 8) (.v 9))), (.lit 1)])))
theorem t_hull2_eq : c_hull2.tree Try.prog (rowCtxE (exL en41) [] hints_FD) 60 12 20 = t_hull2 := by kernel_rfl
theorem t_hull2_chk : t_hull2.chk c_hull2 = true := by kernel_rfl
abbrev en42 : List En := (20, c_hull2, t_hull2) :: en41
theorem en42_con : EnCon en42 := EnCon.cons en41_con t_hull2_eq (by kernel_rfl) (by kernel_rfl) (chk_det t_hull2_chk)
theorem en42_kl : EnKl en42 = true := EnKl.cons en41_kl t_hull2_chk (by kernel_rfl)
def c_hull3 : MC := { args := [.one (.sln 0 4 3)], blks := [(0, 39, [.num (some .i64), .num (some .i64), .num (some .i64), .num (some .i64), .num (some .i64), .num (some .i64), .num (some .i64), .num (some .i64), .num (some .i64), .num (some .i64), .num (some .i64), .num (some .i64)])], rg := [(0, 60), ((-30), 1000), ((-20), 5), (1, 200), (0, 60), ((-30), 1000), ((-20), 5), (1, 200), (0, 60), ((-30), 1000), ((-20), 5), (1, 200)], dom := [], res := [.agg [.num (some .i64), .num (some .i64)], .agg [.num (some .i64), .num (some .i64)], .one (.num none)], out := [], nn := 0, rng := [((-1300), 1300), ((-1300), 1300), ((-1300), 1300), ((-1300), 1300), (1, 1)], key := 43, clamp := false, rgx := [] }
def t_hull3 : T (List E) :=
(.call 12 [(.v 5)] 1
(.call 12 [(.v 9)] 1
(.call 12 [(.v 13)] 1
(.leaf [(.mn (.mn (.mn (.sub (.v 3) (.v 5)) (.sub (.v 3) (.v 5))) (.sub (.v 7) (.v 9))) (.sub (.v 11) (.v 13))), (.mn (.mn (.mn (.sub (.v 4) (.v 5)) (.sub (.v 4) (.v 5))) (.sub (.v 8) (.v 9))) (.sub (.v 12) (.v 13))), (.mx (.mx (.mx (.add (.v 3) (.v 5)) (.add (.v 3) (.v 5))) (.add (.v 7) (.v 9))) (.add (.v 11) (.v 13))), (.mx (.mx (.mx (.add (.v 4) (.v 5)) (.add (.v 4) (.v 5))) (.add (.v 8) (.v 9))) (.add (.v 12) (.v 13))), (.lit 1)]))))
theorem t_hull3_eq : c_hull3.tree Try.prog (rowCtxE (exL en42) [] hints_FD) 60 12 20 = t_hull3 := by kernel_rfl
theorem t_hull3_chk : t_hull3.chk c_hull3 = true := by kernel_rfl
abbrev en43 : List En := (20, c_hull3, t_hull3) :: en42
theorem en43_con : EnCon en43 := EnCon.cons en42_con t_hull3_eq (by kernel_rfl) (by kernel_rfl) (chk_det t_hull3_chk)
theorem en43_kl : EnKl en43 = true := EnKl.cons en42_kl t_hull3_chk (by kernel_rfl)
def c_hull4 : MC := { args := [.one (.sln 0 4 4)], blks := [(0, 39, [.num (some .i64), .num (some .i64), .num (some .i64), .num (some .i64), .num (some .i64), .num (some .i64), .num (some .i64), .num (some .i64), .num (some .i64), .num (some .i64), .num (some .i64), .num (some .i64), .num (some .i64), .num (some .i64), .num (some .i64), .num (some .i64)])], rg := [(0, 60), ((-30), 1000), ((-20), 5), (1, 200), (0, 60), ((-30), 1000), ((-20), 5), (1, 200), (0, 60), ((-30), 1000), ((-20), 5), (1, 200), (0, 60), ((-30), 1000), ((-20), 5), (1, 200)], dom := [], res := [.agg [.num (some .i64), .num (some .i64)], .agg [.num (some .i64), .num (some .i64)], .one (.num none)], out := [], nn := 0, rng := [((-1300), 1300), ((-1300), 1300), ((-1300), 1300), ((-1300), 1300), (1, 1)], key := 44, clamp := false, rgx := [] }
def t_hull4 : T (List E) :=
(.call 12 [(.v 5)] 1
(.call 12 [(.v 9)] 1
(.call 12 [(.v 13)] 1
(.call 12 [(.v 17)] 1
(.leaf [(.mn (.mn (.mn (.mn (.sub (.v 3) (.v 5)) (.sub (.v 3) (.v 5))) (.sub (.v 7) (.v 9))) (.sub (.v 11) (.v 13))) (.sub (.v 15) (.v 17))), (.mn (.mn (.mn (.mn (.sub (.v 4) (.v 5)) (.sub (.v 4) (.v 5))) (.sub (.v 8) (.v 9))) (.sub (.v 12) (.v 13))) (.sub (.v 16) (.v 17))), (.mx (.mx (.mx (.mx (.add (.v 3) (.v 5)) (.add (.v 3) (.v 5))) (.add (.v 7) (.v 9))) (.add (.v 11) (.v 13))) (.add (.v 15) (.v 17))), (.mx (.mx (.mx (.mx (.add (.v 4) (.v 5)) (.add (.v 4) (.v 5))) (.add (.v 8) (.v 9))) (.add (.v 12) (.v 13))) (.add (.v 16) (.v 17))), (.lit 1)])))))
theorem t_hull4_eq : c_hull4.tree Try.prog (rowCtxE (exL en43) [] hints_FD) 60 12 20 = t_hull4 := by kernel_rfl
theorem t_hull4_chk : t_hull4.chk c_hull4 = true := by kernel_rfl
abbrev en44 : List En := (20, c_hull4, t_hull4) :: en43
theorem en44_con : EnCon en44 := EnCon.cons en43_con t_hull4_eq (by kernel_rfl) (by kernel_rfl) (chk_det t_hull4_chk)
theorem en44_kl : EnKl en44 = true := EnKl.cons en43_kl t_hull4_chk (by kernel_rfl)
def c_hull5 : MC := { args := [.one (.sln 0 4 5)], blks := [(0, 39, [.num (some .i64), .num (some .i64), .num (some .i64), .num (some .i64), .num (some .i64), .num (some .i64), .num (some .i64), .num (some .i64), .num (some .i64), .num (some .i64), .num (some .i64), .num (some .i64), .num (some .i64), .num (some .i64), .num (some .i64), .num (some .i64), .num (some .i64), .num (some .i64), .num (some .i64), .num (some .i64)])], rg := [(0, 60), ((-30), 1000), ((-20), 5), (1, 200), (0, 60), ((-30), 1000), ((-20), 5), (1, 200), (0, 60), ((-30), 1000), ((-20), 5), (1, 200), (0, 60), ((-30), 1000), ((-20), 5), (1, 200), (0, 60), ((-30), 1000), ((-20), 5), (1, 200)], dom := [], res := [.agg [.num (some .i64), .num (some .i64)], .agg [.num (some .i64), .num (some .i64)], .one (.num none)], out := [], nn := 0, rng := [((-1300), 1300), ((-1300), 1300), ((-1300), 1300), ((-1300), 1300), (1, 1)], key := 45, clamp := false, rgx := [] }
def t_hull5 : T (List E) :=
(.call 12 [(.v 5)] 1
(.call 12 [(.v 9)] 1
(.call 12 [(.v 13)] 1
(.call 12 [(.v 17)] 1
(.call 12 [(.v 21)] 1
(.leaf [(.mn (.mn (.mn (.mn (.mn (.sub (.v 3) (.v 5)) (.sub (.v 3) (.v 5))) (.sub (.v 7) (.v 9))) (.sub (.v 11) (.v 13))) (.sub (.v 15) (.v 17))) (.sub (.v 19) (.v 21))), (.mn (.mn (.mn (.mn (.mn (.sub (.v 4) (.v 5)) (.sub (.v 4) (.v 5))) (.sub (.v 8) (.v 9))) (.sub (.v 12) (.v 13))) (.sub (.v 16) (.v 17))) (.sub (.v 20) (.v 21))), (.mx (.mx (.mx (.mx (.mx (.add (.v 3) (.v 5)) (.add (.v 3) (.v 5))) (.add (.v 7) (.v 9))) (.add (.v 11) (.v 13))) (.add (.v 15) (.v 17))) (.add (.v 19) (.v 21))), (.mx (.mx (.mx (.mx (.mx (.add (.v 4) (.v 5)) (.add (.v 4) (.v 5))) (.add (.v 8) (.v 9))) (.add (.v 12) (.v 13))) (.add (.v 16) (.v 17))) (.add (.v 20) (.v 21))), (.lit 1)]))))))
theorem t_hull5_eq : c_hull5.tree Try.prog (rowCtxE (exL en44) [] hints_FD) 60 12 20 = t_hull5 := by kernel_rfl
theorem t_hull5_chk : t_hull5.chk c_hull5 = true := by kernel_rfl
abbrev en45 : List En := (20, c_hull5, t_hull5) :: en44
theorem en45_con : EnCon en45 := EnCon.cons en44_con t_hull5_eq (by kernel_rfl) (by kernel_rfl) (chk_det t_hull5_chk)
theorem en45_kl : EnKl en45 = true := EnKl.cons en44_kl t_hull5_chk (by kernel_rfl)
end Go.Proofs.Ytcedkkleclhglaa
