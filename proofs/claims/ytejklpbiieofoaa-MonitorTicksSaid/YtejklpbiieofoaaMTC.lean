/- Runs over some fixes, and ticks: contracts. -/
import Derived.Test.YtejklpbiieofoaaMTB
set_option linter.unusedSimpArgs false
set_option linter.unusedVariables false
set_option maxRecDepth 100000
namespace Go.Proofs.Ytejklpbiieofoaa
open Go.RowKit Ev
def hints_MTC : FuncId → Nat → Option Hint := fun _ _ => none
def c_run0 : MC := { args := [.agg [.num (some .i64), .num (some .i64), .num (some .i64), .num (some .i64)], .one (.nils)], blks := [], rg := [(0, 3), (0, 100), (1, 10), (0, 4)], dom := [], res := [.agg [.num (some .i64), .num (some .i64), .num (some .i64), .num (some .i64), .num (some .i64), .num (some .i64), .num (some .i64), .num (some .i64), .num none, .num (some .i64), .num (some .i64)], .one (.num (some .i64))], out := [], nn := 0, rng := [(0, 60), ((-30), 1000), ((-20), 5), (0, 200), (0, 60), ((-30), 1000), ((-20), 5), (0, 200), (0, 1), (0, 0), (0, 4), (0, 16)], key := 20, clamp := false, rgx := [] }
def t_run0 : T (List E) :=
(.leaf [(.lit 0), (.lit 0), (.lit 0), (.lit 0), (.lit 0), (.lit 0), (.lit 0), (.lit 0), (.lit 0), (.lit 0), (.lit 0), (.lit 0)])
theorem t_run0_eq : c_run0.tree Try.prog (rowCtxE (exL en18) [] hints_MTC) 60 12 14 = t_run0 := by kernel_rfl
theorem t_run0_chk : t_run0.chk c_run0 = true := by kernel_rfl
abbrev en20 : List En := (14, c_run0, t_run0) :: en18
theorem en20_con : EnCon en20 := EnCon.cons en18_con t_run0_eq (by kernel_rfl) (by kernel_rfl) (chk_det t_run0_chk)
theorem en20_kl : EnKl en20 = true := EnKl.cons en18_kl t_run0_chk (by kernel_rfl)
def c_run1 : MC := { args := [.agg [.num (some .i64), .num (some .i64), .num (some .i64), .num (some .i64)], .one (.sln 0 4 1)], blks := [(0, 29, [.num (some .i64), .num (some .i64), .num (some .i64), .num (some .i64)])], rg := [(0, 3), (0, 100), (1, 10), (0, 4), (0, 60), ((-30), 1000), ((-20), 5), (1, 200)], dom := [], res := [.agg [.num (some .i64), .num (some .i64), .num (some .i64), .num (some .i64), .num (some .i64), .num (some .i64), .num (some .i64), .num (some .i64), .num none, .num (some .i64), .num (some .i64)], .one (.num (some .i64))], out := [], nn := 0, rng := [(0, 60), ((-30), 1000), ((-20), 5), (0, 200), (0, 60), ((-30), 1000), ((-20), 5), (0, 200), (0, 1), (0, 1), (0, 4), (0, 16)], key := 21, clamp := false, rgx := [] }
def t_run1 : T (List E) :=
(.call 18 [(.v 2), (.v 3), (.v 4), (.v 5), (.lit 0), (.lit 0), (.lit 0), (.lit 0), (.lit 0), (.lit 0), (.lit 0), (.lit 0), (.lit 0), (.lit 0), (.lit 0), (.v 6), (.v 7), (.v 8), (.v 9)] 12
(.ite (.not (.eq (.v 21) (.lit 0)))
(.leaf [(.lit 0), (.lit 0), (.lit 0), (.lit 0), (.lit 0), (.lit 0), (.lit 0), (.lit 0), (.lit 0), (.lit 0), (.lit 0), (.v 21)])
(.leaf [(.v 10), (.v 11), (.v 12), (.v 13), (.v 14), (.v 15), (.v 16), (.v 17), (.v 18), (.v 19), (.v 20), (.lit 0)])))
theorem t_run1_eq : c_run1.tree Try.prog (rowCtxE (exL en20) [] hints_MTC) 60 12 14 = t_run1 := by kernel_rfl
theorem t_run1_chk : t_run1.chk c_run1 = true := by kernel_rfl
abbrev en21 : List En := (14, c_run1, t_run1) :: en20
theorem en21_con : EnCon en21 := EnCon.cons en20_con t_run1_eq (by kernel_rfl) (by kernel_rfl) (chk_det t_run1_chk)
theorem en21_kl : EnKl en21 = true := EnKl.cons en20_kl t_run1_chk (by kernel_rfl)
def c_run2 : MC := { args := [.agg [.num (some .i64), .num (some .i64), .num (some .i64), .num (some .i64)], .one (.sln 0 4 2)], blks := [(0, 29, [.num (some .i64), .num (some .i64), .num (some .i64), .num (some .i64), .num (some .i64), .num (some .i64), .num (some .i64), .num (some .i64)])], rg := [(0, 3), (0, 100), (1, 10), (0, 4), (0, 60), ((-30), 1000), ((-20), 5), (1, 200), (0, 60), ((-30), 1000), ((-20), 5), (1, 200)], dom := [], res := [.agg [.num (some .i64), .num (some .i64), .num (some .i64), .num (some .i64), .num (some .i64), .num (some .i64), .num (some .i64), .num (some .i64), .num none, .num (some .i64), .num (some .i64)], .one (.num (some .i64))], out := [], nn := 0, rng := [(0, 60), ((-30), 1000), ((-20), 5), (0, 200), (0, 60), ((-30), 1000), ((-20), 5), (0, 200), (0, 1), (0, 2), (0, 4), (0, 16)], key := 22, clamp := false, rgx := [] }
def t_run2 : T (List E) :=
(.call 18 [(.v 2), (.v 3), (.v 4), (.v 5), (.lit 0), (.lit 0), (.lit 0), (.lit 0), (.lit 0), (.lit 0), (.lit 0), (.lit 0), (.lit 0), (.lit 0), (.lit 0), (.v 6), (.v 7), (.v 8), (.v 9)] 12
(.ite (.not (.eq (.v 25) (.lit 0)))
(.leaf [(.lit 0), (.lit 0), (.lit 0), (.lit 0), (.lit 0), (.lit 0), (.lit 0), (.lit 0), (.lit 0), (.lit 0), (.lit 0), (.v 25)])
(.call 17 [(.v 2), (.v 3), (.v 4), (.v 5), (.v 14), (.v 15), (.v 16), (.v 17), (.v 18), (.v 19), (.v 20), (.v 21), (.v 22), (.v 23), (.v 24), (.v 10), (.v 11), (.v 12), (.v 13)] 12
(.ite (.not (.eq (.v 37) (.lit 0)))
(.leaf [(.v 14), (.v 15), (.v 16), (.v 17), (.v 18), (.v 19), (.v 20), (.v 21), (.v 22), (.v 23), (.v 24), (.v 37)])
(.leaf [(.v 26), (.v 27), (.v 28), (.v 29), (.v 30), (.v 31), (.v 32), (.v 33), (.v 34), (.v 35), (.v 36), (.lit 0)])))))
theorem t_run2_eq : c_run2.tree Try.prog (rowCtxE (exL en21) [] hints_MTC) 60 12 14 = t_run2 := by kernel_rfl
theorem t_run2_chk : t_run2.chk c_run2 = true := by kernel_rfl
abbrev en22 : List En := (14, c_run2, t_run2) :: en21
theorem en22_con : EnCon en22 := EnCon.cons en21_con t_run2_eq (by kernel_rfl) (by kernel_rfl) (chk_det t_run2_chk)
theorem en22_kl : EnKl en22 = true := EnKl.cons en21_kl t_run2_chk (by kernel_rfl)
def c_run3 : MC := { args := [.agg [.num (some .i64), .num (some .i64), .num (some .i64), .num (some .i64)], .one (.sln 0 4 3)], blks := [(0, 29, [.num (some .i64), .num (some .i64), .num (some .i64), .num (some .i64), .num (some .i64), .num (some .i64), .num (some .i64), .num (some .i64), .num (some .i64), .num (some .i64), .num (some .i64), .num (some .i64)])], rg := [(0, 3), (0, 100), (1, 10), (0, 4), (0, 60), ((-30), 1000), ((-20), 5), (1, 200), (0, 60), ((-30), 1000), ((-20), 5), (1, 200), (0, 60), ((-30), 1000), ((-20), 5), (1, 200)], dom := [], res := [.agg [.num (some .i64), .num (some .i64), .num (some .i64), .num (some .i64), .num (some .i64), .num (some .i64), .num (some .i64), .num (some .i64), .num none, .num (some .i64), .num (some .i64)], .one (.num (some .i64))], out := [], nn := 0, rng := [(0, 60), ((-30), 1000), ((-20), 5), (0, 200), (0, 60), ((-30), 1000), ((-20), 5), (0, 200), (0, 1), (0, 3), (0, 4), (0, 16)], key := 23, clamp := false, rgx := [] }
def t_run3 : T (List E) :=
(.call 18 [(.v 2), (.v 3), (.v 4), (.v 5), (.lit 0), (.lit 0), (.lit 0), (.lit 0), (.lit 0), (.lit 0), (.lit 0), (.lit 0), (.lit 0), (.lit 0), (.lit 0), (.v 6), (.v 7), (.v 8), (.v 9)] 12
(.ite (.not (.eq (.v 29) (.lit 0)))
(.leaf [(.lit 0), (.lit 0), (.lit 0), (.lit 0), (.lit 0), (.lit 0), (.lit 0), (.lit 0), (.lit 0), (.lit 0), (.lit 0), (.v 29)])
(.call 17 [(.v 2), (.v 3), (.v 4), (.v 5), (.v 18), (.v 19), (.v 20), (.v 21), (.v 22), (.v 23), (.v 24), (.v 25), (.v 26), (.v 27), (.v 28), (.v 10), (.v 11), (.v 12), (.v 13)] 12
(.ite (.not (.eq (.v 41) (.lit 0)))
(.leaf [(.v 18), (.v 19), (.v 20), (.v 21), (.v 22), (.v 23), (.v 24), (.v 25), (.v 26), (.v 27), (.v 28), (.v 41)])
(.call 16 [(.v 2), (.v 3), (.v 4), (.v 5), (.v 30), (.v 31), (.v 32), (.v 33), (.v 34), (.v 35), (.v 36), (.v 37), (.v 38), (.v 39), (.v 40), (.v 14), (.v 15), (.v 16), (.v 17)] 12
(.ite (.not (.eq (.v 53) (.lit 0)))
(.leaf [(.v 30), (.v 31), (.v 32), (.v 33), (.v 34), (.v 35), (.v 36), (.v 37), (.v 38), (.v 39), (.v 40), (.v 53)])
(.leaf [(.v 42), (.v 43), (.v 44), (.v 45), (.v 46), (.v 47), (.v 48), (.v 49), (.v 50), (.v 51), (.v 52), (.lit 0)])))))))
theorem t_run3_eq : c_run3.tree Try.prog (rowCtxE (exL en22) [] hints_MTC) 60 12 14 = t_run3 := by kernel_rfl
theorem t_run3_chk : t_run3.chk c_run3 = true := by kernel_rfl
abbrev en23 : List En := (14, c_run3, t_run3) :: en22
theorem en23_con : EnCon en23 := EnCon.cons en22_con t_run3_eq (by kernel_rfl) (by kernel_rfl) (chk_det t_run3_chk)
theorem en23_kl : EnKl en23 = true := EnKl.cons en22_kl t_run3_chk (by kernel_rfl)
def c_run4 : MC := { args := [.agg [.num (some .i64), .num (some .i64), .num (some .i64), .num (some .i64)], .one (.sln 0 4 4)], blks := [(0, 29, [.num (some .i64), .num (some .i64), .num (some .i64), .num (some .i64), .num (some .i64), .num (some .i64), .num (some .i64), .num (some .i64), .num (some .i64), .num (some .i64), .num (some .i64), .num (some .i64), .num (some .i64), .num (some .i64), .num (some .i64), .num (some .i64)])], rg := [(0, 3), (0, 100), (1, 10), (0, 4), (0, 60), ((-30), 1000), ((-20), 5), (1, 200), (0, 60), ((-30), 1000), ((-20), 5), (1, 200), (0, 60), ((-30), 1000), ((-20), 5), (1, 200), (0, 60), ((-30), 1000), ((-20), 5), (1, 200)], dom := [], res := [.agg [.num (some .i64), .num (some .i64), .num (some .i64), .num (some .i64), .num (some .i64), .num (some .i64), .num (some .i64), .num (some .i64), .num none, .num (some .i64), .num (some .i64)], .one (.num (some .i64))], out := [], nn := 0, rng := [(0, 60), ((-30), 1000), ((-20), 5), (0, 200), (0, 60), ((-30), 1000), ((-20), 5), (0, 200), (0, 1), (0, 4), (0, 4), (0, 16)], key := 24, clamp := false, rgx := [] }
def t_run4 : T (List E) :=
(.call 18 [(.v 2), (.v 3), (.v 4), (.v 5), (.lit 0), (.lit 0), (.lit 0), (.lit 0), (.lit 0), (.lit 0), (.lit 0), (.lit 0), (.lit 0), (.lit 0), (.lit 0), (.v 6), (.v 7), (.v 8), (.v 9)] 12
(.ite (.not (.eq (.v 33) (.lit 0)))
(.leaf [(.lit 0), (.lit 0), (.lit 0), (.lit 0), (.lit 0), (.lit 0), (.lit 0), (.lit 0), (.lit 0), (.lit 0), (.lit 0), (.v 33)])
(.call 17 [(.v 2), (.v 3), (.v 4), (.v 5), (.v 22), (.v 23), (.v 24), (.v 25), (.v 26), (.v 27), (.v 28), (.v 29), (.v 30), (.v 31), (.v 32), (.v 10), (.v 11), (.v 12), (.v 13)] 12
(.ite (.not (.eq (.v 45) (.lit 0)))
(.leaf [(.v 22), (.v 23), (.v 24), (.v 25), (.v 26), (.v 27), (.v 28), (.v 29), (.v 30), (.v 31), (.v 32), (.v 45)])
(.call 16 [(.v 2), (.v 3), (.v 4), (.v 5), (.v 34), (.v 35), (.v 36), (.v 37), (.v 38), (.v 39), (.v 40), (.v 41), (.v 42), (.v 43), (.v 44), (.v 14), (.v 15), (.v 16), (.v 17)] 12
(.ite (.not (.eq (.v 57) (.lit 0)))
(.leaf [(.v 34), (.v 35), (.v 36), (.v 37), (.v 38), (.v 39), (.v 40), (.v 41), (.v 42), (.v 43), (.v 44), (.v 57)])
(.call 15 [(.v 2), (.v 3), (.v 4), (.v 5), (.v 46), (.v 47), (.v 48), (.v 49), (.v 50), (.v 51), (.v 52), (.v 53), (.v 54), (.v 55), (.v 56), (.v 18), (.v 19), (.v 20), (.v 21)] 12
(.ite (.not (.eq (.v 69) (.lit 0)))
(.leaf [(.v 46), (.v 47), (.v 48), (.v 49), (.v 50), (.v 51), (.v 52), (.v 53), (.v 54), (.v 55), (.v 56), (.v 69)])
(.leaf [(.v 58), (.v 59), (.v 60), (.v 61), (.v 62), (.v 63), (.v 64), (.v 65), (.v 66), (.v 67), (.v 68), (.lit 0)])))))))))
theorem t_run4_eq : c_run4.tree Try.prog (rowCtxE (exL en23) [] hints_MTC) 60 12 14 = t_run4 := by kernel_rfl
theorem t_run4_chk : t_run4.chk c_run4 = true := by kernel_rfl
abbrev en24 : List En := (14, c_run4, t_run4) :: en23
theorem en24_con : EnCon en24 := EnCon.cons en23_con t_run4_eq (by kernel_rfl) (by kernel_rfl) (chk_det t_run4_chk)
theorem en24_kl : EnKl en24 = true := EnKl.cons en23_kl t_run4_chk (by kernel_rfl)
def c_run5 : MC := { args := [.agg [.num (some .i64), .num (some .i64), .num (some .i64), .num (some .i64)], .one (.sln 0 4 5)], blks := [(0, 29, [.num (some .i64), .num (some .i64), .num (some .i64), .num (some .i64), .num (some .i64), .num (some .i64), .num (some .i64), .num (some .i64), .num (some .i64), .num (some .i64), .num (some .i64), .num (some .i64), .num (some .i64), .num (some .i64), .num (some .i64), .num (some .i64), .num (some .i64), .num (some .i64), .num (some .i64), .num (some .i64)])], rg := [(0, 3), (0, 100), (1, 10), (0, 4), (0, 60), ((-30), 1000), ((-20), 5), (1, 200), (0, 60), ((-30), 1000), ((-20), 5), (1, 200), (0, 60), ((-30), 1000), ((-20), 5), (1, 200), (0, 60), ((-30), 1000), ((-20), 5), (1, 200), (0, 60), ((-30), 1000), ((-20), 5), (1, 200)], dom := [], res := [.agg [.num (some .i64), .num (some .i64), .num (some .i64), .num (some .i64), .num (some .i64), .num (some .i64), .num (some .i64), .num (some .i64), .num none, .num (some .i64), .num (some .i64)], .one (.num (some .i64))], out := [], nn := 0, rng := [(0, 60), ((-30), 1000), ((-20), 5), (0, 200), (0, 60), ((-30), 1000), ((-20), 5), (0, 200), (0, 1), (0, 5), (0, 4), (0, 16)], key := 25, clamp := false, rgx := [] }
def t_run5 : T (List E) :=
(.call 18 [(.v 2), (.v 3), (.v 4), (.v 5), (.lit 0), (.lit 0), (.lit 0), (.lit 0), (.lit 0), (.lit 0), (.lit 0), (.lit 0), (.lit 0), (.lit 0), (.lit 0), (.v 6), (.v 7), (.v 8), (.v 9)] 12
(.ite (.not (.eq (.v 37) (.lit 0)))
(.leaf [(.lit 0), (.lit 0), (.lit 0), (.lit 0), (.lit 0), (.lit 0), (.lit 0), (.lit 0), (.lit 0), (.lit 0), (.lit 0), (.v 37)])
(.call 17 [(.v 2), (.v 3), (.v 4), (.v 5), (.v 26), (.v 27), (.v 28), (.v 29), (.v 30), (.v 31), (.v 32), (.v 33), (.v 34), (.v 35), (.v 36), (.v 10), (.v 11), (.v 12), (.v 13)] 12
(.ite (.not (.eq (.v 49) (.lit 0)))
(.leaf [(.v 26), (.v 27), (.v 28), (.v 29), (.v 30), (.v 31), (.v 32), (.v 33), (.v 34), (.v 35), (.v 36), (.v 49)])
(.call 16 [(.v 2), (.v 3), (.v 4), (.v 5), (.v 38), (.v 39), (.v 40), (.v 41), (.v 42), (.v 43), (.v 44), (.v 45), (.v 46), (.v 47), (.v 48), (.v 14), (.v 15), (.v 16), (.v 17)] 12
(.ite (.not (.eq (.v 61) (.lit 0)))
(.leaf [(.v 38), (.v 39), (.v 40), (.v 41), (.v 42), (.v 43), (.v 44), (.v 45), (.v 46), (.v 47), (.v 48), (.v 61)])
(.call 15 [(.v 2), (.v 3), (.v 4), (.v 5), (.v 50), (.v 51), (.v 52), (.v 53), (.v 54), (.v 55), (.v 56), (.v 57), (.v 58), (.v 59), (.v 60), (.v 18), (.v 19), (.v 20), (.v 21)] 12
(.ite (.not (.eq (.v 73) (.lit 0)))
(.leaf [(.v 50), (.v 51), (.v 52), (.v 53), (.v 54), (.v 55), (.v 56), (.v 57), (.v 58), (.v 59), (.v 60), (.v 73)])
(.call 14 [(.v 2), (.v 3), (.v 4), (.v 5), (.v 62), (.v 63), (.v 64), (.v 65), (.v 66), (.v 67), (.v 68), (.v 69), (.v 70), (.v 71), (.v 72), (.v 22), (.v 23), (.v 24), (.v 25)] 12
(.ite (.not (.eq (.v 85) (.lit 0)))
(.leaf [(.v 62), (.v 63), (.v 64), (.v 65), (.v 66), (.v 67), (.v 68), (.v 69), (.v 70), (.v 71), (.v 72), (.v 85)])
(.leaf [(.v 74), (.v 75), (.v 76), (.v 77), (.v 78), (.v 79), (.v 80), (.v 81), (.v 82), (.v 83), (.v 84), (.lit 0)])))))))))))
theorem t_run5_eq : c_run5.tree Try.prog (rowCtxE (exL en24) [] hints_MTC) 60 12 14 = t_run5 := by kernel_rfl
theorem t_run5_chk : t_run5.chk c_run5 = true := by kernel_rfl
abbrev en25 : List En := (14, c_run5, t_run5) :: en24
theorem en25_con : EnCon en25 := EnCon.cons en24_con t_run5_eq (by kernel_rfl) (by kernel_rfl) (chk_det t_run5_chk)
theorem en25_kl : EnKl en25 = true := EnKl.cons en24_kl t_run5_chk (by kernel_rfl)
def c_run6 : MC := { args := [.agg [.num (some .i64), .num (some .i64), .num (some .i64), .num (some .i64)], .one (.sln 0 4 6)], blks := [(0, 29, [.num (some .i64), .num (some .i64), .num (some .i64), .num (some .i64), .num (some .i64), .num (some .i64), .num (some .i64), .num (some .i64), .num (some .i64), .num (some .i64), .num (some .i64), .num (some .i64), .num (some .i64), .num (some .i64), .num (some .i64), .num (some .i64), .num (some .i64), .num (some .i64), .num (some .i64), .num (some .i64), .num (some .i64), .num (some .i64), .num (some .i64), .num (some .i64)])], rg := [(0, 3), (0, 100), (1, 10), (0, 4), (0, 60), ((-30), 1000), ((-20), 5), (1, 200), (0, 60), ((-30), 1000), ((-20), 5), (1, 200), (0, 60), ((-30), 1000), ((-20), 5), (1, 200), (0, 60), ((-30), 1000), ((-20), 5), (1, 200), (0, 60), ((-30), 1000), ((-20), 5), (1, 200), (0, 60), ((-30), 1000), ((-20), 5), (1, 200)], dom := [], res := [.agg [.num (some .i64), .num (some .i64), .num (some .i64), .num (some .i64), .num (some .i64), .num (some .i64), .num (some .i64), .num (some .i64), .num none, .num (some .i64), .num (some .i64)], .one (.num (some .i64))], out := [], nn := 0, rng := [(0, 60), ((-30), 1000), ((-20), 5), (0, 200), (0, 60), ((-30), 1000), ((-20), 5), (0, 200), (0, 1), (0, 6), (0, 4), (0, 16)], key := 26, clamp := false, rgx := [] }
def t_run6 : T (List E) :=
(.call 18 [(.v 2), (.v 3), (.v 4), (.v 5), (.lit 0), (.lit 0), (.lit 0), (.lit 0), (.lit 0), (.lit 0), (.lit 0), (.lit 0), (.lit 0), (.lit 0), (.lit 0), (.v 6), (.v 7), (.v 8), (.v 9)] 12
(.ite (.not (.eq (.v 41) (.lit 0)))
(.leaf [(.lit 0), (.lit 0), (.lit 0), (.lit 0), (.lit 0), (.lit 0), (.lit 0), (.lit 0), (.lit 0), (.lit 0), (.lit 0), (.v 41)])
(.call 17 [(.v 2), (.v 3), (.v 4), (.v 5), (.v 30), (.v 31), (.v 32), (.v 33), (.v 34), (.v 35), (.v 36), (.v 37), (.v 38), (.v 39), (.v 40), (.v 10), (.v 11), (.v 12), (.v 13)] 12
(.ite (.not (.eq (.v 53) (.lit 0)))
(.leaf [(.v 30), (.v 31), (.v 32), (.v 33), (.v 34), (.v 35), (.v 36), (.v 37), (.v 38), (.v 39), (.v 40), (.v 53)])
(.call 16 [(.v 2), (.v 3), (.v 4), (.v 5), (.v 42), (.v 43), (.v 44), (.v 45), (.v 46), (.v 47), (.v 48), (.v 49), (.v 50), (.v 51), (.v 52), (.v 14), (.v 15), (.v 16), (.v 17)] 12
(.ite (.not (.eq (.v 65) (.lit 0)))
(.leaf [(.v 42), (.v 43), (.v 44), (.v 45), (.v 46), (.v 47), (.v 48), (.v 49), (.v 50), (.v 51), (.v 52), (.v 65)])
(.call 15 [(.v 2), (.v 3), (.v 4), (.v 5), (.v 54), (.v 55), (.v 56), (.v 57), (.v 58), (.v 59), (.v 60), (.v 61), (.v 62), (.v 63), (.v 64), (.v 18), (.v 19), (.v 20), (.v 21)] 12
(.ite (.not (.eq (.v 77) (.lit 0)))
(.leaf [(.v 54), (.v 55), (.v 56), (.v 57), (.v 58), (.v 59), (.v 60), (.v 61), (.v 62), (.v 63), (.v 64), (.v 77)])
(.call 14 [(.v 2), (.v 3), (.v 4), (.v 5), (.v 66), (.v 67), (.v 68), (.v 69), (.v 70), (.v 71), (.v 72), (.v 73), (.v 74), (.v 75), (.v 76), (.v 22), (.v 23), (.v 24), (.v 25)] 12
(.ite (.not (.eq (.v 89) (.lit 0)))
(.leaf [(.v 66), (.v 67), (.v 68), (.v 69), (.v 70), (.v 71), (.v 72), (.v 73), (.v 74), (.v 75), (.v 76), (.v 89)])
(.call 13 [(.v 2), (.v 3), (.v 4), (.v 5), (.v 78), (.v 79), (.v 80), (.v 81), (.v 82), (.v 83), (.v 84), (.v 85), (.v 86), (.v 87), (.v 88), (.v 26), (.v 27), (.v 28), (.v 29)] 12
(.ite (.not (.eq (.v 101) (.lit 0)))
(.leaf [(.v 78), (.v 79), (.v 80), (.v 81), (.v 82), (.v 83), (.v 84), (.v 85), (.v 86), (.v 87), (.v 88), (.v 101)])
(.leaf [(.v 90), (.v 91), (.v 92), (.v 93), (.v 94), (.v 95), (.v 96), (.v 97), (.v 98), (.v 99), (.v 100), (.lit 0)])))))))))))))
theorem t_run6_eq : c_run6.tree Try.prog (rowCtxE (exL en25) [] hints_MTC) 60 12 14 = t_run6 := by kernel_rfl
theorem t_run6_chk : t_run6.chk c_run6 = true := by kernel_rfl
abbrev en26 : List En := (14, c_run6, t_run6) :: en25
theorem en26_con : EnCon en26 := EnCon.cons en25_con t_run6_eq (by kernel_rfl) (by kernel_rfl) (chk_det t_run6_chk)
theorem en26_kl : EnKl en26 = true := EnKl.cons en25_kl t_run6_chk (by kernel_rfl)
def c_tick : MC := { args := [.agg [.num (some .i64), .num (some .i64), .num (some .i64), .num (some .i64)], .agg [.num (some .i64), .num (some .i64), .num (some .i64), .num (some .i64), .num (some .i64), .num (some .i64), .num (some .i64), .num (some .i64), .num none, .num (some .i64), .num (some .i64)], .one (.num (some .i64))], blks := [], rg := [(0, 3), (0, 100), (1, 10), (0, 4), (0, 60), ((-30), 1000), ((-20), 5), (0, 200), (0, 60), ((-30), 1000), ((-20), 5), (0, 200), (0, 1), (0, 6), (0, 4), (0, 100)], dom := [], res := [.agg [.num (some .i64), .num (some .i64), .num (some .i64), .num (some .i64), .num (some .i64), .num (some .i64), .num (some .i64), .num (some .i64), .num none, .num (some .i64), .num (some .i64)], .one (.num (some .i64))], out := [], nn := 0, rng := [(0, 60), ((-30), 1000), ((-20), 5), (0, 200), (0, 60), ((-30), 1000), ((-20), 5), (0, 200), (0, 1), (0, 6), (0, 4), (0, 16)], key := 27, clamp := false, rgx := [] }
def t_tick : T (List E) :=
(.ite (.not (.not (.nz (.v 14))))
(.ite (.le (.lit 1) (.v 9))
(.ite (.le (.lit 1) (.v 13))
(.ite (.lt (.v 15) (.lit 1))
(.leaf [(.lit 0), (.lit 0), (.lit 0), (.lit 0), (.lit 0), (.lit 0), (.lit 0), (.lit 0), (.lit 0), (.lit 0), (.lit 0), (.lit 1)])
(.ite (.lt (.v 17) (.v 6))
(.leaf [(.lit 0), (.lit 0), (.lit 0), (.lit 0), (.lit 0), (.lit 0), (.lit 0), (.lit 0), (.lit 0), (.lit 0), (.lit 0), (.lit 16)])
(.ite (.le (.v 4) (.sub (.v 17) (.v 6)))
(.leaf [(.v 6), (.v 7), (.v 8), (.v 9), (.v 10), (.v 11), (.v 12), (.v 13), (.lit 1), (.v 15), (.lit 2), (.lit 0)])
(.leaf [(.v 6), (.v 7), (.v 8), (.v 9), (.v 10), (.v 11), (.v 12), (.v 13), (.lit 1), (.v 15), (.v 16), (.lit 0)]))))
(.leaf [(.lit 0), (.lit 0), (.lit 0), (.lit 0), (.lit 0), (.lit 0), (.lit 0), (.lit 0), (.lit 0), (.lit 0), (.lit 0), (.lit 1)]))
(.leaf [(.lit 0), (.lit 0), (.lit 0), (.lit 0), (.lit 0), (.lit 0), (.lit 0), (.lit 0), (.lit 0), (.lit 0), (.lit 0), (.lit 1)]))
(.leaf [(.v 6), (.v 7), (.v 8), (.v 9), (.v 10), (.v 11), (.v 12), (.v 13), (.lit 0), (.v 15), (.v 16), (.lit 0)]))
theorem t_tick_eq : c_tick.tree Try.prog (rowCtxE (exL en26) [] hints_MTC) 60 12 16 = t_tick := by kernel_rfl
theorem t_tick_chk : t_tick.chk c_tick = true := by kernel_rfl
abbrev en27 : List En := (16, c_tick, t_tick) :: en26
theorem en27_con : EnCon en27 := EnCon.cons en26_con t_tick_eq (by kernel_rfl) (by kernel_rfl) (chk_det t_tick_chk)
theorem en27_kl : EnKl en27 = true := EnKl.cons en26_kl t_tick_chk (by kernel_rfl)
end Go.Proofs.Ytejklpbiieofoaa
