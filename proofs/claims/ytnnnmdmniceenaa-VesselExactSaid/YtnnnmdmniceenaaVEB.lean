/- Steps of any ships: contracts. -/
import Derived.Test.YtnnnmdmniceenaaVEA
set_option linter.unusedSimpArgs false
set_option linter.unusedVariables false
set_option maxRecDepth 100000
namespace Go.Proofs.Ytnnnmdmniceenaa
open Go.RowKit Ev
def hints_VEB : FuncId → Nat → Option Hint := fun _ _ => none
def c_stepg : MC := { args := [.agg [.slc 0 0 12 12, .slc 1 0 12 12, .slc 2 0 12 12, .slc 3 0 12 12, .slc 4 0 12 12, .slc 5 0 12 12, .slc 6 0 12 12, .slc 7 0 12 12, .slc 8 0 12 12, .num (some .i64), .num (some .i64), .num (some .i64), .num (some .i64)], .agg [.num (some .i64), .num (some .i64), .num (some .i64), .num (some .i64), .num (some .i64), .num (some .i64), .num (some .i64)], .agg [.num (some .i64), .num (some .i64), .num (some .i64)]], blks := [(0, 3, [.num (some .i64), .num (some .i64), .num (some .i64), .num (some .i64), .num (some .i64), .num (some .i64), .num (some .i64), .num (some .i64), .num (some .i64), .num (some .i64), .num (some .i64), .num (some .i64)]), (1, 3, [.num (some .i64), .num (some .i64), .num (some .i64), .num (some .i64), .num (some .i64), .num (some .i64), .num (some .i64), .num (some .i64), .num (some .i64), .num (some .i64), .num (some .i64), .num (some .i64)]), (2, 3, [.num (some .i64), .num (some .i64), .num (some .i64), .num (some .i64), .num (some .i64), .num (some .i64), .num (some .i64), .num (some .i64), .num (some .i64), .num (some .i64), .num (some .i64), .num (some .i64)]), (3, 3, [.num (some .i64), .num (some .i64), .num (some .i64), .num (some .i64), .num (some .i64), .num (some .i64), .num (some .i64), .num (some .i64), .num (some .i64), .num (some .i64), .num (some .i64), .num (some .i64)]), (4, 3, [.num (some .i64), .num (some .i64), .num (some .i64), .num (some .i64), .num (some .i64), .num (some .i64), .num (some .i64), .num (some .i64), .num (some .i64), .num (some .i64), .num (some .i64), .num (some .i64)]), (5, 3, [.num (some .i64), .num (some .i64), .num (some .i64), .num (some .i64), .num (some .i64), .num (some .i64), .num (some .i64), .num (some .i64), .num (some .i64), .num (some .i64), .num (some .i64), .num (some .i64)]), (6, 3, [.num (some .i64), .num (some .i64), .num (some .i64), .num (some .i64), .num (some .i64), .num (some .i64), .num (some .i64), .num (some .i64), .num (some .i64), .num (some .i64), .num (some .i64), .num (some .i64)]), (7, 3, [.num (some .i64), .num (some .i64), .num (some .i64), .num (some .i64), .num (some .i64), .num (some .i64), .num (some .i64), .num (some .i64), .num (some .i64), .num (some .i64), .num (some .i64), .num (some .i64)]), (8, 3, [.num (some .i64), .num (some .i64), .num (some .i64), .num (some .i64), .num (some .i64), .num (some .i64), .num (some .i64), .num (some .i64), .num (some .i64), .num (some .i64), .num (some .i64), .num (some .i64)])], rg := [((-9223372036854775808), 9223372036854775807), ((-9223372036854775808), 9223372036854775807), ((-9223372036854775808), 9223372036854775807), ((-9223372036854775808), 9223372036854775807), ((-9223372036854775808), 9223372036854775807), ((-9223372036854775808), 9223372036854775807), ((-9223372036854775808), 9223372036854775807), ((-9223372036854775808), 9223372036854775807), ((-9223372036854775808), 9223372036854775807), ((-9223372036854775808), 9223372036854775807), ((-9223372036854775808), 9223372036854775807), ((-9223372036854775808), 9223372036854775807), ((-9223372036854775808), 9223372036854775807), ((-9223372036854775808), 9223372036854775807), ((-1000), 1000), ((-1000), 1000), ((-1000), 1000), ((-1000), 1000), ((-1000), 1000), ((-1000), 1000), ((-1000), 1000), ((-1000), 1000), ((-1000), 1000), ((-1000), 1000), ((-1000), 1000), ((-1000), 1000), ((-1000), 1000), ((-1000), 1000), ((-1000), 1000), ((-1000), 1000), ((-1000), 1000), ((-1000), 1000), ((-1000), 1000), ((-1000), 1000), ((-1000), 1000), ((-1000), 1000), ((-1000), 1000), ((-1000), 1000), ((-1000), 1000), ((-1000), 1000), ((-1000), 1000), ((-1000), 1000), ((-1000), 1000), ((-1000), 1000), ((-1000), 1000), ((-1000), 1000), ((-1000), 1000), ((-1000), 1000), ((-1000), 1000), ((-1000), 1000), ((-1000), 1000), ((-1000), 1000), ((-1000), 1000), ((-1000), 1000), ((-1000), 1000), ((-1000), 1000), ((-1000), 1000), ((-1000), 1000), ((-1000), 1000), ((-1000), 1000), ((-1000), 1000), ((-1000), 1000), ((-1000), 1000), ((-1000), 1000), ((-1000), 1000), ((-1000), 1000), ((-1000), 1000), ((-1000), 1000), ((-1000), 1000), ((-1000), 1000), ((-1000), 1000), ((-1000), 1000), ((-1000), 1000), ((-1000), 1000), ((-1000), 1000), ((-1000), 1000), ((-1000), 1000), ((-1000), 1000), ((-1000), 1000), ((-1000), 1000), ((-1000), 1000), ((-1000), 1000), ((-1000), 1000), ((-1000), 1000), ((-1000), 1000), ((-1000), 1000), ((-1000), 1000), ((-1000), 1000), ((-1000), 1000), ((-1000), 1000), ((-1000), 1000), ((-1000), 1000), ((-1000), 1000), ((-1000), 1000), ((-1000), 1000), ((-1000), 1000), ((-1000), 1000), ((-1000), 1000), ((-1000), 1000), ((-1000), 1000), ((-1000), 1000), ((-1000), 1000), ((-1000), 1000), ((-1000), 1000), ((-1000), 1000), ((-1000), 1000), ((-1000), 1000), ((-1000), 1000), ((-1000), 1000), ((-9223372036854775808), 9223372036854775807), ((-1000), 1000), ((-1000), 1000), ((-1000), 1000), ((-1000), 1000), ((-1000), 1000), ((-1000), 1000), ((-1000), 1000), ((-1000), 1000), ((-1000), 1000), ((-1000), 1000), ((-1000), 1000), ((-1000), 1000)], dom := [], res := [.agg [.num (some .i64), .num (some .i64), .num (some .i64), .num (some .i64), .num (some .i64), .num (some .i64), .num (some .i64)], .one (.num (some .i64))], out := [], nn := 0, rng := [(0, 2147483648), ((-10000000000), 10000000000), ((-10000000000), 10000000000), (0, 359999), ((-100000), 100000), ((-100000), 100000), ((-10000), 10000), (0, 100)], key := 32, clamp := false, rgx := [] }
def t_stepg : T (List E) :=
(.call 19 [(.v 16), (.v 17), (.v 18), (.v 19), (.v 20), (.v 21), (.v 22), (.v 23), (.v 24), (.v 25), (.v 26), (.v 27)] 13
(.ite (.not (.nz (.v 136)))
(.leaf [(.lit 0), (.lit 0), (.lit 0), (.lit 0), (.lit 0), (.lit 0), (.lit 0), (.lit 60)])
(.call 19 [(.v 28), (.v 29), (.v 30), (.v 31), (.v 32), (.v 33), (.v 34), (.v 35), (.v 36), (.v 37), (.v 38), (.v 39)] 13
(.ite (.not (.nz (.v 149)))
(.leaf [(.lit 0), (.lit 0), (.lit 0), (.lit 0), (.lit 0), (.lit 0), (.lit 0), (.lit 60)])
(.call 19 [(.v 40), (.v 41), (.v 42), (.v 43), (.v 44), (.v 45), (.v 46), (.v 47), (.v 48), (.v 49), (.v 50), (.v 51)] 13
(.ite (.not (.nz (.v 162)))
(.leaf [(.lit 0), (.lit 0), (.lit 0), (.lit 0), (.lit 0), (.lit 0), (.lit 0), (.lit 60)])
(.call 19 [(.v 52), (.v 53), (.v 54), (.v 55), (.v 56), (.v 57), (.v 58), (.v 59), (.v 60), (.v 61), (.v 62), (.v 63)] 13
(.ite (.not (.nz (.v 175)))
(.leaf [(.lit 0), (.lit 0), (.lit 0), (.lit 0), (.lit 0), (.lit 0), (.lit 0), (.lit 60)])
(.call 19 [(.v 64), (.v 65), (.v 66), (.v 67), (.v 68), (.v 69), (.v 70), (.v 71), (.v 72), (.v 73), (.v 74), (.v 75)] 13
(.ite (.not (.nz (.v 188)))
(.leaf [(.lit 0), (.lit 0), (.lit 0), (.lit 0), (.lit 0), (.lit 0), (.lit 0), (.lit 60)])
(.call 19 [(.v 76), (.v 77), (.v 78), (.v 79), (.v 80), (.v 81), (.v 82), (.v 83), (.v 84), (.v 85), (.v 86), (.v 87)] 13
(.ite (.not (.nz (.v 201)))
(.leaf [(.lit 0), (.lit 0), (.lit 0), (.lit 0), (.lit 0), (.lit 0), (.lit 0), (.lit 60)])
(.call 19 [(.v 88), (.v 89), (.v 90), (.v 91), (.v 92), (.v 93), (.v 94), (.v 95), (.v 96), (.v 97), (.v 98), (.v 99)] 13
(.ite (.not (.nz (.v 214)))
(.leaf [(.lit 0), (.lit 0), (.lit 0), (.lit 0), (.lit 0), (.lit 0), (.lit 0), (.lit 60)])
(.call 19 [(.v 100), (.v 101), (.v 102), (.v 103), (.v 104), (.v 105), (.v 106), (.v 107), (.v 108), (.v 109), (.v 110), (.v 111)] 13
(.ite (.not (.nz (.v 227)))
(.leaf [(.lit 0), (.lit 0), (.lit 0), (.lit 0), (.lit 0), (.lit 0), (.lit 0), (.lit 60)])
(.call 19 [(.v 112), (.v 113), (.v 114), (.v 115), (.v 116), (.v 117), (.v 118), (.v 119), (.v 120), (.v 121), (.v 122), (.v 123)] 13
(.ite (.not (.nz (.v 240)))
(.leaf [(.lit 0), (.lit 0), (.lit 0), (.lit 0), (.lit 0), (.lit 0), (.lit 0), (.lit 60)])
(.ite (.or (.or (.or (.or (.or (.or (.or (.lt (.v 2) (.lit 1)) (.lt (.lit 1000000) (.v 2))) (.lt (.v 3) (.lit 1))) (.lt (.lit 1073741824) (.v 3))) (.lt (.v 4) (.lit 0))) (.lt (.v 2) (.v 4))) (.lt (.v 5) (.lit 0))) (.lt (.v 3) (.v 5)))
(.leaf [(.lit 0), (.lit 0), (.lit 0), (.lit 0), (.lit 0), (.lit 0), (.lit 0), (.lit 60)])
(.ite (.and (.le (.lit 0) (.v 6)) (.le (.v 6) (.lit 2147483648)))
(.ite (.or (.lt (.v 7) (.lit (-10000000000))) (.lt (.lit 10000000000) (.v 7)))
(.leaf [(.lit 0), (.lit 0), (.lit 0), (.lit 0), (.lit 0), (.lit 0), (.lit 0), (.lit 61)])
(.ite (.or (.lt (.v 8) (.lit (-10000000000))) (.lt (.lit 10000000000) (.v 8)))
(.leaf [(.lit 0), (.lit 0), (.lit 0), (.lit 0), (.lit 0), (.lit 0), (.lit 0), (.lit 61)])
(.ite (.and (.le (.lit 0) (.v 9)) (.lt (.v 9) (.lit 360000)))
(.ite (.or (.lt (.v 10) (.lit (-100000))) (.lt (.lit 100000) (.v 10)))
(.leaf [(.lit 0), (.lit 0), (.lit 0), (.lit 0), (.lit 0), (.lit 0), (.lit 0), (.lit 61)])
(.ite (.or (.lt (.v 11) (.lit (-100000))) (.lt (.lit 100000) (.v 11)))
(.leaf [(.lit 0), (.lit 0), (.lit 0), (.lit 0), (.lit 0), (.lit 0), (.lit 0), (.lit 61)])
(.ite (.or (.lt (.v 12) (.lit (-10000))) (.lt (.lit 10000) (.v 12)))
(.leaf [(.lit 0), (.lit 0), (.lit 0), (.lit 0), (.lit 0), (.lit 0), (.lit 0), (.lit 61)])
(.ite (.or (.lt (.v 13) (.lit (-1000000))) (.lt (.lit 1000000) (.v 13)))
(.leaf [(.lit 0), (.lit 0), (.lit 0), (.lit 0), (.lit 0), (.lit 0), (.lit 0), (.lit 1)])
(.ite (.or (.lt (.v 14) (.lit (-1000000))) (.lt (.lit 1000000) (.v 14)))
(.leaf [(.lit 0), (.lit 0), (.lit 0), (.lit 0), (.lit 0), (.lit 0), (.lit 0), (.lit 1)])
(.ite (.or (.lt (.v 15) (.lit (-1000000))) (.lt (.lit 1000000) (.v 15)))
(.leaf [(.lit 0), (.lit 0), (.lit 0), (.lit 0), (.lit 0), (.lit 0), (.lit 0), (.lit 1)])
(.call 13 [(.sub (.mul (.lit 10000) (.v 13)) (.mul (.v 4) (.v 10))), (.v 2)] 1
(.call 13 [(.sub (.mul (.lit 10000) (.v 14)) (.mul (.v 4) (.v 11))), (.v 2)] 1
(.call 13 [(.sub (.mul (.lit 10000) (.v 15)) (.mul (.v 5) (.v 12))), (.v 3)] 1
(.call 15 [(.add (.v 9) (.add (.v 12) (.v 243))), (.lit 360000)] 1
(.call 16 [(.quo (.v 244) (.lit 100)), (.lit 3600)] 1
(.call 17 [(.v 245)] 1
(.call 18 [(.v 245)] 1
(.call 14 [(.sub (.mul (.add (.v 10) (.v 241)) (.v 247)) (.mul (.add (.v 11) (.v 242)) (.v 246))), (.lit 10000)] 1
(.call 14 [(.add (.mul (.add (.v 10) (.v 241)) (.v 246)) (.mul (.add (.v 11) (.v 242)) (.v 247))), (.lit 10000)] 1
(.ite (.le (.add (.v 6) (.lit 1)) (.lit 2147483648))
(.ite (.or (.lt (.add (.v 7) (.v 248)) (.lit (-10000000000))) (.lt (.lit 10000000000) (.add (.v 7) (.v 248))))
(.leaf [(.lit 0), (.lit 0), (.lit 0), (.lit 0), (.lit 0), (.lit 0), (.lit 0), (.lit 2)])
(.ite (.or (.lt (.add (.v 8) (.v 249)) (.lit (-10000000000))) (.lt (.lit 10000000000) (.add (.v 8) (.v 249))))
(.leaf [(.lit 0), (.lit 0), (.lit 0), (.lit 0), (.lit 0), (.lit 0), (.lit 0), (.lit 2)])
(.ite (.or (.lt (.add (.v 10) (.v 241)) (.lit (-100000))) (.lt (.lit 100000) (.add (.v 10) (.v 241))))
(.leaf [(.lit 0), (.lit 0), (.lit 0), (.lit 0), (.lit 0), (.lit 0), (.lit 0), (.lit 2)])
(.ite (.or (.lt (.add (.v 11) (.v 242)) (.lit (-100000))) (.lt (.lit 100000) (.add (.v 11) (.v 242))))
(.leaf [(.lit 0), (.lit 0), (.lit 0), (.lit 0), (.lit 0), (.lit 0), (.lit 0), (.lit 2)])
(.ite (.or (.lt (.add (.v 12) (.v 243)) (.lit (-10000))) (.lt (.lit 10000) (.add (.v 12) (.v 243))))
(.leaf [(.lit 0), (.lit 0), (.lit 0), (.lit 0), (.lit 0), (.lit 0), (.lit 0), (.lit 2)])
(.leaf [(.add (.v 6) (.lit 1)), (.add (.v 7) (.v 248)), (.add (.v 8) (.v 249)), (.v 244), (.add (.v 10) (.v 241)), (.add (.v 11) (.v 242)), (.add (.v 12) (.v 243)), (.lit 0)]))))))
(.leaf [(.lit 0), (.lit 0), (.lit 0), (.lit 0), (.lit 0), (.lit 0), (.lit 0), (.lit 2)])))))))))))))))))
(.leaf [(.lit 0), (.lit 0), (.lit 0), (.lit 0), (.lit 0), (.lit 0), (.lit 0), (.lit 61)]))))
(.leaf [(.lit 0), (.lit 0), (.lit 0), (.lit 0), (.lit 0), (.lit 0), (.lit 0), (.lit 61)])))))))))))))))))))))
theorem t_stepg_eq : c_stepg.tree Try.prog (rowCtxE (exL en31) [] hints_VEB) 60 12 15 = t_stepg := by kernel_rfl
theorem t_stepg_chk : t_stepg.chk c_stepg = true := by kernel_rfl
abbrev en32 : List En := (15, c_stepg, t_stepg) :: en31
theorem en32_con : EnCon en32 := EnCon.cons en31_con t_stepg_eq (by kernel_rfl) (by kernel_rfl) (chk_det t_stepg_chk)
theorem en32_kl : EnKl en32 = true := EnKl.cons en31_kl t_stepg_chk (by kernel_rfl)
def c_rstepg : MC := { args := [.agg [.slc 0 0 12 12, .slc 1 0 12 12, .slc 2 0 12 12, .slc 3 0 12 12, .slc 4 0 12 12, .slc 5 0 12 12, .slc 6 0 12 12, .slc 7 0 12 12, .slc 8 0 12 12, .num (some .i64), .num (some .i64), .num (some .i64), .num (some .i64)], .agg [.num (some .i64), .num (some .i64), .num (some .i64), .num (some .i64), .num (some .i64), .num (some .i64), .num (some .i64)], .agg [.num (some .i64), .num (some .i64), .num (some .i64)]], blks := [(0, 3, [.num (some .i64), .num (some .i64), .num (some .i64), .num (some .i64), .num (some .i64), .num (some .i64), .num (some .i64), .num (some .i64), .num (some .i64), .num (some .i64), .num (some .i64), .num (some .i64)]), (1, 3, [.num (some .i64), .num (some .i64), .num (some .i64), .num (some .i64), .num (some .i64), .num (some .i64), .num (some .i64), .num (some .i64), .num (some .i64), .num (some .i64), .num (some .i64), .num (some .i64)]), (2, 3, [.num (some .i64), .num (some .i64), .num (some .i64), .num (some .i64), .num (some .i64), .num (some .i64), .num (some .i64), .num (some .i64), .num (some .i64), .num (some .i64), .num (some .i64), .num (some .i64)]), (3, 3, [.num (some .i64), .num (some .i64), .num (some .i64), .num (some .i64), .num (some .i64), .num (some .i64), .num (some .i64), .num (some .i64), .num (some .i64), .num (some .i64), .num (some .i64), .num (some .i64)]), (4, 3, [.num (some .i64), .num (some .i64), .num (some .i64), .num (some .i64), .num (some .i64), .num (some .i64), .num (some .i64), .num (some .i64), .num (some .i64), .num (some .i64), .num (some .i64), .num (some .i64)]), (5, 3, [.num (some .i64), .num (some .i64), .num (some .i64), .num (some .i64), .num (some .i64), .num (some .i64), .num (some .i64), .num (some .i64), .num (some .i64), .num (some .i64), .num (some .i64), .num (some .i64)]), (6, 3, [.num (some .i64), .num (some .i64), .num (some .i64), .num (some .i64), .num (some .i64), .num (some .i64), .num (some .i64), .num (some .i64), .num (some .i64), .num (some .i64), .num (some .i64), .num (some .i64)]), (7, 3, [.num (some .i64), .num (some .i64), .num (some .i64), .num (some .i64), .num (some .i64), .num (some .i64), .num (some .i64), .num (some .i64), .num (some .i64), .num (some .i64), .num (some .i64), .num (some .i64)]), (8, 3, [.num (some .i64), .num (some .i64), .num (some .i64), .num (some .i64), .num (some .i64), .num (some .i64), .num (some .i64), .num (some .i64), .num (some .i64), .num (some .i64), .num (some .i64), .num (some .i64)])], rg := [((-9223372036854775808), 9223372036854775807), ((-9223372036854775808), 9223372036854775807), ((-9223372036854775808), 9223372036854775807), ((-9223372036854775808), 9223372036854775807), ((-9223372036854775808), 9223372036854775807), ((-9223372036854775808), 9223372036854775807), ((-9223372036854775808), 9223372036854775807), ((-9223372036854775808), 9223372036854775807), ((-9223372036854775808), 9223372036854775807), ((-9223372036854775808), 9223372036854775807), ((-9223372036854775808), 9223372036854775807), ((-9223372036854775808), 9223372036854775807), ((-9223372036854775808), 9223372036854775807), ((-9223372036854775808), 9223372036854775807), ((-1000), 1000), ((-1000), 1000), ((-1000), 1000), ((-1000), 1000), ((-1000), 1000), ((-1000), 1000), ((-1000), 1000), ((-1000), 1000), ((-1000), 1000), ((-1000), 1000), ((-1000), 1000), ((-1000), 1000), ((-1000), 1000), ((-1000), 1000), ((-1000), 1000), ((-1000), 1000), ((-1000), 1000), ((-1000), 1000), ((-1000), 1000), ((-1000), 1000), ((-1000), 1000), ((-1000), 1000), ((-1000), 1000), ((-1000), 1000), ((-1000), 1000), ((-1000), 1000), ((-1000), 1000), ((-1000), 1000), ((-1000), 1000), ((-1000), 1000), ((-1000), 1000), ((-1000), 1000), ((-1000), 1000), ((-1000), 1000), ((-1000), 1000), ((-1000), 1000), ((-1000), 1000), ((-1000), 1000), ((-1000), 1000), ((-1000), 1000), ((-1000), 1000), ((-1000), 1000), ((-1000), 1000), ((-1000), 1000), ((-1000), 1000), ((-1000), 1000), ((-1000), 1000), ((-1000), 1000), ((-1000), 1000), ((-1000), 1000), ((-1000), 1000), ((-1000), 1000), ((-1000), 1000), ((-1000), 1000), ((-1000), 1000), ((-1000), 1000), ((-1000), 1000), ((-1000), 1000), ((-1000), 1000), ((-1000), 1000), ((-1000), 1000), ((-1000), 1000), ((-1000), 1000), ((-1000), 1000), ((-1000), 1000), ((-1000), 1000), ((-1000), 1000), ((-1000), 1000), ((-1000), 1000), ((-1000), 1000), ((-1000), 1000), ((-1000), 1000), ((-1000), 1000), ((-1000), 1000), ((-1000), 1000), ((-1000), 1000), ((-1000), 1000), ((-1000), 1000), ((-1000), 1000), ((-1000), 1000), ((-1000), 1000), ((-1000), 1000), ((-1000), 1000), ((-1000), 1000), ((-1000), 1000), ((-1000), 1000), ((-1000), 1000), ((-1000), 1000), ((-1000), 1000), ((-1000), 1000), ((-1000), 1000), ((-1000), 1000), ((-1000), 1000), ((-1000), 1000), ((-1000), 1000), ((-9223372036854775808), 9223372036854775807), ((-1000), 1000), ((-1000), 1000), ((-1000), 1000), ((-1000), 1000), ((-1000), 1000), ((-1000), 1000), ((-1000), 1000), ((-1000), 1000), ((-1000), 1000), ((-1000), 1000), ((-1000), 1000), ((-1000), 1000)], dom := [], res := [.agg [.num (some .i64), .num (some .i64), .num (some .i64), .num (some .i64), .num (some .i64), .num (some .i64), .num (some .i64)], .one (.num (some .i64))], out := [], nn := 0, rng := [(0, 2147483648), ((-10000000000), 10000000000), ((-10000000000), 10000000000), (0, 359999), ((-100000), 100000), ((-100000), 100000), ((-10000), 10000), (0, 100)], key := 33, clamp := false, rgx := [] }
def t_rstepg : T (List E) :=
(.ite (.not (.and (.le (.lit (-1000)) (.v 111)) (.le (.v 111) (.lit 1000))))
(.leaf [(.lit 0), (.lit 0), (.lit 0), (.lit 0), (.lit 0), (.lit 0), (.lit 0), (.lit 60)])
(.ite (.not (.not (.and (.le (.lit 1) (.v 2)) (.le (.v 2) (.lit 1000000)))))
(.ite (.not (.not (.and (.le (.lit 1) (.v 3)) (.le (.v 3) (.lit 1073741824)))))
(.ite (.not (.not (.and (.le (.lit 0) (.v 4)) (.le (.v 4) (.v 2)))))
(.ite (.not (.and (.le (.lit 0) (.v 5)) (.le (.v 5) (.v 3))))
(.leaf [(.lit 0), (.lit 0), (.lit 0), (.lit 0), (.lit 0), (.lit 0), (.lit 0), (.lit 60)])
(.ite (.and (.le (.lit 0) (.v 6)) (.le (.v 6) (.lit 2147483648)))
(.ite (.and (.le (.lit (-10000000000)) (.v 7)) (.le (.v 7) (.lit 10000000000)))
(.ite (.and (.le (.lit (-10000000000)) (.v 8)) (.le (.v 8) (.lit 10000000000)))
(.ite (.and (.le (.lit 0) (.v 9)) (.le (.v 9) (.lit 359999)))
(.ite (.and (.le (.lit (-100000)) (.v 10)) (.le (.v 10) (.lit 100000)))
(.ite (.and (.le (.lit (-100000)) (.v 11)) (.le (.v 11) (.lit 100000)))
(.ite (.not (.and (.le (.lit (-10000)) (.v 12)) (.le (.v 12) (.lit 10000))))
(.leaf [(.lit 0), (.lit 0), (.lit 0), (.lit 0), (.lit 0), (.lit 0), (.lit 0), (.lit 61)])
(.ite (.not (.not (.and (.le (.lit (-1000000)) (.v 13)) (.le (.v 13) (.lit 1000000)))))
(.ite (.not (.not (.and (.le (.lit (-1000000)) (.v 14)) (.le (.v 14) (.lit 1000000)))))
(.ite (.not (.and (.le (.lit (-1000000)) (.v 15)) (.le (.v 15) (.lit 1000000))))
(.leaf [(.lit 0), (.lit 0), (.lit 0), (.lit 0), (.lit 0), (.lit 0), (.lit 0), (.lit 1)])
(.call 25 [(.sub (.mul (.lit 10000) (.v 13)) (.mul (.v 4) (.v 10))), (.v 2)] 1
(.call 25 [(.sub (.mul (.lit 10000) (.v 14)) (.mul (.v 4) (.v 11))), (.v 2)] 1
(.call 24 [(.sub (.mul (.lit 10000) (.v 15)) (.mul (.v 5) (.v 12))), (.v 3)] 1
(.ite (.lt (.rem (.add (.v 9) (.add (.v 12) (.v 126))) (.lit 360000)) (.lit 0))
(.call 31 [(.quo (.rem (.add (.rem (.add (.v 9) (.add (.v 12) (.v 126))) (.lit 360000)) (.lit 360000)) (.lit 360000)) (.lit 100))] 1
(.call 30 [(.quo (.rem (.add (.rem (.add (.v 9) (.add (.v 12) (.v 126))) (.lit 360000)) (.lit 360000)) (.lit 360000)) (.lit 100))] 1
(.call 26 [(.sub (.mul (.add (.v 10) (.v 124)) (.v 127)) (.mul (.add (.v 11) (.v 125)) (.v 128))), (.lit 10000)] 1
(.call 26 [(.add (.mul (.add (.v 10) (.v 124)) (.v 128)) (.mul (.add (.v 11) (.v 125)) (.v 127))), (.lit 10000)] 1
(.ite (.le (.add (.v 6) (.lit 1)) (.lit 2147483648))
(.ite (.and (.le (.lit (-10000000000)) (.add (.v 7) (.v 129))) (.le (.add (.v 7) (.v 129)) (.lit 10000000000)))
(.ite (.and (.le (.lit (-10000000000)) (.add (.v 8) (.v 130))) (.le (.add (.v 8) (.v 130)) (.lit 10000000000)))
(.ite (.and (.le (.lit (-100000)) (.add (.v 10) (.v 124))) (.le (.add (.v 10) (.v 124)) (.lit 100000)))
(.ite (.and (.le (.lit (-100000)) (.add (.v 11) (.v 125))) (.le (.add (.v 11) (.v 125)) (.lit 100000)))
(.ite (.not (.and (.le (.lit (-10000)) (.add (.v 12) (.v 126))) (.le (.add (.v 12) (.v 126)) (.lit 10000))))
(.leaf [(.lit 0), (.lit 0), (.lit 0), (.lit 0), (.lit 0), (.lit 0), (.lit 0), (.lit 2)])
(.leaf [(.add (.v 6) (.lit 1)), (.add (.v 7) (.v 129)), (.add (.v 8) (.v 130)), (.add (.rem (.add (.v 9) (.add (.v 12) (.v 126))) (.lit 360000)) (.lit 360000)), (.add (.v 10) (.v 124)), (.add (.v 11) (.v 125)), (.add (.v 12) (.v 126)), (.lit 0)]))
(.leaf [(.lit 0), (.lit 0), (.lit 0), (.lit 0), (.lit 0), (.lit 0), (.lit 0), (.lit 2)]))
(.leaf [(.lit 0), (.lit 0), (.lit 0), (.lit 0), (.lit 0), (.lit 0), (.lit 0), (.lit 2)]))
(.leaf [(.lit 0), (.lit 0), (.lit 0), (.lit 0), (.lit 0), (.lit 0), (.lit 0), (.lit 2)]))
(.leaf [(.lit 0), (.lit 0), (.lit 0), (.lit 0), (.lit 0), (.lit 0), (.lit 0), (.lit 2)]))
(.leaf [(.lit 0), (.lit 0), (.lit 0), (.lit 0), (.lit 0), (.lit 0), (.lit 0), (.lit 2)]))))))
(.call 31 [(.quo (.rem (.rem (.add (.v 9) (.add (.v 12) (.v 126))) (.lit 360000)) (.lit 360000)) (.lit 100))] 1
(.call 30 [(.quo (.rem (.rem (.add (.v 9) (.add (.v 12) (.v 126))) (.lit 360000)) (.lit 360000)) (.lit 100))] 1
(.call 26 [(.sub (.mul (.add (.v 10) (.v 124)) (.v 127)) (.mul (.add (.v 11) (.v 125)) (.v 128))), (.lit 10000)] 1
(.call 26 [(.add (.mul (.add (.v 10) (.v 124)) (.v 128)) (.mul (.add (.v 11) (.v 125)) (.v 127))), (.lit 10000)] 1
(.ite (.le (.add (.v 6) (.lit 1)) (.lit 2147483648))
(.ite (.and (.le (.lit (-10000000000)) (.add (.v 7) (.v 129))) (.le (.add (.v 7) (.v 129)) (.lit 10000000000)))
(.ite (.and (.le (.lit (-10000000000)) (.add (.v 8) (.v 130))) (.le (.add (.v 8) (.v 130)) (.lit 10000000000)))
(.ite (.and (.le (.lit (-100000)) (.add (.v 10) (.v 124))) (.le (.add (.v 10) (.v 124)) (.lit 100000)))
(.ite (.and (.le (.lit (-100000)) (.add (.v 11) (.v 125))) (.le (.add (.v 11) (.v 125)) (.lit 100000)))
(.ite (.not (.and (.le (.lit (-10000)) (.add (.v 12) (.v 126))) (.le (.add (.v 12) (.v 126)) (.lit 10000))))
(.leaf [(.lit 0), (.lit 0), (.lit 0), (.lit 0), (.lit 0), (.lit 0), (.lit 0), (.lit 2)])
(.leaf [(.add (.v 6) (.lit 1)), (.add (.v 7) (.v 129)), (.add (.v 8) (.v 130)), (.rem (.add (.v 9) (.add (.v 12) (.v 126))) (.lit 360000)), (.add (.v 10) (.v 124)), (.add (.v 11) (.v 125)), (.add (.v 12) (.v 126)), (.lit 0)]))
(.leaf [(.lit 0), (.lit 0), (.lit 0), (.lit 0), (.lit 0), (.lit 0), (.lit 0), (.lit 2)]))
(.leaf [(.lit 0), (.lit 0), (.lit 0), (.lit 0), (.lit 0), (.lit 0), (.lit 0), (.lit 2)]))
(.leaf [(.lit 0), (.lit 0), (.lit 0), (.lit 0), (.lit 0), (.lit 0), (.lit 0), (.lit 2)]))
(.leaf [(.lit 0), (.lit 0), (.lit 0), (.lit 0), (.lit 0), (.lit 0), (.lit 0), (.lit 2)]))
(.leaf [(.lit 0), (.lit 0), (.lit 0), (.lit 0), (.lit 0), (.lit 0), (.lit 0), (.lit 2)])))))))))))
(.leaf [(.lit 0), (.lit 0), (.lit 0), (.lit 0), (.lit 0), (.lit 0), (.lit 0), (.lit 1)]))
(.leaf [(.lit 0), (.lit 0), (.lit 0), (.lit 0), (.lit 0), (.lit 0), (.lit 0), (.lit 1)])))
(.leaf [(.lit 0), (.lit 0), (.lit 0), (.lit 0), (.lit 0), (.lit 0), (.lit 0), (.lit 61)]))
(.leaf [(.lit 0), (.lit 0), (.lit 0), (.lit 0), (.lit 0), (.lit 0), (.lit 0), (.lit 61)]))
(.leaf [(.lit 0), (.lit 0), (.lit 0), (.lit 0), (.lit 0), (.lit 0), (.lit 0), (.lit 61)]))
(.leaf [(.lit 0), (.lit 0), (.lit 0), (.lit 0), (.lit 0), (.lit 0), (.lit 0), (.lit 61)]))
(.leaf [(.lit 0), (.lit 0), (.lit 0), (.lit 0), (.lit 0), (.lit 0), (.lit 0), (.lit 61)]))
(.leaf [(.lit 0), (.lit 0), (.lit 0), (.lit 0), (.lit 0), (.lit 0), (.lit 0), (.lit 61)])))
(.leaf [(.lit 0), (.lit 0), (.lit 0), (.lit 0), (.lit 0), (.lit 0), (.lit 0), (.lit 60)]))
(.leaf [(.lit 0), (.lit 0), (.lit 0), (.lit 0), (.lit 0), (.lit 0), (.lit 0), (.lit 60)]))
(.leaf [(.lit 0), (.lit 0), (.lit 0), (.lit 0), (.lit 0), (.lit 0), (.lit 0), (.lit 60)])))
theorem t_rstepg_eq : c_rstepg.tree Try.prog (rowCtxE (exL en32) [] hints_VEB) 60 12 27 = t_rstepg := by kernel_rfl
theorem t_rstepg_chk : t_rstepg.chk c_rstepg = true := by kernel_rfl
abbrev en33 : List En := (27, c_rstepg, t_rstepg) :: en32
theorem en33_con : EnCon en33 := EnCon.cons en32_con t_rstepg_eq (by kernel_rfl) (by kernel_rfl) (chk_det t_rstepg_chk)
theorem en33_kl : EnKl en33 = true := EnKl.cons en32_kl t_rstepg_chk (by kernel_rfl)
end Go.Proofs.Ytnnnmdmniceenaa
