/- The mean of some fixes: contracts for each count. -/
import Derived.Test.YtcedkkleclhglaaFB
set_option linter.unusedSimpArgs false
set_option linter.unusedVariables false
set_option maxRecDepth 100000
namespace Go.Proofs.Ytcedkkleclhglaa
open Go.RowKit Ev
def hints_FC : FuncId → Nat → Option Hint := fun _ _ => none
def c_fuse1 : MC := { args := [.one (.sln 0 4 1)], blks := [(0, 39, [.num (some .i64), .num (some .i64), .num (some .i64), .num (some .i64)])], rg := [(0, 60), ((-30), 1000), ((-20), 5), (1, 200)], dom := [], res := [.agg [.num (some .i64), .num (some .i64)], .one (.num (some .i64)), .one (.num (some .i64))], out := [], nn := 0, rng := [((-200000000000000000), 200000000000000000), ((-200000000000000000), 200000000000000000), ((-200000000000000000), 200000000000000000), (0, 0)], key := 21, clamp := false }
def t_fuse1 : T (List E) :=
(.call 12 [(.v 5)] 1
(.call 13 [(.mul (.lit 1000) (.v 6)), (.mx (.lit 0) (.v 6))] 2
(.call 14 [(.add (.lit 0) (.mul (.v 7) (.v 3))), (.add (.lit 0) (.v 7))] 2
(.call 14 [(.add (.lit 0) (.mul (.v 7) (.v 4))), (.add (.lit 0) (.v 7))] 2
(.call 15 [(.v 9), (.v 11), (.v 3), (.v 4)] 2
(.leaf [(.v 9), (.v 11), (.mx (.lit 0) (.add (.v 13) (.v 5))), (.lit 0)]))))))
theorem t_fuse1_eq : c_fuse1.tree Try.prog (rowCtxE (exL en16) [] hints_FC) 60 12 12 = t_fuse1 := by kernel_rfl
theorem t_fuse1_chk : t_fuse1.chk c_fuse1 = true := by kernel_rfl
abbrev en21 : List En := (12, c_fuse1, t_fuse1) :: en16
theorem en21_con : EnCon en21 := EnCon.cons en16_con t_fuse1_eq (by kernel_rfl) (by kernel_rfl) (chk_det t_fuse1_chk)
theorem en21_kl : EnKl en21 = true := EnKl.cons en16_kl t_fuse1_chk (by kernel_rfl)
def c_fuse2 : MC := { args := [.one (.sln 0 4 2)], blks := [(0, 39, [.num (some .i64), .num (some .i64), .num (some .i64), .num (some .i64), .num (some .i64), .num (some .i64), .num (some .i64), .num (some .i64)])], rg := [(0, 60), ((-30), 1000), ((-20), 5), (1, 200), (0, 60), ((-30), 1000), ((-20), 5), (1, 200)], dom := [], res := [.agg [.num (some .i64), .num (some .i64)], .one (.num (some .i64)), .one (.num (some .i64))], out := [], nn := 0, rng := [((-200000000000000000), 200000000000000000), ((-200000000000000000), 200000000000000000), ((-200000000000000000), 200000000000000000), (0, 0)], key := 22, clamp := false }
def t_fuse2 : T (List E) :=
(.call 12 [(.v 5)] 1
(.call 12 [(.v 9)] 1
(.call 13 [(.mul (.lit 1000) (.v 10)), (.mx (.mx (.lit 0) (.v 10)) (.v 11))] 2
(.call 13 [(.mul (.lit 1000) (.v 11)), (.mx (.mx (.lit 0) (.v 10)) (.v 11))] 2
(.call 14 [(.add (.add (.lit 0) (.mul (.v 12) (.v 3))) (.mul (.v 14) (.v 7))), (.add (.add (.lit 0) (.v 12)) (.v 14))] 2
(.call 14 [(.add (.add (.lit 0) (.mul (.v 12) (.v 4))) (.mul (.v 14) (.v 8))), (.add (.add (.lit 0) (.v 12)) (.v 14))] 2
(.call 15 [(.v 16), (.v 18), (.v 3), (.v 4)] 2
(.call 15 [(.v 16), (.v 18), (.v 7), (.v 8)] 2
(.leaf [(.v 16), (.v 18), (.mx (.mx (.lit 0) (.add (.v 20) (.v 5))) (.add (.v 22) (.v 9))), (.lit 0)])))))))))
theorem t_fuse2_eq : c_fuse2.tree Try.prog (rowCtxE (exL en21) [] hints_FC) 60 12 12 = t_fuse2 := by kernel_rfl
theorem t_fuse2_chk : t_fuse2.chk c_fuse2 = true := by kernel_rfl
abbrev en22 : List En := (12, c_fuse2, t_fuse2) :: en21
theorem en22_con : EnCon en22 := EnCon.cons en21_con t_fuse2_eq (by kernel_rfl) (by kernel_rfl) (chk_det t_fuse2_chk)
theorem en22_kl : EnKl en22 = true := EnKl.cons en21_kl t_fuse2_chk (by kernel_rfl)
def c_fuse3 : MC := { args := [.one (.sln 0 4 3)], blks := [(0, 39, [.num (some .i64), .num (some .i64), .num (some .i64), .num (some .i64), .num (some .i64), .num (some .i64), .num (some .i64), .num (some .i64), .num (some .i64), .num (some .i64), .num (some .i64), .num (some .i64)])], rg := [(0, 60), ((-30), 1000), ((-20), 5), (1, 200), (0, 60), ((-30), 1000), ((-20), 5), (1, 200), (0, 60), ((-30), 1000), ((-20), 5), (1, 200)], dom := [], res := [.agg [.num (some .i64), .num (some .i64)], .one (.num (some .i64)), .one (.num (some .i64))], out := [], nn := 0, rng := [((-200000000000000000), 200000000000000000), ((-200000000000000000), 200000000000000000), ((-200000000000000000), 200000000000000000), (0, 0)], key := 23, clamp := false }
def t_fuse3 : T (List E) :=
(.call 12 [(.v 5)] 1
(.call 12 [(.v 9)] 1
(.call 12 [(.v 13)] 1
(.call 13 [(.mul (.lit 1000) (.v 14)), (.mx (.mx (.mx (.lit 0) (.v 14)) (.v 15)) (.v 16))] 2
(.call 13 [(.mul (.lit 1000) (.v 15)), (.mx (.mx (.mx (.lit 0) (.v 14)) (.v 15)) (.v 16))] 2
(.call 13 [(.mul (.lit 1000) (.v 16)), (.mx (.mx (.mx (.lit 0) (.v 14)) (.v 15)) (.v 16))] 2
(.call 14 [(.add (.add (.add (.lit 0) (.mul (.v 17) (.v 3))) (.mul (.v 19) (.v 7))) (.mul (.v 21) (.v 11))), (.add (.add (.add (.lit 0) (.v 17)) (.v 19)) (.v 21))] 2
(.call 14 [(.add (.add (.add (.lit 0) (.mul (.v 17) (.v 4))) (.mul (.v 19) (.v 8))) (.mul (.v 21) (.v 12))), (.add (.add (.add (.lit 0) (.v 17)) (.v 19)) (.v 21))] 2
(.call 15 [(.v 23), (.v 25), (.v 3), (.v 4)] 2
(.call 15 [(.v 23), (.v 25), (.v 7), (.v 8)] 2
(.call 15 [(.v 23), (.v 25), (.v 11), (.v 12)] 2
(.leaf [(.v 23), (.v 25), (.mx (.mx (.mx (.lit 0) (.add (.v 27) (.v 5))) (.add (.v 29) (.v 9))) (.add (.v 31) (.v 13))), (.lit 0)]))))))))))))
theorem t_fuse3_eq : c_fuse3.tree Try.prog (rowCtxE (exL en22) [] hints_FC) 60 12 12 = t_fuse3 := by kernel_rfl
theorem t_fuse3_chk : t_fuse3.chk c_fuse3 = true := by kernel_rfl
abbrev en23 : List En := (12, c_fuse3, t_fuse3) :: en22
theorem en23_con : EnCon en23 := EnCon.cons en22_con t_fuse3_eq (by kernel_rfl) (by kernel_rfl) (chk_det t_fuse3_chk)
theorem en23_kl : EnKl en23 = true := EnKl.cons en22_kl t_fuse3_chk (by kernel_rfl)
def c_fuse4 : MC := { args := [.one (.sln 0 4 4)], blks := [(0, 39, [.num (some .i64), .num (some .i64), .num (some .i64), .num (some .i64), .num (some .i64), .num (some .i64), .num (some .i64), .num (some .i64), .num (some .i64), .num (some .i64), .num (some .i64), .num (some .i64), .num (some .i64), .num (some .i64), .num (some .i64), .num (some .i64)])], rg := [(0, 60), ((-30), 1000), ((-20), 5), (1, 200), (0, 60), ((-30), 1000), ((-20), 5), (1, 200), (0, 60), ((-30), 1000), ((-20), 5), (1, 200), (0, 60), ((-30), 1000), ((-20), 5), (1, 200)], dom := [], res := [.agg [.num (some .i64), .num (some .i64)], .one (.num (some .i64)), .one (.num (some .i64))], out := [], nn := 0, rng := [((-200000000000000000), 200000000000000000), ((-200000000000000000), 200000000000000000), ((-200000000000000000), 200000000000000000), (0, 0)], key := 24, clamp := false }
def t_fuse4 : T (List E) :=
(.call 12 [(.v 5)] 1
(.call 12 [(.v 9)] 1
(.call 12 [(.v 13)] 1
(.call 12 [(.v 17)] 1
(.call 13 [(.mul (.lit 1000) (.v 18)), (.mx (.mx (.mx (.mx (.lit 0) (.v 18)) (.v 19)) (.v 20)) (.v 21))] 2
(.call 13 [(.mul (.lit 1000) (.v 19)), (.mx (.mx (.mx (.mx (.lit 0) (.v 18)) (.v 19)) (.v 20)) (.v 21))] 2
(.call 13 [(.mul (.lit 1000) (.v 20)), (.mx (.mx (.mx (.mx (.lit 0) (.v 18)) (.v 19)) (.v 20)) (.v 21))] 2
(.call 13 [(.mul (.lit 1000) (.v 21)), (.mx (.mx (.mx (.mx (.lit 0) (.v 18)) (.v 19)) (.v 20)) (.v 21))] 2
(.call 14 [(.add (.add (.add (.add (.lit 0) (.mul (.v 22) (.v 3))) (.mul (.v 24) (.v 7))) (.mul (.v 26) (.v 11))) (.mul (.v 28) (.v 15))), (.add (.add (.add (.add (.lit 0) (.v 22)) (.v 24)) (.v 26)) (.v 28))] 2
(.call 14 [(.add (.add (.add (.add (.lit 0) (.mul (.v 22) (.v 4))) (.mul (.v 24) (.v 8))) (.mul (.v 26) (.v 12))) (.mul (.v 28) (.v 16))), (.add (.add (.add (.add (.lit 0) (.v 22)) (.v 24)) (.v 26)) (.v 28))] 2
(.call 15 [(.v 30), (.v 32), (.v 3), (.v 4)] 2
(.call 15 [(.v 30), (.v 32), (.v 7), (.v 8)] 2
(.call 15 [(.v 30), (.v 32), (.v 11), (.v 12)] 2
(.call 15 [(.v 30), (.v 32), (.v 15), (.v 16)] 2
(.leaf [(.v 30), (.v 32), (.mx (.mx (.mx (.mx (.lit 0) (.add (.v 34) (.v 5))) (.add (.v 36) (.v 9))) (.add (.v 38) (.v 13))) (.add (.v 40) (.v 17))), (.lit 0)])))))))))))))))
theorem t_fuse4_eq : c_fuse4.tree Try.prog (rowCtxE (exL en23) [] hints_FC) 60 12 12 = t_fuse4 := by kernel_rfl
theorem t_fuse4_chk : t_fuse4.chk c_fuse4 = true := by kernel_rfl
abbrev en24 : List En := (12, c_fuse4, t_fuse4) :: en23
theorem en24_con : EnCon en24 := EnCon.cons en23_con t_fuse4_eq (by kernel_rfl) (by kernel_rfl) (chk_det t_fuse4_chk)
theorem en24_kl : EnKl en24 = true := EnKl.cons en23_kl t_fuse4_chk (by kernel_rfl)
def c_fuse5 : MC := { args := [.one (.sln 0 4 5)], blks := [(0, 39, [.num (some .i64), .num (some .i64), .num (some .i64), .num (some .i64), .num (some .i64), .num (some .i64), .num (some .i64), .num (some .i64), .num (some .i64), .num (some .i64), .num (some .i64), .num (some .i64), .num (some .i64), .num (some .i64), .num (some .i64), .num (some .i64), .num (some .i64), .num (some .i64), .num (some .i64), .num (some .i64)])], rg := [(0, 60), ((-30), 1000), ((-20), 5), (1, 200), (0, 60), ((-30), 1000), ((-20), 5), (1, 200), (0, 60), ((-30), 1000), ((-20), 5), (1, 200), (0, 60), ((-30), 1000), ((-20), 5), (1, 200), (0, 60), ((-30), 1000), ((-20), 5), (1, 200)], dom := [], res := [.agg [.num (some .i64), .num (some .i64)], .one (.num (some .i64)), .one (.num (some .i64))], out := [], nn := 0, rng := [((-200000000000000000), 200000000000000000), ((-200000000000000000), 200000000000000000), ((-200000000000000000), 200000000000000000), (0, 0)], key := 25, clamp := false }
def t_fuse5 : T (List E) :=
(.call 12 [(.v 5)] 1
(.call 12 [(.v 9)] 1
(.call 12 [(.v 13)] 1
(.call 12 [(.v 17)] 1
(.call 12 [(.v 21)] 1
(.call 13 [(.mul (.lit 1000) (.v 22)), (.mx (.mx (.mx (.mx (.mx (.lit 0) (.v 22)) (.v 23)) (.v 24)) (.v 25)) (.v 26))] 2
(.call 13 [(.mul (.lit 1000) (.v 23)), (.mx (.mx (.mx (.mx (.mx (.lit 0) (.v 22)) (.v 23)) (.v 24)) (.v 25)) (.v 26))] 2
(.call 13 [(.mul (.lit 1000) (.v 24)), (.mx (.mx (.mx (.mx (.mx (.lit 0) (.v 22)) (.v 23)) (.v 24)) (.v 25)) (.v 26))] 2
(.call 13 [(.mul (.lit 1000) (.v 25)), (.mx (.mx (.mx (.mx (.mx (.lit 0) (.v 22)) (.v 23)) (.v 24)) (.v 25)) (.v 26))] 2
(.call 13 [(.mul (.lit 1000) (.v 26)), (.mx (.mx (.mx (.mx (.mx (.lit 0) (.v 22)) (.v 23)) (.v 24)) (.v 25)) (.v 26))] 2
(.call 14 [(.add (.add (.add (.add (.add (.lit 0) (.mul (.v 27) (.v 3))) (.mul (.v 29) (.v 7))) (.mul (.v 31) (.v 11))) (.mul (.v 33) (.v 15))) (.mul (.v 35) (.v 19))), (.add (.add (.add (.add (.add (.lit 0) (.v 27)) (.v 29)) (.v 31)) (.v 33)) (.v 35))] 2
(.call 14 [(.add (.add (.add (.add (.add (.lit 0) (.mul (.v 27) (.v 4))) (.mul (.v 29) (.v 8))) (.mul (.v 31) (.v 12))) (.mul (.v 33) (.v 16))) (.mul (.v 35) (.v 20))), (.add (.add (.add (.add (.add (.lit 0) (.v 27)) (.v 29)) (.v 31)) (.v 33)) (.v 35))] 2
(.call 15 [(.v 37), (.v 39), (.v 3), (.v 4)] 2
(.call 15 [(.v 37), (.v 39), (.v 7), (.v 8)] 2
(.call 15 [(.v 37), (.v 39), (.v 11), (.v 12)] 2
(.call 15 [(.v 37), (.v 39), (.v 15), (.v 16)] 2
(.call 15 [(.v 37), (.v 39), (.v 19), (.v 20)] 2
(.leaf [(.v 37), (.v 39), (.mx (.mx (.mx (.mx (.mx (.lit 0) (.add (.v 41) (.v 5))) (.add (.v 43) (.v 9))) (.add (.v 45) (.v 13))) (.add (.v 47) (.v 17))) (.add (.v 49) (.v 21))), (.lit 0)]))))))))))))))))))
theorem t_fuse5_eq : c_fuse5.tree Try.prog (rowCtxE (exL en24) [] hints_FC) 60 12 12 = t_fuse5 := by kernel_rfl
theorem t_fuse5_chk : t_fuse5.chk c_fuse5 = true := by kernel_rfl
abbrev en25 : List En := (12, c_fuse5, t_fuse5) :: en24
theorem en25_con : EnCon en25 := EnCon.cons en24_con t_fuse5_eq (by kernel_rfl) (by kernel_rfl) (chk_det t_fuse5_chk)
theorem en25_kl : EnKl en25 = true := EnKl.cons en24_kl t_fuse5_chk (by kernel_rfl)
end Go.Proofs.Ytcedkkleclhglaa
