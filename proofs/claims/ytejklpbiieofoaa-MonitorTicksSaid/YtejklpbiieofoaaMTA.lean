/- The example of the chapter, makers of references and fixes: their contracts. -/
import Derived.Test.YtejklpbiieofoaaEvZ
set_option linter.unusedSimpArgs false
set_option linter.unusedVariables false
set_option maxRecDepth 100000
namespace Go.Proofs.Ytejklpbiieofoaa
open Go.RowKit Ev
abbrev en0 : List En := []
theorem en0_con : EnCon en0 := EnCon.nil
theorem en0_kl : EnKl en0 = true := rfl
def hints_MTA : FuncId → Nat → Option Hint := fun _ _ => none
def c_sane : MC := { args := [], blks := [], rg := [], dom := [], res := [.one (.num none)], out := [], nn := 0, rng := [(1, 1)], key := 10, clamp := true, rgx := [] }
def t_sane : T (List E) :=
(.leaf [(.lit 1)])
theorem t_sane_eq : c_sane.tree Try.prog (rowCtxE (exL en0) [] hints_MTA) 60 12 13 = t_sane := by kernel_rfl
theorem t_sane_chk : t_sane.chk c_sane = true := by kernel_rfl
abbrev en10 : List En := (13, c_sane, t_sane) :: en0
theorem en10_con : EnCon en10 := EnCon.cons en0_con t_sane_eq (by kernel_rfl) (by kernel_rfl) (chk_det t_sane_chk)
theorem en10_kl : EnKl en10 = true := EnKl.cons en0_kl t_sane_chk (by kernel_rfl)
def c_ref : MC := { args := [.one (.ptr 0 0)], blks := [(0, 49, [.sls 0, .num (some .i64)])], rg := [(0, 600), (0, 9223372036854775807), (0, 600)], dom := [.le (.v 2) (.v 0)], res := [.agg [.num (some .i64), .num (some .i64), .num (some .i64), .num (some .i64)]], out := [(0, 49, [.slo 0 0, .num (some .i64)])], nn := 0, rng := [(0, 3), (0, 100), (1, 10), (0, 4), (0, 600)], key := 11, clamp := true, rgx := [] }
def t_ref : T (List E) :=
(.call 900 [(.lit 4), (.v 2), (.v 4)] 2
(.call 900 [(.lit 3), (.v 2), (.v 6)] 2
(.call 900 [(.lit 3), (.v 2), (.v 8)] 2
(.call 900 [(.lit 4), (.v 2), (.v 10)] 2
(.leaf [(.mx (.lit 0) (.mn (.lit 3) (.v 5))), (.sw (.v 7) 0 (.lit 0) (.sw (.v 7) 1 (.lit 10) (.lit 100))), (.sw (.v 9) 0 (.lit 1) (.sw (.v 9) 1 (.lit 3) (.lit 10))), (.sw (.v 11) 0 (.lit 0) (.sw (.v 11) 1 (.lit 0) (.sw (.v 11) 2 (.lit 2) (.lit 4)))), (.mx (.lit 0) (.mn (.lit 600) (.v 12)))])))))
theorem t_ref_eq : c_ref.tree Try.prog (rowCtxE (exL en10) [] hints_MTA) 60 12 8 = t_ref := by kernel_rfl
theorem t_ref_chk : t_ref.chk c_ref = true := by kernel_rfl
abbrev en11 : List En := (8, c_ref, t_ref) :: en10
theorem en11_con : EnCon en11 := EnCon.cons en10_con t_ref_eq (by kernel_rfl) (by kernel_rfl) (chk_det t_ref_chk)
theorem en11_kl : EnKl en11 = true := EnKl.cons en10_kl t_ref_chk (by kernel_rfl)
def c_fix : MC := { args := [.one (.ptr 0 0), .one (.num (some .i64))], blks := [(0, 49, [.sls 0, .num (some .i64)])], rg := [(0, 60), (0, 600), (0, 9223372036854775807), (0, 600)], dom := [.le (.v 3) (.v 0)], res := [.agg [.num (some .i64), .num (some .i64), .num (some .i64), .num (some .i64)]], out := [(0, 49, [.slo 0 1, .num (some .i64)])], nn := 0, rng := [(0, 60), ((-30), 1000), ((-20), 5), (1, 200), (0, 600)], key := 12, clamp := true, rgx := [] }
def t_fix : T (List E) :=
(.call 900 [(.lit 6), (.v 3), (.v 5)] 2
(.call 900 [(.lit 4), (.v 3), (.v 7)] 2
(.call 900 [(.lit 4), (.v 3), (.v 9)] 2
(.leaf [(.mx (.lit 0) (.mn (.lit 60) (.v 2))), (.sw (.v 6) 0 (.lit 0) (.sw (.v 6) 1 (.lit 0) (.sw (.v 6) 2 (.lit 1) (.sw (.v 6) 3 (.lit 20) (.sw (.v 6) 4 (.lit (-30)) (.lit 1000)))))), (.sw (.v 8) 0 (.lit 0) (.sw (.v 8) 1 (.lit 0) (.sw (.v 8) 2 (.lit 5) (.lit (-20))))), (.sw (.v 10) 0 (.lit 1) (.sw (.v 10) 1 (.lit 10) (.sw (.v 10) 2 (.lit 50) (.lit 200)))), (.mx (.lit 0) (.mn (.lit 600) (.v 11)))]))))
theorem t_fix_eq : c_fix.tree Try.prog (rowCtxE (exL en11) [] hints_MTA) 60 12 25 = t_fix := by kernel_rfl
theorem t_fix_chk : t_fix.chk c_fix = true := by kernel_rfl
abbrev en12 : List En := (25, c_fix, t_fix) :: en11
theorem en12_con : EnCon en12 := EnCon.cons en11_con t_fix_eq (by kernel_rfl) (by kernel_rfl) (chk_det t_fix_chk)
theorem en12_kl : EnKl en12 = true := EnKl.cons en11_kl t_fix_chk (by kernel_rfl)
end Go.Proofs.Ytejklpbiieofoaa
