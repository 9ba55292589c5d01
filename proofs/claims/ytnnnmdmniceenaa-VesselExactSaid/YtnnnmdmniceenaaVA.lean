/- The example of the chapter: its contract. -/
import Derived.Test.YtnnnmdmniceenaaEvZ
set_option linter.unusedSimpArgs false
set_option linter.unusedVariables false
set_option maxRecDepth 100000
namespace Go.Proofs.Ytnnnmdmniceenaa
open Go.RowKit Ev
abbrev en0 : List En := []
theorem en0_con : EnCon en0 := EnCon.nil
theorem en0_kl : EnKl en0 = true := rfl
def hints_VA : FuncId → Nat → Option Hint := fun _ _ => none
def c_sane : MC := { args := [], blks := [], rg := [], dom := [], res := [.one (.num none)], out := [], nn := 0, rng := [(1, 1)], key := 10, clamp := true, rgx := [] }
def t_sane : T (List E) :=
(.leaf [(.lit 1)])
theorem t_sane_eq : c_sane.tree Try.prog (rowCtxE (exL en0) [] hints_VA) 60 12 9 = t_sane := by kernel_rfl
theorem t_sane_chk : t_sane.chk c_sane = true := by kernel_rfl
abbrev en10 : List En := (9, c_sane, t_sane) :: en0
theorem en10_con : EnCon en10 := EnCon.cons en0_con t_sane_eq (by kernel_rfl) (by kernel_rfl) (chk_det t_sane_chk)
theorem en10_kl : EnKl en10 = true := EnKl.cons en0_kl t_sane_chk (by kernel_rfl)
end Go.Proofs.Ytnnnmdmniceenaa
