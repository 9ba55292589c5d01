/- Validity, places and headings of any motions: contracts. -/
import Derived.Test.YtnnnmdmniceenaaVED
set_option linter.unusedSimpArgs false
set_option linter.unusedVariables false
set_option maxRecDepth 100000
namespace Go.Proofs.Ytnnnmdmniceenaa
open Go.RowKit Ev
def hints_VEF : FuncId → Nat → Option Hint := fun _ _ => none
def c_validv : MC := { args := [.agg [.num (some .i64), .num (some .i64), .num (some .i64), .num (some .i64), .num (some .i64), .num (some .i64), .num (some .i64)]], blks := [], rg := [((-9223372036854775808), 9223372036854775807), ((-9223372036854775808), 9223372036854775807), ((-9223372036854775808), 9223372036854775807), ((-9223372036854775808), 9223372036854775807), ((-9223372036854775808), 9223372036854775807), ((-9223372036854775808), 9223372036854775807), ((-9223372036854775808), 9223372036854775807)], dom := [], res := [.one (.num none)], out := [], nn := 0, rng := [(0, 1)], key := 40, clamp := false, rgx := [] }
def t_validv : T (List E) :=
(.ite (.and (.le (.lit 0) (.v 2)) (.le (.v 2) (.lit 2147483648)))
(.ite (.or (.lt (.v 3) (.lit (-10000000000))) (.lt (.lit 10000000000) (.v 3)))
(.leaf [(.lit 0)])
(.ite (.or (.lt (.v 4) (.lit (-10000000000))) (.lt (.lit 10000000000) (.v 4)))
(.leaf [(.lit 0)])
(.ite (.and (.le (.lit 0) (.v 5)) (.lt (.v 5) (.lit 360000)))
(.ite (.or (.lt (.v 6) (.lit (-100000))) (.lt (.lit 100000) (.v 6)))
(.leaf [(.lit 0)])
(.ite (.or (.lt (.v 7) (.lit (-100000))) (.lt (.lit 100000) (.v 7)))
(.leaf [(.lit 0)])
(.ite (.or (.lt (.v 8) (.lit (-10000))) (.lt (.lit 10000) (.v 8)))
(.leaf [(.lit 0)])
(.leaf [(.lit 1)]))))
(.leaf [(.lit 0)]))))
(.leaf [(.lit 0)]))
theorem t_validv_eq : c_validv.tree Try.prog (rowCtxE (exL en39) [] hints_VEF) 60 12 20 = t_validv := by kernel_rfl
theorem t_validv_chk : t_validv.chk c_validv = true := by kernel_rfl
abbrev en40 : List En := (20, c_validv, t_validv) :: en39
theorem en40_con : EnCon en40 := EnCon.cons en39_con t_validv_eq (by kernel_rfl) (by kernel_rfl) (chk_det t_validv_chk)
theorem en40_kl : EnKl en40 = true := EnKl.cons en39_kl t_validv_chk (by kernel_rfl)
def c_validr : MC := { args := [.agg [.num (some .i64), .num (some .i64), .num (some .i64), .num (some .i64), .num (some .i64), .num (some .i64), .num (some .i64)]], blks := [], rg := [((-9223372036854775808), 9223372036854775807), ((-9223372036854775808), 9223372036854775807), ((-9223372036854775808), 9223372036854775807), ((-9223372036854775808), 9223372036854775807), ((-9223372036854775808), 9223372036854775807), ((-9223372036854775808), 9223372036854775807), ((-9223372036854775808), 9223372036854775807)], dom := [], res := [.one (.num none)], out := [], nn := 0, rng := [(0, 1)], key := 41, clamp := false, rgx := [] }
def t_validr : T (List E) :=
(.ite (.and (.le (.lit 0) (.v 2)) (.le (.v 2) (.lit 2147483648)))
(.ite (.and (.le (.lit (-10000000000)) (.v 3)) (.le (.v 3) (.lit 10000000000)))
(.ite (.and (.le (.lit (-10000000000)) (.v 4)) (.le (.v 4) (.lit 10000000000)))
(.ite (.and (.le (.lit 0) (.v 5)) (.le (.v 5) (.lit 359999)))
(.ite (.and (.le (.lit (-100000)) (.v 6)) (.le (.v 6) (.lit 100000)))
(.ite (.and (.le (.lit (-100000)) (.v 7)) (.le (.v 7) (.lit 100000)))
(.leaf [(.sw (.sw (.mx (.sub (.lit (-10000)) (.v 8)) (.lit 0)) 0 (.lit 1) (.lit 0)) 0 (.lit 0) (.sw (.mx (.sub (.v 8) (.lit 10000)) (.lit 0)) 0 (.lit 1) (.lit 0)))])
(.leaf [(.lit 0)]))
(.leaf [(.lit 0)]))
(.leaf [(.lit 0)]))
(.leaf [(.lit 0)]))
(.leaf [(.lit 0)]))
(.leaf [(.lit 0)]))
theorem t_validr_eq : c_validr.tree Try.prog (rowCtxE (exL en40) [] hints_VEF) 60 12 21 = t_validr := by kernel_rfl
theorem t_validr_chk : t_validr.chk c_validr = true := by kernel_rfl
abbrev en41 : List En := (21, c_validr, t_validr) :: en40
theorem en41_con : EnCon en41 := EnCon.cons en40_con t_validr_eq (by kernel_rfl) (by kernel_rfl) (chk_det t_validr_chk)
theorem en41_kl : EnKl en41 = true := EnKl.cons en40_kl t_validr_chk (by kernel_rfl)
def c_halfg : MC := { args := [.one (.num (some .i64)), .one (.num (some .i64))], blks := [], rg := [((-9223372036854775808), 9223372036854775807), (100, 100)], dom := [], res := [.one (.num (some .i64))], out := [], nn := 0, rng := [((-100000000000000000), 100000000000000000)], key := 42, clamp := false, rgx := [] }
def t_halfg : T (List E) :=
(.ite (.lt (.rem (.v 2) (.v 3)) (.lit 0))
(.ite (.le (.wr .i64 (.sub (.v 3) (.wr .i64 (.sub (.v 2) (.wr .i64 (.mul (.sub (.quo (.v 2) (.v 3)) (.lit 1)) (.v 3))))))) (.wr .i64 (.sub (.v 2) (.wr .i64 (.mul (.sub (.quo (.v 2) (.v 3)) (.lit 1)) (.v 3))))))
(.leaf [(.add (.sub (.quo (.v 2) (.v 3)) (.lit 1)) (.lit 1))])
(.leaf [(.sub (.quo (.v 2) (.v 3)) (.lit 1))]))
(.ite (.le (.wr .i64 (.sub (.v 3) (.wr .i64 (.sub (.v 2) (.mul (.quo (.v 2) (.v 3)) (.v 3)))))) (.wr .i64 (.sub (.v 2) (.mul (.quo (.v 2) (.v 3)) (.v 3)))))
(.leaf [(.add (.quo (.v 2) (.v 3)) (.lit 1))])
(.leaf [(.quo (.v 2) (.v 3))])))
theorem t_halfg_eq : c_halfg.tree Try.prog (rowCtxE (exL en41) [] hints_VEF) 60 12 35 = t_halfg := by kernel_rfl
theorem t_halfg_chk : t_halfg.chk c_halfg = true := by kernel_rfl
abbrev en42 : List En := (35, c_halfg, t_halfg) :: en41
theorem en42_con : EnCon en42 := EnCon.cons en41_con t_halfg_eq (by kernel_rfl) (by kernel_rfl) (chk_det t_halfg_chk)
theorem en42_kl : EnKl en42 = true := EnKl.cons en41_kl t_halfg_chk (by kernel_rfl)
def c_floorg : MC := { args := [.one (.num (some .i64)), .one (.num (some .i64))], blks := [], rg := [((-9223372036854775808), 9223372036854775807), (50, 50)], dom := [], res := [.one (.num (some .i64))], out := [], nn := 0, rng := [((-100000000000000000), 100000000000000000)], key := 43, clamp := false, rgx := [] }
def t_floorg : T (List E) :=
(.ite (.lt (.rem (.v 2) (.lit 100)) (.lit 0))
(.ite (.le (.v 3) (.add (.rem (.v 2) (.lit 100)) (.lit 100)))
(.leaf [(.add (.sub (.quo (.v 2) (.lit 100)) (.lit 1)) (.lit 1))])
(.leaf [(.sub (.quo (.v 2) (.lit 100)) (.lit 1))]))
(.ite (.le (.v 3) (.rem (.v 2) (.lit 100)))
(.leaf [(.add (.quo (.v 2) (.lit 100)) (.lit 1))])
(.leaf [(.quo (.v 2) (.lit 100))])))
theorem t_floorg_eq : c_floorg.tree Try.prog (rowCtxE (exL en42) [] hints_VEF) 60 12 39 = t_floorg := by kernel_rfl
theorem t_floorg_chk : t_floorg.chk c_floorg = true := by kernel_rfl
abbrev en43 : List En := (39, c_floorg, t_floorg) :: en42
theorem en43_con : EnCon en43 := EnCon.cons en42_con t_floorg_eq (by kernel_rfl) (by kernel_rfl) (chk_det t_floorg_chk)
theorem en43_kl : EnKl en43 = true := EnKl.cons en42_kl t_floorg_chk (by kernel_rfl)
def c_modg : MC := { args := [.one (.num (some .i64)), .one (.num (some .i64))], blks := [], rg := [((-100000000000000000), 100000000000000000), (3600, 3600)], dom := [], res := [.one (.num (some .i64))], out := [], nn := 0, rng := [((-1000000000000000000), 1000000000000000000)], key := 44, clamp := false, rgx := [] }
def t_modg : T (List E) :=
(.ite (.lt (.rem (.v 2) (.v 3)) (.lit 0))
(.leaf [(.sub (.v 2) (.mul (.v 3) (.sub (.quo (.v 2) (.v 3)) (.lit 1))))])
(.leaf [(.sub (.v 2) (.mul (.v 3) (.quo (.v 2) (.v 3))))]))
theorem t_modg_eq : c_modg.tree Try.prog (rowCtxE (exL en43) [] hints_VEF) 60 12 40 = t_modg := by kernel_rfl
theorem t_modg_chk : t_modg.chk c_modg = true := by kernel_rfl
abbrev en44 : List En := (40, c_modg, t_modg) :: en43
theorem en44_con : EnCon en44 := EnCon.cons en43_con t_modg_eq (by kernel_rfl) (by kernel_rfl) (chk_det t_modg_chk)
theorem en44_kl : EnKl en44 = true := EnKl.cons en43_kl t_modg_chk (by kernel_rfl)
def c_headv : MC := { args := [.agg [.num (some .i64), .num (some .i64), .num (some .i64), .num (some .i64), .num (some .i64), .num (some .i64), .num (some .i64)]], blks := [], rg := [((-9223372036854775808), 9223372036854775807), ((-9223372036854775808), 9223372036854775807), ((-9223372036854775808), 9223372036854775807), ((-9223372036854775808), 9223372036854775807), ((-9223372036854775808), 9223372036854775807), ((-9223372036854775808), 9223372036854775807), ((-9223372036854775808), 9223372036854775807)], dom := [], res := [.one (.num (some .i64))], out := [], nn := 0, rng := [((-1000000000000000000), 1000000000000000000)], key := 45, clamp := false, rgx := [] }
def t_headv : T (List E) :=
(.ite (.lt (.rem (.v 5) (.lit 100)) (.lit 0))
(.call 44 [(.sub (.quo (.v 5) (.lit 100)) (.lit 1)), (.lit 3600)] 1
(.leaf [(.v 9)]))
(.call 44 [(.quo (.v 5) (.lit 100)), (.lit 3600)] 1
(.leaf [(.v 9)])))
theorem t_headv_eq : c_headv.tree Try.prog (rowCtxE (exL en44) [] hints_VEF) 60 12 23 = t_headv := by kernel_rfl
theorem t_headv_chk : t_headv.chk c_headv = true := by kernel_rfl
abbrev en45 : List En := (23, c_headv, t_headv) :: en44
theorem en45_con : EnCon en45 := EnCon.cons en44_con t_headv_eq (by kernel_rfl) (by kernel_rfl) (chk_det t_headv_chk)
theorem en45_kl : EnKl en45 = true := EnKl.cons en44_kl t_headv_chk (by kernel_rfl)
def c_headr : MC := { args := [.agg [.num (some .i64), .num (some .i64), .num (some .i64), .num (some .i64), .num (some .i64), .num (some .i64), .num (some .i64)]], blks := [], rg := [((-9223372036854775808), 9223372036854775807), ((-9223372036854775808), 9223372036854775807), ((-9223372036854775808), 9223372036854775807), ((-9223372036854775808), 9223372036854775807), ((-9223372036854775808), 9223372036854775807), ((-9223372036854775808), 9223372036854775807), ((-9223372036854775808), 9223372036854775807)], dom := [], res := [.one (.num (some .i64))], out := [], nn := 0, rng := [((-1000000000000000000), 1000000000000000000)], key := 46, clamp := false, rgx := [] }
def t_headr : T (List E) :=
(.ite (.lt (.rem (.v 5) (.lit 360000)) (.lit 0))
(.leaf [(.quo (.add (.rem (.v 5) (.lit 360000)) (.lit 360000)) (.lit 100))])
(.leaf [(.quo (.rem (.v 5) (.lit 360000)) (.lit 100))]))
theorem t_headr_eq : c_headr.tree Try.prog (rowCtxE (exL en45) [] hints_VEF) 60 12 24 = t_headr := by kernel_rfl
theorem t_headr_chk : t_headr.chk c_headr = true := by kernel_rfl
abbrev en46 : List En := (24, c_headr, t_headr) :: en45
theorem en46_con : EnCon en46 := EnCon.cons en45_con t_headr_eq (by kernel_rfl) (by kernel_rfl) (chk_det t_headr_chk)
theorem en46_kl : EnKl en46 = true := EnKl.cons en45_kl t_headr_chk (by kernel_rfl)
end Go.Proofs.Ytnnnmdmniceenaa
