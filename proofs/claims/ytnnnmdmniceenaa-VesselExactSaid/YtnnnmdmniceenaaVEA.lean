/- Roundings and sines of the reference; lists with a number out of range: contracts. -/
import Derived.Test.YtnnnmdmniceenaaVB
set_option linter.unusedSimpArgs false
set_option linter.unusedVariables false
set_option maxRecDepth 100000
namespace Go.Proofs.Ytnnnmdmniceenaa
open Go.RowKit Ev
def hints_VEA : FuncId → Nat → Option Hint := fun _ _ => none
def c_readw : MC := { args := [.one (.slc 0 0 12 12)], blks := [(0, 3, [.num (some .i64), .num (some .i64), .num (some .i64), .num (some .i64), .num (some .i64), .num (some .i64), .num (some .i64), .num (some .i64), .num (some .i64), .num (some .i64), .num (some .i64), .num (some .i64)])], rg := [((-1000), 1000), ((-1000), 1000), ((-1000), 1000), ((-1000), 1000), ((-1000), 1000), ((-1000), 1000), ((-1000), 1000), ((-1000), 1000), ((-1000), 1000), ((-1000), 1000), ((-1000), 1000), ((-9223372036854775808), 9223372036854775807)], dom := [], res := [.agg [.num (some .i64), .num (some .i64), .num (some .i64), .num (some .i64), .num (some .i64), .num (some .i64), .num (some .i64), .num (some .i64), .num (some .i64), .num (some .i64), .num (some .i64), .num (some .i64)], .one (.num none)], out := [], nn := 0, rng := [((-9223372036854775808), 9223372036854775807), ((-9223372036854775808), 9223372036854775807), ((-9223372036854775808), 9223372036854775807), ((-9223372036854775808), 9223372036854775807), ((-9223372036854775808), 9223372036854775807), ((-9223372036854775808), 9223372036854775807), ((-9223372036854775808), 9223372036854775807), ((-9223372036854775808), 9223372036854775807), ((-9223372036854775808), 9223372036854775807), ((-9223372036854775808), 9223372036854775807), ((-9223372036854775808), 9223372036854775807), ((-9223372036854775808), 9223372036854775807), (0, 1)], key := 19, clamp := false, rgx := [] }
def t_readw : T (List E) :=
(.ite (.or (.lt (.v 13) (.lit (-1000))) (.lt (.lit 1000) (.v 13)))
(.leaf [(.lit 0), (.lit 0), (.lit 0), (.lit 0), (.lit 0), (.lit 0), (.lit 0), (.lit 0), (.lit 0), (.lit 0), (.lit 0), (.lit 0), (.lit 0)])
(.leaf [(.v 2), (.v 3), (.v 4), (.v 5), (.v 6), (.v 7), (.v 8), (.v 9), (.v 10), (.v 11), (.v 12), (.v 13), (.lit 1)]))
theorem t_readw_eq : c_readw.tree Try.prog (rowCtxE (exL en18) [] hints_VEA) 60 12 60 = t_readw := by kernel_rfl
theorem t_readw_chk : t_readw.chk c_readw = true := by kernel_rfl
abbrev en19 : List En := (60, c_readw, t_readw) :: en18
theorem en19_con : EnCon en19 := EnCon.cons en18_con t_readw_eq (by kernel_rfl) (by kernel_rfl) (chk_det t_readw_chk)
theorem en19_kl : EnKl en19 = true := EnKl.cons en18_kl t_readw_chk (by kernel_rfl)
def c_rounda : MC := { args := [.one (.num (some .i64)), .one (.num (some .i64))], blks := [], rg := [((-20000000000000), 20000000000000), (1, 1073741824)], dom := [], res := [.one (.num (some .i64))], out := [], nn := 0, rng := [((-40000000000000), 40000000000000)], key := 24, clamp := false, rgx := [] }
def t_rounda : T (List E) :=
(.ite (.lt (.rem (.add (.mul (.lit 2) (.v 2)) (.v 3)) (.mul (.lit 2) (.v 3))) (.lit 0))
(.leaf [(.sub (.quo (.add (.mul (.lit 2) (.v 2)) (.v 3)) (.mul (.lit 2) (.v 3))) (.lit 1))])
(.leaf [(.quo (.add (.mul (.lit 2) (.v 2)) (.v 3)) (.mul (.lit 2) (.v 3)))]))
theorem t_rounda_eq : c_rounda.tree Try.prog (rowCtxE (exL en19) [] hints_VEA) 60 12 43 = t_rounda := by kernel_rfl
theorem t_rounda_chk : t_rounda.chk c_rounda = true := by kernel_rfl
abbrev en24 : List En := (43, c_rounda, t_rounda) :: en19
theorem en24_con : EnCon en24 := EnCon.cons en19_con t_rounda_eq (by kernel_rfl) (by kernel_rfl) (chk_det t_rounda_chk)
theorem en24_kl : EnKl en24 = true := EnKl.cons en19_kl t_rounda_chk (by kernel_rfl)
def c_rounda0 : MC := { args := [.one (.num (some .i64)), .one (.num (some .i64))], blks := [], rg := [((-200000000000), 200000000000), (1, 1073741824)], dom := [], res := [.one (.num (some .i64))], out := [], nn := 0, rng := [((-201000000000), 201000000000)], key := 25, clamp := false, rgx := [] }
def t_rounda0 : T (List E) :=
(.ite (.lt (.rem (.add (.mul (.lit 2) (.v 2)) (.v 3)) (.mul (.lit 2) (.v 3))) (.lit 0))
(.leaf [(.sub (.quo (.add (.mul (.lit 2) (.v 2)) (.v 3)) (.mul (.lit 2) (.v 3))) (.lit 1))])
(.leaf [(.quo (.add (.mul (.lit 2) (.v 2)) (.v 3)) (.mul (.lit 2) (.v 3)))]))
theorem t_rounda0_eq : c_rounda0.tree Try.prog (rowCtxE (exL en24) [] hints_VEA) 60 12 43 = t_rounda0 := by kernel_rfl
theorem t_rounda0_chk : t_rounda0.chk c_rounda0 = true := by kernel_rfl
abbrev en25 : List En := (43, c_rounda0, t_rounda0) :: en24
theorem en25_con : EnCon en25 := EnCon.cons en24_con t_rounda0_eq (by kernel_rfl) (by kernel_rfl) (chk_det t_rounda0_chk)
theorem en25_kl : EnKl en25 = true := EnKl.cons en24_kl t_rounda0_chk (by kernel_rfl)
def c_roundb : MC := { args := [.one (.num (some .i64)), .one (.num (some .i64))], blks := [], rg := [((-100000000000000000), 100000000000000000), (10000, 10000)], dom := [], res := [.one (.num (some .i64))], out := [], nn := 0, rng := [((-10000000000002), 10000000000002)], key := 26, clamp := false, rgx := [] }
def t_roundb : T (List E) :=
(.ite (.lt (.rem (.add (.mul (.lit 2) (.v 2)) (.v 3)) (.lit 20000)) (.lit 0))
(.leaf [(.sub (.quo (.add (.mul (.lit 2) (.v 2)) (.v 3)) (.lit 20000)) (.lit 1))])
(.leaf [(.quo (.add (.mul (.lit 2) (.v 2)) (.v 3)) (.lit 20000))]))
theorem t_roundb_eq : c_roundb.tree Try.prog (rowCtxE (exL en25) [] hints_VEA) 60 12 43 = t_roundb := by kernel_rfl
theorem t_roundb_chk : t_roundb.chk c_roundb = true := by kernel_rfl
abbrev en26 : List En := (43, c_roundb, t_roundb) :: en25
theorem en26_con : EnCon en26 := EnCon.cons en25_con t_roundb_eq (by kernel_rfl) (by kernel_rfl) (chk_det t_roundb_chk)
theorem en26_kl : EnKl en26 = true := EnKl.cons en25_kl t_roundb_chk (by kernel_rfl)
def c_normh : MC := { args := [.one (.num (some .i64))], blks := [], rg := [(0, 10000)], dom := [], res := [.one (.num (some .i64))], out := [], nn := 0, rng := [(0, 3599)], key := 27, clamp := false, rgx := [] }
def t_normh : T (List E) :=
(.leaf [(.rem (.add (.rem (.v 2) (.lit 3600)) (.lit 3600)) (.lit 3600))])
theorem t_normh_eq : c_normh.tree Try.prog (rowCtxE (exL en26) [] hints_VEA) 60 12 52 = t_normh := by kernel_rfl
theorem t_normh_chk : t_normh.chk c_normh = true := by kernel_rfl
abbrev en27 : List En := (52, c_normh, t_normh) :: en26
theorem en27_con : EnCon en27 := EnCon.cons en26_con t_normh_eq (by kernel_rfl) (by kernel_rfl) (chk_det t_normh_chk)
theorem en27_kl : EnKl en27 = true := EnKl.cons en26_kl t_normh_chk (by kernel_rfl)
def c_norml : MC := { args := [.one (.num (some .i64))], blks := [], rg := [(0, 1800)], dom := [], res := [.one (.num (some .i64))], out := [], nn := 0, rng := [], key := 28, clamp := false, rgx := [(0, 1800)] }
def t_norml : T (List E) :=
(.leaf [(.rem (.add (.rem (.v 2) (.lit 3600)) (.lit 3600)) (.lit 3600))])
theorem t_norml_eq : c_norml.tree Try.prog (rowCtxE (exL en27) [] hints_VEA) 60 12 52 = t_norml := by kernel_rfl
theorem t_norml_chk : t_norml.chk c_norml = true := by kernel_rfl
abbrev en28 : List En := (52, c_norml, t_norml) :: en27
theorem rgx_norml {g : Nat → List Int → List Int} {len cap : Int} {z : List Int} (hg : EnOK g len cap z ((52, c_norml, t_norml) :: en27)) : ∀ xs : List Int, xs.length = c_norml.W → RngOK c_norml.rg xs → (∀ b ∈ c_norml.dom, denB (len :: cap :: xs) b = true) → RngOK c_norml.rgx (rowF g z c_norml.key xs) := by
  intro xs hl hr _
  have hl : xs.length = 1 := hl
  match xs, hl with
  | [n], _ =>
    have hn : 0 ≤ n ∧ n ≤ 1800 := hr.1
    rw [hg.1]
    have e : n.tmod 3600 = n := Int.tmod_eq_of_lt hn.1 (by omega)
    have e2 : (n + 3600).tmod 3600 = n := by
      rw [Int.tmod_eq_emod_of_nonneg (by omega)]
      omega
    show RngOK [(0, 1800)] [(n.tmod 3600 + 3600).tmod 3600]
    rw [e, e2]
    exact ⟨⟨by omega, by omega⟩, trivial⟩
theorem en28_con : EnCon en28 := EnCon.consX en27_con t_norml_eq (by kernel_rfl) (by kernel_rfl) (chk_det t_norml_chk) (.inr ⟨by decide, fun hg _ => rgx_norml hg⟩)
theorem en28_kl : EnKl en28 = true := EnKl.cons en27_kl t_norml_chk (by kernel_rfl)
def c_sinl : MC := { args := [.one (.num (some .i64))], blks := [], rg := [(0, 1800)], dom := [], res := [.one (.num (some .i64))], out := [], nn := 0, rng := [((-160010), 160010)], key := 29, clamp := true, rgx := [] }
def t_sinl : T (List E) :=
(.call 28 [(.v 2)] 1
(.leaf [(.mx (.lit (-160010)) (.mn (.lit 160010) (.quo (.add (.mul (.lit 2) (.mul (.lit 40000) (.mul (.v 3) (.sub (.lit 1800) (.v 3))))) (.sub (.lit 4050000) (.mul (.v 3) (.sub (.lit 1800) (.v 3))))) (.mul (.lit 2) (.sub (.lit 4050000) (.mul (.v 3) (.sub (.lit 1800) (.v 3))))))))]))
theorem t_sinl_eq : c_sinl.tree Try.prog (rowCtxE (exL en28) [] hints_VEA) 60 12 45 = t_sinl := by kernel_rfl
theorem t_sinl_chk : t_sinl.chk c_sinl = true := by kernel_rfl
abbrev en29 : List En := (45, c_sinl, t_sinl) :: en28
theorem en29_con : EnCon en29 := EnCon.cons en28_con t_sinl_eq (by kernel_rfl) (by kernel_rfl) (chk_det t_sinl_chk)
theorem en29_kl : EnKl en29 = true := EnKl.cons en28_kl t_sinl_chk (by kernel_rfl)
def c_sinh : MC := { args := [.one (.num (some .i64))], blks := [], rg := [(0, 4499)], dom := [], res := [.one (.num (some .i64))], out := [], nn := 0, rng := [((-160010), 160010)], key := 30, clamp := true, rgx := [] }
def t_sinh : T (List E) :=
(.call 27 [(.v 2)] 1
(.ite (.lt (.lit 1800) (.v 3))
(.call 29 [(.sub (.v 3) (.lit 1800))] 1
(.leaf [(.mx (.lit (-160010)) (.mn (.lit 160010) (.sub (.lit 0) (.v 4))))]))
(.leaf [(.mx (.lit (-160010)) (.mn (.lit 160010) (.quo (.add (.mul (.lit 2) (.mul (.lit 40000) (.mul (.v 3) (.sub (.lit 1800) (.v 3))))) (.sub (.lit 4050000) (.mul (.v 3) (.sub (.lit 1800) (.v 3))))) (.mul (.lit 2) (.sub (.lit 4050000) (.mul (.v 3) (.sub (.lit 1800) (.v 3))))))))])))
theorem t_sinh_eq : c_sinh.tree Try.prog (rowCtxE (exL en29) [] hints_VEA) 60 12 45 = t_sinh := by kernel_rfl
theorem t_sinh_chk : t_sinh.chk c_sinh = true := by kernel_rfl
abbrev en30 : List En := (45, c_sinh, t_sinh) :: en29
theorem en30_con : EnCon en30 := EnCon.cons en29_con t_sinh_eq (by kernel_rfl) (by kernel_rfl) (chk_det t_sinh_chk)
theorem en30_kl : EnKl en30 = true := EnKl.cons en29_kl t_sinh_chk (by kernel_rfl)
def c_rcos : MC := { args := [.one (.num (some .i64))], blks := [], rg := [(0, 3599)], dom := [], res := [.one (.num (some .i64))], out := [], nn := 0, rng := [((-160010), 160010)], key := 31, clamp := true, rgx := [] }
def t_rcos : T (List E) :=
(.call 27 [(.v 2)] 1
(.call 30 [(.add (.v 3) (.lit 900))] 1
(.leaf [(.mx (.lit (-160010)) (.mn (.lit 160010) (.v 4)))])))
theorem t_rcos_eq : c_rcos.tree Try.prog (rowCtxE (exL en30) [] hints_VEA) 60 12 44 = t_rcos := by kernel_rfl
theorem t_rcos_chk : t_rcos.chk c_rcos = true := by kernel_rfl
abbrev en31 : List En := (44, c_rcos, t_rcos) :: en30
theorem en31_con : EnCon en31 := EnCon.cons en30_con t_rcos_eq (by kernel_rfl) (by kernel_rfl) (chk_det t_rcos_chk)
theorem en31_kl : EnKl en31 = true := EnKl.cons en30_kl t_rcos_chk (by kernel_rfl)
end Go.Proofs.Ytnnnmdmniceenaa
