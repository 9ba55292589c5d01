/- Small functions of the chapter: their contracts. -/
import Derived.Test.YtnnnmdmniceenaaVA
import Derived.Test.YtnnnmdmniceenaaPlain
set_option linter.unusedSimpArgs false
set_option linter.unusedVariables false
set_option maxRecDepth 100000
namespace Go.Proofs.Ytnnnmdmniceenaa
open Go.RowKit Ev
def hints_VB : FuncId → Nat → Option Hint := fun _ _ => none
def c_list : MC := { args := [.one (.ptr 0 0)], blks := [(0, 62, [.sls 0, .num (some .i64)])], rg := [(0, 600), (0, 9223372036854775807), (0, 600)], dom := [.le (.v 2) (.v 0)], res := [.one (.slc 1 0 12 12)], out := [(0, 62, [.slo 0 0, .num (some .i64)]), (1, 3, [.num (some .i64), .num (some .i64), .num (some .i64), .num (some .i64), .num (some .i64), .num (some .i64), .num (some .i64), .num (some .i64), .num (some .i64), .num (some .i64), .num (some .i64), .num (some .i64)])], nn := 1, rng := [(0, 600), ((-1000), 1000), ((-1000), 1000), ((-1000), 1000), ((-1000), 1000), ((-1000), 1000), ((-1000), 1000), ((-1000), 1000), ((-1000), 1000), ((-1000), 1000), ((-1000), 1000), ((-1000), 1000), ((-1000), 1000)], key := 11, clamp := true, rgx := [] }
def t_list : T (List E) :=
(.call 900 [(.lit 6), (.v 2), (.v 4)] 2
(.call 900 [(.lit 6), (.v 2), (.v 6)] 2
(.call 900 [(.lit 6), (.v 2), (.v 8)] 2
(.call 900 [(.lit 6), (.v 2), (.v 10)] 2
(.call 900 [(.lit 6), (.v 2), (.v 12)] 2
(.call 900 [(.lit 6), (.v 2), (.v 14)] 2
(.call 900 [(.lit 6), (.v 2), (.v 16)] 2
(.call 900 [(.lit 6), (.v 2), (.v 18)] 2
(.call 900 [(.lit 6), (.v 2), (.v 20)] 2
(.call 900 [(.lit 6), (.v 2), (.v 22)] 2
(.call 900 [(.lit 6), (.v 2), (.v 24)] 2
(.call 900 [(.lit 6), (.v 2), (.v 26)] 2
(.leaf [(.mx (.lit 0) (.mn (.lit 600) (.v 28))), (.sw (.v 5) 0 (.lit 0) (.sw (.v 5) 1 (.lit 100) (.sw (.v 5) 2 (.lit (-300)) (.sw (.v 5) 3 (.lit 700) (.sw (.v 5) 4 (.lit (-1000)) (.lit 1000)))))), (.sw (.v 7) 0 (.lit 0) (.sw (.v 7) 1 (.lit 100) (.sw (.v 7) 2 (.lit (-300)) (.sw (.v 7) 3 (.lit 700) (.sw (.v 7) 4 (.lit (-1000)) (.lit 1000)))))), (.sw (.v 9) 0 (.lit 0) (.sw (.v 9) 1 (.lit 100) (.sw (.v 9) 2 (.lit (-300)) (.sw (.v 9) 3 (.lit 700) (.sw (.v 9) 4 (.lit (-1000)) (.lit 1000)))))), (.sw (.v 11) 0 (.lit 0) (.sw (.v 11) 1 (.lit 100) (.sw (.v 11) 2 (.lit (-300)) (.sw (.v 11) 3 (.lit 700) (.sw (.v 11) 4 (.lit (-1000)) (.lit 1000)))))), (.sw (.v 13) 0 (.lit 0) (.sw (.v 13) 1 (.lit 100) (.sw (.v 13) 2 (.lit (-300)) (.sw (.v 13) 3 (.lit 700) (.sw (.v 13) 4 (.lit (-1000)) (.lit 1000)))))), (.sw (.v 15) 0 (.lit 0) (.sw (.v 15) 1 (.lit 100) (.sw (.v 15) 2 (.lit (-300)) (.sw (.v 15) 3 (.lit 700) (.sw (.v 15) 4 (.lit (-1000)) (.lit 1000)))))), (.sw (.v 17) 0 (.lit 0) (.sw (.v 17) 1 (.lit 100) (.sw (.v 17) 2 (.lit (-300)) (.sw (.v 17) 3 (.lit 700) (.sw (.v 17) 4 (.lit (-1000)) (.lit 1000)))))), (.sw (.v 19) 0 (.lit 0) (.sw (.v 19) 1 (.lit 100) (.sw (.v 19) 2 (.lit (-300)) (.sw (.v 19) 3 (.lit 700) (.sw (.v 19) 4 (.lit (-1000)) (.lit 1000)))))), (.sw (.v 21) 0 (.lit 0) (.sw (.v 21) 1 (.lit 100) (.sw (.v 21) 2 (.lit (-300)) (.sw (.v 21) 3 (.lit 700) (.sw (.v 21) 4 (.lit (-1000)) (.lit 1000)))))), (.sw (.v 23) 0 (.lit 0) (.sw (.v 23) 1 (.lit 100) (.sw (.v 23) 2 (.lit (-300)) (.sw (.v 23) 3 (.lit 700) (.sw (.v 23) 4 (.lit (-1000)) (.lit 1000)))))), (.sw (.v 25) 0 (.lit 0) (.sw (.v 25) 1 (.lit 100) (.sw (.v 25) 2 (.lit (-300)) (.sw (.v 25) 3 (.lit 700) (.sw (.v 25) 4 (.lit (-1000)) (.lit 1000)))))), (.sw (.v 27) 0 (.lit 0) (.sw (.v 27) 1 (.lit 100) (.sw (.v 27) 2 (.lit (-300)) (.sw (.v 27) 3 (.lit 700) (.sw (.v 27) 4 (.lit (-1000)) (.lit 1000))))))])))))))))))))
theorem t_list_eq : c_list.tree Try.prog (rowCtxE (exL en10) [] hints_VB) 60 12 36 = t_list := by kernel_rfl
theorem t_list_chk : t_list.chk c_list = true := by kernel_rfl
abbrev en11 : List En := (36, c_list, t_list) :: en10
theorem en11_con : EnCon en11 := EnCon.cons en10_con t_list_eq (by kernel_rfl) (by kernel_rfl) (chk_det t_list_chk)
theorem en11_kl : EnKl en11 = true := EnKl.cons en10_kl t_list_chk (by kernel_rfl)
def c_read : MC := { args := [.one (.slc 0 0 12 12)], blks := [(0, 3, [.num (some .i64), .num (some .i64), .num (some .i64), .num (some .i64), .num (some .i64), .num (some .i64), .num (some .i64), .num (some .i64), .num (some .i64), .num (some .i64), .num (some .i64), .num (some .i64)])], rg := [((-1000), 1000), ((-1000), 1000), ((-1000), 1000), ((-1000), 1000), ((-1000), 1000), ((-1000), 1000), ((-1000), 1000), ((-1000), 1000), ((-1000), 1000), ((-1000), 1000), ((-1000), 1000), ((-1000), 1000)], dom := [], res := [.agg [.num (some .i64), .num (some .i64), .num (some .i64), .num (some .i64), .num (some .i64), .num (some .i64), .num (some .i64), .num (some .i64), .num (some .i64), .num (some .i64), .num (some .i64), .num (some .i64)], .one (.num none)], out := [], nn := 0, rng := [((-1000), 1000), ((-1000), 1000), ((-1000), 1000), ((-1000), 1000), ((-1000), 1000), ((-1000), 1000), ((-1000), 1000), ((-1000), 1000), ((-1000), 1000), ((-1000), 1000), ((-1000), 1000), ((-1000), 1000), (1, 1)], key := 12, clamp := false, rgx := [] }
def t_read : T (List E) :=
(.leaf [(.v 2), (.v 3), (.v 4), (.v 5), (.v 6), (.v 7), (.v 8), (.v 9), (.v 10), (.v 11), (.v 12), (.v 13), (.lit 1)])
theorem t_read_eq : c_read.tree Try.prog (rowCtxE (exL en11) [] hints_VB) 60 12 60 = t_read := by kernel_rfl
theorem t_read_chk : t_read.chk c_read = true := by kernel_rfl
abbrev en12 : List En := (60, c_read, t_read) :: en11
theorem en12_con : EnCon en12 := EnCon.cons en11_con t_read_eq (by kernel_rfl) (by kernel_rfl) (chk_det t_read_chk)
theorem en12_kl : EnKl en12 = true := EnKl.cons en11_kl t_read_chk (by kernel_rfl)
def c_halfa : MC := { args := [.one (.num (some .i64)), .one (.num (some .i64))], blks := [], rg := [((-20000000000000), 20000000000000), (1, 1073741824)], dom := [], res := [.one (.num (some .i64))], out := [], nn := 0, rng := [((-20000000000002), 20000000000002)], key := 13, clamp := false, rgx := [] }
def t_halfa : T (List E) :=
(.ite (.lt (.rem (.v 2) (.v 3)) (.lit 0))
(.ite (.le (.wr .i64 (.sub (.v 3) (.wr .i64 (.sub (.v 2) (.wr .i64 (.mul (.sub (.quo (.v 2) (.v 3)) (.lit 1)) (.v 3))))))) (.wr .i64 (.sub (.v 2) (.wr .i64 (.mul (.sub (.quo (.v 2) (.v 3)) (.lit 1)) (.v 3))))))
(.leaf [(.add (.sub (.quo (.v 2) (.v 3)) (.lit 1)) (.lit 1))])
(.leaf [(.sub (.quo (.v 2) (.v 3)) (.lit 1))]))
(.ite (.le (.wr .i64 (.sub (.v 3) (.wr .i64 (.sub (.v 2) (.wr .i64 (.mul (.quo (.v 2) (.v 3)) (.v 3))))))) (.wr .i64 (.sub (.v 2) (.wr .i64 (.mul (.quo (.v 2) (.v 3)) (.v 3))))))
(.leaf [(.add (.quo (.v 2) (.v 3)) (.lit 1))])
(.leaf [(.quo (.v 2) (.v 3))])))
theorem t_halfa_eq : c_halfa.tree Try.prog (rowCtxE (exL en12) [] hints_VB) 60 12 35 = t_halfa := by kernel_rfl
theorem t_halfa_chk : t_halfa.chk c_halfa = true := by kernel_rfl
abbrev en13 : List En := (35, c_halfa, t_halfa) :: en12
theorem en13_con : EnCon en13 := EnCon.cons en12_con t_halfa_eq (by kernel_rfl) (by kernel_rfl) (chk_det t_halfa_chk)
theorem en13_kl : EnKl en13 = true := EnKl.cons en12_kl t_halfa_chk (by kernel_rfl)
def c_halfb : MC := { args := [.one (.num (some .i64)), .one (.num (some .i64))], blks := [], rg := [((-6500000000000000000), 6500000000000000000), (10000, 10000)], dom := [], res := [.one (.num (some .i64))], out := [], nn := 0, rng := [((-650000000000002), 650000000000002)], key := 14, clamp := false, rgx := [] }
def t_halfb : T (List E) :=
(.ite (.lt (.rem (.v 2) (.v 3)) (.lit 0))
(.ite (.le (.wr .i64 (.sub (.v 3) (.wr .i64 (.sub (.v 2) (.mul (.sub (.quo (.v 2) (.v 3)) (.lit 1)) (.v 3)))))) (.wr .i64 (.sub (.v 2) (.mul (.sub (.quo (.v 2) (.v 3)) (.lit 1)) (.v 3)))))
(.leaf [(.add (.sub (.quo (.v 2) (.v 3)) (.lit 1)) (.lit 1))])
(.leaf [(.sub (.quo (.v 2) (.v 3)) (.lit 1))]))
(.ite (.le (.wr .i64 (.sub (.v 3) (.wr .i64 (.sub (.v 2) (.mul (.quo (.v 2) (.v 3)) (.v 3)))))) (.wr .i64 (.sub (.v 2) (.mul (.quo (.v 2) (.v 3)) (.v 3)))))
(.leaf [(.add (.quo (.v 2) (.v 3)) (.lit 1))])
(.leaf [(.quo (.v 2) (.v 3))])))
theorem t_halfb_eq : c_halfb.tree Try.prog (rowCtxE (exL en13) [] hints_VB) 60 12 35 = t_halfb := by kernel_rfl
theorem t_halfb_chk : t_halfb.chk c_halfb = true := by kernel_rfl
abbrev en14 : List En := (35, c_halfb, t_halfb) :: en13
theorem en14_con : EnCon en14 := EnCon.cons en13_con t_halfb_eq (by kernel_rfl) (by kernel_rfl) (chk_det t_halfb_chk)
theorem en14_kl : EnKl en14 = true := EnKl.cons en13_kl t_halfb_chk (by kernel_rfl)
def c_moda : MC := { args := [.one (.num (some .i64)), .one (.num (some .i64))], blks := [], rg := [((-30000000000000), 30000000000000), (360000, 360000)], dom := [], res := [.one (.num (some .i64))], out := [], nn := 0, rng := [], key := 15, clamp := false, rgx := [(0, 359999)] }
def t_moda : T (List E) :=
(.ite (.lt (.rem (.v 2) (.v 3)) (.lit 0))
(.leaf [(.sub (.v 2) (.mul (.v 3) (.sub (.quo (.v 2) (.v 3)) (.lit 1))))])
(.leaf [(.sub (.v 2) (.mul (.v 3) (.quo (.v 2) (.v 3))))]))
theorem t_moda_eq : c_moda.tree Try.prog (rowCtxE (exL en14) [] hints_VB) 60 12 40 = t_moda := by kernel_rfl
theorem t_moda_chk : t_moda.chk c_moda = true := by kernel_rfl
abbrev en15 : List En := (40, c_moda, t_moda) :: en14
theorem rgx_moda {g : Nat → List Int → List Int} {len cap : Int} {z : List Int} (hg : EnOK g len cap z ((40, c_moda, t_moda) :: en14)) : ∀ xs : List Int, xs.length = c_moda.W → RngOK c_moda.rg xs → (∀ b ∈ c_moda.dom, denB (len :: cap :: xs) b = true) → RngOK c_moda.rgx (rowF g z c_moda.key xs) := by
  intro xs hl hr _
  have hl : xs.length = 2 := hl
  match xs, hl with
  | [n, d], _ =>
    have hd : d = 360000 := by have := hr.2.1; omega
    rw [hg.1]
    subst hd
    simp only [t_moda, Ev.runT, denB, den, List.getD_cons_succ, List.getD_cons_zero, List.map_cons, List.map_nil, decide_eq_true_eq]
    have h1 := Int.mul_ediv_add_emod n 360000
    have h2 := Int.emod_nonneg n (show (360000 : Int) ≠ 0 by omega)
    have h3 := Int.emod_lt_of_pos n (show (0 : Int) < 360000 by omega)
    split
    · rename_i h
      rw [floor_neg (by omega) h]
      exact ⟨⟨by omega, by omega⟩, trivial⟩
    · rename_i h
      rw [floor_nonneg (by omega) (by omega)]
      exact ⟨⟨by omega, by omega⟩, trivial⟩
theorem en15_con : EnCon en15 := EnCon.consX en14_con t_moda_eq (by kernel_rfl) (by kernel_rfl) (chk_det t_moda_chk) (.inr ⟨by decide, fun hg _ => rgx_moda hg⟩)
theorem en15_kl : EnKl en15 = true := EnKl.cons en14_kl t_moda_chk (by kernel_rfl)
def c_modb : MC := { args := [.one (.num (some .i64)), .one (.num (some .i64))], blks := [], rg := [((-1000000), 1000000), (3600, 3600)], dom := [], res := [.one (.num (some .i64))], out := [], nn := 0, rng := [], key := 16, clamp := false, rgx := [(0, 3599)] }
def t_modb : T (List E) :=
(.ite (.lt (.rem (.v 2) (.v 3)) (.lit 0))
(.leaf [(.sub (.v 2) (.mul (.v 3) (.sub (.quo (.v 2) (.v 3)) (.lit 1))))])
(.leaf [(.sub (.v 2) (.mul (.v 3) (.quo (.v 2) (.v 3))))]))
theorem t_modb_eq : c_modb.tree Try.prog (rowCtxE (exL en15) [] hints_VB) 60 12 40 = t_modb := by kernel_rfl
theorem t_modb_chk : t_modb.chk c_modb = true := by kernel_rfl
abbrev en16 : List En := (40, c_modb, t_modb) :: en15
theorem rgx_modb {g : Nat → List Int → List Int} {len cap : Int} {z : List Int} (hg : EnOK g len cap z ((40, c_modb, t_modb) :: en15)) : ∀ xs : List Int, xs.length = c_modb.W → RngOK c_modb.rg xs → (∀ b ∈ c_modb.dom, denB (len :: cap :: xs) b = true) → RngOK c_modb.rgx (rowF g z c_modb.key xs) := by
  intro xs hl hr _
  have hl : xs.length = 2 := hl
  match xs, hl with
  | [n, d], _ =>
    have hd : d = 3600 := by have := hr.2.1; omega
    rw [hg.1]
    subst hd
    simp only [t_modb, Ev.runT, denB, den, List.getD_cons_succ, List.getD_cons_zero, List.map_cons, List.map_nil, decide_eq_true_eq]
    have h1 := Int.mul_ediv_add_emod n 3600
    have h2 := Int.emod_nonneg n (show (3600 : Int) ≠ 0 by omega)
    have h3 := Int.emod_lt_of_pos n (show (0 : Int) < 3600 by omega)
    split
    · rename_i h
      rw [floor_neg (by omega) h]
      exact ⟨⟨by omega, by omega⟩, trivial⟩
    · rename_i h
      rw [floor_nonneg (by omega) (by omega)]
      exact ⟨⟨by omega, by omega⟩, trivial⟩
theorem en16_con : EnCon en16 := EnCon.consX en15_con t_modb_eq (by kernel_rfl) (by kernel_rfl) (chk_det t_modb_chk) (.inr ⟨by decide, fun hg _ => rgx_modb hg⟩)
theorem en16_kl : EnKl en16 = true := EnKl.cons en15_kl t_modb_chk (by kernel_rfl)
def c_sin : MC := { args := [.one (.num (some .i64))], blks := [], rg := [((-10000), 10000)], dom := [], res := [.one (.num (some .i64))], out := [], nn := 0, rng := [((-160010), 160010)], key := 17, clamp := true, rgx := [] }
def t_sin : T (List E) :=
(.ite (.lt (.rem (.v 2) (.lit 3600)) (.lit 0))
(.ite (.lt (.lit 1800) (.add (.rem (.v 2) (.lit 3600)) (.lit 3600)))
(.leaf [(.mx (.lit (-160010)) (.mn (.lit 160010) (.mul (.lit (-1)) (.quo (.add (.mul (.lit 2) (.mul (.lit 40000) (.mul (.sub (.add (.rem (.v 2) (.lit 3600)) (.lit 3600)) (.lit 1800)) (.sub (.lit 1800) (.sub (.add (.rem (.v 2) (.lit 3600)) (.lit 3600)) (.lit 1800)))))) (.sub (.lit 4050000) (.mul (.sub (.add (.rem (.v 2) (.lit 3600)) (.lit 3600)) (.lit 1800)) (.sub (.lit 1800) (.sub (.add (.rem (.v 2) (.lit 3600)) (.lit 3600)) (.lit 1800)))))) (.mul (.lit 2) (.sub (.lit 4050000) (.mul (.sub (.add (.rem (.v 2) (.lit 3600)) (.lit 3600)) (.lit 1800)) (.sub (.lit 1800) (.sub (.add (.rem (.v 2) (.lit 3600)) (.lit 3600)) (.lit 1800))))))))))])
(.leaf [(.mx (.lit (-160010)) (.mn (.lit 160010) (.mul (.lit 1) (.quo (.add (.mul (.lit 2) (.mul (.lit 40000) (.mul (.add (.rem (.v 2) (.lit 3600)) (.lit 3600)) (.sub (.lit 1800) (.add (.rem (.v 2) (.lit 3600)) (.lit 3600)))))) (.sub (.lit 4050000) (.mul (.add (.rem (.v 2) (.lit 3600)) (.lit 3600)) (.sub (.lit 1800) (.add (.rem (.v 2) (.lit 3600)) (.lit 3600)))))) (.mul (.lit 2) (.sub (.lit 4050000) (.mul (.add (.rem (.v 2) (.lit 3600)) (.lit 3600)) (.sub (.lit 1800) (.add (.rem (.v 2) (.lit 3600)) (.lit 3600))))))))))]))
(.ite (.lt (.lit 1800) (.rem (.v 2) (.lit 3600)))
(.leaf [(.mx (.lit (-160010)) (.mn (.lit 160010) (.mul (.lit (-1)) (.quo (.add (.mul (.lit 2) (.mul (.lit 40000) (.mul (.sub (.rem (.v 2) (.lit 3600)) (.lit 1800)) (.sub (.lit 1800) (.sub (.rem (.v 2) (.lit 3600)) (.lit 1800)))))) (.sub (.lit 4050000) (.mul (.sub (.rem (.v 2) (.lit 3600)) (.lit 1800)) (.sub (.lit 1800) (.sub (.rem (.v 2) (.lit 3600)) (.lit 1800)))))) (.mul (.lit 2) (.sub (.lit 4050000) (.mul (.sub (.rem (.v 2) (.lit 3600)) (.lit 1800)) (.sub (.lit 1800) (.sub (.rem (.v 2) (.lit 3600)) (.lit 1800))))))))))])
(.leaf [(.mx (.lit (-160010)) (.mn (.lit 160010) (.mul (.lit 1) (.quo (.add (.mul (.lit 2) (.mul (.lit 40000) (.mul (.rem (.v 2) (.lit 3600)) (.sub (.lit 1800) (.rem (.v 2) (.lit 3600)))))) (.sub (.lit 4050000) (.mul (.rem (.v 2) (.lit 3600)) (.sub (.lit 1800) (.rem (.v 2) (.lit 3600)))))) (.mul (.lit 2) (.sub (.lit 4050000) (.mul (.rem (.v 2) (.lit 3600)) (.sub (.lit 1800) (.rem (.v 2) (.lit 3600))))))))))])))
theorem t_sin_eq : c_sin.tree Try.prog (rowCtxE (exL en16) [] hints_VB) 60 12 48 = t_sin := by kernel_rfl
theorem t_sin_chk : t_sin.chk c_sin = true := by kernel_rfl
abbrev en17 : List En := (48, c_sin, t_sin) :: en16
theorem en17_con : EnCon en17 := EnCon.cons en16_con t_sin_eq (by kernel_rfl) (by kernel_rfl) (chk_det t_sin_chk)
theorem en17_kl : EnKl en17 = true := EnKl.cons en16_kl t_sin_chk (by kernel_rfl)
def c_cos : MC := { args := [.one (.num (some .i64))], blks := [], rg := [(0, 3599)], dom := [], res := [.one (.num (some .i64))], out := [], nn := 0, rng := [((-160010), 160010)], key := 18, clamp := true, rgx := [] }
def t_cos : T (List E) :=
(.call 17 [(.add (.rem (.v 2) (.lit 3600)) (.lit 900))] 1
(.leaf [(.mx (.lit (-160010)) (.mn (.lit 160010) (.v 3)))]))
theorem t_cos_eq : c_cos.tree Try.prog (rowCtxE (exL en17) [] hints_VB) 60 12 49 = t_cos := by kernel_rfl
theorem t_cos_chk : t_cos.chk c_cos = true := by kernel_rfl
abbrev en18 : List En := (49, c_cos, t_cos) :: en17
theorem en18_con : EnCon en18 := EnCon.cons en17_con t_cos_eq (by kernel_rfl) (by kernel_rfl) (chk_det t_cos_chk)
theorem en18_kl : EnKl en18 = true := EnKl.cons en17_kl t_cos_chk (by kernel_rfl)
end Go.Proofs.Ytnnnmdmniceenaa
