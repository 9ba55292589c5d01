/- Chapter 23: what the contracts' functions are, in plain integers (for VesselExact). -/
import Derived.Test.YtnnnmdmniceenaaVEF
import Derived.Test.YtnnnmdmniceenaaOkJ
import Derived.Test.YtnnnmdmniceenaaHalfZ
set_option linter.unusedSimpArgs false
set_option linter.unusedVariables false
set_option maxRecDepth 100000
namespace Go.Proofs.Ytnnnmdmniceenaa
open Go.RowKit Ev
theorem half_tree {x d : Int} (hd : 1 ≤ d) : (if x.tmod d < 0 then (if d - (x - (x.tdiv d - 1) * d) ≤ x - (x.tdiv d - 1) * d then x.tdiv d - 1 + 1 else x.tdiv d - 1) else (if d - (x - x.tdiv d * d) ≤ x - x.tdiv d * d then x.tdiv d + 1 else x.tdiv d)) = halfZ x d := by
  have e2 := Int.mul_ediv_add_emod x d
  have e3 := Int.emod_nonneg x (show d ≠ 0 by omega)
  have e4 := Int.emod_lt_of_pos x (show 0 < d by omega)
  have key : (if d - (x - x / d * d) ≤ x - x / d * d then x / d + 1 else x / d) = halfZ x d := by
    rw [Int.mul_comm (x / d) d]
    split
    · apply halfZ_of (by omega) <;> (rw [Int.mul_assoc, Int.mul_add]; omega)
    · apply halfZ_of (by omega) <;> (rw [Int.mul_assoc]; omega)
  split
  · rename_i h
    rw [floor_neg hd h]
    exact key
  · rename_i h
    rw [floor_nonneg hd (by omega)]
    exact key
theorem half_key {x d : Int} (hd : 1 ≤ d) : (if d - (x - x / d * d) ≤ x - x / d * d then x / d + 1 else x / d) = halfZ x d := by
  have e2 := Int.mul_ediv_add_emod x d
  have e3 := Int.emod_nonneg x (show d ≠ 0 by omega)
  have e4 := Int.emod_lt_of_pos x (show 0 < d by omega)
  rw [Int.mul_comm (x / d) d]
  split
  · apply halfZ_of (by omega) <;> (rw [Int.mul_assoc, Int.mul_add]; omega)
  · apply halfZ_of (by omega) <;> (rw [Int.mul_assoc]; omega)
theorem i64w {n : Int} (h1 : -9223372036854775808 ≤ n) (h2 : n ≤ 9223372036854775807) : IntKind.i64.wrap n = n := wrap_in .i64 n h1 h2
theorem mul_bd {x y a b : Int} (ha : 0 ≤ a) (hb : 0 ≤ b) (h1 : -a ≤ x) (h2 : x ≤ a) (h3 : -b ≤ y) (h4 : y ≤ b) : -(a * b) ≤ x * y ∧ x * y ≤ a * b := by
  have e1 : 0 ≤ (a - x) * (b + y) := Int.mul_nonneg (by omega) (by omega)
  have e2 : 0 ≤ (a + x) * (b - y) := Int.mul_nonneg (by omega) (by omega)
  have e3 : 0 ≤ (a - x) * (b - y) := Int.mul_nonneg (by omega) (by omega)
  have e4 : 0 ≤ (a + x) * (b + y) := Int.mul_nonneg (by omega) (by omega)
  constructor <;> grind
/-- What drags makes no speed greater. -/
theorem drag_bd {s D M : Int} (h0 : 0 ≤ D) (h1 : D ≤ M) (hM : 1 ≤ M) : (0 ≤ s → 0 ≤ s + halfZ (10000 * 0 - D * s) M ∧ s + halfZ (10000 * 0 - D * s) M ≤ s) ∧ (s ≤ 0 → s ≤ s + halfZ (10000 * 0 - D * s) M ∧ s + halfZ (10000 * 0 - D * s) M ≤ 0) := by
  have e : (10000 : Int) * 0 - D * s = -(D * s) := by omega
  rw [e]
  constructor
  · intro hs
    have a1 : 0 ≤ D * s := Int.mul_nonneg h0 hs
    have a2 : D * s ≤ M * s := Int.mul_le_mul_of_nonneg_right h1 hs
    have b1 := halfZ_hi (n := -(D * s)) (d := M) (b := 0) (by omega) (by omega)
    have b2 := halfZ_lo (n := -(D * s)) (d := M) (b := -s) (by omega) (by rw [Int.mul_neg]; omega)
    omega
  · intro hs
    have a1 : D * s ≤ 0 := by have := Int.mul_nonneg h0 (show 0 ≤ -s by omega); rw [Int.mul_neg] at this; omega
    have a2 : M * s ≤ D * s := Int.mul_le_mul_of_nonpos_right h1 hs
    have b1 := halfZ_hi (n := -(D * s)) (d := M) (b := -s) (by omega) (by rw [Int.mul_neg]; omega)
    have b2 := halfZ_lo (n := -(D * s)) (d := M) (b := 0) (by omega) (by omega)
    omega
section
variable {g : Nat → List Int → List Int} {l c : Int} {z : List Int}
theorem g13 (hg : EnOK g l c z en18) {x d : Int} (hd : 1 ≤ d) (hd2 : d ≤ 1073741824) (hx : -20000000000000 ≤ x ∧ x ≤ 20000000000000) : g 13 [x, d] = [halfZ x d] := by
  have h := hg.2.2.2.2.2.1 [x, d]
  rw [show c_halfa.key = 13 from rfl, rowF_lt (by decide)] at h
  rw [h]
  simp only [t_halfa, Ev.runT, denB, den, List.getD_cons_succ, List.getD_cons_zero, List.map_cons, List.map_nil, decide_eq_true_eq]
  have e2 := Int.mul_ediv_add_emod x d
  have e3 := Int.emod_nonneg x (show d ≠ 0 by omega)
  have e4 := Int.emod_lt_of_pos x (show 0 < d by omega)
  have e5 : x / d * d = d * (x / d) := Int.mul_comm _ _
  split
  · rename_i h
    rw [floor_neg hd h, i64w (n := x / d * d) (by omega) (by omega), i64w (n := x - x / d * d) (by omega) (by omega), i64w (n := d - (x - x / d * d)) (by omega) (by omega), ← half_key hd]
    split <;> rfl
  · rename_i h
    rw [floor_nonneg hd (by omega), i64w (n := x / d * d) (by omega) (by omega), i64w (n := x - x / d * d) (by omega) (by omega), i64w (n := d - (x - x / d * d)) (by omega) (by omega), ← half_key hd]
    split <;> rfl
theorem g14 (hg : EnOK g l c z en18) {x d : Int} (hd : 1 ≤ d) (hd2 : d ≤ 1073741824) : g 14 [x, d] = [halfZ x d] := by
  have h := hg.2.2.2.2.1 [x, d]
  rw [show c_halfb.key = 14 from rfl, rowF_lt (by decide)] at h
  rw [h]
  simp only [t_halfb, Ev.runT, denB, den, List.getD_cons_succ, List.getD_cons_zero, List.map_cons, List.map_nil, decide_eq_true_eq]
  have e2 := Int.mul_ediv_add_emod x d
  have e3 := Int.emod_nonneg x (show d ≠ 0 by omega)
  have e4 := Int.emod_lt_of_pos x (show 0 < d by omega)
  have e5 : x / d * d = d * (x / d) := Int.mul_comm _ _
  split
  · rename_i h
    rw [floor_neg hd h, i64w (n := x - x / d * d) (by omega) (by omega), i64w (n := d - (x - x / d * d)) (by omega) (by omega), ← half_key hd]
    split <;> rfl
  · rename_i h
    rw [floor_nonneg hd (by omega), i64w (n := x - x / d * d) (by omega) (by omega), i64w (n := d - (x - x / d * d)) (by omega) (by omega), ← half_key hd]
    split <;> rfl
theorem g15 (hg : EnOK g l c z en18) {x d : Int} (hd : 1 ≤ d) : g 15 [x, d] = [x % d] := by
  have h := hg.2.2.2.1 [x, d]
  rw [show c_moda.key = 15 from rfl, rowF_lt (by decide)] at h
  rw [h]
  simp only [t_moda, Ev.runT, denB, den, List.getD_cons_succ, List.getD_cons_zero, List.map_cons, List.map_nil, decide_eq_true_eq]
  have h1 := Int.mul_ediv_add_emod x d
  split
  · rename_i h; rw [floor_neg hd h]; congr 1; omega
  · rename_i h; rw [floor_nonneg hd (by omega)]; congr 1; omega
theorem g16 (hg : EnOK g l c z en18) {x d : Int} (hd : 1 ≤ d) : g 16 [x, d] = [x % d] := by
  have h := hg.2.2.1 [x, d]
  rw [show c_modb.key = 16 from rfl, rowF_lt (by decide)] at h
  rw [h]
  simp only [t_modb, Ev.runT, denB, den, List.getD_cons_succ, List.getD_cons_zero, List.map_cons, List.map_nil, decide_eq_true_eq]
  have h1 := Int.mul_ediv_add_emod x d
  split
  · rename_i h; rw [floor_neg hd h]; congr 1; omega
  · rename_i h; rw [floor_nonneg hd (by omega)]; congr 1; omega
def sinG (g : Nat → List Int → List Int) (a : Int) : Int := (g 17 [a]).getD 0 0
theorem sin_bd (hg : EnOK g l c z en18) (a : Int) : -160010 ≤ sinG g a ∧ sinG g a ≤ 160010 := by
  have h := rng_of hg.2.1 t_sin_chk rfl rfl [a]
  rw [show c_sin.key = 17 from rfl] at h
  exact RngOK_get h 0 _ _ rfl
def cosG (g : Nat → List Int → List Int) (a : Int) : Int := (g 18 [a]).getD 0 0
theorem cos_bd (hg : EnOK g l c z en18) (a : Int) : -160010 ≤ cosG g a ∧ cosG g a ≤ 160010 := by
  have h := rng_of hg.1 t_cos_chk rfl rfl [a]
  rw [show c_cos.key = 18 from rfl] at h
  exact RngOK_get h 0 _ _ rfl
theorem sin_at (hg : EnOK g l c z en18) (a : Int) : sinG g a = (Ev.runT (rowF g z) [l, c, a] t_sin).getD 0 0 := by
  have h := hg.2.1 [a]
  rw [show c_sin.key = 17 from rfl, rowF_lt (by decide)] at h
  unfold sinG
  rw [h]
theorem cos_at (hg : EnOK g l c z en18) (a : Int) : cosG g a = (Ev.runT (rowF g z) [l, c, a] t_cos).getD 0 0 := by
  have h := hg.1 [a]
  rw [show c_cos.key = 18 from rfl, rowF_lt (by decide)] at h
  unfold cosG
  rw [h]
def nsZ (s D a M : Int) : Int := s + halfZ (10000 * a - D * s) M
def hdZ (C n : Int) : Int := ((C + n) % 360000).tdiv 100 % 3600
def dxZ (g : Nat → List Int → List Int) (u w h : Int) : Int := halfZ (u * cosG g h - w * sinG g h) 10000
def dyZ (g : Nat → List Int → List Int) (u w h : Int) : Int := halfZ (u * sinG g h + w * cosG g h) 10000
theorem tm_neg {x d : Int} (hd : 1 ≤ d) (h : x.tmod d < 0) : x.tmod d + d = x % d := by
  have h1 := floor_neg hd h
  have h2 := Int.mul_tdiv_add_tmod x d
  have h3 := Int.mul_ediv_add_emod x d
  have h4 : d * (x.tdiv d - 1) = d * (x / d) := by rw [h1]
  rw [Int.mul_sub] at h4
  omega
theorem tm_pos {x d : Int} (hd : 1 ≤ d) (h : ¬ x.tmod d < 0) : x.tmod d = x % d := by
  have h1 := floor_nonneg hd (show 0 ≤ x.tmod d by omega)
  have h2 := Int.mul_tdiv_add_tmod x d
  have h3 := Int.mul_ediv_add_emod x d
  have h4 : d * (x.tdiv d) = d * (x / d) := by rw [h1]
  omega
theorem tm_emod {x d : Int} (hd : 1 ≤ d) : x.tmod d % d = x % d := by
  by_cases h : x.tmod d < 0
  · have h1 := tm_neg hd h
    have h2 : x.tmod d = x % d - d := by omega
    rw [h2, Int.sub_emod, Int.emod_emod, Int.emod_self, Int.sub_zero, Int.emod_emod]
  · rw [tm_pos hd h, Int.emod_emod]
def mxz (a b : Int) : Int := if a < b then b else a
def mnz (a b : Int) : Int := if b < a then b else a
theorem en31_18 (hg : EnOK g l c z en31) : EnOK g l c z en18 := hg.2.2.2.2.2.2.2.2.2
def cl (x : Int) : Int := mxz (-160010) (mnz 160010 x)
theorem cl_cl (x : Int) : cl (cl x) = cl x := by unfold cl mxz mnz; repeat' split
                                                 all_goals omega
theorem cl_neg (x : Int) : cl (0 - cl x) = cl (-1 * x) := by unfold cl mxz mnz; repeat' split
                                                             all_goals omega
def snZ (a : Int) : Int := (2 * (40000 * (a * (1800 - a))) + (4050000 - a * (1800 - a))).tdiv (2 * (4050000 - a * (1800 - a)))
def sinN (a : Int) : Int := if 1800 < a % 3600 then cl (-1 * snZ (a % 3600 - 1800)) else cl (snZ (a % 3600))
theorem cl_sinN (a : Int) : cl (sinN a) = sinN a := by unfold sinN; split <;> exact cl_cl _
theorem g17 (hg : EnOK g l c z en18) (a : Int) : g 17 [a] = [sinN a] := by
  have h := hg.2.1 [a]
  rw [show c_sin.key = 17 from rfl, rowF_lt (by decide)] at h
  rw [h]
  simp only [t_sin, Ev.runT, denB, den, List.getD_cons_succ, List.getD_cons_zero, List.map_cons, List.map_nil, decide_eq_true_eq]
  unfold sinN
  have h1 : a.tmod 3600 < 0 → a.tmod 3600 + 3600 = a % 3600 := fun h => tm_neg (by decide) h
  have h2 : ¬ a.tmod 3600 < 0 → a.tmod 3600 = a % 3600 := fun h => tm_pos (by decide) h
  split
  · rename_i h; rw [h1 h]; split
    · rfl
    · rw [Int.one_mul]; rfl
  · rename_i h; rw [h2 h]; split
    · rfl
    · rw [Int.one_mul]; rfl
theorem sin_N (hg : EnOK g l c z en18) (a : Int) : sinG g a = sinN a := by unfold sinG; rw [g17 hg]; rfl
theorem sinN_mod (a b : Int) (h : a % 3600 = b % 3600) : sinN a = sinN b := by unfold sinN; rw [h]
theorem cos_N (hg : EnOK g l c z en18) (a : Int) : cosG g a = sinN (a + 900) := by
  rw [cos_at hg]
  simp only [t_cos, Ev.runT, denB, den, List.getD_cons_succ, List.getD_cons_zero, List.map_cons, List.map_nil, rowF_lt (show 17 < 900 by decide), g17 hg, fit1, List.cons_append, List.nil_append]
  show cl (sinN _) = _
  rw [cl_sinN]
  exact sinN_mod _ _ (by have := @tm_emod a 3600 (by decide); omega)
theorem g18 (hg : EnOK g l c z en18) (a : Int) : g 18 [a] = [sinN (a + 900)] := by
  have h := hg.1 [a]
  rw [show c_cos.key = 18 from rfl, rowF_lt (by decide)] at h
  rw [h]
  simp only [t_cos, Ev.runT, denB, den, List.getD_cons_succ, List.getD_cons_zero, List.map_cons, List.map_nil, rowF_lt (show 17 < 900 by decide), g17 hg, fit1, List.cons_append, List.nil_append]
  show [cl (sinN _)] = _
  rw [cl_sinN, sinN_mod (a.tmod 3600 + 900) (a + 900) (by have := @tm_emod a 3600 (by decide); omega)]
theorem g27 (hg : EnOK g l c z en31) {a : Int} (ha : 0 ≤ a) : g 27 [a] = [a % 3600] := by
  have h := hg.2.2.2.2.1 [a]
  rw [show c_normh.key = 27 from rfl, rowF_lt (by decide)] at h
  rw [h]
  simp only [t_normh, Ev.runT, denB, den, List.getD_cons_succ, List.getD_cons_zero, List.map_cons, List.map_nil]
  rw [Int.tmod_eq_emod_of_nonneg ha, Int.tmod_eq_emod_of_nonneg (by omega)]
  congr 1; omega
theorem g28 (hg : EnOK g l c z en31) {a : Int} (ha : 0 ≤ a) : g 28 [a] = [a % 3600] := by
  have h := hg.2.2.2.1 [a]
  rw [show c_norml.key = 28 from rfl, rowF_lt (by decide)] at h
  rw [h]
  simp only [t_norml, Ev.runT, denB, den, List.getD_cons_succ, List.getD_cons_zero, List.map_cons, List.map_nil]
  rw [Int.tmod_eq_emod_of_nonneg ha, Int.tmod_eq_emod_of_nonneg (by omega)]
  congr 1; omega
theorem g29 (hg : EnOK g l c z en31) {a : Int} (ha : 0 ≤ a) (hb : a ≤ 1800) : g 29 [a] = [cl (snZ a)] := by
  have h := hg.2.2.1 [a]
  rw [show c_sinl.key = 29 from rfl, rowF_lt (by decide)] at h
  rw [h]
  simp only [t_sinl, Ev.runT, denB, den, List.getD_cons_succ, List.getD_cons_zero, List.map_cons, List.map_nil, rowF_lt (show 28 < 900 by decide), g28 hg ha, fit1, List.cons_append, List.nil_append]
  rw [show a % 3600 = a by omega]
  rfl
theorem g30 (hg : EnOK g l c z en31) {a : Int} (ha : 0 ≤ a) : g 30 [a] = [sinN a] := by
  have h := hg.2.1 [a]
  rw [show c_sinh.key = 30 from rfl, rowF_lt (by decide)] at h
  rw [h]
  unfold sinN
  simp only [t_sinh, Ev.runT, denB, den, List.getD_cons_succ, List.getD_cons_zero, List.map_cons, List.map_nil, rowF_lt (show 27 < 900 by decide), rowF_lt (show 29 < 900 by decide), g27 hg ha, fit1, List.cons_append, List.nil_append, decide_eq_true_eq]
  split
  · rw [g29 hg (by omega) (by omega)]
    show [cl (0 - cl _)] = _
    rw [cl_neg]
  · rfl
theorem g31 (hg : EnOK g l c z en31) {a : Int} (ha : 0 ≤ a) : g 31 [a] = [sinN (a + 900)] := by
  have h := hg.1 [a]
  rw [show c_rcos.key = 31 from rfl, rowF_lt (by decide)] at h
  rw [h]
  simp only [t_rcos, Ev.runT, denB, den, List.getD_cons_succ, List.getD_cons_zero, List.map_cons, List.map_nil, rowF_lt (show 27 < 900 by decide), rowF_lt (show 30 < 900 by decide), g27 hg ha, fit1, List.cons_append, List.nil_append, g30 hg (show 0 ≤ a % 3600 + 900 by omega)]
  show [cl (sinN _)] = _
  rw [cl_sinN, sinN_mod (a % 3600 + 900) (a + 900) (by omega)]
theorem round_Z {n d : Int} (hd : 1 ≤ d) : (if (2 * n + d).tmod (2 * d) < 0 then (2 * n + d).tdiv (2 * d) - 1 else (2 * n + d).tdiv (2 * d)) = halfZ n d := by
  unfold halfZ
  split
  · rename_i h; exact floor_neg (by omega) h
  · rename_i h; exact floor_nonneg (by omega) (by omega)
theorem g24 (hg : EnOK g l c z en31) {n d : Int} (hd : 1 ≤ d) : g 24 [n, d] = [halfZ n d] := by
  have h := hg.2.2.2.2.2.2.2.1 [n, d]
  rw [show c_rounda.key = 24 from rfl, rowF_lt (by decide)] at h
  rw [h]
  simp only [t_rounda, Ev.runT, denB, den, List.getD_cons_succ, List.getD_cons_zero, List.map_cons, List.map_nil, decide_eq_true_eq]
  rw [← round_Z hd]
  split <;> rfl
theorem g25 (hg : EnOK g l c z en31) {n d : Int} (hd : 1 ≤ d) : g 25 [n, d] = [halfZ n d] := by
  have h := hg.2.2.2.2.2.2.1 [n, d]
  rw [show c_rounda0.key = 25 from rfl, rowF_lt (by decide)] at h
  rw [h]
  simp only [t_rounda0, Ev.runT, denB, den, List.getD_cons_succ, List.getD_cons_zero, List.map_cons, List.map_nil, decide_eq_true_eq]
  rw [← round_Z hd]
  split <;> rfl
theorem g26 (hg : EnOK g l c z en31) (n : Int) : g 26 [n, 10000] = [halfZ n 10000] := by
  have h := hg.2.2.2.2.2.1 [n, 10000]
  rw [show c_roundb.key = 26 from rfl, rowF_lt (by decide)] at h
  rw [h]
  simp only [t_roundb, Ev.runT, denB, den, List.getD_cons_succ, List.getD_cons_zero, List.map_cons, List.map_nil, decide_eq_true_eq]
  rw [← round_Z (show (1 : Int) ≤ 10000 by decide), show (2 : Int) * 10000 = 20000 by decide]
  split <;> rfl
theorem g19 (hg : EnOK g l c z en31) (k0 k1 k2 k3 k4 k5 k6 k7 k8 k9 k10 k11 : Int) : g 19 [k0, k1, k2, k3, k4, k5, k6, k7, k8, k9, k10, k11] = if -1000 ≤ k11 ∧ k11 ≤ 1000 then [k0, k1, k2, k3, k4, k5, k6, k7, k8, k9, k10, k11, 1] else [0, 0, 0, 0, 0, 0, 0, 0, 0, 0, 0, 0, 0] := by
  have h := hg.2.2.2.2.2.2.2.2.1 [k0, k1, k2, k3, k4, k5, k6, k7, k8, k9, k10, k11]
  rw [show c_readw.key = 19 from rfl, rowF_lt (by decide)] at h
  rw [h]
  simp only [t_readw, Ev.runT, denB, den, List.getD_cons_succ, List.getD_cons_zero, List.map_cons, List.map_nil, Bool.or_eq_true, decide_eq_true_eq]
  by_cases hk : -1000 ≤ k11 ∧ k11 ≤ 1000
  · rw [if_pos hk, if_neg (by omega)]
  · rw [if_neg hk, if_pos (by omega)]
end
end Go.Proofs.Ytnnnmdmniceenaa
