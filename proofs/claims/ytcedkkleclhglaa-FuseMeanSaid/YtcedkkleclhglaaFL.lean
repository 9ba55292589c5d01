/- Chapter 9: what the contracts' functions are, in plain integers. -/
import Derived.Test.YtcedkkleclhglaaFC
import Derived.Test.YtcedkkleclhglaaOkJ
import Derived.Test.YtcedkkleclhglaaPlain
import Derived.Test.YtcedkkleclhglaaHalfZ
set_option linter.unusedSimpArgs false
set_option linter.unusedVariables false
set_option maxRecDepth 100000
namespace Go.Proofs.Ytcedkkleclhglaa
open Go.RowKit Ev
def mxz (a b : Int) : Int := if a < b then b else a
theorem mxz_l (a b : Int) : a ≤ mxz a b := by unfold mxz; split <;> omega
theorem mxz_r (a b : Int) : b ≤ mxz a b := by unfold mxz; split <;> omega
theorem mxz_le {a b c : Int} (h1 : a ≤ c) (h2 : b ≤ c) : mxz a b ≤ c := by unfold mxz; split <;> omega
theorem mxz_max (a b : Int) : mxz a b = max a b := by unfold mxz; split <;> omega
/-- Weights and their shares. -/
def wZ (e : Int) : Int := mxz 1 ((1000000000 : Int).tdiv (e * e))
def upZ (n d : Int) : Int := -((-n) / d)
theorem wZ_pos (e : Int) : 1 ≤ wZ e := mxz_l _ _
theorem wZ_le (e : Int) : wZ e ≤ 1000000000 := mxz_le (by omega) (tdiv_bd (M := 1000000000) (by omega) (by omega)).2
theorem upZ_bd {W M : Int} (h1 : 1 ≤ W) (h2 : W ≤ M) : 1 ≤ upZ (1000 * W) M ∧ upZ (1000 * W) M ≤ 1000 := by
  unfold upZ
  have hM : 0 < M := by omega
  have a : -(1000 * W) / M < 0 := Int.ediv_neg_of_neg_of_pos (by omega) hM
  have b : -1000 ≤ -(1000 * W) / M := by
    rw [Int.le_ediv_iff_mul_le hM]; omega
  omega
/-- How far two places are apart, in the greater coordinate. -/
def boxZ (a b x y : Int) : Int := mxz (mxz (a - x) (x - a)) (mxz (b - y) (y - b))
theorem boxZ_bd (a b x y : Int) : a - x ≤ boxZ a b x y ∧ x - a ≤ boxZ a b x y ∧ b - y ≤ boxZ a b x y ∧ y - b ≤ boxZ a b x y := by
  have h1 := mxz_l (a - x) (x - a)
  have h2 := mxz_r (a - x) (x - a)
  have h3 := mxz_l (b - y) (y - b)
  have h4 := mxz_r (b - y) (y - b)
  have h5 := mxz_l (mxz (a - x) (x - a)) (mxz (b - y) (y - b))
  have h6 := mxz_r (mxz (a - x) (x - a)) (mxz (b - y) (y - b))
  unfold boxZ
  omega
section
variable {g : Nat → List Int → List Int} {l c : Int} {z : List Int}
theorem g12 (hg : EnOK g l c z en16) (e : Int) : g 12 [e] = [wZ e] := by
  have h := hg.2.2.2.2.1 [e]
  rw [show c_weight.key = 12 from rfl, rowF_lt (by decide)] at h
  rw [h]; rfl
theorem g13 (hg : EnOK g l c z en16) {n d : Int} (hd : 1 ≤ d) : g 13 [n, d] = [upZ n d, 0] := by
  have h := hg.2.2.2.1 [n, d]
  rw [show c_up.key = 13 from rfl, rowF_lt (by decide)] at h
  rw [h]
  simp only [t_up, Ev.runT, denB, den, List.getD_cons_succ, List.getD_cons_zero, List.map_cons, List.map_nil, decide_eq_true_eq]
  rw [show (0 : Int) - n = -n by omega]
  unfold upZ
  split
  · rename_i h; rw [floor_neg hd h]; congr 1; omega
  · rename_i h; rw [floor_nonneg hd (by omega)]; congr 1; omega
theorem g14 (hg : EnOK g l c z en16) {n d : Int} (hd : 1 ≤ d) (hd2 : d ≤ 1000000000) : g 14 [n, d] = [halfZ n d, 0] := by
  have h := hg.2.2.1 [n, d]
  rw [show c_half.key = 14 from rfl, rowF_lt (by decide)] at h
  rw [h]
  simp only [t_half, Ev.runT, denB, den, List.getD_cons_succ, List.getD_cons_zero, List.map_cons, List.map_nil, decide_eq_true_eq, Bool.or_eq_true]
  rw [if_neg (by omega)]
  unfold halfZ
  split
  · rename_i h; rw [floor_neg (by omega) h]
  · rename_i h; rw [floor_nonneg (by omega) (by omega)]
theorem g15 (hg : EnOK g l c z en16) {a b x y : Int} (ha : -100000000 ≤ a ∧ a ≤ 100000000) (hb : -100000000 ≤ b ∧ b ≤ 100000000) : g 15 [a, b, x, y] = [boxZ a b x y, 0] := by
  have h := hg.2.1 [a, b, x, y]
  rw [show c_box.key = 15 from rfl, rowF_lt (by decide)] at h
  rw [h]
  simp only [t_box, Ev.runT, denB, den, List.getD_cons_succ, List.getD_cons_zero, List.map_cons, List.map_nil]
  rw [if_neg (by simp; (repeat' split) <;> omega)]
  rfl
theorem g16 (hg : EnOK g l c z en16) {n d : Int} (hd : 1 ≤ d) : g 16 [n, d] = [halfZ n d, 0] := by
  have h := hg.1 [n, d]
  rw [show c_halfR.key = 16 from rfl, rowF_lt (by decide)] at h
  rw [h]
  simp only [t_halfR, Ev.runT, denB, den, List.getD_cons_succ, List.getD_cons_zero, List.map_cons, List.map_nil, decide_eq_true_eq]
  unfold halfZ
  split
  · rename_i h; rw [floor_neg (by omega) h]
  · rename_i h; rw [floor_nonneg (by omega) (by omega)]
theorem en25_16 (hg : EnOK g l c z en25) : EnOK g l c z en16 := hg.2.2.2.2.2
def most1 (e0 : Int) : Int := mxz 0 (wZ e0)
def all1 (e0 : Int) : Int := 0 + upZ (1000 * wZ e0) (most1 e0)
def mean1 (e0 x0 : Int) : Int := halfZ (0 + upZ (1000 * wZ e0) (most1 e0) * x0) (all1 e0)
def bnd1 (a b x0 y0 e0 : Int) : Int := mxz (0) (boxZ a b x0 y0 + e0)
theorem most1_ge (e0 : Int) : wZ e0 ≤ most1 e0 := by
  unfold most1
  have l0 := mxz_l (0) (wZ e0)
  have r0 := mxz_r (0) (wZ e0)
  omega
theorem all1_bd (e0 : Int) : 1 ≤ all1 e0 ∧ all1 e0 ≤ 1000 := by
  have hm := most1_ge e0
  have u0 := upZ_bd (wZ_pos e0) (show wZ e0 ≤ most1 e0 by omega)
  unfold all1
  omega
theorem mean1_lo (e0 : Int) {x0 b : Int} (h0 : b ≤ x0) : b ≤ mean1 e0 x0 := by
  have hm := most1_ge e0
  have u0 := upZ_bd (wZ_pos e0) (show wZ e0 ≤ most1 e0 by omega)
  have p0 : 0 ≤ upZ (1000 * wZ e0) (most1 e0) * (x0 - b) := Int.mul_nonneg (by omega) (by omega)
  rw [Int.mul_sub] at p0
  have ha := all1_bd e0
  unfold mean1
  refine halfZ_lo (by omega) ?_
  unfold all1 at ha ⊢
  generalize upZ (1000 * wZ e0) (most1 e0) = w0 at *
  simp only [Int.add_mul, Int.zero_mul]
  omega
theorem mean1_hi (e0 : Int) {x0 b : Int} (h0 : x0 ≤ b) : mean1 e0 x0 ≤ b := by
  have hm := most1_ge e0
  have u0 := upZ_bd (wZ_pos e0) (show wZ e0 ≤ most1 e0 by omega)
  have p0 : 0 ≤ upZ (1000 * wZ e0) (most1 e0) * (b - x0) := Int.mul_nonneg (by omega) (by omega)
  rw [Int.mul_sub] at p0
  have ha := all1_bd e0
  unfold mean1
  refine halfZ_hi (by omega) ?_
  unfold all1 at ha ⊢
  generalize upZ (1000 * wZ e0) (most1 e0) = w0 at *
  simp only [Int.add_mul, Int.zero_mul]
  omega
theorem bnd1_ge (a b x0 y0 e0 : Int) : boxZ a b x0 y0 + e0 ≤ bnd1 a b x0 y0 e0 := by
  unfold bnd1
  have l0 := mxz_l (0) (boxZ a b x0 y0 + e0)
  have r0 := mxz_r (0) (boxZ a b x0 y0 + e0)
  omega
set_option maxHeartbeats 2000000 in
theorem fuse1 (hg : EnOK g l c z en25) {t0 x0 y0 e0 : Int} (hx0 : -1000 ≤ x0 ∧ x0 ≤ 1000) (hy0 : -1000 ≤ y0 ∧ y0 ≤ 1000) : g 21 [t0, x0, y0, e0] = [(mean1 e0 x0), (mean1 e0 y0), bnd1 (mean1 e0 x0) (mean1 e0 y0) x0 y0 e0, 0] := by
  have h := hg.2.2.2.2.1 [t0, x0, y0, e0]
  rw [show c_fuse1.key = 21 from rfl, rowF_lt (by decide)] at h
  rw [h]
  have g16 := en25_16 hg
  have hm := most1_ge e0
  have hw := wZ_pos e0
  have ha := all1_bd e0
  have hmx : -100000000 ≤ mean1 e0 x0 ∧ mean1 e0 x0 ≤ 100000000 := ⟨mean1_lo e0 (by omega), mean1_hi e0 (by omega)⟩
  have hmy : -100000000 ≤ mean1 e0 y0 ∧ mean1 e0 y0 ≤ 100000000 := ⟨mean1_lo e0 (by omega), mean1_hi e0 (by omega)⟩
  simp only [t_fuse1, Ev.runT, List.map_cons, List.map_nil, den, List.getD_cons_succ, List.getD_cons_zero, List.cons_append, List.nil_append, rowF_lt (show 12 < 900 by decide), rowF_lt (show 13 < 900 by decide), rowF_lt (show 14 < 900 by decide), rowF_lt (show 15 < 900 by decide), fit1, fit2, g12 g16]
  have em : most1 e0 = mxz 0 (wZ e0) := rfl
  have hM : 1 ≤ mxz 0 (wZ e0) := by rw [← em]; omega
  have e13 : ∀ n : Int, g 13 [n, mxz 0 (wZ e0)] = [upZ n (most1 e0), 0] := fun n => by rw [em]; exact g13 g16 hM
  have e14x : g 14 [0 + upZ (1000 * wZ e0) (most1 e0) * x0, all1 e0] = [mean1 e0 x0, 0] := by rw [g14 g16 (by omega) (by omega)]; rfl
  have e14y : g 14 [0 + upZ (1000 * wZ e0) (most1 e0) * y0, all1 e0] = [mean1 e0 y0, 0] := by rw [g14 g16 (by omega) (by omega)]; rfl
  have fold : ∀ a b : Int, (if a < b then b else a) = mxz a b := fun _ _ => rfl
  simp only [fold, e13, List.getD_cons_zero, List.getD_cons_succ]
  rw [show 0 + upZ (1000 * wZ e0) (most1 e0) = all1 e0 from rfl, e14x, e14y]
  simp only [List.getD_cons_zero, List.getD_cons_succ, g15 g16 hmx hmy]
  rfl
def most2 (e0 e1 : Int) : Int := mxz (mxz 0 (wZ e0)) (wZ e1)
def all2 (e0 e1 : Int) : Int := 0 + upZ (1000 * wZ e0) (most2 e0 e1) + upZ (1000 * wZ e1) (most2 e0 e1)
def mean2 (e0 e1 x0 x1 : Int) : Int := halfZ (0 + upZ (1000 * wZ e0) (most2 e0 e1) * x0 + upZ (1000 * wZ e1) (most2 e0 e1) * x1) (all2 e0 e1)
def bnd2 (a b x0 y0 e0 x1 y1 e1 : Int) : Int := mxz (mxz (0) (boxZ a b x0 y0 + e0)) (boxZ a b x1 y1 + e1)
theorem most2_ge (e0 e1 : Int) : wZ e0 ≤ most2 e0 e1 ∧ wZ e1 ≤ most2 e0 e1 := by
  unfold most2
  have l0 := mxz_l (0) (wZ e0)
  have r0 := mxz_r (0) (wZ e0)
  have l1 := mxz_l (mxz 0 (wZ e0)) (wZ e1)
  have r1 := mxz_r (mxz 0 (wZ e0)) (wZ e1)
  omega
theorem all2_bd (e0 e1 : Int) : 2 ≤ all2 e0 e1 ∧ all2 e0 e1 ≤ 2000 := by
  have hm := most2_ge e0 e1
  have u0 := upZ_bd (wZ_pos e0) (show wZ e0 ≤ most2 e0 e1 by omega)
  have u1 := upZ_bd (wZ_pos e1) (show wZ e1 ≤ most2 e0 e1 by omega)
  unfold all2
  omega
theorem mean2_lo (e0 e1 : Int) {x0 x1 b : Int} (h0 : b ≤ x0) (h1 : b ≤ x1) : b ≤ mean2 e0 e1 x0 x1 := by
  have hm := most2_ge e0 e1
  have u0 := upZ_bd (wZ_pos e0) (show wZ e0 ≤ most2 e0 e1 by omega)
  have p0 : 0 ≤ upZ (1000 * wZ e0) (most2 e0 e1) * (x0 - b) := Int.mul_nonneg (by omega) (by omega)
  rw [Int.mul_sub] at p0
  have u1 := upZ_bd (wZ_pos e1) (show wZ e1 ≤ most2 e0 e1 by omega)
  have p1 : 0 ≤ upZ (1000 * wZ e1) (most2 e0 e1) * (x1 - b) := Int.mul_nonneg (by omega) (by omega)
  rw [Int.mul_sub] at p1
  have ha := all2_bd e0 e1
  unfold mean2
  refine halfZ_lo (by omega) ?_
  unfold all2 at ha ⊢
  generalize upZ (1000 * wZ e0) (most2 e0 e1) = w0 at *
  generalize upZ (1000 * wZ e1) (most2 e0 e1) = w1 at *
  simp only [Int.add_mul, Int.zero_mul]
  omega
theorem mean2_hi (e0 e1 : Int) {x0 x1 b : Int} (h0 : x0 ≤ b) (h1 : x1 ≤ b) : mean2 e0 e1 x0 x1 ≤ b := by
  have hm := most2_ge e0 e1
  have u0 := upZ_bd (wZ_pos e0) (show wZ e0 ≤ most2 e0 e1 by omega)
  have p0 : 0 ≤ upZ (1000 * wZ e0) (most2 e0 e1) * (b - x0) := Int.mul_nonneg (by omega) (by omega)
  rw [Int.mul_sub] at p0
  have u1 := upZ_bd (wZ_pos e1) (show wZ e1 ≤ most2 e0 e1 by omega)
  have p1 : 0 ≤ upZ (1000 * wZ e1) (most2 e0 e1) * (b - x1) := Int.mul_nonneg (by omega) (by omega)
  rw [Int.mul_sub] at p1
  have ha := all2_bd e0 e1
  unfold mean2
  refine halfZ_hi (by omega) ?_
  unfold all2 at ha ⊢
  generalize upZ (1000 * wZ e0) (most2 e0 e1) = w0 at *
  generalize upZ (1000 * wZ e1) (most2 e0 e1) = w1 at *
  simp only [Int.add_mul, Int.zero_mul]
  omega
theorem bnd2_ge (a b x0 y0 e0 x1 y1 e1 : Int) : boxZ a b x0 y0 + e0 ≤ bnd2 a b x0 y0 e0 x1 y1 e1 ∧ boxZ a b x1 y1 + e1 ≤ bnd2 a b x0 y0 e0 x1 y1 e1 := by
  unfold bnd2
  have l0 := mxz_l (0) (boxZ a b x0 y0 + e0)
  have r0 := mxz_r (0) (boxZ a b x0 y0 + e0)
  have l1 := mxz_l (mxz (0) (boxZ a b x0 y0 + e0)) (boxZ a b x1 y1 + e1)
  have r1 := mxz_r (mxz (0) (boxZ a b x0 y0 + e0)) (boxZ a b x1 y1 + e1)
  omega
set_option maxHeartbeats 2000000 in
theorem fuse2 (hg : EnOK g l c z en25) {t0 x0 y0 e0 t1 x1 y1 e1 : Int} (hx0 : -1000 ≤ x0 ∧ x0 ≤ 1000) (hy0 : -1000 ≤ y0 ∧ y0 ≤ 1000) (hx1 : -1000 ≤ x1 ∧ x1 ≤ 1000) (hy1 : -1000 ≤ y1 ∧ y1 ≤ 1000) : g 22 [t0, x0, y0, e0, t1, x1, y1, e1] = [(mean2 e0 e1 x0 x1), (mean2 e0 e1 y0 y1), bnd2 (mean2 e0 e1 x0 x1) (mean2 e0 e1 y0 y1) x0 y0 e0 x1 y1 e1, 0] := by
  have h := hg.2.2.2.1 [t0, x0, y0, e0, t1, x1, y1, e1]
  rw [show c_fuse2.key = 22 from rfl, rowF_lt (by decide)] at h
  rw [h]
  have g16 := en25_16 hg
  have hm := most2_ge e0 e1
  have hw := wZ_pos e0
  have ha := all2_bd e0 e1
  have hmx : -100000000 ≤ mean2 e0 e1 x0 x1 ∧ mean2 e0 e1 x0 x1 ≤ 100000000 := ⟨mean2_lo e0 e1 (by omega) (by omega), mean2_hi e0 e1 (by omega) (by omega)⟩
  have hmy : -100000000 ≤ mean2 e0 e1 y0 y1 ∧ mean2 e0 e1 y0 y1 ≤ 100000000 := ⟨mean2_lo e0 e1 (by omega) (by omega), mean2_hi e0 e1 (by omega) (by omega)⟩
  simp only [t_fuse2, Ev.runT, List.map_cons, List.map_nil, den, List.getD_cons_succ, List.getD_cons_zero, List.cons_append, List.nil_append, rowF_lt (show 12 < 900 by decide), rowF_lt (show 13 < 900 by decide), rowF_lt (show 14 < 900 by decide), rowF_lt (show 15 < 900 by decide), fit1, fit2, g12 g16]
  have em : most2 e0 e1 = mxz (mxz 0 (wZ e0)) (wZ e1) := rfl
  have hM : 1 ≤ mxz (mxz 0 (wZ e0)) (wZ e1) := by rw [← em]; omega
  have e13 : ∀ n : Int, g 13 [n, mxz (mxz 0 (wZ e0)) (wZ e1)] = [upZ n (most2 e0 e1), 0] := fun n => by rw [em]; exact g13 g16 hM
  have e14x : g 14 [0 + upZ (1000 * wZ e0) (most2 e0 e1) * x0 + upZ (1000 * wZ e1) (most2 e0 e1) * x1, all2 e0 e1] = [mean2 e0 e1 x0 x1, 0] := by rw [g14 g16 (by omega) (by omega)]; rfl
  have e14y : g 14 [0 + upZ (1000 * wZ e0) (most2 e0 e1) * y0 + upZ (1000 * wZ e1) (most2 e0 e1) * y1, all2 e0 e1] = [mean2 e0 e1 y0 y1, 0] := by rw [g14 g16 (by omega) (by omega)]; rfl
  have fold : ∀ a b : Int, (if a < b then b else a) = mxz a b := fun _ _ => rfl
  simp only [fold, e13, List.getD_cons_zero, List.getD_cons_succ]
  rw [show 0 + upZ (1000 * wZ e0) (most2 e0 e1) + upZ (1000 * wZ e1) (most2 e0 e1) = all2 e0 e1 from rfl, e14x, e14y]
  simp only [List.getD_cons_zero, List.getD_cons_succ, g15 g16 hmx hmy]
  rfl
def most3 (e0 e1 e2 : Int) : Int := mxz (mxz (mxz 0 (wZ e0)) (wZ e1)) (wZ e2)
def all3 (e0 e1 e2 : Int) : Int := 0 + upZ (1000 * wZ e0) (most3 e0 e1 e2) + upZ (1000 * wZ e1) (most3 e0 e1 e2) + upZ (1000 * wZ e2) (most3 e0 e1 e2)
def mean3 (e0 e1 e2 x0 x1 x2 : Int) : Int := halfZ (0 + upZ (1000 * wZ e0) (most3 e0 e1 e2) * x0 + upZ (1000 * wZ e1) (most3 e0 e1 e2) * x1 + upZ (1000 * wZ e2) (most3 e0 e1 e2) * x2) (all3 e0 e1 e2)
def bnd3 (a b x0 y0 e0 x1 y1 e1 x2 y2 e2 : Int) : Int := mxz (mxz (mxz (0) (boxZ a b x0 y0 + e0)) (boxZ a b x1 y1 + e1)) (boxZ a b x2 y2 + e2)
theorem most3_ge (e0 e1 e2 : Int) : wZ e0 ≤ most3 e0 e1 e2 ∧ wZ e1 ≤ most3 e0 e1 e2 ∧ wZ e2 ≤ most3 e0 e1 e2 := by
  unfold most3
  have l0 := mxz_l (0) (wZ e0)
  have r0 := mxz_r (0) (wZ e0)
  have l1 := mxz_l (mxz 0 (wZ e0)) (wZ e1)
  have r1 := mxz_r (mxz 0 (wZ e0)) (wZ e1)
  have l2 := mxz_l (mxz (mxz 0 (wZ e0)) (wZ e1)) (wZ e2)
  have r2 := mxz_r (mxz (mxz 0 (wZ e0)) (wZ e1)) (wZ e2)
  omega
theorem all3_bd (e0 e1 e2 : Int) : 3 ≤ all3 e0 e1 e2 ∧ all3 e0 e1 e2 ≤ 3000 := by
  have hm := most3_ge e0 e1 e2
  have u0 := upZ_bd (wZ_pos e0) (show wZ e0 ≤ most3 e0 e1 e2 by omega)
  have u1 := upZ_bd (wZ_pos e1) (show wZ e1 ≤ most3 e0 e1 e2 by omega)
  have u2 := upZ_bd (wZ_pos e2) (show wZ e2 ≤ most3 e0 e1 e2 by omega)
  unfold all3
  omega
theorem mean3_lo (e0 e1 e2 : Int) {x0 x1 x2 b : Int} (h0 : b ≤ x0) (h1 : b ≤ x1) (h2 : b ≤ x2) : b ≤ mean3 e0 e1 e2 x0 x1 x2 := by
  have hm := most3_ge e0 e1 e2
  have u0 := upZ_bd (wZ_pos e0) (show wZ e0 ≤ most3 e0 e1 e2 by omega)
  have p0 : 0 ≤ upZ (1000 * wZ e0) (most3 e0 e1 e2) * (x0 - b) := Int.mul_nonneg (by omega) (by omega)
  rw [Int.mul_sub] at p0
  have u1 := upZ_bd (wZ_pos e1) (show wZ e1 ≤ most3 e0 e1 e2 by omega)
  have p1 : 0 ≤ upZ (1000 * wZ e1) (most3 e0 e1 e2) * (x1 - b) := Int.mul_nonneg (by omega) (by omega)
  rw [Int.mul_sub] at p1
  have u2 := upZ_bd (wZ_pos e2) (show wZ e2 ≤ most3 e0 e1 e2 by omega)
  have p2 : 0 ≤ upZ (1000 * wZ e2) (most3 e0 e1 e2) * (x2 - b) := Int.mul_nonneg (by omega) (by omega)
  rw [Int.mul_sub] at p2
  have ha := all3_bd e0 e1 e2
  unfold mean3
  refine halfZ_lo (by omega) ?_
  unfold all3 at ha ⊢
  generalize upZ (1000 * wZ e0) (most3 e0 e1 e2) = w0 at *
  generalize upZ (1000 * wZ e1) (most3 e0 e1 e2) = w1 at *
  generalize upZ (1000 * wZ e2) (most3 e0 e1 e2) = w2 at *
  simp only [Int.add_mul, Int.zero_mul]
  omega
theorem mean3_hi (e0 e1 e2 : Int) {x0 x1 x2 b : Int} (h0 : x0 ≤ b) (h1 : x1 ≤ b) (h2 : x2 ≤ b) : mean3 e0 e1 e2 x0 x1 x2 ≤ b := by
  have hm := most3_ge e0 e1 e2
  have u0 := upZ_bd (wZ_pos e0) (show wZ e0 ≤ most3 e0 e1 e2 by omega)
  have p0 : 0 ≤ upZ (1000 * wZ e0) (most3 e0 e1 e2) * (b - x0) := Int.mul_nonneg (by omega) (by omega)
  rw [Int.mul_sub] at p0
  have u1 := upZ_bd (wZ_pos e1) (show wZ e1 ≤ most3 e0 e1 e2 by omega)
  have p1 : 0 ≤ upZ (1000 * wZ e1) (most3 e0 e1 e2) * (b - x1) := Int.mul_nonneg (by omega) (by omega)
  rw [Int.mul_sub] at p1
  have u2 := upZ_bd (wZ_pos e2) (show wZ e2 ≤ most3 e0 e1 e2 by omega)
  have p2 : 0 ≤ upZ (1000 * wZ e2) (most3 e0 e1 e2) * (b - x2) := Int.mul_nonneg (by omega) (by omega)
  rw [Int.mul_sub] at p2
  have ha := all3_bd e0 e1 e2
  unfold mean3
  refine halfZ_hi (by omega) ?_
  unfold all3 at ha ⊢
  generalize upZ (1000 * wZ e0) (most3 e0 e1 e2) = w0 at *
  generalize upZ (1000 * wZ e1) (most3 e0 e1 e2) = w1 at *
  generalize upZ (1000 * wZ e2) (most3 e0 e1 e2) = w2 at *
  simp only [Int.add_mul, Int.zero_mul]
  omega
theorem bnd3_ge (a b x0 y0 e0 x1 y1 e1 x2 y2 e2 : Int) : boxZ a b x0 y0 + e0 ≤ bnd3 a b x0 y0 e0 x1 y1 e1 x2 y2 e2 ∧ boxZ a b x1 y1 + e1 ≤ bnd3 a b x0 y0 e0 x1 y1 e1 x2 y2 e2 ∧ boxZ a b x2 y2 + e2 ≤ bnd3 a b x0 y0 e0 x1 y1 e1 x2 y2 e2 := by
  unfold bnd3
  have l0 := mxz_l (0) (boxZ a b x0 y0 + e0)
  have r0 := mxz_r (0) (boxZ a b x0 y0 + e0)
  have l1 := mxz_l (mxz (0) (boxZ a b x0 y0 + e0)) (boxZ a b x1 y1 + e1)
  have r1 := mxz_r (mxz (0) (boxZ a b x0 y0 + e0)) (boxZ a b x1 y1 + e1)
  have l2 := mxz_l (mxz (mxz (0) (boxZ a b x0 y0 + e0)) (boxZ a b x1 y1 + e1)) (boxZ a b x2 y2 + e2)
  have r2 := mxz_r (mxz (mxz (0) (boxZ a b x0 y0 + e0)) (boxZ a b x1 y1 + e1)) (boxZ a b x2 y2 + e2)
  omega
set_option maxHeartbeats 2000000 in
theorem fuse3 (hg : EnOK g l c z en25) {t0 x0 y0 e0 t1 x1 y1 e1 t2 x2 y2 e2 : Int} (hx0 : -1000 ≤ x0 ∧ x0 ≤ 1000) (hy0 : -1000 ≤ y0 ∧ y0 ≤ 1000) (hx1 : -1000 ≤ x1 ∧ x1 ≤ 1000) (hy1 : -1000 ≤ y1 ∧ y1 ≤ 1000) (hx2 : -1000 ≤ x2 ∧ x2 ≤ 1000) (hy2 : -1000 ≤ y2 ∧ y2 ≤ 1000) : g 23 [t0, x0, y0, e0, t1, x1, y1, e1, t2, x2, y2, e2] = [(mean3 e0 e1 e2 x0 x1 x2), (mean3 e0 e1 e2 y0 y1 y2), bnd3 (mean3 e0 e1 e2 x0 x1 x2) (mean3 e0 e1 e2 y0 y1 y2) x0 y0 e0 x1 y1 e1 x2 y2 e2, 0] := by
  have h := hg.2.2.1 [t0, x0, y0, e0, t1, x1, y1, e1, t2, x2, y2, e2]
  rw [show c_fuse3.key = 23 from rfl, rowF_lt (by decide)] at h
  rw [h]
  have g16 := en25_16 hg
  have hm := most3_ge e0 e1 e2
  have hw := wZ_pos e0
  have ha := all3_bd e0 e1 e2
  have hmx : -100000000 ≤ mean3 e0 e1 e2 x0 x1 x2 ∧ mean3 e0 e1 e2 x0 x1 x2 ≤ 100000000 := ⟨mean3_lo e0 e1 e2 (by omega) (by omega) (by omega), mean3_hi e0 e1 e2 (by omega) (by omega) (by omega)⟩
  have hmy : -100000000 ≤ mean3 e0 e1 e2 y0 y1 y2 ∧ mean3 e0 e1 e2 y0 y1 y2 ≤ 100000000 := ⟨mean3_lo e0 e1 e2 (by omega) (by omega) (by omega), mean3_hi e0 e1 e2 (by omega) (by omega) (by omega)⟩
  simp only [t_fuse3, Ev.runT, List.map_cons, List.map_nil, den, List.getD_cons_succ, List.getD_cons_zero, List.cons_append, List.nil_append, rowF_lt (show 12 < 900 by decide), rowF_lt (show 13 < 900 by decide), rowF_lt (show 14 < 900 by decide), rowF_lt (show 15 < 900 by decide), fit1, fit2, g12 g16]
  have em : most3 e0 e1 e2 = mxz (mxz (mxz 0 (wZ e0)) (wZ e1)) (wZ e2) := rfl
  have hM : 1 ≤ mxz (mxz (mxz 0 (wZ e0)) (wZ e1)) (wZ e2) := by rw [← em]; omega
  have e13 : ∀ n : Int, g 13 [n, mxz (mxz (mxz 0 (wZ e0)) (wZ e1)) (wZ e2)] = [upZ n (most3 e0 e1 e2), 0] := fun n => by rw [em]; exact g13 g16 hM
  have e14x : g 14 [0 + upZ (1000 * wZ e0) (most3 e0 e1 e2) * x0 + upZ (1000 * wZ e1) (most3 e0 e1 e2) * x1 + upZ (1000 * wZ e2) (most3 e0 e1 e2) * x2, all3 e0 e1 e2] = [mean3 e0 e1 e2 x0 x1 x2, 0] := by rw [g14 g16 (by omega) (by omega)]; rfl
  have e14y : g 14 [0 + upZ (1000 * wZ e0) (most3 e0 e1 e2) * y0 + upZ (1000 * wZ e1) (most3 e0 e1 e2) * y1 + upZ (1000 * wZ e2) (most3 e0 e1 e2) * y2, all3 e0 e1 e2] = [mean3 e0 e1 e2 y0 y1 y2, 0] := by rw [g14 g16 (by omega) (by omega)]; rfl
  have fold : ∀ a b : Int, (if a < b then b else a) = mxz a b := fun _ _ => rfl
  simp only [fold, e13, List.getD_cons_zero, List.getD_cons_succ]
  rw [show 0 + upZ (1000 * wZ e0) (most3 e0 e1 e2) + upZ (1000 * wZ e1) (most3 e0 e1 e2) + upZ (1000 * wZ e2) (most3 e0 e1 e2) = all3 e0 e1 e2 from rfl, e14x, e14y]
  simp only [List.getD_cons_zero, List.getD_cons_succ, g15 g16 hmx hmy]
  rfl
def most4 (e0 e1 e2 e3 : Int) : Int := mxz (mxz (mxz (mxz 0 (wZ e0)) (wZ e1)) (wZ e2)) (wZ e3)
def all4 (e0 e1 e2 e3 : Int) : Int := 0 + upZ (1000 * wZ e0) (most4 e0 e1 e2 e3) + upZ (1000 * wZ e1) (most4 e0 e1 e2 e3) + upZ (1000 * wZ e2) (most4 e0 e1 e2 e3) + upZ (1000 * wZ e3) (most4 e0 e1 e2 e3)
def mean4 (e0 e1 e2 e3 x0 x1 x2 x3 : Int) : Int := halfZ (0 + upZ (1000 * wZ e0) (most4 e0 e1 e2 e3) * x0 + upZ (1000 * wZ e1) (most4 e0 e1 e2 e3) * x1 + upZ (1000 * wZ e2) (most4 e0 e1 e2 e3) * x2 + upZ (1000 * wZ e3) (most4 e0 e1 e2 e3) * x3) (all4 e0 e1 e2 e3)
def bnd4 (a b x0 y0 e0 x1 y1 e1 x2 y2 e2 x3 y3 e3 : Int) : Int := mxz (mxz (mxz (mxz (0) (boxZ a b x0 y0 + e0)) (boxZ a b x1 y1 + e1)) (boxZ a b x2 y2 + e2)) (boxZ a b x3 y3 + e3)
theorem most4_ge (e0 e1 e2 e3 : Int) : wZ e0 ≤ most4 e0 e1 e2 e3 ∧ wZ e1 ≤ most4 e0 e1 e2 e3 ∧ wZ e2 ≤ most4 e0 e1 e2 e3 ∧ wZ e3 ≤ most4 e0 e1 e2 e3 := by
  unfold most4
  have l0 := mxz_l (0) (wZ e0)
  have r0 := mxz_r (0) (wZ e0)
  have l1 := mxz_l (mxz 0 (wZ e0)) (wZ e1)
  have r1 := mxz_r (mxz 0 (wZ e0)) (wZ e1)
  have l2 := mxz_l (mxz (mxz 0 (wZ e0)) (wZ e1)) (wZ e2)
  have r2 := mxz_r (mxz (mxz 0 (wZ e0)) (wZ e1)) (wZ e2)
  have l3 := mxz_l (mxz (mxz (mxz 0 (wZ e0)) (wZ e1)) (wZ e2)) (wZ e3)
  have r3 := mxz_r (mxz (mxz (mxz 0 (wZ e0)) (wZ e1)) (wZ e2)) (wZ e3)
  omega
theorem all4_bd (e0 e1 e2 e3 : Int) : 4 ≤ all4 e0 e1 e2 e3 ∧ all4 e0 e1 e2 e3 ≤ 4000 := by
  have hm := most4_ge e0 e1 e2 e3
  have u0 := upZ_bd (wZ_pos e0) (show wZ e0 ≤ most4 e0 e1 e2 e3 by omega)
  have u1 := upZ_bd (wZ_pos e1) (show wZ e1 ≤ most4 e0 e1 e2 e3 by omega)
  have u2 := upZ_bd (wZ_pos e2) (show wZ e2 ≤ most4 e0 e1 e2 e3 by omega)
  have u3 := upZ_bd (wZ_pos e3) (show wZ e3 ≤ most4 e0 e1 e2 e3 by omega)
  unfold all4
  omega
theorem mean4_lo (e0 e1 e2 e3 : Int) {x0 x1 x2 x3 b : Int} (h0 : b ≤ x0) (h1 : b ≤ x1) (h2 : b ≤ x2) (h3 : b ≤ x3) : b ≤ mean4 e0 e1 e2 e3 x0 x1 x2 x3 := by
  have hm := most4_ge e0 e1 e2 e3
  have u0 := upZ_bd (wZ_pos e0) (show wZ e0 ≤ most4 e0 e1 e2 e3 by omega)
  have p0 : 0 ≤ upZ (1000 * wZ e0) (most4 e0 e1 e2 e3) * (x0 - b) := Int.mul_nonneg (by omega) (by omega)
  rw [Int.mul_sub] at p0
  have u1 := upZ_bd (wZ_pos e1) (show wZ e1 ≤ most4 e0 e1 e2 e3 by omega)
  have p1 : 0 ≤ upZ (1000 * wZ e1) (most4 e0 e1 e2 e3) * (x1 - b) := Int.mul_nonneg (by omega) (by omega)
  rw [Int.mul_sub] at p1
  have u2 := upZ_bd (wZ_pos e2) (show wZ e2 ≤ most4 e0 e1 e2 e3 by omega)
  have p2 : 0 ≤ upZ (1000 * wZ e2) (most4 e0 e1 e2 e3) * (x2 - b) := Int.mul_nonneg (by omega) (by omega)
  rw [Int.mul_sub] at p2
  have u3 := upZ_bd (wZ_pos e3) (show wZ e3 ≤ most4 e0 e1 e2 e3 by omega)
  have p3 : 0 ≤ upZ (1000 * wZ e3) (most4 e0 e1 e2 e3) * (x3 - b) := Int.mul_nonneg (by omega) (by omega)
  rw [Int.mul_sub] at p3
  have ha := all4_bd e0 e1 e2 e3
  unfold mean4
  refine halfZ_lo (by omega) ?_
  unfold all4 at ha ⊢
  generalize upZ (1000 * wZ e0) (most4 e0 e1 e2 e3) = w0 at *
  generalize upZ (1000 * wZ e1) (most4 e0 e1 e2 e3) = w1 at *
  generalize upZ (1000 * wZ e2) (most4 e0 e1 e2 e3) = w2 at *
  generalize upZ (1000 * wZ e3) (most4 e0 e1 e2 e3) = w3 at *
  simp only [Int.add_mul, Int.zero_mul]
  omega
theorem mean4_hi (e0 e1 e2 e3 : Int) {x0 x1 x2 x3 b : Int} (h0 : x0 ≤ b) (h1 : x1 ≤ b) (h2 : x2 ≤ b) (h3 : x3 ≤ b) : mean4 e0 e1 e2 e3 x0 x1 x2 x3 ≤ b := by
  have hm := most4_ge e0 e1 e2 e3
  have u0 := upZ_bd (wZ_pos e0) (show wZ e0 ≤ most4 e0 e1 e2 e3 by omega)
  have p0 : 0 ≤ upZ (1000 * wZ e0) (most4 e0 e1 e2 e3) * (b - x0) := Int.mul_nonneg (by omega) (by omega)
  rw [Int.mul_sub] at p0
  have u1 := upZ_bd (wZ_pos e1) (show wZ e1 ≤ most4 e0 e1 e2 e3 by omega)
  have p1 : 0 ≤ upZ (1000 * wZ e1) (most4 e0 e1 e2 e3) * (b - x1) := Int.mul_nonneg (by omega) (by omega)
  rw [Int.mul_sub] at p1
  have u2 := upZ_bd (wZ_pos e2) (show wZ e2 ≤ most4 e0 e1 e2 e3 by omega)
  have p2 : 0 ≤ upZ (1000 * wZ e2) (most4 e0 e1 e2 e3) * (b - x2) := Int.mul_nonneg (by omega) (by omega)
  rw [Int.mul_sub] at p2
  have u3 := upZ_bd (wZ_pos e3) (show wZ e3 ≤ most4 e0 e1 e2 e3 by omega)
  have p3 : 0 ≤ upZ (1000 * wZ e3) (most4 e0 e1 e2 e3) * (b - x3) := Int.mul_nonneg (by omega) (by omega)
  rw [Int.mul_sub] at p3
  have ha := all4_bd e0 e1 e2 e3
  unfold mean4
  refine halfZ_hi (by omega) ?_
  unfold all4 at ha ⊢
  generalize upZ (1000 * wZ e0) (most4 e0 e1 e2 e3) = w0 at *
  generalize upZ (1000 * wZ e1) (most4 e0 e1 e2 e3) = w1 at *
  generalize upZ (1000 * wZ e2) (most4 e0 e1 e2 e3) = w2 at *
  generalize upZ (1000 * wZ e3) (most4 e0 e1 e2 e3) = w3 at *
  simp only [Int.add_mul, Int.zero_mul]
  omega
theorem bnd4_ge (a b x0 y0 e0 x1 y1 e1 x2 y2 e2 x3 y3 e3 : Int) : boxZ a b x0 y0 + e0 ≤ bnd4 a b x0 y0 e0 x1 y1 e1 x2 y2 e2 x3 y3 e3 ∧ boxZ a b x1 y1 + e1 ≤ bnd4 a b x0 y0 e0 x1 y1 e1 x2 y2 e2 x3 y3 e3 ∧ boxZ a b x2 y2 + e2 ≤ bnd4 a b x0 y0 e0 x1 y1 e1 x2 y2 e2 x3 y3 e3 ∧ boxZ a b x3 y3 + e3 ≤ bnd4 a b x0 y0 e0 x1 y1 e1 x2 y2 e2 x3 y3 e3 := by
  unfold bnd4
  have l0 := mxz_l (0) (boxZ a b x0 y0 + e0)
  have r0 := mxz_r (0) (boxZ a b x0 y0 + e0)
  have l1 := mxz_l (mxz (0) (boxZ a b x0 y0 + e0)) (boxZ a b x1 y1 + e1)
  have r1 := mxz_r (mxz (0) (boxZ a b x0 y0 + e0)) (boxZ a b x1 y1 + e1)
  have l2 := mxz_l (mxz (mxz (0) (boxZ a b x0 y0 + e0)) (boxZ a b x1 y1 + e1)) (boxZ a b x2 y2 + e2)
  have r2 := mxz_r (mxz (mxz (0) (boxZ a b x0 y0 + e0)) (boxZ a b x1 y1 + e1)) (boxZ a b x2 y2 + e2)
  have l3 := mxz_l (mxz (mxz (mxz (0) (boxZ a b x0 y0 + e0)) (boxZ a b x1 y1 + e1)) (boxZ a b x2 y2 + e2)) (boxZ a b x3 y3 + e3)
  have r3 := mxz_r (mxz (mxz (mxz (0) (boxZ a b x0 y0 + e0)) (boxZ a b x1 y1 + e1)) (boxZ a b x2 y2 + e2)) (boxZ a b x3 y3 + e3)
  omega
set_option maxHeartbeats 2000000 in
theorem fuse4 (hg : EnOK g l c z en25) {t0 x0 y0 e0 t1 x1 y1 e1 t2 x2 y2 e2 t3 x3 y3 e3 : Int} (hx0 : -1000 ≤ x0 ∧ x0 ≤ 1000) (hy0 : -1000 ≤ y0 ∧ y0 ≤ 1000) (hx1 : -1000 ≤ x1 ∧ x1 ≤ 1000) (hy1 : -1000 ≤ y1 ∧ y1 ≤ 1000) (hx2 : -1000 ≤ x2 ∧ x2 ≤ 1000) (hy2 : -1000 ≤ y2 ∧ y2 ≤ 1000) (hx3 : -1000 ≤ x3 ∧ x3 ≤ 1000) (hy3 : -1000 ≤ y3 ∧ y3 ≤ 1000) : g 24 [t0, x0, y0, e0, t1, x1, y1, e1, t2, x2, y2, e2, t3, x3, y3, e3] = [(mean4 e0 e1 e2 e3 x0 x1 x2 x3), (mean4 e0 e1 e2 e3 y0 y1 y2 y3), bnd4 (mean4 e0 e1 e2 e3 x0 x1 x2 x3) (mean4 e0 e1 e2 e3 y0 y1 y2 y3) x0 y0 e0 x1 y1 e1 x2 y2 e2 x3 y3 e3, 0] := by
  have h := hg.2.1 [t0, x0, y0, e0, t1, x1, y1, e1, t2, x2, y2, e2, t3, x3, y3, e3]
  rw [show c_fuse4.key = 24 from rfl, rowF_lt (by decide)] at h
  rw [h]
  have g16 := en25_16 hg
  have hm := most4_ge e0 e1 e2 e3
  have hw := wZ_pos e0
  have ha := all4_bd e0 e1 e2 e3
  have hmx : -100000000 ≤ mean4 e0 e1 e2 e3 x0 x1 x2 x3 ∧ mean4 e0 e1 e2 e3 x0 x1 x2 x3 ≤ 100000000 := ⟨mean4_lo e0 e1 e2 e3 (by omega) (by omega) (by omega) (by omega), mean4_hi e0 e1 e2 e3 (by omega) (by omega) (by omega) (by omega)⟩
  have hmy : -100000000 ≤ mean4 e0 e1 e2 e3 y0 y1 y2 y3 ∧ mean4 e0 e1 e2 e3 y0 y1 y2 y3 ≤ 100000000 := ⟨mean4_lo e0 e1 e2 e3 (by omega) (by omega) (by omega) (by omega), mean4_hi e0 e1 e2 e3 (by omega) (by omega) (by omega) (by omega)⟩
  simp only [t_fuse4, Ev.runT, List.map_cons, List.map_nil, den, List.getD_cons_succ, List.getD_cons_zero, List.cons_append, List.nil_append, rowF_lt (show 12 < 900 by decide), rowF_lt (show 13 < 900 by decide), rowF_lt (show 14 < 900 by decide), rowF_lt (show 15 < 900 by decide), fit1, fit2, g12 g16]
  have em : most4 e0 e1 e2 e3 = mxz (mxz (mxz (mxz 0 (wZ e0)) (wZ e1)) (wZ e2)) (wZ e3) := rfl
  have hM : 1 ≤ mxz (mxz (mxz (mxz 0 (wZ e0)) (wZ e1)) (wZ e2)) (wZ e3) := by rw [← em]; omega
  have e13 : ∀ n : Int, g 13 [n, mxz (mxz (mxz (mxz 0 (wZ e0)) (wZ e1)) (wZ e2)) (wZ e3)] = [upZ n (most4 e0 e1 e2 e3), 0] := fun n => by rw [em]; exact g13 g16 hM
  have e14x : g 14 [0 + upZ (1000 * wZ e0) (most4 e0 e1 e2 e3) * x0 + upZ (1000 * wZ e1) (most4 e0 e1 e2 e3) * x1 + upZ (1000 * wZ e2) (most4 e0 e1 e2 e3) * x2 + upZ (1000 * wZ e3) (most4 e0 e1 e2 e3) * x3, all4 e0 e1 e2 e3] = [mean4 e0 e1 e2 e3 x0 x1 x2 x3, 0] := by rw [g14 g16 (by omega) (by omega)]; rfl
  have e14y : g 14 [0 + upZ (1000 * wZ e0) (most4 e0 e1 e2 e3) * y0 + upZ (1000 * wZ e1) (most4 e0 e1 e2 e3) * y1 + upZ (1000 * wZ e2) (most4 e0 e1 e2 e3) * y2 + upZ (1000 * wZ e3) (most4 e0 e1 e2 e3) * y3, all4 e0 e1 e2 e3] = [mean4 e0 e1 e2 e3 y0 y1 y2 y3, 0] := by rw [g14 g16 (by omega) (by omega)]; rfl
  have fold : ∀ a b : Int, (if a < b then b else a) = mxz a b := fun _ _ => rfl
  simp only [fold, e13, List.getD_cons_zero, List.getD_cons_succ]
  rw [show 0 + upZ (1000 * wZ e0) (most4 e0 e1 e2 e3) + upZ (1000 * wZ e1) (most4 e0 e1 e2 e3) + upZ (1000 * wZ e2) (most4 e0 e1 e2 e3) + upZ (1000 * wZ e3) (most4 e0 e1 e2 e3) = all4 e0 e1 e2 e3 from rfl, e14x, e14y]
  simp only [List.getD_cons_zero, List.getD_cons_succ, g15 g16 hmx hmy]
  rfl
def most5 (e0 e1 e2 e3 e4 : Int) : Int := mxz (mxz (mxz (mxz (mxz 0 (wZ e0)) (wZ e1)) (wZ e2)) (wZ e3)) (wZ e4)
def all5 (e0 e1 e2 e3 e4 : Int) : Int := 0 + upZ (1000 * wZ e0) (most5 e0 e1 e2 e3 e4) + upZ (1000 * wZ e1) (most5 e0 e1 e2 e3 e4) + upZ (1000 * wZ e2) (most5 e0 e1 e2 e3 e4) + upZ (1000 * wZ e3) (most5 e0 e1 e2 e3 e4) + upZ (1000 * wZ e4) (most5 e0 e1 e2 e3 e4)
def mean5 (e0 e1 e2 e3 e4 x0 x1 x2 x3 x4 : Int) : Int := halfZ (0 + upZ (1000 * wZ e0) (most5 e0 e1 e2 e3 e4) * x0 + upZ (1000 * wZ e1) (most5 e0 e1 e2 e3 e4) * x1 + upZ (1000 * wZ e2) (most5 e0 e1 e2 e3 e4) * x2 + upZ (1000 * wZ e3) (most5 e0 e1 e2 e3 e4) * x3 + upZ (1000 * wZ e4) (most5 e0 e1 e2 e3 e4) * x4) (all5 e0 e1 e2 e3 e4)
def bnd5 (a b x0 y0 e0 x1 y1 e1 x2 y2 e2 x3 y3 e3 x4 y4 e4 : Int) : Int := mxz (mxz (mxz (mxz (mxz (0) (boxZ a b x0 y0 + e0)) (boxZ a b x1 y1 + e1)) (boxZ a b x2 y2 + e2)) (boxZ a b x3 y3 + e3)) (boxZ a b x4 y4 + e4)
theorem most5_ge (e0 e1 e2 e3 e4 : Int) : wZ e0 ≤ most5 e0 e1 e2 e3 e4 ∧ wZ e1 ≤ most5 e0 e1 e2 e3 e4 ∧ wZ e2 ≤ most5 e0 e1 e2 e3 e4 ∧ wZ e3 ≤ most5 e0 e1 e2 e3 e4 ∧ wZ e4 ≤ most5 e0 e1 e2 e3 e4 := by
  unfold most5
  have l0 := mxz_l (0) (wZ e0)
  have r0 := mxz_r (0) (wZ e0)
  have l1 := mxz_l (mxz 0 (wZ e0)) (wZ e1)
  have r1 := mxz_r (mxz 0 (wZ e0)) (wZ e1)
  have l2 := mxz_l (mxz (mxz 0 (wZ e0)) (wZ e1)) (wZ e2)
  have r2 := mxz_r (mxz (mxz 0 (wZ e0)) (wZ e1)) (wZ e2)
  have l3 := mxz_l (mxz (mxz (mxz 0 (wZ e0)) (wZ e1)) (wZ e2)) (wZ e3)
  have r3 := mxz_r (mxz (mxz (mxz 0 (wZ e0)) (wZ e1)) (wZ e2)) (wZ e3)
  have l4 := mxz_l (mxz (mxz (mxz (mxz 0 (wZ e0)) (wZ e1)) (wZ e2)) (wZ e3)) (wZ e4)
  have r4 := mxz_r (mxz (mxz (mxz (mxz 0 (wZ e0)) (wZ e1)) (wZ e2)) (wZ e3)) (wZ e4)
  omega
theorem all5_bd (e0 e1 e2 e3 e4 : Int) : 5 ≤ all5 e0 e1 e2 e3 e4 ∧ all5 e0 e1 e2 e3 e4 ≤ 5000 := by
  have hm := most5_ge e0 e1 e2 e3 e4
  have u0 := upZ_bd (wZ_pos e0) (show wZ e0 ≤ most5 e0 e1 e2 e3 e4 by omega)
  have u1 := upZ_bd (wZ_pos e1) (show wZ e1 ≤ most5 e0 e1 e2 e3 e4 by omega)
  have u2 := upZ_bd (wZ_pos e2) (show wZ e2 ≤ most5 e0 e1 e2 e3 e4 by omega)
  have u3 := upZ_bd (wZ_pos e3) (show wZ e3 ≤ most5 e0 e1 e2 e3 e4 by omega)
  have u4 := upZ_bd (wZ_pos e4) (show wZ e4 ≤ most5 e0 e1 e2 e3 e4 by omega)
  unfold all5
  omega
theorem mean5_lo (e0 e1 e2 e3 e4 : Int) {x0 x1 x2 x3 x4 b : Int} (h0 : b ≤ x0) (h1 : b ≤ x1) (h2 : b ≤ x2) (h3 : b ≤ x3) (h4 : b ≤ x4) : b ≤ mean5 e0 e1 e2 e3 e4 x0 x1 x2 x3 x4 := by
  have hm := most5_ge e0 e1 e2 e3 e4
  have u0 := upZ_bd (wZ_pos e0) (show wZ e0 ≤ most5 e0 e1 e2 e3 e4 by omega)
  have p0 : 0 ≤ upZ (1000 * wZ e0) (most5 e0 e1 e2 e3 e4) * (x0 - b) := Int.mul_nonneg (by omega) (by omega)
  rw [Int.mul_sub] at p0
  have u1 := upZ_bd (wZ_pos e1) (show wZ e1 ≤ most5 e0 e1 e2 e3 e4 by omega)
  have p1 : 0 ≤ upZ (1000 * wZ e1) (most5 e0 e1 e2 e3 e4) * (x1 - b) := Int.mul_nonneg (by omega) (by omega)
  rw [Int.mul_sub] at p1
  have u2 := upZ_bd (wZ_pos e2) (show wZ e2 ≤ most5 e0 e1 e2 e3 e4 by omega)
  have p2 : 0 ≤ upZ (1000 * wZ e2) (most5 e0 e1 e2 e3 e4) * (x2 - b) := Int.mul_nonneg (by omega) (by omega)
  rw [Int.mul_sub] at p2
  have u3 := upZ_bd (wZ_pos e3) (show wZ e3 ≤ most5 e0 e1 e2 e3 e4 by omega)
  have p3 : 0 ≤ upZ (1000 * wZ e3) (most5 e0 e1 e2 e3 e4) * (x3 - b) := Int.mul_nonneg (by omega) (by omega)
  rw [Int.mul_sub] at p3
  have u4 := upZ_bd (wZ_pos e4) (show wZ e4 ≤ most5 e0 e1 e2 e3 e4 by omega)
  have p4 : 0 ≤ upZ (1000 * wZ e4) (most5 e0 e1 e2 e3 e4) * (x4 - b) := Int.mul_nonneg (by omega) (by omega)
  rw [Int.mul_sub] at p4
  have ha := all5_bd e0 e1 e2 e3 e4
  unfold mean5
  refine halfZ_lo (by omega) ?_
  unfold all5 at ha ⊢
  generalize upZ (1000 * wZ e0) (most5 e0 e1 e2 e3 e4) = w0 at *
  generalize upZ (1000 * wZ e1) (most5 e0 e1 e2 e3 e4) = w1 at *
  generalize upZ (1000 * wZ e2) (most5 e0 e1 e2 e3 e4) = w2 at *
  generalize upZ (1000 * wZ e3) (most5 e0 e1 e2 e3 e4) = w3 at *
  generalize upZ (1000 * wZ e4) (most5 e0 e1 e2 e3 e4) = w4 at *
  simp only [Int.add_mul, Int.zero_mul]
  omega
theorem mean5_hi (e0 e1 e2 e3 e4 : Int) {x0 x1 x2 x3 x4 b : Int} (h0 : x0 ≤ b) (h1 : x1 ≤ b) (h2 : x2 ≤ b) (h3 : x3 ≤ b) (h4 : x4 ≤ b) : mean5 e0 e1 e2 e3 e4 x0 x1 x2 x3 x4 ≤ b := by
  have hm := most5_ge e0 e1 e2 e3 e4
  have u0 := upZ_bd (wZ_pos e0) (show wZ e0 ≤ most5 e0 e1 e2 e3 e4 by omega)
  have p0 : 0 ≤ upZ (1000 * wZ e0) (most5 e0 e1 e2 e3 e4) * (b - x0) := Int.mul_nonneg (by omega) (by omega)
  rw [Int.mul_sub] at p0
  have u1 := upZ_bd (wZ_pos e1) (show wZ e1 ≤ most5 e0 e1 e2 e3 e4 by omega)
  have p1 : 0 ≤ upZ (1000 * wZ e1) (most5 e0 e1 e2 e3 e4) * (b - x1) := Int.mul_nonneg (by omega) (by omega)
  rw [Int.mul_sub] at p1
  have u2 := upZ_bd (wZ_pos e2) (show wZ e2 ≤ most5 e0 e1 e2 e3 e4 by omega)
  have p2 : 0 ≤ upZ (1000 * wZ e2) (most5 e0 e1 e2 e3 e4) * (b - x2) := Int.mul_nonneg (by omega) (by omega)
  rw [Int.mul_sub] at p2
  have u3 := upZ_bd (wZ_pos e3) (show wZ e3 ≤ most5 e0 e1 e2 e3 e4 by omega)
  have p3 : 0 ≤ upZ (1000 * wZ e3) (most5 e0 e1 e2 e3 e4) * (b - x3) := Int.mul_nonneg (by omega) (by omega)
  rw [Int.mul_sub] at p3
  have u4 := upZ_bd (wZ_pos e4) (show wZ e4 ≤ most5 e0 e1 e2 e3 e4 by omega)
  have p4 : 0 ≤ upZ (1000 * wZ e4) (most5 e0 e1 e2 e3 e4) * (b - x4) := Int.mul_nonneg (by omega) (by omega)
  rw [Int.mul_sub] at p4
  have ha := all5_bd e0 e1 e2 e3 e4
  unfold mean5
  refine halfZ_hi (by omega) ?_
  unfold all5 at ha ⊢
  generalize upZ (1000 * wZ e0) (most5 e0 e1 e2 e3 e4) = w0 at *
  generalize upZ (1000 * wZ e1) (most5 e0 e1 e2 e3 e4) = w1 at *
  generalize upZ (1000 * wZ e2) (most5 e0 e1 e2 e3 e4) = w2 at *
  generalize upZ (1000 * wZ e3) (most5 e0 e1 e2 e3 e4) = w3 at *
  generalize upZ (1000 * wZ e4) (most5 e0 e1 e2 e3 e4) = w4 at *
  simp only [Int.add_mul, Int.zero_mul]
  omega
theorem bnd5_ge (a b x0 y0 e0 x1 y1 e1 x2 y2 e2 x3 y3 e3 x4 y4 e4 : Int) : boxZ a b x0 y0 + e0 ≤ bnd5 a b x0 y0 e0 x1 y1 e1 x2 y2 e2 x3 y3 e3 x4 y4 e4 ∧ boxZ a b x1 y1 + e1 ≤ bnd5 a b x0 y0 e0 x1 y1 e1 x2 y2 e2 x3 y3 e3 x4 y4 e4 ∧ boxZ a b x2 y2 + e2 ≤ bnd5 a b x0 y0 e0 x1 y1 e1 x2 y2 e2 x3 y3 e3 x4 y4 e4 ∧ boxZ a b x3 y3 + e3 ≤ bnd5 a b x0 y0 e0 x1 y1 e1 x2 y2 e2 x3 y3 e3 x4 y4 e4 ∧ boxZ a b x4 y4 + e4 ≤ bnd5 a b x0 y0 e0 x1 y1 e1 x2 y2 e2 x3 y3 e3 x4 y4 e4 := by
  unfold bnd5
  have l0 := mxz_l (0) (boxZ a b x0 y0 + e0)
  have r0 := mxz_r (0) (boxZ a b x0 y0 + e0)
  have l1 := mxz_l (mxz (0) (boxZ a b x0 y0 + e0)) (boxZ a b x1 y1 + e1)
  have r1 := mxz_r (mxz (0) (boxZ a b x0 y0 + e0)) (boxZ a b x1 y1 + e1)
  have l2 := mxz_l (mxz (mxz (0) (boxZ a b x0 y0 + e0)) (boxZ a b x1 y1 + e1)) (boxZ a b x2 y2 + e2)
  have r2 := mxz_r (mxz (mxz (0) (boxZ a b x0 y0 + e0)) (boxZ a b x1 y1 + e1)) (boxZ a b x2 y2 + e2)
  have l3 := mxz_l (mxz (mxz (mxz (0) (boxZ a b x0 y0 + e0)) (boxZ a b x1 y1 + e1)) (boxZ a b x2 y2 + e2)) (boxZ a b x3 y3 + e3)
  have r3 := mxz_r (mxz (mxz (mxz (0) (boxZ a b x0 y0 + e0)) (boxZ a b x1 y1 + e1)) (boxZ a b x2 y2 + e2)) (boxZ a b x3 y3 + e3)
  have l4 := mxz_l (mxz (mxz (mxz (mxz (0) (boxZ a b x0 y0 + e0)) (boxZ a b x1 y1 + e1)) (boxZ a b x2 y2 + e2)) (boxZ a b x3 y3 + e3)) (boxZ a b x4 y4 + e4)
  have r4 := mxz_r (mxz (mxz (mxz (mxz (0) (boxZ a b x0 y0 + e0)) (boxZ a b x1 y1 + e1)) (boxZ a b x2 y2 + e2)) (boxZ a b x3 y3 + e3)) (boxZ a b x4 y4 + e4)
  omega
set_option maxHeartbeats 2000000 in
theorem fuse5 (hg : EnOK g l c z en25) {t0 x0 y0 e0 t1 x1 y1 e1 t2 x2 y2 e2 t3 x3 y3 e3 t4 x4 y4 e4 : Int} (hx0 : -1000 ≤ x0 ∧ x0 ≤ 1000) (hy0 : -1000 ≤ y0 ∧ y0 ≤ 1000) (hx1 : -1000 ≤ x1 ∧ x1 ≤ 1000) (hy1 : -1000 ≤ y1 ∧ y1 ≤ 1000) (hx2 : -1000 ≤ x2 ∧ x2 ≤ 1000) (hy2 : -1000 ≤ y2 ∧ y2 ≤ 1000) (hx3 : -1000 ≤ x3 ∧ x3 ≤ 1000) (hy3 : -1000 ≤ y3 ∧ y3 ≤ 1000) (hx4 : -1000 ≤ x4 ∧ x4 ≤ 1000) (hy4 : -1000 ≤ y4 ∧ y4 ≤ 1000) : g 25 [t0, x0, y0, e0, t1, x1, y1, e1, t2, x2, y2, e2, t3, x3, y3, e3, t4, x4, y4, e4] = [(mean5 e0 e1 e2 e3 e4 x0 x1 x2 x3 x4), (mean5 e0 e1 e2 e3 e4 y0 y1 y2 y3 y4), bnd5 (mean5 e0 e1 e2 e3 e4 x0 x1 x2 x3 x4) (mean5 e0 e1 e2 e3 e4 y0 y1 y2 y3 y4) x0 y0 e0 x1 y1 e1 x2 y2 e2 x3 y3 e3 x4 y4 e4, 0] := by
  have h := hg.1 [t0, x0, y0, e0, t1, x1, y1, e1, t2, x2, y2, e2, t3, x3, y3, e3, t4, x4, y4, e4]
  rw [show c_fuse5.key = 25 from rfl, rowF_lt (by decide)] at h
  rw [h]
  have g16 := en25_16 hg
  have hm := most5_ge e0 e1 e2 e3 e4
  have hw := wZ_pos e0
  have ha := all5_bd e0 e1 e2 e3 e4
  have hmx : -100000000 ≤ mean5 e0 e1 e2 e3 e4 x0 x1 x2 x3 x4 ∧ mean5 e0 e1 e2 e3 e4 x0 x1 x2 x3 x4 ≤ 100000000 := ⟨mean5_lo e0 e1 e2 e3 e4 (by omega) (by omega) (by omega) (by omega) (by omega), mean5_hi e0 e1 e2 e3 e4 (by omega) (by omega) (by omega) (by omega) (by omega)⟩
  have hmy : -100000000 ≤ mean5 e0 e1 e2 e3 e4 y0 y1 y2 y3 y4 ∧ mean5 e0 e1 e2 e3 e4 y0 y1 y2 y3 y4 ≤ 100000000 := ⟨mean5_lo e0 e1 e2 e3 e4 (by omega) (by omega) (by omega) (by omega) (by omega), mean5_hi e0 e1 e2 e3 e4 (by omega) (by omega) (by omega) (by omega) (by omega)⟩
  simp only [t_fuse5, Ev.runT, List.map_cons, List.map_nil, den, List.getD_cons_succ, List.getD_cons_zero, List.cons_append, List.nil_append, rowF_lt (show 12 < 900 by decide), rowF_lt (show 13 < 900 by decide), rowF_lt (show 14 < 900 by decide), rowF_lt (show 15 < 900 by decide), fit1, fit2, g12 g16]
  have em : most5 e0 e1 e2 e3 e4 = mxz (mxz (mxz (mxz (mxz 0 (wZ e0)) (wZ e1)) (wZ e2)) (wZ e3)) (wZ e4) := rfl
  have hM : 1 ≤ mxz (mxz (mxz (mxz (mxz 0 (wZ e0)) (wZ e1)) (wZ e2)) (wZ e3)) (wZ e4) := by rw [← em]; omega
  have e13 : ∀ n : Int, g 13 [n, mxz (mxz (mxz (mxz (mxz 0 (wZ e0)) (wZ e1)) (wZ e2)) (wZ e3)) (wZ e4)] = [upZ n (most5 e0 e1 e2 e3 e4), 0] := fun n => by rw [em]; exact g13 g16 hM
  have e14x : g 14 [0 + upZ (1000 * wZ e0) (most5 e0 e1 e2 e3 e4) * x0 + upZ (1000 * wZ e1) (most5 e0 e1 e2 e3 e4) * x1 + upZ (1000 * wZ e2) (most5 e0 e1 e2 e3 e4) * x2 + upZ (1000 * wZ e3) (most5 e0 e1 e2 e3 e4) * x3 + upZ (1000 * wZ e4) (most5 e0 e1 e2 e3 e4) * x4, all5 e0 e1 e2 e3 e4] = [mean5 e0 e1 e2 e3 e4 x0 x1 x2 x3 x4, 0] := by rw [g14 g16 (by omega) (by omega)]; rfl
  have e14y : g 14 [0 + upZ (1000 * wZ e0) (most5 e0 e1 e2 e3 e4) * y0 + upZ (1000 * wZ e1) (most5 e0 e1 e2 e3 e4) * y1 + upZ (1000 * wZ e2) (most5 e0 e1 e2 e3 e4) * y2 + upZ (1000 * wZ e3) (most5 e0 e1 e2 e3 e4) * y3 + upZ (1000 * wZ e4) (most5 e0 e1 e2 e3 e4) * y4, all5 e0 e1 e2 e3 e4] = [mean5 e0 e1 e2 e3 e4 y0 y1 y2 y3 y4, 0] := by rw [g14 g16 (by omega) (by omega)]; rfl
  have fold : ∀ a b : Int, (if a < b then b else a) = mxz a b := fun _ _ => rfl
  simp only [fold, e13, List.getD_cons_zero, List.getD_cons_succ]
  rw [show 0 + upZ (1000 * wZ e0) (most5 e0 e1 e2 e3 e4) + upZ (1000 * wZ e1) (most5 e0 e1 e2 e3 e4) + upZ (1000 * wZ e2) (most5 e0 e1 e2 e3 e4) + upZ (1000 * wZ e3) (most5 e0 e1 e2 e3 e4) + upZ (1000 * wZ e4) (most5 e0 e1 e2 e3 e4) = all5 e0 e1 e2 e3 e4 from rfl, e14x, e14y]
  simp only [List.getD_cons_zero, List.getD_cons_succ, g15 g16 hmx hmy]
  rfl
end
end Go.Proofs.Ytcedkkleclhglaa
