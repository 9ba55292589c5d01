/- Chapter 9: the order of the fixes, their common box and their hull: plain. -/
import Derived.Test.YtcedkkleclhglaaFL
import Derived.Test.YtcedkkleclhglaaFD
set_option linter.unusedSimpArgs false
set_option linter.unusedVariables false
set_option maxRecDepth 100000
namespace Go.Proofs.Ytcedkkleclhglaa
open Go.RowKit Ev
def mnz (a b : Int) : Int := if b < a then b else a
theorem mnz_l (a b : Int) : mnz a b ≤ a := by unfold mnz; split <;> omega
theorem mnz_r (a b : Int) : mnz a b ≤ b := by unfold mnz; split <;> omega
theorem mxz_comm (a b : Int) : mxz a b = mxz b a := by unfold mxz; split <;> split <;> omega
theorem mxz_assoc (a b c : Int) : mxz (mxz a b) c = mxz a (mxz b c) := by simp only [mxz_max]; omega
instance : Std.Commutative mxz := ⟨mxz_comm⟩
instance : Std.Associative mxz := ⟨mxz_assoc⟩
theorem halfZ_scale {c n d : Int} (hc : 0 < c) : halfZ (c * n) (c * d) = halfZ n d := by
  unfold halfZ
  rw [show 2 * (c * n) + c * d = c * (2 * n + d) by rw [Int.mul_add, Int.mul_left_comm], show 2 * (c * d) = c * (2 * d) by rw [Int.mul_left_comm]]
  exact Int.mul_ediv_mul_of_pos _ _ hc
section
variable {g : Nat → List Int → List Int} {l c : Int} {z : List Int}
theorem en45_25 (hg : EnOK g l c z en45) : EnOK g l c z en25 := hg.2.2.2.2.2.2.2.2.2.2
theorem most1_rev (e0 : Int) : most1 e0 = most1 e0 := by unfold most1; ac_rfl
theorem all1_rev (e0 : Int) : all1 e0 = all1 e0 := by
  unfold all1
  rw [most1_rev]
theorem mean1_rev (e0 x0 : Int) : mean1 e0 x0 = mean1 e0 x0 := by
  unfold mean1
  rw [most1_rev, all1_rev]
theorem bnd1_rev (a b x0 y0 e0 : Int) : bnd1 a b x0 y0 e0 = bnd1 a b x0 y0 e0 := by unfold bnd1; ac_rfl
theorem mean1_same (w : Int) (x0 : Int) : mean1 w x0 = halfZ (0 + x0) 1 := by
  have hm : most1 w = wZ w := by
    have := wZ_pos w
    unfold most1 mxz
    (repeat' split) <;> omega
  have hu : upZ (1000 * wZ w) (wZ w) = 1000 := by
    have := wZ_pos w
    unfold upZ
    rw [show -(1000 * wZ w) = wZ w * (-1000) by omega, Int.mul_ediv_cancel_left _ (by omega)]
    omega
  unfold mean1 all1
  rw [hm, hu]
  rw [show 0 + 1000 * x0 = 1000 * (0 + x0) by omega, show (0 + 1000 : Int) = 1000 * 1 by omega]
  exact halfZ_scale (by omega)
set_option maxHeartbeats 2000000 in
theorem common1_eq (hg : EnOK g l c z en45) (t0 x0 y0 e0 : Int) : g 31 [t0, x0, y0, e0] = (if ((decide ((mnz (x0 + e0) (x0 + e0)) < (mxz (x0 - e0) (x0 - e0))) || decide ((mnz (y0 + e0) (y0 + e0)) < (mxz (y0 - e0) (y0 - e0))))) = true then [0, 0, 0, 0, 0] else [(mxz (x0 - e0) (x0 - e0)), (mxz (y0 - e0) (y0 - e0)), (mnz (x0 + e0) (x0 + e0)), (mnz (y0 + e0) (y0 + e0)), 1]) := by
  have h := hg.2.2.2.2.2.2.2.2.2.1 [t0, x0, y0, e0]
  rw [show c_common1.key = 31 from rfl, rowF_lt (by decide)] at h
  exact h
set_option maxHeartbeats 2000000 in
theorem hull1_eq (hg : EnOK g l c z en45) (t0 x0 y0 e0 : Int) : g 41 [t0, x0, y0, e0] = [(mnz (x0 - e0) (x0 - e0)), (mnz (y0 - e0) (y0 - e0)), (mxz (x0 + e0) (x0 + e0)), (mxz (y0 + e0) (y0 + e0)), 1] := by
  have h := hg.2.2.2.2.1 [t0, x0, y0, e0]
  rw [show c_hull1.key = 41 from rfl, rowF_lt (by decide)] at h
  exact h
theorem common1_ok (hg : EnOK g l c z en45) {t0 x0 y0 e0 : Int} {r : List Int} (hr : r = g 31 [t0, x0, y0, e0]) (h : r.getD 4 0 ≠ 0) : x0 - e0 ≤ r.getD 0 0 ∧ r.getD 2 0 ≤ x0 + e0 ∧ y0 - e0 ≤ r.getD 1 0 ∧ r.getD 3 0 ≤ y0 + e0 := by
  rw [common1_eq hg] at hr
  split at hr
  · subst hr; exact absurd rfl h
  · subst hr
    simp only [List.getD_cons_zero, List.getD_cons_succ]
    have a0 := mxz_l (x0 - e0) (x0 - e0)
    have b0 := mxz_l (y0 - e0) (y0 - e0)
    have c0 := mnz_l (x0 + e0) (x0 + e0)
    have d0 := mnz_l (y0 + e0) (y0 + e0)
    omega
theorem hull1_ok (hg : EnOK g l c z en45) {t0 x0 y0 e0 : Int} {r : List Int} (hr : r = g 41 [t0, x0, y0, e0]) : r.getD 0 0 ≤ x0 - e0 ∧ x0 + e0 ≤ r.getD 2 0 ∧ r.getD 1 0 ≤ y0 - e0 ∧ y0 + e0 ≤ r.getD 3 0 := by
  rw [hull1_eq hg] at hr
  subst hr
  simp only [List.getD_cons_zero, List.getD_cons_succ]
  have a0 := mnz_l (x0 - e0) (x0 - e0)
  have b0 := mnz_l (y0 - e0) (y0 - e0)
  have c0 := mxz_l (x0 + e0) (x0 + e0)
  have d0 := mxz_l (y0 + e0) (y0 + e0)
  omega
theorem most2_rev (e0 e1 : Int) : most2 e1 e0 = most2 e0 e1 := by unfold most2; ac_rfl
theorem all2_rev (e0 e1 : Int) : all2 e1 e0 = all2 e0 e1 := by
  unfold all2
  rw [most2_rev]
  omega
theorem mean2_rev (e0 e1 x0 x1 : Int) : mean2 e1 e0 x1 x0 = mean2 e0 e1 x0 x1 := by
  unfold mean2
  rw [most2_rev, all2_rev]
  simp only [Int.zero_add]
  congr 1
  ac_rfl
theorem bnd2_rev (a b x0 y0 e0 x1 y1 e1 : Int) : bnd2 a b x1 y1 e1 x0 y0 e0 = bnd2 a b x0 y0 e0 x1 y1 e1 := by unfold bnd2; ac_rfl
theorem mean2_same (w : Int) (x0 x1 : Int) : mean2 w w x0 x1 = halfZ (0 + x0 + x1) 2 := by
  have hm : most2 w w = wZ w := by
    have := wZ_pos w
    unfold most2 mxz
    (repeat' split) <;> omega
  have hu : upZ (1000 * wZ w) (wZ w) = 1000 := by
    have := wZ_pos w
    unfold upZ
    rw [show -(1000 * wZ w) = wZ w * (-1000) by omega, Int.mul_ediv_cancel_left _ (by omega)]
    omega
  unfold mean2 all2
  rw [hm, hu]
  rw [show 0 + 1000 * x0 + 1000 * x1 = 1000 * (0 + x0 + x1) by omega, show (0 + 1000 + 1000 : Int) = 1000 * 2 by omega]
  exact halfZ_scale (by omega)
set_option maxHeartbeats 2000000 in
theorem common2_eq (hg : EnOK g l c z en45) (t0 x0 y0 e0 t1 x1 y1 e1 : Int) : g 32 [t0, x0, y0, e0, t1, x1, y1, e1] = (if ((decide ((mnz (mnz (x0 + e0) (x0 + e0)) (x1 + e1)) < (mxz (mxz (x0 - e0) (x0 - e0)) (x1 - e1))) || decide ((mnz (mnz (y0 + e0) (y0 + e0)) (y1 + e1)) < (mxz (mxz (y0 - e0) (y0 - e0)) (y1 - e1))))) = true then [0, 0, 0, 0, 0] else [(mxz (mxz (x0 - e0) (x0 - e0)) (x1 - e1)), (mxz (mxz (y0 - e0) (y0 - e0)) (y1 - e1)), (mnz (mnz (x0 + e0) (x0 + e0)) (x1 + e1)), (mnz (mnz (y0 + e0) (y0 + e0)) (y1 + e1)), 1]) := by
  have h := hg.2.2.2.2.2.2.2.2.1 [t0, x0, y0, e0, t1, x1, y1, e1]
  rw [show c_common2.key = 32 from rfl, rowF_lt (by decide)] at h
  exact h
set_option maxHeartbeats 2000000 in
theorem hull2_eq (hg : EnOK g l c z en45) (t0 x0 y0 e0 t1 x1 y1 e1 : Int) : g 42 [t0, x0, y0, e0, t1, x1, y1, e1] = [(mnz (mnz (x0 - e0) (x0 - e0)) (x1 - e1)), (mnz (mnz (y0 - e0) (y0 - e0)) (y1 - e1)), (mxz (mxz (x0 + e0) (x0 + e0)) (x1 + e1)), (mxz (mxz (y0 + e0) (y0 + e0)) (y1 + e1)), 1] := by
  have h := hg.2.2.2.1 [t0, x0, y0, e0, t1, x1, y1, e1]
  rw [show c_hull2.key = 42 from rfl, rowF_lt (by decide)] at h
  exact h
theorem common2_ok (hg : EnOK g l c z en45) {t0 x0 y0 e0 t1 x1 y1 e1 : Int} {r : List Int} (hr : r = g 32 [t0, x0, y0, e0, t1, x1, y1, e1]) (h : r.getD 4 0 ≠ 0) : x0 - e0 ≤ r.getD 0 0 ∧ r.getD 2 0 ≤ x0 + e0 ∧ y0 - e0 ≤ r.getD 1 0 ∧ r.getD 3 0 ≤ y0 + e0 ∧ x1 - e1 ≤ r.getD 0 0 ∧ r.getD 2 0 ≤ x1 + e1 ∧ y1 - e1 ≤ r.getD 1 0 ∧ r.getD 3 0 ≤ y1 + e1 := by
  rw [common2_eq hg] at hr
  split at hr
  · subst hr; exact absurd rfl h
  · subst hr
    simp only [List.getD_cons_zero, List.getD_cons_succ]
    have a0 := mxz_l (x0 - e0) (x0 - e0)
    have al1 := mxz_l (mxz (x0 - e0) (x0 - e0)) (x1 - e1)
    have ar1 := mxz_r (mxz (x0 - e0) (x0 - e0)) (x1 - e1)
    have b0 := mxz_l (y0 - e0) (y0 - e0)
    have bl1 := mxz_l (mxz (y0 - e0) (y0 - e0)) (y1 - e1)
    have br1 := mxz_r (mxz (y0 - e0) (y0 - e0)) (y1 - e1)
    have c0 := mnz_l (x0 + e0) (x0 + e0)
    have cl1 := mnz_l (mnz (x0 + e0) (x0 + e0)) (x1 + e1)
    have cr1 := mnz_r (mnz (x0 + e0) (x0 + e0)) (x1 + e1)
    have d0 := mnz_l (y0 + e0) (y0 + e0)
    have dl1 := mnz_l (mnz (y0 + e0) (y0 + e0)) (y1 + e1)
    have dr1 := mnz_r (mnz (y0 + e0) (y0 + e0)) (y1 + e1)
    omega
theorem hull2_ok (hg : EnOK g l c z en45) {t0 x0 y0 e0 t1 x1 y1 e1 : Int} {r : List Int} (hr : r = g 42 [t0, x0, y0, e0, t1, x1, y1, e1]) : r.getD 0 0 ≤ x0 - e0 ∧ x0 + e0 ≤ r.getD 2 0 ∧ r.getD 1 0 ≤ y0 - e0 ∧ y0 + e0 ≤ r.getD 3 0 ∧ r.getD 0 0 ≤ x1 - e1 ∧ x1 + e1 ≤ r.getD 2 0 ∧ r.getD 1 0 ≤ y1 - e1 ∧ y1 + e1 ≤ r.getD 3 0 := by
  rw [hull2_eq hg] at hr
  subst hr
  simp only [List.getD_cons_zero, List.getD_cons_succ]
  have a0 := mnz_l (x0 - e0) (x0 - e0)
  have al1 := mnz_l (mnz (x0 - e0) (x0 - e0)) (x1 - e1)
  have ar1 := mnz_r (mnz (x0 - e0) (x0 - e0)) (x1 - e1)
  have b0 := mnz_l (y0 - e0) (y0 - e0)
  have bl1 := mnz_l (mnz (y0 - e0) (y0 - e0)) (y1 - e1)
  have br1 := mnz_r (mnz (y0 - e0) (y0 - e0)) (y1 - e1)
  have c0 := mxz_l (x0 + e0) (x0 + e0)
  have cl1 := mxz_l (mxz (x0 + e0) (x0 + e0)) (x1 + e1)
  have cr1 := mxz_r (mxz (x0 + e0) (x0 + e0)) (x1 + e1)
  have d0 := mxz_l (y0 + e0) (y0 + e0)
  have dl1 := mxz_l (mxz (y0 + e0) (y0 + e0)) (y1 + e1)
  have dr1 := mxz_r (mxz (y0 + e0) (y0 + e0)) (y1 + e1)
  omega
theorem most3_rev (e0 e1 e2 : Int) : most3 e2 e1 e0 = most3 e0 e1 e2 := by unfold most3; ac_rfl
theorem all3_rev (e0 e1 e2 : Int) : all3 e2 e1 e0 = all3 e0 e1 e2 := by
  unfold all3
  rw [most3_rev]
  omega
theorem mean3_rev (e0 e1 e2 x0 x1 x2 : Int) : mean3 e2 e1 e0 x2 x1 x0 = mean3 e0 e1 e2 x0 x1 x2 := by
  unfold mean3
  rw [most3_rev, all3_rev]
  simp only [Int.zero_add]
  congr 1
  ac_rfl
theorem bnd3_rev (a b x0 y0 e0 x1 y1 e1 x2 y2 e2 : Int) : bnd3 a b x2 y2 e2 x1 y1 e1 x0 y0 e0 = bnd3 a b x0 y0 e0 x1 y1 e1 x2 y2 e2 := by unfold bnd3; ac_rfl
theorem mean3_same (w : Int) (x0 x1 x2 : Int) : mean3 w w w x0 x1 x2 = halfZ (0 + x0 + x1 + x2) 3 := by
  have hm : most3 w w w = wZ w := by
    have := wZ_pos w
    unfold most3 mxz
    (repeat' split) <;> omega
  have hu : upZ (1000 * wZ w) (wZ w) = 1000 := by
    have := wZ_pos w
    unfold upZ
    rw [show -(1000 * wZ w) = wZ w * (-1000) by omega, Int.mul_ediv_cancel_left _ (by omega)]
    omega
  unfold mean3 all3
  rw [hm, hu]
  rw [show 0 + 1000 * x0 + 1000 * x1 + 1000 * x2 = 1000 * (0 + x0 + x1 + x2) by omega, show (0 + 1000 + 1000 + 1000 : Int) = 1000 * 3 by omega]
  exact halfZ_scale (by omega)
set_option maxHeartbeats 2000000 in
theorem common3_eq (hg : EnOK g l c z en45) (t0 x0 y0 e0 t1 x1 y1 e1 t2 x2 y2 e2 : Int) : g 33 [t0, x0, y0, e0, t1, x1, y1, e1, t2, x2, y2, e2] = (if ((decide ((mnz (mnz (mnz (x0 + e0) (x0 + e0)) (x1 + e1)) (x2 + e2)) < (mxz (mxz (mxz (x0 - e0) (x0 - e0)) (x1 - e1)) (x2 - e2))) || decide ((mnz (mnz (mnz (y0 + e0) (y0 + e0)) (y1 + e1)) (y2 + e2)) < (mxz (mxz (mxz (y0 - e0) (y0 - e0)) (y1 - e1)) (y2 - e2))))) = true then [0, 0, 0, 0, 0] else [(mxz (mxz (mxz (x0 - e0) (x0 - e0)) (x1 - e1)) (x2 - e2)), (mxz (mxz (mxz (y0 - e0) (y0 - e0)) (y1 - e1)) (y2 - e2)), (mnz (mnz (mnz (x0 + e0) (x0 + e0)) (x1 + e1)) (x2 + e2)), (mnz (mnz (mnz (y0 + e0) (y0 + e0)) (y1 + e1)) (y2 + e2)), 1]) := by
  have h := hg.2.2.2.2.2.2.2.1 [t0, x0, y0, e0, t1, x1, y1, e1, t2, x2, y2, e2]
  rw [show c_common3.key = 33 from rfl, rowF_lt (by decide)] at h
  exact h
set_option maxHeartbeats 2000000 in
theorem hull3_eq (hg : EnOK g l c z en45) (t0 x0 y0 e0 t1 x1 y1 e1 t2 x2 y2 e2 : Int) : g 43 [t0, x0, y0, e0, t1, x1, y1, e1, t2, x2, y2, e2] = [(mnz (mnz (mnz (x0 - e0) (x0 - e0)) (x1 - e1)) (x2 - e2)), (mnz (mnz (mnz (y0 - e0) (y0 - e0)) (y1 - e1)) (y2 - e2)), (mxz (mxz (mxz (x0 + e0) (x0 + e0)) (x1 + e1)) (x2 + e2)), (mxz (mxz (mxz (y0 + e0) (y0 + e0)) (y1 + e1)) (y2 + e2)), 1] := by
  have h := hg.2.2.1 [t0, x0, y0, e0, t1, x1, y1, e1, t2, x2, y2, e2]
  rw [show c_hull3.key = 43 from rfl, rowF_lt (by decide)] at h
  exact h
theorem common3_ok (hg : EnOK g l c z en45) {t0 x0 y0 e0 t1 x1 y1 e1 t2 x2 y2 e2 : Int} {r : List Int} (hr : r = g 33 [t0, x0, y0, e0, t1, x1, y1, e1, t2, x2, y2, e2]) (h : r.getD 4 0 ≠ 0) : x0 - e0 ≤ r.getD 0 0 ∧ r.getD 2 0 ≤ x0 + e0 ∧ y0 - e0 ≤ r.getD 1 0 ∧ r.getD 3 0 ≤ y0 + e0 ∧ x1 - e1 ≤ r.getD 0 0 ∧ r.getD 2 0 ≤ x1 + e1 ∧ y1 - e1 ≤ r.getD 1 0 ∧ r.getD 3 0 ≤ y1 + e1 ∧ x2 - e2 ≤ r.getD 0 0 ∧ r.getD 2 0 ≤ x2 + e2 ∧ y2 - e2 ≤ r.getD 1 0 ∧ r.getD 3 0 ≤ y2 + e2 := by
  rw [common3_eq hg] at hr
  split at hr
  · subst hr; exact absurd rfl h
  · subst hr
    simp only [List.getD_cons_zero, List.getD_cons_succ]
    have a0 := mxz_l (x0 - e0) (x0 - e0)
    have al1 := mxz_l (mxz (x0 - e0) (x0 - e0)) (x1 - e1)
    have ar1 := mxz_r (mxz (x0 - e0) (x0 - e0)) (x1 - e1)
    have al2 := mxz_l (mxz (mxz (x0 - e0) (x0 - e0)) (x1 - e1)) (x2 - e2)
    have ar2 := mxz_r (mxz (mxz (x0 - e0) (x0 - e0)) (x1 - e1)) (x2 - e2)
    have b0 := mxz_l (y0 - e0) (y0 - e0)
    have bl1 := mxz_l (mxz (y0 - e0) (y0 - e0)) (y1 - e1)
    have br1 := mxz_r (mxz (y0 - e0) (y0 - e0)) (y1 - e1)
    have bl2 := mxz_l (mxz (mxz (y0 - e0) (y0 - e0)) (y1 - e1)) (y2 - e2)
    have br2 := mxz_r (mxz (mxz (y0 - e0) (y0 - e0)) (y1 - e1)) (y2 - e2)
    have c0 := mnz_l (x0 + e0) (x0 + e0)
    have cl1 := mnz_l (mnz (x0 + e0) (x0 + e0)) (x1 + e1)
    have cr1 := mnz_r (mnz (x0 + e0) (x0 + e0)) (x1 + e1)
    have cl2 := mnz_l (mnz (mnz (x0 + e0) (x0 + e0)) (x1 + e1)) (x2 + e2)
    have cr2 := mnz_r (mnz (mnz (x0 + e0) (x0 + e0)) (x1 + e1)) (x2 + e2)
    have d0 := mnz_l (y0 + e0) (y0 + e0)
    have dl1 := mnz_l (mnz (y0 + e0) (y0 + e0)) (y1 + e1)
    have dr1 := mnz_r (mnz (y0 + e0) (y0 + e0)) (y1 + e1)
    have dl2 := mnz_l (mnz (mnz (y0 + e0) (y0 + e0)) (y1 + e1)) (y2 + e2)
    have dr2 := mnz_r (mnz (mnz (y0 + e0) (y0 + e0)) (y1 + e1)) (y2 + e2)
    omega
theorem hull3_ok (hg : EnOK g l c z en45) {t0 x0 y0 e0 t1 x1 y1 e1 t2 x2 y2 e2 : Int} {r : List Int} (hr : r = g 43 [t0, x0, y0, e0, t1, x1, y1, e1, t2, x2, y2, e2]) : r.getD 0 0 ≤ x0 - e0 ∧ x0 + e0 ≤ r.getD 2 0 ∧ r.getD 1 0 ≤ y0 - e0 ∧ y0 + e0 ≤ r.getD 3 0 ∧ r.getD 0 0 ≤ x1 - e1 ∧ x1 + e1 ≤ r.getD 2 0 ∧ r.getD 1 0 ≤ y1 - e1 ∧ y1 + e1 ≤ r.getD 3 0 ∧ r.getD 0 0 ≤ x2 - e2 ∧ x2 + e2 ≤ r.getD 2 0 ∧ r.getD 1 0 ≤ y2 - e2 ∧ y2 + e2 ≤ r.getD 3 0 := by
  rw [hull3_eq hg] at hr
  subst hr
  simp only [List.getD_cons_zero, List.getD_cons_succ]
  have a0 := mnz_l (x0 - e0) (x0 - e0)
  have al1 := mnz_l (mnz (x0 - e0) (x0 - e0)) (x1 - e1)
  have ar1 := mnz_r (mnz (x0 - e0) (x0 - e0)) (x1 - e1)
  have al2 := mnz_l (mnz (mnz (x0 - e0) (x0 - e0)) (x1 - e1)) (x2 - e2)
  have ar2 := mnz_r (mnz (mnz (x0 - e0) (x0 - e0)) (x1 - e1)) (x2 - e2)
  have b0 := mnz_l (y0 - e0) (y0 - e0)
  have bl1 := mnz_l (mnz (y0 - e0) (y0 - e0)) (y1 - e1)
  have br1 := mnz_r (mnz (y0 - e0) (y0 - e0)) (y1 - e1)
  have bl2 := mnz_l (mnz (mnz (y0 - e0) (y0 - e0)) (y1 - e1)) (y2 - e2)
  have br2 := mnz_r (mnz (mnz (y0 - e0) (y0 - e0)) (y1 - e1)) (y2 - e2)
  have c0 := mxz_l (x0 + e0) (x0 + e0)
  have cl1 := mxz_l (mxz (x0 + e0) (x0 + e0)) (x1 + e1)
  have cr1 := mxz_r (mxz (x0 + e0) (x0 + e0)) (x1 + e1)
  have cl2 := mxz_l (mxz (mxz (x0 + e0) (x0 + e0)) (x1 + e1)) (x2 + e2)
  have cr2 := mxz_r (mxz (mxz (x0 + e0) (x0 + e0)) (x1 + e1)) (x2 + e2)
  have d0 := mxz_l (y0 + e0) (y0 + e0)
  have dl1 := mxz_l (mxz (y0 + e0) (y0 + e0)) (y1 + e1)
  have dr1 := mxz_r (mxz (y0 + e0) (y0 + e0)) (y1 + e1)
  have dl2 := mxz_l (mxz (mxz (y0 + e0) (y0 + e0)) (y1 + e1)) (y2 + e2)
  have dr2 := mxz_r (mxz (mxz (y0 + e0) (y0 + e0)) (y1 + e1)) (y2 + e2)
  omega
theorem most4_rev (e0 e1 e2 e3 : Int) : most4 e3 e2 e1 e0 = most4 e0 e1 e2 e3 := by unfold most4; ac_rfl
theorem all4_rev (e0 e1 e2 e3 : Int) : all4 e3 e2 e1 e0 = all4 e0 e1 e2 e3 := by
  unfold all4
  rw [most4_rev]
  omega
theorem mean4_rev (e0 e1 e2 e3 x0 x1 x2 x3 : Int) : mean4 e3 e2 e1 e0 x3 x2 x1 x0 = mean4 e0 e1 e2 e3 x0 x1 x2 x3 := by
  unfold mean4
  rw [most4_rev, all4_rev]
  simp only [Int.zero_add]
  congr 1
  ac_rfl
theorem bnd4_rev (a b x0 y0 e0 x1 y1 e1 x2 y2 e2 x3 y3 e3 : Int) : bnd4 a b x3 y3 e3 x2 y2 e2 x1 y1 e1 x0 y0 e0 = bnd4 a b x0 y0 e0 x1 y1 e1 x2 y2 e2 x3 y3 e3 := by unfold bnd4; ac_rfl
theorem mean4_same (w : Int) (x0 x1 x2 x3 : Int) : mean4 w w w w x0 x1 x2 x3 = halfZ (0 + x0 + x1 + x2 + x3) 4 := by
  have hm : most4 w w w w = wZ w := by
    have := wZ_pos w
    unfold most4 mxz
    (repeat' split) <;> omega
  have hu : upZ (1000 * wZ w) (wZ w) = 1000 := by
    have := wZ_pos w
    unfold upZ
    rw [show -(1000 * wZ w) = wZ w * (-1000) by omega, Int.mul_ediv_cancel_left _ (by omega)]
    omega
  unfold mean4 all4
  rw [hm, hu]
  rw [show 0 + 1000 * x0 + 1000 * x1 + 1000 * x2 + 1000 * x3 = 1000 * (0 + x0 + x1 + x2 + x3) by omega, show (0 + 1000 + 1000 + 1000 + 1000 : Int) = 1000 * 4 by omega]
  exact halfZ_scale (by omega)
set_option maxHeartbeats 2000000 in
theorem common4_eq (hg : EnOK g l c z en45) (t0 x0 y0 e0 t1 x1 y1 e1 t2 x2 y2 e2 t3 x3 y3 e3 : Int) : g 34 [t0, x0, y0, e0, t1, x1, y1, e1, t2, x2, y2, e2, t3, x3, y3, e3] = (if ((decide ((mnz (mnz (mnz (mnz (x0 + e0) (x0 + e0)) (x1 + e1)) (x2 + e2)) (x3 + e3)) < (mxz (mxz (mxz (mxz (x0 - e0) (x0 - e0)) (x1 - e1)) (x2 - e2)) (x3 - e3))) || decide ((mnz (mnz (mnz (mnz (y0 + e0) (y0 + e0)) (y1 + e1)) (y2 + e2)) (y3 + e3)) < (mxz (mxz (mxz (mxz (y0 - e0) (y0 - e0)) (y1 - e1)) (y2 - e2)) (y3 - e3))))) = true then [0, 0, 0, 0, 0] else [(mxz (mxz (mxz (mxz (x0 - e0) (x0 - e0)) (x1 - e1)) (x2 - e2)) (x3 - e3)), (mxz (mxz (mxz (mxz (y0 - e0) (y0 - e0)) (y1 - e1)) (y2 - e2)) (y3 - e3)), (mnz (mnz (mnz (mnz (x0 + e0) (x0 + e0)) (x1 + e1)) (x2 + e2)) (x3 + e3)), (mnz (mnz (mnz (mnz (y0 + e0) (y0 + e0)) (y1 + e1)) (y2 + e2)) (y3 + e3)), 1]) := by
  have h := hg.2.2.2.2.2.2.1 [t0, x0, y0, e0, t1, x1, y1, e1, t2, x2, y2, e2, t3, x3, y3, e3]
  rw [show c_common4.key = 34 from rfl, rowF_lt (by decide)] at h
  exact h
set_option maxHeartbeats 2000000 in
theorem hull4_eq (hg : EnOK g l c z en45) (t0 x0 y0 e0 t1 x1 y1 e1 t2 x2 y2 e2 t3 x3 y3 e3 : Int) : g 44 [t0, x0, y0, e0, t1, x1, y1, e1, t2, x2, y2, e2, t3, x3, y3, e3] = [(mnz (mnz (mnz (mnz (x0 - e0) (x0 - e0)) (x1 - e1)) (x2 - e2)) (x3 - e3)), (mnz (mnz (mnz (mnz (y0 - e0) (y0 - e0)) (y1 - e1)) (y2 - e2)) (y3 - e3)), (mxz (mxz (mxz (mxz (x0 + e0) (x0 + e0)) (x1 + e1)) (x2 + e2)) (x3 + e3)), (mxz (mxz (mxz (mxz (y0 + e0) (y0 + e0)) (y1 + e1)) (y2 + e2)) (y3 + e3)), 1] := by
  have h := hg.2.1 [t0, x0, y0, e0, t1, x1, y1, e1, t2, x2, y2, e2, t3, x3, y3, e3]
  rw [show c_hull4.key = 44 from rfl, rowF_lt (by decide)] at h
  exact h
theorem common4_ok (hg : EnOK g l c z en45) {t0 x0 y0 e0 t1 x1 y1 e1 t2 x2 y2 e2 t3 x3 y3 e3 : Int} {r : List Int} (hr : r = g 34 [t0, x0, y0, e0, t1, x1, y1, e1, t2, x2, y2, e2, t3, x3, y3, e3]) (h : r.getD 4 0 ≠ 0) : x0 - e0 ≤ r.getD 0 0 ∧ r.getD 2 0 ≤ x0 + e0 ∧ y0 - e0 ≤ r.getD 1 0 ∧ r.getD 3 0 ≤ y0 + e0 ∧ x1 - e1 ≤ r.getD 0 0 ∧ r.getD 2 0 ≤ x1 + e1 ∧ y1 - e1 ≤ r.getD 1 0 ∧ r.getD 3 0 ≤ y1 + e1 ∧ x2 - e2 ≤ r.getD 0 0 ∧ r.getD 2 0 ≤ x2 + e2 ∧ y2 - e2 ≤ r.getD 1 0 ∧ r.getD 3 0 ≤ y2 + e2 ∧ x3 - e3 ≤ r.getD 0 0 ∧ r.getD 2 0 ≤ x3 + e3 ∧ y3 - e3 ≤ r.getD 1 0 ∧ r.getD 3 0 ≤ y3 + e3 := by
  rw [common4_eq hg] at hr
  split at hr
  · subst hr; exact absurd rfl h
  · subst hr
    simp only [List.getD_cons_zero, List.getD_cons_succ]
    have a0 := mxz_l (x0 - e0) (x0 - e0)
    have al1 := mxz_l (mxz (x0 - e0) (x0 - e0)) (x1 - e1)
    have ar1 := mxz_r (mxz (x0 - e0) (x0 - e0)) (x1 - e1)
    have al2 := mxz_l (mxz (mxz (x0 - e0) (x0 - e0)) (x1 - e1)) (x2 - e2)
    have ar2 := mxz_r (mxz (mxz (x0 - e0) (x0 - e0)) (x1 - e1)) (x2 - e2)
    have al3 := mxz_l (mxz (mxz (mxz (x0 - e0) (x0 - e0)) (x1 - e1)) (x2 - e2)) (x3 - e3)
    have ar3 := mxz_r (mxz (mxz (mxz (x0 - e0) (x0 - e0)) (x1 - e1)) (x2 - e2)) (x3 - e3)
    have b0 := mxz_l (y0 - e0) (y0 - e0)
    have bl1 := mxz_l (mxz (y0 - e0) (y0 - e0)) (y1 - e1)
    have br1 := mxz_r (mxz (y0 - e0) (y0 - e0)) (y1 - e1)
    have bl2 := mxz_l (mxz (mxz (y0 - e0) (y0 - e0)) (y1 - e1)) (y2 - e2)
    have br2 := mxz_r (mxz (mxz (y0 - e0) (y0 - e0)) (y1 - e1)) (y2 - e2)
    have bl3 := mxz_l (mxz (mxz (mxz (y0 - e0) (y0 - e0)) (y1 - e1)) (y2 - e2)) (y3 - e3)
    have br3 := mxz_r (mxz (mxz (mxz (y0 - e0) (y0 - e0)) (y1 - e1)) (y2 - e2)) (y3 - e3)
    have c0 := mnz_l (x0 + e0) (x0 + e0)
    have cl1 := mnz_l (mnz (x0 + e0) (x0 + e0)) (x1 + e1)
    have cr1 := mnz_r (mnz (x0 + e0) (x0 + e0)) (x1 + e1)
    have cl2 := mnz_l (mnz (mnz (x0 + e0) (x0 + e0)) (x1 + e1)) (x2 + e2)
    have cr2 := mnz_r (mnz (mnz (x0 + e0) (x0 + e0)) (x1 + e1)) (x2 + e2)
    have cl3 := mnz_l (mnz (mnz (mnz (x0 + e0) (x0 + e0)) (x1 + e1)) (x2 + e2)) (x3 + e3)
    have cr3 := mnz_r (mnz (mnz (mnz (x0 + e0) (x0 + e0)) (x1 + e1)) (x2 + e2)) (x3 + e3)
    have d0 := mnz_l (y0 + e0) (y0 + e0)
    have dl1 := mnz_l (mnz (y0 + e0) (y0 + e0)) (y1 + e1)
    have dr1 := mnz_r (mnz (y0 + e0) (y0 + e0)) (y1 + e1)
    have dl2 := mnz_l (mnz (mnz (y0 + e0) (y0 + e0)) (y1 + e1)) (y2 + e2)
    have dr2 := mnz_r (mnz (mnz (y0 + e0) (y0 + e0)) (y1 + e1)) (y2 + e2)
    have dl3 := mnz_l (mnz (mnz (mnz (y0 + e0) (y0 + e0)) (y1 + e1)) (y2 + e2)) (y3 + e3)
    have dr3 := mnz_r (mnz (mnz (mnz (y0 + e0) (y0 + e0)) (y1 + e1)) (y2 + e2)) (y3 + e3)
    omega
theorem hull4_ok (hg : EnOK g l c z en45) {t0 x0 y0 e0 t1 x1 y1 e1 t2 x2 y2 e2 t3 x3 y3 e3 : Int} {r : List Int} (hr : r = g 44 [t0, x0, y0, e0, t1, x1, y1, e1, t2, x2, y2, e2, t3, x3, y3, e3]) : r.getD 0 0 ≤ x0 - e0 ∧ x0 + e0 ≤ r.getD 2 0 ∧ r.getD 1 0 ≤ y0 - e0 ∧ y0 + e0 ≤ r.getD 3 0 ∧ r.getD 0 0 ≤ x1 - e1 ∧ x1 + e1 ≤ r.getD 2 0 ∧ r.getD 1 0 ≤ y1 - e1 ∧ y1 + e1 ≤ r.getD 3 0 ∧ r.getD 0 0 ≤ x2 - e2 ∧ x2 + e2 ≤ r.getD 2 0 ∧ r.getD 1 0 ≤ y2 - e2 ∧ y2 + e2 ≤ r.getD 3 0 ∧ r.getD 0 0 ≤ x3 - e3 ∧ x3 + e3 ≤ r.getD 2 0 ∧ r.getD 1 0 ≤ y3 - e3 ∧ y3 + e3 ≤ r.getD 3 0 := by
  rw [hull4_eq hg] at hr
  subst hr
  simp only [List.getD_cons_zero, List.getD_cons_succ]
  have a0 := mnz_l (x0 - e0) (x0 - e0)
  have al1 := mnz_l (mnz (x0 - e0) (x0 - e0)) (x1 - e1)
  have ar1 := mnz_r (mnz (x0 - e0) (x0 - e0)) (x1 - e1)
  have al2 := mnz_l (mnz (mnz (x0 - e0) (x0 - e0)) (x1 - e1)) (x2 - e2)
  have ar2 := mnz_r (mnz (mnz (x0 - e0) (x0 - e0)) (x1 - e1)) (x2 - e2)
  have al3 := mnz_l (mnz (mnz (mnz (x0 - e0) (x0 - e0)) (x1 - e1)) (x2 - e2)) (x3 - e3)
  have ar3 := mnz_r (mnz (mnz (mnz (x0 - e0) (x0 - e0)) (x1 - e1)) (x2 - e2)) (x3 - e3)
  have b0 := mnz_l (y0 - e0) (y0 - e0)
  have bl1 := mnz_l (mnz (y0 - e0) (y0 - e0)) (y1 - e1)
  have br1 := mnz_r (mnz (y0 - e0) (y0 - e0)) (y1 - e1)
  have bl2 := mnz_l (mnz (mnz (y0 - e0) (y0 - e0)) (y1 - e1)) (y2 - e2)
  have br2 := mnz_r (mnz (mnz (y0 - e0) (y0 - e0)) (y1 - e1)) (y2 - e2)
  have bl3 := mnz_l (mnz (mnz (mnz (y0 - e0) (y0 - e0)) (y1 - e1)) (y2 - e2)) (y3 - e3)
  have br3 := mnz_r (mnz (mnz (mnz (y0 - e0) (y0 - e0)) (y1 - e1)) (y2 - e2)) (y3 - e3)
  have c0 := mxz_l (x0 + e0) (x0 + e0)
  have cl1 := mxz_l (mxz (x0 + e0) (x0 + e0)) (x1 + e1)
  have cr1 := mxz_r (mxz (x0 + e0) (x0 + e0)) (x1 + e1)
  have cl2 := mxz_l (mxz (mxz (x0 + e0) (x0 + e0)) (x1 + e1)) (x2 + e2)
  have cr2 := mxz_r (mxz (mxz (x0 + e0) (x0 + e0)) (x1 + e1)) (x2 + e2)
  have cl3 := mxz_l (mxz (mxz (mxz (x0 + e0) (x0 + e0)) (x1 + e1)) (x2 + e2)) (x3 + e3)
  have cr3 := mxz_r (mxz (mxz (mxz (x0 + e0) (x0 + e0)) (x1 + e1)) (x2 + e2)) (x3 + e3)
  have d0 := mxz_l (y0 + e0) (y0 + e0)
  have dl1 := mxz_l (mxz (y0 + e0) (y0 + e0)) (y1 + e1)
  have dr1 := mxz_r (mxz (y0 + e0) (y0 + e0)) (y1 + e1)
  have dl2 := mxz_l (mxz (mxz (y0 + e0) (y0 + e0)) (y1 + e1)) (y2 + e2)
  have dr2 := mxz_r (mxz (mxz (y0 + e0) (y0 + e0)) (y1 + e1)) (y2 + e2)
  have dl3 := mxz_l (mxz (mxz (mxz (y0 + e0) (y0 + e0)) (y1 + e1)) (y2 + e2)) (y3 + e3)
  have dr3 := mxz_r (mxz (mxz (mxz (y0 + e0) (y0 + e0)) (y1 + e1)) (y2 + e2)) (y3 + e3)
  omega
theorem most5_rev (e0 e1 e2 e3 e4 : Int) : most5 e4 e3 e2 e1 e0 = most5 e0 e1 e2 e3 e4 := by unfold most5; ac_rfl
theorem all5_rev (e0 e1 e2 e3 e4 : Int) : all5 e4 e3 e2 e1 e0 = all5 e0 e1 e2 e3 e4 := by
  unfold all5
  rw [most5_rev]
  omega
theorem mean5_rev (e0 e1 e2 e3 e4 x0 x1 x2 x3 x4 : Int) : mean5 e4 e3 e2 e1 e0 x4 x3 x2 x1 x0 = mean5 e0 e1 e2 e3 e4 x0 x1 x2 x3 x4 := by
  unfold mean5
  rw [most5_rev, all5_rev]
  simp only [Int.zero_add]
  congr 1
  ac_rfl
theorem bnd5_rev (a b x0 y0 e0 x1 y1 e1 x2 y2 e2 x3 y3 e3 x4 y4 e4 : Int) : bnd5 a b x4 y4 e4 x3 y3 e3 x2 y2 e2 x1 y1 e1 x0 y0 e0 = bnd5 a b x0 y0 e0 x1 y1 e1 x2 y2 e2 x3 y3 e3 x4 y4 e4 := by unfold bnd5; ac_rfl
theorem mean5_same (w : Int) (x0 x1 x2 x3 x4 : Int) : mean5 w w w w w x0 x1 x2 x3 x4 = halfZ (0 + x0 + x1 + x2 + x3 + x4) 5 := by
  have hm : most5 w w w w w = wZ w := by
    have := wZ_pos w
    unfold most5 mxz
    (repeat' split) <;> omega
  have hu : upZ (1000 * wZ w) (wZ w) = 1000 := by
    have := wZ_pos w
    unfold upZ
    rw [show -(1000 * wZ w) = wZ w * (-1000) by omega, Int.mul_ediv_cancel_left _ (by omega)]
    omega
  unfold mean5 all5
  rw [hm, hu]
  rw [show 0 + 1000 * x0 + 1000 * x1 + 1000 * x2 + 1000 * x3 + 1000 * x4 = 1000 * (0 + x0 + x1 + x2 + x3 + x4) by omega, show (0 + 1000 + 1000 + 1000 + 1000 + 1000 : Int) = 1000 * 5 by omega]
  exact halfZ_scale (by omega)
set_option maxHeartbeats 2000000 in
theorem common5_eq (hg : EnOK g l c z en45) (t0 x0 y0 e0 t1 x1 y1 e1 t2 x2 y2 e2 t3 x3 y3 e3 t4 x4 y4 e4 : Int) : g 35 [t0, x0, y0, e0, t1, x1, y1, e1, t2, x2, y2, e2, t3, x3, y3, e3, t4, x4, y4, e4] = (if ((decide ((mnz (mnz (mnz (mnz (mnz (x0 + e0) (x0 + e0)) (x1 + e1)) (x2 + e2)) (x3 + e3)) (x4 + e4)) < (mxz (mxz (mxz (mxz (mxz (x0 - e0) (x0 - e0)) (x1 - e1)) (x2 - e2)) (x3 - e3)) (x4 - e4))) || decide ((mnz (mnz (mnz (mnz (mnz (y0 + e0) (y0 + e0)) (y1 + e1)) (y2 + e2)) (y3 + e3)) (y4 + e4)) < (mxz (mxz (mxz (mxz (mxz (y0 - e0) (y0 - e0)) (y1 - e1)) (y2 - e2)) (y3 - e3)) (y4 - e4))))) = true then [0, 0, 0, 0, 0] else [(mxz (mxz (mxz (mxz (mxz (x0 - e0) (x0 - e0)) (x1 - e1)) (x2 - e2)) (x3 - e3)) (x4 - e4)), (mxz (mxz (mxz (mxz (mxz (y0 - e0) (y0 - e0)) (y1 - e1)) (y2 - e2)) (y3 - e3)) (y4 - e4)), (mnz (mnz (mnz (mnz (mnz (x0 + e0) (x0 + e0)) (x1 + e1)) (x2 + e2)) (x3 + e3)) (x4 + e4)), (mnz (mnz (mnz (mnz (mnz (y0 + e0) (y0 + e0)) (y1 + e1)) (y2 + e2)) (y3 + e3)) (y4 + e4)), 1]) := by
  have h := hg.2.2.2.2.2.1 [t0, x0, y0, e0, t1, x1, y1, e1, t2, x2, y2, e2, t3, x3, y3, e3, t4, x4, y4, e4]
  rw [show c_common5.key = 35 from rfl, rowF_lt (by decide)] at h
  exact h
set_option maxHeartbeats 2000000 in
theorem hull5_eq (hg : EnOK g l c z en45) (t0 x0 y0 e0 t1 x1 y1 e1 t2 x2 y2 e2 t3 x3 y3 e3 t4 x4 y4 e4 : Int) : g 45 [t0, x0, y0, e0, t1, x1, y1, e1, t2, x2, y2, e2, t3, x3, y3, e3, t4, x4, y4, e4] = [(mnz (mnz (mnz (mnz (mnz (x0 - e0) (x0 - e0)) (x1 - e1)) (x2 - e2)) (x3 - e3)) (x4 - e4)), (mnz (mnz (mnz (mnz (mnz (y0 - e0) (y0 - e0)) (y1 - e1)) (y2 - e2)) (y3 - e3)) (y4 - e4)), (mxz (mxz (mxz (mxz (mxz (x0 + e0) (x0 + e0)) (x1 + e1)) (x2 + e2)) (x3 + e3)) (x4 + e4)), (mxz (mxz (mxz (mxz (mxz (y0 + e0) (y0 + e0)) (y1 + e1)) (y2 + e2)) (y3 + e3)) (y4 + e4)), 1] := by
  have h := hg.1 [t0, x0, y0, e0, t1, x1, y1, e1, t2, x2, y2, e2, t3, x3, y3, e3, t4, x4, y4, e4]
  rw [show c_hull5.key = 45 from rfl, rowF_lt (by decide)] at h
  exact h
theorem common5_ok (hg : EnOK g l c z en45) {t0 x0 y0 e0 t1 x1 y1 e1 t2 x2 y2 e2 t3 x3 y3 e3 t4 x4 y4 e4 : Int} {r : List Int} (hr : r = g 35 [t0, x0, y0, e0, t1, x1, y1, e1, t2, x2, y2, e2, t3, x3, y3, e3, t4, x4, y4, e4]) (h : r.getD 4 0 ≠ 0) : x0 - e0 ≤ r.getD 0 0 ∧ r.getD 2 0 ≤ x0 + e0 ∧ y0 - e0 ≤ r.getD 1 0 ∧ r.getD 3 0 ≤ y0 + e0 ∧ x1 - e1 ≤ r.getD 0 0 ∧ r.getD 2 0 ≤ x1 + e1 ∧ y1 - e1 ≤ r.getD 1 0 ∧ r.getD 3 0 ≤ y1 + e1 ∧ x2 - e2 ≤ r.getD 0 0 ∧ r.getD 2 0 ≤ x2 + e2 ∧ y2 - e2 ≤ r.getD 1 0 ∧ r.getD 3 0 ≤ y2 + e2 ∧ x3 - e3 ≤ r.getD 0 0 ∧ r.getD 2 0 ≤ x3 + e3 ∧ y3 - e3 ≤ r.getD 1 0 ∧ r.getD 3 0 ≤ y3 + e3 ∧ x4 - e4 ≤ r.getD 0 0 ∧ r.getD 2 0 ≤ x4 + e4 ∧ y4 - e4 ≤ r.getD 1 0 ∧ r.getD 3 0 ≤ y4 + e4 := by
  rw [common5_eq hg] at hr
  split at hr
  · subst hr; exact absurd rfl h
  · subst hr
    simp only [List.getD_cons_zero, List.getD_cons_succ]
    have a0 := mxz_l (x0 - e0) (x0 - e0)
    have al1 := mxz_l (mxz (x0 - e0) (x0 - e0)) (x1 - e1)
    have ar1 := mxz_r (mxz (x0 - e0) (x0 - e0)) (x1 - e1)
    have al2 := mxz_l (mxz (mxz (x0 - e0) (x0 - e0)) (x1 - e1)) (x2 - e2)
    have ar2 := mxz_r (mxz (mxz (x0 - e0) (x0 - e0)) (x1 - e1)) (x2 - e2)
    have al3 := mxz_l (mxz (mxz (mxz (x0 - e0) (x0 - e0)) (x1 - e1)) (x2 - e2)) (x3 - e3)
    have ar3 := mxz_r (mxz (mxz (mxz (x0 - e0) (x0 - e0)) (x1 - e1)) (x2 - e2)) (x3 - e3)
    have al4 := mxz_l (mxz (mxz (mxz (mxz (x0 - e0) (x0 - e0)) (x1 - e1)) (x2 - e2)) (x3 - e3)) (x4 - e4)
    have ar4 := mxz_r (mxz (mxz (mxz (mxz (x0 - e0) (x0 - e0)) (x1 - e1)) (x2 - e2)) (x3 - e3)) (x4 - e4)
    have b0 := mxz_l (y0 - e0) (y0 - e0)
    have bl1 := mxz_l (mxz (y0 - e0) (y0 - e0)) (y1 - e1)
    have br1 := mxz_r (mxz (y0 - e0) (y0 - e0)) (y1 - e1)
    have bl2 := mxz_l (mxz (mxz (y0 - e0) (y0 - e0)) (y1 - e1)) (y2 - e2)
    have br2 := mxz_r (mxz (mxz (y0 - e0) (y0 - e0)) (y1 - e1)) (y2 - e2)
    have bl3 := mxz_l (mxz (mxz (mxz (y0 - e0) (y0 - e0)) (y1 - e1)) (y2 - e2)) (y3 - e3)
    have br3 := mxz_r (mxz (mxz (mxz (y0 - e0) (y0 - e0)) (y1 - e1)) (y2 - e2)) (y3 - e3)
    have bl4 := mxz_l (mxz (mxz (mxz (mxz (y0 - e0) (y0 - e0)) (y1 - e1)) (y2 - e2)) (y3 - e3)) (y4 - e4)
    have br4 := mxz_r (mxz (mxz (mxz (mxz (y0 - e0) (y0 - e0)) (y1 - e1)) (y2 - e2)) (y3 - e3)) (y4 - e4)
    have c0 := mnz_l (x0 + e0) (x0 + e0)
    have cl1 := mnz_l (mnz (x0 + e0) (x0 + e0)) (x1 + e1)
    have cr1 := mnz_r (mnz (x0 + e0) (x0 + e0)) (x1 + e1)
    have cl2 := mnz_l (mnz (mnz (x0 + e0) (x0 + e0)) (x1 + e1)) (x2 + e2)
    have cr2 := mnz_r (mnz (mnz (x0 + e0) (x0 + e0)) (x1 + e1)) (x2 + e2)
    have cl3 := mnz_l (mnz (mnz (mnz (x0 + e0) (x0 + e0)) (x1 + e1)) (x2 + e2)) (x3 + e3)
    have cr3 := mnz_r (mnz (mnz (mnz (x0 + e0) (x0 + e0)) (x1 + e1)) (x2 + e2)) (x3 + e3)
    have cl4 := mnz_l (mnz (mnz (mnz (mnz (x0 + e0) (x0 + e0)) (x1 + e1)) (x2 + e2)) (x3 + e3)) (x4 + e4)
    have cr4 := mnz_r (mnz (mnz (mnz (mnz (x0 + e0) (x0 + e0)) (x1 + e1)) (x2 + e2)) (x3 + e3)) (x4 + e4)
    have d0 := mnz_l (y0 + e0) (y0 + e0)
    have dl1 := mnz_l (mnz (y0 + e0) (y0 + e0)) (y1 + e1)
    have dr1 := mnz_r (mnz (y0 + e0) (y0 + e0)) (y1 + e1)
    have dl2 := mnz_l (mnz (mnz (y0 + e0) (y0 + e0)) (y1 + e1)) (y2 + e2)
    have dr2 := mnz_r (mnz (mnz (y0 + e0) (y0 + e0)) (y1 + e1)) (y2 + e2)
    have dl3 := mnz_l (mnz (mnz (mnz (y0 + e0) (y0 + e0)) (y1 + e1)) (y2 + e2)) (y3 + e3)
    have dr3 := mnz_r (mnz (mnz (mnz (y0 + e0) (y0 + e0)) (y1 + e1)) (y2 + e2)) (y3 + e3)
    have dl4 := mnz_l (mnz (mnz (mnz (mnz (y0 + e0) (y0 + e0)) (y1 + e1)) (y2 + e2)) (y3 + e3)) (y4 + e4)
    have dr4 := mnz_r (mnz (mnz (mnz (mnz (y0 + e0) (y0 + e0)) (y1 + e1)) (y2 + e2)) (y3 + e3)) (y4 + e4)
    omega
theorem hull5_ok (hg : EnOK g l c z en45) {t0 x0 y0 e0 t1 x1 y1 e1 t2 x2 y2 e2 t3 x3 y3 e3 t4 x4 y4 e4 : Int} {r : List Int} (hr : r = g 45 [t0, x0, y0, e0, t1, x1, y1, e1, t2, x2, y2, e2, t3, x3, y3, e3, t4, x4, y4, e4]) : r.getD 0 0 ≤ x0 - e0 ∧ x0 + e0 ≤ r.getD 2 0 ∧ r.getD 1 0 ≤ y0 - e0 ∧ y0 + e0 ≤ r.getD 3 0 ∧ r.getD 0 0 ≤ x1 - e1 ∧ x1 + e1 ≤ r.getD 2 0 ∧ r.getD 1 0 ≤ y1 - e1 ∧ y1 + e1 ≤ r.getD 3 0 ∧ r.getD 0 0 ≤ x2 - e2 ∧ x2 + e2 ≤ r.getD 2 0 ∧ r.getD 1 0 ≤ y2 - e2 ∧ y2 + e2 ≤ r.getD 3 0 ∧ r.getD 0 0 ≤ x3 - e3 ∧ x3 + e3 ≤ r.getD 2 0 ∧ r.getD 1 0 ≤ y3 - e3 ∧ y3 + e3 ≤ r.getD 3 0 ∧ r.getD 0 0 ≤ x4 - e4 ∧ x4 + e4 ≤ r.getD 2 0 ∧ r.getD 1 0 ≤ y4 - e4 ∧ y4 + e4 ≤ r.getD 3 0 := by
  rw [hull5_eq hg] at hr
  subst hr
  simp only [List.getD_cons_zero, List.getD_cons_succ]
  have a0 := mnz_l (x0 - e0) (x0 - e0)
  have al1 := mnz_l (mnz (x0 - e0) (x0 - e0)) (x1 - e1)
  have ar1 := mnz_r (mnz (x0 - e0) (x0 - e0)) (x1 - e1)
  have al2 := mnz_l (mnz (mnz (x0 - e0) (x0 - e0)) (x1 - e1)) (x2 - e2)
  have ar2 := mnz_r (mnz (mnz (x0 - e0) (x0 - e0)) (x1 - e1)) (x2 - e2)
  have al3 := mnz_l (mnz (mnz (mnz (x0 - e0) (x0 - e0)) (x1 - e1)) (x2 - e2)) (x3 - e3)
  have ar3 := mnz_r (mnz (mnz (mnz (x0 - e0) (x0 - e0)) (x1 - e1)) (x2 - e2)) (x3 - e3)
  have al4 := mnz_l (mnz (mnz (mnz (mnz (x0 - e0) (x0 - e0)) (x1 - e1)) (x2 - e2)) (x3 - e3)) (x4 - e4)
  have ar4 := mnz_r (mnz (mnz (mnz (mnz (x0 - e0) (x0 - e0)) (x1 - e1)) (x2 - e2)) (x3 - e3)) (x4 - e4)
  have b0 := mnz_l (y0 - e0) (y0 - e0)
  have bl1 := mnz_l (mnz (y0 - e0) (y0 - e0)) (y1 - e1)
  have br1 := mnz_r (mnz (y0 - e0) (y0 - e0)) (y1 - e1)
  have bl2 := mnz_l (mnz (mnz (y0 - e0) (y0 - e0)) (y1 - e1)) (y2 - e2)
  have br2 := mnz_r (mnz (mnz (y0 - e0) (y0 - e0)) (y1 - e1)) (y2 - e2)
  have bl3 := mnz_l (mnz (mnz (mnz (y0 - e0) (y0 - e0)) (y1 - e1)) (y2 - e2)) (y3 - e3)
  have br3 := mnz_r (mnz (mnz (mnz (y0 - e0) (y0 - e0)) (y1 - e1)) (y2 - e2)) (y3 - e3)
  have bl4 := mnz_l (mnz (mnz (mnz (mnz (y0 - e0) (y0 - e0)) (y1 - e1)) (y2 - e2)) (y3 - e3)) (y4 - e4)
  have br4 := mnz_r (mnz (mnz (mnz (mnz (y0 - e0) (y0 - e0)) (y1 - e1)) (y2 - e2)) (y3 - e3)) (y4 - e4)
  have c0 := mxz_l (x0 + e0) (x0 + e0)
  have cl1 := mxz_l (mxz (x0 + e0) (x0 + e0)) (x1 + e1)
  have cr1 := mxz_r (mxz (x0 + e0) (x0 + e0)) (x1 + e1)
  have cl2 := mxz_l (mxz (mxz (x0 + e0) (x0 + e0)) (x1 + e1)) (x2 + e2)
  have cr2 := mxz_r (mxz (mxz (x0 + e0) (x0 + e0)) (x1 + e1)) (x2 + e2)
  have cl3 := mxz_l (mxz (mxz (mxz (x0 + e0) (x0 + e0)) (x1 + e1)) (x2 + e2)) (x3 + e3)
  have cr3 := mxz_r (mxz (mxz (mxz (x0 + e0) (x0 + e0)) (x1 + e1)) (x2 + e2)) (x3 + e3)
  have cl4 := mxz_l (mxz (mxz (mxz (mxz (x0 + e0) (x0 + e0)) (x1 + e1)) (x2 + e2)) (x3 + e3)) (x4 + e4)
  have cr4 := mxz_r (mxz (mxz (mxz (mxz (x0 + e0) (x0 + e0)) (x1 + e1)) (x2 + e2)) (x3 + e3)) (x4 + e4)
  have d0 := mxz_l (y0 + e0) (y0 + e0)
  have dl1 := mxz_l (mxz (y0 + e0) (y0 + e0)) (y1 + e1)
  have dr1 := mxz_r (mxz (y0 + e0) (y0 + e0)) (y1 + e1)
  have dl2 := mxz_l (mxz (mxz (y0 + e0) (y0 + e0)) (y1 + e1)) (y2 + e2)
  have dr2 := mxz_r (mxz (mxz (y0 + e0) (y0 + e0)) (y1 + e1)) (y2 + e2)
  have dl3 := mxz_l (mxz (mxz (mxz (y0 + e0) (y0 + e0)) (y1 + e1)) (y2 + e2)) (y3 + e3)
  have dr3 := mxz_r (mxz (mxz (mxz (y0 + e0) (y0 + e0)) (y1 + e1)) (y2 + e2)) (y3 + e3)
  have dl4 := mxz_l (mxz (mxz (mxz (mxz (y0 + e0) (y0 + e0)) (y1 + e1)) (y2 + e2)) (y3 + e3)) (y4 + e4)
  have dr4 := mxz_r (mxz (mxz (mxz (mxz (y0 + e0) (y0 + e0)) (y1 + e1)) (y2 + e2)) (y3 + e3)) (y4 + e4)
  omega
end
end Go.Proofs.Ytcedkkleclhglaa
