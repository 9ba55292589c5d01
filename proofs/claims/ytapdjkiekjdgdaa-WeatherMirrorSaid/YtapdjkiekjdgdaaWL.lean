/- Chapter 22: what the contracts' functions are, in plain integers. -/
import Derived.Test.YtapdjkiekjdgdaaWC
import Derived.Test.YtapdjkiekjdgdaaOkJ
import Derived.Test.YtapdjkiekjdgdaaPlain
set_option linter.unusedSimpArgs false
set_option linter.unusedVariables false
set_option maxRecDepth 100000
namespace Go.Proofs.Ytapdjkiekjdgdaa
open Go.RowKit Ev
/-- The quotient, rounded half up. -/
def halfZ (n d : Int) : Int := (2 * n + d) / (2 * d)
theorem halfZ_le {n d : Int} (hd : 0 < d) : 2 * d * halfZ n d ≤ 2 * n + d := by unfold halfZ; exact Int.mul_ediv_self_le (by omega)
theorem halfZ_gt {n d : Int} (hd : 0 < d) : 2 * n - d < 2 * d * halfZ n d := by
  unfold halfZ
  have h := Int.mul_ediv_add_emod (2 * n + d) (2 * d)
  have h2 := Int.emod_lt_of_pos (2 * n + d) (show 0 < 2 * d by omega)
  omega
/-- Such a quotient is told by its bounds. -/
theorem halfZ_of {n d q : Int} (hd : 0 < d) (h1 : 2 * d * q ≤ 2 * n + d) (h2 : 2 * n - d < 2 * d * q) : q = halfZ n d := by
  have a := halfZ_le (n := n) hd
  have b := halfZ_gt (n := n) hd
  generalize halfZ n d = r at *
  have h3 : 2 * d * (q - r) < 2 * d * 1 := by rw [Int.mul_sub]; omega
  have h4 : 2 * d * (r - q) < 2 * d * 1 := by rw [Int.mul_sub]; omega
  have := Int.lt_of_mul_lt_mul_left h3 (by omega)
  have := Int.lt_of_mul_lt_mul_left h4 (by omega)
  omega
theorem halfZ_mono {m n d : Int} (hd : 0 < d) (h : m ≤ n) : halfZ m d ≤ halfZ n d := by
  unfold halfZ; exact Int.ediv_le_ediv (by omega) (by omega)
theorem halfZ_mul {x d : Int} (hd : 0 < d) : halfZ (d * x) d = x := by
  symm
  apply halfZ_of hd
  · rw [Int.mul_assoc]; omega
  · rw [Int.mul_assoc]; omega
theorem halfZ_zero {d : Int} (hd : 0 < d) : halfZ 0 d = 0 := by have := halfZ_mul (x := 0) hd; rwa [Int.mul_zero] at this
theorem halfZ_pos {n d : Int} (hd : 0 < d) (h : 0 < halfZ n d) : 0 < n := by
  rcases Int.lt_or_le 0 n with h1 | h1
  · exact h1
  · have := halfZ_mono hd h1; rw [halfZ_zero hd] at this; omega
theorem halfZ_neg {n d : Int} (hd : 0 < d) (h : halfZ n d < 0) : n < 0 := by
  rcases Int.lt_or_le n 0 with h1 | h1
  · exact h1
  · have := halfZ_mono hd h1; rw [halfZ_zero hd] at this; omega
theorem halfZ_opp {n d : Int} (hd : 0 < d) : 0 ≤ halfZ n d + halfZ (-n) d ∧ halfZ n d + halfZ (-n) d ≤ 1 := by
  have a := halfZ_le (n := n) hd
  have b := halfZ_gt (n := n) hd
  have a' := halfZ_le (n := -n) hd
  have b' := halfZ_gt (n := -n) hd
  generalize halfZ n d = r at *
  generalize halfZ (-n) d = s at *
  have h3 : 2 * d * (r + s) < 2 * d * 2 := by rw [Int.mul_add]; omega
  have h4 : 2 * d * (-1) < 2 * d * (r + s) := by rw [Int.mul_add]; omega
  have := Int.lt_of_mul_lt_mul_left h3 (by omega)
  have := Int.lt_of_mul_lt_mul_left h4 (by omega)
  omega
/-- Of twelve numbers, that at a place. -/
def P12 (x0 x1 x2 x3 x4 x5 x6 x7 x8 x9 x10 x11 k : Int) : Int :=
  if k = 0 then x0 else if k = 1 then x1 else if k = 2 then x2 else if k = 3 then x3 else if k = 4 then x4 else if k = 5 then x5 else if k = 6 then x6 else if k = 7 then x7 else if k = 8 then x8 else if k = 9 then x9 else if k = 10 then x10 else x11
/-- What lies between two of them. -/
def mixZ (x y m : Int) : Int := halfZ ((300 - m) * x + m * y) 300
def atZ (x0 x1 x2 x3 x4 x5 x6 x7 x8 x9 x10 x11 a : Int) : Int :=
  mixZ (P12 x0 x1 x2 x3 x4 x5 x6 x7 x8 x9 x10 x11 (a.tdiv 300)) (P12 x0 x1 x2 x3 x4 x5 x6 x7 x8 x9 x10 x11 ((a.tdiv 300 + 1).tmod 12)) (a.tmod 300)
theorem mixZ_lo {x y m b : Int} (h0 : 0 ≤ m) (h1 : m ≤ 300) (hx : b ≤ x) (hy : b ≤ y) : b ≤ mixZ x y m := by
  have e : (300 - m) * x + m * y = 300 * b + ((300 - m) * (x - b) + m * (y - b)) := by grind
  have h2 : 0 ≤ (300 - m) * (x - b) := Int.mul_nonneg (by omega) (by omega)
  have h3 : 0 ≤ m * (y - b) := Int.mul_nonneg h0 (by omega)
  have := halfZ_mono (m := 300 * b) (n := (300 - m) * x + m * y) (d := 300) (by omega) (by omega)
  rwa [halfZ_mul (by omega)] at this
theorem mixZ_hi {x y m b : Int} (h0 : 0 ≤ m) (h1 : m ≤ 300) (hx : x ≤ b) (hy : y ≤ b) : mixZ x y m ≤ b := by
  have e : (300 - m) * x + m * y = 300 * b - ((300 - m) * (b - x) + m * (b - y)) := by grind
  have h2 : 0 ≤ (300 - m) * (b - x) := Int.mul_nonneg (by omega) (by omega)
  have h3 : 0 ≤ m * (b - y) := Int.mul_nonneg h0 (by omega)
  have := halfZ_mono (m := (300 - m) * x + m * y) (n := 300 * b) (d := 300) (by omega) (by omega)
  rwa [halfZ_mul (by omega)] at this
theorem mixZ_0 (x y : Int) : mixZ x y 0 = x := by
  unfold mixZ
  rw [show (300 - 0) * x + 0 * y = 300 * x by omega, halfZ_mul (by omega)]
theorem half_tree {x d : Int} (hd : 1 ≤ d) : (if x.tmod d < 0 then (if d - (x - (x.tdiv d - 1) * d) ≤ x - (x.tdiv d - 1) * d then x.tdiv d - 1 + 1 else x.tdiv d - 1) else (if d - (x - x.tdiv d * d) ≤ x - x.tdiv d * d then x.tdiv d + 1 else x.tdiv d)) = halfZ x d := by
  have e2 := Int.mul_ediv_add_emod x d
  have e3 := Int.emod_nonneg x (show d ≠ 0 by omega)
  have e4 := Int.emod_lt_of_pos x (show 0 < d by omega)
  have key : (if d - (x - x / d * d) ≤ x - x / d * d then x / d + 1 else x / d) = halfZ x d := by
    rw [Int.mul_comm (x / d) d]
    split
    · apply halfZ_of (by omega) <;> (rw [Int.mul_assoc, Int.mul_add]; omega)
    · apply halfZ_of (by omega) <;> (rw [Int.mul_assoc]; omega)
  split
  · rename_i h
    rw [floor_neg hd h]
    exact key
  · rename_i h
    rw [floor_nonneg hd (by omega)]
    exact key
/-- Angles and speeds that the source picks. -/
def AngZ (d : Int) : Int := if d = 0 then 0 else if d = 1 then 1 else if d = 2 then 299 else if d = 3 then 300 else if d = 4 then 450 else if d = 5 then 900 else if d = 6 then 1800 else if d = 7 then 2701 else 3599
def SpdZ (d : Int) : Int := if d = 0 then 0 else if d = 1 then 0 else if d = 2 then 50 else if d = 3 then 100 else if d = 4 then 200 else 1000
theorem AngZ_nn (d : Int) : 0 ≤ AngZ d := by unfold AngZ; (repeat' split) <;> omega
theorem turn_eq {f a K : Int} (hf : 0 ≤ f) (ha : 0 ≤ a) (hK : 0 ≤ K) : ((f + K).tmod 3600 - (a + K).tmod 3600) % 3600 = (f - a) % 3600 := by
  rw [Int.tmod_eq_emod_of_nonneg (by omega), Int.tmod_eq_emod_of_nonneg (by omega)]; omega
section
variable {g : Nat → List Int → List Int} {l c : Int} {z : List Int}
theorem g12 (hg : EnOK g l c z en19) (x : Int) : g 12 [x] = [x % 3600] := by
  have h := hg.2.2.2.2.2.2.2.1 [x]
  rw [show c_norm.key = 12 from rfl, rowF_lt (by decide)] at h
  rw [h]
  simp only [t_norm, Ev.runT, denB, den, List.getD_cons_succ, List.getD_cons_zero, List.map_cons, List.map_nil, decide_eq_true_eq]
  split
  · rename_i h
    congr 1
    have := Int.lt_tmod_of_pos x (show (0 : Int) < 3600 by omega)
    have e1 := Int.mul_tdiv_add_tmod x 3600
    omega
  · rename_i h
    congr 1
    have := Int.tmod_lt_of_pos x (show (0 : Int) < 3600 by omega)
    have e1 := Int.mul_tdiv_add_tmod x 3600
    omega
theorem g13 (hg : EnOK g l c z en19) (x0 x1 x2 x3 x4 x5 x6 x7 x8 x9 x10 x11 : Int) : g 13 [x0, x1, x2, x3, x4, x5, x6, x7, x8, x9, x10, x11] = [x0, x1, x2, x3, x4, x5, x6, x7, x8, x9, x10, x11, 1] := by
  have h := hg.2.2.2.2.2.2.1 [x0, x1, x2, x3, x4, x5, x6, x7, x8, x9, x10, x11]
  rw [show c_read.key = 13 from rfl, rowF_lt (by decide)] at h
  rw [h]; rfl
theorem g14 (hg : EnOK g l c z en19) {x d : Int} (hd : 1 ≤ d) : g 14 [x, d] = [halfZ x d] := by
  have h := hg.2.2.2.2.2.1 [x, d]
  rw [show c_half3.key = 14 from rfl, rowF_lt (by decide)] at h
  rw [h, ← half_tree hd]
  simp only [t_half3, Ev.runT, denB, den, List.getD_cons_succ, List.getD_cons_zero, List.map_cons, List.map_nil, decide_eq_true_eq]
  (repeat' split) <;> rfl
theorem g15 (hg : EnOK g l c z en19) {x d : Int} (hd : 1 ≤ d) : g 15 [x, d] = [halfZ x d] := by
  have h := hg.2.2.2.2.1 [x, d]
  rw [show c_half6.key = 15 from rfl, rowF_lt (by decide)] at h
  rw [h, ← half_tree hd]
  simp only [t_half6, Ev.runT, denB, den, List.getD_cons_succ, List.getD_cons_zero, List.map_cons, List.map_nil, decide_eq_true_eq]
  (repeat' split) <;> rfl
theorem g16 (hg : EnOK g l c z en19) (x0 x1 x2 x3 x4 x5 x6 x7 x8 x9 x10 x11 a : Int) : g 16 [x0, x1, x2, x3, x4, x5, x6, x7, x8, x9, x10, x11, a] = [atZ x0 x1 x2 x3 x4 x5 x6 x7 x8 x9 x10 x11 a] := by
  have h := hg.2.2.2.1 [x0, x1, x2, x3, x4, x5, x6, x7, x8, x9, x10, x11, a]
  rw [show c_at.key = 16 from rfl, rowF_lt (by decide)] at h
  rw [h]
  simp only [t_at, Ev.runT, rowF_lt (show 14 < 900 by decide)]
  show (let r := g 14 [(300 - a.tmod 300) * P12 x0 x1 x2 x3 x4 x5 x6 x7 x8 x9 x10 x11 (a.tdiv 300) + a.tmod 300 * P12 x0 x1 x2 x3 x4 x5 x6 x7 x8 x9 x10 x11 ((a.tdiv 300 + 1).tmod 12), 300]; [r.getD 0 0]) = _
  rw [g14 hg (by omega)]
  rfl
/-- One component of a load. -/
def compZ (q v : Int) : Int := halfZ (q * v * v) 1000000
theorem compZ_zero (q : Int) : compZ q 0 = 0 := by unfold compZ; rw [Int.mul_zero, halfZ_zero (by omega)]
theorem compZ_grows {q v w : Int} (hv : 0 ≤ v) (hw : v ≤ w) : (0 < compZ q v → compZ q v ≤ compZ q w) ∧ (compZ q v < 0 → compZ q w ≤ compZ q v) := by
  have h2 : v * v ≤ w * w := Int.mul_le_mul hw hw hv (by omega)
  have h0 : 0 ≤ v * v := Int.mul_nonneg hv hv
  unfold compZ
  rw [Int.mul_assoc, Int.mul_assoc]
  refine ⟨fun h => halfZ_mono (by omega) ?_, fun h => halfZ_mono (by omega) ?_⟩
  · have hq := halfZ_pos (by omega) h
    have : 0 ≤ q := by
      rcases Int.lt_or_le q 0 with hn | hn
      · have := Int.mul_nonneg (show 0 ≤ -q by omega) h0
        rw [Int.neg_mul] at this; omega
      · exact hn
    exact Int.mul_le_mul_of_nonneg_left h2 this
  · have hq := halfZ_neg (by omega) h
    have : q ≤ 0 := by
      rcases Int.lt_or_le 0 q with hn | hn
      · have := Int.mul_nonneg (show 0 ≤ q by omega) h0
        omega
      · exact hn
    exact Int.mul_le_mul_of_nonpos_left this h2
set_option maxHeartbeats 4000000 in
theorem g17 (hg : EnOK g l c z en19) (f v a x0 x1 x2 x3 x4 x5 x6 x7 x8 x9 x10 x11 y0 y1 y2 y3 y4 y5 y6 y7 y8 y9 y10 y11 w0 w1 w2 w3 w4 w5 w6 w7 w8 w9 w10 w11 : Int) : g 17 [f, v, a, x0, x1, x2, x3, x4, x5, x6, x7, x8, x9, x10, x11, y0, y1, y2, y3, y4, y5, y6, y7, y8, y9, y10, y11, w0, w1, w2, w3, w4, w5, w6, w7, w8, w9, w10, w11] =
    [compZ (atZ x0 x1 x2 x3 x4 x5 x6 x7 x8 x9 x10 x11 ((f - a) % 3600)) v, compZ (atZ y0 y1 y2 y3 y4 y5 y6 y7 y8 y9 y10 y11 ((f - a) % 3600)) v, compZ (atZ w0 w1 w2 w3 w4 w5 w6 w7 w8 w9 w10 w11 ((f - a) % 3600)) v] := by
  have h := hg.2.2.1 [f, v, a, x0, x1, x2, x3, x4, x5, x6, x7, x8, x9, x10, x11, y0, y1, y2, y3, y4, y5, y6, y7, y8, y9, y10, y11, w0, w1, w2, w3, w4, w5, w6, w7, w8, w9, w10, w11]
  rw [show c_load.key = 17 from rfl, rowF_lt (by decide)] at h
  rw [h]
  simp only [t_load, Ev.runT, List.map_cons, List.map_nil, den, List.getD_cons_succ, List.getD_cons_zero, List.cons_append, List.nil_append, rowF_lt (show 12 < 900 by decide), rowF_lt (show 13 < 900 by decide), rowF_lt (show 15 < 900 by decide), rowF_lt (show 16 < 900 by decide),
    g13 hg, g12 hg, g16 hg, g15 hg (show (1 : Int) ≤ 1000000 by decide), fit_len (l := [_]) rfl, fit_len (l := [_, _, _, _, _, _, _, _, _, _, _, _, _]) rfl]
  rfl
/-- A whole load: the curves' numbers, the flows, the heading. -/
def tot (C : Nat → Int) (fw vw fc vc fv vv a : Int) : List Int :=
  [0 + compZ (atZ (C 0) (C 1) (C 2) (C 3) (C 4) (C 5) (C 6) (C 7) (C 8) (C 9) (C 10) (C 11) ((fw - a) % 3600)) vw + compZ (atZ (C 36) (C 37) (C 38) (C 39) (C 40) (C 41) (C 42) (C 43) (C 44) (C 45) (C 46) (C 47) ((fc - a) % 3600)) vc + compZ (atZ (C 72) (C 73) (C 74) (C 75) (C 76) (C 77) (C 78) (C 79) (C 80) (C 81) (C 82) (C 83) ((fv - a) % 3600)) vv, 0 + compZ (atZ (C 12) (C 13) (C 14) (C 15) (C 16) (C 17) (C 18) (C 19) (C 20) (C 21) (C 22) (C 23) ((fw - a) % 3600)) vw + compZ (atZ (C 48) (C 49) (C 50) (C 51) (C 52) (C 53) (C 54) (C 55) (C 56) (C 57) (C 58) (C 59) ((fc - a) % 3600)) vc + compZ (atZ (C 84) (C 85) (C 86) (C 87) (C 88) (C 89) (C 90) (C 91) (C 92) (C 93) (C 94) (C 95) ((fv - a) % 3600)) vv,
   0 + compZ (atZ (C 24) (C 25) (C 26) (C 27) (C 28) (C 29) (C 30) (C 31) (C 32) (C 33) (C 34) (C 35) ((fw - a) % 3600)) vw + compZ (atZ (C 60) (C 61) (C 62) (C 63) (C 64) (C 65) (C 66) (C 67) (C 68) (C 69) (C 70) (C 71) ((fc - a) % 3600)) vc + compZ (atZ (C 96) (C 97) (C 98) (C 99) (C 100) (C 101) (C 102) (C 103) (C 104) (C 105) (C 106) (C 107) ((fv - a) % 3600)) vv, 0]
set_option maxHeartbeats 8000000 in
theorem g19 (hg : EnOK g l c z en19) (m i d s fw vw fc vc fv vv a x0 x1 x2 x3 x4 x5 x6 x7 x8 x9 x10 x11 x12 x13 x14 x15 x16 x17 x18 x19 x20 x21 x22 x23 x24 x25 x26 x27 x28 x29 x30 x31 x32 x33 x34 x35 y0 y1 y2 y3 y4 y5 y6 y7 y8 y9 y10 y11 y12 y13 y14 y15 y16 y17 y18 y19 y20 y21 y22 y23 y24 y25 y26 y27 y28 y29 y30 y31 y32 y33 y34 y35 w0 w1 w2 w3 w4 w5 w6 w7 w8 w9 w10 w11 w12 w13 w14 w15 w16 w17 w18 w19 w20 w21 w22 w23 w24 w25 w26 w27 w28 w29 w30 w31 w32 w33 w34 w35 : Int) : g 19 [m, i, d, s, fw, vw, fc, vc, fv, vv, a, x0, x1, x2, x3, x4, x5, x6, x7, x8, x9, x10, x11, x12, x13, x14, x15, x16, x17, x18, x19, x20, x21, x22, x23, x24, x25, x26, x27, x28, x29, x30, x31, x32, x33, x34, x35, y0, y1, y2, y3, y4, y5, y6, y7, y8, y9, y10, y11, y12, y13, y14, y15, y16, y17, y18, y19, y20, y21, y22, y23, y24, y25, y26, y27, y28, y29, y30, y31, y32, y33, y34, y35, w0, w1, w2, w3, w4, w5, w6, w7, w8, w9, w10, w11, w12, w13, w14, w15, w16, w17, w18, w19, w20, w21, w22, w23, w24, w25, w26, w27, w28, w29, w30, w31, w32, w33, w34, w35] =
    [0 + compZ (atZ x0 x1 x2 x3 x4 x5 x6 x7 x8 x9 x10 x11 ((fw - a) % 3600)) vw + compZ (atZ y0 y1 y2 y3 y4 y5 y6 y7 y8 y9 y10 y11 ((fc - a) % 3600)) vc + compZ (atZ w0 w1 w2 w3 w4 w5 w6 w7 w8 w9 w10 w11 ((fv - a) % 3600)) vv,
     0 + compZ (atZ x12 x13 x14 x15 x16 x17 x18 x19 x20 x21 x22 x23 ((fw - a) % 3600)) vw + compZ (atZ y12 y13 y14 y15 y16 y17 y18 y19 y20 y21 y22 y23 ((fc - a) % 3600)) vc + compZ (atZ w12 w13 w14 w15 w16 w17 w18 w19 w20 w21 w22 w23 ((fv - a) % 3600)) vv,
     0 + compZ (atZ x24 x25 x26 x27 x28 x29 x30 x31 x32 x33 x34 x35 ((fw - a) % 3600)) vw + compZ (atZ y24 y25 y26 y27 y28 y29 y30 y31 y32 y33 y34 y35 ((fc - a) % 3600)) vc + compZ (atZ w24 w25 w26 w27 w28 w29 w30 w31 w32 w33 w34 w35 ((fv - a) % 3600)) vv, 0] := by
  have h := hg.1 [m, i, d, s, fw, vw, fc, vc, fv, vv, a, x0, x1, x2, x3, x4, x5, x6, x7, x8, x9, x10, x11, x12, x13, x14, x15, x16, x17, x18, x19, x20, x21, x22, x23, x24, x25, x26, x27, x28, x29, x30, x31, x32, x33, x34, x35, y0, y1, y2, y3, y4, y5, y6, y7, y8, y9, y10, y11, y12, y13, y14, y15, y16, y17, y18, y19, y20, y21, y22, y23, y24, y25, y26, y27, y28, y29, y30, y31, y32, y33, y34, y35, w0, w1, w2, w3, w4, w5, w6, w7, w8, w9, w10, w11, w12, w13, w14, w15, w16, w17, w18, w19, w20, w21, w22, w23, w24, w25, w26, w27, w28, w29, w30, w31, w32, w33, w34, w35]
  rw [show c_total.key = 19 from rfl, rowF_lt (by decide)] at h
  rw [h]
  simp only [t_total, Ev.runT, List.map_cons, List.map_nil, den, List.getD_cons_succ, List.getD_cons_zero, List.cons_append, List.nil_append, rowF_lt (show 18 < 900 by decide), rowF_lt (show 17 < 900 by decide), fit1, fit3, g17 hg]
theorem g19x (hg : EnOK g l c z en19) {xs : List Int} (hl : xs.length = 119) : g 19 xs = tot (fun k => xs.getD (k + 11) 0) (xs.getD 4 0) (xs.getD 5 0) (xs.getD 6 0) (xs.getD 7 0) (xs.getD 8 0) (xs.getD 9 0) (xs.getD 10 0) := by
  have h := g19 hg (xs.getD 0 0) (xs.getD 1 0) (xs.getD 2 0) (xs.getD 3 0) (xs.getD 4 0) (xs.getD 5 0) (xs.getD 6 0) (xs.getD 7 0) (xs.getD 8 0) (xs.getD 9 0) (xs.getD 10 0) (xs.getD 11 0) (xs.getD 12 0) (xs.getD 13 0) (xs.getD 14 0) (xs.getD 15 0) (xs.getD 16 0) (xs.getD 17 0) (xs.getD 18 0) (xs.getD 19 0) (xs.getD 20 0) (xs.getD 21 0) (xs.getD 22 0) (xs.getD 23 0) (xs.getD 24 0) (xs.getD 25 0) (xs.getD 26 0) (xs.getD 27 0) (xs.getD 28 0) (xs.getD 29 0) (xs.getD 30 0) (xs.getD 31 0) (xs.getD 32 0) (xs.getD 33 0) (xs.getD 34 0) (xs.getD 35 0) (xs.getD 36 0) (xs.getD 37 0) (xs.getD 38 0) (xs.getD 39 0) (xs.getD 40 0) (xs.getD 41 0) (xs.getD 42 0) (xs.getD 43 0) (xs.getD 44 0) (xs.getD 45 0) (xs.getD 46 0) (xs.getD 47 0) (xs.getD 48 0) (xs.getD 49 0) (xs.getD 50 0) (xs.getD 51 0) (xs.getD 52 0) (xs.getD 53 0) (xs.getD 54 0) (xs.getD 55 0) (xs.getD 56 0) (xs.getD 57 0) (xs.getD 58 0) (xs.getD 59 0) (xs.getD 60 0) (xs.getD 61 0) (xs.getD 62 0) (xs.getD 63 0) (xs.getD 64 0) (xs.getD 65 0) (xs.getD 66 0) (xs.getD 67 0) (xs.getD 68 0) (xs.getD 69 0) (xs.getD 70 0) (xs.getD 71 0) (xs.getD 72 0) (xs.getD 73 0) (xs.getD 74 0) (xs.getD 75 0) (xs.getD 76 0) (xs.getD 77 0) (xs.getD 78 0) (xs.getD 79 0) (xs.getD 80 0) (xs.getD 81 0) (xs.getD 82 0) (xs.getD 83 0) (xs.getD 84 0) (xs.getD 85 0) (xs.getD 86 0) (xs.getD 87 0) (xs.getD 88 0) (xs.getD 89 0) (xs.getD 90 0) (xs.getD 91 0) (xs.getD 92 0) (xs.getD 93 0) (xs.getD 94 0) (xs.getD 95 0) (xs.getD 96 0) (xs.getD 97 0) (xs.getD 98 0) (xs.getD 99 0) (xs.getD 100 0) (xs.getD 101 0) (xs.getD 102 0) (xs.getD 103 0) (xs.getD 104 0) (xs.getD 105 0) (xs.getD 106 0) (xs.getD 107 0) (xs.getD 108 0) (xs.getD 109 0) (xs.getD 110 0) (xs.getD 111 0) (xs.getD 112 0) (xs.getD 113 0) (xs.getD 114 0) (xs.getD 115 0) (xs.getD 116 0) (xs.getD 117 0) (xs.getD 118 0)
  have e : xs = [xs.getD 0 0, xs.getD 1 0, xs.getD 2 0, xs.getD 3 0, xs.getD 4 0, xs.getD 5 0, xs.getD 6 0, xs.getD 7 0, xs.getD 8 0, xs.getD 9 0, xs.getD 10 0, xs.getD 11 0, xs.getD 12 0, xs.getD 13 0, xs.getD 14 0, xs.getD 15 0, xs.getD 16 0, xs.getD 17 0, xs.getD 18 0, xs.getD 19 0, xs.getD 20 0, xs.getD 21 0, xs.getD 22 0, xs.getD 23 0, xs.getD 24 0, xs.getD 25 0, xs.getD 26 0, xs.getD 27 0, xs.getD 28 0, xs.getD 29 0, xs.getD 30 0, xs.getD 31 0, xs.getD 32 0, xs.getD 33 0, xs.getD 34 0, xs.getD 35 0, xs.getD 36 0, xs.getD 37 0, xs.getD 38 0, xs.getD 39 0, xs.getD 40 0, xs.getD 41 0, xs.getD 42 0, xs.getD 43 0, xs.getD 44 0, xs.getD 45 0, xs.getD 46 0, xs.getD 47 0, xs.getD 48 0, xs.getD 49 0, xs.getD 50 0, xs.getD 51 0, xs.getD 52 0, xs.getD 53 0, xs.getD 54 0, xs.getD 55 0, xs.getD 56 0, xs.getD 57 0, xs.getD 58 0, xs.getD 59 0, xs.getD 60 0, xs.getD 61 0, xs.getD 62 0, xs.getD 63 0, xs.getD 64 0, xs.getD 65 0, xs.getD 66 0, xs.getD 67 0, xs.getD 68 0, xs.getD 69 0, xs.getD 70 0, xs.getD 71 0, xs.getD 72 0, xs.getD 73 0, xs.getD 74 0, xs.getD 75 0, xs.getD 76 0, xs.getD 77 0, xs.getD 78 0, xs.getD 79 0, xs.getD 80 0, xs.getD 81 0, xs.getD 82 0, xs.getD 83 0, xs.getD 84 0, xs.getD 85 0, xs.getD 86 0, xs.getD 87 0, xs.getD 88 0, xs.getD 89 0, xs.getD 90 0, xs.getD 91 0, xs.getD 92 0, xs.getD 93 0, xs.getD 94 0, xs.getD 95 0, xs.getD 96 0, xs.getD 97 0, xs.getD 98 0, xs.getD 99 0, xs.getD 100 0, xs.getD 101 0, xs.getD 102 0, xs.getD 103 0, xs.getD 104 0, xs.getD 105 0, xs.getD 106 0, xs.getD 107 0, xs.getD 108 0, xs.getD 109 0, xs.getD 110 0, xs.getD 111 0, xs.getD 112 0, xs.getD 113 0, xs.getD 114 0, xs.getD 115 0, xs.getD 116 0, xs.getD 117 0, xs.getD 118 0] := (fit_len hl).symm
  rw [← e] at h
  exact h
/-- Terms that are the same but at some places. -/
def sameBut (ps : List Nat) : Nat → List E → List E → Bool
  | _, [], [] => true
  | i, a :: l, b :: r => (memN i ps || a.eqb b) && sameBut ps (i + 1) l r
  | _, _, _ => false
theorem sameBut_ok {ps : List Nat} : ∀ {i : Nat} {l r : List E}, sameBut ps i l r = true → ∀ j, memN (i + j) ps = false → l.getD j (.lit 0) = r.getD j (.lit 0)
  | i, [], [], _, j, _ => rfl
  | i, a :: l, b :: r, h, 0, hj => by
    simp only [sameBut, Bool.and_eq_true, Bool.or_eq_true] at h
    rcases h.1 with h1 | h1
    · rw [Nat.add_zero] at hj; rw [hj] at h1; cases h1
    · exact E.eqb_eq h1
  | i, a :: l, b :: r, h, j + 1, hj => by
    simp only [sameBut, Bool.and_eq_true] at h
    exact sameBut_ok h.2 j (by rw [← hj]; congr 1; omega)
  | _, [], _ :: _, h, _, _ => by cases h
  | _, _ :: _, [], h, _, _ => by cases h
theorem E.eqb_refl : ∀ e : E, e.eqb e = true
  | .lit _ => by simp [E.eqb]
  | .v _ => by simp [E.eqb]
  | .add a b | .sub a b | .mul a b | .quo a b | .rem a b | .mx a b | .mn a b => by simp [E.eqb, E.eqb_refl a, E.eqb_refl b]
  | .sw i _ a b => by simp [E.eqb, E.eqb_refl i, E.eqb_refl a, E.eqb_refl b]
  | .wr _ a => by simp [E.eqb, E.eqb_refl a]
theorem sameBut_refl (ps : List Nat) : ∀ (i : Nat) (l : List E), sameBut ps i l l = true
  | _, [] => rfl
  | i, a :: l => by simp [sameBut, E.eqb_refl, sameBut_refl ps (i + 1) l]
/-- Behind further numbers, terms that are closed are what they were. -/
theorem map_same {ps : List Nat} {n : Nat} {ρ s : List Int} {es es' : List E} (hl : ρ.length = n) (hc : es.all (clE n) = true) (h : sameBut ps 0 es' es = true) (j : Nat) (hj : memN j ps = false) :
    (es'.map (den (ρ ++ s))).getD j 0 = (es.map (den ρ)).getD j 0 := by
  rw [← getD_den, ← getD_den, sameBut_ok h j (by rw [Nat.zero_add]; exact hj)]
  by_cases hjl : j < es.length
  · have : es.getD j (.lit 0) = es[j] := by simp [List.getD_eq_getElem?_getD, List.getElem?_eq_getElem hjl]
    rw [this]
    exact clE_ok (List.all_eq_true.1 hc _ (List.getElem_mem hjl)) (by omega) _
  · have : es.getD j (.lit 0) = .lit 0 := by simp [List.getD_eq_getElem?_getD, List.getElem?_eq_none (Nat.le_of_not_lt hjl)]
    rw [this]; rfl
theorem tot_C {C C' : Nat → Int} (h : ∀ k, C k = C' k) : C = C' := funext h
theorem fit13 (l : List Int) : fit 13 l = [l.getD 0 0, l.getD 1 0, l.getD 2 0, l.getD 3 0, l.getD 4 0, l.getD 5 0, l.getD 6 0, l.getD 7 0, l.getD 8 0, l.getD 9 0, l.getD 10 0, l.getD 11 0, l.getD 12 0] := rfl
end
end Go.Proofs.Ytapdjkiekjdgdaa
