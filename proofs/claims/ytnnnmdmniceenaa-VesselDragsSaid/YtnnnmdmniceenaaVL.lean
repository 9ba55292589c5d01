/- Chapter 23: what the contracts' functions are, in plain integers. -/
import Derived.Test.YtnnnmdmniceenaaVC
import Derived.Test.YtnnnmdmniceenaaOkJ
import Derived.Test.YtnnnmdmniceenaaHalfZ
set_option linter.unusedSimpArgs false
set_option linter.unusedVariables false
set_option maxRecDepth 100000
namespace Go.Proofs.Ytnnnmdmniceenaa
open Go.RowKit Ev
theorem half_tree {x d : Int} (hd : 1 ≤ d) : (if x.tmod d < 0 then (if d - (x - (x.tdiv d - 1) * d) ≤ x - (x.tdiv d - 1) * d then x.tdiv d - 1 + 1 else x.tdiv d - 1) else (if d - (x - x.tdiv d * d) ≤ x - x.tdiv d * d then x.tdiv d + 1 else x.tdiv d)) = halfZ x d := by
  have e2 := Int.mul_ediv_add_emod x d
  have e3 := Int.emod_nonneg x (show d ≠ 0 by omega)
  have e4 := Int.emod_lt_of_pos x (show 0 < d by omega)
  have key : (if d - (x - x / d * d) ≤ x - x / d * d then x / d + 1 else x / d) = halfZ x d := by
    rw [Int.mul_comm (x / d) d]
    split
    · apply halfZ_of (by omega) <;> (rw [Int.mul_assoc, Int.mul_add]; omega)
    · apply halfZ_of (by omega) <;> (rw [Int.mul_assoc]; omega)
  split
  · rename_i h
    rw [floor_neg hd h]
    exact key
  · rename_i h
    rw [floor_nonneg hd (by omega)]
    exact key
theorem half_key {x d : Int} (hd : 1 ≤ d) : (if d - (x - x / d * d) ≤ x - x / d * d then x / d + 1 else x / d) = halfZ x d := by
  have e2 := Int.mul_ediv_add_emod x d
  have e3 := Int.emod_nonneg x (show d ≠ 0 by omega)
  have e4 := Int.emod_lt_of_pos x (show 0 < d by omega)
  rw [Int.mul_comm (x / d) d]
  split
  · apply halfZ_of (by omega) <;> (rw [Int.mul_assoc, Int.mul_add]; omega)
  · apply halfZ_of (by omega) <;> (rw [Int.mul_assoc]; omega)
theorem i64w {n : Int} (h1 : -9223372036854775808 ≤ n) (h2 : n ≤ 9223372036854775807) : IntKind.i64.wrap n = n := wrap_in .i64 n h1 h2
theorem mul_bd {x y a b : Int} (ha : 0 ≤ a) (hb : 0 ≤ b) (h1 : -a ≤ x) (h2 : x ≤ a) (h3 : -b ≤ y) (h4 : y ≤ b) : -(a * b) ≤ x * y ∧ x * y ≤ a * b := by
  have e1 : 0 ≤ (a - x) * (b + y) := Int.mul_nonneg (by omega) (by omega)
  have e2 : 0 ≤ (a + x) * (b - y) := Int.mul_nonneg (by omega) (by omega)
  have e3 : 0 ≤ (a - x) * (b - y) := Int.mul_nonneg (by omega) (by omega)
  have e4 : 0 ≤ (a + x) * (b + y) := Int.mul_nonneg (by omega) (by omega)
  constructor <;> grind
/-- What drags makes no speed greater. -/
theorem drag_bd {s D M : Int} (h0 : 0 ≤ D) (h1 : D ≤ M) (hM : 1 ≤ M) : (0 ≤ s → 0 ≤ s + halfZ (10000 * 0 - D * s) M ∧ s + halfZ (10000 * 0 - D * s) M ≤ s) ∧ (s ≤ 0 → s ≤ s + halfZ (10000 * 0 - D * s) M ∧ s + halfZ (10000 * 0 - D * s) M ≤ 0) := by
  have e : (10000 : Int) * 0 - D * s = -(D * s) := by omega
  rw [e]
  constructor
  · intro hs
    have a1 : 0 ≤ D * s := Int.mul_nonneg h0 hs
    have a2 : D * s ≤ M * s := Int.mul_le_mul_of_nonneg_right h1 hs
    have b1 := halfZ_hi (n := -(D * s)) (d := M) (b := 0) (by omega) (by omega)
    have b2 := halfZ_lo (n := -(D * s)) (d := M) (b := -s) (by omega) (by rw [Int.mul_neg]; omega)
    omega
  · intro hs
    have a1 : D * s ≤ 0 := by have := Int.mul_nonneg h0 (show 0 ≤ -s by omega); rw [Int.mul_neg] at this; omega
    have a2 : M * s ≤ D * s := Int.mul_le_mul_of_nonpos_right h1 hs
    have b1 := halfZ_hi (n := -(D * s)) (d := M) (b := -s) (by omega) (by rw [Int.mul_neg]; omega)
    have b2 := halfZ_lo (n := -(D * s)) (d := M) (b := 0) (by omega) (by omega)
    omega
section
variable {g : Nat → List Int → List Int} {l c : Int} {z : List Int}
theorem g13 (hg : EnOK g l c z en18) {x d : Int} (hd : 1 ≤ d) (hd2 : d ≤ 1073741824) (hx : -20000000000000 ≤ x ∧ x ≤ 20000000000000) : g 13 [x, d] = [halfZ x d] := by
  have h := hg.2.2.2.2.2.1 [x, d]
  rw [show c_halfa.key = 13 from rfl, rowF_lt (by decide)] at h
  rw [h]
  simp only [t_halfa, Ev.runT, denB, den, List.getD_cons_succ, List.getD_cons_zero, List.map_cons, List.map_nil, decide_eq_true_eq]
  have e2 := Int.mul_ediv_add_emod x d
  have e3 := Int.emod_nonneg x (show d ≠ 0 by omega)
  have e4 := Int.emod_lt_of_pos x (show 0 < d by omega)
  have e5 : x / d * d = d * (x / d) := Int.mul_comm _ _
  split
  · rename_i h
    rw [floor_neg hd h, i64w (n := x / d * d) (by omega) (by omega), i64w (n := x - x / d * d) (by omega) (by omega), i64w (n := d - (x - x / d * d)) (by omega) (by omega), ← half_key hd]
    split <;> rfl
  · rename_i h
    rw [floor_nonneg hd (by omega), i64w (n := x / d * d) (by omega) (by omega), i64w (n := x - x / d * d) (by omega) (by omega), i64w (n := d - (x - x / d * d)) (by omega) (by omega), ← half_key hd]
    split <;> rfl
theorem g14 (hg : EnOK g l c z en18) {x d : Int} (hd : 1 ≤ d) (hd2 : d ≤ 1073741824) (hx : -20000000000000 ≤ x ∧ x ≤ 20000000000000) : g 14 [x, d] = [halfZ x d] := by
  have h := hg.2.2.2.2.1 [x, d]
  rw [show c_halfb.key = 14 from rfl, rowF_lt (by decide)] at h
  rw [h]
  simp only [t_halfb, Ev.runT, denB, den, List.getD_cons_succ, List.getD_cons_zero, List.map_cons, List.map_nil, decide_eq_true_eq]
  have e2 := Int.mul_ediv_add_emod x d
  have e3 := Int.emod_nonneg x (show d ≠ 0 by omega)
  have e4 := Int.emod_lt_of_pos x (show 0 < d by omega)
  have e5 : x / d * d = d * (x / d) := Int.mul_comm _ _
  split
  · rename_i h
    rw [floor_neg hd h, i64w (n := x - x / d * d) (by omega) (by omega), i64w (n := d - (x - x / d * d)) (by omega) (by omega), ← half_key hd]
    split <;> rfl
  · rename_i h
    rw [floor_nonneg hd (by omega), i64w (n := x - x / d * d) (by omega) (by omega), i64w (n := d - (x - x / d * d)) (by omega) (by omega), ← half_key hd]
    split <;> rfl
theorem g15 (hg : EnOK g l c z en18) {x d : Int} (hd : 1 ≤ d) : g 15 [x, d] = [x % d] := by
  have h := hg.2.2.2.1 [x, d]
  rw [show c_moda.key = 15 from rfl, rowF_lt (by decide)] at h
  rw [h]
  simp only [t_moda, Ev.runT, denB, den, List.getD_cons_succ, List.getD_cons_zero, List.map_cons, List.map_nil, decide_eq_true_eq]
  have h1 := Int.mul_ediv_add_emod x d
  split
  · rename_i h; rw [floor_neg hd h]; congr 1; omega
  · rename_i h; rw [floor_nonneg hd (by omega)]; congr 1; omega
theorem g16 (hg : EnOK g l c z en18) {x d : Int} (hd : 1 ≤ d) : g 16 [x, d] = [x % d] := by
  have h := hg.2.2.1 [x, d]
  rw [show c_modb.key = 16 from rfl, rowF_lt (by decide)] at h
  rw [h]
  simp only [t_modb, Ev.runT, denB, den, List.getD_cons_succ, List.getD_cons_zero, List.map_cons, List.map_nil, decide_eq_true_eq]
  have h1 := Int.mul_ediv_add_emod x d
  split
  · rename_i h; rw [floor_neg hd h]; congr 1; omega
  · rename_i h; rw [floor_nonneg hd (by omega)]; congr 1; omega
def sinG (g : Nat → List Int → List Int) (a : Int) : Int := (g 17 [a]).getD 0 0
theorem sin_bd (hg : EnOK g l c z en18) (a : Int) : -160010 ≤ sinG g a ∧ sinG g a ≤ 160010 := by
  have h := rng_of hg.2.1 t_sin_chk rfl rfl [a]
  rw [show c_sin.key = 17 from rfl] at h
  exact RngOK_get h 0 _ _ rfl
def cosG (g : Nat → List Int → List Int) (a : Int) : Int := (g 18 [a]).getD 0 0
theorem cos_bd (hg : EnOK g l c z en18) (a : Int) : -160010 ≤ cosG g a ∧ cosG g a ≤ 160010 := by
  have h := rng_of hg.1 t_cos_chk rfl rfl [a]
  rw [show c_cos.key = 18 from rfl] at h
  exact RngOK_get h 0 _ _ rfl
theorem sin_at (hg : EnOK g l c z en18) (a : Int) : sinG g a = (Ev.runT (rowF g z) [l, c, a] t_sin).getD 0 0 := by
  have h := hg.2.1 [a]
  rw [show c_sin.key = 17 from rfl, rowF_lt (by decide)] at h
  unfold sinG
  rw [h]
theorem cos_at (hg : EnOK g l c z en18) (a : Int) : cosG g a = (Ev.runT (rowF g z) [l, c, a] t_cos).getD 0 0 := by
  have h := hg.1 [a]
  rw [show c_cos.key = 18 from rfl, rowF_lt (by decide)] at h
  unfold cosG
  rw [h]
theorem en22_18 (hg : EnOK g l c z en22) : EnOK g l c z en18 := hg.2.2.2.2
def nsZ (s D a M : Int) : Int := s + halfZ (10000 * a - D * s) M
def hdZ (C n : Int) : Int := ((C + n) % 360000).tdiv 100 % 3600
def dxZ (g : Nat → List Int → List Int) (u w h : Int) : Int := halfZ (u * cosG g h - w * sinG g h) 10000
def dyZ (g : Nat → List Int → List Int) (u w h : Int) : Int := halfZ (u * sinG g h + w * cosG g h) 10000
theorem dx_n (hg : EnOK g l c z en18) {u w h : Int} (h1 : -100000 ≤ u ∧ u ≤ 100000) (h2 : -100000 ≤ w ∧ w ≤ 100000) : (-40000000000 ≤ u * cosG g h - w * sinG g h ∧ u * cosG g h - w * sinG g h ≤ 40000000000) ∧ -40000000000 ≤ u * sinG g h + w * cosG g h ∧ u * sinG g h + w * cosG g h ≤ 40000000000 := by
  have s := sin_bd hg h
  have co := cos_bd hg h
  have a1 := mul_bd (a := 100000) (b := 160010) (by omega) (by omega) h1.1 h1.2 co.1 co.2
  have a2 := mul_bd (a := 100000) (b := 160010) (by omega) (by omega) h2.1 h2.2 s.1 s.2
  have a3 := mul_bd (a := 100000) (b := 160010) (by omega) (by omega) h1.1 h1.2 s.1 s.2
  have a4 := mul_bd (a := 100000) (b := 160010) (by omega) (by omega) h2.1 h2.2 co.1 co.2
  omega
theorem dx_bd (hg : EnOK g l c z en18) {u w h : Int} (h1 : -100000 ≤ u ∧ u ≤ 100000) (h2 : -100000 ≤ w ∧ w ≤ 100000) : -4000000 ≤ dxZ g u w h ∧ dxZ g u w h ≤ 4000000 ∧ -4000000 ≤ dyZ g u w h ∧ dyZ g u w h ≤ 4000000 := by
  have s := sin_bd hg h
  have co := cos_bd hg h
  have a1 := mul_bd (a := 100000) (b := 160010) (by omega) (by omega) h1.1 h1.2 co.1 co.2
  have a2 := mul_bd (a := 100000) (b := 160010) (by omega) (by omega) h2.1 h2.2 s.1 s.2
  have a3 := mul_bd (a := 100000) (b := 160010) (by omega) (by omega) h1.1 h1.2 s.1 s.2
  have a4 := mul_bd (a := 100000) (b := 160010) (by omega) (by omega) h2.1 h2.2 co.1 co.2
  unfold dxZ dyZ
  exact ⟨halfZ_lo (by omega) (by omega), halfZ_hi (by omega) (by omega), halfZ_lo (by omega) (by omega), halfZ_hi (by omega) (by omega)⟩
set_option maxHeartbeats 8000000 in
theorem step9_ok (hg : EnOK g l c z en22) {M I D S T X Y C su sw tu a b e k0 k1 k2 k3 k4 k5 k6 k7 k8 k9 k10 k11 k12 k13 k14 k15 k16 k17 k18 k19 k20 k21 k22 k23 k24 k25 k26 k27 k28 k29 k30 k31 k32 k33 k34 k35 k36 k37 k38 k39 k40 k41 k42 k43 k44 k45 k46 k47 k48 k49 k50 k51 k52 k53 k54 k55 k56 k57 k58 k59 k60 k61 k62 k63 k64 k65 k66 k67 k68 k69 k70 k71 k72 k73 k74 k75 k76 k77 k78 k79 k80 k81 k82 k83 k84 k85 k86 k87 k88 k89 k90 k91 k92 k93 k94 k95 k96 k97 k98 k99 k100 k101 k102 k103 k104 k105 k106 k107 : Int} (hM : 1 ≤ M) (hI : 1 ≤ I) (hT : T + 1 ≤ 2147483648) (hX : -9000000000 ≤ X ∧ X ≤ 9000000000) (hY : -9000000000 ≤ Y ∧ Y ≤ 9000000000)
    (h1 : -100000 ≤ nsZ su D a M ∧ nsZ su D a M ≤ 100000) (h2 : -100000 ≤ nsZ sw D b M ∧ nsZ sw D b M ≤ 100000) (h3 : -10000 ≤ nsZ tu S e I ∧ nsZ tu S e I ≤ 10000)
    (hM2 : M ≤ 1073741824) (hI2 : I ≤ 1073741824) (m1 : -20000000000000 ≤ 10000 * a - D * su ∧ 10000 * a - D * su ≤ 20000000000000) (m2 : -20000000000000 ≤ 10000 * b - D * sw ∧ 10000 * b - D * sw ≤ 20000000000000) (m3 : -20000000000000 ≤ 10000 * e - S * tu ∧ 10000 * e - S * tu ≤ 20000000000000) :
    g 21 [M, I, D, S, T, X, Y, C, su, sw, tu, a, b, e, k0, k1, k2, k3, k4, k5, k6, k7, k8, k9, k10, k11, k12, k13, k14, k15, k16, k17, k18, k19, k20, k21, k22, k23, k24, k25, k26, k27, k28, k29, k30, k31, k32, k33, k34, k35, k36, k37, k38, k39, k40, k41, k42, k43, k44, k45, k46, k47, k48, k49, k50, k51, k52, k53, k54, k55, k56, k57, k58, k59, k60, k61, k62, k63, k64, k65, k66, k67, k68, k69, k70, k71, k72, k73, k74, k75, k76, k77, k78, k79, k80, k81, k82, k83, k84, k85, k86, k87, k88, k89, k90, k91, k92, k93, k94, k95, k96, k97, k98, k99, k100, k101, k102, k103, k104, k105, k106, k107] = [T + 1, X + dxZ g (nsZ su D a M) (nsZ sw D b M) (hdZ C (nsZ tu S e I)), Y + dyZ g (nsZ su D a M) (nsZ sw D b M) (hdZ C (nsZ tu S e I)), (C + nsZ tu S e I) % 360000, nsZ su D a M, nsZ sw D b M, nsZ tu S e I, 0] := by
  have h := hg.2.1 [M, I, D, S, T, X, Y, C, su, sw, tu, a, b, e, k0, k1, k2, k3, k4, k5, k6, k7, k8, k9, k10, k11, k12, k13, k14, k15, k16, k17, k18, k19, k20, k21, k22, k23, k24, k25, k26, k27, k28, k29, k30, k31, k32, k33, k34, k35, k36, k37, k38, k39, k40, k41, k42, k43, k44, k45, k46, k47, k48, k49, k50, k51, k52, k53, k54, k55, k56, k57, k58, k59, k60, k61, k62, k63, k64, k65, k66, k67, k68, k69, k70, k71, k72, k73, k74, k75, k76, k77, k78, k79, k80, k81, k82, k83, k84, k85, k86, k87, k88, k89, k90, k91, k92, k93, k94, k95, k96, k97, k98, k99, k100, k101, k102, k103, k104, k105, k106, k107]
  rw [show c_step9.key = 21 from rfl, rowF_lt (by decide)] at h
  rw [h]
  have hg := en22_18 hg
  have hd := dx_bd hg (h := hdZ C (nsZ tu S e I)) h1 h2
  have hn := dx_n hg (h := hdZ C (nsZ tu S e I)) h1 h2
  have n1 : g 14 [(su + halfZ (10000 * a - D * su) M) * (g 18 [((C + (tu + halfZ (10000 * e - S * tu) I)) % 360000).tdiv 100 % 3600]).getD 0 0 - (sw + halfZ (10000 * b - D * sw) M) * (g 17 [((C + (tu + halfZ (10000 * e - S * tu) I)) % 360000).tdiv 100 % 3600]).getD 0 0, 10000] = [dxZ g (nsZ su D a M) (nsZ sw D b M) (hdZ C (nsZ tu S e I))] := g14 hg (by decide) (by decide) ⟨Int.le_trans (by decide) hn.1.1, Int.le_trans hn.1.2 (by decide)⟩
  have n2 : g 14 [(su + halfZ (10000 * a - D * su) M) * (g 17 [((C + (tu + halfZ (10000 * e - S * tu) I)) % 360000).tdiv 100 % 3600]).getD 0 0 + (sw + halfZ (10000 * b - D * sw) M) * (g 18 [((C + (tu + halfZ (10000 * e - S * tu) I)) % 360000).tdiv 100 % 3600]).getD 0 0, 10000] = [dyZ g (nsZ su D a M) (nsZ sw D b M) (hdZ C (nsZ tu S e I))] := g14 hg (by decide) (by decide) ⟨Int.le_trans (by decide) hn.2.1, Int.le_trans hn.2.2 (by decide)⟩
  simp only [t_step9, Ev.runT, List.map_cons, List.map_nil, denB, den, List.getD_cons_succ, List.getD_cons_zero, List.cons_append, List.nil_append, rowF_lt (show 19 < 900 by decide), rowF_lt (show 20 < 900 by decide), rowF_lt (show 13 < 900 by decide), rowF_lt (show 14 < 900 by decide), rowF_lt (show 15 < 900 by decide), rowF_lt (show 16 < 900 by decide), rowF_lt (show 17 < 900 by decide), rowF_lt (show 18 < 900 by decide), fit1,
    g13 hg hM hM2 m1, g13 hg hM hM2 m2, g13 hg hI hI2 m3, n1, n2, g15 hg (show (1 : Int) ≤ 360000 by decide), g16 hg (show (1 : Int) ≤ 3600 by decide)]
  show (if decide (T + 1 ≤ 2147483648) = true then
    if (decide (X + dxZ g (nsZ su D a M) (nsZ sw D b M) (hdZ C (nsZ tu S e I)) < -10000000000) || decide (10000000000 < X + dxZ g (nsZ su D a M) (nsZ sw D b M) (hdZ C (nsZ tu S e I)))) = true then _ else
    if (decide (Y + dyZ g (nsZ su D a M) (nsZ sw D b M) (hdZ C (nsZ tu S e I)) < -10000000000) || decide (10000000000 < Y + dyZ g (nsZ su D a M) (nsZ sw D b M) (hdZ C (nsZ tu S e I)))) = true then _ else
    if (decide (nsZ su D a M < -100000) || decide (100000 < nsZ su D a M)) = true then _ else
    if (decide (nsZ sw D b M < -100000) || decide (100000 < nsZ sw D b M)) = true then _ else
    if (decide (nsZ tu S e I < -10000) || decide (10000 < nsZ tu S e I)) = true then _ else _ else _) = _
  rw [if_pos (decide_eq_true hT), if_neg (by simp; omega), if_neg (by simp; omega), if_neg (by simp; omega), if_neg (by simp; omega), if_neg (by simp; omega)]
  rfl
set_option maxHeartbeats 8000000 in
theorem step1_ok (hg : EnOK g l c z en22) {M I D S T X Y C su sw tu a b e k0 k1 k2 k3 k4 k5 k6 k7 k8 k9 k10 k11 : Int} (hM : 1 ≤ M) (hI : 1 ≤ I) (hT : T + 1 ≤ 2147483648) (hX : -9000000000 ≤ X ∧ X ≤ 9000000000) (hY : -9000000000 ≤ Y ∧ Y ≤ 9000000000)
    (h1 : -100000 ≤ nsZ su D a M ∧ nsZ su D a M ≤ 100000) (h2 : -100000 ≤ nsZ sw D b M ∧ nsZ sw D b M ≤ 100000) (h3 : -10000 ≤ nsZ tu S e I ∧ nsZ tu S e I ≤ 10000)
    (hM2 : M ≤ 1073741824) (hI2 : I ≤ 1073741824) (m1 : -20000000000000 ≤ 10000 * a - D * su ∧ 10000 * a - D * su ≤ 20000000000000) (m2 : -20000000000000 ≤ 10000 * b - D * sw ∧ 10000 * b - D * sw ≤ 20000000000000) (m3 : -20000000000000 ≤ 10000 * e - S * tu ∧ 10000 * e - S * tu ≤ 20000000000000) :
    g 22 [M, I, D, S, T, X, Y, C, su, sw, tu, a, b, e, k0, k1, k2, k3, k4, k5, k6, k7, k8, k9, k10, k11] = [T + 1, X + dxZ g (nsZ su D a M) (nsZ sw D b M) (hdZ C (nsZ tu S e I)), Y + dyZ g (nsZ su D a M) (nsZ sw D b M) (hdZ C (nsZ tu S e I)), (C + nsZ tu S e I) % 360000, nsZ su D a M, nsZ sw D b M, nsZ tu S e I, 0] := by
  have h := hg.1 [M, I, D, S, T, X, Y, C, su, sw, tu, a, b, e, k0, k1, k2, k3, k4, k5, k6, k7, k8, k9, k10, k11]
  rw [show c_step1.key = 22 from rfl, rowF_lt (by decide)] at h
  rw [h]
  have hg := en22_18 hg
  have hd := dx_bd hg (h := hdZ C (nsZ tu S e I)) h1 h2
  have hn := dx_n hg (h := hdZ C (nsZ tu S e I)) h1 h2
  have n1 : g 14 [(su + halfZ (10000 * a - D * su) M) * (g 18 [((C + (tu + halfZ (10000 * e - S * tu) I)) % 360000).tdiv 100 % 3600]).getD 0 0 - (sw + halfZ (10000 * b - D * sw) M) * (g 17 [((C + (tu + halfZ (10000 * e - S * tu) I)) % 360000).tdiv 100 % 3600]).getD 0 0, 10000] = [dxZ g (nsZ su D a M) (nsZ sw D b M) (hdZ C (nsZ tu S e I))] := g14 hg (by decide) (by decide) ⟨Int.le_trans (by decide) hn.1.1, Int.le_trans hn.1.2 (by decide)⟩
  have n2 : g 14 [(su + halfZ (10000 * a - D * su) M) * (g 17 [((C + (tu + halfZ (10000 * e - S * tu) I)) % 360000).tdiv 100 % 3600]).getD 0 0 + (sw + halfZ (10000 * b - D * sw) M) * (g 18 [((C + (tu + halfZ (10000 * e - S * tu) I)) % 360000).tdiv 100 % 3600]).getD 0 0, 10000] = [dyZ g (nsZ su D a M) (nsZ sw D b M) (hdZ C (nsZ tu S e I))] := g14 hg (by decide) (by decide) ⟨Int.le_trans (by decide) hn.2.1, Int.le_trans hn.2.2 (by decide)⟩
  simp only [t_step1, Ev.runT, List.map_cons, List.map_nil, denB, den, List.getD_cons_succ, List.getD_cons_zero, List.cons_append, List.nil_append, rowF_lt (show 19 < 900 by decide), rowF_lt (show 20 < 900 by decide), rowF_lt (show 13 < 900 by decide), rowF_lt (show 14 < 900 by decide), rowF_lt (show 15 < 900 by decide), rowF_lt (show 16 < 900 by decide), rowF_lt (show 17 < 900 by decide), rowF_lt (show 18 < 900 by decide), fit1,
    g13 hg hM hM2 m1, g13 hg hM hM2 m2, g13 hg hI hI2 m3, n1, n2, g15 hg (show (1 : Int) ≤ 360000 by decide), g16 hg (show (1 : Int) ≤ 3600 by decide)]
  show (if decide (T + 1 ≤ 2147483648) = true then
    if (decide (X + dxZ g (nsZ su D a M) (nsZ sw D b M) (hdZ C (nsZ tu S e I)) < -10000000000) || decide (10000000000 < X + dxZ g (nsZ su D a M) (nsZ sw D b M) (hdZ C (nsZ tu S e I)))) = true then _ else
    if (decide (Y + dyZ g (nsZ su D a M) (nsZ sw D b M) (hdZ C (nsZ tu S e I)) < -10000000000) || decide (10000000000 < Y + dyZ g (nsZ su D a M) (nsZ sw D b M) (hdZ C (nsZ tu S e I)))) = true then _ else
    if (decide (nsZ su D a M < -100000) || decide (100000 < nsZ su D a M)) = true then _ else
    if (decide (nsZ sw D b M < -100000) || decide (100000 < nsZ sw D b M)) = true then _ else
    if (decide (nsZ tu S e I < -10000) || decide (10000 < nsZ tu S e I)) = true then _ else _ else _) = _
  rw [if_pos (decide_eq_true hT), if_neg (by simp; omega), if_neg (by simp; omega), if_neg (by simp; omega), if_neg (by simp; omega), if_neg (by simp; omega)]
  rfl
end
end Go.Proofs.Ytnnnmdmniceenaa
