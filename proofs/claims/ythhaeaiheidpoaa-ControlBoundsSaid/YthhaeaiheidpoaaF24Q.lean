/- A controller: plain laws of what it demands. -/
import Derived.Test.YthhaeaiheidpoaaF24W
set_option linter.unusedSimpArgs false
set_option linter.unusedVariables false
namespace Go.Proofs.Ythhaeaiheidpoaa
theorem rnd0 {d : Int} (h : 1 ≤ d) : rndS 0 d = 0 := by
  unfold rndS
  exact Int.ediv_eq_zero_of_lt (by omega) (by omega)
theorem body_same (px py a : Int) : bodyA px py px py a = 0 ∧ bodyR px py px py a = 0 := by
  unfold bodyA bodyR
  rw [Int.sub_self, Int.sub_self, Int.zero_mul, Int.zero_mul]
  exact ⟨rnd0 (by omega), rnd0 (by omega)⟩
theorem body_shift (px py tx ty a x y : Int) : bodyA (px + x) (py + y) (tx + x) (ty + y) a = bodyA px py tx ty a ∧ bodyR (px + x) (py + y) (tx + x) (ty + y) a = bodyR px py tx ty a := by
  unfold bodyA bodyR
  rw [show tx + x - (px + x) = tx - px by omega, show ty + y - (py + y) = ty - py by omega]
  exact ⟨rfl, rfl⟩
theorem sgn_zero : sgnS 0 = 0 := rfl
theorem cut_zero {m : Int} (h : 0 ≤ m) : cutS 0 m = 0 := by unfold cutS; omega
theorem rnd_nn {n d : Int} (h : 0 ≤ n) (hd : 1 ≤ d) : 0 ≤ rndS n d := by unfold rndS; exact Int.ediv_nonneg (by omega) (by omega)
theorem rnd_np {n d : Int} (h : n ≤ 0) (hd : 1 ≤ d) : rndS n d ≤ 0 := by
  unfold rndS
  have : (2 * n + d) / (2 * d) < 1 := Int.ediv_lt_of_lt_mul (by omega) (by omega)
  omega
/-- No force points against its way. -/
theorem ans_sign {g s c a ms m : Int} (hg : 0 ≤ g) (hs : 0 ≤ s) (hms : 0 ≤ ms) (hm : 0 ≤ m) :
    (0 ≤ a → 0 ≤ ansS g s c a (cutS (0 + a) ms) 0 m) ∧ (a ≤ 0 → ansS g s c a (cutS (0 + a) ms) 0 m ≤ 0) := by
  unfold ansS
  rw [Int.mul_zero, Int.sub_zero, Int.zero_add]
  refine ⟨fun h => ?_, fun h => ?_⟩
  · have c1 : 0 ≤ cutS a ms := by unfold cutS; omega
    have m1 := Int.mul_nonneg hg h
    have m2 := Int.mul_nonneg hs c1
    have := rnd_nn (n := g * a + s * cutS a ms) (d := 1000) (by omega) (by omega)
    generalize rndS _ _ = r at *
    unfold cutS; omega
  · have c1 : cutS a ms ≤ 0 := by unfold cutS; omega
    have m1 := Int.mul_nonpos_of_nonneg_of_nonpos hg h
    have m2 := Int.mul_nonpos_of_nonneg_of_nonpos hs c1
    have := rnd_np (n := g * a + s * cutS a ms) (d := 1000) (by omega) (by omega)
    generalize rndS _ _ = r at *
    unfold cutS; omega
theorem dem_rest {n s c p d t ms mf my se px py hd : Int} (hg : gnsOK n s c p d t ms mf my) (hp : ptOK px py) (h0 : 0 ≤ hd) (h1 : hd < 3600) :
    demS n s c p d t ms mf my 0 0 0 px py hd se px py hd px py hd = [0, 0, 0, 0, 0, 0, px, py, hd, 1, 0] := by
  have hg' := hg
  unfold gnsOK at hg'
  rw [dem_good hg ⟨⟨by omega, by omega, by omega, hp, h0, h1⟩, hp, hp, ⟨h0, h1⟩, h0, h1⟩]
  have z : ∀ q : Int, (if q ≠ 0 then (0 : Int) else 0) = 0 := fun q => by split <;> rfl
  unfold demV ansS
  simp only [(body_same px py hd).1, (body_same px py hd).2, Int.sub_self, sgn_zero, z, Int.zero_add, cut_zero (show 0 ≤ ms by omega), Int.mul_zero, rnd0 (show (1 : Int) ≤ 1000 by omega), cut_zero (show 0 ≤ mf by omega), cut_zero (show 0 ≤ my by omega)]
/-- What is demanded, if all is moved. -/
theorem dem_shift {n s c p d t ms mf my x y h lx ly hd se px py a tx ty th u v : Int} (hg : gnsOK n s c p d t ms mf my) (hk : demOK ms x y h lx ly hd px py a tx ty th) (hk' : demOK ms x y h (lx + u) (ly + v) hd (px + u) (py + v) a (tx + u) (ty + v) th) :
    ∃ f1 f2 f3 s1 s2 s3, demS n s c p d t ms mf my x y h lx ly hd se px py a tx ty th = [f1, f2, f3, s1, s2, s3, px, py, a, 1, 0] ∧ demS n s c p d t ms mf my x y h (lx + u) (ly + v) hd se (px + u) (py + v) a (tx + u) (ty + v) th = [f1, f2, f3, s1, s2, s3, px + u, py + v, a, 1, 0] := by
  rw [dem_good hg hk, dem_good hg hk']
  unfold demV
  rw [(body_shift px py tx ty a u v).1, (body_shift px py tx ty a u v).2, (body_shift lx ly px py a u v).1, (body_shift lx ly px py a u v).2]
  exact ⟨_, _, _, _, _, _, rfl, rfl⟩
/-- The ship without sums and speeds. -/
theorem dem_direct {n s c p d t ms mf my px py a tx ty th : Int} (hg : gnsOK n s c p d t ms mf my) (hp : ptOK px py) (ht : ptOK tx ty) (ha : 0 ≤ a ∧ a < 3600) (hth : 0 ≤ th ∧ th < 3600) :
    ∃ f1 f2 f3 s1 s2 s3, demS n s c p d t ms mf my 0 0 0 0 0 0 0 px py a tx ty th = [f1, f2, f3, s1, s2, s3, px, py, a, 1, 0] ∧
      ((0 ≤ bodyA px py tx ty a → 0 ≤ f1) ∧ (bodyA px py tx ty a ≤ 0 → f1 ≤ 0)) ∧ ((0 ≤ bodyR px py tx ty a → 0 ≤ f2) ∧ (bodyR px py tx ty a ≤ 0 → f2 ≤ 0)) ∧ (0 ≤ sgnS (th - a) → 0 ≤ f3) ∧ (sgnS (th - a) ≤ 0 → f3 ≤ 0) := by
  have hg' := hg
  unfold gnsOK at hg'
  rw [dem_good hg ⟨⟨by omega, by omega, by omega, by omega, by omega, by omega⟩, hp, ht, ha, hth.1, hth.2⟩]
  have z : ∀ q : Int, (if (0 : Int) ≠ 0 then q else 0) = 0 := fun q => rfl
  unfold demV
  rw [z, z, z]
  exact ⟨_, _, _, _, _, _, rfl, ans_sign (by omega) (by omega) (by omega) (by omega), ans_sign (by omega) (by omega) (by omega) (by omega), ans_sign (by omega) (by omega) (by omega) (by omega)⟩
theorem fit11 (a b c d e f g h i j k : Int) : Ev.fit 11 [a, b, c, d, e, f, g, h, i, j, k] = [a, b, c, d, e, f, g, h, i, j, k] := rfl
theorem fit11e (l : List Int) : Ev.fit 11 l = [l.getD 0 0, l.getD 1 0, l.getD 2 0, l.getD 3 0, l.getD 4 0, l.getD 5 0, l.getD 6 0, l.getD 7 0, l.getD 8 0, l.getD 9 0, l.getD 10 0] := rfl
/-- What a keeper's demand and its sums are at most. -/
theorem dem_bound {n s c p d t ms mf my x y h lx ly hd se px py a tx ty th : Int} (hg : gnsOK n s c p d t ms mf my) (hk : demOK ms x y h lx ly hd px py a tx ty th) :
    ∃ f1 f2 f3 s1 s2 s3, demS n s c p d t ms mf my x y h lx ly hd se px py a tx ty th = [f1, f2, f3, s1, s2, s3, px, py, a, 1, 0] ∧ (-mf ≤ f1 ∧ f1 ≤ mf) ∧ (-mf ≤ f2 ∧ f2 ≤ mf) ∧ (-my ≤ f3 ∧ f3 ≤ my) ∧ (-ms ≤ s1 ∧ s1 ≤ ms) ∧ (-ms ≤ s2 ∧ s2 ≤ ms) ∧ -ms ≤ s3 ∧ s3 ≤ ms := by
  have hg' := hg
  unfold gnsOK at hg'
  rw [dem_good hg hk]
  unfold demV ansS
  exact ⟨_, _, _, _, _, _, rfl, cutS_bd (by omega), cutS_bd (by omega), cutS_bd (by omega), cutS_bd (by omega), cutS_bd (by omega), cutS_bd (by omega)⟩
end Go.Proofs.Ythhaeaiheidpoaa
