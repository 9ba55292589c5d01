/- A monitor: single steps. -/
import Derived.Test.YtejklpbiieofoaaM07D
set_option linter.unusedSimpArgs false
set_option linter.unusedVariables false
namespace Go.Proofs.Ytejklpbiieofoaa
theorem step_first {c s st fr sta t x y e : Int} (h : refOK c s st fr) (hf : fixOK t x y e) (lt lx ly le gt gx gy ge sm : Int) :
    stepS c s st fr lt lx ly le gt gx gy ge 0 sm sta t x y e = [t, x, y, e, t, x, y, e, 1, 1, 1, 0] := by
  unfold stepS; rw [if_pos ⟨h, hf, .inl rfl⟩, if_pos rfl]
theorem step_late {c s st fr lt lx ly le gt gx gy ge sm sta t x y e : Int} (h : refOK c s st fr) (hf : fixOK t x y e) (ht : trkOK lt lx ly le gt gx gy ge 1 sm) (h1 : t ≤ lt) :
    stepS c s st fr lt lx ly le gt gx gy ge 1 sm sta t x y e = zTrk 16 := by
  unfold stepS; rw [if_pos ⟨h, hf, ht⟩, if_neg (by decide), if_pos h1]
theorem boxM_eq (a b c d : Int) : boxM a b c d = max (max (a - c) (c - a)) (max (b - d) (d - b)) := by unfold boxM absM; omega
theorem step_jump {c s st fr lt lx ly le gt gx gy ge sm sta t x y e : Int} (h : refOK c s st fr) (hf : fixOK t x y e) (ht : trkOK lt lx ly le gt gx gy ge 1 sm) (h1 : lt < t)
    (h2 : s * (t - gt) + ge + e < max (max (gx - x) (x - gx)) (max (gy - y) (y - gy))) :
    stepS c s st fr lt lx ly le gt gx gy ge 1 sm sta t x y e = [t, x, y, e, gt, gx, gy, ge, 1, sameS lx ly sm x y, 4, 0] := by
  unfold stepS
  rw [if_pos ⟨h, hf, ht⟩, if_neg (by decide), if_neg (by omega), if_pos (by unfold jmpS; rw [boxM_eq]; exact h2)]
theorem step_calm {c s st fr lt lx ly le gt gx gy ge sm sta t x y e : Int} (h : refOK c s st fr) (hf : fixOK t x y e) (ht : trkOK lt lx ly le gt gx gy ge 1 sm) (h1 : lt < t)
    (h2 : max (max (gx - x) (x - gx)) (max (gy - y) (y - gy)) ≤ s * (t - gt) + ge + e) :
    stepS c s st fr lt lx ly le gt gx gy ge 1 sm sta t x y e = if fr ≠ 0 ∧ fr ≤ sameS lx ly sm x y then [t, x, y, e, gt, gx, gy, ge, 1, sameS lx ly sm x y, 3, 0] else [t, x, y, e, t, x, y, e, 1, sameS lx ly sm x y, 1, 0] := by
  unfold stepS
  rw [if_pos ⟨h, hf, ht⟩, if_neg (by decide), if_neg (by omega), if_neg (by unfold jmpS; rw [boxM_eq]; omega)]
/-- The least number of ticks for a way. -/
theorem wait_spec {d s : Int} (hd : 21 ≤ d) (hs : 1 ≤ s) : 1 ≤ (d - 20 + s - 1).tdiv s ∧ s * ((d - 20 + s - 1).tdiv s - 1) < d - 20 ∧ d - 20 ≤ s * (d - 20 + s - 1).tdiv s ∧ (d - 20 + s - 1).tdiv s ≤ d - 20 + s - 1 := by
  have e : (d - 20 + s - 1).tdiv s = (d - 20 + s - 1) / s := Int.tdiv_eq_ediv_of_nonneg (by omega)
  have h1 := Int.mul_ediv_self_le (x := d - 20 + s - 1) (k := s) (by omega)
  have h2 := Int.lt_mul_ediv_self_add (x := d - 20 + s - 1) (k := s) (by omega)
  have h3 : 1 ≤ (d - 20 + s - 1) / s := Int.le_ediv_of_mul_le (by omega) (by omega)
  have h4 : (d - 20 + s - 1) / s ≤ d - 20 + s - 1 := Int.ediv_le_self _ (by omega)
  rw [e]
  have e1 : s * ((d - 20 + s - 1) / s - 1) = s * ((d - 20 + s - 1) / s) - s := by rw [Int.mul_sub, Int.mul_one]
  refine ⟨h3, by omega, by omega, h4⟩
/-- One more equal fix. -/
theorem step_froz {st fr k g sta : Int} (h : refOK 0 1000 st fr) (hk : 2 ≤ k ∧ k ≤ 1000) (hg : 1 ≤ g ∧ g ≤ k - 1) :
    ∃ g' s', stepS 0 1000 st fr (k - 1) 7 0 5 g 7 0 5 1 (k - 1) sta k 7 0 5 = [k, 7, 0, 5, g', 7, 0, 5, 1, k, s', 0] ∧ (1 ≤ g' ∧ g' ≤ k) ∧ (s' = 3 ↔ fr ≠ 0 ∧ fr ≤ k) := by
  have hq : sameS 7 0 (k - 1) 7 0 = k := by unfold sameS; rw [if_pos ⟨rfl, rfl⟩]; omega
  rw [step_calm h (by omega) (by omega) (by omega) (by omega), hq]
  split
  · rename_i h1; exact ⟨_, _, rfl, by omega, by simp [h1]⟩
  · rename_i h1; exact ⟨_, _, rfl, by omega, by simp; omega⟩
/-- One other fix. -/
theorem step_moved {st fr g sta : Int} (h : refOK 0 1000 st fr) (hf : 1 ≤ fr) (hg : 1 ≤ g ∧ g ≤ 11) :
    ∃ gt gx gy ge s', stepS 0 1000 st fr 11 7 0 5 g 7 0 5 1 11 sta 13 8 0 5 = [13, 8, 0, 5, gt, gx, gy, ge, 1, 1, s', 0] ∧ fixOK gt gx gy ge ∧ (s' = 3 ↔ fr = 1) := by
  have hq : sameS 7 0 11 8 0 = 1 := rfl
  rw [step_calm h (by omega) (by omega) (by omega) (by omega), hq]
  split
  · rename_i h1; exact ⟨_, _, _, _, _, rfl, by omega, by simp; omega⟩
  · rename_i h1; exact ⟨_, _, _, _, _, rfl, by omega, by simp; omega⟩
theorem tick_early {c s st fr lt lx ly le gt gx gy ge sm sta t : Int} (h : refOK c s st fr) (ht : 0 ≤ t ∧ t ≤ 2147483648) (hk : trkOK lt lx ly le gt gx gy ge 1 sm) (h1 : lt ≤ t) (h2 : t - lt < st) :
    tickS c s st fr lt lx ly le gt gx gy ge 1 sm sta t = [lt, lx, ly, le, gt, gx, gy, ge, 1, sm, sta, 0] := by
  unfold tickS
  rw [if_pos ⟨h, ht, hk⟩, if_neg (by omega), if_neg (by omega)]
theorem tick_late {c s st fr lt lx ly le gt gx gy ge sm sta t : Int} (h : refOK c s st fr) (ht : 0 ≤ t ∧ t ≤ 2147483648) (hk : trkOK lt lx ly le gt gx gy ge 1 sm) (h1 : lt ≤ t) (h2 : st ≤ t - lt) :
    tickS c s st fr lt lx ly le gt gx gy ge 1 sm sta t = [lt, lx, ly, le, gt, gx, gy, ge, 1, sm, 2, 0] := by
  unfold tickS
  rw [if_pos ⟨h, ht, hk⟩, if_neg (by omega), if_pos ⟨by decide, h2⟩]
end Go.Proofs.Ytejklpbiieofoaa
