/- A monitor: what is valid, what a step and a tick give, and the contracts' shapes. -/
import Derived.Test.YtejklpbiieofoaaPlain
import Derived.Test.YtejklpbiieofoaaArithD
set_option linter.unusedSimpArgs false
set_option linter.unusedVariables false
namespace Go.Proofs.Ytejklpbiieofoaa
open Ev
abbrev r01 : Int × Int := (0, 1)
abbrev rT : Int × Int := (0, 2147483648)
abbrev rP : Int × Int := (-100000000, 100000000)
abbrev rE : Int × Int := (0, 100000)
abbrev ptOK (x y : Int) : Prop := -100000000 ≤ x ∧ x ≤ 100000000 ∧ -100000000 ≤ y ∧ y ≤ 100000000
abbrev refOK (c s st fr : Int) : Prop := (0 ≤ c ∧ c ≤ 7) ∧ (0 ≤ s ∧ s ≤ 1000) ∧ (1 ≤ st ∧ st ≤ 600) ∧ 0 ≤ fr ∧ fr ≤ 600
abbrev fixOK (t x y e : Int) : Prop := (0 ≤ t ∧ t ≤ 2147483648) ∧ ptOK x y ∧ 1 ≤ e ∧ e ≤ 100000
abbrev trkOK (lt lx ly le gt gx gy ge se sm : Int) : Prop := se = 0 ∨ (fixOK lt lx ly le ∧ fixOK gt gx gy ge ∧ 1 ≤ sm ∧ sm ≤ 2147483648)
def absM (x : Int) : Int := max x (-x)
def boxM (a b c d : Int) : Int := max (absM (a - c)) (absM (b - d))
abbrev rf : Sh := .agg [some .i64, some .i64, some .i64, some .i64]
abbrev trk : Sh := .agg [some .i64, some .i64, some .i64, some .i64, some .i64, some .i64, some .i64, some .i64, none, some .i64, some .i64]
def zTrk (e : Int) : List Int := [0, 0, 0, 0, 0, 0, 0, 0, 0, 0, 0, e]
def sameS (lx ly sm x y : Int) : Int := if lx = x ∧ ly = y then sm + 1 else 1
def jmpS (s gt gx gy ge t x y e : Int) : Prop := s * (t - gt) + ge + e < boxM gx gy x y
instance (s gt gx gy ge t x y e : Int) : Decidable (jmpS s gt gx gy ge t x y e) := by unfold jmpS; infer_instance
/-- A step of a monitor. -/
def stepS (c s st fr lt lx ly le gt gx gy ge se sm sta t x y e : Int) : List Int :=
  if refOK c s st fr ∧ fixOK t x y e ∧ trkOK lt lx ly le gt gx gy ge se sm then
    if se = 0 then [t, x, y, e, t, x, y, e, 1, 1, 1, 0]
    else if t ≤ lt then zTrk 16
    else if jmpS s gt gx gy ge t x y e then [t, x, y, e, gt, gx, gy, ge, 1, sameS lx ly sm x y, 4, 0]
    else if fr ≠ 0 ∧ fr ≤ sameS lx ly sm x y then [t, x, y, e, gt, gx, gy, ge, 1, sameS lx ly sm x y, 3, 0]
    else [t, x, y, e, t, x, y, e, 1, sameS lx ly sm x y, 1, 0]
  else zTrk 1
/-- Time that passes. -/
def tickS (c s st fr lt lx ly le gt gx gy ge se sm sta t : Int) : List Int :=
  if refOK c s st fr ∧ (0 ≤ t ∧ t ≤ 2147483648) ∧ trkOK lt lx ly le gt gx gy ge se sm then
    if se ≠ 0 ∧ t < lt then zTrk 16
    else if se ≠ 0 ∧ st ≤ t - lt then [lt, lx, ly, le, gt, gx, gy, ge, se, sm, 2, 0]
    else [lt, lx, ly, le, gt, gx, gy, ge, se, sm, sta, 0]
  else zTrk 1
def gStep (l : List Int) : List Int := stepS (l.getD 0 0) (l.getD 1 0) (l.getD 2 0) (l.getD 3 0) (l.getD 4 0) (l.getD 5 0) (l.getD 6 0) (l.getD 7 0) (l.getD 8 0) (l.getD 9 0) (l.getD 10 0) (l.getD 11 0) (l.getD 12 0) (l.getD 13 0) (l.getD 14 0) (l.getD 15 0) (l.getD 16 0) (l.getD 17 0) (l.getD 18 0)
def gTick (l : List Int) : List Int := tickS (l.getD 0 0) (l.getD 1 0) (l.getD 2 0) (l.getD 3 0) (l.getD 4 0) (l.getD 5 0) (l.getD 6 0) (l.getD 7 0) (l.getD 8 0) (l.getD 9 0) (l.getD 10 0) (l.getD 11 0) (l.getD 12 0) (l.getD 13 0) (l.getD 14 0) (l.getD 15 0)
def cStep : PC := { args := [rf, trk, rf], res := [trk, i64], key := 30, dom := [r64, r64, r64, r64, r64, r64, r64, r64, r64, r64, r64, r64, r01, r64, r64, r64, r64, r64, r64],
                    rng := [rT, rP, rP, rE, rT, rP, rP, rE, r01, (0, 2147483649), (0, 4), (0, 16)] }
def cTick : PC := { args := [rf, trk, i64], res := [trk, i64], key := 31, dom := [r64, r64, r64, r64, r64, r64, r64, r64, r64, r64, r64, r64, r01, r64, r64, r64],
                    rng := [r64, r64, r64, r64, r64, r64, r64, r64, r01, r64, r64, (0, 16)] }
theorem same_bd {lx ly sm x y : Int} (h : 1 ≤ sm ∧ sm ≤ 2147483648) : 1 ≤ sameS lx ly sm x y ∧ sameS lx ly sm x y ≤ 2147483649 := by unfold sameS; split <;> omega
theorem step_rng (c s st fr lt lx ly le gt gx gy ge se sm sta t x y e : Int) : RngOK cStep.rng (stepS c s st fr lt lx ly le gt gx gy ge se sm sta t x y e) := by
  unfold stepS
  split
  · rename_i h
    split
    · simp [RngOK, cStep]; omega
    · split
      · simp [RngOK, cStep, zTrk]
      · have := same_bd (lx := lx) (ly := ly) (sm := sm) (x := x) (y := y) (by omega)
        split
        · simp [RngOK, cStep]; omega
        · split
          · simp [RngOK, cStep]; omega
          · simp [RngOK, cStep]; omega
  · simp [RngOK, cStep, zTrk]
def zTrkV (e : Int) : SV := .tup [(.agg [(.int .i64 (.lit 0)), (.int .i64 (.lit 0)), (.int .i64 (.lit 0)), (.int .i64 (.lit 0)), (.int .i64 (.lit 0)), (.int .i64 (.lit 0)), (.int .i64 (.lit 0)), (.int .i64 (.lit 0)), (.bool (.lit false)), (.int .i64 (.lit 0)), (.int .i64 (.lit 0))]), (.int .i64 (.lit e))]
theorem zTrk_ok {l : List Int} {e : Int} (h : l = zTrk e) (ρ : List Int) : LVal (retV cStep.res l) ρ (zTrkV e, [], []) := by
  subst h
  intro η
  simp [zTrkV, zTrk, cStep, denV, denL, denB, den, retV, shsV, shV, cellV, cellsV, Sh.w]
theorem mxE' (a b : Int) : (if a < b then b else a) = max a b := by split <;> omega
theorem mnE' (a b : Int) : (if b < a then b else a) = min a b := by split <;> omega
theorem min_lt' (a b c : Int) : min a b < c ↔ a < c ∨ b < c := by omega
theorem lt_max' (a b c : Int) : c < max a b ↔ c < a ∨ c < b := by omega
theorem same_cases (lx ly sm x y : Int) : (lx = x ∧ ly = y ∧ sameS lx ly sm x y = sm + 1) ∨ (¬ (lx = x ∧ ly = y) ∧ sameS lx ly sm x y = 1) := by
  unfold sameS; split
  · rename_i h; exact .inl ⟨h.1, h.2, rfl⟩
  · rename_i h; exact .inr ⟨h, rfl⟩
theorem step_cases (c s st fr lt lx ly le gt gx gy ge se sm sta t x y e : Int) :
    (¬ (refOK c s st fr ∧ fixOK t x y e ∧ trkOK lt lx ly le gt gx gy ge se sm) ∧ stepS c s st fr lt lx ly le gt gx gy ge se sm sta t x y e = zTrk 1) ∨
    ((refOK c s st fr ∧ fixOK t x y e ∧ trkOK lt lx ly le gt gx gy ge se sm) ∧
      ((se = 0 ∧ stepS c s st fr lt lx ly le gt gx gy ge se sm sta t x y e = [t, x, y, e, t, x, y, e, 1, 1, 1, 0]) ∨
       (se ≠ 0 ∧ t ≤ lt ∧ stepS c s st fr lt lx ly le gt gx gy ge se sm sta t x y e = zTrk 16) ∨
       (se ≠ 0 ∧ lt < t ∧ s * (t - gt) + ge + e < max (max (gx - x) (x - gx)) (max (gy - y) (y - gy)) ∧ stepS c s st fr lt lx ly le gt gx gy ge se sm sta t x y e = [t, x, y, e, gt, gx, gy, ge, 1, sameS lx ly sm x y, 4, 0]) ∨
       (se ≠ 0 ∧ lt < t ∧ max (max (gx - x) (x - gx)) (max (gy - y) (y - gy)) ≤ s * (t - gt) + ge + e ∧ fr ≠ 0 ∧ fr ≤ sameS lx ly sm x y ∧ stepS c s st fr lt lx ly le gt gx gy ge se sm sta t x y e = [t, x, y, e, gt, gx, gy, ge, 1, sameS lx ly sm x y, 3, 0]) ∨
       (se ≠ 0 ∧ lt < t ∧ max (max (gx - x) (x - gx)) (max (gy - y) (y - gy)) ≤ s * (t - gt) + ge + e ∧ (fr = 0 ∨ sameS lx ly sm x y < fr) ∧ stepS c s st fr lt lx ly le gt gx gy ge se sm sta t x y e = [t, x, y, e, t, x, y, e, 1, sameS lx ly sm x y, 1, 0]))) := by
  have hb : boxM gx gy x y = max (max (gx - x) (x - gx)) (max (gy - y) (y - gy)) := by unfold boxM absM; omega
  by_cases h : refOK c s st fr ∧ fixOK t x y e ∧ trkOK lt lx ly le gt gx gy ge se sm
  · refine .inr ⟨h, ?_⟩
    unfold stepS
    rw [if_pos h]
    by_cases h1 : se = 0
    · exact .inl ⟨h1, by rw [if_pos h1]⟩
    · rw [if_neg h1]
      by_cases h2 : t ≤ lt
      · exact .inr (.inl ⟨h1, h2, by rw [if_pos h2]⟩)
      · rw [if_neg h2]
        by_cases h3 : jmpS s gt gx gy ge t x y e
        · refine .inr (.inr (.inl ⟨h1, by omega, ?_, by rw [if_pos h3]⟩))
          unfold jmpS at h3; rw [← hb]; exact h3
        · rw [if_neg h3]
          have h3' : max (max (gx - x) (x - gx)) (max (gy - y) (y - gy)) ≤ s * (t - gt) + ge + e := by unfold jmpS at h3; rw [← hb]; exact Int.not_lt.1 h3
          by_cases h4 : fr ≠ 0 ∧ fr ≤ sameS lx ly sm x y
          · exact .inr (.inr (.inr (.inl ⟨h1, by omega, h3', h4.1, h4.2, by rw [if_pos h4]⟩)))
          · exact .inr (.inr (.inr (.inr ⟨h1, by omega, h3', by omega, by rw [if_neg h4]⟩)))
  · exact .inl ⟨h, by unfold stepS; rw [if_neg h]⟩
theorem tick_cases (c s st fr lt lx ly le gt gx gy ge se sm sta t : Int) :
    (¬ (refOK c s st fr ∧ (0 ≤ t ∧ t ≤ 2147483648) ∧ trkOK lt lx ly le gt gx gy ge se sm) ∧ tickS c s st fr lt lx ly le gt gx gy ge se sm sta t = zTrk 1) ∨
    ((refOK c s st fr ∧ (0 ≤ t ∧ t ≤ 2147483648) ∧ trkOK lt lx ly le gt gx gy ge se sm) ∧
      ((se ≠ 0 ∧ t < lt ∧ tickS c s st fr lt lx ly le gt gx gy ge se sm sta t = zTrk 16) ∨
       (se ≠ 0 ∧ lt ≤ t ∧ st ≤ t - lt ∧ tickS c s st fr lt lx ly le gt gx gy ge se sm sta t = [lt, lx, ly, le, gt, gx, gy, ge, se, sm, 2, 0]) ∨
       ((se = 0 ∨ lt ≤ t ∧ t - lt < st) ∧ tickS c s st fr lt lx ly le gt gx gy ge se sm sta t = [lt, lx, ly, le, gt, gx, gy, ge, se, sm, sta, 0]))) := by
  by_cases h : refOK c s st fr ∧ (0 ≤ t ∧ t ≤ 2147483648) ∧ trkOK lt lx ly le gt gx gy ge se sm
  · refine .inr ⟨h, ?_⟩
    unfold tickS
    rw [if_pos h]
    by_cases h1 : se ≠ 0 ∧ t < lt
    · exact .inl ⟨h1.1, h1.2, by rw [if_pos h1]⟩
    · rw [if_neg h1]
      by_cases h2 : se ≠ 0 ∧ st ≤ t - lt
      · exact .inr (.inl ⟨h2.1, by omega, h2.2, by rw [if_pos h2]⟩)
      · exact .inr (.inr ⟨by omega, by rw [if_neg h2]⟩)
  · exact .inl ⟨h, by unfold tickS; rw [if_neg h]⟩
theorem tick_rng (c s st fr lt lx ly le gt gx gy ge se sm sta t : Int) (h : (-9223372036854775808 ≤ lt ∧ lt ≤ 9223372036854775807) ∧ (-9223372036854775808 ≤ lx ∧ lx ≤ 9223372036854775807) ∧ (-9223372036854775808 ≤ ly ∧ ly ≤ 9223372036854775807) ∧ (-9223372036854775808 ≤ le ∧ le ≤ 9223372036854775807) ∧
    (-9223372036854775808 ≤ gt ∧ gt ≤ 9223372036854775807) ∧ (-9223372036854775808 ≤ gx ∧ gx ≤ 9223372036854775807) ∧ (-9223372036854775808 ≤ gy ∧ gy ≤ 9223372036854775807) ∧ (-9223372036854775808 ≤ ge ∧ ge ≤ 9223372036854775807) ∧ (0 ≤ se ∧ se ≤ 1) ∧
    (-9223372036854775808 ≤ sm ∧ sm ≤ 9223372036854775807) ∧ -9223372036854775808 ≤ sta ∧ sta ≤ 9223372036854775807) : RngOK cTick.rng (tickS c s st fr lt lx ly le gt gx gy ge se sm sta t) := by
  unfold tickS
  split
  · split
    · simp [RngOK, cTick, zTrk]
    · split
      · simp [RngOK, cTick]; omega
      · simp [RngOK, cTick]; omega
  · simp [RngOK, cTick, zTrk]
/-- What the contracts' names stand for. -/
def m07F : Nat → List Int → List Int
  | 7 => gSane | 30 => gStep | 31 => gTick
  | _ => fun _ => []
theorem fit12 (a b c d e f g h i j k l : Int) : fit 12 [a, b, c, d, e, f, g, h, i, j, k, l] = [a, b, c, d, e, f, g, h, i, j, k, l] := rfl
end Go.Proofs.Ytejklpbiieofoaa
