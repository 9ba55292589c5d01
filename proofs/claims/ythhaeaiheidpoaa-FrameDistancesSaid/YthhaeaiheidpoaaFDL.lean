/- Distances: plain laws of roots that are rounded up. -/
import Derived.Test.YthhaeaiheidpoaaF24D
namespace Go.Proofs.Ythhaeaiheidpoaa
theorem cauchy (u v s t : Int) : (u * u + v * v) * (s * s + t * t) = (u * s + v * t) * (u * s + v * t) + (u * t - v * s) * (u * t - v * s) := by grind
theorem sumsq (A C u v s t : Int) : (A + C) * (A + C) - ((u + s) * (u + s) + (v + t) * (v + t)) = (A * A - (u * u + v * v)) + (C * C - (s * s + t * t)) + 2 * (A * C - (u * s + v * t)) := by grind
theorem prodsq (A C : Int) : (A * C) * (A * C) = (A * A) * (C * C) := by grind
theorem le_of_sq {a b : Int} (hb : 0 ≤ b) (h : a * a ≤ b * b) : a ≤ b := by
  apply Int.not_lt.1
  intro hlt
  have h1 : (b + 1) * (b + 1) ≤ a * a := Int.mul_le_mul hlt hlt (by omega) (by omega)
  have h2 : (b + 1) * (b + 1) = b * b + 2 * b + 1 := by grind
  omega
theorem tri_sq {A C u v s t : Int} (hA : 0 ≤ A) (hC : 0 ≤ C) (h1 : u * u + v * v ≤ A * A) (h2 : s * s + t * t ≤ C * C) : (u + s) * (u + s) + (v + t) * (v + t) ≤ (A + C) * (A + C) := by
  have k : u * s + v * t ≤ A * C := by
    apply le_of_sq (Int.mul_nonneg hA hC)
    have c := cauchy u v s t
    have n := sq_nn (u * t - v * s)
    have m : (u * u + v * v) * (s * s + t * t) ≤ (A * A) * (C * C) := Int.mul_le_mul h1 h2 (by have := sq_nn s; have := sq_nn t; omega) (sq_nn A)
    rw [prodsq]
    omega
  have e := sumsq A C u v s t
  omega
theorem upRoot_spec {n : Int} (h0 : 0 ≤ n) (h1 : n ≤ 1000000000000000000) : 0 ≤ upRoot n ∧ n ≤ upRoot n * upRoot n ∧ ∀ b, 0 ≤ b → n ≤ b * b → upRoot n ≤ b := by
  obtain ⟨r0, r1, r2⟩ := rootS_spec (n := n) (by simp [rootB]; omega)
  unfold upRoot
  generalize rootS n = r at *
  split
  · refine ⟨by omega, by omega, fun b hb hn => ?_⟩
    have := sq_lt (a := r) (b := b) r0 hb (by omega)
    omega
  · refine ⟨r0, by omega, fun b hb hn => le_of_sq hb (by omega)⟩
theorem sq_zero {x y : Int} (h : x * x + y * y = 0) : x = 0 ∧ y = 0 := by
  have a := sq_nn x
  have b := sq_nn y
  have hx : x * x = 0 := by omega
  have hy : y * y = 0 := by omega
  exact ⟨(Int.mul_eq_zero.1 hx).elim id id, (Int.mul_eq_zero.1 hy).elim id id⟩
/-- The greater way, and its root: at most one and a half of it. -/
theorem half_sq {x y m b : Int} (hm : 0 ≤ m) (hx : -m ≤ x ∧ x ≤ m) (hy : -m ≤ y ∧ y ≤ m) (hb : 3 * m ≤ 2 * b) : x * x + y * y ≤ b * b := by
  have a1 := sq_le hx.1 hx.2
  have a2 := sq_le hy.1 hy.2
  have a3 : (3 * m) * (3 * m) ≤ (2 * b) * (2 * b) := Int.mul_le_mul hb hb (by omega) (by omega)
  have a4 : (3 * m) * (3 * m) = 9 * (m * m) := by grind
  have a5 : (2 * b) * (2 * b) = 4 * (b * b) := by grind
  have a6 := sq_nn m
  omega
end Go.Proofs.Ythhaeaiheidpoaa
