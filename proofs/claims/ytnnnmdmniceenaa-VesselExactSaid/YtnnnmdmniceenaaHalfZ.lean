/- The quotient rounded half up: plain. -/
import Derived.Test.YtnnnmdmniceenaaPlain
set_option linter.unusedSimpArgs false
set_option linter.unusedVariables false
namespace Go.Proofs.Ytnnnmdmniceenaa
/-- The quotient, rounded half up. -/
def halfZ (n d : Int) : Int := (2 * n + d) / (2 * d)
theorem halfZ_le {n d : Int} (hd : 0 < d) : 2 * d * halfZ n d ≤ 2 * n + d := by unfold halfZ; exact Int.mul_ediv_self_le (by omega)
theorem halfZ_gt {n d : Int} (hd : 0 < d) : 2 * n - d < 2 * d * halfZ n d := by
  unfold halfZ
  have h := Int.mul_ediv_add_emod (2 * n + d) (2 * d)
  have h2 := Int.emod_lt_of_pos (2 * n + d) (show 0 < 2 * d by omega)
  omega
/-- Such a quotient is told by its bounds. -/
theorem halfZ_of {n d q : Int} (hd : 0 < d) (h1 : 2 * d * q ≤ 2 * n + d) (h2 : 2 * n - d < 2 * d * q) : q = halfZ n d := by
  have a := halfZ_le (n := n) hd
  have b := halfZ_gt (n := n) hd
  generalize halfZ n d = r at *
  have h3 : 2 * d * (q - r) < 2 * d * 1 := by rw [Int.mul_sub]; omega
  have h4 : 2 * d * (r - q) < 2 * d * 1 := by rw [Int.mul_sub]; omega
  have := Int.lt_of_mul_lt_mul_left h3 (by omega)
  have := Int.lt_of_mul_lt_mul_left h4 (by omega)
  omega
theorem halfZ_mono {m n d : Int} (hd : 0 < d) (h : m ≤ n) : halfZ m d ≤ halfZ n d := by
  unfold halfZ; exact Int.ediv_le_ediv (by omega) (by omega)
theorem halfZ_mul {x d : Int} (hd : 0 < d) : halfZ (d * x) d = x := by
  symm
  apply halfZ_of hd
  · rw [Int.mul_assoc]; omega
  · rw [Int.mul_assoc]; omega
theorem halfZ_zero {d : Int} (hd : 0 < d) : halfZ 0 d = 0 := by have := halfZ_mul (x := 0) hd; rwa [Int.mul_zero] at this
theorem halfZ_pos {n d : Int} (hd : 0 < d) (h : 0 < halfZ n d) : 0 < n := by
  rcases Int.lt_or_le 0 n with h1 | h1
  · exact h1
  · have := halfZ_mono hd h1; rw [halfZ_zero hd] at this; omega
theorem halfZ_neg {n d : Int} (hd : 0 < d) (h : halfZ n d < 0) : n < 0 := by
  rcases Int.lt_or_le n 0 with h1 | h1
  · exact h1
  · have := halfZ_mono hd h1; rw [halfZ_zero hd] at this; omega
theorem halfZ_opp {n d : Int} (hd : 0 < d) : 0 ≤ halfZ n d + halfZ (-n) d ∧ halfZ n d + halfZ (-n) d ≤ 1 := by
  have a := halfZ_le (n := n) hd
  have b := halfZ_gt (n := n) hd
  have a' := halfZ_le (n := -n) hd
  have b' := halfZ_gt (n := -n) hd
  generalize halfZ n d = r at *
  generalize halfZ (-n) d = s at *
  have h3 : 2 * d * (r + s) < 2 * d * 2 := by rw [Int.mul_add]; omega
  have h4 : 2 * d * (-1) < 2 * d * (r + s) := by rw [Int.mul_add]; omega
  have := Int.lt_of_mul_lt_mul_left h3 (by omega)
  have := Int.lt_of_mul_lt_mul_left h4 (by omega)
  omega
theorem halfZ_lo {n d b : Int} (hd : 0 < d) (h : d * b ≤ n) : b ≤ halfZ n d := by
  have := halfZ_mono hd h; rwa [halfZ_mul hd] at this
theorem halfZ_hi {n d b : Int} (hd : 0 < d) (h : n ≤ d * b) : halfZ n d ≤ b := by
  have := halfZ_mono hd h; rwa [halfZ_mul hd] at this
end Go.Proofs.Ytnnnmdmniceenaa
