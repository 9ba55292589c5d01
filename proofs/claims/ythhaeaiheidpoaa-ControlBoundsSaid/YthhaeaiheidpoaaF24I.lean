/- The way to a place: plain laws. -/
import Derived.Test.YthhaeaiheidpoaaF24U
set_option linter.unusedSimpArgs false
set_option linter.unusedVariables false
namespace Go.Proofs.Ythhaeaiheidpoaa
open Ev
theorem mul_bd {x c : Int} (hx : -200000000 ≤ x ∧ x ≤ 200000000) (hc : -10000 ≤ c ∧ c ≤ 10000) : -2000000000000 ≤ x * c ∧ x * c ≤ 2000000000000 := by
  rcases Int.le_total 0 c with h | h
  · have a := Int.mul_le_mul_of_nonneg_right hx.2 h
    have b := Int.mul_le_mul_of_nonneg_right hx.1 h
    omega
  · have a := Int.mul_le_mul_of_nonpos_right hx.2 h
    have b := Int.mul_le_mul_of_nonpos_right hx.1 h
    omega
theorem rnd_rng {n : Int} (h : -4000000000000 ≤ n ∧ n ≤ 4000000000000) : -400000001 ≤ rndS n 10000 ∧ rndS n 10000 ≤ 400000001 := by
  unfold rndS; omega
theorem bod_rng {px py tx ty : Int} (a : Int) (h : -100000000 ≤ px ∧ px ≤ 100000000 ∧ -100000000 ≤ py ∧ py ≤ 100000000) (h' : -100000000 ≤ tx ∧ tx ≤ 100000000 ∧ -100000000 ≤ ty ∧ ty ≤ 100000000) :
    RngOK [rB, rB] [bodyA px py tx ty a, bodyR px py tx ty a] := by
  have a1 := mul_bd (x := tx - px) (by omega) (cosS_bd a)
  have a2 := mul_bd (x := ty - py) (by omega) (sinS_bd a)
  have a3 := mul_bd (x := ty - py) (by omega) (cosS_bd a)
  have a4 := mul_bd (x := tx - px) (by omega) (sinS_bd a)
  exact ⟨rnd_rng (by omega), rnd_rng (by omega), trivial⟩
end Go.Proofs.Ythhaeaiheidpoaa
