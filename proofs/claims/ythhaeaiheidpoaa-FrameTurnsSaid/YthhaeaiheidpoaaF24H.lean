/- Turns: the plain goals of their contracts. -/
import Derived.Test.YthhaeaiheidpoaaF24U
set_option linter.unusedSimpArgs false
set_option linter.unusedVariables false
namespace Go.Proofs.Ythhaeaiheidpoaa
open Ev
theorem turn_goal (x y a : Int) : RngOK [rM, rM, r01] (turnS x y a) ∧
    ((100000000 < if x < y then y else x) ∨ (if y < x then y else x) < -100000000 → (0 : Int) = (turnS x y a).head?.getD 0 ∧ (0 : Int) = (turnS x y a)[1]?.getD 0 ∧ (1 : Int) = (turnS x y a)[2]?.getD 0) ∧
      ((if x < y then y else x) ≤ 100000000 → (-100000000 ≤ if y < x then y else x) →
          halfS (x * sinS (a % 3600 + 900) - y * sinS a) 10000 = (turnS x y a).head?.getD 0 ∧ halfS (x * sinS a + y * sinS (a % 3600 + 900)) 10000 = (turnS x y a)[1]?.getD 0 ∧ (0 : Int) = (turnS x y a)[2]?.getD 0) := by
  simp only [mxE, mnE]
  by_cases h1 : okPt x y = true
  · have g1 := of_decide_eq_true h1
    unfold turnS
    rw [if_pos h1]
    exact ⟨⟨(half_goal _ 10000).1.1, (half_goal _ 10000).1.1, ⟨by decide, by decide⟩, trivial⟩, fun h => by exfalso; omega, fun _ _ => ⟨rfl, rfl, rfl⟩⟩
  · have g1 : ¬ (-100000000 ≤ x ∧ x ≤ 100000000 ∧ -100000000 ≤ y ∧ y ≤ 100000000) := fun h => h1 (decide_eq_true h)
    unfold turnS
    rw [if_neg h1]
    exact ⟨⟨⟨by decide, by decide⟩, ⟨by decide, by decide⟩, ⟨by decide, by decide⟩, trivial⟩, fun _ => ⟨rfl, rfl, rfl⟩, fun _ _ => by exfalso; omega⟩
theorem turnR_goal (x y a : Int) : RngOK [rM, rM, r01] (turnS x y a) ∧
    (((x < -100000000 ∨ 100000000 < x) ∨ y < -100000000) ∨ 100000000 < y → (0 : Int) = (turnS x y a).head?.getD 0 ∧ (0 : Int) = (turnS x y a)[1]?.getD 0 ∧ (1 : Int) = (turnS x y a)[2]?.getD 0) ∧
      (-100000000 ≤ x → x ≤ 100000000 → -100000000 ≤ y → y ≤ 100000000 →
          halfS (x * sinS (a % 3600 + 900) - y * sinS a) 10000 = (turnS x y a).head?.getD 0 ∧ halfS (x * sinS a + y * sinS (a % 3600 + 900)) 10000 = (turnS x y a)[1]?.getD 0 ∧ (0 : Int) = (turnS x y a)[2]?.getD 0) := by
  by_cases h1 : okPt x y = true
  · have g1 := of_decide_eq_true h1
    unfold turnS
    rw [if_pos h1]
    exact ⟨⟨(half_goal _ 10000).1.1, (half_goal _ 10000).1.1, ⟨by decide, by decide⟩, trivial⟩, fun h => by exfalso; omega, fun _ _ _ _ => ⟨rfl, rfl, rfl⟩⟩
  · have g1 : ¬ (-100000000 ≤ x ∧ x ≤ 100000000 ∧ -100000000 ≤ y ∧ y ≤ 100000000) := fun h => h1 (decide_eq_true h)
    unfold turnS
    rw [if_neg h1]
    exact ⟨⟨⟨by decide, by decide⟩, ⟨by decide, by decide⟩, ⟨by decide, by decide⟩, trivial⟩, fun _ => ⟨rfl, rfl, rfl⟩, fun _ _ _ _ => by exfalso; omega⟩
end Go.Proofs.Ythhaeaiheidpoaa
