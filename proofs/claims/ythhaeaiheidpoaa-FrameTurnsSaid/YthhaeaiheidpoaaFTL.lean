/- A turn and its opposite: plain laws. -/
import Derived.Test.YthhaeaiheidpoaaF24D
import Derived.KernelRfl
set_option linter.unusedSimpArgs false
set_option linter.unusedVariables false
namespace Go.Proofs.Ythhaeaiheidpoaa
def trigOK (n : Nat) : Bool := decide (-500000 ≤ cosS n * cosS n + sinS n * sinS n - 100000000 ∧ cosS n * cosS n + sinS n * sinS n - 100000000 ≤ 500000) && decide (sinS (-(n : Int)) = -sinS n) && decide (cosS (-(n : Int)) = cosS n)
theorem trig_all : (List.range 3600).all trigOK = true := by kernel_rfl
theorem sinS_mod (a : Int) : sinS (a % 3600) = sinS a := by unfold sinS; rw [Int.emod_emod_of_dvd a (Int.dvd_refl 3600)]
theorem cosS_mod (a : Int) : cosS (a % 3600) = cosS a := by unfold cosS; rw [Int.emod_emod_of_dvd a (Int.dvd_refl 3600)]
theorem sinS_eqv {a b : Int} (h : a % 3600 = b % 3600) : sinS a = sinS b := by rw [← sinS_mod a, h, sinS_mod]
theorem cosS_eqv {a b : Int} (h : a % 3600 = b % 3600) : cosS a = cosS b := by rw [← cosS_mod a, h, cosS_mod]
theorem trig (a : Int) : (-500000 ≤ cosS a * cosS a + sinS a * sinS a - 100000000 ∧ cosS a * cosS a + sinS a * sinS a - 100000000 ≤ 500000) ∧ sinS (-a) = -sinS a ∧ cosS (-a) = cosS a := by
  have hn : (a % 3600).toNat < 3600 := by omega
  have hc : (((a % 3600).toNat : Nat) : Int) = a % 3600 := by omega
  have h := List.all_eq_true.1 trig_all (a % 3600).toNat (List.mem_range.2 hn)
  unfold trigOK at h
  simp only [Bool.and_eq_true, decide_eq_true_eq] at h
  rw [hc, sinS_mod, cosS_mod] at h
  refine ⟨h.1.1, ?_, ?_⟩
  · rw [← h.1.2]; exact sinS_eqv (by omega)
  · rw [← h.2]; exact cosS_eqv (by omega)
theorem half_er (n : Int) (h1 : -1000000000000000000 ≤ n) (h2 : n ≤ 1000000000000000000) : ∃ r, halfS n 10000 * 10000 = n + r ∧ -5000 ≤ r ∧ r ≤ 5000 := by
  unfold halfS
  rw [if_pos (divB_mk h1 h2 (by omega) (by omega))]
  refine ⟨(2 * n + 10000) / (2 * 10000) * 10000 - n, by omega, ?_, ?_⟩ <;> omega
theorem mul_bd2 {x c X : Int} (hx : -X ≤ x ∧ x ≤ X) (hc : -10000 ≤ c ∧ c ≤ 10000) : -(X * 10000) ≤ x * c ∧ x * c ≤ X * 10000 := by
  rcases Int.le_total 0 c with h | h
  · have a := Int.mul_le_mul_of_nonneg_right hx.2 h
    have b := Int.mul_le_mul_of_nonneg_right hx.1 h
    have d : X * c ≤ X * 10000 := Int.mul_le_mul_of_nonneg_left hc.2 (by omega)
    have e : -X * c = -(X * c) := Int.neg_mul _ _
    omega
  · have a := Int.mul_le_mul_of_nonpos_right hx.2 h
    have b := Int.mul_le_mul_of_nonpos_right hx.1 h
    have d : X * -10000 ≤ X * c := Int.mul_le_mul_of_nonneg_left hc.1 (by omega)
    have e : -X * c = -(X * c) := Int.neg_mul _ _
    omega
/-- The margin of a coordinate. -/
def marg (x : Int) : Int := if x < 0 then (-x).tdiv 200 + 2 else x.tdiv 200 + 2
theorem back_bd {x y C S B B' D r1 r2 r3 : Int} (hC : -10000 ≤ C ∧ C ≤ 10000) (hS : -10000 ≤ S ∧ S ≤ 10000) (hQ : -500000 ≤ C * C + S * S - 100000000 ∧ C * C + S * S - 100000000 ≤ 500000)
    (h1 : B * 10000 = x * C - y * S + r1) (h2 : B' * 10000 = x * S + y * C + r2) (h3 : D * 10000 = B * C + B' * S + r3) (b1 : -5000 ≤ r1 ∧ r1 ≤ 5000) (b2 : -5000 ≤ r2 ∧ r2 ≤ 5000) (b3 : -5000 ≤ r3 ∧ r3 ≤ 5000) :
    -marg x ≤ D - x ∧ D - x ≤ marg x := by
  have e : 100000000 * (D - x) = x * (C * C + S * S - 100000000) + r1 * C + r2 * S + 10000 * r3 := by grind
  have m1 := mul_bd2 b1 hC
  have m2 := mul_bd2 b2 hS
  generalize C * C + S * S - 100000000 = w at *
  generalize r1 * C = u1 at *
  generalize r2 * S = u2 at *
  unfold marg
  split
  · have t : (-x).tdiv 200 = (-x) / 200 := Int.tdiv_eq_ediv_of_nonneg (by omega)
    have k1 : x * w ≤ x * -500000 := Int.mul_le_mul_of_nonpos_left (by omega) (by omega)
    have k2 : x * 500000 ≤ x * w := Int.mul_le_mul_of_nonpos_left (by omega) (by omega)
    generalize x * w = z at *
    rw [t]
    omega
  · have t : x.tdiv 200 = x / 200 := Int.tdiv_eq_ediv_of_nonneg (by omega)
    have k1 : x * w ≤ x * 500000 := Int.mul_le_mul_of_nonneg_left (by omega) (by omega)
    have k2 : x * -500000 ≤ x * w := Int.mul_le_mul_of_nonneg_left (by omega) (by omega)
    generalize x * w = z at *
    rw [t]
    omega
/-- A turn, and the opposite one. -/
theorem turn_back {x y : Int} (k : Int) (hx : -50000000 ≤ x ∧ x ≤ 50000000) (hy : -50000000 ≤ y ∧ y ≤ 50000000) :
    ∃ B B' D D', turnS x y k = [B, B', 0] ∧ turnS B B' (-k) = [D, D', 0] ∧ (-marg x ≤ D - x ∧ D - x ≤ marg x) ∧ -marg y ≤ D' - y ∧ D' - y ≤ marg y := by
  have hC := cosS_bd k
  have hS := sinS_bd k
  obtain ⟨hQ, hs, hc⟩ := trig k
  have m1 := mul_bd2 hx hC
  have m2 := mul_bd2 hy hS
  have m3 := mul_bd2 hx hS
  have m4 := mul_bd2 hy hC
  obtain ⟨r1, e1, b1⟩ := half_er (x * cosS k - y * sinS k) (by omega) (by omega)
  obtain ⟨r2, e2, b2⟩ := half_er (x * sinS k + y * cosS k) (by omega) (by omega)
  have n1 : -100000000 ≤ halfS (x * cosS k - y * sinS k) 10000 ∧ halfS (x * cosS k - y * sinS k) 10000 ≤ 100000000 := by omega
  have n2 : -100000000 ≤ halfS (x * sinS k + y * cosS k) 10000 ∧ halfS (x * sinS k + y * cosS k) 10000 ≤ 100000000 := by omega
  have t1 : turnS x y k = [halfS (x * cosS k - y * sinS k) 10000, halfS (x * sinS k + y * cosS k) 10000, 0] := by
    have ok : okPt x y = true := decide_eq_true (by omega)
    unfold turnS; rw [if_pos ok]
  generalize halfS (x * cosS k - y * sinS k) 10000 = B at *
  generalize halfS (x * sinS k + y * cosS k) 10000 = B' at *
  have p1 := mul_bd2 n1 hC
  have p2 := mul_bd2 n2 hS
  have p3 := mul_bd2 n1 hS
  have p4 := mul_bd2 n2 hC
  have q1 : B * cosS (-k) - B' * sinS (-k) = B * cosS k + B' * sinS k := by rw [hc, hs, Int.mul_neg]; omega
  have q2 : B * sinS (-k) + B' * cosS (-k) = B' * cosS k - B * sinS k := by rw [hc, hs, Int.mul_neg]; omega
  have t2 : turnS B B' (-k) = [halfS (B * cosS k + B' * sinS k) 10000, halfS (B' * cosS k - B * sinS k) 10000, 0] := by
    have ok : okPt B B' = true := decide_eq_true (by omega)
    unfold turnS; rw [if_pos ok, q1, q2]
  obtain ⟨r3, e3, b3⟩ := half_er (B * cosS k + B' * sinS k) (by omega) (by omega)
  obtain ⟨r4, e4, b4⟩ := half_er (B' * cosS k - B * sinS k) (by omega) (by omega)
  refine ⟨B, B', _, _, t1, t2, back_bd hC hS hQ e1 e2 e3 b1 b2 b3, ?_⟩
  refine back_bd (x := y) (y := -x) (C := cosS k) (S := sinS k) (B := B') (B' := -B) (r1 := r2) (r2 := -r1) (r3 := r4) hC hS hQ ?_ ?_ ?_ b2 (by omega) b4
  · rw [Int.neg_mul]; omega
  · rw [Int.neg_mul, Int.neg_mul]; omega
  · rw [Int.neg_mul]; omega
end Go.Proofs.Ythhaeaiheidpoaa
