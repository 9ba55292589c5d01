/- Package arith: the plain goals of its laws on roots, shifts and rounds. -/
import Derived.Test.YtjgolgidfnbnnaaArithC
namespace Go.Proofs.Ytjgolgidfnbnnaa
theorem mulb {x y X Y : Int} (hx : 0 ≤ x) (hX : x ≤ X) (hy : 0 ≤ y) (hY : y ≤ Y) : 0 ≤ x * y ∧ x * y ≤ X * Y :=
  ⟨Int.mul_nonneg hx hy, Int.mul_le_mul hX hY hy (by omega)⟩
theorem rootE_of {n : Int} (h : 0 ≤ n) (h' : n ≤ 1000000000000000000) : rootB n = true ∧ rootE n = 0 := by
  have : rootB n = true := by simp [rootB]; omega
  exact ⟨this, by simp [rootE, this]⟩
theorem roots_goal (k j : Int) (hk : 0 ≤ k ∧ k ≤ 999999999) (hj : 0 ≤ j ∧ j ≤ 1000) : rootE (k * j) = 0 ∧ rootE (k * k) = 0 ∧ rootS (k * k) = k ∧
    rootS (k * j) * rootS (k * j) ≤ k * j ∧ k * j < (rootS (k * j) + 1) * (rootS (k * j) + 1) := by
  have m1 := mulb hk.1 hk.2 hj.1 hj.2
  have m2 := mulb hk.1 hk.2 hk.1 hk.2
  have r1 := rootE_of m1.1 (by omega)
  have r2 := rootE_of m2.1 (by omega)
  refine ⟨r1.2, r2.2, rootS_of r2.1 hk.1 (by omega) (by rw [Int.add_mul, Int.mul_add]; omega), ?_⟩
  exact (rootS_spec r1.1).2
theorem divE_of {n d : Int} (h1 : -1000000000000000000 ≤ n) (h2 : n ≤ 1000000000000000000) (h3 : 1 ≤ d) (h4 : d ≤ 1000000000) : divB n d = true ∧ divE n d = 0 := by
  have : divB n d = true := by simp [divB]; omega
  exact ⟨this, by simp [divE, this]⟩
theorem shifts_goal (n d a : Int) (hn : -1099511627776 ≤ n ∧ n ≤ 1099511627776) (hd : 1 ≤ d ∧ d ≤ 32769) (ha : -32768 ≤ a ∧ a ≤ 32767) :
    divE n d = 0 ∧ divE (n + a * d) d = 0 ∧ divE n d = 0 ∧ divE (-n) d = 0 ∧ divE (n + a * d) d = 0 ∧ divE n d = 0 ∧
    halfS (n + a * d) d = halfS n d + a ∧ upS n d = -floorS (-n) d ∧ modS (n + a * d) d = modS n d := by
  have m : -1073741824 - 32768 ≤ a * d ∧ a * d ≤ 1073741824 + 32768 := by
    constructor
    · have := Int.mul_le_mul_of_nonneg_right ha.1 (by omega : 0 ≤ d); omega
    · have := Int.mul_le_mul_of_nonneg_right ha.2 (by omega : 0 ≤ d); omega
  have r1 := divE_of (n := n) (d := d) (by omega) (by omega) hd.1 (by omega)
  have r2 := divE_of (n := n + a * d) (d := d) (by omega) (by omega) hd.1 (by omega)
  have r3 := divE_of (n := -n) (d := d) (by omega) (by omega) hd.1 (by omega)
  refine ⟨r1.2, r2.2, r1.2, r3.2, r2.2, r1.2, ?_, ?_, ?_⟩
  · simp only [halfS, r1.1, r2.1, if_true]
    have : 2 * (n + a * d) + d = (2 * n + d) + a * (2 * d) := by rw [show a * (2 * d) = 2 * (a * d) from by rw [Int.mul_left_comm]]; omega
    rw [this, Int.add_mul_ediv_right _ _ (by omega)]
  · simp only [upS, floorS, r1.1, r3.1, if_true]
  · simp only [modS, r1.1, r2.1, if_true]
    exact Int.add_mul_emod_self_right ..
theorem rounds_goal (n d : Int) (hn : -1125899906842624 ≤ n ∧ n ≤ 1125899906842624) (hd : 1 ≤ d ∧ d ≤ 65536) :
    divE n d = 0 ∧ floorS n d ≤ halfS n d ∧ halfS n d ≤ upS n d ∧ upS n d - floorS n d ≤ 1 ∧ modS n d < d ∧
    IntKind.i64.wrap (IntKind.i64.wrap (floorS n d * d) + modS n d) = n ∧ (upS n d = floorS n d ↔ modS n d = 0) ∧
    (halfS n d = floorS n d ↔ 2 * modS n d < d) := by
  have r1 := divE_of (n := n) (d := d) (by omega) (by omega) hd.1 (by omega)
  simp only [floorS, halfS, upS, modS, r1.1, if_true]
  have e := Int.mul_ediv_add_emod n d
  have p1 := Int.emod_nonneg n (by omega : d ≠ 0)
  have p2 := Int.emod_lt_of_pos n (by omega : 0 < d)
  generalize hq : n / d = q at *
  generalize hr : n % d = r at *
  have hup : -((-n) / d) = if r = 0 then q else q + 1 := by
    split
    · next h => subst h
                have : -n = (-q) * d := by rw [Int.neg_mul, Int.mul_comm q d]; omega
                rw [this, Int.mul_ediv_cancel _ (by omega)]; omega
    · next h => have : -n = (d - r) + (-q - 1) * d := by rw [Int.sub_mul, Int.neg_mul, Int.mul_comm q d]; omega
                rw [this, Int.add_mul_ediv_right _ _ (by omega), Int.ediv_eq_zero_of_lt (by omega) (by omega)]; omega
  have hhalf : (2 * n + d) / (2 * d) = if 2 * r < d then q else q + 1 := by
    split
    · next h => have : 2 * n + d = (2 * r + d) + q * (2 * d) := by rw [Int.mul_left_comm, Int.mul_comm q d]; omega
                rw [this, Int.add_mul_ediv_right _ _ (by omega), Int.ediv_eq_zero_of_lt (by omega) (by omega)]; omega
    · next h => have : 2 * n + d = (2 * r - d) + (q + 1) * (2 * d) := by rw [Int.mul_left_comm, Int.add_mul, Int.mul_comm q d]; omega
                rw [this, Int.add_mul_ediv_right _ _ (by omega), Int.ediv_eq_zero_of_lt (by omega) (by omega)]; omega
  have hw : IntKind.i64.wrap (IntKind.i64.wrap (q * d) + r) = n := by
    rw [Int.mul_comm q d, w64 (n := d * q) (by omega) (by omega), w64 (by omega) (by omega)]; exact e
  rw [hup, hhalf, hw]
  refine ⟨r1.2, ?_, ?_, ?_, p2, rfl, ?_, ?_⟩ <;> (repeat' split) <;> omega
theorem tmod_sg (a b c : Int) (hc : c ∣ b) (h : a.tmod b < 0) : a.tmod c ≤ 0 := by
  rw [← Int.tmod_tmod_of_dvd a hc]
  have := Int.tmod_nonneg c (a := -(a.tmod b)) (by omega)
  rw [Int.neg_tmod] at this; omega
theorem tmod_sg' (a b c : Int) (hc : c ∣ b) (h : 0 ≤ a.tmod b) : 0 ≤ a.tmod c := by
  rw [← Int.tmod_tmod_of_dvd a hc]
  exact Int.tmod_nonneg c h
end Go.Proofs.Ytjgolgidfnbnnaa
