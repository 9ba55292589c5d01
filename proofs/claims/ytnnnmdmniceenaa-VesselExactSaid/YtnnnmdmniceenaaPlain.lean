/- Plain integer lemmas: no program in sight. -/
set_option linter.unusedSimpArgs false
set_option linter.unusedVariables false
namespace Go.Proofs.Ytnnnmdmniceenaa

/-- The clamped number. -/
def clampS (x lo hi : Int) : Int := max lo (min x hi)

/-- Whether a division is permitted. -/
def divB (n d : Int) : Bool := decide (-1000000000000000000 ≤ n ∧ n ≤ 1000000000000000000 ∧ 1 ≤ d ∧ d ≤ 1000000000)
def divE (n d : Int) : Int := if divB n d = true then 0 else 1
def floorS (n d : Int) : Int := if divB n d = true then n / d else 0
def halfS (n d : Int) : Int := if divB n d = true then (2 * n + d) / (2 * d) else 0
def upS (n d : Int) : Int := if divB n d = true then -((-n) / d) else 0
def modS (n d : Int) : Int := if divB n d = true then n % d else 0
def nearB (x t s : Int) : Bool := decide (s ≤ 0 ∨ 1000000000 < max (max x t) s ∨ min x t < -1000000000)
def nearS (x t s : Int) : Int := if nearB x t s = true then x else clampS t (x - s) (x + s)

theorem divB_yes {n d : Int} (h : divB n d = true) : -1000000000000000000 ≤ n ∧ n ≤ 1000000000000000000 ∧ 1 ≤ d ∧ d ≤ 1000000000 := by
  simpa [divB] using h
theorem divB_mk {n d : Int} (h1 : -1000000000000000000 ≤ n) (h2 : n ≤ 1000000000000000000) (h3 : 1 ≤ d) (h4 : d ≤ 1000000000) : divB n d = true := by
  simp [divB]; omega

/-- Go's quotient, rounded down by hand, is the floor. -/
theorem floor_neg {x d : Int} (hd : 1 ≤ d) (h : x.tmod d < 0) : x.tdiv d - 1 = x / d := by
  have h1 := Int.mul_tdiv_add_tmod x d
  have h2 := Int.mul_ediv_add_emod x d
  have h3 := Int.emod_nonneg x (show d ≠ 0 by omega)
  have h4 := Int.emod_lt_of_pos x (show 0 < d by omega)
  have h5 := Int.lt_tmod_of_pos x (show 0 < d by omega)
  generalize x.tdiv d = a at *
  generalize x / d = b at *
  have h6 : d * (a - 1 - b) < d := by rw [Int.mul_sub, Int.mul_sub]; omega
  have h7 : d * (a - 1 - b) > -d := by rw [Int.mul_sub, Int.mul_sub]; omega
  have h8 : a - 1 - b < 1 := by
    apply Int.lt_of_mul_lt_mul_left (a := d) _ (by omega); omega
  have h9 : -1 < a - 1 - b := by
    apply Int.lt_of_mul_lt_mul_left (a := d) _ (by omega); omega
  omega
theorem floor_nonneg {x d : Int} (hd : 1 ≤ d) (h : 0 ≤ x.tmod d) : x.tdiv d = x / d := by
  have h1 := Int.mul_tdiv_add_tmod x d
  have h2 := Int.mul_ediv_add_emod x d
  have h3 := Int.emod_nonneg x (show d ≠ 0 by omega)
  have h4 := Int.emod_lt_of_pos x (show 0 < d by omega)
  have h5 := Int.tmod_lt_of_pos x (show 0 < d by omega)
  generalize x.tdiv d = a at *
  generalize x / d = b at *
  have h6 : d * (a - b) < d := by rw [Int.mul_sub]; omega
  have h7 : d * (a - b) > -d := by rw [Int.mul_sub]; omega
  have h8 : a - b < 1 := by
    apply Int.lt_of_mul_lt_mul_left (a := d) _ (by omega); omega
  have h9 : -1 < a - b := by
    apply Int.lt_of_mul_lt_mul_left (a := d) _ (by omega); omega
  omega
/-- The quotient is no farther from zero than the number. -/
theorem tdiv_bd {x d M : Int} (h1 : -M ≤ x) (h2 : x ≤ M) : -M ≤ x.tdiv d ∧ x.tdiv d ≤ M := by
  have h : (x.tdiv d).natAbs ≤ x.natAbs := by rw [Int.natAbs_tdiv]; exact Nat.div_le_self _ _
  omega
theorem ediv_bd {x d M : Int} (hd : 1 ≤ d) (h1 : -M ≤ x) (h2 : x ≤ M) (hM : 0 ≤ M) : -M ≤ x / d ∧ x / d ≤ M := by
  constructor
  · apply Int.le_ediv_of_mul_le (by omega)
    have : -M * d ≤ -M * 1 := Int.mul_le_mul_of_nonpos_left (by omega) hd
    omega
  · apply Int.le_of_lt_add_one
    apply Int.ediv_lt_of_lt_mul (by omega)
    have : (M + 1) * 1 ≤ (M + 1) * d := Int.mul_le_mul_of_nonneg_left hd (by omega)
    omega

/-- The root of a natural number, rounded down. -/
def isq : Nat → Nat
  | 0 => 0
  | n + 1 => if (isq n + 1) * (isq n + 1) ≤ n + 1 then isq n + 1 else isq n
theorem isq_spec (n : Nat) : isq n * isq n ≤ n ∧ n < (isq n + 1) * (isq n + 1) := by
  induction n with
  | zero => simp [isq]
  | succ n ih =>
    simp only [isq]
    split
    · rename_i h
      refine ⟨h, ?_⟩
      have : (isq n + 1 + 1) * (isq n + 1 + 1) = (isq n + 1) * (isq n + 1) + 2 * (isq n + 1) + 1 := by
        simp [Nat.mul_add, Nat.add_mul]; omega
      omega
    · rename_i h
      exact ⟨by omega, by omega⟩
def rootB (n : Int) : Bool := decide (0 ≤ n ∧ n ≤ 1000000000000000000)
def rootE (n : Int) : Int := if rootB n = true then 0 else 1
def rootS (n : Int) : Int := if rootB n = true then (isq n.toNat : Nat) else 0
theorem sq_lt {a b : Int} (ha : 0 ≤ a) (hb : 0 ≤ b) (h : a * a < b * b) : a < b := by
  apply Int.not_le.mp
  intro hle
  have := Int.mul_le_mul hle hle hb ha
  omega
/-- What root is: unique. -/
theorem root_unique {n r s : Int} (hr : 0 ≤ r) (hs : 0 ≤ s) (h1 : r * r ≤ n) (h2 : n < (r + 1) * (r + 1)) (h3 : s * s ≤ n) (h4 : n < (s + 1) * (s + 1)) : r = s := by
  have a := sq_lt hr (by omega : 0 ≤ s + 1) (by omega)
  have b := sq_lt hs (by omega : 0 ≤ r + 1) (by omega)
  omega
theorem isq_int (n : Int) (h : 0 ≤ n) : (isq n.toNat : Int) * (isq n.toNat : Int) ≤ n ∧ n < ((isq n.toNat : Int) + 1) * ((isq n.toNat : Int) + 1) := by
  have hs := isq_spec n.toNat
  have e : ((n.toNat : Nat) : Int) = n := Int.toNat_of_nonneg h
  constructor
  · rw [← e]; simp only [Int.toNat_natCast]; exact_mod_cast hs.1
  · have : (n.toNat : Int) < (((isq n.toNat + 1) * (isq n.toNat + 1) : Nat) : Int) := by exact_mod_cast hs.2
    rw [e] at this
    simpa [Int.natCast_add, Int.natCast_mul] using this
theorem rootS_of {n r : Int} (hb : rootB n = true) (hr : 0 ≤ r) (h1 : r * r ≤ n) (h2 : n < (r + 1) * (r + 1)) : rootS n = r := by
  have hn : 0 ≤ n := by simp [rootB] at hb; omega
  have := isq_int n hn
  rw [rootS, if_pos hb]
  exact root_unique (by omega) hr this.1 this.2 h1 h2
theorem rootS_spec {n : Int} (h : rootB n = true) : 0 ≤ rootS n ∧ rootS n * rootS n ≤ n ∧ n < (rootS n + 1) * (rootS n + 1) := by
  have hn : 0 ≤ n := by simp [rootB] at h; omega
  have := isq_int n hn
  rw [rootS, if_pos h]
  exact ⟨by omega, this⟩
end Go.Proofs.Ytnnnmdmniceenaa
