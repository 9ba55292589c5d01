/- Frame and control: what their functions give, and the contracts' shapes. -/
import Derived.Test.YthhaeaiheidpoaaPlain
import Derived.Test.YthhaeaiheidpoaaArithD
set_option linter.unusedSimpArgs false
set_option linter.unusedVariables false
namespace Go.Proofs.Ythhaeaiheidpoaa
open Ev
abbrev pt : Sh := .agg [some .i64, some .i64]
abbrev rP : Int × Int := (-100000000, 100000000)
abbrev r01 : Int × Int := (0, 1)
def a3 (l : List Int) : Int := l.getD 3 0
def a4 (l : List Int) : Int := l.getD 4 0
/-- Sines. -/
def sinQ (n : Int) : Int := halfS (40000 * (n * (1800 - n))) (4050000 - n * (1800 - n))
def sinS (a : Int) : Int := if 1800 < a % 3600 then -sinQ (a % 3600 - 1800) else sinQ (a % 3600)
def cosS (a : Int) : Int := sinS (a % 3600 + 900)
def okPt (x y : Int) : Bool := decide (-100000000 ≤ x ∧ x ≤ 100000000 ∧ -100000000 ≤ y ∧ y ≤ 100000000)
def gNorm (l : List Int) : List Int := [a0 l % 3600]
def gSin (l : List Int) : List Int := [sinS (a0 l)]
def gCos (l : List Int) : List Int := [cosS (a0 l)]
def gFV (l : List Int) : List Int := [if okPt (a0 l) (a1 l) = true then 1 else 0]
def addS (a b c d : Int) : List Int := if okPt a b = true ∧ okPt c d = true ∧ okPt (a + c) (b + d) = true then [a + c, b + d, 0] else [0, 0, 1]
def subS (a b c d : Int) : List Int := if okPt a b = true ∧ okPt c d = true ∧ okPt (a - c) (b - d) = true then [a - c, b - d, 0] else [0, 0, 1]
def gAdd (l : List Int) : List Int := addS (a0 l) (a1 l) (a2 l) (a3 l)
def gSub (l : List Int) : List Int := subS (a0 l) (a1 l) (a2 l) (a3 l)
def absS (x : Int) : Int := if x < 0 then -x else x
def boxS (a b c d : Int) : Int := max (absS (a - c)) (absS (b - d))
def gBox (l : List Int) : List Int := if okPt (a0 l) (a1 l) = true ∧ okPt (a2 l) (a3 l) = true then [boxS (a0 l) (a1 l) (a2 l) (a3 l), 0] else [0, 1]
/-- The root, rounded up. -/
def upRoot (n : Int) : Int := if rootS n * rootS n < n then rootS n + 1 else rootS n
def sqS (a b c d : Int) : Int := (a - c) * (a - c) + (b - d) * (b - d)
def gDist (l : List Int) : List Int := if okPt (a0 l) (a1 l) = true ∧ okPt (a2 l) (a3 l) = true then [upRoot (sqS (a0 l) (a1 l) (a2 l) (a3 l)), 0] else [0, 1]
def turnS (x y a : Int) : List Int := if okPt x y = true then [halfS (x * cosS a - y * sinS a) 10000, halfS (x * sinS a + y * cosS a) 10000, 0] else [0, 0, 1]
def gTurn (l : List Int) : List Int := turnS (a0 l) (a1 l) (a2 l)
def gBody (l : List Int) : List Int := turnS (a0 l) (a1 l) (-(a2 l % 3600))
def cNorm : PC := { args := [i64], res := [i64], key := 10, dom := [r64], rng := [(0, 3599)] }
def cSin : PC := { args := [i64], res := [i64], key := 11, dom := [r64], rng := [(-10000, 10000)] }
def cCos : PC := { args := [i64], res := [i64], key := 12, dom := [r64], rng := [(-10000, 10000)] }
def cFV : PC := { args := [pt], res := [boolS], key := 13, dom := [r64, r64], rng := [r01] }
def cAdd : PC := { args := [pt, pt], res := [pt, i64], key := 14, dom := [r64, r64, r64, r64], rng := [rP, rP, r01] }
def cSub : PC := { args := [pt, pt], res := [pt, i64], key := 15, dom := [r64, r64, r64, r64], rng := [rP, rP, r01] }
def cBox : PC := { args := [pt, pt], res := [i64, i64], key := 16, dom := [r64, r64, r64, r64], rng := [(0, 200000000), r01] }
def cDist : PC := { args := [pt, pt], res := [i64, i64], key := 17, dom := [r64, r64, r64, r64], rng := [(0, 1000000001), r01] }
def cTurn : PC := { args := [i64, i64, i64], res := [i64, i64, i64], key := 18, dom := [r64, r64, r64], rng := [rM, rM, r01] }
def cBody : PC := { args := [i64, i64, i64], res := [i64, i64, i64], key := 19, dom := [r64, r64, r64], rng := [rM, rM, r01] }
/-- Rounding half up, without limits. -/
def rndS (n d : Int) : Int := (2 * n + d) / (2 * d)
abbrev r60 : Int × Int := (-1152921504606846976, 1152921504606846976)
abbrev r9 : Int × Int := (1, 1000000000)
def gRnd (l : List Int) : List Int := [rndS (a0 l) (a1 l)]
def cRnd : PC := { args := [i64, i64], res := [i64], key := 20, dom := [r60, r9], rng := [r60] }
def sgnS (a : Int) : Int := if 1800 ≤ a % 3600 then a % 3600 - 3600 else a % 3600
def gSgn (l : List Int) : List Int := [sgnS (a0 l)]
def cSgn : PC := { args := [i64], res := [i64], key := 21, dom := [r64], rng := [(-1800, 1799)] }
def bodyA (px py tx ty a : Int) : Int := rndS ((tx - px) * cosS a + (ty - py) * sinS a) 10000
def bodyR (px py tx ty a : Int) : Int := rndS ((ty - py) * cosS a - (tx - px) * sinS a) 10000
def bodyS (px py tx ty a : Int) : List Int := if okPt px py = true ∧ okPt tx ty = true ∧ 0 ≤ a ∧ a < 3600 then [bodyA px py tx ty a, bodyR px py tx ty a] else [0, 0]
def gBod (l : List Int) : List Int := bodyS (a0 l) (a1 l) (a2 l) (a3 l) (a4 l)
abbrev rB : Int × Int := (-400000001, 400000001)
def cBod : PC := { args := [pt, pt, i64], res := [i64, i64], key := 22, dom := [r64, r64, r64, r64, r64], rng := [rB, rB] }
def cutS (x m : Int) : Int := max (-m) (min x m)
/-! ### Plain laws of remainders and quotients -/
theorem i64w {n : Int} (h1 : -9223372036854775808 ≤ n) (h2 : n ≤ 9223372036854775807) : IntKind.i64.wrap n = n := Go.IntWalk.i64_in n ⟨h1, h2⟩
theorem tmod_neg {x d : Int} (hd : 1 ≤ d) (h : x.tmod d < 0) : x.tmod d + d = x % d := by
  have h1 := Int.mul_tdiv_add_tmod x d
  have h2 := Int.mul_ediv_add_emod x d
  have h3 := floor_neg hd h
  rw [← h3, Int.mul_sub] at h2
  omega
theorem tmod_pos {x d : Int} (hd : 1 ≤ d) (h : 0 ≤ x.tmod d) : x.tmod d = x % d := by
  have h1 := Int.mul_tdiv_add_tmod x d
  have h2 := Int.mul_ediv_add_emod x d
  have h3 := floor_nonneg hd h
  rw [← h3] at h2
  omega
theorem norm_bd (x : Int) : 0 ≤ x % 3600 ∧ x % 3600 ≤ 3599 := by omega
theorem rnd_of {x d f m : Int} (h : f * d + m = x) (h0 : 0 ≤ m) (h1 : m < d) : rndS x d = if d ≤ 2 * m then f + 1 else f := by
  have e : ∀ k : Int, (f + k) * (2 * d) = 2 * (f * d) + 2 * (k * d) := fun k => by rw [Int.add_mul, Int.mul_left_comm, Int.mul_left_comm k]
  unfold rndS
  have key : ∀ k : Int, 2 * (f * d) + 2 * (k * d) ≤ 2 * x + d → 2 * x + d < 2 * (f * d) + 2 * ((k + 1) * d) → (2 * x + d) / (2 * d) = f + k := fun k g1 g2 => by
    have l1 : f + k ≤ (2 * x + d) / (2 * d) := Int.le_ediv_of_mul_le (by omega) (by rw [e]; exact g1)
    have l2 : (2 * x + d) / (2 * d) < f + (k + 1) := Int.ediv_lt_of_lt_mul (by omega) (by rw [e]; exact g2)
    omega
  split
  · exact key 1 (by omega) (by omega)
  · have := key 0 (by omega) (by omega); omega
theorem rnd_bd {x d : Int} (h1 : -1152921504606846976 ≤ x) (h2 : x ≤ 1152921504606846976) (h3 : 1 ≤ d) : -1152921504606846976 ≤ rndS x d ∧ rndS x d ≤ 1152921504606846976 := by
  unfold rndS
  have a : -1152921504606846976 ≤ (2 * x + d) / (2 * d) := Int.le_ediv_of_mul_le (by omega) (by omega)
  have b : (2 * x + d) / (2 * d) < 1152921504606846977 := Int.ediv_lt_of_lt_mul (by omega) (by omega)
  omega
theorem sq_nn (m : Int) : 0 ≤ m * m := by
  rcases Int.le_total 0 m with h | h
  · exact Int.mul_nonneg h h
  · have := Int.mul_nonneg (show 0 ≤ -m by omega) (show 0 ≤ -m by omega)
    rwa [Int.neg_mul_neg] at this
theorem sinP_bd {n : Int} (h0 : 0 ≤ n) (h1 : n ≤ 1800) : 0 ≤ n * (1800 - n) ∧ n * (1800 - n) ≤ 810000 := by
  refine ⟨Int.mul_nonneg h0 (by omega), ?_⟩
  have := sq_nn (n - 900)
  rw [Int.sub_mul, Int.mul_sub, Int.mul_sub] at this
  rw [Int.mul_sub]
  omega
theorem sinQ_bd {n : Int} (h0 : 0 ≤ n) (h1 : n ≤ 1800) : 0 ≤ sinQ n ∧ sinQ n ≤ 10000 := by
  obtain ⟨b1, b2⟩ := sinP_bd h0 h1
  unfold sinQ
  generalize n * (1800 - n) = p at *
  unfold halfS
  rw [if_pos (divB_mk (by omega) (by omega) (by omega) (by omega))]
  have a : 0 ≤ (2 * (40000 * p) + (4050000 - p)) / (2 * (4050000 - p)) := Int.le_ediv_of_mul_le (by omega) (by omega)
  have b : (2 * (40000 * p) + (4050000 - p)) / (2 * (4050000 - p)) < 10001 := Int.ediv_lt_of_lt_mul (by omega) (by omega)
  omega
theorem sinS_bd (a : Int) : -10000 ≤ sinS a ∧ sinS a ≤ 10000 := by
  unfold sinS
  split
  · have := sinQ_bd (n := a % 3600 - 1800) (by omega) (by omega); omega
  · have := sinQ_bd (n := a % 3600) (by omega) (by omega); omega
theorem cosS_bd (a : Int) : -10000 ≤ cosS a ∧ cosS a ≤ 10000 := sinS_bd _
theorem mxE (a b : Int) : (if a < b then b else a) = max a b := by split <;> omega
theorem mnE (a b : Int) : (if b < a then b else a) = min a b := by split <;> omega
theorem i64i (n : Int) : (-9223372036854775808 ≤ n ∧ n ≤ 9223372036854775807) → IntKind.i64.wrap n = n := fun h => i64w h.1 h.2
theorem sq_le {m b : Int} (h1 : -b ≤ m) (h2 : m ≤ b) : m * m ≤ b * b := by
  rcases Int.le_total 0 m with h | h
  · exact Int.mul_le_mul h2 h2 h (by omega)
  · have := Int.mul_le_mul (show -m ≤ b by omega) (show -m ≤ b by omega) (by omega) (by omega)
    rwa [Int.neg_mul_neg] at this
theorem sqS_bd {a b c d : Int} (h : -100000000 ≤ a ∧ a ≤ 100000000 ∧ -100000000 ≤ b ∧ b ≤ 100000000) (h' : -100000000 ≤ c ∧ c ≤ 100000000 ∧ -100000000 ≤ d ∧ d ≤ 100000000) : 0 ≤ sqS a b c d ∧ sqS a b c d ≤ 80000000000000000 := by
  have n0 := sq_nn (a - c)
  have n1 := sq_nn (b - d)
  have m0 := sq_le (m := a - c) (b := 200000000) (by omega) (by omega)
  have m1 := sq_le (m := b - d) (b := 200000000) (by omega) (by omega)
  unfold sqS
  omega
theorem rootE_sq {a b c d : Int} (h : -100000000 ≤ a ∧ a ≤ 100000000 ∧ -100000000 ≤ b ∧ b ≤ 100000000) (h' : -100000000 ≤ c ∧ c ≤ 100000000 ∧ -100000000 ≤ d ∧ d ≤ 100000000) : rootE (sqS a b c d) = 0 := by
  have := sqS_bd h h'
  unfold rootE
  rw [if_pos]
  simp [rootB]; omega
end Go.Proofs.Ythhaeaiheidpoaa
