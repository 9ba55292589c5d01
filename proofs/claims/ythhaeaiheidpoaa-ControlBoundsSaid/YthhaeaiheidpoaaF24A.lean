/- Package arith and its reference: contracts. -/
import Derived.Test.YthhaeaiheidpoaaRows
import Derived.Test.YthhaeaiheidpoaaArithD
namespace Go.Proofs.Ythhaeaiheidpoaa
open Ev
set_option linter.unusedSimpArgs false
set_option linter.unusedVariables false
theorem divB_no {n d : Int} (h : ¬ divB n d = true) : n < -1000000000000000000 ∨ 1000000000000000000 < n ∨ d < 1 ∨ 1000000000 < d := by
  simp [divB] at h; omega
theorem w64 {n : Int} (h1 : -9223372036854775808 ≤ n) (h2 : n ≤ 9223372036854775807) : IntKind.i64.wrap n = n := Go.IntWalk.i64_in n ⟨h1, h2⟩
theorem floor_goal (n d : Int) : ((-1000000000000000000 ≤ floorS n d ∧ floorS n d ≤ 1000000000000000000) ∧ 0 ≤ divE n d ∧ divE n d ≤ 1) ∧
    (((n < -1000000000000000000 ∨ 1000000000000000000 < n) ∨ d < 1) ∨ 1000000000 < d → 0 = floorS n d ∧ 1 = divE n d) ∧
      (-1000000000000000000 ≤ n → n ≤ 1000000000000000000 → 1 ≤ d → d ≤ 1000000000 →
        (n.tmod d < 0 → n.tdiv d - 1 = floorS n d ∧ 0 = divE n d) ∧ (0 ≤ n.tmod d → n.tdiv d = floorS n d ∧ 0 = divE n d)) := by
  by_cases hb : divB n d = true
  · obtain ⟨h1, h2, h3, h4⟩ := divB_yes hb
    have e := ediv_bd (x := n) (M := 1000000000000000000) h3 h1 h2 (by omega)
    simp only [floorS, divE, hb, if_true]
    exact ⟨⟨e, by omega⟩, fun h => by omega, fun _ _ _ _ => ⟨fun h => ⟨floor_neg h3 h, trivial⟩, fun h => ⟨floor_nonneg h3 h, trivial⟩⟩⟩
  · have hn := divB_no hb
    simp only [floorS, divE, if_neg hb]
    exact ⟨by omega, fun _ => ⟨trivial, trivial⟩, fun h1 h2 h3 h4 => by omega⟩
theorem half_goal (n d : Int) : ((-1000000000000000000 ≤ halfS n d ∧ halfS n d ≤ 1000000000000000000) ∧ 0 ≤ divE n d ∧ divE n d ≤ 1) ∧
    (((n < -1000000000000000000 ∨ 1000000000000000000 < n) ∨ d < 1) ∨ 1000000000 < d → 0 = halfS n d ∧ 1 = divE n d) ∧
      (-1000000000000000000 ≤ n → n ≤ 1000000000000000000 → 1 ≤ d → d ≤ 1000000000 →
        ((2 * n + d).tmod (2 * d) < 0 → (2 * n + d).tdiv (2 * d) - 1 = halfS n d ∧ 0 = divE n d) ∧
        (0 ≤ (2 * n + d).tmod (2 * d) → (2 * n + d).tdiv (2 * d) = halfS n d ∧ 0 = divE n d)) := by
  by_cases hb : divB n d = true
  · obtain ⟨h1, h2, h3, h4⟩ := divB_yes hb
    have e1 : -1000000000000000000 ≤ (2 * n + d) / (2 * d) := by apply Int.le_ediv_of_mul_le <;> omega
    have e2 : (2 * n + d) / (2 * d) < 1000000000000000001 := by apply Int.ediv_lt_of_lt_mul <;> omega
    simp only [halfS, divE, hb, if_true]
    exact ⟨⟨⟨e1, by omega⟩, by omega⟩, fun h => by omega, fun _ _ _ _ => ⟨fun h => ⟨floor_neg (by omega) h, trivial⟩, fun h => ⟨floor_nonneg (by omega) h, trivial⟩⟩⟩
  · have hn := divB_no hb
    simp only [halfS, divE, if_neg hb]
    exact ⟨by omega, fun _ => ⟨trivial, trivial⟩, fun h1 h2 h3 h4 => by omega⟩
theorem up_goal (n d : Int) : ((-1000000000000000000 ≤ upS n d ∧ upS n d ≤ 1000000000000000000) ∧ 0 ≤ divE n d ∧ divE n d ≤ 1) ∧
    (((n < -1000000000000000000 ∨ 1000000000000000000 < n) ∨ d < 1) ∨ 1000000000 < d → 0 = upS n d ∧ 1 = divE n d) ∧
      (-1000000000000000000 ≤ n → n ≤ 1000000000000000000 → 1 ≤ d → d ≤ 1000000000 →
        (0 < n.tmod d → -(-n.tdiv d - 1) = upS n d ∧ 0 = divE n d) ∧ (n.tmod d ≤ 0 → n.tdiv d = upS n d ∧ 0 = divE n d)) := by
  by_cases hb : divB n d = true
  · obtain ⟨h1, h2, h3, h4⟩ := divB_yes hb
    have e := ediv_bd (x := -n) (M := 1000000000000000000) h3 (by omega) (by omega) (by omega)
    simp only [upS, divE, hb, if_true]
    refine ⟨⟨by omega, by omega⟩, fun h => by omega, fun _ _ _ _ => ⟨fun h => ⟨?_, trivial⟩, fun h => ⟨?_, trivial⟩⟩⟩
    · have := floor_neg (x := -n) h3 (by rw [Int.neg_tmod]; omega)
      rw [Int.neg_tdiv] at this; omega
    · have := floor_nonneg (x := -n) h3 (by rw [Int.neg_tmod]; omega)
      rw [Int.neg_tdiv] at this; omega
  · have hn := divB_no hb
    simp only [upS, divE, if_neg hb]
    exact ⟨by omega, fun _ => ⟨trivial, trivial⟩, fun h1 h2 h3 h4 => by omega⟩
theorem mod_goal (n d : Int) : ((0 ≤ modS n d ∧ modS n d ≤ 999999999) ∧ 0 ≤ divE n d ∧ divE n d ≤ 1) ∧
    (((n < -1000000000000000000 ∨ 1000000000000000000 < n) ∨ d < 1) ∨ 1000000000 < d → 0 = modS n d ∧ 1 = divE n d) ∧
      (-1000000000000000000 ≤ n → n ≤ 1000000000000000000 → 1 ≤ d → d ≤ 1000000000 →
        (n.tmod d < 0 → IntKind.i64.wrap (n - IntKind.i64.wrap (d * (n.tdiv d - 1))) = modS n d ∧ 0 = divE n d) ∧
        (0 ≤ n.tmod d → IntKind.i64.wrap (n - IntKind.i64.wrap (d * n.tdiv d)) = modS n d ∧ 0 = divE n d)) := by
  by_cases hb : divB n d = true
  · obtain ⟨h1, h2, h3, h4⟩ := divB_yes hb
    have a1 := Int.mul_ediv_add_emod n d
    have a2 := Int.emod_nonneg n (show d ≠ 0 by omega)
    have a3 := Int.emod_lt_of_pos n (show 0 < d by omega)
    simp only [modS, divE, hb, if_true]
    refine ⟨⟨⟨a2, by omega⟩, by omega⟩, fun h => by omega, fun _ _ _ _ => ⟨fun h => ⟨?_, trivial⟩, fun h => ⟨?_, trivial⟩⟩⟩
    · rw [floor_neg h3 h, w64 (n := d * (n / d)) (by omega) (by omega), w64 (by omega) (by omega)]; omega
    · rw [floor_nonneg h3 h, w64 (n := d * (n / d)) (by omega) (by omega), w64 (by omega) (by omega)]; omega
  · have hn := divB_no hb
    simp only [modS, divE, if_neg hb]
    exact ⟨by omega, fun _ => ⟨trivial, trivial⟩, fun h1 h2 h3 h4 => by omega⟩
theorem near_in {x y z : Int} (h0 : 0 < z) (h1 : z ≤ 1000000000) (h2 : -1000000000 ≤ x) (h3 : x ≤ 1000000000) (h4 : -1000000000 ≤ y) (h5 : y ≤ 1000000000) : nearS x y z = clampS y (x - z) (x + z) := by
  unfold nearS; rw [if_neg]; simp [nearB]; omega
theorem near_out {x y z : Int} (h : z ≤ 0 ∨ 1000000000 < z ∨ x < -1000000000 ∨ 1000000000 < x ∨ y < -1000000000 ∨ 1000000000 < y) : nearS x y z = x := by
  unfold nearS; rw [if_pos]; simp [nearB]; omega

def t_half : T Leaf :=
(.ite (.or (.or (.or (.lt (.v 0) (.lit (-1000000000000000000))) (.lt (.lit 1000000000000000000) (.v 0))) (.lt (.v 1) (.lit 1))) (.lt (.lit 1000000000) (.v 1)))
 (.leaf ((.tup [(.int .i64 (.lit 0)), (.int .i64 (.lit 1))]), [], []))
 (.ite (.lt (.rem (.add (.mul (.lit 2) (.v 0)) (.v 1)) (.mul (.lit 2) (.v 1))) (.lit 0))
  (.leaf ((.tup [(.int .i64 (.sub (.quo (.add (.mul (.lit 2) (.v 0)) (.v 1)) (.mul (.lit 2) (.v 1))) (.lit 1))), (.int .i64 (.lit 0))]), [], []))
  (.leaf ((.tup [(.int .i64 (.quo (.add (.mul (.lit 2) (.v 0)) (.v 1)) (.mul (.lit 2) (.v 1)))), (.int .i64 (.lit 0))]), [], []))
 )
)
theorem t_half_eq : evFn Try.prog noCtx 100 12 56 (shsS cHalf.args 0) [] ⟨rngE 0 cHalf.dom, []⟩ cHalf.dom.length = t_half := by kernel_rfl
theorem half_ok : PCOK Try.prog 56 cHalf gHalf := pc_of_tree noCtx_ok (Φ := noSig) rfl (fun _ => trivial) (by kernel_rfl) (by kernel_rfl) rfl t_half_eq fun xs hl hx => by
  match xs, hl with
  | [n, d], _ =>
    simp [rngE, cHalf, den] at hx
    simp [t_half, T.ok, LVal, gHalf, cHalf, RngOK, denV, denL, denB, den, retV, shsV, shV, cellV, a0, a1, a2, Sh.w]
    exact half_goal n d
def t_halfR : T Leaf :=
(.ite (.not (.and (.and (.and (.le (.lit (-1000000000000000000)) (.v 0)) (.le (.v 0) (.lit 1000000000000000000))) (.le (.lit 1) (.v 1))) (.le (.v 1) (.lit 1000000000))))
 (.leaf ((.tup [(.int .i64 (.lit 0)), (.int .i64 (.lit 1))]), [], []))
 (.ite (.lt (.rem (.add (.mul (.lit 2) (.v 0)) (.v 1)) (.mul (.lit 2) (.v 1))) (.lit 0))
  (.leaf ((.tup [(.int .i64 (.sub (.quo (.add (.mul (.lit 2) (.v 0)) (.v 1)) (.mul (.lit 2) (.v 1))) (.lit 1))), (.int .i64 (.lit 0))]), [], []))
  (.leaf ((.tup [(.int .i64 (.quo (.add (.mul (.lit 2) (.v 0)) (.v 1)) (.mul (.lit 2) (.v 1)))), (.int .i64 (.lit 0))]), [], []))
 )
)
theorem t_halfR_eq : evFn Try.prog noCtx 100 12 64 (shsS cHalf.args 0) [] ⟨rngE 0 cHalf.dom, []⟩ cHalf.dom.length = t_halfR := by kernel_rfl
theorem halfR_ok : PCOK Try.prog 64 cHalf gHalf := pc_of_tree noCtx_ok (Φ := noSig) rfl (fun _ => trivial) (by kernel_rfl) (by kernel_rfl) rfl t_halfR_eq fun xs hl hx => by
  match xs, hl with
  | [n, d], _ =>
    simp [rngE, cHalf, den] at hx
    simp [t_halfR, T.ok, LVal, gHalf, cHalf, RngOK, denV, denL, denB, den, retV, shsV, shV, cellV, a0, a1, a2, Sh.w]
    exact half_goal n d
def t_clamp : T Leaf :=
(.leaf ((.int .i64 (.mx (.v 1) (.mn (.v 0) (.v 2)))), [], []))
theorem t_clamp_eq : evFn Try.prog noCtx 100 12 81 (shsS cClamp.args 0) [] ⟨rngE 0 cClamp.dom, []⟩ cClamp.dom.length = t_clamp := by kernel_rfl
theorem clamp_ok : PCOK Try.prog 81 cClamp gClamp := pc_of_tree noCtx_ok (Φ := noSig) rfl (fun _ => trivial) (by kernel_rfl) (by kernel_rfl) rfl t_clamp_eq fun xs hl hx => by
  match xs, hl with
  | [x, y, z], _ =>
    simp [rngE, cClamp, den] at hx
    simp [t_clamp, T.ok, LVal, gClamp, cClamp, RngOK, denV, denL, denB, den, retV, shsV, shV, cellV, a0, a1, a2, Sh.w]
    unfold clampS; omega
end Go.Proofs.Ythhaeaiheidpoaa
