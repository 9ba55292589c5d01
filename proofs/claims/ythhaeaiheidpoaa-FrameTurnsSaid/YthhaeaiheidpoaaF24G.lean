/- Distances and turns: contracts. -/
import Derived.Test.YthhaeaiheidpoaaRows
import Derived.Test.YthhaeaiheidpoaaF24H
namespace Go.Proofs.Ythhaeaiheidpoaa
open Ev
set_option linter.unusedSimpArgs false
set_option linter.unusedVariables false

def t_dist : T Leaf :=
(.ite (.not (.and (.le (.mx (.v 0) (.v 1)) (.lit 100000000)) (.le (.lit (-100000000)) (.mn (.v 0) (.v 1)))))
 (.leaf ((.tup [(.int .i64 (.lit 0)), (.int .i64 (.lit 1))]), [some (26, [(.int .i64 (.v 0)), (.int .i64 (.v 1))]), some (26, [(.int .i64 (.v 2)), (.int .i64 (.v 3))]), some (26, [(.int .i64 (.v 0)), (.int .i64 (.v 1))]), some (26, [(.int .i64 (.v 2)), (.int .i64 (.v 3))]), some (26, [(.int .i64 (.v 0)), (.int .i64 (.v 1)), (.int .i64 (.v 2)), (.int .i64 (.v 3))]), some (26, [(.int .i64 (.v 0)), (.int .i64 (.v 1))]), some (26, [(.int .i64 (.v 0)), (.int .i64 (.v 1))])], [6, 5, 5, 4, 3, 2, 1, 0]))
 (.ite (.not (.and (.le (.mx (.v 2) (.v 3)) (.lit 100000000)) (.le (.lit (-100000000)) (.mn (.v 2) (.v 3)))))
  (.leaf ((.tup [(.int .i64 (.lit 0)), (.int .i64 (.lit 1))]), [some (26, [(.int .i64 (.v 0)), (.int .i64 (.v 1))]), some (26, [(.int .i64 (.v 2)), (.int .i64 (.v 3))]), some (26, [(.int .i64 (.v 0)), (.int .i64 (.v 1))]), some (26, [(.int .i64 (.v 2)), (.int .i64 (.v 3))]), some (26, [(.int .i64 (.v 0)), (.int .i64 (.v 1)), (.int .i64 (.v 2)), (.int .i64 (.v 3))]), some (26, [(.int .i64 (.v 0)), (.int .i64 (.v 1))]), some (26, [(.int .i64 (.v 0)), (.int .i64 (.v 1))]), some (26, [(.int .i64 (.v 2)), (.int .i64 (.v 3))]), some (26, [(.int .i64 (.v 2)), (.int .i64 (.v 3))])], [8, 7, 7, 6, 5, 5, 4, 3, 2, 1, 0]))
  (.call 4 [(.add (.mul (.mx (.sub (.v 0) (.v 2)) (.sub (.v 2) (.v 0))) (.mx (.sub (.v 0) (.v 2)) (.sub (.v 2) (.v 0)))) (.mul (.mx (.sub (.v 1) (.v 3)) (.sub (.v 3) (.v 1))) (.mx (.sub (.v 1) (.v 3)) (.sub (.v 3) (.v 1)))))] 2
  (.ite (.lt (.mul (.v 4) (.v 4)) (.add (.mul (.mx (.sub (.v 0) (.v 2)) (.sub (.v 2) (.v 0))) (.mx (.sub (.v 0) (.v 2)) (.sub (.v 2) (.v 0)))) (.mul (.mx (.sub (.v 1) (.v 3)) (.sub (.v 3) (.v 1))) (.mx (.sub (.v 1) (.v 3)) (.sub (.v 3) (.v 1))))))
   (.leaf ((.tup [(.int .i64 (.add (.v 4) (.lit 1))), (.int .i64 (.v 5))]), [some (26, [(.int .i64 (.v 0)), (.int .i64 (.v 1))]), some (26, [(.int .i64 (.v 2)), (.int .i64 (.v 3))]), some (26, [(.int .i64 (.v 0)), (.int .i64 (.v 1))]), some (26, [(.int .i64 (.v 2)), (.int .i64 (.v 3))]), some (26, [(.int .i64 (.v 0)), (.int .i64 (.v 1)), (.int .i64 (.v 2)), (.int .i64 (.v 3))]), some (26, [(.int .i64 (.v 0)), (.int .i64 (.v 1))]), some (26, [(.int .i64 (.v 0)), (.int .i64 (.v 1))]), some (26, [(.int .i64 (.v 2)), (.int .i64 (.v 3))]), some (26, [(.int .i64 (.v 2)), (.int .i64 (.v 3))])], [8, 7, 7, 6, 5, 5, 4, 3, 2, 1, 0]))
   (.leaf ((.tup [(.int .i64 (.v 4)), (.int .i64 (.v 5))]), [some (26, [(.int .i64 (.v 0)), (.int .i64 (.v 1))]), some (26, [(.int .i64 (.v 2)), (.int .i64 (.v 3))]), some (26, [(.int .i64 (.v 0)), (.int .i64 (.v 1))]), some (26, [(.int .i64 (.v 2)), (.int .i64 (.v 3))]), some (26, [(.int .i64 (.v 0)), (.int .i64 (.v 1)), (.int .i64 (.v 2)), (.int .i64 (.v 3))]), some (26, [(.int .i64 (.v 0)), (.int .i64 (.v 1))]), some (26, [(.int .i64 (.v 0)), (.int .i64 (.v 1))]), some (26, [(.int .i64 (.v 2)), (.int .i64 (.v 3))]), some (26, [(.int .i64 (.v 2)), (.int .i64 (.v 3))])], [8, 7, 7, 6, 5, 5, 4, 3, 2, 1, 0]))
  )
  )
 )
)
theorem t_dist_eq : evFn Try.prog (ctxOf tab2) 100 12 19 (shsS cDist.args 0) [] ⟨rngE 0 cDist.dom, []⟩ cDist.dom.length = t_dist := by kernel_rfl
set_option maxHeartbeats 2000000 in
theorem dist_ok : PCOK Try.prog 19 cDist gDist := pc_of_tree ctx2_ok (Φ := f24Sig) rfl (fun _ => trivial) (by kernel_rfl) (by kernel_rfl) rfl t_dist_eq fun xs hl hx => by
  match xs, hl with
  | [x0, x1, x2, x3], _ =>
    simp [rngE, cDist, den] at hx
    simp [t_dist, T.ok, LVal, gDist, cDist, f24Sig, f24F, gNorm, gHalf, gSin, gCos, gRoot, gRnd, gClamp, gFV, gAdd, gSub, gBox, gDist, gTurn, gBody, gSgn, gBod, RngOK, denV, denL, denB, den, retV, shsV, shV, cellV, cellsV, a0, a1, a2, a3, a4, Sh.w, fit0, fit1, fit2, fit3, fit4]
    have ab : ∀ a b : Int, (if a - b < b - a then b - a else a - b) * (if a - b < b - a then b - a else a - b) = (a - b) * (a - b) := by
      intro a b
      split
      · have e : b - a = -(a - b) := by omega
        rw [e, Int.neg_mul_neg]
      · rfl
    simp only [ab]
    by_cases h1 : okPt x0 x1 = true
    · by_cases h2 : okPt x2 x3 = true
      · have g1 := of_decide_eq_true h1
        have g2 := of_decide_eq_true h2
        have hs : sqS x0 x1 x2 x3 = (x0 - x2) * (x0 - x2) + (x1 - x3) * (x1 - x3) := rfl
        have hE := rootE_sq (a := x0) (b := x1) (c := x2) (d := x3) g1 g2
        have hr := root_rng (sqS x0 x1 x2 x3)
        rw [if_pos ⟨h1, h2⟩, ← hs]
        simp only [mxE, mnE]
        refine ⟨⟨?_, by omega, trivial⟩, fun h => by exfalso; omega, fun _ _ => ⟨fun h => by exfalso; omega, fun _ _ => ⟨fun h => ⟨?_, hE⟩, fun h => ⟨?_, hE⟩⟩⟩⟩
        · unfold upRoot; split <;> omega
        · show _ = upRoot _; unfold upRoot; rw [if_pos h]
        · show _ = upRoot _; unfold upRoot; rw [if_neg (by omega)]
      · have g2 : ¬ (-100000000 ≤ x2 ∧ x2 ≤ 100000000 ∧ -100000000 ≤ x3 ∧ x3 ≤ 100000000) := fun h => h2 (decide_eq_true h)
        rw [if_neg (fun h => h2 h.2)]
        simp only [mxE, mnE]
        exact ⟨⟨by omega, by omega, trivial⟩, fun _ => ⟨rfl, rfl⟩, fun _ _ => ⟨fun _ => ⟨rfl, rfl⟩, fun _ _ => by exfalso; omega⟩⟩
    · have g1 : ¬ (-100000000 ≤ x0 ∧ x0 ≤ 100000000 ∧ -100000000 ≤ x1 ∧ x1 ≤ 100000000) := fun h => h1 (decide_eq_true h)
      rw [if_neg (fun h => h1 h.1)]
      simp only [mxE, mnE]
      exact ⟨⟨by omega, by omega, trivial⟩, fun _ => ⟨rfl, rfl⟩, fun _ _ => by exfalso; omega⟩
def t_distR : T Leaf :=
(.ite (.not (.not (.and (.and (.and (.le (.lit (-100000000)) (.v 0)) (.le (.v 0) (.lit 100000000))) (.le (.lit (-100000000)) (.v 1))) (.le (.v 1) (.lit 100000000)))))
 (.ite (.not (.and (.and (.and (.le (.lit (-100000000)) (.v 2)) (.le (.v 2) (.lit 100000000))) (.le (.lit (-100000000)) (.v 3))) (.le (.v 3) (.lit 100000000))))
  (.leaf ((.tup [(.int .i64 (.lit 0)), (.int .i64 (.lit 1))]), [some (26, [(.int .i64 (.v 0)), (.int .i64 (.v 1))]), some (26, [(.int .i64 (.v 2)), (.int .i64 (.v 3))]), some (26, [(.int .i64 (.v 0)), (.int .i64 (.v 1))]), some (26, [(.int .i64 (.v 2)), (.int .i64 (.v 3))])], [3, 2, 1, 0]))
  (.call 4 [(.add (.mul (.sub (.v 0) (.v 2)) (.sub (.v 0) (.v 2))) (.mul (.sub (.v 1) (.v 3)) (.sub (.v 1) (.v 3))))] 2
  (.ite (.lt (.mul (.v 4) (.v 4)) (.add (.mul (.sub (.v 0) (.v 2)) (.sub (.v 0) (.v 2))) (.mul (.sub (.v 1) (.v 3)) (.sub (.v 1) (.v 3)))))
   (.leaf ((.tup [(.int .i64 (.add (.v 4) (.lit 1))), (.int .i64 (.v 5))]), [some (26, [(.int .i64 (.v 0)), (.int .i64 (.v 1))]), some (26, [(.int .i64 (.v 2)), (.int .i64 (.v 3))]), some (26, [(.int .i64 (.v 0)), (.int .i64 (.v 1))]), some (26, [(.int .i64 (.v 2)), (.int .i64 (.v 3))])], [3, 2, 1, 0]))
   (.leaf ((.tup [(.int .i64 (.v 4)), (.int .i64 (.v 5))]), [some (26, [(.int .i64 (.v 0)), (.int .i64 (.v 1))]), some (26, [(.int .i64 (.v 2)), (.int .i64 (.v 3))]), some (26, [(.int .i64 (.v 0)), (.int .i64 (.v 1))]), some (26, [(.int .i64 (.v 2)), (.int .i64 (.v 3))])], [3, 2, 1, 0]))
  )
  )
 )
 (.leaf ((.tup [(.int .i64 (.lit 0)), (.int .i64 (.lit 1))]), [some (26, [(.int .i64 (.v 0)), (.int .i64 (.v 1))]), some (26, [(.int .i64 (.v 2)), (.int .i64 (.v 3))]), some (26, [(.int .i64 (.v 0)), (.int .i64 (.v 1))])], [2, 1, 0]))
)
theorem t_distR_eq : evFn Try.prog (ctxOf tab2) 100 12 32 (shsS cDist.args 0) [] ⟨rngE 0 cDist.dom, []⟩ cDist.dom.length = t_distR := by kernel_rfl
set_option maxHeartbeats 2000000 in
theorem distR_ok : PCOK Try.prog 32 cDist gDist := pc_of_tree ctx2_ok (Φ := f24Sig) rfl (fun _ => trivial) (by kernel_rfl) (by kernel_rfl) rfl t_distR_eq fun xs hl hx => by
  match xs, hl with
  | [x0, x1, x2, x3], _ =>
    simp [rngE, cDist, den] at hx
    simp [t_distR, T.ok, LVal, gDist, cDist, f24Sig, f24F, gNorm, gHalf, gSin, gCos, gRoot, gRnd, gClamp, gFV, gAdd, gSub, gBox, gDist, gTurn, gBody, gSgn, gBod, RngOK, denV, denL, denB, den, retV, shsV, shV, cellV, cellsV, a0, a1, a2, a3, a4, Sh.w, fit0, fit1, fit2, fit3, fit4]
    by_cases h1 : okPt x0 x1 = true
    · by_cases h2 : okPt x2 x3 = true
      · have g1 := of_decide_eq_true h1
        have g2 := of_decide_eq_true h2
        have hs : sqS x0 x1 x2 x3 = (x0 - x2) * (x0 - x2) + (x1 - x3) * (x1 - x3) := rfl
        have hE := rootE_sq (a := x0) (b := x1) (c := x2) (d := x3) g1 g2
        have hr := root_rng (sqS x0 x1 x2 x3)
        rw [if_pos ⟨h1, h2⟩, ← hs]
        refine ⟨⟨?_, by omega, trivial⟩, fun _ _ _ _ => ⟨fun h => by exfalso; omega, fun _ _ _ _ => ⟨fun h => ⟨?_, hE⟩, fun h => ⟨?_, hE⟩⟩⟩, fun h => by exfalso; have := h (by omega) (by omega) (by omega); omega⟩
        · unfold upRoot; split <;> omega
        · show _ = upRoot _; unfold upRoot; rw [if_pos h]
        · show _ = upRoot _; unfold upRoot; rw [if_neg (by omega)]
      · have g2 : ¬ (-100000000 ≤ x2 ∧ x2 ≤ 100000000 ∧ -100000000 ≤ x3 ∧ x3 ≤ 100000000) := fun h => h2 (decide_eq_true h)
        rw [if_neg (fun h => h2 h.2)]
        exact ⟨⟨by omega, by omega, trivial⟩, fun _ _ _ _ => ⟨fun _ => ⟨rfl, rfl⟩, fun _ _ _ _ => by exfalso; omega⟩, fun _ => ⟨rfl, rfl⟩⟩
    · have g1 : ¬ (-100000000 ≤ x0 ∧ x0 ≤ 100000000 ∧ -100000000 ≤ x1 ∧ x1 ≤ 100000000) := fun h => h1 (decide_eq_true h)
      rw [if_neg (fun h => h1 h.1)]
      exact ⟨⟨by omega, by omega, trivial⟩, fun _ _ _ _ => by exfalso; omega, fun _ => ⟨rfl, rfl⟩⟩
def t_turn : T Leaf :=
(.ite (.not (.and (.le (.mx (.v 0) (.v 1)) (.lit 100000000)) (.le (.lit (-100000000)) (.mn (.v 0) (.v 1)))))
 (.leaf ((.tup [(.int .i64 (.lit 0)), (.int .i64 (.lit 0)), (.int .i64 (.lit 1))]), [some (26, [(.int .i64 (.v 0)), (.int .i64 (.v 1))]), some (26, [(.int .i64 (.v 0)), (.int .i64 (.v 1))]), some (26, [(.int .i64 (.v 0)), (.int .i64 (.v 1))])], [2, 1, 1, 0]))
 (.call 10 [(.v 2)] 1
 (.call 11 [(.add (.v 3) (.lit 900))] 1
 (.call 11 [(.v 2)] 1
 (.call 1 [(.sub (.mul (.v 0) (.v 4)) (.mul (.v 1) (.v 5))), (.lit 10000)] 2
 (.call 1 [(.add (.mul (.v 0) (.v 5)) (.mul (.v 1) (.v 4))), (.lit 10000)] 2
 (.leaf ((.tup [(.int .i64 (.v 6)), (.int .i64 (.v 8)), (.int .i64 (.lit 0))]), [some (26, [(.int .i64 (.v 0)), (.int .i64 (.v 1))]), some (26, [(.int .i64 (.v 0)), (.int .i64 (.v 1))]), some (26, [(.int .i64 (.v 0)), (.int .i64 (.v 1))])], [2, 1, 1, 0]))
 )
 )
 )
 )
 )
)
theorem t_turn_eq : evFn Try.prog (ctxOf tab2) 100 12 16 (shsS cTurn.args 0) [] ⟨rngE 0 cTurn.dom, []⟩ cTurn.dom.length = t_turn := by kernel_rfl
set_option maxHeartbeats 2000000 in
theorem turn_ok : PCOK Try.prog 16 cTurn gTurn := pc_of_tree ctx2_ok (Φ := f24Sig) rfl (fun _ => trivial) (by kernel_rfl) (by kernel_rfl) rfl t_turn_eq fun xs hl hx => by
  match xs, hl with
  | [x0, x1, x2], _ =>
    simp [rngE, cTurn, den] at hx
    simp [t_turn, T.ok, LVal, gTurn, cTurn, f24Sig, f24F, gNorm, gHalf, gSin, gCos, gRoot, gRnd, gClamp, gFV, gAdd, gSub, gBox, gDist, gTurn, gBody, gSgn, gBod, RngOK, denV, denL, denB, den, retV, shsV, shV, cellV, cellsV, a0, a1, a2, a3, a4, Sh.w, fit0, fit1, fit2, fit3, fit4]
    exact turn_goal x0 x1 x2
def t_turnR : T Leaf :=
(.ite (.not (.and (.and (.and (.le (.lit (-100000000)) (.v 0)) (.le (.v 0) (.lit 100000000))) (.le (.lit (-100000000)) (.v 1))) (.le (.v 1) (.lit 100000000))))
 (.leaf ((.tup [(.int .i64 (.lit 0)), (.int .i64 (.lit 0)), (.int .i64 (.lit 1))]), [some (26, [(.int .i64 (.v 0)), (.int .i64 (.v 1))])], [0]))
 (.call 10 [(.v 2)] 1
 (.call 11 [(.add (.v 3) (.lit 900))] 1
 (.call 11 [(.v 2)] 1
 (.call 1 [(.sub (.mul (.v 0) (.v 4)) (.mul (.v 1) (.v 5))), (.lit 10000)] 2
 (.call 1 [(.add (.mul (.v 0) (.v 5)) (.mul (.v 1) (.v 4))), (.lit 10000)] 2
 (.leaf ((.tup [(.int .i64 (.v 6)), (.int .i64 (.v 8)), (.int .i64 (.lit 0))]), [some (26, [(.int .i64 (.v 0)), (.int .i64 (.v 1))])], [0]))
 )
 )
 )
 )
 )
)
theorem t_turnR_eq : evFn Try.prog (ctxOf tab2) 100 12 34 (shsS cTurn.args 0) [] ⟨rngE 0 cTurn.dom, []⟩ cTurn.dom.length = t_turnR := by kernel_rfl
set_option maxHeartbeats 2000000 in
theorem turnR_ok : PCOK Try.prog 34 cTurn gTurn := pc_of_tree ctx2_ok (Φ := f24Sig) rfl (fun _ => trivial) (by kernel_rfl) (by kernel_rfl) rfl t_turnR_eq fun xs hl hx => by
  match xs, hl with
  | [x0, x1, x2], _ =>
    simp [rngE, cTurn, den] at hx
    simp [t_turnR, T.ok, LVal, gTurn, cTurn, f24Sig, f24F, gNorm, gHalf, gSin, gCos, gRoot, gRnd, gClamp, gFV, gAdd, gSub, gBox, gDist, gTurn, gBody, gSgn, gBod, RngOK, denV, denL, denB, den, retV, shsV, shV, cellV, cellsV, a0, a1, a2, a3, a4, Sh.w, fit0, fit1, fit2, fit3, fit4]
    exact turnR_goal x0 x1 x2
def t_earth : T Leaf :=
(.ite (.not (.and (.le (.mx (.v 0) (.v 1)) (.lit 100000000)) (.le (.lit (-100000000)) (.mn (.v 0) (.v 1)))))
 (.leaf ((.tup [(.int .i64 (.lit 0)), (.int .i64 (.lit 0)), (.int .i64 (.lit 1))]), [some (26, [(.int .i64 (.v 0)), (.int .i64 (.v 1))]), some (26, [(.int .i64 (.v 0)), (.int .i64 (.v 1))]), some (26, [(.int .i64 (.v 0)), (.int .i64 (.v 1))])], [2, 1, 1, 0]))
 (.call 10 [(.v 2)] 1
 (.call 11 [(.add (.v 3) (.lit 900))] 1
 (.call 11 [(.v 2)] 1
 (.call 1 [(.sub (.mul (.v 0) (.v 4)) (.mul (.v 1) (.v 5))), (.lit 10000)] 2
 (.call 1 [(.add (.mul (.v 0) (.v 5)) (.mul (.v 1) (.v 4))), (.lit 10000)] 2
 (.leaf ((.tup [(.int .i64 (.v 6)), (.int .i64 (.v 8)), (.int .i64 (.lit 0))]), [some (26, [(.int .i64 (.v 0)), (.int .i64 (.v 1))]), some (26, [(.int .i64 (.v 0)), (.int .i64 (.v 1))]), some (26, [(.int .i64 (.v 0)), (.int .i64 (.v 1))])], [2, 1, 1, 0]))
 )
 )
 )
 )
 )
)
theorem t_earth_eq : evFn Try.prog (ctxOf tab2) 100 12 22 (shsS cTurn.args 0) [] ⟨rngE 0 cTurn.dom, []⟩ cTurn.dom.length = t_earth := by kernel_rfl
set_option maxHeartbeats 2000000 in
theorem earth_ok : PCOK Try.prog 22 cTurn gTurn := pc_of_tree ctx2_ok (Φ := f24Sig) rfl (fun _ => trivial) (by kernel_rfl) (by kernel_rfl) rfl t_earth_eq fun xs hl hx => by
  match xs, hl with
  | [x0, x1, x2], _ =>
    simp [rngE, cTurn, den] at hx
    simp [t_earth, T.ok, LVal, gTurn, cTurn, f24Sig, f24F, gNorm, gHalf, gSin, gCos, gRoot, gRnd, gClamp, gFV, gAdd, gSub, gBox, gDist, gTurn, gBody, gSgn, gBod, RngOK, denV, denL, denB, den, retV, shsV, shV, cellV, cellsV, a0, a1, a2, a3, a4, Sh.w, fit0, fit1, fit2, fit3, fit4]
    exact turn_goal x0 x1 x2
def t_earthR : T Leaf :=
(.ite (.not (.and (.and (.and (.le (.lit (-100000000)) (.v 0)) (.le (.v 0) (.lit 100000000))) (.le (.lit (-100000000)) (.v 1))) (.le (.v 1) (.lit 100000000))))
 (.leaf ((.tup [(.int .i64 (.lit 0)), (.int .i64 (.lit 0)), (.int .i64 (.lit 1))]), [some (26, [(.int .i64 (.v 0)), (.int .i64 (.v 1))])], [0]))
 (.call 10 [(.v 2)] 1
 (.call 11 [(.add (.v 3) (.lit 900))] 1
 (.call 11 [(.v 2)] 1
 (.call 1 [(.sub (.mul (.v 0) (.v 4)) (.mul (.v 1) (.v 5))), (.lit 10000)] 2
 (.call 1 [(.add (.mul (.v 0) (.v 5)) (.mul (.v 1) (.v 4))), (.lit 10000)] 2
 (.leaf ((.tup [(.int .i64 (.v 6)), (.int .i64 (.v 8)), (.int .i64 (.lit 0))]), [some (26, [(.int .i64 (.v 0)), (.int .i64 (.v 1))])], [0]))
 )
 )
 )
 )
 )
)
theorem t_earthR_eq : evFn Try.prog (ctxOf tab2) 100 12 35 (shsS cTurn.args 0) [] ⟨rngE 0 cTurn.dom, []⟩ cTurn.dom.length = t_earthR := by kernel_rfl
set_option maxHeartbeats 2000000 in
theorem earthR_ok : PCOK Try.prog 35 cTurn gTurn := pc_of_tree ctx2_ok (Φ := f24Sig) rfl (fun _ => trivial) (by kernel_rfl) (by kernel_rfl) rfl t_earthR_eq fun xs hl hx => by
  match xs, hl with
  | [x0, x1, x2], _ =>
    simp [rngE, cTurn, den] at hx
    simp [t_earthR, T.ok, LVal, gTurn, cTurn, f24Sig, f24F, gNorm, gHalf, gSin, gCos, gRoot, gRnd, gClamp, gFV, gAdd, gSub, gBox, gDist, gTurn, gBody, gSgn, gBod, RngOK, denV, denL, denB, den, retV, shsV, shV, cellV, cellsV, a0, a1, a2, a3, a4, Sh.w, fit0, fit1, fit2, fit3, fit4]
    exact turnR_goal x0 x1 x2
def t_body : T Leaf :=
(.call 10 [(.v 2)] 1
(.ite (.not (.and (.le (.mx (.v 0) (.v 1)) (.lit 100000000)) (.le (.lit (-100000000)) (.mn (.v 0) (.v 1)))))
 (.leaf ((.tup [(.int .i64 (.lit 0)), (.int .i64 (.lit 0)), (.int .i64 (.lit 1))]), [some (26, [(.int .i64 (.v 0)), (.int .i64 (.v 1))]), some (26, [(.int .i64 (.v 0)), (.int .i64 (.v 1))]), some (26, [(.int .i64 (.v 0)), (.int .i64 (.v 1))])], [2, 1, 1, 0]))
 (.call 10 [(.sub (.lit 0) (.v 3))] 1
 (.call 11 [(.add (.v 4) (.lit 900))] 1
 (.call 11 [(.sub (.lit 0) (.v 3))] 1
 (.call 1 [(.sub (.mul (.v 0) (.v 5)) (.mul (.v 1) (.v 6))), (.lit 10000)] 2
 (.call 1 [(.add (.mul (.v 0) (.v 6)) (.mul (.v 1) (.v 5))), (.lit 10000)] 2
 (.leaf ((.tup [(.int .i64 (.v 7)), (.int .i64 (.v 9)), (.int .i64 (.lit 0))]), [some (26, [(.int .i64 (.v 0)), (.int .i64 (.v 1))]), some (26, [(.int .i64 (.v 0)), (.int .i64 (.v 1))]), some (26, [(.int .i64 (.v 0)), (.int .i64 (.v 1))])], [2, 1, 1, 0]))
 )
 )
 )
 )
 )
)
)
theorem t_body_eq : evFn Try.prog (ctxOf tab2) 100 12 23 (shsS cBody.args 0) [] ⟨rngE 0 cBody.dom, []⟩ cBody.dom.length = t_body := by kernel_rfl
set_option maxHeartbeats 2000000 in
theorem body_ok : PCOK Try.prog 23 cBody gBody := pc_of_tree ctx2_ok (Φ := f24Sig) rfl (fun _ => trivial) (by kernel_rfl) (by kernel_rfl) rfl t_body_eq fun xs hl hx => by
  match xs, hl with
  | [x0, x1, x2], _ =>
    simp [rngE, cBody, den] at hx
    simp [t_body, T.ok, LVal, gBody, cBody, f24Sig, f24F, gNorm, gHalf, gSin, gCos, gRoot, gRnd, gClamp, gFV, gAdd, gSub, gBox, gDist, gTurn, gBody, gSgn, gBod, RngOK, denV, denL, denB, den, retV, shsV, shV, cellV, cellsV, a0, a1, a2, a3, a4, Sh.w, fit0, fit1, fit2, fit3, fit4]
    exact turn_goal x0 x1 (-(x2 % 3600))
def t_bodyR : T Leaf :=
(.call 10 [(.v 2)] 1
(.ite (.not (.and (.and (.and (.le (.lit (-100000000)) (.v 0)) (.le (.v 0) (.lit 100000000))) (.le (.lit (-100000000)) (.v 1))) (.le (.v 1) (.lit 100000000))))
 (.leaf ((.tup [(.int .i64 (.lit 0)), (.int .i64 (.lit 0)), (.int .i64 (.lit 1))]), [some (26, [(.int .i64 (.v 0)), (.int .i64 (.v 1))])], [0]))
 (.call 10 [(.sub (.lit 0) (.v 3))] 1
 (.call 11 [(.add (.v 4) (.lit 900))] 1
 (.call 11 [(.sub (.lit 0) (.v 3))] 1
 (.call 1 [(.sub (.mul (.v 0) (.v 5)) (.mul (.v 1) (.v 6))), (.lit 10000)] 2
 (.call 1 [(.add (.mul (.v 0) (.v 6)) (.mul (.v 1) (.v 5))), (.lit 10000)] 2
 (.leaf ((.tup [(.int .i64 (.v 7)), (.int .i64 (.v 9)), (.int .i64 (.lit 0))]), [some (26, [(.int .i64 (.v 0)), (.int .i64 (.v 1))])], [0]))
 )
 )
 )
 )
 )
)
)
theorem t_bodyR_eq : evFn Try.prog (ctxOf tab2) 100 12 36 (shsS cBody.args 0) [] ⟨rngE 0 cBody.dom, []⟩ cBody.dom.length = t_bodyR := by kernel_rfl
set_option maxHeartbeats 2000000 in
theorem bodyR_ok : PCOK Try.prog 36 cBody gBody := pc_of_tree ctx2_ok (Φ := f24Sig) rfl (fun _ => trivial) (by kernel_rfl) (by kernel_rfl) rfl t_bodyR_eq fun xs hl hx => by
  match xs, hl with
  | [x0, x1, x2], _ =>
    simp [rngE, cBody, den] at hx
    simp [t_bodyR, T.ok, LVal, gBody, cBody, f24Sig, f24F, gNorm, gHalf, gSin, gCos, gRoot, gRnd, gClamp, gFV, gAdd, gSub, gBox, gDist, gTurn, gBody, gSgn, gBod, RngOK, denV, denL, denB, den, retV, shsV, shV, cellV, cellsV, a0, a1, a2, a3, a4, Sh.w, fit0, fit1, fit2, fit3, fit4]
    exact turnR_goal x0 x1 (-(x2 % 3600))
end Go.Proofs.Ythhaeaiheidpoaa
