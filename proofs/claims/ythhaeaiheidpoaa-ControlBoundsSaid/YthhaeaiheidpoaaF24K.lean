/- The way to a place: contracts. -/
import Derived.Test.YthhaeaiheidpoaaRows
import Derived.Test.YthhaeaiheidpoaaF24I
namespace Go.Proofs.Ythhaeaiheidpoaa
open Ev
set_option linter.unusedSimpArgs false
set_option linter.unusedVariables false

def t_bod : T Leaf :=
(.ite (.not (.not (.and (.le (.mx (.v 0) (.v 1)) (.lit 100000000)) (.le (.lit (-100000000)) (.mn (.v 0) (.v 1))))))
 (.ite (.not (.not (.and (.le (.mx (.v 2) (.v 3)) (.lit 100000000)) (.le (.lit (-100000000)) (.mn (.v 2) (.v 3))))))
  (.ite (.not (.and (.le (.lit 0) (.v 4)) (.lt (.v 4) (.lit 3600))))
   (.leaf ((.tup [(.int .i64 (.lit 0)), (.int .i64 (.lit 0))]), [some (26, [(.int .i64 (.v 0)), (.int .i64 (.v 1))]), some (26, [(.int .i64 (.v 2)), (.int .i64 (.v 3))]), some (26, [(.int .i64 (.v 0)), (.int .i64 (.v 1))]), some (26, [(.int .i64 (.v 2)), (.int .i64 (.v 3))])], [3, 2, 1, 0]))
   (.call 11 [(.v 4)] 1
   (.call 10 [(.v 4)] 1
   (.call 11 [(.add (.v 6) (.lit 900))] 1
   (.call 20 [(.add (.mul (.sub (.v 2) (.v 0)) (.v 7)) (.mul (.sub (.v 3) (.v 1)) (.v 5))), (.lit 10000)] 1
   (.call 20 [(.sub (.mul (.sub (.v 3) (.v 1)) (.v 7)) (.mul (.sub (.v 2) (.v 0)) (.v 5))), (.lit 10000)] 1
   (.leaf ((.tup [(.int .i64 (.v 8)), (.int .i64 (.v 9))]), [some (26, [(.int .i64 (.v 0)), (.int .i64 (.v 1))]), some (26, [(.int .i64 (.v 2)), (.int .i64 (.v 3))]), some (26, [(.int .i64 (.v 0)), (.int .i64 (.v 1))]), some (26, [(.int .i64 (.v 2)), (.int .i64 (.v 3))])], [3, 2, 1, 0]))
   )
   )
   )
   )
   )
  )
  (.leaf ((.tup [(.int .i64 (.lit 0)), (.int .i64 (.lit 0))]), [some (26, [(.int .i64 (.v 0)), (.int .i64 (.v 1))]), some (26, [(.int .i64 (.v 2)), (.int .i64 (.v 3))]), some (26, [(.int .i64 (.v 0)), (.int .i64 (.v 1))]), some (26, [(.int .i64 (.v 2)), (.int .i64 (.v 3))])], [3, 2, 1, 0]))
 )
 (.leaf ((.tup [(.int .i64 (.lit 0)), (.int .i64 (.lit 0))]), [some (26, [(.int .i64 (.v 0)), (.int .i64 (.v 1))]), some (26, [(.int .i64 (.v 2)), (.int .i64 (.v 3))]), some (26, [(.int .i64 (.v 0)), (.int .i64 (.v 1))])], [2, 1, 0]))
)
theorem t_bod_eq : evFn Try.prog (ctxOf tab2) 100 12 47 (shsS cBod.args 0) [] ⟨rngE 0 cBod.dom, []⟩ cBod.dom.length = t_bod := by kernel_rfl
set_option maxHeartbeats 2000000 in
theorem bod_ok : PCOK Try.prog 47 cBod gBod := pc_of_tree ctx2_ok (Φ := f24Sig) rfl (fun _ => trivial) (by kernel_rfl) (by kernel_rfl) rfl t_bod_eq fun xs hl hx => by
  match xs, hl with
  | [x0, x1, x2, x3, x4], _ =>
    simp [rngE, cBod, den] at hx
    simp [t_bod, T.ok, LVal, gBod, cBod, f24Sig, f24F, gNorm, gHalf, gSin, gCos, gRoot, gRnd, gClamp, gFV, gAdd, gSub, gBox, gDist, gTurn, gBody, gSgn, gBod, RngOK, denV, denL, denB, den, retV, shsV, shV, cellV, cellsV, a0, a1, a2, a3, a4, Sh.w, fit0, fit1, fit2, fit3, fit4]
    by_cases hv : okPt x0 x1 = true ∧ okPt x2 x3 = true ∧ 0 ≤ x4 ∧ x4 < 3600
    · have g1 := of_decide_eq_true hv.1
      have g2 := of_decide_eq_true hv.2.1
      have g3 := hv.2.2
      unfold bodyS
      rw [if_pos hv]
      simp only [mxE, mnE]
      exact ⟨bod_rng x4 g1 g2, fun _ _ => ⟨fun _ _ => ⟨fun h => by exfalso; omega, fun _ _ => ⟨rfl, rfl⟩⟩, fun h => by exfalso; have := h (by omega); omega⟩, fun h => by exfalso; have := h (by omega); omega⟩
    · have g : ¬ ((-100000000 ≤ x0 ∧ x0 ≤ 100000000 ∧ -100000000 ≤ x1 ∧ x1 ≤ 100000000) ∧ (-100000000 ≤ x2 ∧ x2 ≤ 100000000 ∧ -100000000 ≤ x3 ∧ x3 ≤ 100000000) ∧ 0 ≤ x4 ∧ x4 < 3600) := fun h => hv ⟨decide_eq_true h.1, decide_eq_true h.2.1, h.2.2⟩
      unfold bodyS
      rw [if_neg hv]
      simp only [mxE, mnE]
      exact ⟨⟨⟨by decide, by decide⟩, ⟨by decide, by decide⟩, trivial⟩, fun _ _ => ⟨fun _ _ => ⟨fun _ => ⟨rfl, rfl⟩, fun _ _ => by exfalso; omega⟩, fun _ => ⟨rfl, rfl⟩⟩, fun _ => ⟨rfl, rfl⟩⟩
def t_bodR : T Leaf :=
(.ite (.not (.not (.and (.and (.and (.le (.lit (-100000000)) (.v 0)) (.le (.v 0) (.lit 100000000))) (.le (.lit (-100000000)) (.v 1))) (.le (.v 1) (.lit 100000000)))))
 (.ite (.not (.not (.and (.and (.and (.le (.lit (-100000000)) (.v 2)) (.le (.v 2) (.lit 100000000))) (.le (.lit (-100000000)) (.v 3))) (.le (.v 3) (.lit 100000000)))))
  (.ite (.not (.and (.le (.lit 0) (.v 4)) (.le (.v 4) (.lit 3599))))
   (.leaf ((.tup [(.int .i64 (.lit 0)), (.int .i64 (.lit 0))]), [some (26, [(.int .i64 (.v 0)), (.int .i64 (.v 1))]), some (26, [(.int .i64 (.v 2)), (.int .i64 (.v 3))]), some (26, [(.int .i64 (.v 0)), (.int .i64 (.v 1))]), some (26, [(.int .i64 (.v 2)), (.int .i64 (.v 3))])], [3, 2, 1, 0]))
   (.call 10 [(.v 4)] 1
   (.call 11 [(.add (.v 5) (.lit 900))] 1
   (.call 11 [(.v 4)] 1
   (.call 20 [(.add (.mul (.sub (.v 2) (.v 0)) (.v 6)) (.mul (.sub (.v 3) (.v 1)) (.v 7))), (.lit 10000)] 1
   (.call 20 [(.sub (.mul (.sub (.v 3) (.v 1)) (.v 6)) (.mul (.sub (.v 2) (.v 0)) (.v 7))), (.lit 10000)] 1
   (.leaf ((.tup [(.int .i64 (.v 8)), (.int .i64 (.v 9))]), [some (26, [(.int .i64 (.v 0)), (.int .i64 (.v 1))]), some (26, [(.int .i64 (.v 2)), (.int .i64 (.v 3))]), some (26, [(.int .i64 (.v 0)), (.int .i64 (.v 1))]), some (26, [(.int .i64 (.v 2)), (.int .i64 (.v 3))])], [3, 2, 1, 0]))
   )
   )
   )
   )
   )
  )
  (.leaf ((.tup [(.int .i64 (.lit 0)), (.int .i64 (.lit 0))]), [some (26, [(.int .i64 (.v 0)), (.int .i64 (.v 1))]), some (26, [(.int .i64 (.v 2)), (.int .i64 (.v 3))]), some (26, [(.int .i64 (.v 0)), (.int .i64 (.v 1))]), some (26, [(.int .i64 (.v 2)), (.int .i64 (.v 3))])], [3, 2, 1, 0]))
 )
 (.leaf ((.tup [(.int .i64 (.lit 0)), (.int .i64 (.lit 0))]), [some (26, [(.int .i64 (.v 0)), (.int .i64 (.v 1))]), some (26, [(.int .i64 (.v 2)), (.int .i64 (.v 3))]), some (26, [(.int .i64 (.v 0)), (.int .i64 (.v 1))])], [2, 1, 0]))
)
theorem t_bodR_eq : evFn Try.prog (ctxOf tab2) 100 12 48 (shsS cBod.args 0) [] ⟨rngE 0 cBod.dom, []⟩ cBod.dom.length = t_bodR := by kernel_rfl
set_option maxHeartbeats 2000000 in
theorem bodR_ok : PCOK Try.prog 48 cBod gBod := pc_of_tree ctx2_ok (Φ := f24Sig) rfl (fun _ => trivial) (by kernel_rfl) (by kernel_rfl) rfl t_bodR_eq fun xs hl hx => by
  match xs, hl with
  | [x0, x1, x2, x3, x4], _ =>
    simp [rngE, cBod, den] at hx
    simp [t_bodR, T.ok, LVal, gBod, cBod, f24Sig, f24F, gNorm, gHalf, gSin, gCos, gRoot, gRnd, gClamp, gFV, gAdd, gSub, gBox, gDist, gTurn, gBody, gSgn, gBod, RngOK, denV, denL, denB, den, retV, shsV, shV, cellV, cellsV, a0, a1, a2, a3, a4, Sh.w, fit0, fit1, fit2, fit3, fit4]
    by_cases hv : okPt x0 x1 = true ∧ okPt x2 x3 = true ∧ 0 ≤ x4 ∧ x4 < 3600
    · have g1 := of_decide_eq_true hv.1
      have g2 := of_decide_eq_true hv.2.1
      have g3 := hv.2.2
      unfold bodyS
      rw [if_pos hv]
      exact ⟨bod_rng x4 g1 g2, fun _ _ _ _ => ⟨fun _ _ _ _ => ⟨fun h => by exfalso; omega, fun _ _ => ⟨rfl, rfl⟩⟩, fun h => by exfalso; have := h (by omega) (by omega) (by omega); omega⟩, fun h => by exfalso; have := h (by omega) (by omega) (by omega); omega⟩
    · have g : ¬ ((-100000000 ≤ x0 ∧ x0 ≤ 100000000 ∧ -100000000 ≤ x1 ∧ x1 ≤ 100000000) ∧ (-100000000 ≤ x2 ∧ x2 ≤ 100000000 ∧ -100000000 ≤ x3 ∧ x3 ≤ 100000000) ∧ 0 ≤ x4 ∧ x4 < 3600) := fun h => hv ⟨decide_eq_true h.1, decide_eq_true h.2.1, h.2.2⟩
      unfold bodyS
      rw [if_neg hv]
      exact ⟨⟨⟨by decide, by decide⟩, ⟨by decide, by decide⟩, trivial⟩, fun _ _ _ _ => ⟨fun _ _ _ _ => ⟨fun _ => ⟨rfl, rfl⟩, fun _ _ => by exfalso; omega⟩, fun _ => ⟨rfl, rfl⟩⟩, fun _ => ⟨rfl, rfl⟩⟩
end Go.Proofs.Ythhaeaiheidpoaa
