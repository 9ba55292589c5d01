/- 'dynpos/dynposlaw22.WeatherBetween': the tree of its walk, and that each of its leaves is true. -/
import Derived.Test.YtapdjkiekjdgdaaWL
set_option linter.unusedSimpArgs false
set_option linter.unusedVariables false
set_option maxRecDepth 100000
namespace Go.Proofs.Ytapdjkiekjdgdaa.weatherBetween
open Go.RowKit Ev
def SS : List Sh := [.one (some .i64)]
def hints : FuncId → Nat → Option Hint := fun _ _ => none
def tree : T Leaf :=
(.ite (.lt (.lit 600) (.v 0))
 (.call 10 [] 1
 (.leaf ((.bool (.lit true)), [], []))
 )
 (.call 11 [(.mn (.v 0) (.lit 600)), (.v 1), (.lit 0)] 13
 (.call 11 [(.mn (.v 0) (.lit 600)), (.v 1), (.v 3)] 13
 (.call 11 [(.mn (.v 0) (.lit 600)), (.v 1), (.v 16)] 13
 (.call 13 [(.v 30), (.v 31), (.v 32), (.v 33), (.v 34), (.v 35), (.v 36), (.v 37), (.v 38), (.v 39), (.v 40), (.v 41)] 13
 (.call 16 [(.v 42), (.v 43), (.v 44), (.v 45), (.v 46), (.v 47), (.v 48), (.v 49), (.v 50), (.v 51), (.v 52), (.v 53), (.rem (.add (.rem (.v 2) (.lit 3600)) (.lit 3600)) (.lit 3600))] 1
 (.ite (.and (.le (.mn (.sw (.quo (.rem (.add (.rem (.v 2) (.lit 3600)) (.lit 3600)) (.lit 3600)) (.lit 300)) 0 (.v 30) (.sw (.quo (.rem (.add (.rem (.v 2) (.lit 3600)) (.lit 3600)) (.lit 3600)) (.lit 300)) 1 (.v 31) (.sw (.quo (.rem (.add (.rem (.v 2) (.lit 3600)) (.lit 3600)) (.lit 3600)) (.lit 300)) 2 (.v 32) (.sw (.quo (.rem (.add (.rem (.v 2) (.lit 3600)) (.lit 3600)) (.lit 3600)) (.lit 300)) 3 (.v 33) (.sw (.quo (.rem (.add (.rem (.v 2) (.lit 3600)) (.lit 3600)) (.lit 3600)) (.lit 300)) 4 (.v 34) (.sw (.quo (.rem (.add (.rem (.v 2) (.lit 3600)) (.lit 3600)) (.lit 3600)) (.lit 300)) 5 (.v 35) (.sw (.quo (.rem (.add (.rem (.v 2) (.lit 3600)) (.lit 3600)) (.lit 3600)) (.lit 300)) 6 (.v 36) (.sw (.quo (.rem (.add (.rem (.v 2) (.lit 3600)) (.lit 3600)) (.lit 3600)) (.lit 300)) 7 (.v 37) (.sw (.quo (.rem (.add (.rem (.v 2) (.lit 3600)) (.lit 3600)) (.lit 3600)) (.lit 300)) 8 (.v 38) (.sw (.quo (.rem (.add (.rem (.v 2) (.lit 3600)) (.lit 3600)) (.lit 3600)) (.lit 300)) 9 (.v 39) (.sw (.quo (.rem (.add (.rem (.v 2) (.lit 3600)) (.lit 3600)) (.lit 3600)) (.lit 300)) 10 (.v 40) (.v 41)))))))))))) (.sw (.rem (.add (.quo (.rem (.add (.rem (.v 2) (.lit 3600)) (.lit 3600)) (.lit 3600)) (.lit 300)) (.lit 1)) (.lit 12)) 0 (.v 30) (.sw (.rem (.add (.quo (.rem (.add (.rem (.v 2) (.lit 3600)) (.lit 3600)) (.lit 3600)) (.lit 300)) (.lit 1)) (.lit 12)) 1 (.v 31) (.sw (.rem (.add (.quo (.rem (.add (.rem (.v 2) (.lit 3600)) (.lit 3600)) (.lit 3600)) (.lit 300)) (.lit 1)) (.lit 12)) 2 (.v 32) (.sw (.rem (.add (.quo (.rem (.add (.rem (.v 2) (.lit 3600)) (.lit 3600)) (.lit 3600)) (.lit 300)) (.lit 1)) (.lit 12)) 3 (.v 33) (.sw (.rem (.add (.quo (.rem (.add (.rem (.v 2) (.lit 3600)) (.lit 3600)) (.lit 3600)) (.lit 300)) (.lit 1)) (.lit 12)) 4 (.v 34) (.sw (.rem (.add (.quo (.rem (.add (.rem (.v 2) (.lit 3600)) (.lit 3600)) (.lit 3600)) (.lit 300)) (.lit 1)) (.lit 12)) 5 (.v 35) (.sw (.rem (.add (.quo (.rem (.add (.rem (.v 2) (.lit 3600)) (.lit 3600)) (.lit 3600)) (.lit 300)) (.lit 1)) (.lit 12)) 6 (.v 36) (.sw (.rem (.add (.quo (.rem (.add (.rem (.v 2) (.lit 3600)) (.lit 3600)) (.lit 3600)) (.lit 300)) (.lit 1)) (.lit 12)) 7 (.v 37) (.sw (.rem (.add (.quo (.rem (.add (.rem (.v 2) (.lit 3600)) (.lit 3600)) (.lit 3600)) (.lit 300)) (.lit 1)) (.lit 12)) 8 (.v 38) (.sw (.rem (.add (.quo (.rem (.add (.rem (.v 2) (.lit 3600)) (.lit 3600)) (.lit 3600)) (.lit 300)) (.lit 1)) (.lit 12)) 9 (.v 39) (.sw (.rem (.add (.quo (.rem (.add (.rem (.v 2) (.lit 3600)) (.lit 3600)) (.lit 3600)) (.lit 300)) (.lit 1)) (.lit 12)) 10 (.v 40) (.v 41))))))))))))) (.v 55)) (.le (.v 55) (.mx (.sw (.quo (.rem (.add (.rem (.v 2) (.lit 3600)) (.lit 3600)) (.lit 3600)) (.lit 300)) 0 (.v 30) (.sw (.quo (.rem (.add (.rem (.v 2) (.lit 3600)) (.lit 3600)) (.lit 3600)) (.lit 300)) 1 (.v 31) (.sw (.quo (.rem (.add (.rem (.v 2) (.lit 3600)) (.lit 3600)) (.lit 3600)) (.lit 300)) 2 (.v 32) (.sw (.quo (.rem (.add (.rem (.v 2) (.lit 3600)) (.lit 3600)) (.lit 3600)) (.lit 300)) 3 (.v 33) (.sw (.quo (.rem (.add (.rem (.v 2) (.lit 3600)) (.lit 3600)) (.lit 3600)) (.lit 300)) 4 (.v 34) (.sw (.quo (.rem (.add (.rem (.v 2) (.lit 3600)) (.lit 3600)) (.lit 3600)) (.lit 300)) 5 (.v 35) (.sw (.quo (.rem (.add (.rem (.v 2) (.lit 3600)) (.lit 3600)) (.lit 3600)) (.lit 300)) 6 (.v 36) (.sw (.quo (.rem (.add (.rem (.v 2) (.lit 3600)) (.lit 3600)) (.lit 3600)) (.lit 300)) 7 (.v 37) (.sw (.quo (.rem (.add (.rem (.v 2) (.lit 3600)) (.lit 3600)) (.lit 3600)) (.lit 300)) 8 (.v 38) (.sw (.quo (.rem (.add (.rem (.v 2) (.lit 3600)) (.lit 3600)) (.lit 3600)) (.lit 300)) 9 (.v 39) (.sw (.quo (.rem (.add (.rem (.v 2) (.lit 3600)) (.lit 3600)) (.lit 3600)) (.lit 300)) 10 (.v 40) (.v 41)))))))))))) (.sw (.rem (.add (.quo (.rem (.add (.rem (.v 2) (.lit 3600)) (.lit 3600)) (.lit 3600)) (.lit 300)) (.lit 1)) (.lit 12)) 0 (.v 30) (.sw (.rem (.add (.quo (.rem (.add (.rem (.v 2) (.lit 3600)) (.lit 3600)) (.lit 3600)) (.lit 300)) (.lit 1)) (.lit 12)) 1 (.v 31) (.sw (.rem (.add (.quo (.rem (.add (.rem (.v 2) (.lit 3600)) (.lit 3600)) (.lit 3600)) (.lit 300)) (.lit 1)) (.lit 12)) 2 (.v 32) (.sw (.rem (.add (.quo (.rem (.add (.rem (.v 2) (.lit 3600)) (.lit 3600)) (.lit 3600)) (.lit 300)) (.lit 1)) (.lit 12)) 3 (.v 33) (.sw (.rem (.add (.quo (.rem (.add (.rem (.v 2) (.lit 3600)) (.lit 3600)) (.lit 3600)) (.lit 300)) (.lit 1)) (.lit 12)) 4 (.v 34) (.sw (.rem (.add (.quo (.rem (.add (.rem (.v 2) (.lit 3600)) (.lit 3600)) (.lit 3600)) (.lit 300)) (.lit 1)) (.lit 12)) 5 (.v 35) (.sw (.rem (.add (.quo (.rem (.add (.rem (.v 2) (.lit 3600)) (.lit 3600)) (.lit 3600)) (.lit 300)) (.lit 1)) (.lit 12)) 6 (.v 36) (.sw (.rem (.add (.quo (.rem (.add (.rem (.v 2) (.lit 3600)) (.lit 3600)) (.lit 3600)) (.lit 300)) (.lit 1)) (.lit 12)) 7 (.v 37) (.sw (.rem (.add (.quo (.rem (.add (.rem (.v 2) (.lit 3600)) (.lit 3600)) (.lit 3600)) (.lit 300)) (.lit 1)) (.lit 12)) 8 (.v 38) (.sw (.rem (.add (.quo (.rem (.add (.rem (.v 2) (.lit 3600)) (.lit 3600)) (.lit 3600)) (.lit 300)) (.lit 1)) (.lit 12)) 9 (.v 39) (.sw (.rem (.add (.quo (.rem (.add (.rem (.v 2) (.lit 3600)) (.lit 3600)) (.lit 3600)) (.lit 300)) (.lit 1)) (.lit 12)) 10 (.v 40) (.v 41)))))))))))))))
  (.call 16 [(.v 42), (.v 43), (.v 44), (.v 45), (.v 46), (.v 47), (.v 48), (.v 49), (.v 50), (.v 51), (.v 52), (.v 53), (.mul (.lit 300) (.quo (.rem (.add (.rem (.v 2) (.lit 3600)) (.lit 3600)) (.lit 3600)) (.lit 300)))] 1
  (.ite (.eq (.v 56) (.sw (.quo (.rem (.add (.rem (.v 2) (.lit 3600)) (.lit 3600)) (.lit 3600)) (.lit 300)) 0 (.v 30) (.sw (.quo (.rem (.add (.rem (.v 2) (.lit 3600)) (.lit 3600)) (.lit 3600)) (.lit 300)) 1 (.v 31) (.sw (.quo (.rem (.add (.rem (.v 2) (.lit 3600)) (.lit 3600)) (.lit 3600)) (.lit 300)) 2 (.v 32) (.sw (.quo (.rem (.add (.rem (.v 2) (.lit 3600)) (.lit 3600)) (.lit 3600)) (.lit 300)) 3 (.v 33) (.sw (.quo (.rem (.add (.rem (.v 2) (.lit 3600)) (.lit 3600)) (.lit 3600)) (.lit 300)) 4 (.v 34) (.sw (.quo (.rem (.add (.rem (.v 2) (.lit 3600)) (.lit 3600)) (.lit 3600)) (.lit 300)) 5 (.v 35) (.sw (.quo (.rem (.add (.rem (.v 2) (.lit 3600)) (.lit 3600)) (.lit 3600)) (.lit 300)) 6 (.v 36) (.sw (.quo (.rem (.add (.rem (.v 2) (.lit 3600)) (.lit 3600)) (.lit 3600)) (.lit 300)) 7 (.v 37) (.sw (.quo (.rem (.add (.rem (.v 2) (.lit 3600)) (.lit 3600)) (.lit 3600)) (.lit 300)) 8 (.v 38) (.sw (.quo (.rem (.add (.rem (.v 2) (.lit 3600)) (.lit 3600)) (.lit 3600)) (.lit 300)) 9 (.v 39) (.sw (.quo (.rem (.add (.rem (.v 2) (.lit 3600)) (.lit 3600)) (.lit 3600)) (.lit 300)) 10 (.v 40) (.v 41)))))))))))))
   (.call 10 [] 1
   (.leaf ((.bool (.lit true)), [], []))
   )
   (.leaf ((.bool (.lit false)), [], []))
  )
  )
  (.leaf ((.bool (.lit false)), [], []))
 )
 )
 )
 )
 )
 )
)
theorem tree_eq : (evFn Try.prog (rowCtxE (exL en19) [] hints) 60 12 3 (.sls 0 (.v 0) (.v 1) :: shsS SS 2) [] (rowFx (rngE 2 (ksRg (shsKs SS)))) (shsW SS + 2)).strip = tree := by kernel_rfl
def JJ : Nat → List Int → List Int → Prop := fun _ _ _ => True

set_option maxHeartbeats 4000000 in
theorem plain (l c : Int) (z : List Int) (g : Nat → List Int → List Int) (hg : EnOK g l c z en19) (x0 : Int) (hr : KsOK (shsKs SS) [x0]) : T.okJ JJ g LTrue [l, c, x0] tree := by
  refine okJ_ite (fun _ => okJ_c1 (by decide) fun _ _ => rfl) fun _ => ?_
  refine okJ_c13 (by decide) fun p1 _ _ _ _ _ _ _ _ _ _ _ _ _ => ?_
  refine okJ_c13 (by decide) fun p2 _ _ _ _ _ _ _ _ _ _ _ _ _ => ?_
  refine okJ_c13 (by decide) fun p3 a0 a1 a2 a3 a4 a5 a6 a7 a8 a9 a10 a11 _ => ?_
  refine okJ_c13 (by decide) fun b0 b1 b2 b3 b4 b5 b6 b7 b8 b9 b10 b11 b12 e => ?_
  have e : [b0, b1, b2, b3, b4, b5, b6, b7, b8, b9, b10, b11, b12] = fit 13 (g 13 [a0, a1, a2, a3, a4, a5, a6, a7, a8, a9, a10, a11]) := e
  rw [g13 hg] at e
  have e : [b0, b1, b2, b3, b4, b5, b6, b7, b8, b9, b10, b11, b12] = [a0, a1, a2, a3, a4, a5, a6, a7, a8, a9, a10, a11, 1] := e
  simp only [List.cons.injEq] at e
  obtain ⟨rfl, rfl, rfl, rfl, rfl, rfl, rfl, rfl, rfl, rfl, rfl, rfl, rfl, _⟩ := e
  refine okJ_c1 (by decide) fun f ef => ?_
  have ef : f = (g 16 [b0, b1, b2, b3, b4, b5, b6, b7, b8, b9, b10, b11, ((x0.tmod 3600 + 3600).tmod 3600)]).getD 0 0 := ef
  rw [g16 hg] at ef
  have ef : f = atZ b0 b1 b2 b3 b4 b5 b6 b7 b8 b9 b10 b11 ((x0.tmod 3600 + 3600).tmod 3600) := ef
  have ha : 0 ≤ (x0.tmod 3600 + 3600).tmod 3600 ∧ (x0.tmod 3600 + 3600).tmod 3600 < 3600 := by
    have h1 := Int.lt_tmod_of_pos x0 (show (0 : Int) < 3600 by omega)
    exact ⟨Int.tmod_nonneg _ (by omega), Int.tmod_lt_of_pos _ (by omega)⟩
  generalize ea : (x0.tmod 3600 + 3600).tmod 3600 = a at *
  have hm : 0 ≤ a.tmod 300 ∧ a.tmod 300 < 300 := ⟨Int.tmod_nonneg _ ha.1, Int.tmod_lt_of_pos _ (by omega)⟩
  refine okJ_ite (fun _ => okJ_c1 (by decide) fun f' ef' => ?_) fun h => ?_
  · have ef' : f' = (g 16 [b0, b1, b2, b3, b4, b5, b6, b7, b8, b9, b10, b11, 300 * ((x0.tmod 3600 + 3600).tmod 3600).tdiv 300]).getD 0 0 := ef'
    rw [g16 hg, ea] at ef'
    have ef' : f' = atZ b0 b1 b2 b3 b4 b5 b6 b7 b8 b9 b10 b11 (300 * a.tdiv 300) := ef'
    refine okJ_ite (fun _ => okJ_c1 (by decide) fun _ _ => rfl) fun h => ?_
    exfalso
    have h : decide (f' = P12 b0 b1 b2 b3 b4 b5 b6 b7 b8 b9 b10 b11 (((x0.tmod 3600 + 3600).tmod 3600).tdiv 300)) = false := h
    rw [ea] at h
    refine absurd ?_ (of_decide_eq_false h)
    rw [ef']
    unfold atZ
    rw [Int.mul_tmod_right, Int.mul_tdiv_cancel_left _ (by omega), mixZ_0]
  · exfalso
    have h : (decide ((if P12 b0 b1 b2 b3 b4 b5 b6 b7 b8 b9 b10 b11 ((((x0.tmod 3600 + 3600).tmod 3600).tdiv 300 + 1).tmod 12) < P12 b0 b1 b2 b3 b4 b5 b6 b7 b8 b9 b10 b11 (((x0.tmod 3600 + 3600).tmod 3600).tdiv 300) then P12 b0 b1 b2 b3 b4 b5 b6 b7 b8 b9 b10 b11 ((((x0.tmod 3600 + 3600).tmod 3600).tdiv 300 + 1).tmod 12) else P12 b0 b1 b2 b3 b4 b5 b6 b7 b8 b9 b10 b11 (((x0.tmod 3600 + 3600).tmod 3600).tdiv 300)) ≤ f) &&
      decide (f ≤ (if P12 b0 b1 b2 b3 b4 b5 b6 b7 b8 b9 b10 b11 (((x0.tmod 3600 + 3600).tmod 3600).tdiv 300) < P12 b0 b1 b2 b3 b4 b5 b6 b7 b8 b9 b10 b11 ((((x0.tmod 3600 + 3600).tmod 3600).tdiv 300 + 1).tmod 12) then P12 b0 b1 b2 b3 b4 b5 b6 b7 b8 b9 b10 b11 ((((x0.tmod 3600 + 3600).tmod 3600).tdiv 300 + 1).tmod 12) else P12 b0 b1 b2 b3 b4 b5 b6 b7 b8 b9 b10 b11 (((x0.tmod 3600 + 3600).tmod 3600).tdiv 300)))) = false := h
    rw [ea] at h
    have lo := fun b => mixZ_lo (x := P12 b0 b1 b2 b3 b4 b5 b6 b7 b8 b9 b10 b11 (a.tdiv 300)) (y := P12 b0 b1 b2 b3 b4 b5 b6 b7 b8 b9 b10 b11 ((a.tdiv 300 + 1).tmod 12)) (m := a.tmod 300) (b := b) hm.1 (by omega)
    have hi := fun b => mixZ_hi (x := P12 b0 b1 b2 b3 b4 b5 b6 b7 b8 b9 b10 b11 (a.tdiv 300)) (y := P12 b0 b1 b2 b3 b4 b5 b6 b7 b8 b9 b10 b11 ((a.tdiv 300 + 1).tmod 12)) (m := a.tmod 300) (b := b) hm.1 (by omega)
    unfold atZ at ef
    rw [← ef] at lo hi
    generalize P12 b0 b1 b2 b3 b4 b5 b6 b7 b8 b9 b10 b11 (a.tdiv 300) = X at *
    generalize P12 b0 b1 b2 b3 b4 b5 b6 b7 b8 b9 b10 b11 ((a.tdiv 300 + 1).tmod 12) = Y at *
    rw [Bool.and_eq_false_iff, decide_eq_false_iff_not, decide_eq_false_iff_not] at h
    rcases Int.lt_or_le Y X with hxy | hxy
    · rw [if_pos hxy, if_neg (by omega)] at h
      have := lo Y (by omega) (by omega)
      have := hi X (by omega) (by omega)
      omega
    · rw [if_neg (by omega)] at h
      have := lo X (by omega) (by omega)
      have := hi Y (by omega) (by omega)
      rcases Int.lt_or_le X Y with h2 | h2
      · rw [if_pos h2] at h; omega
      · rw [if_neg (by omega)] at h; have := hi X (by omega) (by omega); omega
theorem walk (a0 : Option Addr) (len0 cap0 : Nat) (z0 : List Int) (w : World) (w0 : IsRow .i64 w a0 len0 cap0 z0) (r : List Int) (hr : KsOK (shsKs SS) r) :
    Calls Try.prog 3 (.slice a0 len0 cap0 :: shsV SS r).toArray w fun e w' => e = .returned (.bool true) ∧ Below w.heap.size w w' := by
  match r, hr.length, hr with
  | [x0], _, hr => exact row_lawX w0 en19_con en19_kl tree_eq (fun g hg => plain _ _ z0 g hg _ hr) hr
end Go.Proofs.Ytapdjkiekjdgdaa.weatherBetween
