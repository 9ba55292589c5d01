/- 'dynpos/dynposlaw22.WeatherTurns': the tree of its walk, and that each of its leaves is true. -/
import Derived.Test.YtapdjkiekjdgdaaWL
set_option linter.unusedSimpArgs false
set_option linter.unusedVariables false
set_option maxRecDepth 100000
namespace Go.Proofs.Ytapdjkiekjdgdaa.weatherTurns
open Go.RowKit Ev
def SS : List Sh := [.one (some .i64)]
def hints : FuncId → Nat → Option Hint := fun _ _ => none
def tree1 : T Leaf :=
 (.call 19 [(.sw (.v 120) 0 (.lit 1000) (.sw (.v 120) 1 (.lit 1) (.sw (.v 120) 2 (.lit 30) (.sw (.v 120) 3 (.lit 5000) (.lit 1000000))))), (.sw (.v 122) 0 (.lit 100000) (.sw (.v 122) 1 (.lit 1) (.sw (.v 122) 2 (.lit 500) (.lit 1073741824)))), (.mn (.sw (.v 124) 0 (.lit 0) (.sw (.v 124) 1 (.lit 1) (.sw (.v 124) 2 (.quo (.sw (.v 120) 0 (.lit 1000) (.sw (.v 120) 1 (.lit 1) (.sw (.v 120) 2 (.lit 30) (.sw (.v 120) 3 (.lit 5000) (.lit 1000000))))) (.lit 10)) (.sw (.v 120) 0 (.lit 1000) (.sw (.v 120) 1 (.lit 1) (.sw (.v 120) 2 (.lit 30) (.sw (.v 120) 3 (.lit 5000) (.lit 1000000)))))))) (.sw (.v 120) 0 (.lit 1000) (.sw (.v 120) 1 (.lit 1) (.sw (.v 120) 2 (.lit 30) (.sw (.v 120) 3 (.lit 5000) (.lit 1000000)))))), (.mn (.sw (.v 126) 0 (.lit 0) (.sw (.v 126) 1 (.lit 1) (.sw (.v 126) 2 (.quo (.sw (.v 122) 0 (.lit 100000) (.sw (.v 122) 1 (.lit 1) (.sw (.v 122) 2 (.lit 500) (.lit 1073741824)))) (.lit 10)) (.sw (.v 122) 0 (.lit 100000) (.sw (.v 122) 1 (.lit 1) (.sw (.v 122) 2 (.lit 500) (.lit 1073741824))))))) (.sw (.v 122) 0 (.lit 100000) (.sw (.v 122) 1 (.lit 1) (.sw (.v 122) 2 (.lit 500) (.lit 1073741824))))), (.sw (.v 128) 0 (.lit 0) (.sw (.v 128) 1 (.lit 1) (.sw (.v 128) 2 (.lit 299) (.sw (.v 128) 3 (.lit 300) (.sw (.v 128) 4 (.lit 450) (.sw (.v 128) 5 (.lit 900) (.sw (.v 128) 6 (.lit 1800) (.sw (.v 128) 7 (.lit 2701) (.lit 3599))))))))), (.sw (.v 130) 0 (.lit 0) (.sw (.v 130) 1 (.lit 0) (.sw (.v 130) 2 (.lit 50) (.sw (.v 130) 3 (.lit 100) (.sw (.v 130) 4 (.lit 200) (.lit 1000)))))), (.sw (.v 132) 0 (.lit 0) (.sw (.v 132) 1 (.lit 1) (.sw (.v 132) 2 (.lit 299) (.sw (.v 132) 3 (.lit 300) (.sw (.v 132) 4 (.lit 450) (.sw (.v 132) 5 (.lit 900) (.sw (.v 132) 6 (.lit 1800) (.sw (.v 132) 7 (.lit 2701) (.lit 3599))))))))), (.sw (.v 134) 0 (.lit 0) (.sw (.v 134) 1 (.lit 0) (.sw (.v 134) 2 (.lit 50) (.sw (.v 134) 3 (.lit 100) (.sw (.v 134) 4 (.lit 200) (.lit 1000)))))), (.sw (.v 136) 0 (.lit 0) (.sw (.v 136) 1 (.lit 1) (.sw (.v 136) 2 (.lit 299) (.sw (.v 136) 3 (.lit 300) (.sw (.v 136) 4 (.lit 450) (.sw (.v 136) 5 (.lit 900) (.sw (.v 136) 6 (.lit 1800) (.sw (.v 136) 7 (.lit 2701) (.lit 3599))))))))), (.sw (.v 138) 0 (.lit 0) (.sw (.v 138) 1 (.lit 0) (.sw (.v 138) 2 (.lit 50) (.sw (.v 138) 3 (.lit 100) (.sw (.v 138) 4 (.lit 200) (.lit 1000)))))), (.v 140), (.v 4), (.v 5), (.v 6), (.v 7), (.v 8), (.v 9), (.v 10), (.v 11), (.v 12), (.v 13), (.v 14), (.v 15), (.v 17), (.v 18), (.v 19), (.v 20), (.v 21), (.v 22), (.v 23), (.v 24), (.v 25), (.v 26), (.v 27), (.v 28), (.v 30), (.v 31), (.v 32), (.v 33), (.v 34), (.v 35), (.v 36), (.v 37), (.v 38), (.v 39), (.v 40), (.v 41), (.v 43), (.v 44), (.v 45), (.v 46), (.v 47), (.v 48), (.v 49), (.v 50), (.v 51), (.v 52), (.v 53), (.v 54), (.v 56), (.v 57), (.v 58), (.v 59), (.v 60), (.v 61), (.v 62), (.v 63), (.v 64), (.v 65), (.v 66), (.v 67), (.v 69), (.v 70), (.v 71), (.v 72), (.v 73), (.v 74), (.v 75), (.v 76), (.v 77), (.v 78), (.v 79), (.v 80), (.v 82), (.v 83), (.v 84), (.v 85), (.v 86), (.v 87), (.v 88), (.v 89), (.v 90), (.v 91), (.v 92), (.v 93), (.v 95), (.v 96), (.v 97), (.v 98), (.v 99), (.v 100), (.v 101), (.v 102), (.v 103), (.v 104), (.v 105), (.v 106), (.v 108), (.v 109), (.v 110), (.v 111), (.v 112), (.v 113), (.v 114), (.v 115), (.v 116), (.v 117), (.v 118), (.v 119)] 4
 (.call 19 [(.sw (.v 120) 0 (.lit 1000) (.sw (.v 120) 1 (.lit 1) (.sw (.v 120) 2 (.lit 30) (.sw (.v 120) 3 (.lit 5000) (.lit 1000000))))), (.sw (.v 122) 0 (.lit 100000) (.sw (.v 122) 1 (.lit 1) (.sw (.v 122) 2 (.lit 500) (.lit 1073741824)))), (.mn (.sw (.v 124) 0 (.lit 0) (.sw (.v 124) 1 (.lit 1) (.sw (.v 124) 2 (.quo (.sw (.v 120) 0 (.lit 1000) (.sw (.v 120) 1 (.lit 1) (.sw (.v 120) 2 (.lit 30) (.sw (.v 120) 3 (.lit 5000) (.lit 1000000))))) (.lit 10)) (.sw (.v 120) 0 (.lit 1000) (.sw (.v 120) 1 (.lit 1) (.sw (.v 120) 2 (.lit 30) (.sw (.v 120) 3 (.lit 5000) (.lit 1000000)))))))) (.sw (.v 120) 0 (.lit 1000) (.sw (.v 120) 1 (.lit 1) (.sw (.v 120) 2 (.lit 30) (.sw (.v 120) 3 (.lit 5000) (.lit 1000000)))))), (.mn (.sw (.v 126) 0 (.lit 0) (.sw (.v 126) 1 (.lit 1) (.sw (.v 126) 2 (.quo (.sw (.v 122) 0 (.lit 100000) (.sw (.v 122) 1 (.lit 1) (.sw (.v 122) 2 (.lit 500) (.lit 1073741824)))) (.lit 10)) (.sw (.v 122) 0 (.lit 100000) (.sw (.v 122) 1 (.lit 1) (.sw (.v 122) 2 (.lit 500) (.lit 1073741824))))))) (.sw (.v 122) 0 (.lit 100000) (.sw (.v 122) 1 (.lit 1) (.sw (.v 122) 2 (.lit 500) (.lit 1073741824))))), (.rem (.add (.sw (.v 128) 0 (.lit 0) (.sw (.v 128) 1 (.lit 1) (.sw (.v 128) 2 (.lit 299) (.sw (.v 128) 3 (.lit 300) (.sw (.v 128) 4 (.lit 450) (.sw (.v 128) 5 (.lit 900) (.sw (.v 128) 6 (.lit 1800) (.sw (.v 128) 7 (.lit 2701) (.lit 3599))))))))) (.rem (.add (.rem (.v 2) (.lit 3600)) (.lit 3600)) (.lit 3600))) (.lit 3600)), (.sw (.v 130) 0 (.lit 0) (.sw (.v 130) 1 (.lit 0) (.sw (.v 130) 2 (.lit 50) (.sw (.v 130) 3 (.lit 100) (.sw (.v 130) 4 (.lit 200) (.lit 1000)))))), (.rem (.add (.sw (.v 132) 0 (.lit 0) (.sw (.v 132) 1 (.lit 1) (.sw (.v 132) 2 (.lit 299) (.sw (.v 132) 3 (.lit 300) (.sw (.v 132) 4 (.lit 450) (.sw (.v 132) 5 (.lit 900) (.sw (.v 132) 6 (.lit 1800) (.sw (.v 132) 7 (.lit 2701) (.lit 3599))))))))) (.rem (.add (.rem (.v 2) (.lit 3600)) (.lit 3600)) (.lit 3600))) (.lit 3600)), (.sw (.v 134) 0 (.lit 0) (.sw (.v 134) 1 (.lit 0) (.sw (.v 134) 2 (.lit 50) (.sw (.v 134) 3 (.lit 100) (.sw (.v 134) 4 (.lit 200) (.lit 1000)))))), (.rem (.add (.sw (.v 136) 0 (.lit 0) (.sw (.v 136) 1 (.lit 1) (.sw (.v 136) 2 (.lit 299) (.sw (.v 136) 3 (.lit 300) (.sw (.v 136) 4 (.lit 450) (.sw (.v 136) 5 (.lit 900) (.sw (.v 136) 6 (.lit 1800) (.sw (.v 136) 7 (.lit 2701) (.lit 3599))))))))) (.rem (.add (.rem (.v 2) (.lit 3600)) (.lit 3600)) (.lit 3600))) (.lit 3600)), (.sw (.v 138) 0 (.lit 0) (.sw (.v 138) 1 (.lit 0) (.sw (.v 138) 2 (.lit 50) (.sw (.v 138) 3 (.lit 100) (.sw (.v 138) 4 (.lit 200) (.lit 1000)))))), (.rem (.add (.v 140) (.rem (.add (.rem (.v 2) (.lit 3600)) (.lit 3600)) (.lit 3600))) (.lit 3600)), (.v 4), (.v 5), (.v 6), (.v 7), (.v 8), (.v 9), (.v 10), (.v 11), (.v 12), (.v 13), (.v 14), (.v 15), (.v 17), (.v 18), (.v 19), (.v 20), (.v 21), (.v 22), (.v 23), (.v 24), (.v 25), (.v 26), (.v 27), (.v 28), (.v 30), (.v 31), (.v 32), (.v 33), (.v 34), (.v 35), (.v 36), (.v 37), (.v 38), (.v 39), (.v 40), (.v 41), (.v 43), (.v 44), (.v 45), (.v 46), (.v 47), (.v 48), (.v 49), (.v 50), (.v 51), (.v 52), (.v 53), (.v 54), (.v 56), (.v 57), (.v 58), (.v 59), (.v 60), (.v 61), (.v 62), (.v 63), (.v 64), (.v 65), (.v 66), (.v 67), (.v 69), (.v 70), (.v 71), (.v 72), (.v 73), (.v 74), (.v 75), (.v 76), (.v 77), (.v 78), (.v 79), (.v 80), (.v 82), (.v 83), (.v 84), (.v 85), (.v 86), (.v 87), (.v 88), (.v 89), (.v 90), (.v 91), (.v 92), (.v 93), (.v 95), (.v 96), (.v 97), (.v 98), (.v 99), (.v 100), (.v 101), (.v 102), (.v 103), (.v 104), (.v 105), (.v 106), (.v 108), (.v 109), (.v 110), (.v 111), (.v 112), (.v 113), (.v 114), (.v 115), (.v 116), (.v 117), (.v 118), (.v 119)] 4
 (.ite (.and (.eq (.v 142) (.v 146)) (.and (.eq (.v 143) (.v 147)) (.eq (.v 144) (.v 148))))
  (.call 10 [] 1
  (.leaf ((.bool (.lit true)), [], []))
  )
  (.leaf ((.bool (.lit false)), [], []))
 )
 )
 )
 
def tree2 : T Leaf :=
 (.call 900 [(.lit 3600), (.mn (.v 0) (.lit 600)), (.v 139)] 2
tree1)
 
def tree3 : T Leaf :=
 (.call 900 [(.lit 6), (.mn (.v 0) (.lit 600)), (.v 137)] 2
tree2)
 
def tree4 : T Leaf :=
 (.call 900 [(.lit 9), (.mn (.v 0) (.lit 600)), (.v 135)] 2
tree3)
 
def tree5 : T Leaf :=
 (.call 900 [(.lit 6), (.mn (.v 0) (.lit 600)), (.v 133)] 2
tree4)
 
def tree6 : T Leaf :=
 (.call 900 [(.lit 9), (.mn (.v 0) (.lit 600)), (.v 131)] 2
tree5)
 
def tree7 : T Leaf :=
 (.call 900 [(.lit 6), (.mn (.v 0) (.lit 600)), (.v 129)] 2
tree6)
 
def tree8 : T Leaf :=
 (.call 900 [(.lit 9), (.mn (.v 0) (.lit 600)), (.v 127)] 2
tree7)
 
def tree9 : T Leaf :=
 (.call 900 [(.lit 4), (.mn (.v 0) (.lit 600)), (.v 125)] 2
tree8)
 
def tree10 : T Leaf :=
 (.call 900 [(.lit 4), (.mn (.v 0) (.lit 600)), (.v 123)] 2
tree9)
 
def tree11 : T Leaf :=
 (.call 900 [(.lit 4), (.mn (.v 0) (.lit 600)), (.v 121)] 2
tree10)
 
def tree : T Leaf :=
(.ite (.lt (.lit 600) (.v 0))
 (.call 10 [] 1
 (.leaf ((.bool (.lit true)), [], []))
 )
 (.call 11 [(.mn (.v 0) (.lit 600)), (.v 1), (.lit 0)] 13
 (.call 11 [(.mn (.v 0) (.lit 600)), (.v 1), (.v 3)] 13
 (.call 11 [(.mn (.v 0) (.lit 600)), (.v 1), (.v 16)] 13
 (.call 11 [(.mn (.v 0) (.lit 600)), (.v 1), (.v 29)] 13
 (.call 11 [(.mn (.v 0) (.lit 600)), (.v 1), (.v 42)] 13
 (.call 11 [(.mn (.v 0) (.lit 600)), (.v 1), (.v 55)] 13
 (.call 11 [(.mn (.v 0) (.lit 600)), (.v 1), (.v 68)] 13
 (.call 11 [(.mn (.v 0) (.lit 600)), (.v 1), (.v 81)] 13
 (.call 11 [(.mn (.v 0) (.lit 600)), (.v 1), (.v 94)] 13
 (.call 900 [(.lit 5), (.mn (.v 0) (.lit 600)), (.v 107)] 2
tree11)
 )
 )
 )
 )
 )
 )
 )
 )
 )
)
theorem tree_eq : (evFn Try.prog (rowCtxE (exL en19) [] hints) 60 12 7 (.sls 0 (.v 0) (.v 1) :: shsS SS 2) [] (rowFx (rngE 2 (ksRg (shsKs SS)))) (shsW SS + 2)).strip = tree := by kernel_rfl
def JJ : Nat → List Int → List Int → Prop := fun _ _ _ => True
theorem modK_nn (x : Int) : 0 ≤ (x.tmod 3600 + 3600).tmod 3600 := by
  have h1 := Int.lt_tmod_of_pos x (show (0 : Int) < 3600 by omega)
  exact Int.tmod_nonneg _ (by omega)
theorem mem11 (k : Nat) : memN (k + 11) [4, 6, 8, 10] = false := by
  cases hm : memN (k + 11) [4, 6, 8, 10] with
  | false => rfl
  | true => have := memN_iff.1 hm; simp at this
theorem fin {l c : Int} {z : List Int} {g : Nat → List Int → List Int} (hg : EnOK g l c z en19) {ρ s : List Int} {es es' : List E} {n : Nat} {K : E} {X0 X1 X2 Y0 Y1 Y2 : Int}
    (e0 : X0 = (g 19 (es.map (den ρ))).getD 0 0) (e1 : X1 = (g 19 (es.map (den ρ))).getD 1 0) (e2 : X2 = (g 19 (es.map (den ρ))).getD 2 0)
    (k0 : Y0 = (g 19 (es'.map (den (ρ ++ s)))).getD 0 0) (k1 : Y1 = (g 19 (es'.map (den (ρ ++ s)))).getD 1 0) (k2 : Y2 = (g 19 (es'.map (den (ρ ++ s)))).getD 2 0)
    (hl : ρ.length = n) (hc : es.all (clE n) = true) (h : sameBut [4, 6, 8, 10] 0 es' es = true) (len : es.length = 119) (len' : es'.length = 119)
    (h4 : es'.getD 4 (.lit 0) = .rem (.add (es.getD 4 (.lit 0)) K) (.lit 3600)) (h6 : es'.getD 6 (.lit 0) = .rem (.add (es.getD 6 (.lit 0)) K) (.lit 3600)) (h8 : es'.getD 8 (.lit 0) = .rem (.add (es.getD 8 (.lit 0)) K) (.lit 3600))
    (h10 : es'.getD 10 (.lit 0) = .rem (.add (es.getD 10 (.lit 0)) K) (.lit 3600)) (n4 : 0 ≤ den ρ (es.getD 4 (.lit 0))) (n6 : 0 ≤ den ρ (es.getD 6 (.lit 0))) (n8 : 0 ≤ den ρ (es.getD 8 (.lit 0))) (n10 : 0 ≤ den ρ (es.getD 10 (.lit 0)))
    (nK : 0 ≤ den (ρ ++ s) K) : X0 = Y0 ∧ X1 = Y1 ∧ X2 = Y2 := by
  have cl : ∀ j, j < 119 → den (ρ ++ s) (es.getD j (.lit 0)) = den ρ (es.getD j (.lit 0)) := fun j hj => by
    have e : es.getD j (.lit 0) = es[j] := by simp [List.getD_eq_getElem?_getD, List.getElem?_eq_getElem (show j < es.length by omega)]
    rw [e]
    exact clE_ok (List.all_eq_true.1 hc _ (List.getElem_mem _)) (by omega) _
  have key : g 19 (es'.map (den (ρ ++ s))) = g 19 (es.map (den ρ)) := by
    rw [g19x hg (by rw [List.length_map, len']), g19x hg (by rw [List.length_map, len])]
    have hC : (fun k => (es'.map (den (ρ ++ s))).getD (k + 11) 0) = fun k => (es.map (den ρ)).getD (k + 11) 0 := funext fun k => map_same hl hc h (k + 11) (mem11 k)
    rw [hC, map_same hl hc h 5 rfl, map_same hl hc h 7 rfl, map_same hl hc h 9 rfl]
    have a4 : (es'.map (den (ρ ++ s))).getD 4 0 = (den ρ (es.getD 4 (.lit 0)) + den (ρ ++ s) K).tmod 3600 := by rw [← getD_den, h4]; simp only [den, cl 4 (by omega)]
    have a6 : (es'.map (den (ρ ++ s))).getD 6 0 = (den ρ (es.getD 6 (.lit 0)) + den (ρ ++ s) K).tmod 3600 := by rw [← getD_den, h6]; simp only [den, cl 6 (by omega)]
    have a8 : (es'.map (den (ρ ++ s))).getD 8 0 = (den ρ (es.getD 8 (.lit 0)) + den (ρ ++ s) K).tmod 3600 := by rw [← getD_den, h8]; simp only [den, cl 8 (by omega)]
    have a10 : (es'.map (den (ρ ++ s))).getD 10 0 = (den ρ (es.getD 10 (.lit 0)) + den (ρ ++ s) K).tmod 3600 := by rw [← getD_den, h10]; simp only [den, cl 10 (by omega)]
    rw [a4, a6, a8, a10, ← getD_den ρ es 4, ← getD_den ρ es 6, ← getD_den ρ es 8, ← getD_den ρ es 10]
    unfold tot
    rw [turn_eq n4 n10 nK, turn_eq n6 n10 nK, turn_eq n8 n10 nK]
  rw [e0, e1, e2, k0, k1, k2, key]
  exact ⟨rfl, rfl, rfl⟩

set_option maxHeartbeats 4000000 in
theorem plain (l c : Int) (z : List Int) (g : Nat → List Int → List Int) (hg : EnOK g l c z en19) (x0 : Int) (hr : KsOK (shsKs SS) [x0]) : T.okJ JJ g LTrue [l, c, x0] tree := by
  unfold tree
  refine okJ_ite (fun _ => okJ_c1 (by decide) fun _ _ => rfl) fun _ => ?_
  refine okJ_L (n := 3) rfl (by decide) fun r0 h0 => ?_
  refine okJ_L (n := 16) h0 (by decide) fun r1 h1 => ?_
  refine okJ_L (n := 29) h1 (by decide) fun r2 h2 => ?_
  refine okJ_L (n := 42) h2 (by decide) fun r3 h3 => ?_
  refine okJ_L (n := 55) h3 (by decide) fun r4 h4 => ?_
  refine okJ_L (n := 68) h4 (by decide) fun r5 h5 => ?_
  refine okJ_L (n := 81) h5 (by decide) fun r6 h6 => ?_
  refine okJ_L (n := 94) h6 (by decide) fun r7 h7 => ?_
  refine okJ_L (n := 107) h7 (by decide) fun r8 h8 => ?_
  refine okJ_S (n := 120) h8 fun r9 h9 => ?_
  unfold tree11
  refine okJ_S (n := 122) h9 fun r10 h10 => ?_
  unfold tree10
  refine okJ_S (n := 124) h10 fun r11 h11 => ?_
  unfold tree9
  refine okJ_S (n := 126) h11 fun r12 h12 => ?_
  unfold tree8
  refine okJ_S (n := 128) h12 fun r13 h13 => ?_
  unfold tree7
  refine okJ_S (n := 130) h13 fun r14 h14 => ?_
  unfold tree6
  refine okJ_S (n := 132) h14 fun r15 h15 => ?_
  unfold tree5
  refine okJ_S (n := 134) h15 fun r16 h16 => ?_
  unfold tree4
  refine okJ_S (n := 136) h16 fun r17 h17 => ?_
  unfold tree3
  refine okJ_S (n := 138) h17 fun r18 h18 => ?_
  unfold tree2
  refine okJ_src fun hd u hd0 _ => ?_
  have hl : (r18 ++ [hd, u]).length = 142 := by rw [List.length_append, h18]; rfl
  have h140 : 0 ≤ (r18 ++ [hd, u]).getD 140 0 := by rw [getD_app h18]; exact hd0
  generalize r18 ++ [hd, u] = ρ at hl h140 ⊢
  unfold tree1
  refine okJ_c4 (by decide) fun X0 X1 X2 X3 e0 e1 e2 _ => ?_
  refine okJ_c4 (by decide) fun Y0 Y1 Y2 Y3 k0 k1 k2 _ => ?_
  obtain ⟨q0, q1, q2⟩ := fin hg e0 e1 e2 k0 k1 k2 hl (by kernel_rfl) (by kernel_rfl) rfl rfl rfl rfl rfl rfl (AngZ_nn _) (AngZ_nn _) (AngZ_nn _) h140 (modK_nn _)
  refine okJ_ite (fun _ => okJ_c1 (by decide) fun _ _ => rfl) fun h => ?_
  exfalso
  have h : (decide ((ρ ++ [X0, X1, X2, X3] ++ [Y0, Y1, Y2, Y3]).getD 142 0 = (ρ ++ [X0, X1, X2, X3] ++ [Y0, Y1, Y2, Y3]).getD 146 0) && (decide ((ρ ++ [X0, X1, X2, X3] ++ [Y0, Y1, Y2, Y3]).getD 143 0 = (ρ ++ [X0, X1, X2, X3] ++ [Y0, Y1, Y2, Y3]).getD 147 0) && decide ((ρ ++ [X0, X1, X2, X3] ++ [Y0, Y1, Y2, Y3]).getD 144 0 = (ρ ++ [X0, X1, X2, X3] ++ [Y0, Y1, Y2, Y3]).getD 148 0))) = false := h
  rw [List.append_assoc] at h
  simp only [List.cons_append, List.nil_append, List.getD_eq_getElem?_getD, List.getElem?_append_right (show ρ.length ≤ 142 by omega), List.getElem?_append_right (show ρ.length ≤ 143 by omega), List.getElem?_append_right (show ρ.length ≤ 144 by omega), List.getElem?_append_right (show ρ.length ≤ 146 by omega), List.getElem?_append_right (show ρ.length ≤ 147 by omega), List.getElem?_append_right (show ρ.length ≤ 148 by omega), hl] at h
  simp [q0, q1, q2] at h
theorem walk (a0 : Option Addr) (len0 cap0 : Nat) (z0 : List Int) (w : World) (w0 : IsRow .i64 w a0 len0 cap0 z0) (r : List Int) (hr : KsOK (shsKs SS) r) :
    Calls Try.prog 7 (.slice a0 len0 cap0 :: shsV SS r).toArray w fun e w' => e = .returned (.bool true) ∧ Below w.heap.size w w' := by
  match r, hr.length, hr with
  | [x0], _, hr => exact row_lawX w0 en19_con en19_kl tree_eq (fun g hg => plain _ _ z0 g hg _ hr) hr
end Go.Proofs.Ytapdjkiekjdgdaa.weatherTurns
