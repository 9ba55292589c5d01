/- 'dynpos/dynposlaw09.FuseBound': the tree of its walk, and that each of its leaves is true. -/
import Derived.Test.YtcedkkleclhglaaFL
set_option linter.unusedSimpArgs false
set_option linter.unusedVariables false
set_option maxRecDepth 100000
namespace Go.Proofs.Ytcedkkleclhglaa.fuseBound
open Go.RowKit Ev
def SS : List Sh := []
def hints : FuncId → Nat → Option Hint := fun _ _ => none
def tree : T Leaf :=
(.call 900 [(.lit 6), (.mn (.v 0) (.lit 600)), (.lit 0)] 2
(.ite (.lt (.lit 0) (.v 2))
 (.call 11 [(.lit 0), (.mn (.v 0) (.lit 600)), (.v 1), (.v 3)] 5
 (.ite (.lt (.lit 0) (.sub (.v 2) (.lit 1)))
  (.call 11 [(.lit 0), (.mn (.v 0) (.lit 600)), (.v 1), (.v 8)] 5
  (.ite (.lt (.lit 0) (.sub (.sub (.v 2) (.lit 1)) (.lit 1)))
   (.call 11 [(.lit 0), (.mn (.v 0) (.lit 600)), (.v 1), (.v 13)] 5
   (.ite (.lt (.lit 0) (.sub (.sub (.sub (.v 2) (.lit 1)) (.lit 1)) (.lit 1)))
    (.call 11 [(.lit 0), (.mn (.v 0) (.lit 600)), (.v 1), (.v 18)] 5
    (.ite (.lt (.lit 0) (.sub (.sub (.sub (.sub (.v 2) (.lit 1)) (.lit 1)) (.lit 1)) (.lit 1)))
     (.call 11 [(.lit 0), (.mn (.v 0) (.lit 600)), (.v 1), (.v 23)] 5
     (.call 900 [(.lit 5), (.mn (.v 0) (.lit 600)), (.v 28)] 2
     (.call 900 [(.add (.sub (.sw (.v 29) 0 (.v 7) (.sw (.v 29) 1 (.v 12) (.sw (.v 29) 2 (.v 17) (.sw (.v 29) 3 (.v 22) (.v 27))))) (.sub (.lit 0) (.sw (.v 29) 0 (.v 7) (.sw (.v 29) 1 (.v 12) (.sw (.v 29) 2 (.v 17) (.sw (.v 29) 3 (.v 22) (.v 27))))))) (.lit 1)), (.mn (.v 0) (.lit 600)), (.v 30)] 2
     (.call 900 [(.add (.sub (.sw (.v 29) 0 (.v 7) (.sw (.v 29) 1 (.v 12) (.sw (.v 29) 2 (.v 17) (.sw (.v 29) 3 (.v 22) (.v 27))))) (.sub (.lit 0) (.sw (.v 29) 0 (.v 7) (.sw (.v 29) 1 (.v 12) (.sw (.v 29) 2 (.v 17) (.sw (.v 29) 3 (.v 22) (.v 27))))))) (.lit 1)), (.mn (.v 0) (.lit 600)), (.v 32)] 2
     (.call 25 [(.v 4), (.v 5), (.v 6), (.v 7), (.v 9), (.v 10), (.v 11), (.v 12), (.v 14), (.v 15), (.v 16), (.v 17), (.v 19), (.v 20), (.v 21), (.v 22), (.v 24), (.v 25), (.v 26), (.v 27)] 4
     (.ite (.and (.and (.and (.le (.sub (.add (.sw (.v 29) 0 (.v 5) (.sw (.v 29) 1 (.v 10) (.sw (.v 29) 2 (.v 15) (.sw (.v 29) 3 (.v 20) (.v 25))))) (.add (.sub (.lit 0) (.sw (.v 29) 0 (.v 7) (.sw (.v 29) 1 (.v 12) (.sw (.v 29) 2 (.v 17) (.sw (.v 29) 3 (.v 22) (.v 27)))))) (.v 31))) (.v 35)) (.v 37)) (.le (.sub (.v 35) (.add (.sw (.v 29) 0 (.v 5) (.sw (.v 29) 1 (.v 10) (.sw (.v 29) 2 (.v 15) (.sw (.v 29) 3 (.v 20) (.v 25))))) (.add (.sub (.lit 0) (.sw (.v 29) 0 (.v 7) (.sw (.v 29) 1 (.v 12) (.sw (.v 29) 2 (.v 17) (.sw (.v 29) 3 (.v 22) (.v 27)))))) (.v 31)))) (.v 37))) (.le (.sub (.add (.sw (.v 29) 0 (.v 6) (.sw (.v 29) 1 (.v 11) (.sw (.v 29) 2 (.v 16) (.sw (.v 29) 3 (.v 21) (.v 26))))) (.add (.sub (.lit 0) (.sw (.v 29) 0 (.v 7) (.sw (.v 29) 1 (.v 12) (.sw (.v 29) 2 (.v 17) (.sw (.v 29) 3 (.v 22) (.v 27)))))) (.v 33))) (.v 36)) (.v 37))) (.le (.sub (.v 36) (.add (.sw (.v 29) 0 (.v 6) (.sw (.v 29) 1 (.v 11) (.sw (.v 29) 2 (.v 16) (.sw (.v 29) 3 (.v 21) (.v 26))))) (.add (.sub (.lit 0) (.sw (.v 29) 0 (.v 7) (.sw (.v 29) 1 (.v 12) (.sw (.v 29) 2 (.v 17) (.sw (.v 29) 3 (.v 22) (.v 27)))))) (.v 33)))) (.v 37)))
      (.call 10 [] 1
      (.leaf ((.bool (.lit true)), [], []))
      )
      (.leaf ((.bool (.lit false)), [], []))
     )
     )
     )
     )
     )
     )
     (.call 900 [(.lit 4), (.mn (.v 0) (.lit 600)), (.v 23)] 2
     (.call 900 [(.add (.sub (.sw (.v 24) 0 (.v 7) (.sw (.v 24) 1 (.v 12) (.sw (.v 24) 2 (.v 17) (.v 22)))) (.sub (.lit 0) (.sw (.v 24) 0 (.v 7) (.sw (.v 24) 1 (.v 12) (.sw (.v 24) 2 (.v 17) (.v 22)))))) (.lit 1)), (.mn (.v 0) (.lit 600)), (.v 25)] 2
     (.call 900 [(.add (.sub (.sw (.v 24) 0 (.v 7) (.sw (.v 24) 1 (.v 12) (.sw (.v 24) 2 (.v 17) (.v 22)))) (.sub (.lit 0) (.sw (.v 24) 0 (.v 7) (.sw (.v 24) 1 (.v 12) (.sw (.v 24) 2 (.v 17) (.v 22)))))) (.lit 1)), (.mn (.v 0) (.lit 600)), (.v 27)] 2
     (.call 24 [(.v 4), (.v 5), (.v 6), (.v 7), (.v 9), (.v 10), (.v 11), (.v 12), (.v 14), (.v 15), (.v 16), (.v 17), (.v 19), (.v 20), (.v 21), (.v 22)] 4
     (.ite (.and (.and (.and (.le (.sub (.add (.sw (.v 24) 0 (.v 5) (.sw (.v 24) 1 (.v 10) (.sw (.v 24) 2 (.v 15) (.v 20)))) (.add (.sub (.lit 0) (.sw (.v 24) 0 (.v 7) (.sw (.v 24) 1 (.v 12) (.sw (.v 24) 2 (.v 17) (.v 22))))) (.v 26))) (.v 30)) (.v 32)) (.le (.sub (.v 30) (.add (.sw (.v 24) 0 (.v 5) (.sw (.v 24) 1 (.v 10) (.sw (.v 24) 2 (.v 15) (.v 20)))) (.add (.sub (.lit 0) (.sw (.v 24) 0 (.v 7) (.sw (.v 24) 1 (.v 12) (.sw (.v 24) 2 (.v 17) (.v 22))))) (.v 26)))) (.v 32))) (.le (.sub (.add (.sw (.v 24) 0 (.v 6) (.sw (.v 24) 1 (.v 11) (.sw (.v 24) 2 (.v 16) (.v 21)))) (.add (.sub (.lit 0) (.sw (.v 24) 0 (.v 7) (.sw (.v 24) 1 (.v 12) (.sw (.v 24) 2 (.v 17) (.v 22))))) (.v 28))) (.v 31)) (.v 32))) (.le (.sub (.v 31) (.add (.sw (.v 24) 0 (.v 6) (.sw (.v 24) 1 (.v 11) (.sw (.v 24) 2 (.v 16) (.v 21)))) (.add (.sub (.lit 0) (.sw (.v 24) 0 (.v 7) (.sw (.v 24) 1 (.v 12) (.sw (.v 24) 2 (.v 17) (.v 22))))) (.v 28)))) (.v 32)))
      (.call 10 [] 1
      (.leaf ((.bool (.lit true)), [], []))
      )
      (.leaf ((.bool (.lit false)), [], []))
     )
     )
     )
     )
     )
    )
    )
    (.call 900 [(.lit 3), (.mn (.v 0) (.lit 600)), (.v 18)] 2
    (.call 900 [(.add (.sub (.sw (.v 19) 0 (.v 7) (.sw (.v 19) 1 (.v 12) (.v 17))) (.sub (.lit 0) (.sw (.v 19) 0 (.v 7) (.sw (.v 19) 1 (.v 12) (.v 17))))) (.lit 1)), (.mn (.v 0) (.lit 600)), (.v 20)] 2
    (.call 900 [(.add (.sub (.sw (.v 19) 0 (.v 7) (.sw (.v 19) 1 (.v 12) (.v 17))) (.sub (.lit 0) (.sw (.v 19) 0 (.v 7) (.sw (.v 19) 1 (.v 12) (.v 17))))) (.lit 1)), (.mn (.v 0) (.lit 600)), (.v 22)] 2
    (.call 23 [(.v 4), (.v 5), (.v 6), (.v 7), (.v 9), (.v 10), (.v 11), (.v 12), (.v 14), (.v 15), (.v 16), (.v 17)] 4
    (.ite (.and (.and (.and (.le (.sub (.add (.sw (.v 19) 0 (.v 5) (.sw (.v 19) 1 (.v 10) (.v 15))) (.add (.sub (.lit 0) (.sw (.v 19) 0 (.v 7) (.sw (.v 19) 1 (.v 12) (.v 17)))) (.v 21))) (.v 25)) (.v 27)) (.le (.sub (.v 25) (.add (.sw (.v 19) 0 (.v 5) (.sw (.v 19) 1 (.v 10) (.v 15))) (.add (.sub (.lit 0) (.sw (.v 19) 0 (.v 7) (.sw (.v 19) 1 (.v 12) (.v 17)))) (.v 21)))) (.v 27))) (.le (.sub (.add (.sw (.v 19) 0 (.v 6) (.sw (.v 19) 1 (.v 11) (.v 16))) (.add (.sub (.lit 0) (.sw (.v 19) 0 (.v 7) (.sw (.v 19) 1 (.v 12) (.v 17)))) (.v 23))) (.v 26)) (.v 27))) (.le (.sub (.v 26) (.add (.sw (.v 19) 0 (.v 6) (.sw (.v 19) 1 (.v 11) (.v 16))) (.add (.sub (.lit 0) (.sw (.v 19) 0 (.v 7) (.sw (.v 19) 1 (.v 12) (.v 17)))) (.v 23)))) (.v 27)))
     (.call 10 [] 1
     (.leaf ((.bool (.lit true)), [], []))
     )
     (.leaf ((.bool (.lit false)), [], []))
    )
    )
    )
    )
    )
   )
   )
   (.call 900 [(.lit 2), (.mn (.v 0) (.lit 600)), (.v 13)] 2
   (.call 900 [(.add (.sub (.sw (.v 14) 0 (.v 7) (.v 12)) (.sub (.lit 0) (.sw (.v 14) 0 (.v 7) (.v 12)))) (.lit 1)), (.mn (.v 0) (.lit 600)), (.v 15)] 2
   (.call 900 [(.add (.sub (.sw (.v 14) 0 (.v 7) (.v 12)) (.sub (.lit 0) (.sw (.v 14) 0 (.v 7) (.v 12)))) (.lit 1)), (.mn (.v 0) (.lit 600)), (.v 17)] 2
   (.call 22 [(.v 4), (.v 5), (.v 6), (.v 7), (.v 9), (.v 10), (.v 11), (.v 12)] 4
   (.ite (.and (.and (.and (.le (.sub (.add (.sw (.v 14) 0 (.v 5) (.v 10)) (.add (.sub (.lit 0) (.sw (.v 14) 0 (.v 7) (.v 12))) (.v 16))) (.v 20)) (.v 22)) (.le (.sub (.v 20) (.add (.sw (.v 14) 0 (.v 5) (.v 10)) (.add (.sub (.lit 0) (.sw (.v 14) 0 (.v 7) (.v 12))) (.v 16)))) (.v 22))) (.le (.sub (.add (.sw (.v 14) 0 (.v 6) (.v 11)) (.add (.sub (.lit 0) (.sw (.v 14) 0 (.v 7) (.v 12))) (.v 18))) (.v 21)) (.v 22))) (.le (.sub (.v 21) (.add (.sw (.v 14) 0 (.v 6) (.v 11)) (.add (.sub (.lit 0) (.sw (.v 14) 0 (.v 7) (.v 12))) (.v 18)))) (.v 22)))
    (.call 10 [] 1
    (.leaf ((.bool (.lit true)), [], []))
    )
    (.leaf ((.bool (.lit false)), [], []))
   )
   )
   )
   )
   )
  )
  )
  (.call 900 [(.lit 1), (.mn (.v 0) (.lit 600)), (.v 8)] 2
  (.call 900 [(.add (.sub (.v 7) (.sub (.lit 0) (.v 7))) (.lit 1)), (.mn (.v 0) (.lit 600)), (.v 10)] 2
  (.call 900 [(.add (.sub (.v 7) (.sub (.lit 0) (.v 7))) (.lit 1)), (.mn (.v 0) (.lit 600)), (.v 12)] 2
  (.call 21 [(.v 4), (.v 5), (.v 6), (.v 7)] 4
  (.ite (.and (.and (.and (.le (.sub (.add (.v 5) (.add (.sub (.lit 0) (.v 7)) (.v 11))) (.v 15)) (.v 17)) (.le (.sub (.v 15) (.add (.v 5) (.add (.sub (.lit 0) (.v 7)) (.v 11)))) (.v 17))) (.le (.sub (.add (.v 6) (.add (.sub (.lit 0) (.v 7)) (.v 13))) (.v 16)) (.v 17))) (.le (.sub (.v 16) (.add (.v 6) (.add (.sub (.lit 0) (.v 7)) (.v 13)))) (.v 17)))
   (.call 10 [] 1
   (.leaf ((.bool (.lit true)), [], []))
   )
   (.leaf ((.bool (.lit false)), [], []))
  )
  )
  )
  )
  )
 )
 )
 (.call 10 [] 1
 (.leaf ((.bool (.lit true)), [], []))
 )
)
)
theorem tree_eq : (evFn Try.prog (rowCtxE (exL en25) [] hints) 60 12 4 (.sls 0 (.v 0) (.v 1) :: shsS SS 2) [] (rowFx (rngE 2 (ksRg (shsKs SS)))) (shsW SS + 2)).strip = tree := by kernel_rfl
def JJ : Nat → List Int → List Int → Prop := fun _ _ _ => True
theorem fix_c {l c : Int} {z : List Int} {g : Nat → List Int → List Int} (hg : EnOK g l c z en25) {J : Nat → List Int → List Int → Prop} {ρ : List Int} {es : List E} {u : T Leaf}
    (h : ∀ t x y e p : Int, -30 ≤ x → x ≤ 1000 → -20 ≤ y → y ≤ 5 → 1 ≤ e → e ≤ 200 → T.okJ J g LTrue (ρ ++ [t, x, y, e, p]) u) : T.okJ J g LTrue ρ (.call 11 es 5 u) := by
  have hr := rng_of (en25_16 hg).2.2.2.2.2.1 t_fix_chk rfl rfl (es.map (den ρ))
  refine okJ_call (by decide) ?_
  have e : fit 5 (g 11 (es.map (den ρ))) = [(g 11 (es.map (den ρ))).getD 0 0, (g 11 (es.map (den ρ))).getD 1 0, (g 11 (es.map (den ρ))).getD 2 0, (g 11 (es.map (den ρ))).getD 3 0, (g 11 (es.map (den ρ))).getD 4 0] := rfl
  rw [e]
  have r1 := RngOK_get hr 1 (-30) 1000 rfl
  have r2 := RngOK_get hr 2 (-20) 5 rfl
  have r3 := RngOK_get hr 3 1 200 rfl
  rw [show c_fix.key = 11 from rfl] at r1 r2 r3
  exact h _ _ _ _ _ r1.1 r1.2 r2.1 r2.2 r3.1 r3.2
def sel1 (i a0 : Int) : Int := a0
theorem sel1_c (i x0 y0 e0 : Int) : (sel1 i x0 = x0 ∧ sel1 i y0 = y0 ∧ sel1 i e0 = e0) := by
  unfold sel1
  simp
def sel2 (i a0 a1 : Int) : Int := if i = 0 then a0 else a1
theorem sel2_c (i x0 x1 y0 y1 e0 e1 : Int) : (sel2 i x0 x1 = x0 ∧ sel2 i y0 y1 = y0 ∧ sel2 i e0 e1 = e0) ∨ (sel2 i x0 x1 = x1 ∧ sel2 i y0 y1 = y1 ∧ sel2 i e0 e1 = e1) := by
  unfold sel2
  by_cases c0 : i = 0
  · simp [c0]
  · skip
    simp [c0]
def sel3 (i a0 a1 a2 : Int) : Int := if i = 0 then a0 else if i = 1 then a1 else a2
theorem sel3_c (i x0 x1 x2 y0 y1 y2 e0 e1 e2 : Int) : (sel3 i x0 x1 x2 = x0 ∧ sel3 i y0 y1 y2 = y0 ∧ sel3 i e0 e1 e2 = e0) ∨ (sel3 i x0 x1 x2 = x1 ∧ sel3 i y0 y1 y2 = y1 ∧ sel3 i e0 e1 e2 = e1) ∨ (sel3 i x0 x1 x2 = x2 ∧ sel3 i y0 y1 y2 = y2 ∧ sel3 i e0 e1 e2 = e2) := by
  unfold sel3
  by_cases c0 : i = 0
  · simp [c0]
  · skip
    by_cases c1 : i = 1
    · simp [c0, c1]
    · skip
      simp [c0, c1]
def sel4 (i a0 a1 a2 a3 : Int) : Int := if i = 0 then a0 else if i = 1 then a1 else if i = 2 then a2 else a3
theorem sel4_c (i x0 x1 x2 x3 y0 y1 y2 y3 e0 e1 e2 e3 : Int) : (sel4 i x0 x1 x2 x3 = x0 ∧ sel4 i y0 y1 y2 y3 = y0 ∧ sel4 i e0 e1 e2 e3 = e0) ∨ (sel4 i x0 x1 x2 x3 = x1 ∧ sel4 i y0 y1 y2 y3 = y1 ∧ sel4 i e0 e1 e2 e3 = e1) ∨ (sel4 i x0 x1 x2 x3 = x2 ∧ sel4 i y0 y1 y2 y3 = y2 ∧ sel4 i e0 e1 e2 e3 = e2) ∨ (sel4 i x0 x1 x2 x3 = x3 ∧ sel4 i y0 y1 y2 y3 = y3 ∧ sel4 i e0 e1 e2 e3 = e3) := by
  unfold sel4
  by_cases c0 : i = 0
  · simp [c0]
  · skip
    by_cases c1 : i = 1
    · simp [c0, c1]
    · skip
      by_cases c2 : i = 2
      · simp [c0, c1, c2]
      · skip
        simp [c0, c1, c2]
def sel5 (i a0 a1 a2 a3 a4 : Int) : Int := if i = 0 then a0 else if i = 1 then a1 else if i = 2 then a2 else if i = 3 then a3 else a4
theorem sel5_c (i x0 x1 x2 x3 x4 y0 y1 y2 y3 y4 e0 e1 e2 e3 e4 : Int) : (sel5 i x0 x1 x2 x3 x4 = x0 ∧ sel5 i y0 y1 y2 y3 y4 = y0 ∧ sel5 i e0 e1 e2 e3 e4 = e0) ∨ (sel5 i x0 x1 x2 x3 x4 = x1 ∧ sel5 i y0 y1 y2 y3 y4 = y1 ∧ sel5 i e0 e1 e2 e3 e4 = e1) ∨ (sel5 i x0 x1 x2 x3 x4 = x2 ∧ sel5 i y0 y1 y2 y3 y4 = y2 ∧ sel5 i e0 e1 e2 e3 e4 = e2) ∨ (sel5 i x0 x1 x2 x3 x4 = x3 ∧ sel5 i y0 y1 y2 y3 y4 = y3 ∧ sel5 i e0 e1 e2 e3 e4 = e3) ∨ (sel5 i x0 x1 x2 x3 x4 = x4 ∧ sel5 i y0 y1 y2 y3 y4 = y4 ∧ sel5 i e0 e1 e2 e3 e4 = e4) := by
  unfold sel5
  by_cases c0 : i = 0
  · simp [c0]
  · skip
    by_cases c1 : i = 1
    · simp [c0, c1]
    · skip
      by_cases c2 : i = 2
      · simp [c0, c1, c2]
      · skip
        by_cases c3 : i = 3
        · simp [c0, c1, c2, c3]
        · skip
          simp [c0, c1, c2, c3]

set_option maxHeartbeats 4000000 in
theorem plain (l c : Int) (z : List Int) (g : Nat → List Int → List Int) (hg : EnOK g l c z en25) (hr : KsOK (shsKs SS) []) : T.okJ JJ g LTrue [l, c] tree := by
  unfold tree
  refine okJ_src fun n p0 hn0 hn1 => ?_
  refine okJ_ite (fun _ => ?_) fun _ => ?_
  · refine fix_c hg fun t0 x0 y0 e0 p0_ hx0a hx0b hy0a hy0b he0a he0b => ?_
    refine okJ_ite (fun _ => ?_) fun _ => ?_
    · refine fix_c hg fun t1 x1 y1 e1 p1_ hx1a hx1b hy1a hy1b he1a he1b => ?_
      refine okJ_ite (fun _ => ?_) fun _ => ?_
      · refine fix_c hg fun t2 x2 y2 e2 p2_ hx2a hx2b hy2a hy2b he2a he2b => ?_
        refine okJ_ite (fun _ => ?_) fun _ => ?_
        · refine fix_c hg fun t3 x3 y3 e3 p3_ hx3a hx3b hy3a hy3b he3a he3b => ?_
          refine okJ_ite (fun _ => ?_) fun _ => ?_
          · refine fix_c hg fun t4 x4 y4 e4 p4_ hx4a hx4b hy4a hy4b he4a he4b => ?_
            refine okJ_src fun i q1 _ _ => ?_
            refine okJ_src fun dx q2 hx0 hx1 => ?_
            refine okJ_src fun dy q3 hy0 hy1 => ?_
            refine okJ_c4 (by decide) fun mx my b z4 ex ey eb _ => ?_
            have ex : mx = (g 25 [t0, x0, y0, e0, t1, x1, y1, e1, t2, x2, y2, e2, t3, x3, y3, e3, t4, x4, y4, e4]).getD 0 0 := ex
            have ey : my = (g 25 [t0, x0, y0, e0, t1, x1, y1, e1, t2, x2, y2, e2, t3, x3, y3, e3, t4, x4, y4, e4]).getD 1 0 := ey
            have eb : b = (g 25 [t0, x0, y0, e0, t1, x1, y1, e1, t2, x2, y2, e2, t3, x3, y3, e3, t4, x4, y4, e4]).getD 2 0 := eb
            rw [fuse5 hg (by omega) (by omega) (by omega) (by omega) (by omega) (by omega) (by omega) (by omega) (by omega) (by omega)] at ex ey eb
            have ex : mx = mean5 e0 e1 e2 e3 e4 x0 x1 x2 x3 x4 := ex
            have ey : my = mean5 e0 e1 e2 e3 e4 y0 y1 y2 y3 y4 := ey
            have eb : b = bnd5 (mean5 e0 e1 e2 e3 e4 x0 x1 x2 x3 x4) (mean5 e0 e1 e2 e3 e4 y0 y1 y2 y3 y4) x0 y0 e0 x1 y1 e1 x2 y2 e2 x3 y3 e3 x4 y4 e4 := eb
            rw [← ex, ← ey] at eb
            have hb := bnd5_ge mx my x0 y0 e0 x1 y1 e1 x2 y2 e2 x3 y3 e3 x4 y4 e4
            rw [← eb] at hb
            have d0 := boxZ_bd mx my x0 y0
            have d1 := boxZ_bd mx my x1 y1
            have d2 := boxZ_bd mx my x2 y2
            have d3 := boxZ_bd mx my x3 y3
            have d4 := boxZ_bd mx my x4 y4
            have hx1 : 1 ≤ sel5 i e0 e1 e2 e3 e4 - (0 - sel5 i e0 e1 e2 e3 e4) + 1 → dx < sel5 i e0 e1 e2 e3 e4 - (0 - sel5 i e0 e1 e2 e3 e4) + 1 := hx1
            have hy1 : 1 ≤ sel5 i e0 e1 e2 e3 e4 - (0 - sel5 i e0 e1 e2 e3 e4) + 1 → dy < sel5 i e0 e1 e2 e3 e4 - (0 - sel5 i e0 e1 e2 e3 e4) + 1 := hy1
            refine okJ_ite (fun _ => okJ_c1 (by decide) fun _ _ => rfl) fun h => ?_
            exfalso
            have h : (decide ((sel5 i x0 x1 x2 x3 x4 + (0 - sel5 i e0 e1 e2 e3 e4 + dx)) - mx ≤ b) && decide (mx - (sel5 i x0 x1 x2 x3 x4 + (0 - sel5 i e0 e1 e2 e3 e4 + dx)) ≤ b) && decide ((sel5 i y0 y1 y2 y3 y4 + (0 - sel5 i e0 e1 e2 e3 e4 + dy)) - my ≤ b) && decide (my - (sel5 i y0 y1 y2 y3 y4 + (0 - sel5 i e0 e1 e2 e3 e4 + dy)) ≤ b)) = false := h
            have hs := sel5_c i x0 x1 x2 x3 x4 y0 y1 y2 y3 y4 e0 e1 e2 e3 e4
            generalize sel5 i x0 x1 x2 x3 x4 = X at *
            generalize sel5 i y0 y1 y2 y3 y4 = Y at *
            generalize sel5 i e0 e1 e2 e3 e4 = S at *
            have hS : 1 ≤ S := by omega
            have hx1 := hx1 (by omega)
            have hy1 := hy1 (by omega)
            have key : X + (0 - S + dx) - mx ≤ b ∧ mx - (X + (0 - S + dx)) ≤ b ∧ Y + (0 - S + dy) - my ≤ b ∧ my - (Y + (0 - S + dy)) ≤ b := by
              rcases hs with ⟨r1, r2, r3⟩ | ⟨r1, r2, r3⟩ | ⟨r1, r2, r3⟩ | ⟨r1, r2, r3⟩ | ⟨r1, r2, r3⟩ <;> omega
            rw [decide_eq_true key.1, decide_eq_true key.2.1, decide_eq_true key.2.2.1, decide_eq_true key.2.2.2] at h
            exact absurd h (by decide)
          · refine okJ_src fun i q1 _ _ => ?_
            refine okJ_src fun dx q2 hx0 hx1 => ?_
            refine okJ_src fun dy q3 hy0 hy1 => ?_
            refine okJ_c4 (by decide) fun mx my b z4 ex ey eb _ => ?_
            have ex : mx = (g 24 [t0, x0, y0, e0, t1, x1, y1, e1, t2, x2, y2, e2, t3, x3, y3, e3]).getD 0 0 := ex
            have ey : my = (g 24 [t0, x0, y0, e0, t1, x1, y1, e1, t2, x2, y2, e2, t3, x3, y3, e3]).getD 1 0 := ey
            have eb : b = (g 24 [t0, x0, y0, e0, t1, x1, y1, e1, t2, x2, y2, e2, t3, x3, y3, e3]).getD 2 0 := eb
            rw [fuse4 hg (by omega) (by omega) (by omega) (by omega) (by omega) (by omega) (by omega) (by omega)] at ex ey eb
            have ex : mx = mean4 e0 e1 e2 e3 x0 x1 x2 x3 := ex
            have ey : my = mean4 e0 e1 e2 e3 y0 y1 y2 y3 := ey
            have eb : b = bnd4 (mean4 e0 e1 e2 e3 x0 x1 x2 x3) (mean4 e0 e1 e2 e3 y0 y1 y2 y3) x0 y0 e0 x1 y1 e1 x2 y2 e2 x3 y3 e3 := eb
            rw [← ex, ← ey] at eb
            have hb := bnd4_ge mx my x0 y0 e0 x1 y1 e1 x2 y2 e2 x3 y3 e3
            rw [← eb] at hb
            have d0 := boxZ_bd mx my x0 y0
            have d1 := boxZ_bd mx my x1 y1
            have d2 := boxZ_bd mx my x2 y2
            have d3 := boxZ_bd mx my x3 y3
            have hx1 : 1 ≤ sel4 i e0 e1 e2 e3 - (0 - sel4 i e0 e1 e2 e3) + 1 → dx < sel4 i e0 e1 e2 e3 - (0 - sel4 i e0 e1 e2 e3) + 1 := hx1
            have hy1 : 1 ≤ sel4 i e0 e1 e2 e3 - (0 - sel4 i e0 e1 e2 e3) + 1 → dy < sel4 i e0 e1 e2 e3 - (0 - sel4 i e0 e1 e2 e3) + 1 := hy1
            refine okJ_ite (fun _ => okJ_c1 (by decide) fun _ _ => rfl) fun h => ?_
            exfalso
            have h : (decide ((sel4 i x0 x1 x2 x3 + (0 - sel4 i e0 e1 e2 e3 + dx)) - mx ≤ b) && decide (mx - (sel4 i x0 x1 x2 x3 + (0 - sel4 i e0 e1 e2 e3 + dx)) ≤ b) && decide ((sel4 i y0 y1 y2 y3 + (0 - sel4 i e0 e1 e2 e3 + dy)) - my ≤ b) && decide (my - (sel4 i y0 y1 y2 y3 + (0 - sel4 i e0 e1 e2 e3 + dy)) ≤ b)) = false := h
            have hs := sel4_c i x0 x1 x2 x3 y0 y1 y2 y3 e0 e1 e2 e3
            generalize sel4 i x0 x1 x2 x3 = X at *
            generalize sel4 i y0 y1 y2 y3 = Y at *
            generalize sel4 i e0 e1 e2 e3 = S at *
            have hS : 1 ≤ S := by omega
            have hx1 := hx1 (by omega)
            have hy1 := hy1 (by omega)
            have key : X + (0 - S + dx) - mx ≤ b ∧ mx - (X + (0 - S + dx)) ≤ b ∧ Y + (0 - S + dy) - my ≤ b ∧ my - (Y + (0 - S + dy)) ≤ b := by
              rcases hs with ⟨r1, r2, r3⟩ | ⟨r1, r2, r3⟩ | ⟨r1, r2, r3⟩ | ⟨r1, r2, r3⟩ <;> omega
            rw [decide_eq_true key.1, decide_eq_true key.2.1, decide_eq_true key.2.2.1, decide_eq_true key.2.2.2] at h
            exact absurd h (by decide)
        · refine okJ_src fun i q1 _ _ => ?_
          refine okJ_src fun dx q2 hx0 hx1 => ?_
          refine okJ_src fun dy q3 hy0 hy1 => ?_
          refine okJ_c4 (by decide) fun mx my b z4 ex ey eb _ => ?_
          have ex : mx = (g 23 [t0, x0, y0, e0, t1, x1, y1, e1, t2, x2, y2, e2]).getD 0 0 := ex
          have ey : my = (g 23 [t0, x0, y0, e0, t1, x1, y1, e1, t2, x2, y2, e2]).getD 1 0 := ey
          have eb : b = (g 23 [t0, x0, y0, e0, t1, x1, y1, e1, t2, x2, y2, e2]).getD 2 0 := eb
          rw [fuse3 hg (by omega) (by omega) (by omega) (by omega) (by omega) (by omega)] at ex ey eb
          have ex : mx = mean3 e0 e1 e2 x0 x1 x2 := ex
          have ey : my = mean3 e0 e1 e2 y0 y1 y2 := ey
          have eb : b = bnd3 (mean3 e0 e1 e2 x0 x1 x2) (mean3 e0 e1 e2 y0 y1 y2) x0 y0 e0 x1 y1 e1 x2 y2 e2 := eb
          rw [← ex, ← ey] at eb
          have hb := bnd3_ge mx my x0 y0 e0 x1 y1 e1 x2 y2 e2
          rw [← eb] at hb
          have d0 := boxZ_bd mx my x0 y0
          have d1 := boxZ_bd mx my x1 y1
          have d2 := boxZ_bd mx my x2 y2
          have hx1 : 1 ≤ sel3 i e0 e1 e2 - (0 - sel3 i e0 e1 e2) + 1 → dx < sel3 i e0 e1 e2 - (0 - sel3 i e0 e1 e2) + 1 := hx1
          have hy1 : 1 ≤ sel3 i e0 e1 e2 - (0 - sel3 i e0 e1 e2) + 1 → dy < sel3 i e0 e1 e2 - (0 - sel3 i e0 e1 e2) + 1 := hy1
          refine okJ_ite (fun _ => okJ_c1 (by decide) fun _ _ => rfl) fun h => ?_
          exfalso
          have h : (decide ((sel3 i x0 x1 x2 + (0 - sel3 i e0 e1 e2 + dx)) - mx ≤ b) && decide (mx - (sel3 i x0 x1 x2 + (0 - sel3 i e0 e1 e2 + dx)) ≤ b) && decide ((sel3 i y0 y1 y2 + (0 - sel3 i e0 e1 e2 + dy)) - my ≤ b) && decide (my - (sel3 i y0 y1 y2 + (0 - sel3 i e0 e1 e2 + dy)) ≤ b)) = false := h
          have hs := sel3_c i x0 x1 x2 y0 y1 y2 e0 e1 e2
          generalize sel3 i x0 x1 x2 = X at *
          generalize sel3 i y0 y1 y2 = Y at *
          generalize sel3 i e0 e1 e2 = S at *
          have hS : 1 ≤ S := by omega
          have hx1 := hx1 (by omega)
          have hy1 := hy1 (by omega)
          have key : X + (0 - S + dx) - mx ≤ b ∧ mx - (X + (0 - S + dx)) ≤ b ∧ Y + (0 - S + dy) - my ≤ b ∧ my - (Y + (0 - S + dy)) ≤ b := by
            rcases hs with ⟨r1, r2, r3⟩ | ⟨r1, r2, r3⟩ | ⟨r1, r2, r3⟩ <;> omega
          rw [decide_eq_true key.1, decide_eq_true key.2.1, decide_eq_true key.2.2.1, decide_eq_true key.2.2.2] at h
          exact absurd h (by decide)
      · refine okJ_src fun i q1 _ _ => ?_
        refine okJ_src fun dx q2 hx0 hx1 => ?_
        refine okJ_src fun dy q3 hy0 hy1 => ?_
        refine okJ_c4 (by decide) fun mx my b z4 ex ey eb _ => ?_
        have ex : mx = (g 22 [t0, x0, y0, e0, t1, x1, y1, e1]).getD 0 0 := ex
        have ey : my = (g 22 [t0, x0, y0, e0, t1, x1, y1, e1]).getD 1 0 := ey
        have eb : b = (g 22 [t0, x0, y0, e0, t1, x1, y1, e1]).getD 2 0 := eb
        rw [fuse2 hg (by omega) (by omega) (by omega) (by omega)] at ex ey eb
        have ex : mx = mean2 e0 e1 x0 x1 := ex
        have ey : my = mean2 e0 e1 y0 y1 := ey
        have eb : b = bnd2 (mean2 e0 e1 x0 x1) (mean2 e0 e1 y0 y1) x0 y0 e0 x1 y1 e1 := eb
        rw [← ex, ← ey] at eb
        have hb := bnd2_ge mx my x0 y0 e0 x1 y1 e1
        rw [← eb] at hb
        have d0 := boxZ_bd mx my x0 y0
        have d1 := boxZ_bd mx my x1 y1
        have hx1 : 1 ≤ sel2 i e0 e1 - (0 - sel2 i e0 e1) + 1 → dx < sel2 i e0 e1 - (0 - sel2 i e0 e1) + 1 := hx1
        have hy1 : 1 ≤ sel2 i e0 e1 - (0 - sel2 i e0 e1) + 1 → dy < sel2 i e0 e1 - (0 - sel2 i e0 e1) + 1 := hy1
        refine okJ_ite (fun _ => okJ_c1 (by decide) fun _ _ => rfl) fun h => ?_
        exfalso
        have h : (decide ((sel2 i x0 x1 + (0 - sel2 i e0 e1 + dx)) - mx ≤ b) && decide (mx - (sel2 i x0 x1 + (0 - sel2 i e0 e1 + dx)) ≤ b) && decide ((sel2 i y0 y1 + (0 - sel2 i e0 e1 + dy)) - my ≤ b) && decide (my - (sel2 i y0 y1 + (0 - sel2 i e0 e1 + dy)) ≤ b)) = false := h
        have hs := sel2_c i x0 x1 y0 y1 e0 e1
        generalize sel2 i x0 x1 = X at *
        generalize sel2 i y0 y1 = Y at *
        generalize sel2 i e0 e1 = S at *
        have hS : 1 ≤ S := by omega
        have hx1 := hx1 (by omega)
        have hy1 := hy1 (by omega)
        have key : X + (0 - S + dx) - mx ≤ b ∧ mx - (X + (0 - S + dx)) ≤ b ∧ Y + (0 - S + dy) - my ≤ b ∧ my - (Y + (0 - S + dy)) ≤ b := by
          rcases hs with ⟨r1, r2, r3⟩ | ⟨r1, r2, r3⟩ <;> omega
        rw [decide_eq_true key.1, decide_eq_true key.2.1, decide_eq_true key.2.2.1, decide_eq_true key.2.2.2] at h
        exact absurd h (by decide)
    · refine okJ_src fun i q1 _ _ => ?_
      refine okJ_src fun dx q2 hx0 hx1 => ?_
      refine okJ_src fun dy q3 hy0 hy1 => ?_
      refine okJ_c4 (by decide) fun mx my b z4 ex ey eb _ => ?_
      have ex : mx = (g 21 [t0, x0, y0, e0]).getD 0 0 := ex
      have ey : my = (g 21 [t0, x0, y0, e0]).getD 1 0 := ey
      have eb : b = (g 21 [t0, x0, y0, e0]).getD 2 0 := eb
      rw [fuse1 hg (by omega) (by omega)] at ex ey eb
      have ex : mx = mean1 e0 x0 := ex
      have ey : my = mean1 e0 y0 := ey
      have eb : b = bnd1 (mean1 e0 x0) (mean1 e0 y0) x0 y0 e0 := eb
      rw [← ex, ← ey] at eb
      have hb := bnd1_ge mx my x0 y0 e0
      rw [← eb] at hb
      have d0 := boxZ_bd mx my x0 y0
      have hx1 : 1 ≤ sel1 i e0 - (0 - sel1 i e0) + 1 → dx < sel1 i e0 - (0 - sel1 i e0) + 1 := hx1
      have hy1 : 1 ≤ sel1 i e0 - (0 - sel1 i e0) + 1 → dy < sel1 i e0 - (0 - sel1 i e0) + 1 := hy1
      refine okJ_ite (fun _ => okJ_c1 (by decide) fun _ _ => rfl) fun h => ?_
      exfalso
      have h : (decide ((sel1 i x0 + (0 - sel1 i e0 + dx)) - mx ≤ b) && decide (mx - (sel1 i x0 + (0 - sel1 i e0 + dx)) ≤ b) && decide ((sel1 i y0 + (0 - sel1 i e0 + dy)) - my ≤ b) && decide (my - (sel1 i y0 + (0 - sel1 i e0 + dy)) ≤ b)) = false := h
      have hs := sel1_c i x0 y0 e0
      generalize sel1 i x0 = X at *
      generalize sel1 i y0 = Y at *
      generalize sel1 i e0 = S at *
      have hS : 1 ≤ S := by omega
      have hx1 := hx1 (by omega)
      have hy1 := hy1 (by omega)
      have key : X + (0 - S + dx) - mx ≤ b ∧ mx - (X + (0 - S + dx)) ≤ b ∧ Y + (0 - S + dy) - my ≤ b ∧ my - (Y + (0 - S + dy)) ≤ b := by
        rcases hs with ⟨r1, r2, r3⟩ <;> omega
      rw [decide_eq_true key.1, decide_eq_true key.2.1, decide_eq_true key.2.2.1, decide_eq_true key.2.2.2] at h
      exact absurd h (by decide)
  · exact okJ_c1 (by decide) fun _ _ => rfl
theorem walk (a0 : Option Addr) (len0 cap0 : Nat) (z0 : List Int) (w : World) (w0 : IsRow .i64 w a0 len0 cap0 z0) (r : List Int) (hr : KsOK (shsKs SS) r) :
    Calls Try.prog 4 (.slice a0 len0 cap0 :: shsV SS r).toArray w fun e w' => e = .returned (.bool true) ∧ Below w.heap.size w w' := by
  match r, hr.length, hr with
  | [], _, hr => exact row_lawX w0 en25_con en25_kl tree_eq (fun g hg => plain _ _ z0 g hg hr) hr
end Go.Proofs.Ytcedkkleclhglaa.fuseBound
