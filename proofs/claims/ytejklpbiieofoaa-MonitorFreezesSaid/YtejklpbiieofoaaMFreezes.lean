/- 'dynpos/dynposlaw07.MonitorFreezes': the tree of its walk, and that each of its leaves is true. -/
import Derived.Test.YtejklpbiieofoaaEvQ
import Derived.Test.YtejklpbiieofoaaM07S
import Derived.Test.YtejklpbiieofoaaM07T
import Derived.Test.YtejklpbiieofoaaM07V
import Derived.Test.YtejklpbiieofoaaM07L
set_option linter.unusedSimpArgs false
set_option linter.unusedVariables false
namespace Go.Proofs.Ytejklpbiieofoaa.monitorFreezes
open Go.RowKit Ev
def tab : List (FuncId × PC) := [(12, cStep), (16, cTick), (13, cSane)]
def SS : List Sh := [.one (some .u8)]
def hints : FuncId → Nat → Option Hint := fun _ _ => none
def tree1 : T Leaf :=
            (.ite (.and (.and (.and (.and (.eq (.v 160) (.lit 0)) (.eq (.v 172) (.lit 0))) (.and (.and (.eq (.v 149) (.v 137)) (.and (.eq (.v 150) (.v 138)) (.and (.eq (.v 151) (.v 139)) (.eq (.v 152) (.v 140))))) (.and (.and (.eq (.v 153) (.v 141)) (.and (.eq (.v 154) (.v 142)) (.and (.eq (.v 155) (.v 143)) (.eq (.v 156) (.v 144))))) (.and (.iff (.nz (.v 157)) (.nz (.v 145))) (.and (.eq (.v 158) (.v 146)) (.eq (.v 159) (.v 147))))))) (.eq (.v 171) (.lit 2))) (.and (.eq (.v 161) (.v 137)) (.and (.eq (.v 162) (.v 138)) (.and (.eq (.v 163) (.v 139)) (.eq (.v 164) (.v 140))))))
             (.call 7 [] 1
             (.leaf ((.bool (.lit true)), [], []))
             )
             (.leaf ((.bool (.lit false)), [], []))
            )
            
def tree2 : T Leaf :=
            (.call 31 [(.lit 0), (.lit 1000), (.add (.lit 1) (.v 3)), (.add (.lit 1) (.rem (.v 2) (.lit 6))), (.v 137), (.v 138), (.v 139), (.v 140), (.v 141), (.v 142), (.v 143), (.v 144), (.v 145), (.v 146), (.v 147), (.add (.lit 13) (.add (.lit 1) (.v 3)))] 12
tree1)
            
def tree3 : T Leaf :=
           (.ite (.or (.not (.eq (.v 148) (.lit 0))) (.not (.iff (.eq (.v 147) (.lit 3)) (.eq (.add (.lit 1) (.rem (.v 2) (.lit 6))) (.lit 1)))))
            (.leaf ((.bool (.lit false)), [], []))
            (.call 31 [(.lit 0), (.lit 1000), (.add (.lit 1) (.v 3)), (.add (.lit 1) (.rem (.v 2) (.lit 6))), (.v 137), (.v 138), (.v 139), (.v 140), (.v 141), (.v 142), (.v 143), (.v 144), (.v 145), (.v 146), (.v 147), (.add (.lit 12) (.add (.lit 1) (.v 3)))] 12
tree2)
           )
           
def tree4 : T Leaf :=
          (.ite (.or (.or (.not (.eq (.v 136) (.lit 0))) (.not (.iff (.eq (.v 135) (.lit 3)) (.lit true)))) (.not (.eq (.v 134) (.lit 11))))
           (.leaf ((.bool (.lit false)), [], []))
           (.call 30 [(.lit 0), (.lit 1000), (.add (.lit 1) (.v 3)), (.add (.lit 1) (.rem (.v 2) (.lit 6))), (.v 125), (.v 126), (.v 127), (.v 128), (.v 129), (.v 130), (.v 131), (.v 132), (.v 133), (.v 134), (.v 135), (.lit 13), (.lit 8), (.lit 0), (.lit 5)] 12
tree3)
          )
          
def tree5 : T Leaf :=
         (.ite (.or (.or (.not (.eq (.v 124) (.lit 0))) (.not (.iff (.eq (.v 123) (.lit 3)) (.lit true)))) (.not (.eq (.v 122) (.lit 10))))
          (.leaf ((.bool (.lit false)), [], []))
          (.call 30 [(.lit 0), (.lit 1000), (.add (.lit 1) (.v 3)), (.add (.lit 1) (.rem (.v 2) (.lit 6))), (.v 113), (.v 114), (.v 115), (.v 116), (.v 117), (.v 118), (.v 119), (.v 120), (.v 121), (.v 122), (.v 123), (.lit 11), (.lit 7), (.lit 0), (.lit 5)] 12
tree4)
         )
         
def tree6 : T Leaf :=
        (.ite (.or (.or (.not (.eq (.v 112) (.lit 0))) (.not (.iff (.eq (.v 111) (.lit 3)) (.lit true)))) (.not (.eq (.v 110) (.lit 9))))
         (.leaf ((.bool (.lit false)), [], []))
         (.call 30 [(.lit 0), (.lit 1000), (.add (.lit 1) (.v 3)), (.add (.lit 1) (.rem (.v 2) (.lit 6))), (.v 101), (.v 102), (.v 103), (.v 104), (.v 105), (.v 106), (.v 107), (.v 108), (.v 109), (.v 110), (.v 111), (.lit 10), (.lit 7), (.lit 0), (.lit 5)] 12
tree5)
        )
        
def tree7 : T Leaf :=
       (.ite (.or (.or (.not (.eq (.v 100) (.lit 0))) (.not (.iff (.eq (.v 99) (.lit 3)) (.lit true)))) (.not (.eq (.v 98) (.lit 8))))
        (.leaf ((.bool (.lit false)), [], []))
        (.call 30 [(.lit 0), (.lit 1000), (.add (.lit 1) (.v 3)), (.add (.lit 1) (.rem (.v 2) (.lit 6))), (.v 89), (.v 90), (.v 91), (.v 92), (.v 93), (.v 94), (.v 95), (.v 96), (.v 97), (.v 98), (.v 99), (.lit 9), (.lit 7), (.lit 0), (.lit 5)] 12
tree6)
       )
       
def tree8 : T Leaf :=
      (.ite (.or (.or (.not (.eq (.v 88) (.lit 0))) (.not (.iff (.eq (.v 87) (.lit 3)) (.lit true)))) (.not (.eq (.v 86) (.lit 7))))
       (.leaf ((.bool (.lit false)), [], []))
       (.call 30 [(.lit 0), (.lit 1000), (.add (.lit 1) (.v 3)), (.add (.lit 1) (.rem (.v 2) (.lit 6))), (.v 77), (.v 78), (.v 79), (.v 80), (.v 81), (.v 82), (.v 83), (.v 84), (.v 85), (.v 86), (.v 87), (.lit 8), (.lit 7), (.lit 0), (.lit 5)] 12
tree7)
      )
      
def tree9 : T Leaf :=
     (.ite (.or (.or (.not (.eq (.v 76) (.lit 0))) (.not (.iff (.eq (.v 75) (.lit 3)) (.lit true)))) (.not (.eq (.v 74) (.lit 6))))
      (.leaf ((.bool (.lit false)), [], []))
      (.call 30 [(.lit 0), (.lit 1000), (.add (.lit 1) (.v 3)), (.add (.lit 1) (.rem (.v 2) (.lit 6))), (.v 65), (.v 66), (.v 67), (.v 68), (.v 69), (.v 70), (.v 71), (.v 72), (.v 73), (.v 74), (.v 75), (.lit 7), (.lit 7), (.lit 0), (.lit 5)] 12
tree8)
     )
     
def tree10 : T Leaf :=
    (.ite (.or (.or (.not (.eq (.v 64) (.lit 0))) (.not (.iff (.eq (.v 63) (.lit 3)) (.le (.add (.lit 1) (.rem (.v 2) (.lit 6))) (.lit 5))))) (.not (.eq (.v 62) (.lit 5))))
     (.leaf ((.bool (.lit false)), [], []))
     (.call 30 [(.lit 0), (.lit 1000), (.add (.lit 1) (.v 3)), (.add (.lit 1) (.rem (.v 2) (.lit 6))), (.v 53), (.v 54), (.v 55), (.v 56), (.v 57), (.v 58), (.v 59), (.v 60), (.v 61), (.v 62), (.v 63), (.lit 6), (.lit 7), (.lit 0), (.lit 5)] 12
tree9)
    )
    
def tree11 : T Leaf :=
   (.ite (.or (.or (.not (.eq (.v 52) (.lit 0))) (.not (.iff (.eq (.v 51) (.lit 3)) (.le (.add (.lit 1) (.rem (.v 2) (.lit 6))) (.lit 4))))) (.not (.eq (.v 50) (.lit 4))))
    (.leaf ((.bool (.lit false)), [], []))
    (.call 30 [(.lit 0), (.lit 1000), (.add (.lit 1) (.v 3)), (.add (.lit 1) (.rem (.v 2) (.lit 6))), (.v 41), (.v 42), (.v 43), (.v 44), (.v 45), (.v 46), (.v 47), (.v 48), (.v 49), (.v 50), (.v 51), (.lit 5), (.lit 7), (.lit 0), (.lit 5)] 12
tree10)
   )
   
def tree12 : T Leaf :=
  (.ite (.or (.or (.not (.eq (.v 40) (.lit 0))) (.not (.iff (.eq (.v 39) (.lit 3)) (.le (.add (.lit 1) (.rem (.v 2) (.lit 6))) (.lit 3))))) (.not (.eq (.v 38) (.lit 3))))
   (.leaf ((.bool (.lit false)), [], []))
   (.call 30 [(.lit 0), (.lit 1000), (.add (.lit 1) (.v 3)), (.add (.lit 1) (.rem (.v 2) (.lit 6))), (.v 29), (.v 30), (.v 31), (.v 32), (.v 33), (.v 34), (.v 35), (.v 36), (.v 37), (.v 38), (.v 39), (.lit 4), (.lit 7), (.lit 0), (.lit 5)] 12
tree11)
  )
  
def tree13 : T Leaf :=
 (.ite (.or (.or (.not (.eq (.v 28) (.lit 0))) (.not (.iff (.eq (.v 27) (.lit 3)) (.le (.add (.lit 1) (.rem (.v 2) (.lit 6))) (.lit 2))))) (.not (.eq (.v 26) (.lit 2))))
  (.leaf ((.bool (.lit false)), [], []))
  (.call 30 [(.lit 0), (.lit 1000), (.add (.lit 1) (.v 3)), (.add (.lit 1) (.rem (.v 2) (.lit 6))), (.v 17), (.v 18), (.v 19), (.v 20), (.v 21), (.v 22), (.v 23), (.v 24), (.v 25), (.v 26), (.v 27), (.lit 3), (.lit 7), (.lit 0), (.lit 5)] 12
tree12)
 )
 
def tree14 : T Leaf :=
(.ite (.or (.not (.eq (.v 16) (.lit 0))) (.not (.eq (.v 14) (.lit 1))))
 (.leaf ((.bool (.lit false)), [], []))
 (.call 30 [(.lit 0), (.lit 1000), (.add (.lit 1) (.v 3)), (.add (.lit 1) (.rem (.v 2) (.lit 6))), (.v 5), (.v 6), (.v 7), (.v 8), (.v 9), (.v 10), (.v 11), (.v 12), (.v 13), (.v 14), (.v 15), (.lit 2), (.lit 7), (.lit 0), (.lit 5)] 12
tree13)
)

def tree : T Leaf :=
(.call 900 [(.lit 9), (.mn (.v 0) (.lit 600)), (.lit 0)] 2
(.call 30 [(.lit 0), (.lit 1000), (.add (.lit 1) (.v 3)), (.add (.lit 1) (.rem (.v 2) (.lit 6))), (.lit 0), (.lit 0), (.lit 0), (.lit 0), (.lit 0), (.lit 0), (.lit 0), (.lit 0), (.lit 0), (.lit 0), (.lit 0), (.lit 1), (.lit 7), (.lit 0), (.lit 5)] 12
tree14)
)
theorem tree_eq : (evFn Try.prog (rowCtx tab hints) 60 12 6 (.sls 0 (.v 0) (.v 1) :: shsS SS 2) [] (rowFx (rngE 2 (ksRg (shsKs SS)))) (shsW SS + 2)).strip = tree := by kernel_rfl
def JJ : Nat → List Int → List Int → Prop := fun _ _ _ => True

set_option maxRecDepth 100000 in
set_option maxHeartbeats 4000000 in
theorem plain (l c : Int) (x0 : Int) (hr : KsOK (shsKs SS) [x0]) : T.okJ JJ m07F LTrue [l, c, x0] tree := by
  have hw : 0 ≤ x0 ∧ x0 ≤ 255 := hr.1
  clear hr
  simp [tree, T.okJ, LTrue, denB, den, m07F, gSane, fit1]
  intro v q0 hv hv'
  have hfb : 1 ≤ 1 + x0.tmod 6 ∧ 1 + x0.tmod 6 ≤ 6 := by
    have l1 := Int.tmod_lt_of_pos x0 (show (0 : Int) < 6 by omega)
    have l2 := Int.tmod_nonneg 6 hw.1
    omega
  generalize hfr : 1 + x0.tmod 6 = fr at *
  generalize hG : gStep _ = G
  have hr1 : refOK 0 1000 (1 + v) fr := by omega
  have e1 : stepS 0 1000 (1 + v) fr 0 0 0 0 0 0 0 0 0 0 0 1 7 0 5 = [1, 7, 0, 5, 1, 7, 0, 5, 1, 1, 1, 0] := step_first hr1 (by omega) _ _ _ _ _ _ _ _ _
  replace hG : G = [1, 7, 0, 5, 1, 7, 0, 5, 1, 1, 1, 0] := hG.symm.trans e1
  clear e1
  subst hG
  simp only [fit12]
  simp [tree14, T.okJ, LTrue, denB, den, m07F, gSane, fit1]
  simp only [hfr]
  obtain ⟨g2, s2, e2, b2, c2⟩ := step_froz (k := 2) (g := 1) (sta := 1) hr1 (by omega) (by omega)
  generalize hG : gStep _ = G
  replace hG : G = [2, 7, 0, 5, g2, 7, 0, 5, 1, 2, s2, 0] := hG.symm.trans e2
  clear e2
  subst hG
  simp only [fit12]
  simp [tree13, T.okJ, LTrue, denB, den, m07F, gSane, fit1]
  simp only [hfr]
  refine ⟨by omega, fun _ => ?_⟩
  obtain ⟨g3, s3, e3, b3, c3⟩ := step_froz (k := 3) (g := g2) (sta := s2) hr1 (by omega) (by omega)
  generalize hG : gStep _ = G
  replace hG : G = [3, 7, 0, 5, g3, 7, 0, 5, 1, 3, s3, 0] := hG.symm.trans e3
  clear e3
  subst hG
  simp only [fit12]
  simp [tree12, T.okJ, LTrue, denB, den, m07F, gSane, fit1]
  simp only [hfr]
  refine ⟨by omega, fun _ => ?_⟩
  obtain ⟨g4, s4, e4, b4, c4⟩ := step_froz (k := 4) (g := g3) (sta := s3) hr1 (by omega) (by omega)
  generalize hG : gStep _ = G
  replace hG : G = [4, 7, 0, 5, g4, 7, 0, 5, 1, 4, s4, 0] := hG.symm.trans e4
  clear e4
  subst hG
  simp only [fit12]
  simp [tree11, T.okJ, LTrue, denB, den, m07F, gSane, fit1]
  simp only [hfr]
  refine ⟨by omega, fun _ => ?_⟩
  obtain ⟨g5, s5, e5, b5, c5⟩ := step_froz (k := 5) (g := g4) (sta := s4) hr1 (by omega) (by omega)
  generalize hG : gStep _ = G
  replace hG : G = [5, 7, 0, 5, g5, 7, 0, 5, 1, 5, s5, 0] := hG.symm.trans e5
  clear e5
  subst hG
  simp only [fit12]
  simp [tree10, T.okJ, LTrue, denB, den, m07F, gSane, fit1]
  simp only [hfr]
  refine ⟨by omega, fun _ => ?_⟩
  obtain ⟨g6, s6, e6, b6, c6⟩ := step_froz (k := 6) (g := g5) (sta := s5) hr1 (by omega) (by omega)
  generalize hG : gStep _ = G
  replace hG : G = [6, 7, 0, 5, g6, 7, 0, 5, 1, 6, s6, 0] := hG.symm.trans e6
  clear e6
  subst hG
  simp only [fit12]
  simp [tree9, T.okJ, LTrue, denB, den, m07F, gSane, fit1]
  simp only [hfr]
  refine ⟨by omega, fun _ => ?_⟩
  obtain ⟨g7, s7, e7, b7, c7⟩ := step_froz (k := 7) (g := g6) (sta := s6) hr1 (by omega) (by omega)
  generalize hG : gStep _ = G
  replace hG : G = [7, 7, 0, 5, g7, 7, 0, 5, 1, 7, s7, 0] := hG.symm.trans e7
  clear e7
  subst hG
  simp only [fit12]
  simp [tree8, T.okJ, LTrue, denB, den, m07F, gSane, fit1]
  simp only [hfr]
  refine ⟨by omega, fun _ => ?_⟩
  obtain ⟨g8, s8, e8, b8, c8⟩ := step_froz (k := 8) (g := g7) (sta := s7) hr1 (by omega) (by omega)
  generalize hG : gStep _ = G
  replace hG : G = [8, 7, 0, 5, g8, 7, 0, 5, 1, 8, s8, 0] := hG.symm.trans e8
  clear e8
  subst hG
  simp only [fit12]
  simp [tree7, T.okJ, LTrue, denB, den, m07F, gSane, fit1]
  simp only [hfr]
  refine ⟨by omega, fun _ => ?_⟩
  obtain ⟨g9, s9, e9, b9, c9⟩ := step_froz (k := 9) (g := g8) (sta := s8) hr1 (by omega) (by omega)
  generalize hG : gStep _ = G
  replace hG : G = [9, 7, 0, 5, g9, 7, 0, 5, 1, 9, s9, 0] := hG.symm.trans e9
  clear e9
  subst hG
  simp only [fit12]
  simp [tree6, T.okJ, LTrue, denB, den, m07F, gSane, fit1]
  simp only [hfr]
  refine ⟨by omega, fun _ => ?_⟩
  obtain ⟨g10, s10, e10, b10, c10⟩ := step_froz (k := 10) (g := g9) (sta := s9) hr1 (by omega) (by omega)
  generalize hG : gStep _ = G
  replace hG : G = [10, 7, 0, 5, g10, 7, 0, 5, 1, 10, s10, 0] := hG.symm.trans e10
  clear e10
  subst hG
  simp only [fit12]
  simp [tree5, T.okJ, LTrue, denB, den, m07F, gSane, fit1]
  simp only [hfr]
  refine ⟨by omega, fun _ => ?_⟩
  obtain ⟨g11, s11, e11, b11, c11⟩ := step_froz (k := 11) (g := g10) (sta := s10) hr1 (by omega) (by omega)
  generalize hG : gStep _ = G
  replace hG : G = [11, 7, 0, 5, g11, 7, 0, 5, 1, 11, s11, 0] := hG.symm.trans e11
  clear e11
  subst hG
  simp only [fit12]
  simp [tree4, T.okJ, LTrue, denB, den, m07F, gSane, fit1]
  simp only [hfr]
  refine ⟨by omega, fun _ => ?_⟩
  obtain ⟨gt, gx, gy, ge, s12, e12, b12, c12⟩ := step_moved (g := g11) (sta := s11) hr1 (by omega) (by omega)
  generalize hG : gStep _ = G
  replace hG : G = [13, 8, 0, 5, gt, gx, gy, ge, 1, 1, s12, 0] := hG.symm.trans e12
  clear e12
  subst hG
  simp only [fit12]
  simp [tree3, T.okJ, LTrue, denB, den, m07F, gSane, fit1]
  simp only [hfr]
  refine ⟨by omega, fun _ => ?_⟩
  have e13 : tickS 0 1000 (1 + v) fr 13 8 0 5 gt gx gy ge 1 1 s12 (12 + (1 + v)) = [13, 8, 0, 5, gt, gx, gy, ge, 1, 1, s12, 0] := tick_early hr1 (by omega) (by omega) (by omega) (by omega)
  generalize hG : gTick _ = G
  replace hG : G = [13, 8, 0, 5, gt, gx, gy, ge, 1, 1, s12, 0] := hG.symm.trans e13
  clear e13
  subst hG
  simp only [fit12]
  simp [tree2, T.okJ, LTrue, denB, den, m07F, gSane, fit1]
  simp only [hfr]
  have e14 : tickS 0 1000 (1 + v) fr 13 8 0 5 gt gx gy ge 1 1 s12 (13 + (1 + v)) = [13, 8, 0, 5, gt, gx, gy, ge, 1, 1, 2, 0] := tick_late hr1 (by omega) (by omega) (by omega) (by omega)
  generalize hG : gTick _ = G
  replace hG : G = [13, 8, 0, 5, gt, gx, gy, ge, 1, 1, 2, 0] := hG.symm.trans e14
  clear e14
  subst hG
  simp only [fit12]
  simp [tree1, T.okJ, LTrue, denB, den, m07F, gSane, fit1]
theorem walk (a0 : Option Addr) (len0 cap0 : Nat) (z0 : List Int) (w : World) (w0 : IsRow .i64 w a0 len0 cap0 z0) (r : List Int) (hr : KsOK (shsKs SS) r) :
    Calls Try.prog 6 (.slice a0 len0 cap0 :: shsV SS r).toArray w fun e w' => e = .returned (.bool true) ∧ Below w.heap.size w w' := by
  match r, hr.length, hr with
  | [x0], _, hr => exact row_lawSS w0 (g := m07F) (l := tab) ⟨step_ok, tick_ok, sane07_ok, trivial⟩ (by kernel_rfl) tree_eq (plain _ _ _ hr) hr
end Go.Proofs.Ytejklpbiieofoaa.monitorFreezes
