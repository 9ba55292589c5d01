/- 'dynpos/dynposlaw24.ControlBounds': the tree of its walk, and that each of its leaves is true. -/
import Derived.Test.YthhaeaiheidpoaaF24Q
import Derived.Test.YthhaeaiheidpoaaEvQ
import Derived.Test.YthhaeaiheidpoaaF24Y
import Derived.Test.YthhaeaiheidpoaaF24Z
import Derived.Test.YthhaeaiheidpoaaF24V
import Derived.Test.YthhaeaiheidpoaaF24E
set_option linter.unusedSimpArgs false
set_option linter.unusedVariables false
namespace Go.Proofs.Ythhaeaiheidpoaa.controlBounds
open Go.RowKit Ev
def tab : List (FuncId × PC) := [(45, cDem), (43, cVld), (47, cBod), (49, cSgn), (29, cAdd), (37, cSane)]
def SS : List Sh := []
def hints : FuncId → Nat → Option Hint := fun f u => if f = 10 then (match u with | 0 => some { id := 0, ps := [.tmp 7, .cell 3 1, .cell 5 0, .cell 5 1, .cell 5 2, .cell 5 3, .cell 5 4, .cell 5 5, .cell 5 6], rg := [(0, 12), (0, 600), (-10000000, 10000000), (-10000000, 10000000), (-10000000, 10000000), (-100000000, 100000000), (-100000000, 100000000), (0, 3599), (0, 1)], me := .sub (.lit 12) (.v 0) } | _ => none) else none
def tree1 : T Leaf :=
    (.ite (.or (.or (.not (.nz (.v 70))) (.lt (.sw (.v 16) 0 (.lit 0) (.sw (.v 16) 1 (.lit 20) (.lit 60))) (.mx (.mx (.mx (.v 59) (.sub (.lit 0) (.v 59))) (.v 60)) (.sub (.lit 0) (.v 60))))) (.lt (.sw (.v 18) 0 (.lit 0) (.sw (.v 18) 1 (.lit 500) (.lit 3000))) (.mx (.v 61) (.sub (.lit 0) (.v 61)))))
     (.leaf ((.bool (.lit false)), [], []))
     (.again 0 42 [(.add (.v 42) (.lit 1)), (.v 58), (.v 62), (.v 63), (.v 64), (.v 65), (.v 66), (.v 67), (.v 68)])
    )
    
def tree2 : T Leaf :=
   (.ite (.not (.not (.eq (.v 69) (.lit 0))))
    (.call 24 [(.sw (.v 2) 0 (.lit 0) (.sw (.v 2) 1 (.lit 10) (.sw (.v 2) 2 (.lit 100) (.lit 1000)))), (.sw (.v 4) 0 (.lit 0) (.sw (.v 4) 1 (.lit 1) (.lit 5))), (.sw (.v 6) 0 (.lit 0) (.sw (.v 6) 1 (.lit 50) (.lit 500))), (.sw (.v 8) 0 (.lit 0) (.lit 100)), (.sw (.v 10) 0 (.lit 0) (.lit 3)), (.sw (.v 12) 0 (.lit 0) (.lit 70)), (.sw (.v 14) 0 (.lit 0) (.sw (.v 14) 1 (.lit 500) (.lit 10000))), (.sw (.v 16) 0 (.lit 0) (.sw (.v 16) 1 (.lit 20) (.lit 60))), (.sw (.v 18) 0 (.lit 0) (.sw (.v 18) 1 (.lit 500) (.lit 3000))), (.v 62), (.v 63), (.v 64), (.v 65), (.v 66), (.v 67), (.v 68)] 1
tree1)
    (.leaf ((.bool (.lit false)), [], []))
   )
   
def tree3 : T Leaf :=
  (.ite (.lt (.v 42) (.lit 12))
   (.call 900 [(.lit 4), (.mn (.v 0) (.lit 600)), (.v 43)] 2
   (.call 900 [(.add (.sub (.sw (.v 51) 0 (.lit 10) (.sw (.v 51) 1 (.lit 100) (.sw (.v 51) 2 (.lit 1000) (.lit 100000000)))) (.sub (.lit 0) (.sw (.v 51) 0 (.lit 10) (.sw (.v 51) 1 (.lit 100) (.sw (.v 51) 2 (.lit 1000) (.lit 100000000)))))) (.lit 1)), (.mn (.v 0) (.lit 600)), (.v 52)] 2
   (.call 900 [(.add (.sub (.sw (.v 51) 0 (.lit 10) (.sw (.v 51) 1 (.lit 100) (.sw (.v 51) 2 (.lit 1000) (.lit 100000000)))) (.sub (.lit 0) (.sw (.v 51) 0 (.lit 10) (.sw (.v 51) 1 (.lit 100) (.sw (.v 51) 2 (.lit 1000) (.lit 100000000)))))) (.lit 1)), (.mn (.v 0) (.lit 600)), (.v 54)] 2
   (.call 900 [(.lit 3600), (.mn (.v 0) (.lit 600)), (.v 56)] 2
   (.call 25 [(.sw (.v 2) 0 (.lit 0) (.sw (.v 2) 1 (.lit 10) (.sw (.v 2) 2 (.lit 100) (.lit 1000)))), (.sw (.v 4) 0 (.lit 0) (.sw (.v 4) 1 (.lit 1) (.lit 5))), (.sw (.v 6) 0 (.lit 0) (.sw (.v 6) 1 (.lit 50) (.lit 500))), (.sw (.v 8) 0 (.lit 0) (.lit 100)), (.sw (.v 10) 0 (.lit 0) (.lit 3)), (.sw (.v 12) 0 (.lit 0) (.lit 70)), (.sw (.v 14) 0 (.lit 0) (.sw (.v 14) 1 (.lit 500) (.lit 10000))), (.sw (.v 16) 0 (.lit 0) (.sw (.v 16) 1 (.lit 20) (.lit 60))), (.sw (.v 18) 0 (.lit 0) (.sw (.v 18) 1 (.lit 500) (.lit 3000))), (.v 44), (.v 45), (.v 46), (.v 47), (.v 48), (.v 49), (.v 50), (.add (.sub (.lit 0) (.sw (.v 51) 0 (.lit 10) (.sw (.v 51) 1 (.lit 100) (.sw (.v 51) 2 (.lit 1000) (.lit 100000000))))) (.v 53)), (.add (.sub (.lit 0) (.sw (.v 51) 0 (.lit 10) (.sw (.v 51) 1 (.lit 100) (.sw (.v 51) 2 (.lit 1000) (.lit 100000000))))) (.v 55)), (.v 57), (.add (.sub (.lit 0) (.sw (.v 34) 0 (.lit 10) (.sw (.v 34) 1 (.lit 100) (.sw (.v 34) 2 (.lit 1000) (.lit 100000000))))) (.v 36)), (.add (.sub (.lit 0) (.sw (.v 34) 0 (.lit 10) (.sw (.v 34) 1 (.lit 100) (.sw (.v 34) 2 (.lit 1000) (.lit 100000000))))) (.v 38)), (.v 40)] 11
tree2)
   )
   )
   )
   )
   (.call 7 [] 1
   (.leaf ((.bool (.lit true)), [], []))
   )
  )
 
def tree : T Leaf :=
(.ite (.lt (.lit 600) (.v 0))
 (.call 7 [] 1
 (.leaf ((.bool (.lit true)), [], []))
 )
 (.call 900 [(.lit 4), (.mn (.v 0) (.lit 600)), (.lit 0)] 2
 (.call 900 [(.lit 3), (.mn (.v 0) (.lit 600)), (.v 3)] 2
 (.call 900 [(.lit 3), (.mn (.v 0) (.lit 600)), (.v 5)] 2
 (.call 900 [(.lit 2), (.mn (.v 0) (.lit 600)), (.v 7)] 2
 (.call 900 [(.lit 2), (.mn (.v 0) (.lit 600)), (.v 9)] 2
 (.call 900 [(.lit 2), (.mn (.v 0) (.lit 600)), (.v 11)] 2
 (.call 900 [(.lit 3), (.mn (.v 0) (.lit 600)), (.v 13)] 2
 (.call 900 [(.lit 3), (.mn (.v 0) (.lit 600)), (.v 15)] 2
 (.call 900 [(.lit 3), (.mn (.v 0) (.lit 600)), (.v 17)] 2
 (.call 900 [(.add (.sub (.sw (.v 14) 0 (.lit 0) (.sw (.v 14) 1 (.lit 500) (.lit 10000))) (.sub (.lit 0) (.sw (.v 14) 0 (.lit 0) (.sw (.v 14) 1 (.lit 500) (.lit 10000))))) (.lit 1)), (.mn (.v 0) (.lit 600)), (.v 19)] 2
 (.call 900 [(.add (.sub (.sw (.v 14) 0 (.lit 0) (.sw (.v 14) 1 (.lit 500) (.lit 10000))) (.sub (.lit 0) (.sw (.v 14) 0 (.lit 0) (.sw (.v 14) 1 (.lit 500) (.lit 10000))))) (.lit 1)), (.mn (.v 0) (.lit 600)), (.v 21)] 2
 (.call 900 [(.add (.sub (.sw (.v 14) 0 (.lit 0) (.sw (.v 14) 1 (.lit 500) (.lit 10000))) (.sub (.lit 0) (.sw (.v 14) 0 (.lit 0) (.sw (.v 14) 1 (.lit 500) (.lit 10000))))) (.lit 1)), (.mn (.v 0) (.lit 600)), (.v 23)] 2
 (.call 900 [(.lit 1001), (.mn (.v 0) (.lit 600)), (.v 25)] 2
 (.call 900 [(.lit 1001), (.mn (.v 0) (.lit 600)), (.v 27)] 2
 (.call 900 [(.lit 3600), (.mn (.v 0) (.lit 600)), (.v 29)] 2
 (.call 900 [(.lit 3), (.mn (.v 0) (.lit 600)), (.v 31)] 2
 (.call 900 [(.lit 4), (.mn (.v 0) (.lit 600)), (.v 33)] 2
 (.call 900 [(.add (.sub (.sw (.v 34) 0 (.lit 10) (.sw (.v 34) 1 (.lit 100) (.sw (.v 34) 2 (.lit 1000) (.lit 100000000)))) (.sub (.lit 0) (.sw (.v 34) 0 (.lit 10) (.sw (.v 34) 1 (.lit 100) (.sw (.v 34) 2 (.lit 1000) (.lit 100000000)))))) (.lit 1)), (.mn (.v 0) (.lit 600)), (.v 35)] 2
 (.call 900 [(.add (.sub (.sw (.v 34) 0 (.lit 10) (.sw (.v 34) 1 (.lit 100) (.sw (.v 34) 2 (.lit 1000) (.lit 100000000)))) (.sub (.lit 0) (.sw (.v 34) 0 (.lit 10) (.sw (.v 34) 1 (.lit 100) (.sw (.v 34) 2 (.lit 1000) (.lit 100000000)))))) (.lit 1)), (.mn (.v 0) (.lit 600)), (.v 37)] 2
 (.call 900 [(.lit 3600), (.mn (.v 0) (.lit 600)), (.v 39)] 2
 (.loop 0 [(.lit 0), (.v 41), (.add (.sub (.lit 0) (.sw (.v 14) 0 (.lit 0) (.sw (.v 14) 1 (.lit 500) (.lit 10000)))) (.v 20)), (.add (.sub (.lit 0) (.sw (.v 14) 0 (.lit 0) (.sw (.v 14) 1 (.lit 500) (.lit 10000)))) (.v 22)), (.add (.sub (.lit 0) (.sw (.v 14) 0 (.lit 0) (.sw (.v 14) 1 (.lit 500) (.lit 10000)))) (.v 24)), (.add (.lit (-500)) (.v 26)), (.add (.lit (-500)) (.v 28)), (.v 30), (.sw (.mx (.sub (.v 32) (.lit 0)) (.lit 0)) 0 (.lit 0) (.lit 1))] [(0, 12), (0, 600), ((-10000000), 10000000), ((-10000000), 10000000), ((-10000000), 10000000), ((-100000000), 100000000), ((-100000000), 100000000), (0, 3599), (0, 1)]
tree3)
 )
 )
 )
 )
 )
 )
 )
 )
 )
 )
 )
 )
 )
 )
 )
 )
 )
 )
 )
 )
)
theorem tree_eq : (evFn Try.prog (rowCtx tab hints) 60 12 10 (.sls 0 (.v 0) (.v 1) :: shsS SS 2) [] (rowFx (rngE 2 (ksRg (shsKs SS)))) (shsW SS + 2)).strip = tree := by kernel_rfl
def JJ : Nat → List Int → List Int → Prop := fun _ ρ xs => let m : Int := (if ρ.getD 14 0 = 0 then 0 else if ρ.getD 14 0 = 1 then 500 else 10000); (-m ≤ xs.getD 2 0 ∧ xs.getD 2 0 ≤ m) ∧ (-m ≤ xs.getD 3 0 ∧ xs.getD 3 0 ≤ m) ∧ -m ≤ xs.getD 4 0 ∧ xs.getD 4 0 ≤ m

set_option maxRecDepth 100000 in
set_option maxHeartbeats 4000000 in
theorem plain (l c : Int) (hr : KsOK (shsKs SS) []) : T.okJ JJ f24F LTrue [l, c] tree := by
  simp [tree, T.okJ, LTrue, denB, den, f24F, gSane, fit1]
  intro _ a1 q1 _ _ a2 q2 _ _ a3 q3 _ _ a4 q4 _ _ a5 q5 _ _ a6 q6 _ _ a7 q7 _ _ a8 q8 _ _ a9 q9 _ _ sx r1 hs1 hs1' _ sy r2 hs2 hs2' _ sh r3 hs3 hs3' _ lx r4 _ _ ly r5 _ _ hd r6 _ _ se r7 _ _ m r8 _ _ tx r9 hx hx' _ ty r10 hy hy' _ th r11 _ _
  have b1 : 0 ≤ (if a1 = 0 then (0 : Int) else if a1 = 1 then 10 else if a1 = 2 then 100 else 1000) ∧ (if a1 = 0 then (0 : Int) else if a1 = 1 then 10 else if a1 = 2 then 100 else 1000) ≤ 1000 := by (repeat' split) <;> omega
  generalize hq1 : (if a1 = 0 then (0 : Int) else if a1 = 1 then 10 else if a1 = 2 then 100 else 1000) = n1 at *
  have b2 : 0 ≤ (if a2 = 0 then (0 : Int) else if a2 = 1 then 1 else 5) ∧ (if a2 = 0 then (0 : Int) else if a2 = 1 then 1 else 5) ≤ 5 := by (repeat' split) <;> omega
  generalize hq2 : (if a2 = 0 then (0 : Int) else if a2 = 1 then 1 else 5) = n2 at *
  have b3 : 0 ≤ (if a3 = 0 then (0 : Int) else if a3 = 1 then 50 else 500) ∧ (if a3 = 0 then (0 : Int) else if a3 = 1 then 50 else 500) ≤ 500 := by (repeat' split) <;> omega
  generalize hq3 : (if a3 = 0 then (0 : Int) else if a3 = 1 then 50 else 500) = n3 at *
  have b4 : 0 ≤ (if a4 = 0 then (0 : Int) else 100) ∧ (if a4 = 0 then (0 : Int) else 100) ≤ 100 := by (repeat' split) <;> omega
  generalize hq4 : (if a4 = 0 then (0 : Int) else 100) = n4 at *
  have b5 : 0 ≤ (if a5 = 0 then (0 : Int) else 3) ∧ (if a5 = 0 then (0 : Int) else 3) ≤ 3 := by (repeat' split) <;> omega
  generalize hq5 : (if a5 = 0 then (0 : Int) else 3) = n5 at *
  have b6 : 0 ≤ (if a6 = 0 then (0 : Int) else 70) ∧ (if a6 = 0 then (0 : Int) else 70) ≤ 70 := by (repeat' split) <;> omega
  generalize hq6 : (if a6 = 0 then (0 : Int) else 70) = n6 at *
  have b7 : 0 ≤ (if a7 = 0 then (0 : Int) else if a7 = 1 then 500 else 10000) ∧ (if a7 = 0 then (0 : Int) else if a7 = 1 then 500 else 10000) ≤ 10000 := by (repeat' split) <;> omega
  generalize hq7 : (if a7 = 0 then (0 : Int) else if a7 = 1 then 500 else 10000) = n7 at *
  have b8 : 0 ≤ (if a8 = 0 then (0 : Int) else if a8 = 1 then 20 else 60) ∧ (if a8 = 0 then (0 : Int) else if a8 = 1 then 20 else 60) ≤ 60 := by (repeat' split) <;> omega
  generalize hq8 : (if a8 = 0 then (0 : Int) else if a8 = 1 then 20 else 60) = n8 at *
  have b9 : 0 ≤ (if a9 = 0 then (0 : Int) else if a9 = 1 then 500 else 3000) ∧ (if a9 = 0 then (0 : Int) else if a9 = 1 then 500 else 3000) ≤ 3000 := by (repeat' split) <;> omega
  generalize hq9 : (if a9 = 0 then (0 : Int) else if a9 = 1 then 500 else 3000) = n9 at *
  have hg : gnsOK n1 n2 n3 n4 n5 n6 n7 n8 n9 := ⟨by omega, by omega, by omega, by omega, by omega, by omega, by omega, by omega, by omega⟩
  have bm : 10 ≤ (if m = 0 then (10 : Int) else if m = 1 then 100 else if m = 2 then 1000 else 100000000) ∧ (if m = 0 then (10 : Int) else if m = 1 then 100 else if m = 2 then 1000 else 100000000) ≤ 100000000 := by (repeat' split) <;> omega
  generalize hqm : (if m = 0 then (10 : Int) else if m = 1 then 100 else if m = 2 then 1000 else 100000000) = M at *
  refine ⟨?_, ?_⟩
  · simp [JJ, hq7]
    omega
  intro xs hl hR hJ
  match xs, hl with
  | [i, at_, kx, ky, kh, lx', ly', hd', se'], _ =>
  simp [JJ, hq7] at hJ
  simp [RngOK] at hR
  obtain ⟨r_i, r_at, r_x, r_y, r_h, r_lx, r_ly, r_hd, r_se⟩ := hR
  simp [tree3, T.okJ, LTrue, denB, den, f24F, gSane, fit1, hq1, hq2, hq3, hq4, hq5, hq6, hq7, hq8, hq9, hqm]
  intro _ m2 r12 _ _ x2 r13 hx2 hx2' _ y2 r14 hy2 hy2' _ a r15 _ _
  have bm2 : 10 ≤ (if m2 = 0 then (10 : Int) else if m2 = 1 then 100 else if m2 = 2 then 1000 else 100000000) ∧ (if m2 = 0 then (10 : Int) else if m2 = 1 then 100 else if m2 = 2 then 1000 else 100000000) ≤ 100000000 := by (repeat' split) <;> omega
  generalize hqm2 : (if m2 = 0 then (10 : Int) else if m2 = 1 then 100 else if m2 = 2 then 1000 else 100000000) = M2 at *
  generalize hG : gDem _ = G
  clear hr
  obtain ⟨f1, f2, f3, s1, s2, s3, e, d1, d2, d3, d4, d5, d6⟩ := dem_bound (x := kx) (y := ky) (h := kh) (lx := lx') (ly := ly') (hd := hd') (se := se') (px := -M2 + x2) (py := -M2 + y2) (a := a) (tx := -M + tx) (ty := -M + ty) (th := th) hg
    ⟨⟨hJ.1, hJ.2.1, hJ.2.2, by omega, by omega⟩, by omega, by omega, by omega, by omega, by omega⟩
  replace hG : G = [f1, f2, f3, s1, s2, s3, -M2 + x2, -M2 + y2, a, 1, 0] := hG.symm.trans e
  subst hG
  simp only [fit11]
  simp [tree2, T.okJ, LTrue, denB, den, f24F, hq1, hq2, hq3, hq4, hq5, hq6, hq7, hq8, hq9]
  generalize hV : gVld _ = V
  have eV : vldS n1 n2 n3 n4 n5 n6 n7 n8 n9 s1 s2 s3 (-M2 + x2) (-M2 + y2) a = 1 := if_pos ⟨hg, d4, d5, d6, by omega, by omega⟩
  replace hV : V = [1] := hV.symm.trans (congrArg (fun z => [z]) eV)
  subst hV
  simp [tree1, T.okJ, LTrue, denB, den, f24F, fit1, JJ, hq1, hq2, hq3, hq4, hq5, hq6, hq7, hq8, hq9]
  simp only [mxE]
  omega
theorem walk (a0 : Option Addr) (len0 cap0 : Nat) (z0 : List Int) (w : World) (w0 : IsRow .i64 w a0 len0 cap0 z0) (r : List Int) (hr : KsOK (shsKs SS) r) :
    Calls Try.prog 10 (.slice a0 len0 cap0 :: shsV SS r).toArray w fun e w' => e = .returned (.bool true) ∧ Below w.heap.size w w' := by
  match r, hr.length, hr with
  | [], _, hr => exact row_lawSS w0 (g := f24F) (l := tab) ⟨dem_ok, vld_ok, bod_ok, sgn_ok, addR_ok, sane24_ok, trivial⟩ (by kernel_rfl) tree_eq (plain _ _ hr) hr
end Go.Proofs.Ythhaeaiheidpoaa.controlBounds
