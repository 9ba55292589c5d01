/- 'dynpos/dynposlaw24.ControlShifts': the tree of its walk, and that each of its leaves is true. -/
import Derived.Test.YthhaeaiheidpoaaF24Q
import Derived.Test.YthhaeaiheidpoaaEvQ
import Derived.Test.YthhaeaiheidpoaaF24Y
import Derived.Test.YthhaeaiheidpoaaF24Z
import Derived.Test.YthhaeaiheidpoaaF24V
import Derived.Test.YthhaeaiheidpoaaF24E
set_option linter.unusedSimpArgs false
set_option linter.unusedVariables false
namespace Go.Proofs.Ythhaeaiheidpoaa.controlShifts
open Go.RowKit Ev
def tab : List (FuncId × PC) := [(45, cDem), (43, cVld), (47, cBod), (49, cSgn), (29, cAdd), (37, cSane)]
def SS : List Sh := [.one (some .i16), .one (some .i16)]
def hints : FuncId → Nat → Option Hint := fun _ _ => none
def tree1 : T Leaf :=
 (.ite (.and (.and (.and (.and (.and (.eq (.v 56) (.lit 0)) (.eq (.v 76) (.lit 0))) (.and (.eq (.v 46) (.v 66)) (.and (.eq (.v 47) (.v 67)) (.eq (.v 48) (.v 68))))) (.eq (.v 49) (.v 69))) (.eq (.v 50) (.v 70))) (.eq (.v 51) (.v 71)))
  (.call 7 [] 1
  (.leaf ((.bool (.lit true)), [], []))
  )
  (.leaf ((.bool (.lit false)), [], []))
 )
 
def tree2 : T Leaf :=
 (.call 25 [(.sw (.v 4) 0 (.lit 0) (.sw (.v 4) 1 (.lit 10) (.sw (.v 4) 2 (.lit 100) (.lit 1000)))), (.sw (.v 6) 0 (.lit 0) (.sw (.v 6) 1 (.lit 1) (.lit 5))), (.sw (.v 8) 0 (.lit 0) (.sw (.v 8) 1 (.lit 50) (.lit 500))), (.sw (.v 10) 0 (.lit 0) (.lit 100)), (.sw (.v 12) 0 (.lit 0) (.lit 3)), (.sw (.v 14) 0 (.lit 0) (.lit 70)), (.sw (.v 16) 0 (.lit 0) (.sw (.v 16) 1 (.lit 500) (.lit 10000))), (.sw (.v 18) 0 (.lit 0) (.sw (.v 18) 1 (.lit 20) (.lit 60))), (.sw (.v 20) 0 (.lit 0) (.sw (.v 20) 1 (.lit 500) (.lit 3000))), (.add (.sub (.lit 0) (.sw (.v 16) 0 (.lit 0) (.sw (.v 16) 1 (.lit 500) (.lit 10000)))) (.v 22)), (.add (.sub (.lit 0) (.sw (.v 16) 0 (.lit 0) (.sw (.v 16) 1 (.lit 500) (.lit 10000)))) (.v 24)), (.add (.sub (.lit 0) (.sw (.v 16) 0 (.lit 0) (.sw (.v 16) 1 (.lit 500) (.lit 10000)))) (.v 26)), (.v 57), (.v 58), (.v 32), (.sw (.mx (.sub (.v 34) (.lit 0)) (.lit 0)) 0 (.lit 0) (.lit 1)), (.v 60), (.v 61), (.v 44), (.v 63), (.v 64), (.v 42)] 11
tree1)
 
def tree3 : T Leaf :=
 (.call 14 [(.add (.lit (-900)) (.v 40)), (.lit 0), (.v 2), (.v 3)] 3
tree2)
 
def tree4 : T Leaf :=
 (.call 14 [(.add (.lit (-900)) (.v 36)), (.add (.lit (-900)) (.v 38)), (.v 2), (.v 3)] 3
tree3)
 
def tree5 : T Leaf :=
 (.call 14 [(.add (.lit (-500)) (.v 28)), (.add (.lit (-500)) (.v 30)), (.v 2), (.v 3)] 3
tree4)
 
def tree : T Leaf :=
(.ite (.lt (.lit 600) (.v 0))
 (.call 7 [] 1
 (.leaf ((.bool (.lit true)), [], []))
 )
 (.call 900 [(.lit 4), (.mn (.v 0) (.lit 600)), (.lit 0)] 2
 (.call 900 [(.lit 3), (.mn (.v 0) (.lit 600)), (.v 5)] 2
 (.call 900 [(.lit 3), (.mn (.v 0) (.lit 600)), (.v 7)] 2
 (.call 900 [(.lit 2), (.mn (.v 0) (.lit 600)), (.v 9)] 2
 (.call 900 [(.lit 2), (.mn (.v 0) (.lit 600)), (.v 11)] 2
 (.call 900 [(.lit 2), (.mn (.v 0) (.lit 600)), (.v 13)] 2
 (.call 900 [(.lit 3), (.mn (.v 0) (.lit 600)), (.v 15)] 2
 (.call 900 [(.lit 3), (.mn (.v 0) (.lit 600)), (.v 17)] 2
 (.call 900 [(.lit 3), (.mn (.v 0) (.lit 600)), (.v 19)] 2
 (.call 900 [(.add (.sub (.sw (.v 16) 0 (.lit 0) (.sw (.v 16) 1 (.lit 500) (.lit 10000))) (.sub (.lit 0) (.sw (.v 16) 0 (.lit 0) (.sw (.v 16) 1 (.lit 500) (.lit 10000))))) (.lit 1)), (.mn (.v 0) (.lit 600)), (.v 21)] 2
 (.call 900 [(.add (.sub (.sw (.v 16) 0 (.lit 0) (.sw (.v 16) 1 (.lit 500) (.lit 10000))) (.sub (.lit 0) (.sw (.v 16) 0 (.lit 0) (.sw (.v 16) 1 (.lit 500) (.lit 10000))))) (.lit 1)), (.mn (.v 0) (.lit 600)), (.v 23)] 2
 (.call 900 [(.add (.sub (.sw (.v 16) 0 (.lit 0) (.sw (.v 16) 1 (.lit 500) (.lit 10000))) (.sub (.lit 0) (.sw (.v 16) 0 (.lit 0) (.sw (.v 16) 1 (.lit 500) (.lit 10000))))) (.lit 1)), (.mn (.v 0) (.lit 600)), (.v 25)] 2
 (.call 900 [(.lit 1001), (.mn (.v 0) (.lit 600)), (.v 27)] 2
 (.call 900 [(.lit 1001), (.mn (.v 0) (.lit 600)), (.v 29)] 2
 (.call 900 [(.lit 3600), (.mn (.v 0) (.lit 600)), (.v 31)] 2
 (.call 900 [(.lit 3), (.mn (.v 0) (.lit 600)), (.v 33)] 2
 (.call 900 [(.lit 1801), (.mn (.v 0) (.lit 600)), (.v 35)] 2
 (.call 900 [(.lit 1801), (.mn (.v 0) (.lit 600)), (.v 37)] 2
 (.call 900 [(.lit 1801), (.mn (.v 0) (.lit 600)), (.v 39)] 2
 (.call 900 [(.lit 3600), (.mn (.v 0) (.lit 600)), (.v 41)] 2
 (.call 900 [(.lit 3600), (.mn (.v 0) (.lit 600)), (.v 43)] 2
 (.call 25 [(.sw (.v 4) 0 (.lit 0) (.sw (.v 4) 1 (.lit 10) (.sw (.v 4) 2 (.lit 100) (.lit 1000)))), (.sw (.v 6) 0 (.lit 0) (.sw (.v 6) 1 (.lit 1) (.lit 5))), (.sw (.v 8) 0 (.lit 0) (.sw (.v 8) 1 (.lit 50) (.lit 500))), (.sw (.v 10) 0 (.lit 0) (.lit 100)), (.sw (.v 12) 0 (.lit 0) (.lit 3)), (.sw (.v 14) 0 (.lit 0) (.lit 70)), (.sw (.v 16) 0 (.lit 0) (.sw (.v 16) 1 (.lit 500) (.lit 10000))), (.sw (.v 18) 0 (.lit 0) (.sw (.v 18) 1 (.lit 20) (.lit 60))), (.sw (.v 20) 0 (.lit 0) (.sw (.v 20) 1 (.lit 500) (.lit 3000))), (.add (.sub (.lit 0) (.sw (.v 16) 0 (.lit 0) (.sw (.v 16) 1 (.lit 500) (.lit 10000)))) (.v 22)), (.add (.sub (.lit 0) (.sw (.v 16) 0 (.lit 0) (.sw (.v 16) 1 (.lit 500) (.lit 10000)))) (.v 24)), (.add (.sub (.lit 0) (.sw (.v 16) 0 (.lit 0) (.sw (.v 16) 1 (.lit 500) (.lit 10000)))) (.v 26)), (.add (.lit (-500)) (.v 28)), (.add (.lit (-500)) (.v 30)), (.v 32), (.sw (.mx (.sub (.v 34) (.lit 0)) (.lit 0)) 0 (.lit 0) (.lit 1)), (.add (.lit (-900)) (.v 36)), (.add (.lit (-900)) (.v 38)), (.v 44), (.add (.lit (-900)) (.v 40)), (.lit 0), (.v 42)] 11
tree5)
 )
 )
 )
 )
 )
 )
 )
 )
 )
 )
 )
 )
 )
 )
 )
 )
 )
 )
 )
 )
 )
)
theorem tree_eq : (evFn Try.prog (rowCtx tab hints) 60 12 11 (.sls 0 (.v 0) (.v 1) :: shsS SS 2) [] (rowFx (rngE 2 (ksRg (shsKs SS)))) (shsW SS + 2)).strip = tree := by kernel_rfl
def JJ : Nat → List Int → List Int → Prop := fun _ _ _ => True

set_option maxRecDepth 100000 in
set_option maxHeartbeats 4000000 in
theorem plain (l c : Int) (x0 : Int) (x1 : Int) (hr : KsOK (shsKs SS) [x0, x1]) : T.okJ JJ f24F LTrue [l, c, x0, x1] tree := by
  simp [tree, T.okJ, LTrue, denB, den, f24F, Go.Proofs.Ythhaeaiheidpoaa.a0, Go.Proofs.Ythhaeaiheidpoaa.a1, Go.Proofs.Ythhaeaiheidpoaa.a2, Go.Proofs.Ythhaeaiheidpoaa.a3, Go.Proofs.Ythhaeaiheidpoaa.a4]
  have hw : (-32768 ≤ x0 ∧ x0 ≤ 32767) ∧ -32768 ≤ x1 ∧ x1 ≤ 32767 := ⟨hr.1, hr.2.1⟩
  intro _ a1 q1 _ _ a2 q2 _ _ a3 q3 _ _ a4 q4 _ _ a5 q5 _ _ a6 q6 _ _ a7 q7 _ _ a8 q8 _ _ a9 q9 _ _ sx r1 hs1 hs1' _ sy r2 hs2 hs2' _ sh r3 hs3 hs3' _ lx r4 _ _ ly r5 _ _ hd r6 _ _ se r7 _ _ px r8 _ _ py r9 _ _ tx r10 _ _ th r11 _ _ a r12 _ _
  have b1 : 0 ≤ (if a1 = 0 then (0 : Int) else if a1 = 1 then 10 else if a1 = 2 then 100 else 1000) ∧ (if a1 = 0 then (0 : Int) else if a1 = 1 then 10 else if a1 = 2 then 100 else 1000) ≤ 1000 := by (repeat' split) <;> omega
  generalize hq1 : (if a1 = 0 then (0 : Int) else if a1 = 1 then 10 else if a1 = 2 then 100 else 1000) = n1 at *
  have b2 : 0 ≤ (if a2 = 0 then (0 : Int) else if a2 = 1 then 1 else 5) ∧ (if a2 = 0 then (0 : Int) else if a2 = 1 then 1 else 5) ≤ 5 := by (repeat' split) <;> omega
  generalize hq2 : (if a2 = 0 then (0 : Int) else if a2 = 1 then 1 else 5) = n2 at *
  have b3 : 0 ≤ (if a3 = 0 then (0 : Int) else if a3 = 1 then 50 else 500) ∧ (if a3 = 0 then (0 : Int) else if a3 = 1 then 50 else 500) ≤ 500 := by (repeat' split) <;> omega
  generalize hq3 : (if a3 = 0 then (0 : Int) else if a3 = 1 then 50 else 500) = n3 at *
  have b4 : 0 ≤ (if a4 = 0 then (0 : Int) else 100) ∧ (if a4 = 0 then (0 : Int) else 100) ≤ 100 := by (repeat' split) <;> omega
  generalize hq4 : (if a4 = 0 then (0 : Int) else 100) = n4 at *
  have b5 : 0 ≤ (if a5 = 0 then (0 : Int) else 3) ∧ (if a5 = 0 then (0 : Int) else 3) ≤ 3 := by (repeat' split) <;> omega
  generalize hq5 : (if a5 = 0 then (0 : Int) else 3) = n5 at *
  have b6 : 0 ≤ (if a6 = 0 then (0 : Int) else 70) ∧ (if a6 = 0 then (0 : Int) else 70) ≤ 70 := by (repeat' split) <;> omega
  generalize hq6 : (if a6 = 0 then (0 : Int) else 70) = n6 at *
  have b7 : 0 ≤ (if a7 = 0 then (0 : Int) else if a7 = 1 then 500 else 10000) ∧ (if a7 = 0 then (0 : Int) else if a7 = 1 then 500 else 10000) ≤ 10000 := by (repeat' split) <;> omega
  generalize hq7 : (if a7 = 0 then (0 : Int) else if a7 = 1 then 500 else 10000) = n7 at *
  have b8 : 0 ≤ (if a8 = 0 then (0 : Int) else if a8 = 1 then 20 else 60) ∧ (if a8 = 0 then (0 : Int) else if a8 = 1 then 20 else 60) ≤ 60 := by (repeat' split) <;> omega
  generalize hq8 : (if a8 = 0 then (0 : Int) else if a8 = 1 then 20 else 60) = n8 at *
  have b9 : 0 ≤ (if a9 = 0 then (0 : Int) else if a9 = 1 then 500 else 3000) ∧ (if a9 = 0 then (0 : Int) else if a9 = 1 then 500 else 3000) ≤ 3000 := by (repeat' split) <;> omega
  generalize hq9 : (if a9 = 0 then (0 : Int) else if a9 = 1 then 500 else 3000) = n9 at *
  have hg : gnsOK n1 n2 n3 n4 n5 n6 n7 n8 n9 := ⟨by omega, by omega, by omega, by omega, by omega, by omega, by omega, by omega, by omega⟩
  have kx : -n7 ≤ -n7 + sx ∧ -n7 + sx ≤ n7 := by omega
  have ky : -n7 ≤ -n7 + sy ∧ -n7 + sy ≤ n7 := by omega
  have kh : -n7 ≤ -n7 + sh ∧ -n7 + sh ≤ n7 := by omega
  generalize hG : gDem _ = G
  clear hr
  have p1 : ptOK (-500 + lx) (-500 + ly) := ⟨by omega, by omega, by omega, by omega⟩
  have p2 : ptOK (-900 + px) (-900 + py) := ⟨by omega, by omega, by omega, by omega⟩
  have p3 : ptOK (-900 + tx) 0 := ⟨by omega, by omega, by omega, by omega⟩
  have p4 : ptOK x0 x1 := ⟨by omega, by omega, by omega, by omega⟩
  have p1' : ptOK (-500 + lx + x0) (-500 + ly + x1) := ⟨by omega, by omega, by omega, by omega⟩
  have p2' : ptOK (-900 + px + x0) (-900 + py + x1) := ⟨by omega, by omega, by omega, by omega⟩
  have p3' : ptOK (-900 + tx + x0) (0 + x1) := ⟨by omega, by omega, by omega, by omega⟩
  have hh : 0 ≤ hd ∧ hd < 3600 := by omega
  have ha : 0 ≤ a ∧ a < 3600 := by omega
  have ht : 0 ≤ th ∧ th < 3600 := by omega
  have A1 : addS (-500 + lx) (-500 + ly) x0 x1 = [-500 + lx + x0, -500 + ly + x1, 0] := if_pos ⟨decide_eq_true p1, decide_eq_true p4, decide_eq_true p1'⟩
  have A2 : addS (-900 + px) (-900 + py) x0 x1 = [-900 + px + x0, -900 + py + x1, 0] := if_pos ⟨decide_eq_true p2, decide_eq_true p4, decide_eq_true p2'⟩
  have A3 : addS (-900 + tx) 0 x0 x1 = [-900 + tx + x0, 0 + x1, 0] := if_pos ⟨decide_eq_true p3, decide_eq_true p4, decide_eq_true p3'⟩
  rw [Int.zero_add] at A3
  obtain ⟨f1, f2, f3, s1, s2, s3, e1, e2⟩ := dem_shift (x := -n7 + sx) (y := -n7 + sy) (h := -n7 + sh) (se := if 0 ≤ se → se = 0 then 0 else 1) hg (u := x0) (v := x1) ⟨⟨kx, ky, kh, p1, hh⟩, p2, p3, ha, ht⟩ ⟨⟨kx, ky, kh, p1', hh⟩, p2', p3', ha, ht⟩
  rw [Int.zero_add] at e2
  replace hG : G = [f1, f2, f3, s1, s2, s3, -900 + px, -900 + py, a, 1, 0] := hG.symm.trans e1
  subst hG
  simp only [fit11]
  simp [tree5, T.okJ, den, f24F, gAdd, A1, fit3, Go.Proofs.Ythhaeaiheidpoaa.a0, Go.Proofs.Ythhaeaiheidpoaa.a1, Go.Proofs.Ythhaeaiheidpoaa.a2, Go.Proofs.Ythhaeaiheidpoaa.a3]
  simp [tree4, T.okJ, den, f24F, gAdd, A2, fit3, Go.Proofs.Ythhaeaiheidpoaa.a0, Go.Proofs.Ythhaeaiheidpoaa.a1, Go.Proofs.Ythhaeaiheidpoaa.a2, Go.Proofs.Ythhaeaiheidpoaa.a3]
  simp [tree3, T.okJ, den, f24F, gAdd, A3, fit3, Go.Proofs.Ythhaeaiheidpoaa.a0, Go.Proofs.Ythhaeaiheidpoaa.a1, Go.Proofs.Ythhaeaiheidpoaa.a2, Go.Proofs.Ythhaeaiheidpoaa.a3]
  simp [tree2, T.okJ, den, f24F, hq1, hq2, hq3, hq4, hq5, hq6, hq7, hq8, hq9]
  generalize hG : gDem _ = G
  replace hG : G = [f1, f2, f3, s1, s2, s3, -900 + px + x0, -900 + py + x1, a, 1, 0] := hG.symm.trans e2
  subst hG
  simp only [fit11]
  simp [tree1, T.okJ, LTrue, denB, den, f24F, gSane, fit1]
theorem walk (a0 : Option Addr) (len0 cap0 : Nat) (z0 : List Int) (w : World) (w0 : IsRow .i64 w a0 len0 cap0 z0) (r : List Int) (hr : KsOK (shsKs SS) r) :
    Calls Try.prog 11 (.slice a0 len0 cap0 :: shsV SS r).toArray w fun e w' => e = .returned (.bool true) ∧ Below w.heap.size w w' := by
  match r, hr.length, hr with
  | [x0, x1], _, hr => exact row_lawSS w0 (g := f24F) (l := tab) ⟨dem_ok, vld_ok, bod_ok, sgn_ok, addR_ok, sane24_ok, trivial⟩ (by kernel_rfl) tree_eq (plain _ _ _ _ hr) hr
end Go.Proofs.Ythhaeaiheidpoaa.controlShifts
