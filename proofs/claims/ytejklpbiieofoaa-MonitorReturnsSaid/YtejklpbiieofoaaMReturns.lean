/- 'dynpos/dynposlaw07.MonitorReturns': the tree of its walk, and that each of its leaves is true. -/
import Derived.Test.YtejklpbiieofoaaEvQ
import Derived.Test.YtejklpbiieofoaaM07S
import Derived.Test.YtejklpbiieofoaaM07T
import Derived.Test.YtejklpbiieofoaaM07V
import Derived.Test.YtejklpbiieofoaaM07L
set_option linter.unusedSimpArgs false
set_option linter.unusedVariables false
namespace Go.Proofs.Ytejklpbiieofoaa.monitorReturns
open Go.RowKit Ev
def tab : List (FuncId × PC) := [(12, cStep), (16, cTick), (13, cSane)]
def SS : List Sh := [.one (some .u16)]
def hints : FuncId → Nat → Option Hint := fun _ _ => none
def tree1 : T Leaf :=
  (.ite (.and (.and (.and (.and (.and (.and (.eq (.v 28) (.lit 0)) (.eq (.v 40) (.lit 0))) (.eq (.v 52) (.lit 0))) (.eq (.v 27) (.lit 4))) (.and (.eq (.v 21) (.lit 1)) (.and (.eq (.v 22) (.lit 0)) (.and (.eq (.v 23) (.lit 0)) (.eq (.v 24) (.lit 10)))))) (.eq (.v 39) (.lit 1))) (.eq (.v 51) (.lit 1)))
   (.call 7 [] 1
   (.leaf ((.bool (.lit true)), [], []))
   )
   (.leaf ((.bool (.lit false)), [], []))
  )
  
def tree2 : T Leaf :=
 (.ite (.eq (.v 28) (.lit 16))
  (.ite (.le (.quo (.sub (.add (.sub (.add (.lit 21) (.rem (.v 2) (.lit 5000))) (.lit 20)) (.add (.lit 1) (.v 3))) (.lit 1)) (.add (.lit 1) (.v 3))) (.lit 1))
   (.call 7 [] 1
   (.leaf ((.bool (.lit true)), [], []))
   )
   (.leaf ((.bool (.lit false)), [], []))
  )
  (.call 30 [(.lit 0), (.add (.lit 1) (.v 3)), (.lit 100), (.lit 0), (.v 17), (.v 18), (.v 19), (.v 20), (.v 21), (.v 22), (.v 23), (.v 24), (.v 25), (.v 26), (.v 27), (.add (.quo (.sub (.add (.sub (.add (.lit 21) (.rem (.v 2) (.lit 5000))) (.lit 20)) (.add (.lit 1) (.v 3))) (.lit 1)) (.add (.lit 1) (.v 3))) (.lit 1)), (.lit 3), (.lit 0), (.lit 10)] 12
tree1)
 )
 
def tree3 : T Leaf :=
 (.call 30 [(.lit 0), (.add (.lit 1) (.v 3)), (.lit 100), (.lit 0), (.lit 0), (.lit 0), (.lit 0), (.lit 0), (.lit 0), (.lit 0), (.lit 0), (.lit 0), (.lit 0), (.lit 0), (.lit 0), (.add (.quo (.sub (.add (.sub (.add (.lit 21) (.rem (.v 2) (.lit 5000))) (.lit 20)) (.add (.lit 1) (.v 3))) (.lit 1)) (.add (.lit 1) (.v 3))) (.lit 1)), (.add (.lit 21) (.rem (.v 2) (.lit 5000))), (.lit 0), (.lit 10)] 12
tree2)
 
def tree4 : T Leaf :=
  (.ite (.and (.and (.and (.and (.and (.and (.eq (.v 28) (.lit 0)) (.eq (.v 40) (.lit 0))) (.eq (.v 52) (.lit 0))) (.eq (.v 27) (.lit 4))) (.and (.eq (.v 21) (.lit 1)) (.and (.eq (.v 22) (.lit 0)) (.and (.eq (.v 23) (.lit 0)) (.eq (.v 24) (.lit 10)))))) (.eq (.v 39) (.lit 1))) (.eq (.v 51) (.lit 1)))
   (.call 7 [] 1
   (.leaf ((.bool (.lit true)), [], []))
   )
   (.leaf ((.bool (.lit false)), [], []))
  )
  
def tree5 : T Leaf :=
 (.ite (.eq (.v 28) (.lit 16))
  (.ite (.le (.quo (.sub (.add (.sub (.add (.lit 21) (.rem (.v 2) (.lit 5000))) (.lit 20)) (.add (.lit 1) (.v 3))) (.lit 1)) (.add (.lit 1) (.v 3))) (.lit 1))
   (.call 7 [] 1
   (.leaf ((.bool (.lit true)), [], []))
   )
   (.leaf ((.bool (.lit false)), [], []))
  )
  (.call 30 [(.lit 0), (.add (.lit 1) (.v 3)), (.lit 100), (.lit 0), (.v 17), (.v 18), (.v 19), (.v 20), (.v 21), (.v 22), (.v 23), (.v 24), (.v 25), (.v 26), (.v 27), (.add (.quo (.sub (.add (.sub (.add (.lit 21) (.rem (.v 2) (.lit 5000))) (.lit 20)) (.add (.lit 1) (.v 3))) (.lit 1)) (.add (.lit 1) (.v 3))) (.lit 1)), (.lit 3), (.lit 0), (.lit 10)] 12
tree4)
 )
 
def tree6 : T Leaf :=
 (.call 30 [(.lit 0), (.add (.lit 1) (.v 3)), (.lit 100), (.lit 0), (.v 5), (.v 6), (.v 7), (.v 8), (.v 9), (.v 10), (.v 11), (.v 12), (.v 13), (.v 14), (.v 15), (.add (.quo (.sub (.add (.sub (.add (.lit 21) (.rem (.v 2) (.lit 5000))) (.lit 20)) (.add (.lit 1) (.v 3))) (.lit 1)) (.add (.lit 1) (.v 3))) (.lit 1)), (.add (.lit 21) (.rem (.v 2) (.lit 5000))), (.lit 0), (.lit 10)] 12
tree5)
 
def tree7 : T Leaf :=
(.ite (.not (.eq (.v 16) (.lit 0)))
 (.call 30 [(.lit 0), (.add (.lit 1) (.v 3)), (.lit 100), (.lit 0), (.lit 0), (.lit 0), (.lit 0), (.lit 0), (.lit 0), (.lit 0), (.lit 0), (.lit 0), (.lit 0), (.lit 0), (.lit 0), (.quo (.sub (.add (.sub (.add (.lit 21) (.rem (.v 2) (.lit 5000))) (.lit 20)) (.add (.lit 1) (.v 3))) (.lit 1)) (.add (.lit 1) (.v 3))), (.add (.lit 21) (.rem (.v 2) (.lit 5000))), (.lit 0), (.lit 10)] 12
tree3)
 (.call 30 [(.lit 0), (.add (.lit 1) (.v 3)), (.lit 100), (.lit 0), (.v 5), (.v 6), (.v 7), (.v 8), (.v 9), (.v 10), (.v 11), (.v 12), (.v 13), (.v 14), (.v 15), (.quo (.sub (.add (.sub (.add (.lit 21) (.rem (.v 2) (.lit 5000))) (.lit 20)) (.add (.lit 1) (.v 3))) (.lit 1)) (.add (.lit 1) (.v 3))), (.add (.lit 21) (.rem (.v 2) (.lit 5000))), (.lit 0), (.lit 10)] 12
tree6)
)

def tree : T Leaf :=
(.call 900 [(.lit 100), (.mn (.v 0) (.lit 600)), (.lit 0)] 2
(.call 30 [(.lit 0), (.add (.lit 1) (.v 3)), (.lit 100), (.lit 0), (.lit 0), (.lit 0), (.lit 0), (.lit 0), (.lit 0), (.lit 0), (.lit 0), (.lit 0), (.lit 0), (.lit 0), (.lit 0), (.lit 1), (.lit 0), (.lit 0), (.lit 10)] 12
tree7)
)
theorem tree_eq : (evFn Try.prog (rowCtx tab hints) 60 12 4 (.sls 0 (.v 0) (.v 1) :: shsS SS 2) [] (rowFx (rngE 2 (ksRg (shsKs SS)))) (shsW SS + 2)).strip = tree := by kernel_rfl
def JJ : Nat → List Int → List Int → Prop := fun _ _ _ => True

set_option maxRecDepth 100000 in
set_option maxHeartbeats 4000000 in
theorem plain (l c : Int) (x0 : Int) (hr : KsOK (shsKs SS) [x0]) : T.okJ JJ m07F LTrue [l, c, x0] tree := by
  have hw : 0 ≤ x0 ∧ x0 ≤ 65535 := hr.1
  simp [tree, T.okJ, LTrue, denB, den, m07F, gSane, fit1]
  intro v q0 hv hv'
  generalize hG : gStep _ = G
  have hr1 : refOK 0 (1 + v) 100 0 := by omega
  have e1 : stepS 0 (1 + v) 100 0 0 0 0 0 0 0 0 0 0 0 0 1 0 0 10 = [1, 0, 0, 10, 1, 0, 0, 10, 1, 1, 1, 0] := step_first hr1 (by omega) _ _ _ _ _ _ _ _ _
  replace hG : G = [1, 0, 0, 10, 1, 0, 0, 10, 1, 1, 1, 0] := hG.symm.trans e1
  clear e1
  subst hG
  simp only [fit12]
  simp [tree7, T.okJ, LTrue, denB, den, m07F, gSane, fit1]
  have hD : 21 ≤ 21 + x0.tmod 5000 ∧ 21 + x0.tmod 5000 ≤ 5020 := by
    have e := Int.mul_tdiv_add_tmod x0 5000
    have l1 := Int.tmod_lt_of_pos x0 (show (0 : Int) < 5000 by omega)
    have l2 := Int.tmod_nonneg 5000 hw.1
    omega
  generalize hDq : 21 + x0.tmod 5000 = D at *
  obtain ⟨w1, w2, w3, w4⟩ := wait_spec hD.1 (show 1 ≤ 1 + v by omega)
  generalize hW : (D - 20 + (1 + v) - 1).tdiv (1 + v) = W at *
  generalize hG : gStep _ = G
  have ht : trkOK 1 0 0 10 1 0 0 10 1 1 := by omega
  clear hr
  by_cases hw1 : W ≤ 1
  · have e1 : stepS 0 (1 + v) 100 0 1 0 0 10 1 0 0 10 1 1 1 W D 0 10 = [0, 0, 0, 0, 0, 0, 0, 0, 0, 0, 0, 16] := step_late hr1 (by omega) ht hw1
    replace hG : G = [0, 0, 0, 0, 0, 0, 0, 0, 0, 0, 0, 16] := hG.symm.trans e1
    subst hG
    simp only [fit12]
    simp [tree6, T.okJ, LTrue, denB, den, m07F, gSane, fit1]
    simp [tree5, T.okJ, LTrue, denB, den, m07F, gSane, fit1]
    rw [hDq, hW]
    exact hw1
  · have e1 : stepS 0 (1 + v) 100 0 1 0 0 10 1 0 0 10 1 1 1 W D 0 10 = [W, D, 0, 10, 1, 0, 0, 10, 1, 1, 4, 0] := by
      have hq : sameS 0 0 1 D 0 = 1 := by unfold sameS; rw [if_neg (by omega)]
      rw [step_jump hr1 (by omega) ht (by omega) (by omega), hq]
    replace hG : G = [W, D, 0, 10, 1, 0, 0, 10, 1, 1, 4, 0] := hG.symm.trans e1
    subst hG
    simp only [fit12]
    simp [tree6, T.okJ, LTrue, denB, den, m07F, gSane, fit1]
    simp only [hDq, hW]
    have em : (1 + v) * (W + 1 - 1) = (1 + v) * W := by congr 1; omega
    generalize hG : gStep _ = G
    have e2 : stepS 0 (1 + v) 100 0 1 0 0 10 1 0 0 10 1 1 1 (W + 1) D 0 10 = [W + 1, D, 0, 10, W + 1, D, 0, 10, 1, 1, 1, 0] := by
      have hq : sameS 0 0 1 D 0 = 1 := by unfold sameS; rw [if_neg (by omega)]
      rw [step_calm hr1 (by omega) ht (by omega) (by rw [em]; omega), hq, if_neg (by omega)]
    replace hG : G = [W + 1, D, 0, 10, W + 1, D, 0, 10, 1, 1, 1, 0] := hG.symm.trans e2
    subst hG
    simp only [fit12]
    simp [tree5, T.okJ, LTrue, denB, den, m07F, gSane, fit1]
    simp only [hDq, hW]
    generalize hG : gStep _ = G
    have e3 : stepS 0 (1 + v) 100 0 W D 0 10 1 0 0 10 1 1 4 (W + 1) 3 0 10 = [W + 1, 3, 0, 10, W + 1, 3, 0, 10, 1, 1, 1, 0] := by
      have hq : sameS D 0 1 3 0 = 1 := by unfold sameS; rw [if_neg (by omega)]
      rw [step_calm hr1 (by omega) (by omega) (by omega) (by rw [em]; omega), hq, if_neg (by omega)]
    replace hG : G = [W + 1, 3, 0, 10, W + 1, 3, 0, 10, 1, 1, 1, 0] := hG.symm.trans e3
    subst hG
    simp only [fit12]
    simp [tree4, T.okJ, LTrue, denB, den, m07F, gSane, fit1]
theorem walk (a0 : Option Addr) (len0 cap0 : Nat) (z0 : List Int) (w : World) (w0 : IsRow .i64 w a0 len0 cap0 z0) (r : List Int) (hr : KsOK (shsKs SS) r) :
    Calls Try.prog 4 (.slice a0 len0 cap0 :: shsV SS r).toArray w fun e w' => e = .returned (.bool true) ∧ Below w.heap.size w w' := by
  match r, hr.length, hr with
  | [x0], _, hr => exact row_lawSS w0 (g := m07F) (l := tab) ⟨step_ok, tick_ok, sane07_ok, trivial⟩ (by kernel_rfl) tree_eq (plain _ _ _ hr) hr
end Go.Proofs.Ytejklpbiieofoaa.monitorReturns
