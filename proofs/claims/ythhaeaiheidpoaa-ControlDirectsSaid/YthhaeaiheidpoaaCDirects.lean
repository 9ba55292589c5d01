/- 'dynpos/dynposlaw24.ControlDirects': the tree of its walk, and that each of its leaves is true. -/
import Derived.Test.YthhaeaiheidpoaaF24Q
import Derived.Test.YthhaeaiheidpoaaEvQ
import Derived.Test.YthhaeaiheidpoaaF24Y
import Derived.Test.YthhaeaiheidpoaaF24Z
import Derived.Test.YthhaeaiheidpoaaF24V
import Derived.Test.YthhaeaiheidpoaaF24E
set_option linter.unusedSimpArgs false
set_option linter.unusedVariables false
namespace Go.Proofs.Ythhaeaiheidpoaa.controlDirects
open Go.RowKit Ev
def tab : List (FuncId × PC) := [(45, cDem), (43, cVld), (47, cBod), (49, cSgn), (29, cAdd), (37, cSane)]
def SS : List Sh := []
def hints : FuncId → Nat → Option Hint := fun _ _ => none
def tree : T Leaf :=
(.ite (.lt (.lit 600) (.v 0))
 (.call 7 [] 1
 (.leaf ((.bool (.lit true)), [], []))
 )
 (.call 900 [(.lit 4), (.mn (.v 0) (.lit 600)), (.lit 0)] 2
 (.call 900 [(.lit 3), (.mn (.v 0) (.lit 600)), (.v 3)] 2
 (.call 900 [(.lit 3), (.mn (.v 0) (.lit 600)), (.v 5)] 2
 (.call 900 [(.lit 2), (.mn (.v 0) (.lit 600)), (.v 7)] 2
 (.call 900 [(.lit 2), (.mn (.v 0) (.lit 600)), (.v 9)] 2
 (.call 900 [(.lit 2), (.mn (.v 0) (.lit 600)), (.v 11)] 2
 (.call 900 [(.lit 3), (.mn (.v 0) (.lit 600)), (.v 13)] 2
 (.call 900 [(.lit 3), (.mn (.v 0) (.lit 600)), (.v 15)] 2
 (.call 900 [(.lit 3), (.mn (.v 0) (.lit 600)), (.v 17)] 2
 (.call 900 [(.lit 4), (.mn (.v 0) (.lit 600)), (.v 19)] 2
 (.call 900 [(.add (.sub (.sw (.v 20) 0 (.lit 10) (.sw (.v 20) 1 (.lit 100) (.sw (.v 20) 2 (.lit 1000) (.lit 100000000)))) (.sub (.lit 0) (.sw (.v 20) 0 (.lit 10) (.sw (.v 20) 1 (.lit 100) (.sw (.v 20) 2 (.lit 1000) (.lit 100000000)))))) (.lit 1)), (.mn (.v 0) (.lit 600)), (.v 21)] 2
 (.call 900 [(.add (.sub (.sw (.v 20) 0 (.lit 10) (.sw (.v 20) 1 (.lit 100) (.sw (.v 20) 2 (.lit 1000) (.lit 100000000)))) (.sub (.lit 0) (.sw (.v 20) 0 (.lit 10) (.sw (.v 20) 1 (.lit 100) (.sw (.v 20) 2 (.lit 1000) (.lit 100000000)))))) (.lit 1)), (.mn (.v 0) (.lit 600)), (.v 23)] 2
 (.call 900 [(.lit 4), (.mn (.v 0) (.lit 600)), (.v 25)] 2
 (.call 900 [(.add (.sub (.sw (.v 26) 0 (.lit 10) (.sw (.v 26) 1 (.lit 100) (.sw (.v 26) 2 (.lit 1000) (.lit 100000000)))) (.sub (.lit 0) (.sw (.v 26) 0 (.lit 10) (.sw (.v 26) 1 (.lit 100) (.sw (.v 26) 2 (.lit 1000) (.lit 100000000)))))) (.lit 1)), (.mn (.v 0) (.lit 600)), (.v 27)] 2
 (.call 900 [(.add (.sub (.sw (.v 26) 0 (.lit 10) (.sw (.v 26) 1 (.lit 100) (.sw (.v 26) 2 (.lit 1000) (.lit 100000000)))) (.sub (.lit 0) (.sw (.v 26) 0 (.lit 10) (.sw (.v 26) 1 (.lit 100) (.sw (.v 26) 2 (.lit 1000) (.lit 100000000)))))) (.lit 1)), (.mn (.v 0) (.lit 600)), (.v 29)] 2
 (.call 900 [(.lit 3600), (.mn (.v 0) (.lit 600)), (.v 31)] 2
 (.call 900 [(.lit 3600), (.mn (.v 0) (.lit 600)), (.v 33)] 2
 (.call 25 [(.sw (.v 2) 0 (.lit 0) (.sw (.v 2) 1 (.lit 10) (.sw (.v 2) 2 (.lit 100) (.lit 1000)))), (.sw (.v 4) 0 (.lit 0) (.sw (.v 4) 1 (.lit 1) (.lit 5))), (.sw (.v 6) 0 (.lit 0) (.sw (.v 6) 1 (.lit 50) (.lit 500))), (.sw (.v 8) 0 (.lit 0) (.lit 100)), (.sw (.v 10) 0 (.lit 0) (.lit 3)), (.sw (.v 12) 0 (.lit 0) (.lit 70)), (.sw (.v 14) 0 (.lit 0) (.sw (.v 14) 1 (.lit 500) (.lit 10000))), (.sw (.v 16) 0 (.lit 0) (.sw (.v 16) 1 (.lit 20) (.lit 60))), (.sw (.v 18) 0 (.lit 0) (.sw (.v 18) 1 (.lit 500) (.lit 3000))), (.lit 0), (.lit 0), (.lit 0), (.lit 0), (.lit 0), (.lit 0), (.lit 0), (.add (.sub (.lit 0) (.sw (.v 20) 0 (.lit 10) (.sw (.v 20) 1 (.lit 100) (.sw (.v 20) 2 (.lit 1000) (.lit 100000000))))) (.v 22)), (.add (.sub (.lit 0) (.sw (.v 20) 0 (.lit 10) (.sw (.v 20) 1 (.lit 100) (.sw (.v 20) 2 (.lit 1000) (.lit 100000000))))) (.v 24)), (.v 34), (.add (.sub (.lit 0) (.sw (.v 26) 0 (.lit 10) (.sw (.v 26) 1 (.lit 100) (.sw (.v 26) 2 (.lit 1000) (.lit 100000000))))) (.v 28)), (.add (.sub (.lit 0) (.sw (.v 26) 0 (.lit 10) (.sw (.v 26) 1 (.lit 100) (.sw (.v 26) 2 (.lit 1000) (.lit 100000000))))) (.v 30)), (.v 32)] 11
 (.call 22 [(.add (.sub (.lit 0) (.sw (.v 20) 0 (.lit 10) (.sw (.v 20) 1 (.lit 100) (.sw (.v 20) 2 (.lit 1000) (.lit 100000000))))) (.v 22)), (.add (.sub (.lit 0) (.sw (.v 20) 0 (.lit 10) (.sw (.v 20) 1 (.lit 100) (.sw (.v 20) 2 (.lit 1000) (.lit 100000000))))) (.v 24)), (.add (.sub (.lit 0) (.sw (.v 26) 0 (.lit 10) (.sw (.v 26) 1 (.lit 100) (.sw (.v 26) 2 (.lit 1000) (.lit 100000000))))) (.v 28)), (.add (.sub (.lit 0) (.sw (.v 26) 0 (.lit 10) (.sw (.v 26) 1 (.lit 100) (.sw (.v 26) 2 (.lit 1000) (.lit 100000000))))) (.v 30)), (.v 34)] 2
 (.call 21 [(.sub (.v 32) (.v 34))] 1
 (.ite (.eq (.v 46) (.lit 0))
  (.ite (.or (.eq (.v 36) (.lit 0)) (.and (.iff (.lt (.lit 0) (.v 36)) (.lt (.lit 0) (.v 47))) (.not (.eq (.v 47) (.lit 0)))))
   (.ite (.or (.eq (.v 37) (.lit 0)) (.and (.iff (.lt (.lit 0) (.v 37)) (.lt (.lit 0) (.v 48))) (.not (.eq (.v 48) (.lit 0)))))
    (.ite (.or (.eq (.v 38) (.lit 0)) (.and (.iff (.lt (.lit 0) (.v 38)) (.lt (.lit 0) (.v 49))) (.not (.eq (.v 49) (.lit 0)))))
     (.call 7 [] 1
     (.leaf ((.bool (.lit true)), [], []))
     )
     (.leaf ((.bool (.lit false)), [], []))
    )
    (.leaf ((.bool (.lit false)), [], []))
   )
   (.leaf ((.bool (.lit false)), [], []))
  )
  (.leaf ((.bool (.lit false)), [], []))
 )
 )
 )
 )
 )
 )
 )
 )
 )
 )
 )
 )
 )
 )
 )
 )
 )
 )
 )
 )
 )
)
theorem tree_eq : (evFn Try.prog (rowCtx tab hints) 60 12 12 (.sls 0 (.v 0) (.v 1) :: shsS SS 2) [] (rowFx (rngE 2 (ksRg (shsKs SS)))) (shsW SS + 2)).strip = tree := by kernel_rfl
def JJ : Nat → List Int → List Int → Prop := fun _ _ _ => True

set_option maxHeartbeats 4000000 in
theorem plain (l c : Int) (hr : KsOK (shsKs SS) []) : T.okJ JJ f24F LTrue [l, c] tree := by
  simp [tree, T.okJ, LTrue, denB, den, f24F, gDem, gBod, gSgn, gAdd, gSane, fit11e, fit1, fit2, fit3, Go.Proofs.Ythhaeaiheidpoaa.a0, Go.Proofs.Ythhaeaiheidpoaa.a1, Go.Proofs.Ythhaeaiheidpoaa.a2, Go.Proofs.Ythhaeaiheidpoaa.a3, Go.Proofs.Ythhaeaiheidpoaa.a4]
  intro _ a1 _ _ a2 _ _ a3 _ _ a4 _ _ a5 _ _ a6 _ _ a7 _ _ a8 _ _ a9 _ _ m _ _ x hx hx' _ y hy hy' _ m2 _ _ x2 hx2 hx2' _ y2 hy2 hy2' _ th hh hh' a ha ha'
  have b1 : 0 ≤ (if a1 = 0 then (0 : Int) else if a1 = 1 then 10 else if a1 = 2 then 100 else 1000) ∧ (if a1 = 0 then (0 : Int) else if a1 = 1 then 10 else if a1 = 2 then 100 else 1000) ≤ 1000 := by (repeat' split) <;> omega
  generalize (if a1 = 0 then (0 : Int) else if a1 = 1 then 10 else if a1 = 2 then 100 else 1000) = n1 at *
  have b2 : 0 ≤ (if a2 = 0 then (0 : Int) else if a2 = 1 then 1 else 5) ∧ (if a2 = 0 then (0 : Int) else if a2 = 1 then 1 else 5) ≤ 5 := by (repeat' split) <;> omega
  generalize (if a2 = 0 then (0 : Int) else if a2 = 1 then 1 else 5) = n2 at *
  have b3 : 0 ≤ (if a3 = 0 then (0 : Int) else if a3 = 1 then 50 else 500) ∧ (if a3 = 0 then (0 : Int) else if a3 = 1 then 50 else 500) ≤ 500 := by (repeat' split) <;> omega
  generalize (if a3 = 0 then (0 : Int) else if a3 = 1 then 50 else 500) = n3 at *
  have b4 : 0 ≤ (if a4 = 0 then (0 : Int) else 100) ∧ (if a4 = 0 then (0 : Int) else 100) ≤ 100 := by (repeat' split) <;> omega
  generalize (if a4 = 0 then (0 : Int) else 100) = n4 at *
  have b5 : 0 ≤ (if a5 = 0 then (0 : Int) else 3) ∧ (if a5 = 0 then (0 : Int) else 3) ≤ 3 := by (repeat' split) <;> omega
  generalize (if a5 = 0 then (0 : Int) else 3) = n5 at *
  have b6 : 0 ≤ (if a6 = 0 then (0 : Int) else 70) ∧ (if a6 = 0 then (0 : Int) else 70) ≤ 70 := by (repeat' split) <;> omega
  generalize (if a6 = 0 then (0 : Int) else 70) = n6 at *
  have b7 : 0 ≤ (if a7 = 0 then (0 : Int) else if a7 = 1 then 500 else 10000) ∧ (if a7 = 0 then (0 : Int) else if a7 = 1 then 500 else 10000) ≤ 10000 := by (repeat' split) <;> omega
  generalize (if a7 = 0 then (0 : Int) else if a7 = 1 then 500 else 10000) = n7 at *
  have b8 : 0 ≤ (if a8 = 0 then (0 : Int) else if a8 = 1 then 20 else 60) ∧ (if a8 = 0 then (0 : Int) else if a8 = 1 then 20 else 60) ≤ 60 := by (repeat' split) <;> omega
  generalize (if a8 = 0 then (0 : Int) else if a8 = 1 then 20 else 60) = n8 at *
  have b9 : 0 ≤ (if a9 = 0 then (0 : Int) else if a9 = 1 then 500 else 3000) ∧ (if a9 = 0 then (0 : Int) else if a9 = 1 then 500 else 3000) ≤ 3000 := by (repeat' split) <;> omega
  generalize (if a9 = 0 then (0 : Int) else if a9 = 1 then 500 else 3000) = n9 at *
  have hg : gnsOK n1 n2 n3 n4 n5 n6 n7 n8 n9 := ⟨by omega, by omega, by omega, by omega, by omega, by omega, by omega, by omega, by omega⟩
  have bm : 10 ≤ (if m = 0 then (10 : Int) else if m = 1 then 100 else if m = 2 then 1000 else 100000000) ∧ (if m = 0 then (10 : Int) else if m = 1 then 100 else if m = 2 then 1000 else 100000000) ≤ 100000000 := by (repeat' split) <;> omega
  generalize (if m = 0 then (10 : Int) else if m = 1 then 100 else if m = 2 then 1000 else 100000000) = M at *
  have bm2 : 10 ≤ (if m2 = 0 then (10 : Int) else if m2 = 1 then 100 else if m2 = 2 then 1000 else 100000000) ∧ (if m2 = 0 then (10 : Int) else if m2 = 1 then 100 else if m2 = 2 then 1000 else 100000000) ≤ 100000000 := by (repeat' split) <;> omega
  generalize (if m2 = 0 then (10 : Int) else if m2 = 1 then 100 else if m2 = 2 then 1000 else 100000000) = M2 at *
  have p1 : -100000000 ≤ -M + x ∧ -M + x ≤ 100000000 := by omega
  have p2 : -100000000 ≤ -M + y ∧ -M + y ≤ 100000000 := by omega
  have q1 : -100000000 ≤ -M2 + x2 ∧ -M2 + x2 ≤ 100000000 := by omega
  have q2 : -100000000 ≤ -M2 + y2 ∧ -M2 + y2 ≤ 100000000 := by omega
  generalize -M + x = px at *
  generalize -M + y = py at *
  generalize -M2 + x2 = tx at *
  generalize -M2 + y2 = ty at *
  obtain ⟨f1, f2, f3, s1, s2, s3, e, d1, d2, d3⟩ := dem_direct hg (px := px) (py := py) (tx := tx) (ty := ty) (a := a) (th := th) ⟨p1.1, p1.2, p2.1, p2.2⟩ ⟨q1.1, q1.2, q2.1, q2.2⟩ ⟨ha, ha'⟩ ⟨hh, hh'⟩
  rw [e, body_in ⟨p1.1, p1.2, p2.1, p2.2⟩ ⟨q1.1, q1.2, q2.1, q2.2⟩ ha ha']
  simp only [fit11, List.getElem?_cons_zero, List.getElem?_cons_succ, Option.getD_some, List.head?_cons]
  generalize bodyA px py tx ty a = A at *
  generalize bodyR px py tx ty a = R at *
  generalize sgnS (th - a) = W at *
  simp only [true_implies, and_true]
  omega
theorem walk (a0 : Option Addr) (len0 cap0 : Nat) (z0 : List Int) (w : World) (w0 : IsRow .i64 w a0 len0 cap0 z0) (r : List Int) (hr : KsOK (shsKs SS) r) :
    Calls Try.prog 12 (.slice a0 len0 cap0 :: shsV SS r).toArray w fun e w' => e = .returned (.bool true) ∧ Below w.heap.size w w' := by
  match r, hr.length, hr with
  | [], _, hr => exact row_lawSS w0 (g := f24F) (l := tab) ⟨dem_ok, vld_ok, bod_ok, sgn_ok, addR_ok, sane24_ok, trivial⟩ (by kernel_rfl) tree_eq (plain _ _ hr) hr
end Go.Proofs.Ythhaeaiheidpoaa.controlDirects
