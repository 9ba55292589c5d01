/- 'dynpos/dynposlaw03.FrameTurns': the tree of its walk, and that each of its leaves is true. -/
import Derived.Test.YthhaeaiheidpoaaEvQ
import Derived.Test.YthhaeaiheidpoaaF24G
import Derived.Test.YthhaeaiheidpoaaF24S
import Derived.Test.YthhaeaiheidpoaaFTL
set_option linter.unusedSimpArgs false
set_option linter.unusedVariables false
namespace Go.Proofs.Ythhaeaiheidpoaa.frameTurns
open Go.RowKit Ev
def tab : List (FuncId × PC) := [(16, cTurn), (18, cSane)]
def SS : List Sh := [.one (some .i64)]
def hints : FuncId → Nat → Option Hint := fun _ _ => none
def tree : T Leaf :=
(.call 900 [(.lit 4), (.mn (.v 0) (.lit 600)), (.lit 0)] 2
(.call 900 [(.add (.sub (.sw (.v 3) 0 (.lit 10) (.sw (.v 3) 1 (.lit 100) (.sw (.v 3) 2 (.lit 1000) (.lit 100000000)))) (.sub (.lit 0) (.sw (.v 3) 0 (.lit 10) (.sw (.v 3) 1 (.lit 100) (.sw (.v 3) 2 (.lit 1000) (.lit 100000000)))))) (.lit 1)), (.mn (.v 0) (.lit 600)), (.v 4)] 2
(.call 900 [(.add (.sub (.sw (.v 3) 0 (.lit 10) (.sw (.v 3) 1 (.lit 100) (.sw (.v 3) 2 (.lit 1000) (.lit 100000000)))) (.sub (.lit 0) (.sw (.v 3) 0 (.lit 10) (.sw (.v 3) 1 (.lit 100) (.sw (.v 3) 2 (.lit 1000) (.lit 100000000)))))) (.lit 1)), (.mn (.v 0) (.lit 600)), (.v 6)] 2
(.call 18 [(.add (.sub (.lit 0) (.sw (.v 3) 0 (.lit 10) (.sw (.v 3) 1 (.lit 100) (.sw (.v 3) 2 (.lit 1000) (.lit 100000000))))) (.v 5)), (.add (.sub (.lit 0) (.sw (.v 3) 0 (.lit 10) (.sw (.v 3) 1 (.lit 100) (.sw (.v 3) 2 (.lit 1000) (.lit 100000000))))) (.v 7)), (.lit 900)] 3
(.call 18 [(.add (.sub (.lit 0) (.sw (.v 3) 0 (.lit 10) (.sw (.v 3) 1 (.lit 100) (.sw (.v 3) 2 (.lit 1000) (.lit 100000000))))) (.v 5)), (.add (.sub (.lit 0) (.sw (.v 3) 0 (.lit 10) (.sw (.v 3) 1 (.lit 100) (.sw (.v 3) 2 (.lit 1000) (.lit 100000000))))) (.v 7)), (.lit 1800)] 3
(.ite (.or (.or (.or (.or (.or (.not (.eq (.v 11) (.lit 0))) (.not (.eq (.v 14) (.lit 0)))) (.not (.eq (.v 9) (.sub (.lit 0) (.add (.sub (.lit 0) (.sw (.v 3) 0 (.lit 10) (.sw (.v 3) 1 (.lit 100) (.sw (.v 3) 2 (.lit 1000) (.lit 100000000))))) (.v 7)))))) (.not (.eq (.v 10) (.add (.sub (.lit 0) (.sw (.v 3) 0 (.lit 10) (.sw (.v 3) 1 (.lit 100) (.sw (.v 3) 2 (.lit 1000) (.lit 100000000))))) (.v 5))))) (.not (.eq (.v 12) (.sub (.lit 0) (.add (.sub (.lit 0) (.sw (.v 3) 0 (.lit 10) (.sw (.v 3) 1 (.lit 100) (.sw (.v 3) 2 (.lit 1000) (.lit 100000000))))) (.v 5)))))) (.not (.eq (.v 13) (.sub (.lit 0) (.add (.sub (.lit 0) (.sw (.v 3) 0 (.lit 10) (.sw (.v 3) 1 (.lit 100) (.sw (.v 3) 2 (.lit 1000) (.lit 100000000))))) (.v 7))))))
 (.leaf ((.bool (.lit false)), [], []))
 (.call 18 [(.quo (.add (.sub (.lit 0) (.sw (.v 3) 0 (.lit 10) (.sw (.v 3) 1 (.lit 100) (.sw (.v 3) 2 (.lit 1000) (.lit 100000000))))) (.v 5)) (.lit 2)), (.quo (.add (.sub (.lit 0) (.sw (.v 3) 0 (.lit 10) (.sw (.v 3) 1 (.lit 100) (.sw (.v 3) 2 (.lit 1000) (.lit 100000000))))) (.v 7)) (.lit 2)), (.rem (.v 2) (.lit 3600))] 3
 (.call 18 [(.v 15), (.v 16), (.sub (.lit 0) (.rem (.v 2) (.lit 3600)))] 3
 (.ite (.and (.eq (.v 17) (.lit 0)) (.eq (.v 20) (.lit 0)))
  (.ite (.lt (.quo (.add (.sub (.lit 0) (.sw (.v 3) 0 (.lit 10) (.sw (.v 3) 1 (.lit 100) (.sw (.v 3) 2 (.lit 1000) (.lit 100000000))))) (.v 5)) (.lit 2)) (.lit 0))
   (.ite (.le (.sub (.v 18) (.quo (.add (.sub (.lit 0) (.sw (.v 3) 0 (.lit 10) (.sw (.v 3) 1 (.lit 100) (.sw (.v 3) 2 (.lit 1000) (.lit 100000000))))) (.v 5)) (.lit 2))) (.add (.quo (.sub (.lit 0) (.quo (.add (.sub (.lit 0) (.sw (.v 3) 0 (.lit 10) (.sw (.v 3) 1 (.lit 100) (.sw (.v 3) 2 (.lit 1000) (.lit 100000000))))) (.v 5)) (.lit 2))) (.lit 200)) (.lit 2)))
    (.ite (.le (.sub (.lit 0) (.add (.quo (.sub (.lit 0) (.quo (.add (.sub (.lit 0) (.sw (.v 3) 0 (.lit 10) (.sw (.v 3) 1 (.lit 100) (.sw (.v 3) 2 (.lit 1000) (.lit 100000000))))) (.v 5)) (.lit 2))) (.lit 200)) (.lit 2))) (.sub (.v 18) (.quo (.add (.sub (.lit 0) (.sw (.v 3) 0 (.lit 10) (.sw (.v 3) 1 (.lit 100) (.sw (.v 3) 2 (.lit 1000) (.lit 100000000))))) (.v 5)) (.lit 2))))
     (.ite (.lt (.quo (.add (.sub (.lit 0) (.sw (.v 3) 0 (.lit 10) (.sw (.v 3) 1 (.lit 100) (.sw (.v 3) 2 (.lit 1000) (.lit 100000000))))) (.v 7)) (.lit 2)) (.lit 0))
      (.ite (.le (.sub (.v 19) (.quo (.add (.sub (.lit 0) (.sw (.v 3) 0 (.lit 10) (.sw (.v 3) 1 (.lit 100) (.sw (.v 3) 2 (.lit 1000) (.lit 100000000))))) (.v 7)) (.lit 2))) (.add (.quo (.sub (.lit 0) (.quo (.add (.sub (.lit 0) (.sw (.v 3) 0 (.lit 10) (.sw (.v 3) 1 (.lit 100) (.sw (.v 3) 2 (.lit 1000) (.lit 100000000))))) (.v 7)) (.lit 2))) (.lit 200)) (.lit 2)))
       (.ite (.le (.sub (.lit 0) (.add (.quo (.sub (.lit 0) (.quo (.add (.sub (.lit 0) (.sw (.v 3) 0 (.lit 10) (.sw (.v 3) 1 (.lit 100) (.sw (.v 3) 2 (.lit 1000) (.lit 100000000))))) (.v 7)) (.lit 2))) (.lit 200)) (.lit 2))) (.sub (.v 19) (.quo (.add (.sub (.lit 0) (.sw (.v 3) 0 (.lit 10) (.sw (.v 3) 1 (.lit 100) (.sw (.v 3) 2 (.lit 1000) (.lit 100000000))))) (.v 7)) (.lit 2))))
        (.call 7 [] 1
        (.leaf ((.bool (.lit true)), [], []))
        )
        (.leaf ((.bool (.lit false)), [], []))
       )
       (.leaf ((.bool (.lit false)), [], []))
      )
      (.ite (.le (.sub (.v 19) (.quo (.add (.sub (.lit 0) (.sw (.v 3) 0 (.lit 10) (.sw (.v 3) 1 (.lit 100) (.sw (.v 3) 2 (.lit 1000) (.lit 100000000))))) (.v 7)) (.lit 2))) (.add (.quo (.quo (.add (.sub (.lit 0) (.sw (.v 3) 0 (.lit 10) (.sw (.v 3) 1 (.lit 100) (.sw (.v 3) 2 (.lit 1000) (.lit 100000000))))) (.v 7)) (.lit 2)) (.lit 200)) (.lit 2)))
       (.ite (.le (.sub (.lit 0) (.add (.quo (.quo (.add (.sub (.lit 0) (.sw (.v 3) 0 (.lit 10) (.sw (.v 3) 1 (.lit 100) (.sw (.v 3) 2 (.lit 1000) (.lit 100000000))))) (.v 7)) (.lit 2)) (.lit 200)) (.lit 2))) (.sub (.v 19) (.quo (.add (.sub (.lit 0) (.sw (.v 3) 0 (.lit 10) (.sw (.v 3) 1 (.lit 100) (.sw (.v 3) 2 (.lit 1000) (.lit 100000000))))) (.v 7)) (.lit 2))))
        (.call 7 [] 1
        (.leaf ((.bool (.lit true)), [], []))
        )
        (.leaf ((.bool (.lit false)), [], []))
       )
       (.leaf ((.bool (.lit false)), [], []))
      )
     )
     (.leaf ((.bool (.lit false)), [], []))
    )
    (.leaf ((.bool (.lit false)), [], []))
   )
   (.ite (.le (.sub (.v 18) (.quo (.add (.sub (.lit 0) (.sw (.v 3) 0 (.lit 10) (.sw (.v 3) 1 (.lit 100) (.sw (.v 3) 2 (.lit 1000) (.lit 100000000))))) (.v 5)) (.lit 2))) (.add (.quo (.quo (.add (.sub (.lit 0) (.sw (.v 3) 0 (.lit 10) (.sw (.v 3) 1 (.lit 100) (.sw (.v 3) 2 (.lit 1000) (.lit 100000000))))) (.v 5)) (.lit 2)) (.lit 200)) (.lit 2)))
    (.ite (.le (.sub (.lit 0) (.add (.quo (.quo (.add (.sub (.lit 0) (.sw (.v 3) 0 (.lit 10) (.sw (.v 3) 1 (.lit 100) (.sw (.v 3) 2 (.lit 1000) (.lit 100000000))))) (.v 5)) (.lit 2)) (.lit 200)) (.lit 2))) (.sub (.v 18) (.quo (.add (.sub (.lit 0) (.sw (.v 3) 0 (.lit 10) (.sw (.v 3) 1 (.lit 100) (.sw (.v 3) 2 (.lit 1000) (.lit 100000000))))) (.v 5)) (.lit 2))))
     (.ite (.lt (.quo (.add (.sub (.lit 0) (.sw (.v 3) 0 (.lit 10) (.sw (.v 3) 1 (.lit 100) (.sw (.v 3) 2 (.lit 1000) (.lit 100000000))))) (.v 7)) (.lit 2)) (.lit 0))
      (.ite (.le (.sub (.v 19) (.quo (.add (.sub (.lit 0) (.sw (.v 3) 0 (.lit 10) (.sw (.v 3) 1 (.lit 100) (.sw (.v 3) 2 (.lit 1000) (.lit 100000000))))) (.v 7)) (.lit 2))) (.add (.quo (.sub (.lit 0) (.quo (.add (.sub (.lit 0) (.sw (.v 3) 0 (.lit 10) (.sw (.v 3) 1 (.lit 100) (.sw (.v 3) 2 (.lit 1000) (.lit 100000000))))) (.v 7)) (.lit 2))) (.lit 200)) (.lit 2)))
       (.ite (.le (.sub (.lit 0) (.add (.quo (.sub (.lit 0) (.quo (.add (.sub (.lit 0) (.sw (.v 3) 0 (.lit 10) (.sw (.v 3) 1 (.lit 100) (.sw (.v 3) 2 (.lit 1000) (.lit 100000000))))) (.v 7)) (.lit 2))) (.lit 200)) (.lit 2))) (.sub (.v 19) (.quo (.add (.sub (.lit 0) (.sw (.v 3) 0 (.lit 10) (.sw (.v 3) 1 (.lit 100) (.sw (.v 3) 2 (.lit 1000) (.lit 100000000))))) (.v 7)) (.lit 2))))
        (.call 7 [] 1
        (.leaf ((.bool (.lit true)), [], []))
        )
        (.leaf ((.bool (.lit false)), [], []))
       )
       (.leaf ((.bool (.lit false)), [], []))
      )
      (.ite (.le (.sub (.v 19) (.quo (.add (.sub (.lit 0) (.sw (.v 3) 0 (.lit 10) (.sw (.v 3) 1 (.lit 100) (.sw (.v 3) 2 (.lit 1000) (.lit 100000000))))) (.v 7)) (.lit 2))) (.add (.quo (.quo (.add (.sub (.lit 0) (.sw (.v 3) 0 (.lit 10) (.sw (.v 3) 1 (.lit 100) (.sw (.v 3) 2 (.lit 1000) (.lit 100000000))))) (.v 7)) (.lit 2)) (.lit 200)) (.lit 2)))
       (.ite (.le (.sub (.lit 0) (.add (.quo (.quo (.add (.sub (.lit 0) (.sw (.v 3) 0 (.lit 10) (.sw (.v 3) 1 (.lit 100) (.sw (.v 3) 2 (.lit 1000) (.lit 100000000))))) (.v 7)) (.lit 2)) (.lit 200)) (.lit 2))) (.sub (.v 19) (.quo (.add (.sub (.lit 0) (.sw (.v 3) 0 (.lit 10) (.sw (.v 3) 1 (.lit 100) (.sw (.v 3) 2 (.lit 1000) (.lit 100000000))))) (.v 7)) (.lit 2))))
        (.call 7 [] 1
        (.leaf ((.bool (.lit true)), [], []))
        )
        (.leaf ((.bool (.lit false)), [], []))
       )
       (.leaf ((.bool (.lit false)), [], []))
      )
     )
     (.leaf ((.bool (.lit false)), [], []))
    )
    (.leaf ((.bool (.lit false)), [], []))
   )
  )
  (.leaf ((.bool (.lit false)), [], []))
 )
 )
 )
)
)
)
)
)
)
theorem tree_eq : (evFn Try.prog (rowCtx tab hints) 60 12 3 (.sls 0 (.v 0) (.v 1) :: shsS SS 2) [] (rowFx (rngE 2 (ksRg (shsKs SS)))) (shsW SS + 2)).strip = tree := by kernel_rfl
def JJ : Nat → List Int → List Int → Prop := fun _ _ _ => True

set_option maxHeartbeats 4000000 in
theorem plain (l c : Int) (x0 : Int) (hr : KsOK (shsKs SS) [x0]) : T.okJ JJ f24F LTrue [l, c, x0] tree := by
  simp [tree, T.okJ, LTrue, denB, den, f24F, gTurn, gSane, fit1, fit3, Go.Proofs.Ythhaeaiheidpoaa.a0, Go.Proofs.Ythhaeaiheidpoaa.a1, Go.Proofs.Ythhaeaiheidpoaa.a2]
  have hm : ∀ v : Int, 10 ≤ (if v = 0 then (10 : Int) else if v = 1 then 100 else if v = 2 then 1000 else 100000000) ∧ (if v = 0 then (10 : Int) else if v = 1 then 100 else if v = 2 then 1000 else 100000000) ≤ 100000000 := by
    intro v; (repeat' split) <;> omega
  intro v _ _ x hx hx' _ y hy hy' _
  have m1 := hm v
  generalize (if v = 0 then (10 : Int) else if v = 1 then 100 else if v = 2 then 1000 else 100000000) = M1 at *
  clear hm
  have p1 : -100000000 ≤ -M1 + x ∧ -M1 + x ≤ 100000000 := by omega
  have p2 : -100000000 ≤ -M1 + y ∧ -M1 + y ≤ 100000000 := by omega
  generalize -M1 + x = px at *
  generalize -M1 + y = py at *
  have k : ∀ n : Int, -100000000 ≤ n → n ≤ 100000000 → halfS (n * 10000) 10000 = n := fun n h1 h2 => by
    unfold halfS
    rw [if_pos (divB_mk (by omega) (by omega) (by omega) (by omega))]
    omega
  have o1 : okPt px py = true := decide_eq_true (by omega)
  have c9 : cosS 900 = 0 := rfl
  have s9 : sinS 900 = 10000 := rfl
  have c8 : cosS 1800 = -10000 := rfl
  have s8 : sinS 1800 = 0 := rfl
  have t9 : turnS px py 900 = [-py, px, 0] := by
    unfold turnS
    have e1 : px * 0 - py * 10000 = -py * 10000 := by omega
    have e2 : px * 10000 + py * 0 = px * 10000 := by omega
    rw [if_pos o1, c9, s9, e1, e2, k (-py) (by omega) (by omega), k px (by omega) (by omega)]
  have t8 : turnS px py 1800 = [-px, -py, 0] := by
    unfold turnS
    have e1 : px * -10000 - py * 0 = -px * 10000 := by omega
    have e2 : px * 0 + py * -10000 = -py * 10000 := by omega
    rw [if_pos o1, c8, s8, e1, e2, k (-px) (by omega) (by omega), k (-py) (by omega) (by omega)]
  have h2 : ∀ z : Int, -100000000 ≤ z → z ≤ 100000000 → -50000000 ≤ z.tdiv 2 ∧ z.tdiv 2 ≤ 50000000 := fun z g1 g2 => by
    have e := Int.mul_tdiv_add_tmod z 2
    have l1 := Int.tmod_lt_of_pos z (show (0 : Int) < 2 by omega)
    have l2 := Int.lt_tmod_of_pos z (show (0 : Int) < 2 by omega)
    omega
  have s1 := h2 px p1.1 p1.2
  have s2 := h2 py p2.1 p2.2
  generalize px.tdiv 2 = sx at *
  generalize py.tdiv 2 = sy at *
  obtain ⟨B, B', D, D', e1, e2, d1, d2⟩ := turn_back (x0.tmod 3600) s1 s2
  rw [t9, t8, e1]
  simp only [List.getElem?_cons_zero, List.getElem?_cons_succ, Option.getD_some, List.head?_cons]
  rw [e2]
  simp only [List.getElem?_cons_zero, List.getElem?_cons_succ, Option.getD_some, List.head?_cons]
  unfold marg at d1 d2
  simp only [Int.neg_tdiv] at d1 d2
  generalize sx.tdiv 200 = tx at *
  generalize sy.tdiv 200 = ty at *
  clear t9 t8 e1 e2 k h2 hr o1 c9 s9 c8 s8
  simp only [true_and, and_true, true_implies, forall_const]
  split at d1 <;> split at d2 <;> omega
theorem walk (a0 : Option Addr) (len0 cap0 : Nat) (z0 : List Int) (w : World) (w0 : IsRow .i64 w a0 len0 cap0 z0) (r : List Int) (hr : KsOK (shsKs SS) r) :
    Calls Try.prog 3 (.slice a0 len0 cap0 :: shsV SS r).toArray w fun e w' => e = .returned (.bool true) ∧ Below w.heap.size w w' := by
  match r, hr.length, hr with
  | [x0], _, hr => exact row_lawSS w0 (g := f24F) (l := tab) ⟨turn_ok, sane03_ok, trivial⟩ (by kernel_rfl) tree_eq (plain _ _ _ hr) hr
end Go.Proofs.Ythhaeaiheidpoaa.frameTurns
