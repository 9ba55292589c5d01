/- Points: contracts. -/
import Derived.Test.YthhaeaiheidpoaaRows
import Derived.Test.YthhaeaiheidpoaaF24U
namespace Go.Proofs.Ythhaeaiheidpoaa
open Ev
set_option linter.unusedSimpArgs false
set_option linter.unusedVariables false

def t_add : T Leaf :=
(.ite (.not (.and (.le (.mx (.v 0) (.v 1)) (.lit 100000000)) (.le (.lit (-100000000)) (.mn (.v 0) (.v 1)))))
 (.leaf ((.tup [(.agg [(.int .i64 (.lit 0)), (.int .i64 (.lit 0))]), (.int .i64 (.lit 1))]), [some (26, [(.int .i64 (.v 0)), (.int .i64 (.v 1))]), some (26, [(.int .i64 (.v 2)), (.int .i64 (.v 3))]), some (26, [(.int .i64 (.lit 0)), (.int .i64 (.lit 0))]), some (26, [(.int .i64 (.v 0)), (.int .i64 (.v 1))]), some (26, [(.int .i64 (.v 2)), (.int .i64 (.v 3))]), some (26, [(.int .i64 (.lit 0)), (.int .i64 (.lit 0))]), some (26, [(.int .i64 (.v 0)), (.int .i64 (.v 1)), (.int .i64 (.v 2)), (.int .i64 (.v 3))]), some (26, [(.int .i64 (.v 0)), (.int .i64 (.v 1))]), some (26, [(.int .i64 (.v 0)), (.int .i64 (.v 1))])], [2, 5, 8, 7, 7, 6, 5, 4, 3, 2, 1, 0]))
 (.ite (.not (.and (.le (.mx (.v 2) (.v 3)) (.lit 100000000)) (.le (.lit (-100000000)) (.mn (.v 2) (.v 3)))))
  (.leaf ((.tup [(.agg [(.int .i64 (.lit 0)), (.int .i64 (.lit 0))]), (.int .i64 (.lit 1))]), [some (26, [(.int .i64 (.v 0)), (.int .i64 (.v 1))]), some (26, [(.int .i64 (.v 2)), (.int .i64 (.v 3))]), some (26, [(.int .i64 (.lit 0)), (.int .i64 (.lit 0))]), some (26, [(.int .i64 (.v 0)), (.int .i64 (.v 1))]), some (26, [(.int .i64 (.v 2)), (.int .i64 (.v 3))]), some (26, [(.int .i64 (.lit 0)), (.int .i64 (.lit 0))]), some (26, [(.int .i64 (.v 0)), (.int .i64 (.v 1)), (.int .i64 (.v 2)), (.int .i64 (.v 3))]), some (26, [(.int .i64 (.v 0)), (.int .i64 (.v 1))]), some (26, [(.int .i64 (.v 0)), (.int .i64 (.v 1))]), some (26, [(.int .i64 (.v 2)), (.int .i64 (.v 3))]), some (26, [(.int .i64 (.v 2)), (.int .i64 (.v 3))])], [2, 5, 10, 9, 9, 8, 7, 7, 6, 5, 4, 3, 2, 1, 0]))
  (.ite (.not (.and (.le (.mx (.add (.v 0) (.mul (.lit 1) (.v 2))) (.add (.v 1) (.mul (.lit 1) (.v 3)))) (.lit 100000000)) (.le (.lit (-100000000)) (.mn (.add (.v 0) (.mul (.lit 1) (.v 2))) (.add (.v 1) (.mul (.lit 1) (.v 3)))))))
   (.leaf ((.tup [(.agg [(.int .i64 (.lit 0)), (.int .i64 (.lit 0))]), (.int .i64 (.lit 1))]), [some (26, [(.int .i64 (.v 0)), (.int .i64 (.v 1))]), some (26, [(.int .i64 (.v 2)), (.int .i64 (.v 3))]), some (26, [(.int .i64 (.lit 0)), (.int .i64 (.lit 0))]), some (26, [(.int .i64 (.v 0)), (.int .i64 (.v 1))]), some (26, [(.int .i64 (.v 2)), (.int .i64 (.v 3))]), some (26, [(.int .i64 (.lit 0)), (.int .i64 (.lit 0))]), some (26, [(.int .i64 (.v 0)), (.int .i64 (.v 1)), (.int .i64 (.v 2)), (.int .i64 (.v 3))]), some (26, [(.int .i64 (.v 0)), (.int .i64 (.v 1))]), some (26, [(.int .i64 (.v 0)), (.int .i64 (.v 1))]), some (26, [(.int .i64 (.v 2)), (.int .i64 (.v 3))]), some (26, [(.int .i64 (.v 2)), (.int .i64 (.v 3))]), some (26, [(.int .i64 (.add (.v 0) (.mul (.lit 1) (.v 2)))), (.int .i64 (.add (.v 1) (.mul (.lit 1) (.v 3))))]), some (26, [(.int .i64 (.add (.v 0) (.mul (.lit 1) (.v 2)))), (.int .i64 (.add (.v 1) (.mul (.lit 1) (.v 3))))]), some (26, [(.int .i64 (.add (.v 0) (.mul (.lit 1) (.v 2)))), (.int .i64 (.add (.v 1) (.mul (.lit 1) (.v 3))))]), some (26, [(.int .i64 (.add (.v 0) (.mul (.lit 1) (.v 2)))), (.int .i64 (.add (.v 1) (.mul (.lit 1) (.v 3))))])], [2, 5, 14, 13, 13, 12, 11, 11, 10, 9, 9, 8, 7, 7, 6, 5, 4, 3, 2, 1, 0]))
   (.leaf ((.tup [(.agg [(.int .i64 (.add (.v 0) (.mul (.lit 1) (.v 2)))), (.int .i64 (.add (.v 1) (.mul (.lit 1) (.v 3))))]), (.int .i64 (.lit 0))]), [some (26, [(.int .i64 (.v 0)), (.int .i64 (.v 1))]), some (26, [(.int .i64 (.v 2)), (.int .i64 (.v 3))]), some (26, [(.int .i64 (.add (.v 0) (.mul (.lit 1) (.v 2)))), (.int .i64 (.add (.v 1) (.mul (.lit 1) (.v 3))))]), some (26, [(.int .i64 (.v 0)), (.int .i64 (.v 1))]), some (26, [(.int .i64 (.v 2)), (.int .i64 (.v 3))]), some (26, [(.int .i64 (.add (.v 0) (.mul (.lit 1) (.v 2)))), (.int .i64 (.add (.v 1) (.mul (.lit 1) (.v 3))))]), some (26, [(.int .i64 (.v 0)), (.int .i64 (.v 1)), (.int .i64 (.v 2)), (.int .i64 (.v 3))]), some (26, [(.int .i64 (.v 0)), (.int .i64 (.v 1))]), some (26, [(.int .i64 (.v 0)), (.int .i64 (.v 1))]), some (26, [(.int .i64 (.v 2)), (.int .i64 (.v 3))]), some (26, [(.int .i64 (.v 2)), (.int .i64 (.v 3))]), some (26, [(.int .i64 (.add (.v 0) (.mul (.lit 1) (.v 2)))), (.int .i64 (.add (.v 1) (.mul (.lit 1) (.v 3))))]), some (26, [(.int .i64 (.add (.v 0) (.mul (.lit 1) (.v 2)))), (.int .i64 (.add (.v 1) (.mul (.lit 1) (.v 3))))]), some (26, [(.int .i64 (.add (.v 0) (.mul (.lit 1) (.v 2)))), (.int .i64 (.add (.v 1) (.mul (.lit 1) (.v 3))))]), some (26, [(.int .i64 (.add (.v 0) (.mul (.lit 1) (.v 2)))), (.int .i64 (.add (.v 1) (.mul (.lit 1) (.v 3))))])], [2, 5, 14, 13, 13, 12, 11, 11, 10, 9, 9, 8, 7, 7, 6, 5, 4, 3, 2, 1, 0]))
  )
 )
)
theorem t_add_eq : evFn Try.prog (ctxOf tab2) 100 12 24 (shsS cAdd.args 0) [] ⟨rngE 0 cAdd.dom, []⟩ cAdd.dom.length = t_add := by kernel_rfl
set_option maxHeartbeats 2000000 in
theorem add_ok : PCOK Try.prog 24 cAdd gAdd := pc_of_tree ctx2_ok (Φ := f24Sig) rfl (fun _ => trivial) (by kernel_rfl) (by kernel_rfl) rfl t_add_eq fun xs hl hx => by
  match xs, hl with
  | [x0, x1, x2, x3], _ =>
    simp [rngE, cAdd, den] at hx
    simp [t_add, T.ok, LVal, gAdd, cAdd, f24Sig, f24F, gNorm, gHalf, gSin, gCos, gRoot, gRnd, gClamp, gFV, gAdd, gSub, gBox, gDist, gTurn, gBody, gSgn, gBod, RngOK, denV, denL, denB, den, retV, shsV, shV, cellV, cellsV, a0, a1, a2, a3, a4, Sh.w, fit0, fit1, fit2, fit3, fit4]
    have w1 := i64i (x0 + x2)
    have w2 := i64i (x1 + x3)
    simp only [mxE, mnE, addS, subS, boxS, absS, okPt, decide_eq_true_eq]
    split <;> simp [RngOK] <;> omega
def t_addR : T Leaf :=
(.ite (.not (.not (.and (.and (.and (.le (.lit (-100000000)) (.v 0)) (.le (.v 0) (.lit 100000000))) (.le (.lit (-100000000)) (.v 1))) (.le (.v 1) (.lit 100000000)))))
 (.ite (.not (.not (.and (.and (.and (.le (.lit (-100000000)) (.v 2)) (.le (.v 2) (.lit 100000000))) (.le (.lit (-100000000)) (.v 3))) (.le (.v 3) (.lit 100000000)))))
  (.ite (.not (.and (.and (.and (.le (.lit (-100000000)) (.wr .i64 (.add (.v 0) (.v 2)))) (.le (.wr .i64 (.add (.v 0) (.v 2))) (.lit 100000000))) (.le (.lit (-100000000)) (.wr .i64 (.add (.v 1) (.v 3))))) (.le (.wr .i64 (.add (.v 1) (.v 3))) (.lit 100000000))))
   (.leaf ((.tup [(.agg [(.int .i64 (.lit 0)), (.int .i64 (.lit 0))]), (.int .i64 (.lit 1))]), [some (26, [(.int .i64 (.v 0)), (.int .i64 (.v 1))]), some (26, [(.int .i64 (.v 2)), (.int .i64 (.v 3))]), some (26, [(.int .i64 (.lit 0)), (.int .i64 (.lit 0))]), some (26, [(.int .i64 (.wr .i64 (.add (.v 0) (.v 2)))), (.int .i64 (.wr .i64 (.add (.v 1) (.v 3))))]), some (26, [(.int .i64 (.v 0)), (.int .i64 (.v 1))]), some (26, [(.int .i64 (.v 2)), (.int .i64 (.v 3))]), some (26, [(.int .i64 (.wr .i64 (.add (.v 0) (.v 2)))), (.int .i64 (.wr .i64 (.add (.v 1) (.v 3))))])], [2, 6, 5, 4, 3, 3, 2, 1, 0]))
   (.leaf ((.tup [(.agg [(.int .i64 (.wr .i64 (.add (.v 0) (.v 2)))), (.int .i64 (.wr .i64 (.add (.v 1) (.v 3))))]), (.int .i64 (.lit 0))]), [some (26, [(.int .i64 (.v 0)), (.int .i64 (.v 1))]), some (26, [(.int .i64 (.v 2)), (.int .i64 (.v 3))]), some (26, [(.int .i64 (.wr .i64 (.add (.v 0) (.v 2)))), (.int .i64 (.wr .i64 (.add (.v 1) (.v 3))))]), some (26, [(.int .i64 (.wr .i64 (.add (.v 0) (.v 2)))), (.int .i64 (.wr .i64 (.add (.v 1) (.v 3))))]), some (26, [(.int .i64 (.v 0)), (.int .i64 (.v 1))]), some (26, [(.int .i64 (.v 2)), (.int .i64 (.v 3))]), some (26, [(.int .i64 (.wr .i64 (.add (.v 0) (.v 2)))), (.int .i64 (.wr .i64 (.add (.v 1) (.v 3))))])], [2, 6, 5, 4, 3, 3, 2, 1, 0]))
  )
  (.leaf ((.tup [(.agg [(.int .i64 (.lit 0)), (.int .i64 (.lit 0))]), (.int .i64 (.lit 1))]), [some (26, [(.int .i64 (.v 0)), (.int .i64 (.v 1))]), some (26, [(.int .i64 (.v 2)), (.int .i64 (.v 3))]), some (26, [(.int .i64 (.lit 0)), (.int .i64 (.lit 0))]), some (26, [(.int .i64 (.wr .i64 (.add (.v 0) (.v 2)))), (.int .i64 (.wr .i64 (.add (.v 1) (.v 3))))]), some (26, [(.int .i64 (.v 0)), (.int .i64 (.v 1))]), some (26, [(.int .i64 (.v 2)), (.int .i64 (.v 3))])], [2, 5, 4, 3, 3, 2, 1, 0]))
 )
 (.leaf ((.tup [(.agg [(.int .i64 (.lit 0)), (.int .i64 (.lit 0))]), (.int .i64 (.lit 1))]), [some (26, [(.int .i64 (.v 0)), (.int .i64 (.v 1))]), some (26, [(.int .i64 (.v 2)), (.int .i64 (.v 3))]), some (26, [(.int .i64 (.lit 0)), (.int .i64 (.lit 0))]), some (26, [(.int .i64 (.wr .i64 (.add (.v 0) (.v 2)))), (.int .i64 (.wr .i64 (.add (.v 1) (.v 3))))]), some (26, [(.int .i64 (.v 0)), (.int .i64 (.v 1))])], [2, 4, 3, 3, 2, 1, 0]))
)
theorem t_addR_eq : evFn Try.prog (ctxOf tab2) 100 12 29 (shsS cAdd.args 0) [] ⟨rngE 0 cAdd.dom, []⟩ cAdd.dom.length = t_addR := by kernel_rfl
set_option maxHeartbeats 2000000 in
theorem addR_ok : PCOK Try.prog 29 cAdd gAdd := pc_of_tree ctx2_ok (Φ := f24Sig) rfl (fun _ => trivial) (by kernel_rfl) (by kernel_rfl) rfl t_addR_eq fun xs hl hx => by
  match xs, hl with
  | [x0, x1, x2, x3], _ =>
    simp [rngE, cAdd, den] at hx
    simp [t_addR, T.ok, LVal, gAdd, cAdd, f24Sig, f24F, gNorm, gHalf, gSin, gCos, gRoot, gRnd, gClamp, gFV, gAdd, gSub, gBox, gDist, gTurn, gBody, gSgn, gBod, RngOK, denV, denL, denB, den, retV, shsV, shV, cellV, cellsV, a0, a1, a2, a3, a4, Sh.w, fit0, fit1, fit2, fit3, fit4]
    have w1 := i64i (x0 + x2)
    have w2 := i64i (x1 + x3)
    simp only [mxE, mnE, addS, subS, boxS, absS, okPt, decide_eq_true_eq]
    split <;> simp [RngOK] <;> omega
def t_sub : T Leaf :=
(.ite (.not (.and (.le (.mx (.v 0) (.v 1)) (.lit 100000000)) (.le (.lit (-100000000)) (.mn (.v 0) (.v 1)))))
 (.leaf ((.tup [(.agg [(.int .i64 (.lit 0)), (.int .i64 (.lit 0))]), (.int .i64 (.lit 1))]), [some (26, [(.int .i64 (.v 0)), (.int .i64 (.v 1))]), some (26, [(.int .i64 (.v 2)), (.int .i64 (.v 3))]), some (26, [(.int .i64 (.lit 0)), (.int .i64 (.lit 0))]), some (26, [(.int .i64 (.v 0)), (.int .i64 (.v 1))]), some (26, [(.int .i64 (.v 2)), (.int .i64 (.v 3))]), some (26, [(.int .i64 (.lit 0)), (.int .i64 (.lit 0))]), some (26, [(.int .i64 (.v 0)), (.int .i64 (.v 1)), (.int .i64 (.v 2)), (.int .i64 (.v 3))]), some (26, [(.int .i64 (.v 0)), (.int .i64 (.v 1))]), some (26, [(.int .i64 (.v 0)), (.int .i64 (.v 1))])], [2, 5, 8, 7, 7, 6, 5, 4, 3, 2, 1, 0]))
 (.ite (.not (.and (.le (.mx (.v 2) (.v 3)) (.lit 100000000)) (.le (.lit (-100000000)) (.mn (.v 2) (.v 3)))))
  (.leaf ((.tup [(.agg [(.int .i64 (.lit 0)), (.int .i64 (.lit 0))]), (.int .i64 (.lit 1))]), [some (26, [(.int .i64 (.v 0)), (.int .i64 (.v 1))]), some (26, [(.int .i64 (.v 2)), (.int .i64 (.v 3))]), some (26, [(.int .i64 (.lit 0)), (.int .i64 (.lit 0))]), some (26, [(.int .i64 (.v 0)), (.int .i64 (.v 1))]), some (26, [(.int .i64 (.v 2)), (.int .i64 (.v 3))]), some (26, [(.int .i64 (.lit 0)), (.int .i64 (.lit 0))]), some (26, [(.int .i64 (.v 0)), (.int .i64 (.v 1)), (.int .i64 (.v 2)), (.int .i64 (.v 3))]), some (26, [(.int .i64 (.v 0)), (.int .i64 (.v 1))]), some (26, [(.int .i64 (.v 0)), (.int .i64 (.v 1))]), some (26, [(.int .i64 (.v 2)), (.int .i64 (.v 3))]), some (26, [(.int .i64 (.v 2)), (.int .i64 (.v 3))])], [2, 5, 10, 9, 9, 8, 7, 7, 6, 5, 4, 3, 2, 1, 0]))
  (.ite (.not (.and (.le (.mx (.add (.v 0) (.mul (.lit (-1)) (.v 2))) (.add (.v 1) (.mul (.lit (-1)) (.v 3)))) (.lit 100000000)) (.le (.lit (-100000000)) (.mn (.add (.v 0) (.mul (.lit (-1)) (.v 2))) (.add (.v 1) (.mul (.lit (-1)) (.v 3)))))))
   (.leaf ((.tup [(.agg [(.int .i64 (.lit 0)), (.int .i64 (.lit 0))]), (.int .i64 (.lit 1))]), [some (26, [(.int .i64 (.v 0)), (.int .i64 (.v 1))]), some (26, [(.int .i64 (.v 2)), (.int .i64 (.v 3))]), some (26, [(.int .i64 (.lit 0)), (.int .i64 (.lit 0))]), some (26, [(.int .i64 (.v 0)), (.int .i64 (.v 1))]), some (26, [(.int .i64 (.v 2)), (.int .i64 (.v 3))]), some (26, [(.int .i64 (.lit 0)), (.int .i64 (.lit 0))]), some (26, [(.int .i64 (.v 0)), (.int .i64 (.v 1)), (.int .i64 (.v 2)), (.int .i64 (.v 3))]), some (26, [(.int .i64 (.v 0)), (.int .i64 (.v 1))]), some (26, [(.int .i64 (.v 0)), (.int .i64 (.v 1))]), some (26, [(.int .i64 (.v 2)), (.int .i64 (.v 3))]), some (26, [(.int .i64 (.v 2)), (.int .i64 (.v 3))]), some (26, [(.int .i64 (.add (.v 0) (.mul (.lit (-1)) (.v 2)))), (.int .i64 (.add (.v 1) (.mul (.lit (-1)) (.v 3))))]), some (26, [(.int .i64 (.add (.v 0) (.mul (.lit (-1)) (.v 2)))), (.int .i64 (.add (.v 1) (.mul (.lit (-1)) (.v 3))))]), some (26, [(.int .i64 (.add (.v 0) (.mul (.lit (-1)) (.v 2)))), (.int .i64 (.add (.v 1) (.mul (.lit (-1)) (.v 3))))]), some (26, [(.int .i64 (.add (.v 0) (.mul (.lit (-1)) (.v 2)))), (.int .i64 (.add (.v 1) (.mul (.lit (-1)) (.v 3))))])], [2, 5, 14, 13, 13, 12, 11, 11, 10, 9, 9, 8, 7, 7, 6, 5, 4, 3, 2, 1, 0]))
   (.leaf ((.tup [(.agg [(.int .i64 (.add (.v 0) (.mul (.lit (-1)) (.v 2)))), (.int .i64 (.add (.v 1) (.mul (.lit (-1)) (.v 3))))]), (.int .i64 (.lit 0))]), [some (26, [(.int .i64 (.v 0)), (.int .i64 (.v 1))]), some (26, [(.int .i64 (.v 2)), (.int .i64 (.v 3))]), some (26, [(.int .i64 (.add (.v 0) (.mul (.lit (-1)) (.v 2)))), (.int .i64 (.add (.v 1) (.mul (.lit (-1)) (.v 3))))]), some (26, [(.int .i64 (.v 0)), (.int .i64 (.v 1))]), some (26, [(.int .i64 (.v 2)), (.int .i64 (.v 3))]), some (26, [(.int .i64 (.add (.v 0) (.mul (.lit (-1)) (.v 2)))), (.int .i64 (.add (.v 1) (.mul (.lit (-1)) (.v 3))))]), some (26, [(.int .i64 (.v 0)), (.int .i64 (.v 1)), (.int .i64 (.v 2)), (.int .i64 (.v 3))]), some (26, [(.int .i64 (.v 0)), (.int .i64 (.v 1))]), some (26, [(.int .i64 (.v 0)), (.int .i64 (.v 1))]), some (26, [(.int .i64 (.v 2)), (.int .i64 (.v 3))]), some (26, [(.int .i64 (.v 2)), (.int .i64 (.v 3))]), some (26, [(.int .i64 (.add (.v 0) (.mul (.lit (-1)) (.v 2)))), (.int .i64 (.add (.v 1) (.mul (.lit (-1)) (.v 3))))]), some (26, [(.int .i64 (.add (.v 0) (.mul (.lit (-1)) (.v 2)))), (.int .i64 (.add (.v 1) (.mul (.lit (-1)) (.v 3))))]), some (26, [(.int .i64 (.add (.v 0) (.mul (.lit (-1)) (.v 2)))), (.int .i64 (.add (.v 1) (.mul (.lit (-1)) (.v 3))))]), some (26, [(.int .i64 (.add (.v 0) (.mul (.lit (-1)) (.v 2)))), (.int .i64 (.add (.v 1) (.mul (.lit (-1)) (.v 3))))])], [2, 5, 14, 13, 13, 12, 11, 11, 10, 9, 9, 8, 7, 7, 6, 5, 4, 3, 2, 1, 0]))
  )
 )
)
theorem t_sub_eq : evFn Try.prog (ctxOf tab2) 100 12 25 (shsS cSub.args 0) [] ⟨rngE 0 cSub.dom, []⟩ cSub.dom.length = t_sub := by kernel_rfl
set_option maxHeartbeats 2000000 in
theorem sub_ok : PCOK Try.prog 25 cSub gSub := pc_of_tree ctx2_ok (Φ := f24Sig) rfl (fun _ => trivial) (by kernel_rfl) (by kernel_rfl) rfl t_sub_eq fun xs hl hx => by
  match xs, hl with
  | [x0, x1, x2, x3], _ =>
    simp [rngE, cSub, den] at hx
    simp [t_sub, T.ok, LVal, gSub, cSub, f24Sig, f24F, gNorm, gHalf, gSin, gCos, gRoot, gRnd, gClamp, gFV, gAdd, gSub, gBox, gDist, gTurn, gBody, gSgn, gBod, RngOK, denV, denL, denB, den, retV, shsV, shV, cellV, cellsV, a0, a1, a2, a3, a4, Sh.w, fit0, fit1, fit2, fit3, fit4]
    have w1 := i64i (-x2)
    have w2 := i64i (-x3)
    have w3 := i64i (x0 + IntKind.i64.wrap (-x2))
    have w4 := i64i (x1 + IntKind.i64.wrap (-x3))
    simp only [mxE, mnE, addS, subS, boxS, absS, okPt, decide_eq_true_eq]
    split <;> simp [RngOK] <;> omega
def t_subR : T Leaf :=
(.ite (.not (.not (.and (.and (.and (.le (.lit (-100000000)) (.v 0)) (.le (.v 0) (.lit 100000000))) (.le (.lit (-100000000)) (.v 1))) (.le (.v 1) (.lit 100000000)))))
 (.ite (.not (.not (.and (.and (.and (.le (.lit (-100000000)) (.v 2)) (.le (.v 2) (.lit 100000000))) (.le (.lit (-100000000)) (.v 3))) (.le (.v 3) (.lit 100000000)))))
  (.ite (.not (.and (.and (.and (.le (.lit (-100000000)) (.wr .i64 (.sub (.v 0) (.v 2)))) (.le (.wr .i64 (.sub (.v 0) (.v 2))) (.lit 100000000))) (.le (.lit (-100000000)) (.wr .i64 (.sub (.v 1) (.v 3))))) (.le (.wr .i64 (.sub (.v 1) (.v 3))) (.lit 100000000))))
   (.leaf ((.tup [(.agg [(.int .i64 (.lit 0)), (.int .i64 (.lit 0))]), (.int .i64 (.lit 1))]), [some (26, [(.int .i64 (.v 0)), (.int .i64 (.v 1))]), some (26, [(.int .i64 (.v 2)), (.int .i64 (.v 3))]), some (26, [(.int .i64 (.lit 0)), (.int .i64 (.lit 0))]), some (26, [(.int .i64 (.wr .i64 (.sub (.v 0) (.v 2)))), (.int .i64 (.wr .i64 (.sub (.v 1) (.v 3))))]), some (26, [(.int .i64 (.v 0)), (.int .i64 (.v 1))]), some (26, [(.int .i64 (.v 2)), (.int .i64 (.v 3))]), some (26, [(.int .i64 (.wr .i64 (.sub (.v 0) (.v 2)))), (.int .i64 (.wr .i64 (.sub (.v 1) (.v 3))))])], [2, 6, 5, 4, 3, 3, 2, 1, 0]))
   (.leaf ((.tup [(.agg [(.int .i64 (.wr .i64 (.sub (.v 0) (.v 2)))), (.int .i64 (.wr .i64 (.sub (.v 1) (.v 3))))]), (.int .i64 (.lit 0))]), [some (26, [(.int .i64 (.v 0)), (.int .i64 (.v 1))]), some (26, [(.int .i64 (.v 2)), (.int .i64 (.v 3))]), some (26, [(.int .i64 (.wr .i64 (.sub (.v 0) (.v 2)))), (.int .i64 (.wr .i64 (.sub (.v 1) (.v 3))))]), some (26, [(.int .i64 (.wr .i64 (.sub (.v 0) (.v 2)))), (.int .i64 (.wr .i64 (.sub (.v 1) (.v 3))))]), some (26, [(.int .i64 (.v 0)), (.int .i64 (.v 1))]), some (26, [(.int .i64 (.v 2)), (.int .i64 (.v 3))]), some (26, [(.int .i64 (.wr .i64 (.sub (.v 0) (.v 2)))), (.int .i64 (.wr .i64 (.sub (.v 1) (.v 3))))])], [2, 6, 5, 4, 3, 3, 2, 1, 0]))
  )
  (.leaf ((.tup [(.agg [(.int .i64 (.lit 0)), (.int .i64 (.lit 0))]), (.int .i64 (.lit 1))]), [some (26, [(.int .i64 (.v 0)), (.int .i64 (.v 1))]), some (26, [(.int .i64 (.v 2)), (.int .i64 (.v 3))]), some (26, [(.int .i64 (.lit 0)), (.int .i64 (.lit 0))]), some (26, [(.int .i64 (.wr .i64 (.sub (.v 0) (.v 2)))), (.int .i64 (.wr .i64 (.sub (.v 1) (.v 3))))]), some (26, [(.int .i64 (.v 0)), (.int .i64 (.v 1))]), some (26, [(.int .i64 (.v 2)), (.int .i64 (.v 3))])], [2, 5, 4, 3, 3, 2, 1, 0]))
 )
 (.leaf ((.tup [(.agg [(.int .i64 (.lit 0)), (.int .i64 (.lit 0))]), (.int .i64 (.lit 1))]), [some (26, [(.int .i64 (.v 0)), (.int .i64 (.v 1))]), some (26, [(.int .i64 (.v 2)), (.int .i64 (.v 3))]), some (26, [(.int .i64 (.lit 0)), (.int .i64 (.lit 0))]), some (26, [(.int .i64 (.wr .i64 (.sub (.v 0) (.v 2)))), (.int .i64 (.wr .i64 (.sub (.v 1) (.v 3))))]), some (26, [(.int .i64 (.v 0)), (.int .i64 (.v 1))])], [2, 4, 3, 3, 2, 1, 0]))
)
theorem t_subR_eq : evFn Try.prog (ctxOf tab2) 100 12 30 (shsS cSub.args 0) [] ⟨rngE 0 cSub.dom, []⟩ cSub.dom.length = t_subR := by kernel_rfl
set_option maxHeartbeats 2000000 in
theorem subR_ok : PCOK Try.prog 30 cSub gSub := pc_of_tree ctx2_ok (Φ := f24Sig) rfl (fun _ => trivial) (by kernel_rfl) (by kernel_rfl) rfl t_subR_eq fun xs hl hx => by
  match xs, hl with
  | [x0, x1, x2, x3], _ =>
    simp [rngE, cSub, den] at hx
    simp [t_subR, T.ok, LVal, gSub, cSub, f24Sig, f24F, gNorm, gHalf, gSin, gCos, gRoot, gRnd, gClamp, gFV, gAdd, gSub, gBox, gDist, gTurn, gBody, gSgn, gBod, RngOK, denV, denL, denB, den, retV, shsV, shV, cellV, cellsV, a0, a1, a2, a3, a4, Sh.w, fit0, fit1, fit2, fit3, fit4]
    have w1 := i64i (x0 - x2)
    have w2 := i64i (x1 - x3)
    simp only [mxE, mnE, addS, subS, boxS, absS, okPt, decide_eq_true_eq]
    split <;> simp [RngOK] <;> omega
def t_box : T Leaf :=
(.ite (.not (.and (.le (.mx (.v 0) (.v 1)) (.lit 100000000)) (.le (.lit (-100000000)) (.mn (.v 0) (.v 1)))))
 (.leaf ((.tup [(.int .i64 (.lit 0)), (.int .i64 (.lit 1))]), [some (26, [(.int .i64 (.v 0)), (.int .i64 (.v 1))]), some (26, [(.int .i64 (.v 2)), (.int .i64 (.v 3))]), some (26, [(.int .i64 (.v 0)), (.int .i64 (.v 1))]), some (26, [(.int .i64 (.v 2)), (.int .i64 (.v 3))]), some (26, [(.int .i64 (.v 0)), (.int .i64 (.v 1)), (.int .i64 (.v 2)), (.int .i64 (.v 3))]), some (26, [(.int .i64 (.v 0)), (.int .i64 (.v 1))]), some (26, [(.int .i64 (.v 0)), (.int .i64 (.v 1))])], [6, 5, 5, 4, 3, 2, 1, 0]))
 (.ite (.not (.and (.le (.mx (.v 2) (.v 3)) (.lit 100000000)) (.le (.lit (-100000000)) (.mn (.v 2) (.v 3)))))
  (.leaf ((.tup [(.int .i64 (.lit 0)), (.int .i64 (.lit 1))]), [some (26, [(.int .i64 (.v 0)), (.int .i64 (.v 1))]), some (26, [(.int .i64 (.v 2)), (.int .i64 (.v 3))]), some (26, [(.int .i64 (.v 0)), (.int .i64 (.v 1))]), some (26, [(.int .i64 (.v 2)), (.int .i64 (.v 3))]), some (26, [(.int .i64 (.v 0)), (.int .i64 (.v 1)), (.int .i64 (.v 2)), (.int .i64 (.v 3))]), some (26, [(.int .i64 (.v 0)), (.int .i64 (.v 1))]), some (26, [(.int .i64 (.v 0)), (.int .i64 (.v 1))]), some (26, [(.int .i64 (.v 2)), (.int .i64 (.v 3))]), some (26, [(.int .i64 (.v 2)), (.int .i64 (.v 3))])], [8, 7, 7, 6, 5, 5, 4, 3, 2, 1, 0]))
  (.leaf ((.tup [(.int .i64 (.mx (.mx (.sub (.v 0) (.v 2)) (.sub (.v 2) (.v 0))) (.mx (.sub (.v 1) (.v 3)) (.sub (.v 3) (.v 1))))), (.int .i64 (.lit 0))]), [some (26, [(.int .i64 (.v 0)), (.int .i64 (.v 1))]), some (26, [(.int .i64 (.v 2)), (.int .i64 (.v 3))]), some (26, [(.int .i64 (.v 0)), (.int .i64 (.v 1))]), some (26, [(.int .i64 (.v 2)), (.int .i64 (.v 3))]), some (26, [(.int .i64 (.v 0)), (.int .i64 (.v 1)), (.int .i64 (.v 2)), (.int .i64 (.v 3))]), some (26, [(.int .i64 (.v 0)), (.int .i64 (.v 1))]), some (26, [(.int .i64 (.v 0)), (.int .i64 (.v 1))]), some (26, [(.int .i64 (.v 2)), (.int .i64 (.v 3))]), some (26, [(.int .i64 (.v 2)), (.int .i64 (.v 3))])], [8, 7, 7, 6, 5, 5, 4, 3, 2, 1, 0]))
 )
)
theorem t_box_eq : evFn Try.prog (ctxOf tab2) 100 12 20 (shsS cBox.args 0) [] ⟨rngE 0 cBox.dom, []⟩ cBox.dom.length = t_box := by kernel_rfl
set_option maxHeartbeats 2000000 in
theorem box_ok : PCOK Try.prog 20 cBox gBox := pc_of_tree ctx2_ok (Φ := f24Sig) rfl (fun _ => trivial) (by kernel_rfl) (by kernel_rfl) rfl t_box_eq fun xs hl hx => by
  match xs, hl with
  | [x0, x1, x2, x3], _ =>
    simp [rngE, cBox, den] at hx
    simp [t_box, T.ok, LVal, gBox, cBox, f24Sig, f24F, gNorm, gHalf, gSin, gCos, gRoot, gRnd, gClamp, gFV, gAdd, gSub, gBox, gDist, gTurn, gBody, gSgn, gBod, RngOK, denV, denL, denB, den, retV, shsV, shV, cellV, cellsV, a0, a1, a2, a3, a4, Sh.w, fit0, fit1, fit2, fit3, fit4]
    have w1 := i64i (x0 - x2)
    have w2 := i64i (x1 - x3)
    have w3 := i64i (x2 - x0)
    have w4 := i64i (x3 - x1)
    simp only [mxE, mnE, addS, subS, boxS, absS, okPt, decide_eq_true_eq]
    split <;> simp [RngOK] <;> omega
def t_boxR : T Leaf :=
(.ite (.not (.not (.and (.and (.and (.le (.lit (-100000000)) (.v 0)) (.le (.v 0) (.lit 100000000))) (.le (.lit (-100000000)) (.v 1))) (.le (.v 1) (.lit 100000000)))))
 (.ite (.not (.and (.and (.and (.le (.lit (-100000000)) (.v 2)) (.le (.v 2) (.lit 100000000))) (.le (.lit (-100000000)) (.v 3))) (.le (.v 3) (.lit 100000000))))
  (.leaf ((.tup [(.int .i64 (.lit 0)), (.int .i64 (.lit 1))]), [some (26, [(.int .i64 (.v 0)), (.int .i64 (.v 1))]), some (26, [(.int .i64 (.v 2)), (.int .i64 (.v 3))]), some (26, [(.int .i64 (.v 0)), (.int .i64 (.v 1))]), some (26, [(.int .i64 (.v 2)), (.int .i64 (.v 3))])], [3, 2, 1, 0]))
  (.ite (.lt (.sub (.v 0) (.v 2)) (.lit 0))
   (.ite (.lt (.sub (.v 1) (.v 3)) (.lit 0))
    (.leaf ((.tup [(.int .i64 (.mx (.sub (.lit 0) (.sub (.v 0) (.v 2))) (.sub (.lit 0) (.sub (.v 1) (.v 3))))), (.int .i64 (.lit 0))]), [some (26, [(.int .i64 (.v 0)), (.int .i64 (.v 1))]), some (26, [(.int .i64 (.v 2)), (.int .i64 (.v 3))]), some (26, [(.int .i64 (.v 0)), (.int .i64 (.v 1))]), some (26, [(.int .i64 (.v 2)), (.int .i64 (.v 3))])], [3, 2, 1, 0]))
    (.leaf ((.tup [(.int .i64 (.mx (.sub (.lit 0) (.sub (.v 0) (.v 2))) (.sub (.v 1) (.v 3)))), (.int .i64 (.lit 0))]), [some (26, [(.int .i64 (.v 0)), (.int .i64 (.v 1))]), some (26, [(.int .i64 (.v 2)), (.int .i64 (.v 3))]), some (26, [(.int .i64 (.v 0)), (.int .i64 (.v 1))]), some (26, [(.int .i64 (.v 2)), (.int .i64 (.v 3))])], [3, 2, 1, 0]))
   )
   (.ite (.lt (.sub (.v 1) (.v 3)) (.lit 0))
    (.leaf ((.tup [(.int .i64 (.mx (.sub (.v 0) (.v 2)) (.sub (.lit 0) (.sub (.v 1) (.v 3))))), (.int .i64 (.lit 0))]), [some (26, [(.int .i64 (.v 0)), (.int .i64 (.v 1))]), some (26, [(.int .i64 (.v 2)), (.int .i64 (.v 3))]), some (26, [(.int .i64 (.v 0)), (.int .i64 (.v 1))]), some (26, [(.int .i64 (.v 2)), (.int .i64 (.v 3))])], [3, 2, 1, 0]))
    (.leaf ((.tup [(.int .i64 (.mx (.sub (.v 0) (.v 2)) (.sub (.v 1) (.v 3)))), (.int .i64 (.lit 0))]), [some (26, [(.int .i64 (.v 0)), (.int .i64 (.v 1))]), some (26, [(.int .i64 (.v 2)), (.int .i64 (.v 3))]), some (26, [(.int .i64 (.v 0)), (.int .i64 (.v 1))]), some (26, [(.int .i64 (.v 2)), (.int .i64 (.v 3))])], [3, 2, 1, 0]))
   )
  )
 )
 (.leaf ((.tup [(.int .i64 (.lit 0)), (.int .i64 (.lit 1))]), [some (26, [(.int .i64 (.v 0)), (.int .i64 (.v 1))]), some (26, [(.int .i64 (.v 2)), (.int .i64 (.v 3))]), some (26, [(.int .i64 (.v 0)), (.int .i64 (.v 1))])], [2, 1, 0]))
)
theorem t_boxR_eq : evFn Try.prog (ctxOf tab2) 100 12 31 (shsS cBox.args 0) [] ⟨rngE 0 cBox.dom, []⟩ cBox.dom.length = t_boxR := by kernel_rfl
set_option maxHeartbeats 2000000 in
theorem boxR_ok : PCOK Try.prog 31 cBox gBox := pc_of_tree ctx2_ok (Φ := f24Sig) rfl (fun _ => trivial) (by kernel_rfl) (by kernel_rfl) rfl t_boxR_eq fun xs hl hx => by
  match xs, hl with
  | [x0, x1, x2, x3], _ =>
    simp [rngE, cBox, den] at hx
    simp [t_boxR, T.ok, LVal, gBox, cBox, f24Sig, f24F, gNorm, gHalf, gSin, gCos, gRoot, gRnd, gClamp, gFV, gAdd, gSub, gBox, gDist, gTurn, gBody, gSgn, gBod, RngOK, denV, denL, denB, den, retV, shsV, shV, cellV, cellsV, a0, a1, a2, a3, a4, Sh.w, fit0, fit1, fit2, fit3, fit4]
    have w1 := i64i (x0 - x2)
    have w2 := i64i (x1 - x3)
    simp only [mxE, mnE, addS, subS, boxS, absS, okPt, decide_eq_true_eq]
    split <;> simp [RngOK] <;> omega
def t_fv : T Leaf :=
(.leaf ((.bool (.and (.le (.mx (.v 0) (.v 1)) (.lit 100000000)) (.le (.lit (-100000000)) (.mn (.v 0) (.v 1))))), [some (26, [(.int .i64 (.v 0)), (.int .i64 (.v 1))])], [0]))
theorem t_fv_eq : evFn Try.prog (ctxOf tab2) 100 12 27 (shsS cFV.args 0) [] ⟨rngE 0 cFV.dom, []⟩ cFV.dom.length = t_fv := by kernel_rfl
set_option maxHeartbeats 2000000 in
theorem fv_ok : PCOK Try.prog 27 cFV gFV := pc_of_tree ctx2_ok (Φ := f24Sig) rfl (fun _ => trivial) (by kernel_rfl) (by kernel_rfl) rfl t_fv_eq fun xs hl hx => by
  match xs, hl with
  | [x0, x1], _ =>
    simp [rngE, cFV, den] at hx
    simp [t_fv, T.ok, LVal, gFV, cFV, f24Sig, f24F, gNorm, gHalf, gSin, gCos, gRoot, gRnd, gClamp, gFV, gAdd, gSub, gBox, gDist, gTurn, gBody, gSgn, gBod, RngOK, denV, denL, denB, den, retV, shsV, shV, cellV, cellsV, a0, a1, a2, a3, a4, Sh.w, fit0, fit1, fit2, fit3, fit4]
    refine ⟨by split <;> omega, ?_⟩
    unfold okPt
    rw [Bool.eq_iff_iff]
    simp only [Bool.and_eq_true, decide_eq_true_eq, mxE, mnE]
    omega
def t_fvR : T Leaf :=
(.leaf ((.bool (.and (.and (.and (.le (.lit (-100000000)) (.v 0)) (.le (.v 0) (.lit 100000000))) (.le (.lit (-100000000)) (.v 1))) (.le (.v 1) (.lit 100000000)))), [some (26, [(.int .i64 (.v 0)), (.int .i64 (.v 1))])], [0]))
theorem t_fvR_eq : evFn Try.prog (ctxOf tab2) 100 12 28 (shsS cFV.args 0) [] ⟨rngE 0 cFV.dom, []⟩ cFV.dom.length = t_fvR := by kernel_rfl
set_option maxHeartbeats 2000000 in
theorem fvR_ok : PCOK Try.prog 28 cFV gFV := pc_of_tree ctx2_ok (Φ := f24Sig) rfl (fun _ => trivial) (by kernel_rfl) (by kernel_rfl) rfl t_fvR_eq fun xs hl hx => by
  match xs, hl with
  | [x0, x1], _ =>
    simp [rngE, cFV, den] at hx
    simp [t_fvR, T.ok, LVal, gFV, cFV, f24Sig, f24F, gNorm, gHalf, gSin, gCos, gRoot, gRnd, gClamp, gFV, gAdd, gSub, gBox, gDist, gTurn, gBody, gSgn, gBod, RngOK, denV, denL, denB, den, retV, shsV, shV, cellV, cellsV, a0, a1, a2, a3, a4, Sh.w, fit0, fit1, fit2, fit3, fit4]
    refine ⟨by split <;> omega, ?_⟩
    unfold okPt
    rw [Bool.eq_iff_iff]
    simp only [Bool.and_eq_true, decide_eq_true_eq, mxE, mnE]
    omega
end Go.Proofs.Ythhaeaiheidpoaa
