/- Keepers: contracts. -/
import Derived.Test.YthhaeaiheidpoaaRows
import Derived.Test.YthhaeaiheidpoaaF24X
import Derived.Test.YthhaeaiheidpoaaEvR
namespace Go.Proofs.Ythhaeaiheidpoaa
open Ev
set_option linter.unusedSimpArgs false
set_option linter.unusedVariables false

def t_vld : T Leaf :=
(.ite (.or (.lt (.v 0) (.lit 0)) (.lt (.lit 100000) (.v 0)))
 (.leaf ((.bool (.lit false)), [], []))
 (.ite (.or (.lt (.v 1) (.lit 0)) (.lt (.lit 100000) (.v 1)))
  (.leaf ((.bool (.lit false)), [], []))
  (.ite (.or (.lt (.v 2) (.lit 0)) (.lt (.lit 100000) (.v 2)))
   (.leaf ((.bool (.lit false)), [], []))
   (.ite (.or (.lt (.v 3) (.lit 0)) (.lt (.lit 100000) (.v 3)))
    (.leaf ((.bool (.lit false)), [], []))
    (.ite (.or (.lt (.v 4) (.lit 0)) (.lt (.lit 100000) (.v 4)))
     (.leaf ((.bool (.lit false)), [], []))
     (.ite (.or (.lt (.v 5) (.lit 0)) (.lt (.lit 100000) (.v 5)))
      (.leaf ((.bool (.lit false)), [], []))
      (.ite (.or (.or (.or (.or (.or (.lt (.v 6) (.lit 0)) (.lt (.lit 10000000) (.v 6))) (.lt (.v 7) (.lit 0))) (.lt (.lit 5000) (.v 7))) (.lt (.v 8) (.lit 0))) (.lt (.lit 500000) (.v 8)))
       (.leaf ((.bool (.lit false)), [], []))
       (.ite (.or (.lt (.v 9) (.sub (.lit 0) (.v 6))) (.lt (.v 6) (.v 9)))
        (.leaf ((.bool (.lit false)), [], []))
        (.ite (.or (.lt (.v 10) (.sub (.lit 0) (.v 6))) (.lt (.v 6) (.v 10)))
         (.leaf ((.bool (.lit false)), [], []))
         (.ite (.or (.lt (.v 11) (.sub (.lit 0) (.v 6))) (.lt (.v 6) (.v 11)))
          (.leaf ((.bool (.lit false)), [], []))
          (.call 13 [(.v 12), (.v 13)] 1
          (.ite (.nz (.v 16))
           (.leaf ((.bool (.and (.le (.lit 0) (.v 14)) (.lt (.v 14) (.lit 3600)))), [], []))
           (.leaf ((.bool (.lit false)), [], []))
          )
          )
         )
        )
       )
      )
     )
    )
   )
  )
 )
)
theorem t_vld_eq : (evFn Try.prog (ctxOf tab3) 100 12 43 (shsS cVld.args 0) [] ⟨rngE 0 cVld.dom, []⟩ cVld.dom.length).strip = t_vld := by kernel_rfl
set_option maxHeartbeats 2000000 in
theorem vld_ok : PCOK Try.prog 43 cVld gVld := pc_of_treeS ctx3_ok (Φ := f24Sig) rfl (fun _ => trivial) (by kernel_rfl) (by kernel_rfl) rfl t_vld_eq fun xs hl hx => by
  match xs, hl with
  | [x0, x1, x2, x3, x4, x5, x6, x7, x8, x9, x10, x11, x12, x13, x14, x15], _ =>
    simp [rngE, cVld, den] at hx
    simp [t_vld, T.ok, LVal, gVld, cVld, f24Sig, f24F, gNorm, gHalf, gSin, gCos, gRoot, gRnd, gClamp, gFV, gAdd, gSub, gBox, gDist, gTurn, gBody, gSgn, gBod, gVld, RngOK, denV, denL, denB, den, retV, shsV, shV, cellV, cellsV, a0, a1, a2, a3, a4, Sh.w, fit0, fit1, fit2, fit3, fit4]
    have hv := vld_cases x0 x1 x2 x3 x4 x5 x6 x7 x8 x9 x10 x11 x12 x13 x14
    generalize vldS x0 x1 x2 x3 x4 x5 x6 x7 x8 x9 x10 x11 x12 x13 x14 = v at *
    simp only [okPt, ← Bool.decide_and, ← decide_not, decide_eq_decide, decide_eq_true_eq, decide_eq_false_iff_not]
    clear hx
    omega
def t_vldR : T Leaf :=
(.ite (.not (.and (.le (.lit 0) (.v 0)) (.le (.v 0) (.lit 100000))))
 (.leaf ((.bool (.lit false)), [], []))
 (.ite (.not (.and (.le (.lit 0) (.v 1)) (.le (.v 1) (.lit 100000))))
  (.leaf ((.bool (.lit false)), [], []))
  (.ite (.not (.and (.le (.lit 0) (.v 2)) (.le (.v 2) (.lit 100000))))
   (.leaf ((.bool (.lit false)), [], []))
   (.ite (.not (.and (.le (.lit 0) (.v 3)) (.le (.v 3) (.lit 100000))))
    (.leaf ((.bool (.lit false)), [], []))
    (.ite (.not (.and (.le (.lit 0) (.v 4)) (.le (.v 4) (.lit 100000))))
     (.leaf ((.bool (.lit false)), [], []))
     (.ite (.not (.and (.le (.lit 0) (.v 5)) (.le (.v 5) (.lit 100000))))
      (.leaf ((.bool (.lit false)), [], []))
      (.ite (.not (.not (.and (.le (.lit 0) (.v 6)) (.le (.v 6) (.lit 10000000)))))
       (.ite (.not (.not (.and (.le (.lit 0) (.v 7)) (.le (.v 7) (.lit 5000)))))
        (.ite (.not (.and (.le (.lit 0) (.v 8)) (.le (.v 8) (.lit 500000))))
         (.leaf ((.bool (.lit false)), [], []))
         (.ite (.and (.le (.sub (.lit 0) (.v 6)) (.v 9)) (.le (.v 9) (.v 6)))
          (.ite (.and (.le (.sub (.lit 0) (.v 6)) (.v 10)) (.le (.v 10) (.v 6)))
           (.ite (.and (.le (.sub (.lit 0) (.v 6)) (.v 11)) (.le (.v 11) (.v 6)))
            (.call 13 [(.v 12), (.v 13)] 1
            (.ite (.nz (.v 16))
             (.leaf ((.bool (.and (.le (.lit 0) (.v 14)) (.le (.v 14) (.lit 3599)))), [], []))
             (.leaf ((.bool (.lit false)), [], []))
            )
            )
            (.leaf ((.bool (.lit false)), [], []))
           )
           (.leaf ((.bool (.lit false)), [], []))
          )
          (.leaf ((.bool (.lit false)), [], []))
         )
        )
        (.leaf ((.bool (.lit false)), [], []))
       )
       (.leaf ((.bool (.lit false)), [], []))
      )
     )
    )
   )
  )
 )
)
theorem t_vldR_eq : (evFn Try.prog (ctxOf tab3) 100 12 44 (shsS cVld.args 0) [] ⟨rngE 0 cVld.dom, []⟩ cVld.dom.length).strip = t_vldR := by kernel_rfl
set_option maxHeartbeats 2000000 in
theorem vldR_ok : PCOK Try.prog 44 cVld gVld := pc_of_treeS ctx3_ok (Φ := f24Sig) rfl (fun _ => trivial) (by kernel_rfl) (by kernel_rfl) rfl t_vldR_eq fun xs hl hx => by
  match xs, hl with
  | [x0, x1, x2, x3, x4, x5, x6, x7, x8, x9, x10, x11, x12, x13, x14, x15], _ =>
    simp [rngE, cVld, den] at hx
    simp [t_vldR, T.ok, LVal, gVld, cVld, f24Sig, f24F, gNorm, gHalf, gSin, gCos, gRoot, gRnd, gClamp, gFV, gAdd, gSub, gBox, gDist, gTurn, gBody, gSgn, gBod, gVld, RngOK, denV, denL, denB, den, retV, shsV, shV, cellV, cellsV, a0, a1, a2, a3, a4, Sh.w, fit0, fit1, fit2, fit3, fit4]
    have hv := vld_cases x0 x1 x2 x3 x4 x5 x6 x7 x8 x9 x10 x11 x12 x13 x14
    generalize vldS x0 x1 x2 x3 x4 x5 x6 x7 x8 x9 x10 x11 x12 x13 x14 = v at *
    simp only [okPt, ← Bool.decide_and, ← decide_not, decide_eq_decide, decide_eq_true_eq, decide_eq_false_iff_not]
    clear hx
    omega
end Go.Proofs.Ythhaeaiheidpoaa
