/- Gains: contracts. -/
import Derived.Test.YthhaeaiheidpoaaRows
import Derived.Test.YthhaeaiheidpoaaF24L
namespace Go.Proofs.Ythhaeaiheidpoaa
open Ev
set_option linter.unusedSimpArgs false
set_option linter.unusedVariables false

def t_chk : T Leaf :=
(.ite (.or (.lt (.v 0) (.lit 0)) (.lt (.lit 100000) (.v 0)))
 (.leaf ((.int .i64 (.lit 62)), [some (48, [(.int .i64 (.v 0)), (.int .i64 (.v 1)), (.int .i64 (.v 2)), (.int .i64 (.v 3)), (.int .i64 (.v 4)), (.int .i64 (.v 5)), (.int .i64 (.v 6)), (.int .i64 (.v 7)), (.int .i64 (.v 8))]), some (3, [(.int .i64 (.v 0)), (.int .i64 (.v 1)), (.int .i64 (.v 2)), (.int .i64 (.v 3)), (.int .i64 (.v 4)), (.int .i64 (.v 5))])], [1, 0]))
 (.ite (.or (.lt (.v 1) (.lit 0)) (.lt (.lit 100000) (.v 1)))
  (.leaf ((.int .i64 (.lit 62)), [some (48, [(.int .i64 (.v 0)), (.int .i64 (.v 1)), (.int .i64 (.v 2)), (.int .i64 (.v 3)), (.int .i64 (.v 4)), (.int .i64 (.v 5)), (.int .i64 (.v 6)), (.int .i64 (.v 7)), (.int .i64 (.v 8))]), some (3, [(.int .i64 (.v 0)), (.int .i64 (.v 1)), (.int .i64 (.v 2)), (.int .i64 (.v 3)), (.int .i64 (.v 4)), (.int .i64 (.v 5))])], [1, 0]))
  (.ite (.or (.lt (.v 2) (.lit 0)) (.lt (.lit 100000) (.v 2)))
   (.leaf ((.int .i64 (.lit 62)), [some (48, [(.int .i64 (.v 0)), (.int .i64 (.v 1)), (.int .i64 (.v 2)), (.int .i64 (.v 3)), (.int .i64 (.v 4)), (.int .i64 (.v 5)), (.int .i64 (.v 6)), (.int .i64 (.v 7)), (.int .i64 (.v 8))]), some (3, [(.int .i64 (.v 0)), (.int .i64 (.v 1)), (.int .i64 (.v 2)), (.int .i64 (.v 3)), (.int .i64 (.v 4)), (.int .i64 (.v 5))])], [1, 0]))
   (.ite (.or (.lt (.v 3) (.lit 0)) (.lt (.lit 100000) (.v 3)))
    (.leaf ((.int .i64 (.lit 62)), [some (48, [(.int .i64 (.v 0)), (.int .i64 (.v 1)), (.int .i64 (.v 2)), (.int .i64 (.v 3)), (.int .i64 (.v 4)), (.int .i64 (.v 5)), (.int .i64 (.v 6)), (.int .i64 (.v 7)), (.int .i64 (.v 8))]), some (3, [(.int .i64 (.v 0)), (.int .i64 (.v 1)), (.int .i64 (.v 2)), (.int .i64 (.v 3)), (.int .i64 (.v 4)), (.int .i64 (.v 5))])], [1, 0]))
    (.ite (.or (.lt (.v 4) (.lit 0)) (.lt (.lit 100000) (.v 4)))
     (.leaf ((.int .i64 (.lit 62)), [some (48, [(.int .i64 (.v 0)), (.int .i64 (.v 1)), (.int .i64 (.v 2)), (.int .i64 (.v 3)), (.int .i64 (.v 4)), (.int .i64 (.v 5)), (.int .i64 (.v 6)), (.int .i64 (.v 7)), (.int .i64 (.v 8))]), some (3, [(.int .i64 (.v 0)), (.int .i64 (.v 1)), (.int .i64 (.v 2)), (.int .i64 (.v 3)), (.int .i64 (.v 4)), (.int .i64 (.v 5))])], [1, 0]))
     (.ite (.or (.lt (.v 5) (.lit 0)) (.lt (.lit 100000) (.v 5)))
      (.leaf ((.int .i64 (.lit 62)), [some (48, [(.int .i64 (.v 0)), (.int .i64 (.v 1)), (.int .i64 (.v 2)), (.int .i64 (.v 3)), (.int .i64 (.v 4)), (.int .i64 (.v 5)), (.int .i64 (.v 6)), (.int .i64 (.v 7)), (.int .i64 (.v 8))]), some (3, [(.int .i64 (.v 0)), (.int .i64 (.v 1)), (.int .i64 (.v 2)), (.int .i64 (.v 3)), (.int .i64 (.v 4)), (.int .i64 (.v 5))])], [1, 0]))
      (.ite (.or (.or (.or (.or (.or (.lt (.v 6) (.lit 0)) (.lt (.lit 10000000) (.v 6))) (.lt (.v 7) (.lit 0))) (.lt (.lit 5000) (.v 7))) (.lt (.v 8) (.lit 0))) (.lt (.lit 500000) (.v 8)))
       (.leaf ((.int .i64 (.lit 62)), [some (48, [(.int .i64 (.v 0)), (.int .i64 (.v 1)), (.int .i64 (.v 2)), (.int .i64 (.v 3)), (.int .i64 (.v 4)), (.int .i64 (.v 5)), (.int .i64 (.v 6)), (.int .i64 (.v 7)), (.int .i64 (.v 8))]), some (3, [(.int .i64 (.v 0)), (.int .i64 (.v 1)), (.int .i64 (.v 2)), (.int .i64 (.v 3)), (.int .i64 (.v 4)), (.int .i64 (.v 5))])], [1, 0]))
       (.leaf ((.int .i64 (.lit 0)), [some (48, [(.int .i64 (.v 0)), (.int .i64 (.v 1)), (.int .i64 (.v 2)), (.int .i64 (.v 3)), (.int .i64 (.v 4)), (.int .i64 (.v 5)), (.int .i64 (.v 6)), (.int .i64 (.v 7)), (.int .i64 (.v 8))]), some (3, [(.int .i64 (.v 0)), (.int .i64 (.v 1)), (.int .i64 (.v 2)), (.int .i64 (.v 3)), (.int .i64 (.v 4)), (.int .i64 (.v 5))])], [1, 0]))
      )
     )
    )
   )
  )
 )
)
theorem t_chk_eq : evFn Try.prog (noCtx) 100 12 41 (shsS cChk.args 0) [] ⟨rngE 0 cChk.dom, []⟩ cChk.dom.length = t_chk := by kernel_rfl
set_option maxHeartbeats 2000000 in
theorem chk_ok : PCOK Try.prog 41 cChk gChk := pc_of_tree noCtx_ok (Φ := noSig) rfl (fun _ => trivial) (by kernel_rfl) (by kernel_rfl) rfl t_chk_eq fun xs hl hx => by
  match xs, hl with
  | [x0, x1, x2, x3, x4, x5, x6, x7, x8], _ =>
    simp [rngE, cChk, den] at hx
    simp [t_chk, T.ok, LVal, gChk, cChk, gChk, RngOK, denV, denL, denB, den, retV, shsV, shV, cellV, cellsV, a0, a1, a2, a3, a4, Sh.w, fit0, fit1, fit2, fit3, fit4]
    unfold chkS
    split <;> omega
def t_chkR : T Leaf :=
(.ite (.not (.and (.le (.lit 0) (.v 0)) (.le (.v 0) (.lit 100000))))
 (.leaf ((.int .i64 (.lit 62)), [some (48, [(.int .i64 (.v 0)), (.int .i64 (.v 1)), (.int .i64 (.v 2)), (.int .i64 (.v 3)), (.int .i64 (.v 4)), (.int .i64 (.v 5)), (.int .i64 (.v 6)), (.int .i64 (.v 7)), (.int .i64 (.v 8))])], [0]))
 (.ite (.not (.and (.le (.lit 0) (.v 1)) (.le (.v 1) (.lit 100000))))
  (.leaf ((.int .i64 (.lit 62)), [some (48, [(.int .i64 (.v 0)), (.int .i64 (.v 1)), (.int .i64 (.v 2)), (.int .i64 (.v 3)), (.int .i64 (.v 4)), (.int .i64 (.v 5)), (.int .i64 (.v 6)), (.int .i64 (.v 7)), (.int .i64 (.v 8))])], [0]))
  (.ite (.not (.and (.le (.lit 0) (.v 2)) (.le (.v 2) (.lit 100000))))
   (.leaf ((.int .i64 (.lit 62)), [some (48, [(.int .i64 (.v 0)), (.int .i64 (.v 1)), (.int .i64 (.v 2)), (.int .i64 (.v 3)), (.int .i64 (.v 4)), (.int .i64 (.v 5)), (.int .i64 (.v 6)), (.int .i64 (.v 7)), (.int .i64 (.v 8))])], [0]))
   (.ite (.not (.and (.le (.lit 0) (.v 3)) (.le (.v 3) (.lit 100000))))
    (.leaf ((.int .i64 (.lit 62)), [some (48, [(.int .i64 (.v 0)), (.int .i64 (.v 1)), (.int .i64 (.v 2)), (.int .i64 (.v 3)), (.int .i64 (.v 4)), (.int .i64 (.v 5)), (.int .i64 (.v 6)), (.int .i64 (.v 7)), (.int .i64 (.v 8))])], [0]))
    (.ite (.not (.and (.le (.lit 0) (.v 4)) (.le (.v 4) (.lit 100000))))
     (.leaf ((.int .i64 (.lit 62)), [some (48, [(.int .i64 (.v 0)), (.int .i64 (.v 1)), (.int .i64 (.v 2)), (.int .i64 (.v 3)), (.int .i64 (.v 4)), (.int .i64 (.v 5)), (.int .i64 (.v 6)), (.int .i64 (.v 7)), (.int .i64 (.v 8))])], [0]))
     (.ite (.not (.and (.le (.lit 0) (.v 5)) (.le (.v 5) (.lit 100000))))
      (.leaf ((.int .i64 (.lit 62)), [some (48, [(.int .i64 (.v 0)), (.int .i64 (.v 1)), (.int .i64 (.v 2)), (.int .i64 (.v 3)), (.int .i64 (.v 4)), (.int .i64 (.v 5)), (.int .i64 (.v 6)), (.int .i64 (.v 7)), (.int .i64 (.v 8))])], [0]))
      (.ite (.not (.not (.and (.le (.lit 0) (.v 6)) (.le (.v 6) (.lit 10000000)))))
       (.ite (.not (.not (.and (.le (.lit 0) (.v 7)) (.le (.v 7) (.lit 5000)))))
        (.ite (.not (.and (.le (.lit 0) (.v 8)) (.le (.v 8) (.lit 500000))))
         (.leaf ((.int .i64 (.lit 62)), [some (48, [(.int .i64 (.v 0)), (.int .i64 (.v 1)), (.int .i64 (.v 2)), (.int .i64 (.v 3)), (.int .i64 (.v 4)), (.int .i64 (.v 5)), (.int .i64 (.v 6)), (.int .i64 (.v 7)), (.int .i64 (.v 8))])], [0]))
         (.leaf ((.int .i64 (.lit 0)), [some (48, [(.int .i64 (.v 0)), (.int .i64 (.v 1)), (.int .i64 (.v 2)), (.int .i64 (.v 3)), (.int .i64 (.v 4)), (.int .i64 (.v 5)), (.int .i64 (.v 6)), (.int .i64 (.v 7)), (.int .i64 (.v 8))])], [0]))
        )
        (.leaf ((.int .i64 (.lit 62)), [some (48, [(.int .i64 (.v 0)), (.int .i64 (.v 1)), (.int .i64 (.v 2)), (.int .i64 (.v 3)), (.int .i64 (.v 4)), (.int .i64 (.v 5)), (.int .i64 (.v 6)), (.int .i64 (.v 7)), (.int .i64 (.v 8))])], [0]))
       )
       (.leaf ((.int .i64 (.lit 62)), [some (48, [(.int .i64 (.v 0)), (.int .i64 (.v 1)), (.int .i64 (.v 2)), (.int .i64 (.v 3)), (.int .i64 (.v 4)), (.int .i64 (.v 5)), (.int .i64 (.v 6)), (.int .i64 (.v 7)), (.int .i64 (.v 8))])], [0]))
      )
     )
    )
   )
  )
 )
)
theorem t_chkR_eq : evFn Try.prog (noCtx) 100 12 42 (shsS cChk.args 0) [] ⟨rngE 0 cChk.dom, []⟩ cChk.dom.length = t_chkR := by kernel_rfl
set_option maxHeartbeats 2000000 in
theorem chkR_ok : PCOK Try.prog 42 cChk gChk := pc_of_tree noCtx_ok (Φ := noSig) rfl (fun _ => trivial) (by kernel_rfl) (by kernel_rfl) rfl t_chkR_eq fun xs hl hx => by
  match xs, hl with
  | [x0, x1, x2, x3, x4, x5, x6, x7, x8], _ =>
    simp [rngE, cChk, den] at hx
    simp [t_chkR, T.ok, LVal, gChk, cChk, gChk, RngOK, denV, denL, denB, den, retV, shsV, shV, cellV, cellsV, a0, a1, a2, a3, a4, Sh.w, fit0, fit1, fit2, fit3, fit4]
    unfold chkS
    split <;> omega
end Go.Proofs.Ythhaeaiheidpoaa
