/- A step of a monitor: its contract. -/
import Derived.Test.YtejklpbiieofoaaRows
import Derived.Test.YtejklpbiieofoaaM07D
import Derived.Test.YtejklpbiieofoaaEvR
namespace Go.Proofs.Ytejklpbiieofoaa
open Ev
set_option linter.unusedSimpArgs false
set_option linter.unusedVariables false

def t_step : T Leaf :=
(.ite (.and (.le (.lit 0) (.v 0)) (.le (.v 0) (.lit 7)))
 (.ite (.and (.le (.lit 0) (.v 1)) (.le (.v 1) (.lit 1000)))
  (.ite (.and (.le (.lit 1) (.v 2)) (.le (.v 2) (.lit 600)))
   (.ite (.not (.not (.and (.le (.lit 0) (.v 3)) (.le (.v 3) (.lit 600)))))
    (.ite (.and (.le (.lit 0) (.v 15)) (.le (.v 15) (.lit 2147483648)))
     (.ite (.and (.le (.mx (.v 16) (.v 17)) (.lit 100000000)) (.le (.lit (-100000000)) (.mn (.v 16) (.v 17))))
      (.ite (.not (.not (.and (.le (.lit 1) (.v 18)) (.le (.v 18) (.lit 100000)))))
       (.ite (.not (.not (.nz (.v 12))))
        (.ite (.and (.le (.lit 0) (.v 4)) (.le (.v 4) (.lit 2147483648)))
         (.ite (.and (.le (.mx (.v 5) (.v 6)) (.lit 100000000)) (.le (.lit (-100000000)) (.mn (.v 5) (.v 6))))
          (.ite (.and (.le (.lit 1) (.v 7)) (.le (.v 7) (.lit 100000)))
           (.ite (.and (.le (.lit 0) (.v 8)) (.le (.v 8) (.lit 2147483648)))
            (.ite (.and (.le (.mx (.v 9) (.v 10)) (.lit 100000000)) (.le (.lit (-100000000)) (.mn (.v 9) (.v 10))))
             (.ite (.and (.le (.lit 1) (.v 11)) (.le (.v 11) (.lit 100000)))
              (.ite (.not (.and (.le (.lit 1) (.v 13)) (.le (.v 13) (.lit 2147483648))))
               (.leaf ((.tup [(.agg [(.int .i64 (.lit 0)), (.int .i64 (.lit 0)), (.int .i64 (.lit 0)), (.int .i64 (.lit 0)), (.int .i64 (.lit 0)), (.int .i64 (.lit 0)), (.int .i64 (.lit 0)), (.int .i64 (.lit 0)), (.bool (.lit false)), (.int .i64 (.lit 0)), (.int .i64 (.lit 0))]), (.int .i64 (.lit 1))]), [], []))
               (.ite (.le (.v 15) (.v 4))
                (.leaf ((.tup [(.agg [(.int .i64 (.lit 0)), (.int .i64 (.lit 0)), (.int .i64 (.lit 0)), (.int .i64 (.lit 0)), (.int .i64 (.lit 0)), (.int .i64 (.lit 0)), (.int .i64 (.lit 0)), (.int .i64 (.lit 0)), (.bool (.lit false)), (.int .i64 (.lit 0)), (.int .i64 (.lit 0))]), (.int .i64 (.lit 16))]), [], []))
                (.ite (.and (.eq (.v 5) (.v 16)) (.eq (.v 6) (.v 17)))
                 (.ite (.lt (.add (.add (.mul (.v 1) (.sub (.v 15) (.v 8))) (.v 11)) (.v 18)) (.mx (.mx (.sub (.v 9) (.v 16)) (.sub (.v 16) (.v 9))) (.mx (.sub (.v 10) (.v 17)) (.sub (.v 17) (.v 10)))))
                  (.leaf ((.tup [(.agg [(.int .i64 (.v 15)), (.int .i64 (.v 16)), (.int .i64 (.v 17)), (.int .i64 (.v 18)), (.int .i64 (.v 8)), (.int .i64 (.v 9)), (.int .i64 (.v 10)), (.int .i64 (.v 11)), (.bool (.nz (.v 12))), (.int .i64 (.add (.v 13) (.lit 1))), (.int .i64 (.lit 4))]), (.int .i64 (.lit 0))]), [], []))
                  (.ite (.and (.not (.eq (.v 3) (.lit 0))) (.le (.v 3) (.add (.v 13) (.lit 1))))
                   (.leaf ((.tup [(.agg [(.int .i64 (.v 15)), (.int .i64 (.v 16)), (.int .i64 (.v 17)), (.int .i64 (.v 18)), (.int .i64 (.v 8)), (.int .i64 (.v 9)), (.int .i64 (.v 10)), (.int .i64 (.v 11)), (.bool (.nz (.v 12))), (.int .i64 (.add (.v 13) (.lit 1))), (.int .i64 (.lit 3))]), (.int .i64 (.lit 0))]), [], []))
                   (.leaf ((.tup [(.agg [(.int .i64 (.v 15)), (.int .i64 (.v 16)), (.int .i64 (.v 17)), (.int .i64 (.v 18)), (.int .i64 (.v 15)), (.int .i64 (.v 16)), (.int .i64 (.v 17)), (.int .i64 (.v 18)), (.bool (.nz (.v 12))), (.int .i64 (.add (.v 13) (.lit 1))), (.int .i64 (.lit 1))]), (.int .i64 (.lit 0))]), [], []))
                  )
                 )
                 (.ite (.lt (.add (.add (.mul (.v 1) (.sub (.v 15) (.v 8))) (.v 11)) (.v 18)) (.mx (.mx (.sub (.v 9) (.v 16)) (.sub (.v 16) (.v 9))) (.mx (.sub (.v 10) (.v 17)) (.sub (.v 17) (.v 10)))))
                  (.leaf ((.tup [(.agg [(.int .i64 (.v 15)), (.int .i64 (.v 16)), (.int .i64 (.v 17)), (.int .i64 (.v 18)), (.int .i64 (.v 8)), (.int .i64 (.v 9)), (.int .i64 (.v 10)), (.int .i64 (.v 11)), (.bool (.nz (.v 12))), (.int .i64 (.lit 1)), (.int .i64 (.lit 4))]), (.int .i64 (.lit 0))]), [], []))
                  (.ite (.and (.not (.eq (.v 3) (.lit 0))) (.le (.v 3) (.lit 1)))
                   (.leaf ((.tup [(.agg [(.int .i64 (.v 15)), (.int .i64 (.v 16)), (.int .i64 (.v 17)), (.int .i64 (.v 18)), (.int .i64 (.v 8)), (.int .i64 (.v 9)), (.int .i64 (.v 10)), (.int .i64 (.v 11)), (.bool (.nz (.v 12))), (.int .i64 (.lit 1)), (.int .i64 (.lit 3))]), (.int .i64 (.lit 0))]), [], []))
                   (.leaf ((.tup [(.agg [(.int .i64 (.v 15)), (.int .i64 (.v 16)), (.int .i64 (.v 17)), (.int .i64 (.v 18)), (.int .i64 (.v 15)), (.int .i64 (.v 16)), (.int .i64 (.v 17)), (.int .i64 (.v 18)), (.bool (.nz (.v 12))), (.int .i64 (.lit 1)), (.int .i64 (.lit 1))]), (.int .i64 (.lit 0))]), [], []))
                  )
                 )
                )
               )
              )
              (.leaf ((.tup [(.agg [(.int .i64 (.lit 0)), (.int .i64 (.lit 0)), (.int .i64 (.lit 0)), (.int .i64 (.lit 0)), (.int .i64 (.lit 0)), (.int .i64 (.lit 0)), (.int .i64 (.lit 0)), (.int .i64 (.lit 0)), (.bool (.lit false)), (.int .i64 (.lit 0)), (.int .i64 (.lit 0))]), (.int .i64 (.lit 1))]), [], []))
             )
             (.leaf ((.tup [(.agg [(.int .i64 (.lit 0)), (.int .i64 (.lit 0)), (.int .i64 (.lit 0)), (.int .i64 (.lit 0)), (.int .i64 (.lit 0)), (.int .i64 (.lit 0)), (.int .i64 (.lit 0)), (.int .i64 (.lit 0)), (.bool (.lit false)), (.int .i64 (.lit 0)), (.int .i64 (.lit 0))]), (.int .i64 (.lit 1))]), [], []))
            )
            (.leaf ((.tup [(.agg [(.int .i64 (.lit 0)), (.int .i64 (.lit 0)), (.int .i64 (.lit 0)), (.int .i64 (.lit 0)), (.int .i64 (.lit 0)), (.int .i64 (.lit 0)), (.int .i64 (.lit 0)), (.int .i64 (.lit 0)), (.bool (.lit false)), (.int .i64 (.lit 0)), (.int .i64 (.lit 0))]), (.int .i64 (.lit 1))]), [], []))
           )
           (.leaf ((.tup [(.agg [(.int .i64 (.lit 0)), (.int .i64 (.lit 0)), (.int .i64 (.lit 0)), (.int .i64 (.lit 0)), (.int .i64 (.lit 0)), (.int .i64 (.lit 0)), (.int .i64 (.lit 0)), (.int .i64 (.lit 0)), (.bool (.lit false)), (.int .i64 (.lit 0)), (.int .i64 (.lit 0))]), (.int .i64 (.lit 1))]), [], []))
          )
          (.leaf ((.tup [(.agg [(.int .i64 (.lit 0)), (.int .i64 (.lit 0)), (.int .i64 (.lit 0)), (.int .i64 (.lit 0)), (.int .i64 (.lit 0)), (.int .i64 (.lit 0)), (.int .i64 (.lit 0)), (.int .i64 (.lit 0)), (.bool (.lit false)), (.int .i64 (.lit 0)), (.int .i64 (.lit 0))]), (.int .i64 (.lit 1))]), [], []))
         )
         (.leaf ((.tup [(.agg [(.int .i64 (.lit 0)), (.int .i64 (.lit 0)), (.int .i64 (.lit 0)), (.int .i64 (.lit 0)), (.int .i64 (.lit 0)), (.int .i64 (.lit 0)), (.int .i64 (.lit 0)), (.int .i64 (.lit 0)), (.bool (.lit false)), (.int .i64 (.lit 0)), (.int .i64 (.lit 0))]), (.int .i64 (.lit 1))]), [], []))
        )
        (.leaf ((.tup [(.agg [(.int .i64 (.v 15)), (.int .i64 (.v 16)), (.int .i64 (.v 17)), (.int .i64 (.v 18)), (.int .i64 (.v 15)), (.int .i64 (.v 16)), (.int .i64 (.v 17)), (.int .i64 (.v 18)), (.bool (.lit true)), (.int .i64 (.lit 1)), (.int .i64 (.lit 1))]), (.int .i64 (.lit 0))]), [], []))
       )
       (.leaf ((.tup [(.agg [(.int .i64 (.lit 0)), (.int .i64 (.lit 0)), (.int .i64 (.lit 0)), (.int .i64 (.lit 0)), (.int .i64 (.lit 0)), (.int .i64 (.lit 0)), (.int .i64 (.lit 0)), (.int .i64 (.lit 0)), (.bool (.lit false)), (.int .i64 (.lit 0)), (.int .i64 (.lit 0))]), (.int .i64 (.lit 1))]), [], []))
      )
      (.leaf ((.tup [(.agg [(.int .i64 (.lit 0)), (.int .i64 (.lit 0)), (.int .i64 (.lit 0)), (.int .i64 (.lit 0)), (.int .i64 (.lit 0)), (.int .i64 (.lit 0)), (.int .i64 (.lit 0)), (.int .i64 (.lit 0)), (.bool (.lit false)), (.int .i64 (.lit 0)), (.int .i64 (.lit 0))]), (.int .i64 (.lit 1))]), [], []))
     )
     (.leaf ((.tup [(.agg [(.int .i64 (.lit 0)), (.int .i64 (.lit 0)), (.int .i64 (.lit 0)), (.int .i64 (.lit 0)), (.int .i64 (.lit 0)), (.int .i64 (.lit 0)), (.int .i64 (.lit 0)), (.int .i64 (.lit 0)), (.bool (.lit false)), (.int .i64 (.lit 0)), (.int .i64 (.lit 0))]), (.int .i64 (.lit 1))]), [], []))
    )
    (.leaf ((.tup [(.agg [(.int .i64 (.lit 0)), (.int .i64 (.lit 0)), (.int .i64 (.lit 0)), (.int .i64 (.lit 0)), (.int .i64 (.lit 0)), (.int .i64 (.lit 0)), (.int .i64 (.lit 0)), (.int .i64 (.lit 0)), (.bool (.lit false)), (.int .i64 (.lit 0)), (.int .i64 (.lit 0))]), (.int .i64 (.lit 1))]), [], []))
   )
   (.leaf ((.tup [(.agg [(.int .i64 (.lit 0)), (.int .i64 (.lit 0)), (.int .i64 (.lit 0)), (.int .i64 (.lit 0)), (.int .i64 (.lit 0)), (.int .i64 (.lit 0)), (.int .i64 (.lit 0)), (.int .i64 (.lit 0)), (.bool (.lit false)), (.int .i64 (.lit 0)), (.int .i64 (.lit 0))]), (.int .i64 (.lit 1))]), [], []))
  )
  (.leaf ((.tup [(.agg [(.int .i64 (.lit 0)), (.int .i64 (.lit 0)), (.int .i64 (.lit 0)), (.int .i64 (.lit 0)), (.int .i64 (.lit 0)), (.int .i64 (.lit 0)), (.int .i64 (.lit 0)), (.int .i64 (.lit 0)), (.bool (.lit false)), (.int .i64 (.lit 0)), (.int .i64 (.lit 0))]), (.int .i64 (.lit 1))]), [], []))
 )
 (.leaf ((.tup [(.agg [(.int .i64 (.lit 0)), (.int .i64 (.lit 0)), (.int .i64 (.lit 0)), (.int .i64 (.lit 0)), (.int .i64 (.lit 0)), (.int .i64 (.lit 0)), (.int .i64 (.lit 0)), (.int .i64 (.lit 0)), (.bool (.lit false)), (.int .i64 (.lit 0)), (.int .i64 (.lit 0))]), (.int .i64 (.lit 1))]), [], []))
)
theorem t_step_eq : (evFn Try.prog (noCtx) 100 12 12 (shsS cStep.args 0) [] ⟨rngE 0 cStep.dom, []⟩ cStep.dom.length).strip = t_step := by kernel_rfl
set_option maxHeartbeats 2000000 in
theorem step_ok : PCOK Try.prog 12 cStep gStep := pc_of_treeS noCtx_ok (Φ := noSig) rfl (fun _ => trivial) (by kernel_rfl) (by kernel_rfl) rfl t_step_eq fun xs hl hx => by
  match xs, hl with
  | [x0, x1, x2, x3, x4, x5, x6, x7, x8, x9, x10, x11, x12, x13, x14, x15, x16, x17, x18], _ =>
    simp [rngE, cStep, den] at hx
    refine ⟨step_rng x0 x1 x2 x3 x4 x5 x6 x7 x8 x9 x10 x11 x12 x13 x14 x15 x16 x17 x18, ?_⟩
    have hc := step_cases x0 x1 x2 x3 x4 x5 x6 x7 x8 x9 x10 x11 x12 x13 x14 x15 x16 x17 x18
    have hs := same_cases x5 x6 x13 x16 x17
    show T.ok noSig (LVal (retV cStep.res (stepS x0 x1 x2 x3 x4 x5 x6 x7 x8 x9 x10 x11 x12 x13 x14 x15 x16 x17 x18))) _ _
    generalize stepS x0 x1 x2 x3 x4 x5 x6 x7 x8 x9 x10 x11 x12 x13 x14 x15 x16 x17 x18 = v at *
    generalize sameS x5 x6 x13 x16 x17 = q at *
    clear hx hl
    simp [t_step, T.ok, denB, den, mxE', mnE']
    have eW : max (max (x9 - x16) (x16 - x9)) (max (x10 - x17) (x17 - x10)) = max (x9 - x16) (max (x16 - x9) (max (x10 - x17) (x17 - x10))) := by omega
    rw [eW] at hc
    clear eW
    generalize max (x9 - x16) (max (x16 - x9) (max (x10 - x17) (x17 - x10))) = W at *
    generalize x1 * (x15 - x8) = p at *
    simp only [Int.max_le, Int.le_min, lt_max', min_lt']
    repeat' (first | (intro _) | apply And.intro)
    all_goals
      rcases hc with ⟨h1, e⟩ | ⟨h1, ⟨h2, e⟩ | ⟨h2, h3, e⟩ | ⟨h2, h3, h4, e⟩ | ⟨h2, h3, h4, h5, h6, e⟩ | ⟨h2, h3, h4, h5, e⟩⟩
      all_goals first
        | (exfalso; clear e; omega)
        | (subst e; simp [zTrk, cStep, denV, denL, denB, den, retV, shsV, shV, cellV, cellsV, Sh.w]; done)
        | (subst e; simp [zTrk, cStep, denV, denL, denB, den, retV, shsV, shV, cellV, cellsV, Sh.w, h2]; done)
        | (subst e; simp [zTrk, cStep, denV, denL, denB, den, retV, shsV, shV, cellV, cellsV, Sh.w, h2]; omega)
end Go.Proofs.Ytejklpbiieofoaa
