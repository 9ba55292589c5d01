/- Time that passes: its contract. -/
import Derived.Test.YtejklpbiieofoaaRows
import Derived.Test.YtejklpbiieofoaaM07D
import Derived.Test.YtejklpbiieofoaaEvR
namespace Go.Proofs.Ytejklpbiieofoaa
open Ev
set_option linter.unusedSimpArgs false
set_option linter.unusedVariables false

def t_tick : T Leaf :=
(.ite (.and (.le (.lit 0) (.v 0)) (.le (.v 0) (.lit 7)))
 (.ite (.and (.le (.lit 0) (.v 1)) (.le (.v 1) (.lit 1000)))
  (.ite (.and (.le (.lit 1) (.v 2)) (.le (.v 2) (.lit 600)))
   (.ite (.not (.not (.and (.le (.lit 0) (.v 3)) (.le (.v 3) (.lit 600)))))
    (.ite (.not (.not (.and (.le (.lit 0) (.v 15)) (.le (.v 15) (.lit 2147483648)))))
     (.ite (.not (.not (.nz (.v 12))))
      (.ite (.and (.le (.lit 0) (.v 4)) (.le (.v 4) (.lit 2147483648)))
       (.ite (.and (.le (.mx (.v 5) (.v 6)) (.lit 100000000)) (.le (.lit (-100000000)) (.mn (.v 5) (.v 6))))
        (.ite (.and (.le (.lit 1) (.v 7)) (.le (.v 7) (.lit 100000)))
         (.ite (.and (.le (.lit 0) (.v 8)) (.le (.v 8) (.lit 2147483648)))
          (.ite (.and (.le (.mx (.v 9) (.v 10)) (.lit 100000000)) (.le (.lit (-100000000)) (.mn (.v 9) (.v 10))))
           (.ite (.and (.le (.lit 1) (.v 11)) (.le (.v 11) (.lit 100000)))
            (.ite (.not (.and (.le (.lit 1) (.v 13)) (.le (.v 13) (.lit 2147483648))))
             (.leaf ((.tup [(.agg [(.int .i64 (.lit 0)), (.int .i64 (.lit 0)), (.int .i64 (.lit 0)), (.int .i64 (.lit 0)), (.int .i64 (.lit 0)), (.int .i64 (.lit 0)), (.int .i64 (.lit 0)), (.int .i64 (.lit 0)), (.bool (.lit false)), (.int .i64 (.lit 0)), (.int .i64 (.lit 0))]), (.int .i64 (.lit 1))]), [], []))
             (.ite (.lt (.v 15) (.v 4))
              (.leaf ((.tup [(.agg [(.int .i64 (.lit 0)), (.int .i64 (.lit 0)), (.int .i64 (.lit 0)), (.int .i64 (.lit 0)), (.int .i64 (.lit 0)), (.int .i64 (.lit 0)), (.int .i64 (.lit 0)), (.int .i64 (.lit 0)), (.bool (.lit false)), (.int .i64 (.lit 0)), (.int .i64 (.lit 0))]), (.int .i64 (.lit 16))]), [], []))
              (.ite (.le (.v 2) (.sub (.v 15) (.v 4)))
               (.leaf ((.tup [(.agg [(.int .i64 (.v 4)), (.int .i64 (.v 5)), (.int .i64 (.v 6)), (.int .i64 (.v 7)), (.int .i64 (.v 8)), (.int .i64 (.v 9)), (.int .i64 (.v 10)), (.int .i64 (.v 11)), (.bool (.nz (.v 12))), (.int .i64 (.v 13)), (.int .i64 (.lit 2))]), (.int .i64 (.lit 0))]), [], []))
               (.leaf ((.tup [(.agg [(.int .i64 (.v 4)), (.int .i64 (.v 5)), (.int .i64 (.v 6)), (.int .i64 (.v 7)), (.int .i64 (.v 8)), (.int .i64 (.v 9)), (.int .i64 (.v 10)), (.int .i64 (.v 11)), (.bool (.nz (.v 12))), (.int .i64 (.v 13)), (.int .i64 (.v 14))]), (.int .i64 (.lit 0))]), [], []))
              )
             )
            )
            (.leaf ((.tup [(.agg [(.int .i64 (.lit 0)), (.int .i64 (.lit 0)), (.int .i64 (.lit 0)), (.int .i64 (.lit 0)), (.int .i64 (.lit 0)), (.int .i64 (.lit 0)), (.int .i64 (.lit 0)), (.int .i64 (.lit 0)), (.bool (.lit false)), (.int .i64 (.lit 0)), (.int .i64 (.lit 0))]), (.int .i64 (.lit 1))]), [], []))
           )
           (.leaf ((.tup [(.agg [(.int .i64 (.lit 0)), (.int .i64 (.lit 0)), (.int .i64 (.lit 0)), (.int .i64 (.lit 0)), (.int .i64 (.lit 0)), (.int .i64 (.lit 0)), (.int .i64 (.lit 0)), (.int .i64 (.lit 0)), (.bool (.lit false)), (.int .i64 (.lit 0)), (.int .i64 (.lit 0))]), (.int .i64 (.lit 1))]), [], []))
          )
          (.leaf ((.tup [(.agg [(.int .i64 (.lit 0)), (.int .i64 (.lit 0)), (.int .i64 (.lit 0)), (.int .i64 (.lit 0)), (.int .i64 (.lit 0)), (.int .i64 (.lit 0)), (.int .i64 (.lit 0)), (.int .i64 (.lit 0)), (.bool (.lit false)), (.int .i64 (.lit 0)), (.int .i64 (.lit 0))]), (.int .i64 (.lit 1))]), [], []))
         )
         (.leaf ((.tup [(.agg [(.int .i64 (.lit 0)), (.int .i64 (.lit 0)), (.int .i64 (.lit 0)), (.int .i64 (.lit 0)), (.int .i64 (.lit 0)), (.int .i64 (.lit 0)), (.int .i64 (.lit 0)), (.int .i64 (.lit 0)), (.bool (.lit false)), (.int .i64 (.lit 0)), (.int .i64 (.lit 0))]), (.int .i64 (.lit 1))]), [], []))
        )
        (.leaf ((.tup [(.agg [(.int .i64 (.lit 0)), (.int .i64 (.lit 0)), (.int .i64 (.lit 0)), (.int .i64 (.lit 0)), (.int .i64 (.lit 0)), (.int .i64 (.lit 0)), (.int .i64 (.lit 0)), (.int .i64 (.lit 0)), (.bool (.lit false)), (.int .i64 (.lit 0)), (.int .i64 (.lit 0))]), (.int .i64 (.lit 1))]), [], []))
       )
       (.leaf ((.tup [(.agg [(.int .i64 (.lit 0)), (.int .i64 (.lit 0)), (.int .i64 (.lit 0)), (.int .i64 (.lit 0)), (.int .i64 (.lit 0)), (.int .i64 (.lit 0)), (.int .i64 (.lit 0)), (.int .i64 (.lit 0)), (.bool (.lit false)), (.int .i64 (.lit 0)), (.int .i64 (.lit 0))]), (.int .i64 (.lit 1))]), [], []))
      )
      (.leaf ((.tup [(.agg [(.int .i64 (.v 4)), (.int .i64 (.v 5)), (.int .i64 (.v 6)), (.int .i64 (.v 7)), (.int .i64 (.v 8)), (.int .i64 (.v 9)), (.int .i64 (.v 10)), (.int .i64 (.v 11)), (.bool (.nz (.v 12))), (.int .i64 (.v 13)), (.int .i64 (.v 14))]), (.int .i64 (.lit 0))]), [], []))
     )
     (.leaf ((.tup [(.agg [(.int .i64 (.lit 0)), (.int .i64 (.lit 0)), (.int .i64 (.lit 0)), (.int .i64 (.lit 0)), (.int .i64 (.lit 0)), (.int .i64 (.lit 0)), (.int .i64 (.lit 0)), (.int .i64 (.lit 0)), (.bool (.lit false)), (.int .i64 (.lit 0)), (.int .i64 (.lit 0))]), (.int .i64 (.lit 1))]), [], []))
    )
    (.leaf ((.tup [(.agg [(.int .i64 (.lit 0)), (.int .i64 (.lit 0)), (.int .i64 (.lit 0)), (.int .i64 (.lit 0)), (.int .i64 (.lit 0)), (.int .i64 (.lit 0)), (.int .i64 (.lit 0)), (.int .i64 (.lit 0)), (.bool (.lit false)), (.int .i64 (.lit 0)), (.int .i64 (.lit 0))]), (.int .i64 (.lit 1))]), [], []))
   )
   (.leaf ((.tup [(.agg [(.int .i64 (.lit 0)), (.int .i64 (.lit 0)), (.int .i64 (.lit 0)), (.int .i64 (.lit 0)), (.int .i64 (.lit 0)), (.int .i64 (.lit 0)), (.int .i64 (.lit 0)), (.int .i64 (.lit 0)), (.bool (.lit false)), (.int .i64 (.lit 0)), (.int .i64 (.lit 0))]), (.int .i64 (.lit 1))]), [], []))
  )
  (.leaf ((.tup [(.agg [(.int .i64 (.lit 0)), (.int .i64 (.lit 0)), (.int .i64 (.lit 0)), (.int .i64 (.lit 0)), (.int .i64 (.lit 0)), (.int .i64 (.lit 0)), (.int .i64 (.lit 0)), (.int .i64 (.lit 0)), (.bool (.lit false)), (.int .i64 (.lit 0)), (.int .i64 (.lit 0))]), (.int .i64 (.lit 1))]), [], []))
 )
 (.leaf ((.tup [(.agg [(.int .i64 (.lit 0)), (.int .i64 (.lit 0)), (.int .i64 (.lit 0)), (.int .i64 (.lit 0)), (.int .i64 (.lit 0)), (.int .i64 (.lit 0)), (.int .i64 (.lit 0)), (.int .i64 (.lit 0)), (.bool (.lit false)), (.int .i64 (.lit 0)), (.int .i64 (.lit 0))]), (.int .i64 (.lit 1))]), [], []))
)
theorem t_tick_eq : (evFn Try.prog (noCtx) 100 12 16 (shsS cTick.args 0) [] ⟨rngE 0 cTick.dom, []⟩ cTick.dom.length).strip = t_tick := by kernel_rfl
set_option maxHeartbeats 2000000 in
theorem tick_ok : PCOK Try.prog 16 cTick gTick := pc_of_treeS noCtx_ok (Φ := noSig) rfl (fun _ => trivial) (by kernel_rfl) (by kernel_rfl) rfl t_tick_eq fun xs hl hx => by
  match xs, hl with
  | [x0, x1, x2, x3, x4, x5, x6, x7, x8, x9, x10, x11, x12, x13, x14, x15], _ =>
    simp [rngE, cTick, den] at hx
    refine ⟨tick_rng x0 x1 x2 x3 x4 x5 x6 x7 x8 x9 x10 x11 x12 x13 x14 x15 (by omega), ?_⟩
    have hc := tick_cases x0 x1 x2 x3 x4 x5 x6 x7 x8 x9 x10 x11 x12 x13 x14 x15
    show T.ok noSig (LVal (retV cTick.res (tickS x0 x1 x2 x3 x4 x5 x6 x7 x8 x9 x10 x11 x12 x13 x14 x15))) _ _
    generalize tickS x0 x1 x2 x3 x4 x5 x6 x7 x8 x9 x10 x11 x12 x13 x14 x15 = v at *
    clear hx hl
    simp [t_tick, T.ok, denB, den, mxE', mnE']
    repeat' (first | (intro _) | apply And.intro)
    all_goals
      rcases hc with ⟨h1, e⟩ | ⟨h1, ⟨h2, h3, e⟩ | ⟨h2, h3, h4, e⟩ | ⟨h2, e⟩⟩
      all_goals first
        | (exfalso; clear e; omega)
        | (subst e; simp [zTrk, cTick, denV, denL, denB, den, retV, shsV, shV, cellV, cellsV, Sh.w]; done)
        | (subst e; simp [zTrk, cTick, denV, denL, denB, den, retV, shsV, shV, cellV, cellsV, Sh.w, h2]; done)
end Go.Proofs.Ytejklpbiieofoaa
