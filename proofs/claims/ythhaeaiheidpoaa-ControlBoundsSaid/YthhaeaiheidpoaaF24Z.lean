/- Demands: a contract. -/
import Derived.Test.YthhaeaiheidpoaaRows
import Derived.Test.YthhaeaiheidpoaaF24X
import Derived.Test.YthhaeaiheidpoaaEvR
namespace Go.Proofs.Ythhaeaiheidpoaa
open Ev
set_option linter.unusedSimpArgs false
set_option linter.unusedVariables false

def t_dem : T Leaf :=
(.ite (.or (.lt (.v 0) (.lit 0)) (.lt (.lit 100000) (.v 0)))
 (.leaf ((.tup [(.agg [(.int .i64 (.lit 0)), (.int .i64 (.lit 0)), (.int .i64 (.lit 0))]), (.agg [(.int .i64 (.lit 0)), (.int .i64 (.lit 0)), (.int .i64 (.lit 0)), (.int .i64 (.lit 0)), (.int .i64 (.lit 0)), (.int .i64 (.lit 0)), (.bool (.lit false))]), (.int .i64 (.lit 62))]), [], []))
 (.ite (.or (.lt (.v 1) (.lit 0)) (.lt (.lit 100000) (.v 1)))
  (.leaf ((.tup [(.agg [(.int .i64 (.lit 0)), (.int .i64 (.lit 0)), (.int .i64 (.lit 0))]), (.agg [(.int .i64 (.lit 0)), (.int .i64 (.lit 0)), (.int .i64 (.lit 0)), (.int .i64 (.lit 0)), (.int .i64 (.lit 0)), (.int .i64 (.lit 0)), (.bool (.lit false))]), (.int .i64 (.lit 62))]), [], []))
  (.ite (.or (.lt (.v 2) (.lit 0)) (.lt (.lit 100000) (.v 2)))
   (.leaf ((.tup [(.agg [(.int .i64 (.lit 0)), (.int .i64 (.lit 0)), (.int .i64 (.lit 0))]), (.agg [(.int .i64 (.lit 0)), (.int .i64 (.lit 0)), (.int .i64 (.lit 0)), (.int .i64 (.lit 0)), (.int .i64 (.lit 0)), (.int .i64 (.lit 0)), (.bool (.lit false))]), (.int .i64 (.lit 62))]), [], []))
   (.ite (.or (.lt (.v 3) (.lit 0)) (.lt (.lit 100000) (.v 3)))
    (.leaf ((.tup [(.agg [(.int .i64 (.lit 0)), (.int .i64 (.lit 0)), (.int .i64 (.lit 0))]), (.agg [(.int .i64 (.lit 0)), (.int .i64 (.lit 0)), (.int .i64 (.lit 0)), (.int .i64 (.lit 0)), (.int .i64 (.lit 0)), (.int .i64 (.lit 0)), (.bool (.lit false))]), (.int .i64 (.lit 62))]), [], []))
    (.ite (.or (.lt (.v 4) (.lit 0)) (.lt (.lit 100000) (.v 4)))
     (.leaf ((.tup [(.agg [(.int .i64 (.lit 0)), (.int .i64 (.lit 0)), (.int .i64 (.lit 0))]), (.agg [(.int .i64 (.lit 0)), (.int .i64 (.lit 0)), (.int .i64 (.lit 0)), (.int .i64 (.lit 0)), (.int .i64 (.lit 0)), (.int .i64 (.lit 0)), (.bool (.lit false))]), (.int .i64 (.lit 62))]), [], []))
     (.ite (.or (.lt (.v 5) (.lit 0)) (.lt (.lit 100000) (.v 5)))
      (.leaf ((.tup [(.agg [(.int .i64 (.lit 0)), (.int .i64 (.lit 0)), (.int .i64 (.lit 0))]), (.agg [(.int .i64 (.lit 0)), (.int .i64 (.lit 0)), (.int .i64 (.lit 0)), (.int .i64 (.lit 0)), (.int .i64 (.lit 0)), (.int .i64 (.lit 0)), (.bool (.lit false))]), (.int .i64 (.lit 62))]), [], []))
      (.ite (.or (.or (.or (.or (.or (.lt (.v 6) (.lit 0)) (.lt (.lit 10000000) (.v 6))) (.lt (.v 7) (.lit 0))) (.lt (.lit 5000) (.v 7))) (.lt (.v 8) (.lit 0))) (.lt (.lit 500000) (.v 8)))
       (.leaf ((.tup [(.agg [(.int .i64 (.lit 0)), (.int .i64 (.lit 0)), (.int .i64 (.lit 0))]), (.agg [(.int .i64 (.lit 0)), (.int .i64 (.lit 0)), (.int .i64 (.lit 0)), (.int .i64 (.lit 0)), (.int .i64 (.lit 0)), (.int .i64 (.lit 0)), (.bool (.lit false))]), (.int .i64 (.lit 62))]), [], []))
       (.ite (.or (.lt (.v 9) (.sub (.lit 0) (.v 6))) (.lt (.v 6) (.v 9)))
        (.leaf ((.tup [(.agg [(.int .i64 (.lit 0)), (.int .i64 (.lit 0)), (.int .i64 (.lit 0))]), (.agg [(.int .i64 (.lit 0)), (.int .i64 (.lit 0)), (.int .i64 (.lit 0)), (.int .i64 (.lit 0)), (.int .i64 (.lit 0)), (.int .i64 (.lit 0)), (.bool (.lit false))]), (.int .i64 (.lit 1))]), [], []))
        (.ite (.or (.lt (.v 10) (.sub (.lit 0) (.v 6))) (.lt (.v 6) (.v 10)))
         (.leaf ((.tup [(.agg [(.int .i64 (.lit 0)), (.int .i64 (.lit 0)), (.int .i64 (.lit 0))]), (.agg [(.int .i64 (.lit 0)), (.int .i64 (.lit 0)), (.int .i64 (.lit 0)), (.int .i64 (.lit 0)), (.int .i64 (.lit 0)), (.int .i64 (.lit 0)), (.bool (.lit false))]), (.int .i64 (.lit 1))]), [], []))
         (.ite (.or (.lt (.v 11) (.sub (.lit 0) (.v 6))) (.lt (.v 6) (.v 11)))
          (.leaf ((.tup [(.agg [(.int .i64 (.lit 0)), (.int .i64 (.lit 0)), (.int .i64 (.lit 0))]), (.agg [(.int .i64 (.lit 0)), (.int .i64 (.lit 0)), (.int .i64 (.lit 0)), (.int .i64 (.lit 0)), (.int .i64 (.lit 0)), (.int .i64 (.lit 0)), (.bool (.lit false))]), (.int .i64 (.lit 1))]), [], []))
          (.call 13 [(.v 12), (.v 13)] 1
          (.ite (.nz (.v 22))
           (.ite (.not (.not (.and (.le (.lit 0) (.v 14)) (.lt (.v 14) (.lit 3600)))))
            (.call 13 [(.v 16), (.v 17)] 1
            (.ite (.not (.not (.nz (.v 23))))
             (.call 13 [(.v 19), (.v 20)] 1
             (.ite (.not (.not (.nz (.v 24))))
              (.ite (.not (.not (.and (.le (.lit 0) (.v 18)) (.lt (.v 18) (.lit 3600)))))
               (.ite (.not (.and (.le (.lit 0) (.v 21)) (.lt (.v 21) (.lit 3600))))
                (.leaf ((.tup [(.agg [(.int .i64 (.lit 0)), (.int .i64 (.lit 0)), (.int .i64 (.lit 0))]), (.agg [(.int .i64 (.lit 0)), (.int .i64 (.lit 0)), (.int .i64 (.lit 0)), (.int .i64 (.lit 0)), (.int .i64 (.lit 0)), (.int .i64 (.lit 0)), (.bool (.lit false))]), (.int .i64 (.lit 1))]), [], []))
                (.call 22 [(.v 16), (.v 17), (.v 19), (.v 20), (.v 18)] 2
                (.ite (.nz (.v 15))
                 (.call 22 [(.v 12), (.v 13), (.v 16), (.v 17), (.v 18)] 2
                 (.call 21 [(.sub (.v 18) (.v 14))] 1
                 (.call 20 [(.sub (.add (.mul (.v 0) (.v 25)) (.mul (.v 1) (.mx (.sub (.lit 0) (.v 6)) (.mn (.add (.v 9) (.v 25)) (.v 6))))) (.mul (.v 2) (.v 27))), (.lit 1000)] 1
                 (.call 20 [(.sub (.add (.mul (.v 0) (.v 26)) (.mul (.v 1) (.mx (.sub (.lit 0) (.v 6)) (.mn (.add (.v 10) (.v 26)) (.v 6))))) (.mul (.v 2) (.v 28))), (.lit 1000)] 1
                 (.call 21 [(.sub (.v 21) (.v 18))] 1
                 (.call 20 [(.sub (.add (.mul (.v 3) (.v 32)) (.mul (.v 4) (.mx (.sub (.lit 0) (.v 6)) (.mn (.add (.v 11) (.v 32)) (.v 6))))) (.mul (.v 5) (.v 29))), (.lit 1000)] 1
                 (.leaf ((.tup [(.agg [(.int .i64 (.mx (.sub (.lit 0) (.v 7)) (.mn (.v 30) (.v 7)))), (.int .i64 (.mx (.sub (.lit 0) (.v 7)) (.mn (.v 31) (.v 7)))), (.int .i64 (.mx (.sub (.lit 0) (.v 8)) (.mn (.v 33) (.v 8))))]), (.agg [(.int .i64 (.mx (.sub (.lit 0) (.v 6)) (.mn (.add (.v 9) (.v 25)) (.v 6)))), (.int .i64 (.mx (.sub (.lit 0) (.v 6)) (.mn (.add (.v 10) (.v 26)) (.v 6)))), (.int .i64 (.mx (.sub (.lit 0) (.v 6)) (.mn (.add (.v 11) (.v 32)) (.v 6)))), (.int .i64 (.v 16)), (.int .i64 (.v 17)), (.int .i64 (.v 18)), (.bool (.lit true))]), (.int .i64 (.lit 0))]), [], []))
                 )
                 )
                 )
                 )
                 )
                 )
                 (.call 20 [(.sub (.add (.mul (.v 0) (.v 25)) (.mul (.v 1) (.mx (.sub (.lit 0) (.v 6)) (.mn (.add (.v 9) (.v 25)) (.v 6))))) (.lit 0)), (.lit 1000)] 1
                 (.call 20 [(.sub (.add (.mul (.v 0) (.v 26)) (.mul (.v 1) (.mx (.sub (.lit 0) (.v 6)) (.mn (.add (.v 10) (.v 26)) (.v 6))))) (.lit 0)), (.lit 1000)] 1
                 (.call 21 [(.sub (.v 21) (.v 18))] 1
                 (.call 20 [(.sub (.add (.mul (.v 3) (.v 29)) (.mul (.v 4) (.mx (.sub (.lit 0) (.v 6)) (.mn (.add (.v 11) (.v 29)) (.v 6))))) (.lit 0)), (.lit 1000)] 1
                 (.leaf ((.tup [(.agg [(.int .i64 (.mx (.sub (.lit 0) (.v 7)) (.mn (.v 27) (.v 7)))), (.int .i64 (.mx (.sub (.lit 0) (.v 7)) (.mn (.v 28) (.v 7)))), (.int .i64 (.mx (.sub (.lit 0) (.v 8)) (.mn (.v 30) (.v 8))))]), (.agg [(.int .i64 (.mx (.sub (.lit 0) (.v 6)) (.mn (.add (.v 9) (.v 25)) (.v 6)))), (.int .i64 (.mx (.sub (.lit 0) (.v 6)) (.mn (.add (.v 10) (.v 26)) (.v 6)))), (.int .i64 (.mx (.sub (.lit 0) (.v 6)) (.mn (.add (.v 11) (.v 29)) (.v 6)))), (.int .i64 (.v 16)), (.int .i64 (.v 17)), (.int .i64 (.v 18)), (.bool (.lit true))]), (.int .i64 (.lit 0))]), [], []))
                 )
                 )
                 )
                 )
                )
                )
               )
               (.leaf ((.tup [(.agg [(.int .i64 (.lit 0)), (.int .i64 (.lit 0)), (.int .i64 (.lit 0))]), (.agg [(.int .i64 (.lit 0)), (.int .i64 (.lit 0)), (.int .i64 (.lit 0)), (.int .i64 (.lit 0)), (.int .i64 (.lit 0)), (.int .i64 (.lit 0)), (.bool (.lit false))]), (.int .i64 (.lit 1))]), [], []))
              )
              (.leaf ((.tup [(.agg [(.int .i64 (.lit 0)), (.int .i64 (.lit 0)), (.int .i64 (.lit 0))]), (.agg [(.int .i64 (.lit 0)), (.int .i64 (.lit 0)), (.int .i64 (.lit 0)), (.int .i64 (.lit 0)), (.int .i64 (.lit 0)), (.int .i64 (.lit 0)), (.bool (.lit false))]), (.int .i64 (.lit 1))]), [], []))
             )
             )
             (.leaf ((.tup [(.agg [(.int .i64 (.lit 0)), (.int .i64 (.lit 0)), (.int .i64 (.lit 0))]), (.agg [(.int .i64 (.lit 0)), (.int .i64 (.lit 0)), (.int .i64 (.lit 0)), (.int .i64 (.lit 0)), (.int .i64 (.lit 0)), (.int .i64 (.lit 0)), (.bool (.lit false))]), (.int .i64 (.lit 1))]), [], []))
            )
            )
            (.leaf ((.tup [(.agg [(.int .i64 (.lit 0)), (.int .i64 (.lit 0)), (.int .i64 (.lit 0))]), (.agg [(.int .i64 (.lit 0)), (.int .i64 (.lit 0)), (.int .i64 (.lit 0)), (.int .i64 (.lit 0)), (.int .i64 (.lit 0)), (.int .i64 (.lit 0)), (.bool (.lit false))]), (.int .i64 (.lit 1))]), [], []))
           )
           (.leaf ((.tup [(.agg [(.int .i64 (.lit 0)), (.int .i64 (.lit 0)), (.int .i64 (.lit 0))]), (.agg [(.int .i64 (.lit 0)), (.int .i64 (.lit 0)), (.int .i64 (.lit 0)), (.int .i64 (.lit 0)), (.int .i64 (.lit 0)), (.int .i64 (.lit 0)), (.bool (.lit false))]), (.int .i64 (.lit 1))]), [], []))
          )
          )
         )
        )
       )
      )
     )
    )
   )
  )
 )
)
theorem t_dem_eq : (evFn Try.prog (ctxOf tab3) 100 12 45 (shsS cDem.args 0) [] ⟨rngE 0 cDem.dom, []⟩ cDem.dom.length).strip = t_dem := by kernel_rfl
set_option maxHeartbeats 2000000 in
theorem dem_ok : PCOK Try.prog 45 cDem gDem := pc_of_treeS ctx3_ok (Φ := f24Sig) rfl (fun _ => trivial) (by kernel_rfl) (by kernel_rfl) rfl t_dem_eq fun xs hl hx => by
  match xs, hl with
  | [x0, x1, x2, x3, x4, x5, x6, x7, x8, x9, x10, x11, x12, x13, x14, x15, x16, x17, x18, x19, x20, x21], _ =>
    simp [rngE, cDem, den] at hx
    refine ⟨dem_rng x0 x1 x2 x3 x4 x5 x6 x7 x8 x9 x10 x11 x12 x13 x14 x15 x16 x17 x18 x19 x20 x21, ?_⟩
    have e62 := fun h => zDem_ok (dem_bad1 (x := x9) (y := x10) (h := x11) (lx := x12) (ly := x13) (hd := x14) (se := x15) (px := x16) (py := x17) (a := x18) (tx := x19) (ty := x20) (th := x21) (n := x0) (s := x1) (c := x2) (p := x3) (d := x4) (t := x5) (ms := x6) (mf := x7) (my := x8) h)
    have e1 := fun h h' => zDem_ok (dem_bad2 (x := x9) (y := x10) (h := x11) (lx := x12) (ly := x13) (hd := x14) (se := x15) (px := x16) (py := x17) (a := x18) (tx := x19) (ty := x20) (th := x21) (n := x0) (s := x1) (c := x2) (p := x3) (d := x4) (t := x5) (ms := x6) (mf := x7) (my := x8) h h')
    have eg := dem_good (x := x9) (y := x10) (h := x11) (lx := x12) (ly := x13) (hd := x14) (se := x15) (px := x16) (py := x17) (a := x18) (tx := x19) (ty := x20) (th := x21) (n := x0) (s := x1) (c := x2) (p := x3) (d := x4) (t := x5) (ms := x6) (mf := x7) (my := x8)
    show T.ok f24Sig (LVal (retV cDem.res (demS x0 x1 x2 x3 x4 x5 x6 x7 x8 x9 x10 x11 x12 x13 x14 x15 x16 x17 x18 x19 x20 x21))) _ _
    generalize demS x0 x1 x2 x3 x4 x5 x6 x7 x8 x9 x10 x11 x12 x13 x14 x15 x16 x17 x18 x19 x20 x21 = v at *
    unfold gnsOK demOK kprOK at *
    clear hx hl
    simp [t_dem, T.ok, f24Sig, f24F, gRnd, gFV, gSgn, gBod, denB, den, a0, a1, a2, a3, a4, fit1, fit2, okPt]
    repeat' (first
      | exact e62 (by omega) _
      | exact e1 (by omega) (by omega) _
      | (intro _)
      | apply And.intro)
    all_goals
      rw [eg (by omega) (by omega)]
      have hb1 := body_in (px := x16) (py := x17) (tx := x19) (ty := x20) (a := x18) (by omega) (by omega) (by omega) (by omega)
      have hb2 := body_in (px := x12) (py := x13) (tx := x16) (ty := x17) (a := x18) (by omega) (by omega) (by omega) (by omega)
      rw [hb1]
    · rw [hb2]
      have hs : x15 ≠ 0 := by omega
      simp [demV, ansS, hs, cDem, denV, denL, denB, den, retV, shsV, shV, cellV, cellsV, Sh.w, cut_if]
    · have hs : x15 = 0 := by omega
      simp [demV, ansS, hs, cDem, denV, denL, denB, den, retV, shsV, shV, cellV, cellsV, Sh.w, cut_if]
end Go.Proofs.Ythhaeaiheidpoaa
