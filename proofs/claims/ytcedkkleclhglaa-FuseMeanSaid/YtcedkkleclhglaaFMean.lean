/- 'dynpos/dynposlaw09.FuseMean': the tree of its walk; each of its leaves is true. -/
import Derived.Test.YtcedkkleclhglaaFMeanP2
set_option linter.unusedSimpArgs false
set_option linter.unusedVariables false
set_option maxRecDepth 100000
namespace Go.Proofs.Ytcedkkleclhglaa.fuseMean
open Go.RowKit Ev
def tree : T Leaf :=
(.call 900 [(.lit 6), (.mn (.v 0) (.lit 600)), (.lit 0)] 2
(.ite (.lt (.lit 0) (.v 2))
 (.call 11 [(.lit 0), (.mn (.v 0) (.lit 600)), (.v 1), (.v 3)] 5
 (.ite (.lt (.lit 0) (.sub (.v 2) (.lit 1)))
  (.call 11 [(.lit 0), (.mn (.v 0) (.lit 600)), (.v 1), (.v 8)] 5
  (.ite (.lt (.lit 0) (.sub (.sub (.v 2) (.lit 1)) (.lit 1)))
   (.call 11 [(.lit 0), (.mn (.v 0) (.lit 600)), (.v 1), (.v 13)] 5
   (.ite (.lt (.lit 0) (.sub (.sub (.sub (.v 2) (.lit 1)) (.lit 1)) (.lit 1)))
    (.call 11 [(.lit 0), (.mn (.v 0) (.lit 600)), (.v 1), (.v 18)] 5
    (.ite (.lt (.lit 0) (.sub (.sub (.sub (.sub (.v 2) (.lit 1)) (.lit 1)) (.lit 1)) (.lit 1)))
     (.call 11 [(.lit 0), (.mn (.v 0) (.lit 600)), (.v 1), (.v 23)] 5
     (.call 25 [(.v 4), (.v 5), (.v 6), (.v 7), (.v 9), (.v 10), (.v 11), (.v 12), (.v 14), (.v 15), (.v 16), (.v 17), (.v 19), (.v 20), (.v 21), (.v 22), (.v 24), (.v 25), (.v 26), (.v 27)] 4
     (.call 25 [(.v 24), (.v 25), (.v 26), (.v 27), (.v 19), (.v 20), (.v 21), (.v 22), (.v 14), (.v 15), (.v 16), (.v 17), (.v 9), (.v 10), (.v 11), (.v 12), (.v 4), (.v 5), (.v 6), (.v 7)] 4
     (.ite (.or (.or (.or (.or (.or (.not (.and (.eq (.v 29) (.v 33)) (.eq (.v 30) (.v 34)))) (.not (.eq (.v 31) (.v 35)))) (.lt (.v 29) (.mn (.mn (.mn (.mn (.mn (.v 5) (.v 25)) (.v 20)) (.v 15)) (.v 10)) (.v 5)))) (.lt (.mx (.mx (.mx (.mx (.mx (.v 5) (.v 25)) (.v 20)) (.v 15)) (.v 10)) (.v 5)) (.v 29))) (.lt (.v 30) (.mn (.mn (.mn (.mn (.mn (.v 6) (.v 26)) (.v 21)) (.v 16)) (.v 11)) (.v 6)))) (.lt (.mx (.mx (.mx (.mx (.mx (.v 6) (.v 26)) (.v 21)) (.v 16)) (.v 11)) (.v 6)) (.v 30)))
      (.leaf ((.bool (.lit false)), [], []))
      (.call 35 [(.v 4), (.v 5), (.v 6), (.v 7), (.v 9), (.v 10), (.v 11), (.v 12), (.v 14), (.v 15), (.v 16), (.v 17), (.v 19), (.v 20), (.v 21), (.v 22), (.v 24), (.v 25), (.v 26), (.v 27)] 5
      (.call 45 [(.v 4), (.v 5), (.v 6), (.v 7), (.v 9), (.v 10), (.v 11), (.v 12), (.v 14), (.v 15), (.v 16), (.v 17), (.v 19), (.v 20), (.v 21), (.v 22), (.v 24), (.v 25), (.v 26), (.v 27)] 5
      (.ite (.and (.nz (.v 41)) (.or (.or (.or (.lt (.v 37) (.sub (.v 5) (.v 7))) (.lt (.add (.v 5) (.v 7)) (.v 39))) (.lt (.v 38) (.sub (.v 6) (.v 7)))) (.lt (.add (.v 6) (.v 7)) (.v 40))))
       (.leaf ((.bool (.lit false)), [], []))
       (.ite (.or (.or (.or (.lt (.sub (.v 5) (.v 7)) (.v 42)) (.lt (.v 44) (.add (.v 5) (.v 7)))) (.lt (.sub (.v 6) (.v 7)) (.v 43))) (.lt (.v 45) (.add (.v 6) (.v 7))))
        (.leaf ((.bool (.lit false)), [], []))
        (.ite (.and (.nz (.v 41)) (.or (.or (.or (.lt (.v 37) (.sub (.v 10) (.v 12))) (.lt (.add (.v 10) (.v 12)) (.v 39))) (.lt (.v 38) (.sub (.v 11) (.v 12)))) (.lt (.add (.v 11) (.v 12)) (.v 40))))
         (.leaf ((.bool (.lit false)), [], []))
         (.ite (.or (.or (.or (.lt (.sub (.v 10) (.v 12)) (.v 42)) (.lt (.v 44) (.add (.v 10) (.v 12)))) (.lt (.sub (.v 11) (.v 12)) (.v 43))) (.lt (.v 45) (.add (.v 11) (.v 12))))
          (.leaf ((.bool (.lit false)), [], []))
          (.ite (.and (.nz (.v 41)) (.or (.or (.or (.lt (.v 37) (.sub (.v 15) (.v 17))) (.lt (.add (.v 15) (.v 17)) (.v 39))) (.lt (.v 38) (.sub (.v 16) (.v 17)))) (.lt (.add (.v 16) (.v 17)) (.v 40))))
           (.leaf ((.bool (.lit false)), [], []))
           (.ite (.or (.or (.or (.lt (.sub (.v 15) (.v 17)) (.v 42)) (.lt (.v 44) (.add (.v 15) (.v 17)))) (.lt (.sub (.v 16) (.v 17)) (.v 43))) (.lt (.v 45) (.add (.v 16) (.v 17))))
            (.leaf ((.bool (.lit false)), [], []))
            (.ite (.and (.nz (.v 41)) (.or (.or (.or (.lt (.v 37) (.sub (.v 20) (.v 22))) (.lt (.add (.v 20) (.v 22)) (.v 39))) (.lt (.v 38) (.sub (.v 21) (.v 22)))) (.lt (.add (.v 21) (.v 22)) (.v 40))))
             (.leaf ((.bool (.lit false)), [], []))
             (.ite (.or (.or (.or (.lt (.sub (.v 20) (.v 22)) (.v 42)) (.lt (.v 44) (.add (.v 20) (.v 22)))) (.lt (.sub (.v 21) (.v 22)) (.v 43))) (.lt (.v 45) (.add (.v 21) (.v 22))))
              (.leaf ((.bool (.lit false)), [], []))
              (.ite (.and (.nz (.v 41)) (.or (.or (.or (.lt (.v 37) (.sub (.v 25) (.v 27))) (.lt (.add (.v 25) (.v 27)) (.v 39))) (.lt (.v 38) (.sub (.v 26) (.v 27)))) (.lt (.add (.v 26) (.v 27)) (.v 40))))
               (.leaf ((.bool (.lit false)), [], []))
               (.ite (.or (.or (.or (.lt (.sub (.v 25) (.v 27)) (.v 42)) (.lt (.v 44) (.add (.v 25) (.v 27)))) (.lt (.sub (.v 26) (.v 27)) (.v 43))) (.lt (.v 45) (.add (.v 26) (.v 27))))
                (.leaf ((.bool (.lit false)), [], []))
                (.call 25 [(.v 24), (.v 25), (.v 26), (.lit 7), (.v 19), (.v 20), (.v 21), (.lit 7), (.v 14), (.v 15), (.v 16), (.lit 7), (.v 9), (.v 10), (.v 11), (.lit 7), (.v 4), (.v 5), (.v 6), (.lit 7)] 4
                (.call 16 [(.add (.add (.add (.add (.add (.lit 0) (.v 25)) (.v 20)) (.v 15)) (.v 10)) (.v 5)), (.lit 5)] 2
                (.ite (.eq (.v 47) (.v 51))
                 (.call 10 [] 1
                 (.leaf ((.bool (.lit true)), [], []))
                 )
                 (.leaf ((.bool (.lit false)), [], []))
                )
                )
                )
               )
              )
             )
            )
           )
          )
         )
        )
       )
      )
      )
      )
     )
     )
     )
     )
     (.call 24 [(.v 4), (.v 5), (.v 6), (.v 7), (.v 9), (.v 10), (.v 11), (.v 12), (.v 14), (.v 15), (.v 16), (.v 17), (.v 19), (.v 20), (.v 21), (.v 22)] 4
     (.call 24 [(.v 19), (.v 20), (.v 21), (.v 22), (.v 14), (.v 15), (.v 16), (.v 17), (.v 9), (.v 10), (.v 11), (.v 12), (.v 4), (.v 5), (.v 6), (.v 7)] 4
     (.ite (.or (.or (.or (.or (.or (.not (.and (.eq (.v 24) (.v 28)) (.eq (.v 25) (.v 29)))) (.not (.eq (.v 26) (.v 30)))) (.lt (.v 24) (.mn (.mn (.mn (.mn (.v 5) (.v 20)) (.v 15)) (.v 10)) (.v 5)))) (.lt (.mx (.mx (.mx (.mx (.v 5) (.v 20)) (.v 15)) (.v 10)) (.v 5)) (.v 24))) (.lt (.v 25) (.mn (.mn (.mn (.mn (.v 6) (.v 21)) (.v 16)) (.v 11)) (.v 6)))) (.lt (.mx (.mx (.mx (.mx (.v 6) (.v 21)) (.v 16)) (.v 11)) (.v 6)) (.v 25)))
      (.leaf ((.bool (.lit false)), [], []))
      (.call 34 [(.v 4), (.v 5), (.v 6), (.v 7), (.v 9), (.v 10), (.v 11), (.v 12), (.v 14), (.v 15), (.v 16), (.v 17), (.v 19), (.v 20), (.v 21), (.v 22)] 5
      (.call 44 [(.v 4), (.v 5), (.v 6), (.v 7), (.v 9), (.v 10), (.v 11), (.v 12), (.v 14), (.v 15), (.v 16), (.v 17), (.v 19), (.v 20), (.v 21), (.v 22)] 5
      (.ite (.and (.nz (.v 36)) (.or (.or (.or (.lt (.v 32) (.sub (.v 5) (.v 7))) (.lt (.add (.v 5) (.v 7)) (.v 34))) (.lt (.v 33) (.sub (.v 6) (.v 7)))) (.lt (.add (.v 6) (.v 7)) (.v 35))))
       (.leaf ((.bool (.lit false)), [], []))
       (.ite (.or (.or (.or (.lt (.sub (.v 5) (.v 7)) (.v 37)) (.lt (.v 39) (.add (.v 5) (.v 7)))) (.lt (.sub (.v 6) (.v 7)) (.v 38))) (.lt (.v 40) (.add (.v 6) (.v 7))))
        (.leaf ((.bool (.lit false)), [], []))
        (.ite (.and (.nz (.v 36)) (.or (.or (.or (.lt (.v 32) (.sub (.v 10) (.v 12))) (.lt (.add (.v 10) (.v 12)) (.v 34))) (.lt (.v 33) (.sub (.v 11) (.v 12)))) (.lt (.add (.v 11) (.v 12)) (.v 35))))
         (.leaf ((.bool (.lit false)), [], []))
         (.ite (.or (.or (.or (.lt (.sub (.v 10) (.v 12)) (.v 37)) (.lt (.v 39) (.add (.v 10) (.v 12)))) (.lt (.sub (.v 11) (.v 12)) (.v 38))) (.lt (.v 40) (.add (.v 11) (.v 12))))
          (.leaf ((.bool (.lit false)), [], []))
          (.ite (.and (.nz (.v 36)) (.or (.or (.or (.lt (.v 32) (.sub (.v 15) (.v 17))) (.lt (.add (.v 15) (.v 17)) (.v 34))) (.lt (.v 33) (.sub (.v 16) (.v 17)))) (.lt (.add (.v 16) (.v 17)) (.v 35))))
           (.leaf ((.bool (.lit false)), [], []))
           (.ite (.or (.or (.or (.lt (.sub (.v 15) (.v 17)) (.v 37)) (.lt (.v 39) (.add (.v 15) (.v 17)))) (.lt (.sub (.v 16) (.v 17)) (.v 38))) (.lt (.v 40) (.add (.v 16) (.v 17))))
            (.leaf ((.bool (.lit false)), [], []))
            (.ite (.and (.nz (.v 36)) (.or (.or (.or (.lt (.v 32) (.sub (.v 20) (.v 22))) (.lt (.add (.v 20) (.v 22)) (.v 34))) (.lt (.v 33) (.sub (.v 21) (.v 22)))) (.lt (.add (.v 21) (.v 22)) (.v 35))))
             (.leaf ((.bool (.lit false)), [], []))
             (.ite (.or (.or (.or (.lt (.sub (.v 20) (.v 22)) (.v 37)) (.lt (.v 39) (.add (.v 20) (.v 22)))) (.lt (.sub (.v 21) (.v 22)) (.v 38))) (.lt (.v 40) (.add (.v 21) (.v 22))))
              (.leaf ((.bool (.lit false)), [], []))
              (.call 24 [(.v 19), (.v 20), (.v 21), (.lit 7), (.v 14), (.v 15), (.v 16), (.lit 7), (.v 9), (.v 10), (.v 11), (.lit 7), (.v 4), (.v 5), (.v 6), (.lit 7)] 4
              (.call 16 [(.add (.add (.add (.add (.lit 0) (.v 20)) (.v 15)) (.v 10)) (.v 5)), (.lit 4)] 2
              (.ite (.eq (.v 42) (.v 46))
               (.call 10 [] 1
               (.leaf ((.bool (.lit true)), [], []))
               )
               (.leaf ((.bool (.lit false)), [], []))
              )
              )
              )
             )
            )
           )
          )
         )
        )
       )
      )
      )
      )
     )
     )
     )
    )
    )
    (.call 23 [(.v 4), (.v 5), (.v 6), (.v 7), (.v 9), (.v 10), (.v 11), (.v 12), (.v 14), (.v 15), (.v 16), (.v 17)] 4
    (.call 23 [(.v 14), (.v 15), (.v 16), (.v 17), (.v 9), (.v 10), (.v 11), (.v 12), (.v 4), (.v 5), (.v 6), (.v 7)] 4
    (.ite (.or (.or (.or (.or (.or (.not (.and (.eq (.v 19) (.v 23)) (.eq (.v 20) (.v 24)))) (.not (.eq (.v 21) (.v 25)))) (.lt (.v 19) (.mn (.mn (.mn (.v 5) (.v 15)) (.v 10)) (.v 5)))) (.lt (.mx (.mx (.mx (.v 5) (.v 15)) (.v 10)) (.v 5)) (.v 19))) (.lt (.v 20) (.mn (.mn (.mn (.v 6) (.v 16)) (.v 11)) (.v 6)))) (.lt (.mx (.mx (.mx (.v 6) (.v 16)) (.v 11)) (.v 6)) (.v 20)))
     (.leaf ((.bool (.lit false)), [], []))
     (.call 33 [(.v 4), (.v 5), (.v 6), (.v 7), (.v 9), (.v 10), (.v 11), (.v 12), (.v 14), (.v 15), (.v 16), (.v 17)] 5
     (.call 43 [(.v 4), (.v 5), (.v 6), (.v 7), (.v 9), (.v 10), (.v 11), (.v 12), (.v 14), (.v 15), (.v 16), (.v 17)] 5
     (.ite (.and (.nz (.v 31)) (.or (.or (.or (.lt (.v 27) (.sub (.v 5) (.v 7))) (.lt (.add (.v 5) (.v 7)) (.v 29))) (.lt (.v 28) (.sub (.v 6) (.v 7)))) (.lt (.add (.v 6) (.v 7)) (.v 30))))
      (.leaf ((.bool (.lit false)), [], []))
      (.ite (.or (.or (.or (.lt (.sub (.v 5) (.v 7)) (.v 32)) (.lt (.v 34) (.add (.v 5) (.v 7)))) (.lt (.sub (.v 6) (.v 7)) (.v 33))) (.lt (.v 35) (.add (.v 6) (.v 7))))
       (.leaf ((.bool (.lit false)), [], []))
       (.ite (.and (.nz (.v 31)) (.or (.or (.or (.lt (.v 27) (.sub (.v 10) (.v 12))) (.lt (.add (.v 10) (.v 12)) (.v 29))) (.lt (.v 28) (.sub (.v 11) (.v 12)))) (.lt (.add (.v 11) (.v 12)) (.v 30))))
        (.leaf ((.bool (.lit false)), [], []))
        (.ite (.or (.or (.or (.lt (.sub (.v 10) (.v 12)) (.v 32)) (.lt (.v 34) (.add (.v 10) (.v 12)))) (.lt (.sub (.v 11) (.v 12)) (.v 33))) (.lt (.v 35) (.add (.v 11) (.v 12))))
         (.leaf ((.bool (.lit false)), [], []))
         (.ite (.and (.nz (.v 31)) (.or (.or (.or (.lt (.v 27) (.sub (.v 15) (.v 17))) (.lt (.add (.v 15) (.v 17)) (.v 29))) (.lt (.v 28) (.sub (.v 16) (.v 17)))) (.lt (.add (.v 16) (.v 17)) (.v 30))))
          (.leaf ((.bool (.lit false)), [], []))
          (.ite (.or (.or (.or (.lt (.sub (.v 15) (.v 17)) (.v 32)) (.lt (.v 34) (.add (.v 15) (.v 17)))) (.lt (.sub (.v 16) (.v 17)) (.v 33))) (.lt (.v 35) (.add (.v 16) (.v 17))))
           (.leaf ((.bool (.lit false)), [], []))
           (.call 23 [(.v 14), (.v 15), (.v 16), (.lit 7), (.v 9), (.v 10), (.v 11), (.lit 7), (.v 4), (.v 5), (.v 6), (.lit 7)] 4
           (.call 16 [(.add (.add (.add (.lit 0) (.v 15)) (.v 10)) (.v 5)), (.lit 3)] 2
           (.ite (.eq (.v 37) (.v 41))
            (.call 10 [] 1
            (.leaf ((.bool (.lit true)), [], []))
            )
            (.leaf ((.bool (.lit false)), [], []))
           )
           )
           )
          )
         )
        )
       )
      )
     )
     )
     )
    )
    )
    )
   )
   )
   (.call 22 [(.v 4), (.v 5), (.v 6), (.v 7), (.v 9), (.v 10), (.v 11), (.v 12)] 4
   (.call 22 [(.v 9), (.v 10), (.v 11), (.v 12), (.v 4), (.v 5), (.v 6), (.v 7)] 4
   (.ite (.or (.or (.or (.or (.or (.not (.and (.eq (.v 14) (.v 18)) (.eq (.v 15) (.v 19)))) (.not (.eq (.v 16) (.v 20)))) (.lt (.v 14) (.mn (.mn (.v 5) (.v 10)) (.v 5)))) (.lt (.mx (.mx (.v 5) (.v 10)) (.v 5)) (.v 14))) (.lt (.v 15) (.mn (.mn (.v 6) (.v 11)) (.v 6)))) (.lt (.mx (.mx (.v 6) (.v 11)) (.v 6)) (.v 15)))
    (.leaf ((.bool (.lit false)), [], []))
    (.call 32 [(.v 4), (.v 5), (.v 6), (.v 7), (.v 9), (.v 10), (.v 11), (.v 12)] 5
    (.call 42 [(.v 4), (.v 5), (.v 6), (.v 7), (.v 9), (.v 10), (.v 11), (.v 12)] 5
    (.ite (.and (.nz (.v 26)) (.or (.or (.or (.lt (.v 22) (.sub (.v 5) (.v 7))) (.lt (.add (.v 5) (.v 7)) (.v 24))) (.lt (.v 23) (.sub (.v 6) (.v 7)))) (.lt (.add (.v 6) (.v 7)) (.v 25))))
     (.leaf ((.bool (.lit false)), [], []))
     (.ite (.or (.or (.or (.lt (.sub (.v 5) (.v 7)) (.v 27)) (.lt (.v 29) (.add (.v 5) (.v 7)))) (.lt (.sub (.v 6) (.v 7)) (.v 28))) (.lt (.v 30) (.add (.v 6) (.v 7))))
      (.leaf ((.bool (.lit false)), [], []))
      (.ite (.and (.nz (.v 26)) (.or (.or (.or (.lt (.v 22) (.sub (.v 10) (.v 12))) (.lt (.add (.v 10) (.v 12)) (.v 24))) (.lt (.v 23) (.sub (.v 11) (.v 12)))) (.lt (.add (.v 11) (.v 12)) (.v 25))))
       (.leaf ((.bool (.lit false)), [], []))
       (.ite (.or (.or (.or (.lt (.sub (.v 10) (.v 12)) (.v 27)) (.lt (.v 29) (.add (.v 10) (.v 12)))) (.lt (.sub (.v 11) (.v 12)) (.v 28))) (.lt (.v 30) (.add (.v 11) (.v 12))))
        (.leaf ((.bool (.lit false)), [], []))
        (.call 22 [(.v 9), (.v 10), (.v 11), (.lit 7), (.v 4), (.v 5), (.v 6), (.lit 7)] 4
        (.call 16 [(.add (.add (.lit 0) (.v 10)) (.v 5)), (.lit 2)] 2
        (.ite (.eq (.v 32) (.v 36))
         (.call 10 [] 1
         (.leaf ((.bool (.lit true)), [], []))
         )
         (.leaf ((.bool (.lit false)), [], []))
        )
        )
        )
       )
      )
     )
    )
    )
    )
   )
   )
   )
  )
  )
  (.call 21 [(.v 4), (.v 5), (.v 6), (.v 7)] 4
  (.ite (.or (.or (.or (.lt (.v 9) (.mn (.v 5) (.v 5))) (.lt (.mx (.v 5) (.v 5)) (.v 9))) (.lt (.v 10) (.mn (.v 6) (.v 6)))) (.lt (.mx (.v 6) (.v 6)) (.v 10)))
   (.leaf ((.bool (.lit false)), [], []))
   (.call 31 [(.v 4), (.v 5), (.v 6), (.v 7)] 5
   (.call 41 [(.v 4), (.v 5), (.v 6), (.v 7)] 5
   (.ite (.and (.nz (.v 17)) (.or (.or (.or (.lt (.v 13) (.sub (.v 5) (.v 7))) (.lt (.add (.v 5) (.v 7)) (.v 15))) (.lt (.v 14) (.sub (.v 6) (.v 7)))) (.lt (.add (.v 6) (.v 7)) (.v 16))))
    (.leaf ((.bool (.lit false)), [], []))
    (.ite (.or (.or (.or (.lt (.sub (.v 5) (.v 7)) (.v 18)) (.lt (.v 20) (.add (.v 5) (.v 7)))) (.lt (.sub (.v 6) (.v 7)) (.v 19))) (.lt (.v 21) (.add (.v 6) (.v 7))))
     (.leaf ((.bool (.lit false)), [], []))
     (.call 21 [(.v 4), (.v 5), (.v 6), (.lit 7)] 4
     (.call 16 [(.add (.lit 0) (.v 5)), (.lit 1)] 2
     (.ite (.eq (.v 23) (.v 27))
      (.call 10 [] 1
      (.leaf ((.bool (.lit true)), [], []))
      )
      (.leaf ((.bool (.lit false)), [], []))
     )
     )
     )
    )
   )
   )
   )
  )
  )
 )
 )
 (.call 10 [] 1
 (.leaf ((.bool (.lit true)), [], []))
 )
)
)
theorem root_chk : (clL (shsW SS + 2) (ltB ([] : Blks).length) (.sls 0 (.v 0) (.v 1) :: shsS SS 2) && clBs (shsW SS + 2) (ltB ([] : Blks).length) [] && clFx (shsW SS + 2) (rowFx (rngE 2 (ksRg (shsKs SS))))) = true := by kernel_rfl
theorem root_fn : LP.funcs[LG]? = some fn0 := by kernel_rfl
theorem root_body : fn0.body = some (fn0.body.getD .skip) := by kernel_rfl
theorem root_st : ({ t := (.sls 0 (.v 0) (.v 1) :: shsS SS 2) ++ List.replicate (fn0.ntmps - (.sls 0 (.v 0) (.v 1) :: shsS SS 2 : List SV).length) .undef, b := [], fx := rowFx (rngE 2 (ksRg (shsKs SS))), n := shsW SS + 2, wd := [], cs := [] } : St) = st0 := by kernel_rfl
theorem root_tree : tr0 = tree := by kernel_rfl
theorem root_ct : ct0 = .go (fn0.body.getD .skip) 0 [] := rfl
theorem root_at : (at_ LP LC LF (evD LP LC LF LD) LG LK (.go (fn0.body.getD .skip) 0 []) st0).strip = tree := (root_ct ▸ th0).trans root_tree
theorem tree_eq : (evFn Try.prog (rowCtxE (exL en45) [] hints) 60 12 6 (.sls 0 (.v 0) (.v 1) :: shsS SS 2) [] (rowFx (rngE 2 (ksRg (shsKs SS)))) (shsW SS + 2)).strip = tree :=
  evFn_at (P := LP) (C := LC) (F := LF) (d := LD) (f := LG) (fn := fn0) root_chk root_fn root_body root_st root_at
def JJ : Nat → List Int → List Int → Prop := fun _ _ _ => True
theorem fix_c {l c : Int} {z : List Int} {g : Nat → List Int → List Int} (hg : EnOK g l c z en45) {J : Nat → List Int → List Int → Prop} {ρ : List Int} {es : List E} {u : T Leaf}
    (h : ∀ t x y e p : Int, -30 ≤ x → x ≤ 1000 → -20 ≤ y → y ≤ 5 → 1 ≤ e → e ≤ 200 → T.okJ J g LTrue (ρ ++ [t, x, y, e, p]) u) : T.okJ J g LTrue ρ (.call 11 es 5 u) := by
  have hr := rng_of (en25_16 (en45_25 hg)).2.2.2.2.2.1 t_fix_chk rfl rfl (es.map (den ρ))
  refine okJ_call (by decide) ?_
  have e : fit 5 (g 11 (es.map (den ρ))) = [(g 11 (es.map (den ρ))).getD 0 0, (g 11 (es.map (den ρ))).getD 1 0, (g 11 (es.map (den ρ))).getD 2 0, (g 11 (es.map (den ρ))).getD 3 0, (g 11 (es.map (den ρ))).getD 4 0] := rfl
  rw [e]
  have r1 := RngOK_get hr 1 (-30) 1000 rfl
  have r2 := RngOK_get hr 2 (-20) 5 rfl
  have r3 := RngOK_get hr 3 1 200 rfl
  rw [show c_fix.key = 11 from rfl] at r1 r2 r3
  exact h _ _ _ _ _ r1.1 r1.2 r2.1 r2.2 r3.1 r3.2

set_option maxHeartbeats 4000000 in
theorem plain (l c : Int) (z : List Int) (g : Nat → List Int → List Int) (hg : EnOK g l c z en45) (hr : KsOK (shsKs SS) []) : T.okJ JJ g LTrue [l, c] tree := by
  unfold tree
  refine okJ_src fun n p0 hn0 hn1 => ?_
  refine okJ_ite (fun _ => ?_) fun _ => ?_
  · refine fix_c hg fun t0 x0 y0 e0 p0_ hx0a hx0b hy0a hy0b he0a he0b => ?_
    refine okJ_ite (fun _ => ?_) fun _ => ?_
    · refine fix_c hg fun t1 x1 y1 e1 p1_ hx1a hx1b hy1a hy1b he1a he1b => ?_
      refine okJ_ite (fun _ => ?_) fun _ => ?_
      · refine fix_c hg fun t2 x2 y2 e2 p2_ hx2a hx2b hy2a hy2b he2a he2b => ?_
        refine okJ_ite (fun _ => ?_) fun _ => ?_
        · refine fix_c hg fun t3 x3 y3 e3 p3_ hx3a hx3b hy3a hy3b he3a he3b => ?_
          refine okJ_ite (fun _ => ?_) fun _ => ?_
          · refine fix_c hg fun t4 x4 y4 e4 p4_ hx4a hx4b hy4a hy4b he4a he4b => ?_
            refine okJ_c4 (by decide) fun mx my b z4 epx epy epb epz => ?_
            have epx : mx = (g 25 [t0, x0, y0, e0, t1, x1, y1, e1, t2, x2, y2, e2, t3, x3, y3, e3, t4, x4, y4, e4]).getD 0 0 := epx
            have epy : my = (g 25 [t0, x0, y0, e0, t1, x1, y1, e1, t2, x2, y2, e2, t3, x3, y3, e3, t4, x4, y4, e4]).getD 1 0 := epy
            have epb : b = (g 25 [t0, x0, y0, e0, t1, x1, y1, e1, t2, x2, y2, e2, t3, x3, y3, e3, t4, x4, y4, e4]).getD 2 0 := epb
            rw [fuse5 (en45_25 hg) (by omega) (by omega) (by omega) (by omega) (by omega) (by omega) (by omega) (by omega) (by omega) (by omega)] at epx epy epb
            have epx : mx = mean5 e0 e1 e2 e3 e4 x0 x1 x2 x3 x4 := epx
            have epy : my = mean5 e0 e1 e2 e3 e4 y0 y1 y2 y3 y4 := epy
            have epb : b = bnd5 (mean5 e0 e1 e2 e3 e4 x0 x1 x2 x3 x4) (mean5 e0 e1 e2 e3 e4 y0 y1 y2 y3 y4) x0 y0 e0 x1 y1 e1 x2 y2 e2 x3 y3 e3 x4 y4 e4 := epb
            refine okJ_c4 (by decide) fun nx ny d w4 eqx eqy eqb eqz => ?_
            have eqx : nx = (g 25 [t4, x4, y4, e4, t3, x3, y3, e3, t2, x2, y2, e2, t1, x1, y1, e1, t0, x0, y0, e0]).getD 0 0 := eqx
            have eqy : ny = (g 25 [t4, x4, y4, e4, t3, x3, y3, e3, t2, x2, y2, e2, t1, x1, y1, e1, t0, x0, y0, e0]).getD 1 0 := eqy
            have eqb : d = (g 25 [t4, x4, y4, e4, t3, x3, y3, e3, t2, x2, y2, e2, t1, x1, y1, e1, t0, x0, y0, e0]).getD 2 0 := eqb
            rw [fuse5 (en45_25 hg) (by omega) (by omega) (by omega) (by omega) (by omega) (by omega) (by omega) (by omega) (by omega) (by omega)] at eqx eqy eqb
            have eqx : nx = mean5 e4 e3 e2 e1 e0 x4 x3 x2 x1 x0 := eqx
            have eqy : ny = mean5 e4 e3 e2 e1 e0 y4 y3 y2 y1 y0 := eqy
            have eqb : d = bnd5 (mean5 e4 e3 e2 e1 e0 x4 x3 x2 x1 x0) (mean5 e4 e3 e2 e1 e0 y4 y3 y2 y1 y0) x4 y4 e4 x3 y3 e3 x2 y2 e2 x1 y1 e1 x0 y0 e0 := eqb
            rw [mean5_rev e0 e1 e2 e3 e4 x0 x1 x2 x3 x4, ← epx] at eqx
            rw [mean5_rev e0 e1 e2 e3 e4 y0 y1 y2 y3 y4, ← epy] at eqy
            rw [mean5_rev e0 e1 e2 e3 e4 x0 x1 x2 x3 x4, mean5_rev e0 e1 e2 e3 e4 y0 y1 y2 y3 y4, bnd5_rev _ _ x0 y0 e0 x1 y1 e1 x2 y2 e2 x3 y3 e3 x4 y4 e4, ← epb] at eqb
            have eqx := eqx.symm
            have eqy := eqy.symm
            have eqb := eqb.symm
            subst eqx; subst eqy; subst eqb
            clear epb
            have nx4_0 := mnz_l x0 x4
            have mx4_0 := mnz_r x0 x4
            have gx4_0 := mxz_l x0 x4
            have hx4_0 := mxz_r x0 x4
            have nx3_1 := mnz_l (mnz x0 x4) x3
            have mx3_1 := mnz_r (mnz x0 x4) x3
            have gx3_1 := mxz_l (mxz x0 x4) x3
            have hx3_1 := mxz_r (mxz x0 x4) x3
            have nx2_2 := mnz_l (mnz (mnz x0 x4) x3) x2
            have mx2_2 := mnz_r (mnz (mnz x0 x4) x3) x2
            have gx2_2 := mxz_l (mxz (mxz x0 x4) x3) x2
            have hx2_2 := mxz_r (mxz (mxz x0 x4) x3) x2
            have nx1_3 := mnz_l (mnz (mnz (mnz x0 x4) x3) x2) x1
            have mx1_3 := mnz_r (mnz (mnz (mnz x0 x4) x3) x2) x1
            have gx1_3 := mxz_l (mxz (mxz (mxz x0 x4) x3) x2) x1
            have hx1_3 := mxz_r (mxz (mxz (mxz x0 x4) x3) x2) x1
            have nx0_4 := mnz_l (mnz (mnz (mnz (mnz x0 x4) x3) x2) x1) x0
            have mx0_4 := mnz_r (mnz (mnz (mnz (mnz x0 x4) x3) x2) x1) x0
            have gx0_4 := mxz_l (mxz (mxz (mxz (mxz x0 x4) x3) x2) x1) x0
            have hx0_4 := mxz_r (mxz (mxz (mxz (mxz x0 x4) x3) x2) x1) x0
            have lox : (mnz (mnz (mnz (mnz (mnz x0 x4) x3) x2) x1) x0) ≤ mx := by rw [epx]; exact mean5_lo e0 e1 e2 e3 e4 (by omega) (by omega) (by omega) (by omega) (by omega)
            have hix : mx ≤ (mxz (mxz (mxz (mxz (mxz x0 x4) x3) x2) x1) x0) := by rw [epx]; exact mean5_hi e0 e1 e2 e3 e4 (by omega) (by omega) (by omega) (by omega) (by omega)
            have ny4_0 := mnz_l y0 y4
            have my4_0 := mnz_r y0 y4
            have gy4_0 := mxz_l y0 y4
            have hy4_0 := mxz_r y0 y4
            have ny3_1 := mnz_l (mnz y0 y4) y3
            have my3_1 := mnz_r (mnz y0 y4) y3
            have gy3_1 := mxz_l (mxz y0 y4) y3
            have hy3_1 := mxz_r (mxz y0 y4) y3
            have ny2_2 := mnz_l (mnz (mnz y0 y4) y3) y2
            have my2_2 := mnz_r (mnz (mnz y0 y4) y3) y2
            have gy2_2 := mxz_l (mxz (mxz y0 y4) y3) y2
            have hy2_2 := mxz_r (mxz (mxz y0 y4) y3) y2
            have ny1_3 := mnz_l (mnz (mnz (mnz y0 y4) y3) y2) y1
            have my1_3 := mnz_r (mnz (mnz (mnz y0 y4) y3) y2) y1
            have gy1_3 := mxz_l (mxz (mxz (mxz y0 y4) y3) y2) y1
            have hy1_3 := mxz_r (mxz (mxz (mxz y0 y4) y3) y2) y1
            have ny0_4 := mnz_l (mnz (mnz (mnz (mnz y0 y4) y3) y2) y1) y0
            have my0_4 := mnz_r (mnz (mnz (mnz (mnz y0 y4) y3) y2) y1) y0
            have gy0_4 := mxz_l (mxz (mxz (mxz (mxz y0 y4) y3) y2) y1) y0
            have hy0_4 := mxz_r (mxz (mxz (mxz (mxz y0 y4) y3) y2) y1) y0
            have loy : (mnz (mnz (mnz (mnz (mnz y0 y4) y3) y2) y1) y0) ≤ my := by rw [epy]; exact mean5_lo e0 e1 e2 e3 e4 (by omega) (by omega) (by omega) (by omega) (by omega)
            have hiy : my ≤ (mxz (mxz (mxz (mxz (mxz y0 y4) y3) y2) y1) y0) := by rw [epy]; exact mean5_hi e0 e1 e2 e3 e4 (by omega) (by omega) (by omega) (by omega) (by omega)
            refine okJ_ite (fun h => ?_) fun _ => ?_
            · exfalso
              have h : (((((!((decide (mx = mx) && decide (my = my))) || !(decide (b = b))) || decide (mx < (mnz (mnz (mnz (mnz (mnz x0 x4) x3) x2) x1) x0))) || decide ((mxz (mxz (mxz (mxz (mxz x0 x4) x3) x2) x1) x0) < mx)) || decide (my < (mnz (mnz (mnz (mnz (mnz y0 y4) y3) y2) y1) y0))) || decide ((mxz (mxz (mxz (mxz (mxz y0 y4) y3) y2) y1) y0) < my)) = true := h
              simp only [Bool.or_eq_true, Bool.and_eq_true, Bool.not_eq_true', decide_eq_true_eq, decide_eq_false_iff_not, Bool.and_eq_false_iff, true_and, and_true, not_true_eq_false, false_or, or_false, Bool.and_eq_false_imp, decide_true, Bool.and_self, Bool.true_eq_false, Bool.false_eq_true] at h
              omega
            refine okJ_cL (by decide) fun ru hru => ?_
            have hru : ru = fit 5 (g 35 [t0, x0, y0, e0, t1, x1, y1, e1, t2, x2, y2, e2, t3, x3, y3, e3, t4, x4, y4, e4]) := hru
            have eru : ru = [(g 35 [t0, x0, y0, e0, t1, x1, y1, e1, t2, x2, y2, e2, t3, x3, y3, e3, t4, x4, y4, e4]).getD 0 0, (g 35 [t0, x0, y0, e0, t1, x1, y1, e1, t2, x2, y2, e2, t3, x3, y3, e3, t4, x4, y4, e4]).getD 1 0, (g 35 [t0, x0, y0, e0, t1, x1, y1, e1, t2, x2, y2, e2, t3, x3, y3, e3, t4, x4, y4, e4]).getD 2 0, (g 35 [t0, x0, y0, e0, t1, x1, y1, e1, t2, x2, y2, e2, t3, x3, y3, e3, t4, x4, y4, e4]).getD 3 0, (g 35 [t0, x0, y0, e0, t1, x1, y1, e1, t2, x2, y2, e2, t3, x3, y3, e3, t4, x4, y4, e4]).getD 4 0] := hru
            have hu := common5_ok hg (r := g 35 [t0, x0, y0, e0, t1, x1, y1, e1, t2, x2, y2, e2, t3, x3, y3, e3, t4, x4, y4, e4]) rfl
            generalize (g 35 [t0, x0, y0, e0, t1, x1, y1, e1, t2, x2, y2, e2, t3, x3, y3, e3, t4, x4, y4, e4]).getD 0 0 = ux, (g 35 [t0, x0, y0, e0, t1, x1, y1, e1, t2, x2, y2, e2, t3, x3, y3, e3, t4, x4, y4, e4]).getD 1 0 = uy, (g 35 [t0, x0, y0, e0, t1, x1, y1, e1, t2, x2, y2, e2, t3, x3, y3, e3, t4, x4, y4, e4]).getD 2 0 = vx, (g 35 [t0, x0, y0, e0, t1, x1, y1, e1, t2, x2, y2, e2, t3, x3, y3, e3, t4, x4, y4, e4]).getD 3 0 = vy, (g 35 [t0, x0, y0, e0, t1, x1, y1, e1, t2, x2, y2, e2, t3, x3, y3, e3, t4, x4, y4, e4]).getD 4 0 = ok at eru hu
            clear hru
            subst eru
            refine okJ_cL (by decide) fun rv hrv => ?_
            have hrv : rv = fit 5 (g 45 [t0, x0, y0, e0, t1, x1, y1, e1, t2, x2, y2, e2, t3, x3, y3, e3, t4, x4, y4, e4]) := hrv
            have erv : rv = [(g 45 [t0, x0, y0, e0, t1, x1, y1, e1, t2, x2, y2, e2, t3, x3, y3, e3, t4, x4, y4, e4]).getD 0 0, (g 45 [t0, x0, y0, e0, t1, x1, y1, e1, t2, x2, y2, e2, t3, x3, y3, e3, t4, x4, y4, e4]).getD 1 0, (g 45 [t0, x0, y0, e0, t1, x1, y1, e1, t2, x2, y2, e2, t3, x3, y3, e3, t4, x4, y4, e4]).getD 2 0, (g 45 [t0, x0, y0, e0, t1, x1, y1, e1, t2, x2, y2, e2, t3, x3, y3, e3, t4, x4, y4, e4]).getD 3 0, (g 45 [t0, x0, y0, e0, t1, x1, y1, e1, t2, x2, y2, e2, t3, x3, y3, e3, t4, x4, y4, e4]).getD 4 0] := hrv
            have hv := hull5_ok hg (r := g 45 [t0, x0, y0, e0, t1, x1, y1, e1, t2, x2, y2, e2, t3, x3, y3, e3, t4, x4, y4, e4]) rfl
            generalize (g 45 [t0, x0, y0, e0, t1, x1, y1, e1, t2, x2, y2, e2, t3, x3, y3, e3, t4, x4, y4, e4]).getD 0 0 = gx, (g 45 [t0, x0, y0, e0, t1, x1, y1, e1, t2, x2, y2, e2, t3, x3, y3, e3, t4, x4, y4, e4]).getD 1 0 = gy, (g 45 [t0, x0, y0, e0, t1, x1, y1, e1, t2, x2, y2, e2, t3, x3, y3, e3, t4, x4, y4, e4]).getD 2 0 = hx, (g 45 [t0, x0, y0, e0, t1, x1, y1, e1, t2, x2, y2, e2, t3, x3, y3, e3, t4, x4, y4, e4]).getD 3 0 = hy, (g 45 [t0, x0, y0, e0, t1, x1, y1, e1, t2, x2, y2, e2, t3, x3, y3, e3, t4, x4, y4, e4]).getD 4 0 = is at erv hv
            clear hrv
            subst erv
            refine okJ_ite (fun h => ?_) fun _ => ?_
            · exfalso
              have h : (decide (ok ≠ 0) && (((decide (ux < (x0 - e0)) || decide ((x0 + e0) < vx)) || decide (uy < (y0 - e0))) || decide ((y0 + e0) < vy))) = true := h
              simp only [Bool.or_eq_true, Bool.and_eq_true, Bool.not_eq_true', decide_eq_true_eq, decide_eq_false_iff_not, Bool.and_eq_false_iff, true_and, and_true, not_true_eq_false, false_or, or_false, Bool.and_eq_false_imp, decide_true, Bool.and_self, Bool.true_eq_false, Bool.false_eq_true] at h
              omega
            refine okJ_ite (fun h => ?_) fun _ => ?_
            · exfalso
              have h : (((decide ((x0 - e0) < gx) || decide (hx < (x0 + e0))) || decide ((y0 - e0) < gy)) || decide (hy < (y0 + e0))) = true := h
              simp only [Bool.or_eq_true, Bool.and_eq_true, Bool.not_eq_true', decide_eq_true_eq, decide_eq_false_iff_not, Bool.and_eq_false_iff, true_and, and_true, not_true_eq_false, false_or, or_false, Bool.and_eq_false_imp, decide_true, Bool.and_self, Bool.true_eq_false, Bool.false_eq_true] at h
              omega
            refine okJ_ite (fun h => ?_) fun _ => ?_
            · exfalso
              have h : (decide (ok ≠ 0) && (((decide (ux < (x1 - e1)) || decide ((x1 + e1) < vx)) || decide (uy < (y1 - e1))) || decide ((y1 + e1) < vy))) = true := h
              simp only [Bool.or_eq_true, Bool.and_eq_true, Bool.not_eq_true', decide_eq_true_eq, decide_eq_false_iff_not, Bool.and_eq_false_iff, true_and, and_true, not_true_eq_false, false_or, or_false, Bool.and_eq_false_imp, decide_true, Bool.and_self, Bool.true_eq_false, Bool.false_eq_true] at h
              omega
            refine okJ_ite (fun h => ?_) fun _ => ?_
            · exfalso
              have h : (((decide ((x1 - e1) < gx) || decide (hx < (x1 + e1))) || decide ((y1 - e1) < gy)) || decide (hy < (y1 + e1))) = true := h
              simp only [Bool.or_eq_true, Bool.and_eq_true, Bool.not_eq_true', decide_eq_true_eq, decide_eq_false_iff_not, Bool.and_eq_false_iff, true_and, and_true, not_true_eq_false, false_or, or_false, Bool.and_eq_false_imp, decide_true, Bool.and_self, Bool.true_eq_false, Bool.false_eq_true] at h
              omega
            refine okJ_ite (fun h => ?_) fun _ => ?_
            · exfalso
              have h : (decide (ok ≠ 0) && (((decide (ux < (x2 - e2)) || decide ((x2 + e2) < vx)) || decide (uy < (y2 - e2))) || decide ((y2 + e2) < vy))) = true := h
              simp only [Bool.or_eq_true, Bool.and_eq_true, Bool.not_eq_true', decide_eq_true_eq, decide_eq_false_iff_not, Bool.and_eq_false_iff, true_and, and_true, not_true_eq_false, false_or, or_false, Bool.and_eq_false_imp, decide_true, Bool.and_self, Bool.true_eq_false, Bool.false_eq_true] at h
              omega
            refine okJ_ite (fun h => ?_) fun _ => ?_
            · exfalso
              have h : (((decide ((x2 - e2) < gx) || decide (hx < (x2 + e2))) || decide ((y2 - e2) < gy)) || decide (hy < (y2 + e2))) = true := h
              simp only [Bool.or_eq_true, Bool.and_eq_true, Bool.not_eq_true', decide_eq_true_eq, decide_eq_false_iff_not, Bool.and_eq_false_iff, true_and, and_true, not_true_eq_false, false_or, or_false, Bool.and_eq_false_imp, decide_true, Bool.and_self, Bool.true_eq_false, Bool.false_eq_true] at h
              omega
            refine okJ_ite (fun h => ?_) fun _ => ?_
            · exfalso
              have h : (decide (ok ≠ 0) && (((decide (ux < (x3 - e3)) || decide ((x3 + e3) < vx)) || decide (uy < (y3 - e3))) || decide ((y3 + e3) < vy))) = true := h
              simp only [Bool.or_eq_true, Bool.and_eq_true, Bool.not_eq_true', decide_eq_true_eq, decide_eq_false_iff_not, Bool.and_eq_false_iff, true_and, and_true, not_true_eq_false, false_or, or_false, Bool.and_eq_false_imp, decide_true, Bool.and_self, Bool.true_eq_false, Bool.false_eq_true] at h
              omega
            refine okJ_ite (fun h => ?_) fun _ => ?_
            · exfalso
              have h : (((decide ((x3 - e3) < gx) || decide (hx < (x3 + e3))) || decide ((y3 - e3) < gy)) || decide (hy < (y3 + e3))) = true := h
              simp only [Bool.or_eq_true, Bool.and_eq_true, Bool.not_eq_true', decide_eq_true_eq, decide_eq_false_iff_not, Bool.and_eq_false_iff, true_and, and_true, not_true_eq_false, false_or, or_false, Bool.and_eq_false_imp, decide_true, Bool.and_self, Bool.true_eq_false, Bool.false_eq_true] at h
              omega
            refine okJ_ite (fun h => ?_) fun _ => ?_
            · exfalso
              have h : (decide (ok ≠ 0) && (((decide (ux < (x4 - e4)) || decide ((x4 + e4) < vx)) || decide (uy < (y4 - e4))) || decide ((y4 + e4) < vy))) = true := h
              simp only [Bool.or_eq_true, Bool.and_eq_true, Bool.not_eq_true', decide_eq_true_eq, decide_eq_false_iff_not, Bool.and_eq_false_iff, true_and, and_true, not_true_eq_false, false_or, or_false, Bool.and_eq_false_imp, decide_true, Bool.and_self, Bool.true_eq_false, Bool.false_eq_true] at h
              omega
            refine okJ_ite (fun h => ?_) fun _ => ?_
            · exfalso
              have h : (((decide ((x4 - e4) < gx) || decide (hx < (x4 + e4))) || decide ((y4 - e4) < gy)) || decide (hy < (y4 + e4))) = true := h
              simp only [Bool.or_eq_true, Bool.and_eq_true, Bool.not_eq_true', decide_eq_true_eq, decide_eq_false_iff_not, Bool.and_eq_false_iff, true_and, and_true, not_true_eq_false, false_or, or_false, Bool.and_eq_false_imp, decide_true, Bool.and_self, Bool.true_eq_false, Bool.false_eq_true] at h
              omega
            refine okJ_c4 (by decide) fun sx sy sb sz esx _ _ _ => ?_
            have esx : sx = (g 25 [t4, x4, y4, 7, t3, x3, y3, 7, t2, x2, y2, 7, t1, x1, y1, 7, t0, x0, y0, 7]).getD 0 0 := esx
            rw [fuse5 (en45_25 hg) (by omega) (by omega) (by omega) (by omega) (by omega) (by omega) (by omega) (by omega) (by omega) (by omega)] at esx
            have esx : sx = mean5 7 7 7 7 7 x4 x3 x2 x1 x0 := esx
            rw [mean5_same] at esx
            refine okJ_c2 (by decide) fun want z5 ew _ => ?_
            have ew : want = (g 16 [0 + x4 + x3 + x2 + x1 + x0, 5]).getD 0 0 := ew
            rw [g16 (en25_16 (en45_25 hg)) (by omega)] at ew
            have ew : want = halfZ (0 + x4 + x3 + x2 + x1 + x0) 5 := ew
            refine okJ_ite (fun _ => okJ_c1 (by decide) fun _ _ => rfl) fun h => ?_
            exfalso
            have h : decide (sx = want) = false := h
            rw [esx, ew] at h
            simp at h
          · refine okJ_c4 (by decide) fun mx my b z4 epx epy epb epz => ?_
            have epx : mx = (g 24 [t0, x0, y0, e0, t1, x1, y1, e1, t2, x2, y2, e2, t3, x3, y3, e3]).getD 0 0 := epx
            have epy : my = (g 24 [t0, x0, y0, e0, t1, x1, y1, e1, t2, x2, y2, e2, t3, x3, y3, e3]).getD 1 0 := epy
            have epb : b = (g 24 [t0, x0, y0, e0, t1, x1, y1, e1, t2, x2, y2, e2, t3, x3, y3, e3]).getD 2 0 := epb
            rw [fuse4 (en45_25 hg) (by omega) (by omega) (by omega) (by omega) (by omega) (by omega) (by omega) (by omega)] at epx epy epb
            have epx : mx = mean4 e0 e1 e2 e3 x0 x1 x2 x3 := epx
            have epy : my = mean4 e0 e1 e2 e3 y0 y1 y2 y3 := epy
            have epb : b = bnd4 (mean4 e0 e1 e2 e3 x0 x1 x2 x3) (mean4 e0 e1 e2 e3 y0 y1 y2 y3) x0 y0 e0 x1 y1 e1 x2 y2 e2 x3 y3 e3 := epb
            refine okJ_c4 (by decide) fun nx ny d w4 eqx eqy eqb eqz => ?_
            have eqx : nx = (g 24 [t3, x3, y3, e3, t2, x2, y2, e2, t1, x1, y1, e1, t0, x0, y0, e0]).getD 0 0 := eqx
            have eqy : ny = (g 24 [t3, x3, y3, e3, t2, x2, y2, e2, t1, x1, y1, e1, t0, x0, y0, e0]).getD 1 0 := eqy
            have eqb : d = (g 24 [t3, x3, y3, e3, t2, x2, y2, e2, t1, x1, y1, e1, t0, x0, y0, e0]).getD 2 0 := eqb
            rw [fuse4 (en45_25 hg) (by omega) (by omega) (by omega) (by omega) (by omega) (by omega) (by omega) (by omega)] at eqx eqy eqb
            have eqx : nx = mean4 e3 e2 e1 e0 x3 x2 x1 x0 := eqx
            have eqy : ny = mean4 e3 e2 e1 e0 y3 y2 y1 y0 := eqy
            have eqb : d = bnd4 (mean4 e3 e2 e1 e0 x3 x2 x1 x0) (mean4 e3 e2 e1 e0 y3 y2 y1 y0) x3 y3 e3 x2 y2 e2 x1 y1 e1 x0 y0 e0 := eqb
            rw [mean4_rev e0 e1 e2 e3 x0 x1 x2 x3, ← epx] at eqx
            rw [mean4_rev e0 e1 e2 e3 y0 y1 y2 y3, ← epy] at eqy
            rw [mean4_rev e0 e1 e2 e3 x0 x1 x2 x3, mean4_rev e0 e1 e2 e3 y0 y1 y2 y3, bnd4_rev _ _ x0 y0 e0 x1 y1 e1 x2 y2 e2 x3 y3 e3, ← epb] at eqb
            have eqx := eqx.symm
            have eqy := eqy.symm
            have eqb := eqb.symm
            subst eqx; subst eqy; subst eqb
            clear epb
            have nx3_0 := mnz_l x0 x3
            have mx3_0 := mnz_r x0 x3
            have gx3_0 := mxz_l x0 x3
            have hx3_0 := mxz_r x0 x3
            have nx2_1 := mnz_l (mnz x0 x3) x2
            have mx2_1 := mnz_r (mnz x0 x3) x2
            have gx2_1 := mxz_l (mxz x0 x3) x2
            have hx2_1 := mxz_r (mxz x0 x3) x2
            have nx1_2 := mnz_l (mnz (mnz x0 x3) x2) x1
            have mx1_2 := mnz_r (mnz (mnz x0 x3) x2) x1
            have gx1_2 := mxz_l (mxz (mxz x0 x3) x2) x1
            have hx1_2 := mxz_r (mxz (mxz x0 x3) x2) x1
            have nx0_3 := mnz_l (mnz (mnz (mnz x0 x3) x2) x1) x0
            have mx0_3 := mnz_r (mnz (mnz (mnz x0 x3) x2) x1) x0
            have gx0_3 := mxz_l (mxz (mxz (mxz x0 x3) x2) x1) x0
            have hx0_3 := mxz_r (mxz (mxz (mxz x0 x3) x2) x1) x0
            have lox : (mnz (mnz (mnz (mnz x0 x3) x2) x1) x0) ≤ mx := by rw [epx]; exact mean4_lo e0 e1 e2 e3 (by omega) (by omega) (by omega) (by omega)
            have hix : mx ≤ (mxz (mxz (mxz (mxz x0 x3) x2) x1) x0) := by rw [epx]; exact mean4_hi e0 e1 e2 e3 (by omega) (by omega) (by omega) (by omega)
            have ny3_0 := mnz_l y0 y3
            have my3_0 := mnz_r y0 y3
            have gy3_0 := mxz_l y0 y3
            have hy3_0 := mxz_r y0 y3
            have ny2_1 := mnz_l (mnz y0 y3) y2
            have my2_1 := mnz_r (mnz y0 y3) y2
            have gy2_1 := mxz_l (mxz y0 y3) y2
            have hy2_1 := mxz_r (mxz y0 y3) y2
            have ny1_2 := mnz_l (mnz (mnz y0 y3) y2) y1
            have my1_2 := mnz_r (mnz (mnz y0 y3) y2) y1
            have gy1_2 := mxz_l (mxz (mxz y0 y3) y2) y1
            have hy1_2 := mxz_r (mxz (mxz y0 y3) y2) y1
            have ny0_3 := mnz_l (mnz (mnz (mnz y0 y3) y2) y1) y0
            have my0_3 := mnz_r (mnz (mnz (mnz y0 y3) y2) y1) y0
            have gy0_3 := mxz_l (mxz (mxz (mxz y0 y3) y2) y1) y0
            have hy0_3 := mxz_r (mxz (mxz (mxz y0 y3) y2) y1) y0
            have loy : (mnz (mnz (mnz (mnz y0 y3) y2) y1) y0) ≤ my := by rw [epy]; exact mean4_lo e0 e1 e2 e3 (by omega) (by omega) (by omega) (by omega)
            have hiy : my ≤ (mxz (mxz (mxz (mxz y0 y3) y2) y1) y0) := by rw [epy]; exact mean4_hi e0 e1 e2 e3 (by omega) (by omega) (by omega) (by omega)
            refine okJ_ite (fun h => ?_) fun _ => ?_
            · exfalso
              have h : (((((!((decide (mx = mx) && decide (my = my))) || !(decide (b = b))) || decide (mx < (mnz (mnz (mnz (mnz x0 x3) x2) x1) x0))) || decide ((mxz (mxz (mxz (mxz x0 x3) x2) x1) x0) < mx)) || decide (my < (mnz (mnz (mnz (mnz y0 y3) y2) y1) y0))) || decide ((mxz (mxz (mxz (mxz y0 y3) y2) y1) y0) < my)) = true := h
              simp only [Bool.or_eq_true, Bool.and_eq_true, Bool.not_eq_true', decide_eq_true_eq, decide_eq_false_iff_not, Bool.and_eq_false_iff, true_and, and_true, not_true_eq_false, false_or, or_false, Bool.and_eq_false_imp, decide_true, Bool.and_self, Bool.true_eq_false, Bool.false_eq_true] at h
              omega
            refine okJ_cL (by decide) fun ru hru => ?_
            have hru : ru = fit 5 (g 34 [t0, x0, y0, e0, t1, x1, y1, e1, t2, x2, y2, e2, t3, x3, y3, e3]) := hru
            have eru : ru = [(g 34 [t0, x0, y0, e0, t1, x1, y1, e1, t2, x2, y2, e2, t3, x3, y3, e3]).getD 0 0, (g 34 [t0, x0, y0, e0, t1, x1, y1, e1, t2, x2, y2, e2, t3, x3, y3, e3]).getD 1 0, (g 34 [t0, x0, y0, e0, t1, x1, y1, e1, t2, x2, y2, e2, t3, x3, y3, e3]).getD 2 0, (g 34 [t0, x0, y0, e0, t1, x1, y1, e1, t2, x2, y2, e2, t3, x3, y3, e3]).getD 3 0, (g 34 [t0, x0, y0, e0, t1, x1, y1, e1, t2, x2, y2, e2, t3, x3, y3, e3]).getD 4 0] := hru
            have hu := common4_ok hg (r := g 34 [t0, x0, y0, e0, t1, x1, y1, e1, t2, x2, y2, e2, t3, x3, y3, e3]) rfl
            generalize (g 34 [t0, x0, y0, e0, t1, x1, y1, e1, t2, x2, y2, e2, t3, x3, y3, e3]).getD 0 0 = ux, (g 34 [t0, x0, y0, e0, t1, x1, y1, e1, t2, x2, y2, e2, t3, x3, y3, e3]).getD 1 0 = uy, (g 34 [t0, x0, y0, e0, t1, x1, y1, e1, t2, x2, y2, e2, t3, x3, y3, e3]).getD 2 0 = vx, (g 34 [t0, x0, y0, e0, t1, x1, y1, e1, t2, x2, y2, e2, t3, x3, y3, e3]).getD 3 0 = vy, (g 34 [t0, x0, y0, e0, t1, x1, y1, e1, t2, x2, y2, e2, t3, x3, y3, e3]).getD 4 0 = ok at eru hu
            clear hru
            subst eru
            refine okJ_cL (by decide) fun rv hrv => ?_
            have hrv : rv = fit 5 (g 44 [t0, x0, y0, e0, t1, x1, y1, e1, t2, x2, y2, e2, t3, x3, y3, e3]) := hrv
            have erv : rv = [(g 44 [t0, x0, y0, e0, t1, x1, y1, e1, t2, x2, y2, e2, t3, x3, y3, e3]).getD 0 0, (g 44 [t0, x0, y0, e0, t1, x1, y1, e1, t2, x2, y2, e2, t3, x3, y3, e3]).getD 1 0, (g 44 [t0, x0, y0, e0, t1, x1, y1, e1, t2, x2, y2, e2, t3, x3, y3, e3]).getD 2 0, (g 44 [t0, x0, y0, e0, t1, x1, y1, e1, t2, x2, y2, e2, t3, x3, y3, e3]).getD 3 0, (g 44 [t0, x0, y0, e0, t1, x1, y1, e1, t2, x2, y2, e2, t3, x3, y3, e3]).getD 4 0] := hrv
            have hv := hull4_ok hg (r := g 44 [t0, x0, y0, e0, t1, x1, y1, e1, t2, x2, y2, e2, t3, x3, y3, e3]) rfl
            generalize (g 44 [t0, x0, y0, e0, t1, x1, y1, e1, t2, x2, y2, e2, t3, x3, y3, e3]).getD 0 0 = gx, (g 44 [t0, x0, y0, e0, t1, x1, y1, e1, t2, x2, y2, e2, t3, x3, y3, e3]).getD 1 0 = gy, (g 44 [t0, x0, y0, e0, t1, x1, y1, e1, t2, x2, y2, e2, t3, x3, y3, e3]).getD 2 0 = hx, (g 44 [t0, x0, y0, e0, t1, x1, y1, e1, t2, x2, y2, e2, t3, x3, y3, e3]).getD 3 0 = hy, (g 44 [t0, x0, y0, e0, t1, x1, y1, e1, t2, x2, y2, e2, t3, x3, y3, e3]).getD 4 0 = is at erv hv
            clear hrv
            subst erv
            refine okJ_ite (fun h => ?_) fun _ => ?_
            · exfalso
              have h : (decide (ok ≠ 0) && (((decide (ux < (x0 - e0)) || decide ((x0 + e0) < vx)) || decide (uy < (y0 - e0))) || decide ((y0 + e0) < vy))) = true := h
              simp only [Bool.or_eq_true, Bool.and_eq_true, Bool.not_eq_true', decide_eq_true_eq, decide_eq_false_iff_not, Bool.and_eq_false_iff, true_and, and_true, not_true_eq_false, false_or, or_false, Bool.and_eq_false_imp, decide_true, Bool.and_self, Bool.true_eq_false, Bool.false_eq_true] at h
              omega
            refine okJ_ite (fun h => ?_) fun _ => ?_
            · exfalso
              have h : (((decide ((x0 - e0) < gx) || decide (hx < (x0 + e0))) || decide ((y0 - e0) < gy)) || decide (hy < (y0 + e0))) = true := h
              simp only [Bool.or_eq_true, Bool.and_eq_true, Bool.not_eq_true', decide_eq_true_eq, decide_eq_false_iff_not, Bool.and_eq_false_iff, true_and, and_true, not_true_eq_false, false_or, or_false, Bool.and_eq_false_imp, decide_true, Bool.and_self, Bool.true_eq_false, Bool.false_eq_true] at h
              omega
            refine okJ_ite (fun h => ?_) fun _ => ?_
            · exfalso
              have h : (decide (ok ≠ 0) && (((decide (ux < (x1 - e1)) || decide ((x1 + e1) < vx)) || decide (uy < (y1 - e1))) || decide ((y1 + e1) < vy))) = true := h
              simp only [Bool.or_eq_true, Bool.and_eq_true, Bool.not_eq_true', decide_eq_true_eq, decide_eq_false_iff_not, Bool.and_eq_false_iff, true_and, and_true, not_true_eq_false, false_or, or_false, Bool.and_eq_false_imp, decide_true, Bool.and_self, Bool.true_eq_false, Bool.false_eq_true] at h
              omega
            refine okJ_ite (fun h => ?_) fun _ => ?_
            · exfalso
              have h : (((decide ((x1 - e1) < gx) || decide (hx < (x1 + e1))) || decide ((y1 - e1) < gy)) || decide (hy < (y1 + e1))) = true := h
              simp only [Bool.or_eq_true, Bool.and_eq_true, Bool.not_eq_true', decide_eq_true_eq, decide_eq_false_iff_not, Bool.and_eq_false_iff, true_and, and_true, not_true_eq_false, false_or, or_false, Bool.and_eq_false_imp, decide_true, Bool.and_self, Bool.true_eq_false, Bool.false_eq_true] at h
              omega
            refine okJ_ite (fun h => ?_) fun _ => ?_
            · exfalso
              have h : (decide (ok ≠ 0) && (((decide (ux < (x2 - e2)) || decide ((x2 + e2) < vx)) || decide (uy < (y2 - e2))) || decide ((y2 + e2) < vy))) = true := h
              simp only [Bool.or_eq_true, Bool.and_eq_true, Bool.not_eq_true', decide_eq_true_eq, decide_eq_false_iff_not, Bool.and_eq_false_iff, true_and, and_true, not_true_eq_false, false_or, or_false, Bool.and_eq_false_imp, decide_true, Bool.and_self, Bool.true_eq_false, Bool.false_eq_true] at h
              omega
            refine okJ_ite (fun h => ?_) fun _ => ?_
            · exfalso
              have h : (((decide ((x2 - e2) < gx) || decide (hx < (x2 + e2))) || decide ((y2 - e2) < gy)) || decide (hy < (y2 + e2))) = true := h
              simp only [Bool.or_eq_true, Bool.and_eq_true, Bool.not_eq_true', decide_eq_true_eq, decide_eq_false_iff_not, Bool.and_eq_false_iff, true_and, and_true, not_true_eq_false, false_or, or_false, Bool.and_eq_false_imp, decide_true, Bool.and_self, Bool.true_eq_false, Bool.false_eq_true] at h
              omega
            refine okJ_ite (fun h => ?_) fun _ => ?_
            · exfalso
              have h : (decide (ok ≠ 0) && (((decide (ux < (x3 - e3)) || decide ((x3 + e3) < vx)) || decide (uy < (y3 - e3))) || decide ((y3 + e3) < vy))) = true := h
              simp only [Bool.or_eq_true, Bool.and_eq_true, Bool.not_eq_true', decide_eq_true_eq, decide_eq_false_iff_not, Bool.and_eq_false_iff, true_and, and_true, not_true_eq_false, false_or, or_false, Bool.and_eq_false_imp, decide_true, Bool.and_self, Bool.true_eq_false, Bool.false_eq_true] at h
              omega
            refine okJ_ite (fun h => ?_) fun _ => ?_
            · exfalso
              have h : (((decide ((x3 - e3) < gx) || decide (hx < (x3 + e3))) || decide ((y3 - e3) < gy)) || decide (hy < (y3 + e3))) = true := h
              simp only [Bool.or_eq_true, Bool.and_eq_true, Bool.not_eq_true', decide_eq_true_eq, decide_eq_false_iff_not, Bool.and_eq_false_iff, true_and, and_true, not_true_eq_false, false_or, or_false, Bool.and_eq_false_imp, decide_true, Bool.and_self, Bool.true_eq_false, Bool.false_eq_true] at h
              omega
            refine okJ_c4 (by decide) fun sx sy sb sz esx _ _ _ => ?_
            have esx : sx = (g 24 [t3, x3, y3, 7, t2, x2, y2, 7, t1, x1, y1, 7, t0, x0, y0, 7]).getD 0 0 := esx
            rw [fuse4 (en45_25 hg) (by omega) (by omega) (by omega) (by omega) (by omega) (by omega) (by omega) (by omega)] at esx
            have esx : sx = mean4 7 7 7 7 x3 x2 x1 x0 := esx
            rw [mean4_same] at esx
            refine okJ_c2 (by decide) fun want z5 ew _ => ?_
            have ew : want = (g 16 [0 + x3 + x2 + x1 + x0, 4]).getD 0 0 := ew
            rw [g16 (en25_16 (en45_25 hg)) (by omega)] at ew
            have ew : want = halfZ (0 + x3 + x2 + x1 + x0) 4 := ew
            refine okJ_ite (fun _ => okJ_c1 (by decide) fun _ _ => rfl) fun h => ?_
            exfalso
            have h : decide (sx = want) = false := h
            rw [esx, ew] at h
            simp at h
        · refine okJ_c4 (by decide) fun mx my b z4 epx epy epb epz => ?_
          have epx : mx = (g 23 [t0, x0, y0, e0, t1, x1, y1, e1, t2, x2, y2, e2]).getD 0 0 := epx
          have epy : my = (g 23 [t0, x0, y0, e0, t1, x1, y1, e1, t2, x2, y2, e2]).getD 1 0 := epy
          have epb : b = (g 23 [t0, x0, y0, e0, t1, x1, y1, e1, t2, x2, y2, e2]).getD 2 0 := epb
          rw [fuse3 (en45_25 hg) (by omega) (by omega) (by omega) (by omega) (by omega) (by omega)] at epx epy epb
          have epx : mx = mean3 e0 e1 e2 x0 x1 x2 := epx
          have epy : my = mean3 e0 e1 e2 y0 y1 y2 := epy
          have epb : b = bnd3 (mean3 e0 e1 e2 x0 x1 x2) (mean3 e0 e1 e2 y0 y1 y2) x0 y0 e0 x1 y1 e1 x2 y2 e2 := epb
          refine okJ_c4 (by decide) fun nx ny d w4 eqx eqy eqb eqz => ?_
          have eqx : nx = (g 23 [t2, x2, y2, e2, t1, x1, y1, e1, t0, x0, y0, e0]).getD 0 0 := eqx
          have eqy : ny = (g 23 [t2, x2, y2, e2, t1, x1, y1, e1, t0, x0, y0, e0]).getD 1 0 := eqy
          have eqb : d = (g 23 [t2, x2, y2, e2, t1, x1, y1, e1, t0, x0, y0, e0]).getD 2 0 := eqb
          rw [fuse3 (en45_25 hg) (by omega) (by omega) (by omega) (by omega) (by omega) (by omega)] at eqx eqy eqb
          have eqx : nx = mean3 e2 e1 e0 x2 x1 x0 := eqx
          have eqy : ny = mean3 e2 e1 e0 y2 y1 y0 := eqy
          have eqb : d = bnd3 (mean3 e2 e1 e0 x2 x1 x0) (mean3 e2 e1 e0 y2 y1 y0) x2 y2 e2 x1 y1 e1 x0 y0 e0 := eqb
          rw [mean3_rev e0 e1 e2 x0 x1 x2, ← epx] at eqx
          rw [mean3_rev e0 e1 e2 y0 y1 y2, ← epy] at eqy
          rw [mean3_rev e0 e1 e2 x0 x1 x2, mean3_rev e0 e1 e2 y0 y1 y2, bnd3_rev _ _ x0 y0 e0 x1 y1 e1 x2 y2 e2, ← epb] at eqb
          have eqx := eqx.symm
          have eqy := eqy.symm
          have eqb := eqb.symm
          subst eqx; subst eqy; subst eqb
          clear epb
          have nx2_0 := mnz_l x0 x2
          have mx2_0 := mnz_r x0 x2
          have gx2_0 := mxz_l x0 x2
          have hx2_0 := mxz_r x0 x2
          have nx1_1 := mnz_l (mnz x0 x2) x1
          have mx1_1 := mnz_r (mnz x0 x2) x1
          have gx1_1 := mxz_l (mxz x0 x2) x1
          have hx1_1 := mxz_r (mxz x0 x2) x1
          have nx0_2 := mnz_l (mnz (mnz x0 x2) x1) x0
          have mx0_2 := mnz_r (mnz (mnz x0 x2) x1) x0
          have gx0_2 := mxz_l (mxz (mxz x0 x2) x1) x0
          have hx0_2 := mxz_r (mxz (mxz x0 x2) x1) x0
          have lox : (mnz (mnz (mnz x0 x2) x1) x0) ≤ mx := by rw [epx]; exact mean3_lo e0 e1 e2 (by omega) (by omega) (by omega)
          have hix : mx ≤ (mxz (mxz (mxz x0 x2) x1) x0) := by rw [epx]; exact mean3_hi e0 e1 e2 (by omega) (by omega) (by omega)
          have ny2_0 := mnz_l y0 y2
          have my2_0 := mnz_r y0 y2
          have gy2_0 := mxz_l y0 y2
          have hy2_0 := mxz_r y0 y2
          have ny1_1 := mnz_l (mnz y0 y2) y1
          have my1_1 := mnz_r (mnz y0 y2) y1
          have gy1_1 := mxz_l (mxz y0 y2) y1
          have hy1_1 := mxz_r (mxz y0 y2) y1
          have ny0_2 := mnz_l (mnz (mnz y0 y2) y1) y0
          have my0_2 := mnz_r (mnz (mnz y0 y2) y1) y0
          have gy0_2 := mxz_l (mxz (mxz y0 y2) y1) y0
          have hy0_2 := mxz_r (mxz (mxz y0 y2) y1) y0
          have loy : (mnz (mnz (mnz y0 y2) y1) y0) ≤ my := by rw [epy]; exact mean3_lo e0 e1 e2 (by omega) (by omega) (by omega)
          have hiy : my ≤ (mxz (mxz (mxz y0 y2) y1) y0) := by rw [epy]; exact mean3_hi e0 e1 e2 (by omega) (by omega) (by omega)
          refine okJ_ite (fun h => ?_) fun _ => ?_
          · exfalso
            have h : (((((!((decide (mx = mx) && decide (my = my))) || !(decide (b = b))) || decide (mx < (mnz (mnz (mnz x0 x2) x1) x0))) || decide ((mxz (mxz (mxz x0 x2) x1) x0) < mx)) || decide (my < (mnz (mnz (mnz y0 y2) y1) y0))) || decide ((mxz (mxz (mxz y0 y2) y1) y0) < my)) = true := h
            simp only [Bool.or_eq_true, Bool.and_eq_true, Bool.not_eq_true', decide_eq_true_eq, decide_eq_false_iff_not, Bool.and_eq_false_iff, true_and, and_true, not_true_eq_false, false_or, or_false, Bool.and_eq_false_imp, decide_true, Bool.and_self, Bool.true_eq_false, Bool.false_eq_true] at h
            omega
          refine okJ_cL (by decide) fun ru hru => ?_
          have hru : ru = fit 5 (g 33 [t0, x0, y0, e0, t1, x1, y1, e1, t2, x2, y2, e2]) := hru
          have eru : ru = [(g 33 [t0, x0, y0, e0, t1, x1, y1, e1, t2, x2, y2, e2]).getD 0 0, (g 33 [t0, x0, y0, e0, t1, x1, y1, e1, t2, x2, y2, e2]).getD 1 0, (g 33 [t0, x0, y0, e0, t1, x1, y1, e1, t2, x2, y2, e2]).getD 2 0, (g 33 [t0, x0, y0, e0, t1, x1, y1, e1, t2, x2, y2, e2]).getD 3 0, (g 33 [t0, x0, y0, e0, t1, x1, y1, e1, t2, x2, y2, e2]).getD 4 0] := hru
          have hu := common3_ok hg (r := g 33 [t0, x0, y0, e0, t1, x1, y1, e1, t2, x2, y2, e2]) rfl
          generalize (g 33 [t0, x0, y0, e0, t1, x1, y1, e1, t2, x2, y2, e2]).getD 0 0 = ux, (g 33 [t0, x0, y0, e0, t1, x1, y1, e1, t2, x2, y2, e2]).getD 1 0 = uy, (g 33 [t0, x0, y0, e0, t1, x1, y1, e1, t2, x2, y2, e2]).getD 2 0 = vx, (g 33 [t0, x0, y0, e0, t1, x1, y1, e1, t2, x2, y2, e2]).getD 3 0 = vy, (g 33 [t0, x0, y0, e0, t1, x1, y1, e1, t2, x2, y2, e2]).getD 4 0 = ok at eru hu
          clear hru
          subst eru
          refine okJ_cL (by decide) fun rv hrv => ?_
          have hrv : rv = fit 5 (g 43 [t0, x0, y0, e0, t1, x1, y1, e1, t2, x2, y2, e2]) := hrv
          have erv : rv = [(g 43 [t0, x0, y0, e0, t1, x1, y1, e1, t2, x2, y2, e2]).getD 0 0, (g 43 [t0, x0, y0, e0, t1, x1, y1, e1, t2, x2, y2, e2]).getD 1 0, (g 43 [t0, x0, y0, e0, t1, x1, y1, e1, t2, x2, y2, e2]).getD 2 0, (g 43 [t0, x0, y0, e0, t1, x1, y1, e1, t2, x2, y2, e2]).getD 3 0, (g 43 [t0, x0, y0, e0, t1, x1, y1, e1, t2, x2, y2, e2]).getD 4 0] := hrv
          have hv := hull3_ok hg (r := g 43 [t0, x0, y0, e0, t1, x1, y1, e1, t2, x2, y2, e2]) rfl
          generalize (g 43 [t0, x0, y0, e0, t1, x1, y1, e1, t2, x2, y2, e2]).getD 0 0 = gx, (g 43 [t0, x0, y0, e0, t1, x1, y1, e1, t2, x2, y2, e2]).getD 1 0 = gy, (g 43 [t0, x0, y0, e0, t1, x1, y1, e1, t2, x2, y2, e2]).getD 2 0 = hx, (g 43 [t0, x0, y0, e0, t1, x1, y1, e1, t2, x2, y2, e2]).getD 3 0 = hy, (g 43 [t0, x0, y0, e0, t1, x1, y1, e1, t2, x2, y2, e2]).getD 4 0 = is at erv hv
          clear hrv
          subst erv
          refine okJ_ite (fun h => ?_) fun _ => ?_
          · exfalso
            have h : (decide (ok ≠ 0) && (((decide (ux < (x0 - e0)) || decide ((x0 + e0) < vx)) || decide (uy < (y0 - e0))) || decide ((y0 + e0) < vy))) = true := h
            simp only [Bool.or_eq_true, Bool.and_eq_true, Bool.not_eq_true', decide_eq_true_eq, decide_eq_false_iff_not, Bool.and_eq_false_iff, true_and, and_true, not_true_eq_false, false_or, or_false, Bool.and_eq_false_imp, decide_true, Bool.and_self, Bool.true_eq_false, Bool.false_eq_true] at h
            omega
          refine okJ_ite (fun h => ?_) fun _ => ?_
          · exfalso
            have h : (((decide ((x0 - e0) < gx) || decide (hx < (x0 + e0))) || decide ((y0 - e0) < gy)) || decide (hy < (y0 + e0))) = true := h
            simp only [Bool.or_eq_true, Bool.and_eq_true, Bool.not_eq_true', decide_eq_true_eq, decide_eq_false_iff_not, Bool.and_eq_false_iff, true_and, and_true, not_true_eq_false, false_or, or_false, Bool.and_eq_false_imp, decide_true, Bool.and_self, Bool.true_eq_false, Bool.false_eq_true] at h
            omega
          refine okJ_ite (fun h => ?_) fun _ => ?_
          · exfalso
            have h : (decide (ok ≠ 0) && (((decide (ux < (x1 - e1)) || decide ((x1 + e1) < vx)) || decide (uy < (y1 - e1))) || decide ((y1 + e1) < vy))) = true := h
            simp only [Bool.or_eq_true, Bool.and_eq_true, Bool.not_eq_true', decide_eq_true_eq, decide_eq_false_iff_not, Bool.and_eq_false_iff, true_and, and_true, not_true_eq_false, false_or, or_false, Bool.and_eq_false_imp, decide_true, Bool.and_self, Bool.true_eq_false, Bool.false_eq_true] at h
            omega
          refine okJ_ite (fun h => ?_) fun _ => ?_
          · exfalso
            have h : (((decide ((x1 - e1) < gx) || decide (hx < (x1 + e1))) || decide ((y1 - e1) < gy)) || decide (hy < (y1 + e1))) = true := h
            simp only [Bool.or_eq_true, Bool.and_eq_true, Bool.not_eq_true', decide_eq_true_eq, decide_eq_false_iff_not, Bool.and_eq_false_iff, true_and, and_true, not_true_eq_false, false_or, or_false, Bool.and_eq_false_imp, decide_true, Bool.and_self, Bool.true_eq_false, Bool.false_eq_true] at h
            omega
          refine okJ_ite (fun h => ?_) fun _ => ?_
          · exfalso
            have h : (decide (ok ≠ 0) && (((decide (ux < (x2 - e2)) || decide ((x2 + e2) < vx)) || decide (uy < (y2 - e2))) || decide ((y2 + e2) < vy))) = true := h
            simp only [Bool.or_eq_true, Bool.and_eq_true, Bool.not_eq_true', decide_eq_true_eq, decide_eq_false_iff_not, Bool.and_eq_false_iff, true_and, and_true, not_true_eq_false, false_or, or_false, Bool.and_eq_false_imp, decide_true, Bool.and_self, Bool.true_eq_false, Bool.false_eq_true] at h
            omega
          refine okJ_ite (fun h => ?_) fun _ => ?_
          · exfalso
            have h : (((decide ((x2 - e2) < gx) || decide (hx < (x2 + e2))) || decide ((y2 - e2) < gy)) || decide (hy < (y2 + e2))) = true := h
            simp only [Bool.or_eq_true, Bool.and_eq_true, Bool.not_eq_true', decide_eq_true_eq, decide_eq_false_iff_not, Bool.and_eq_false_iff, true_and, and_true, not_true_eq_false, false_or, or_false, Bool.and_eq_false_imp, decide_true, Bool.and_self, Bool.true_eq_false, Bool.false_eq_true] at h
            omega
          refine okJ_c4 (by decide) fun sx sy sb sz esx _ _ _ => ?_
          have esx : sx = (g 23 [t2, x2, y2, 7, t1, x1, y1, 7, t0, x0, y0, 7]).getD 0 0 := esx
          rw [fuse3 (en45_25 hg) (by omega) (by omega) (by omega) (by omega) (by omega) (by omega)] at esx
          have esx : sx = mean3 7 7 7 x2 x1 x0 := esx
          rw [mean3_same] at esx
          refine okJ_c2 (by decide) fun want z5 ew _ => ?_
          have ew : want = (g 16 [0 + x2 + x1 + x0, 3]).getD 0 0 := ew
          rw [g16 (en25_16 (en45_25 hg)) (by omega)] at ew
          have ew : want = halfZ (0 + x2 + x1 + x0) 3 := ew
          refine okJ_ite (fun _ => okJ_c1 (by decide) fun _ _ => rfl) fun h => ?_
          exfalso
          have h : decide (sx = want) = false := h
          rw [esx, ew] at h
          simp at h
      · refine okJ_c4 (by decide) fun mx my b z4 epx epy epb epz => ?_
        have epx : mx = (g 22 [t0, x0, y0, e0, t1, x1, y1, e1]).getD 0 0 := epx
        have epy : my = (g 22 [t0, x0, y0, e0, t1, x1, y1, e1]).getD 1 0 := epy
        have epb : b = (g 22 [t0, x0, y0, e0, t1, x1, y1, e1]).getD 2 0 := epb
        rw [fuse2 (en45_25 hg) (by omega) (by omega) (by omega) (by omega)] at epx epy epb
        have epx : mx = mean2 e0 e1 x0 x1 := epx
        have epy : my = mean2 e0 e1 y0 y1 := epy
        have epb : b = bnd2 (mean2 e0 e1 x0 x1) (mean2 e0 e1 y0 y1) x0 y0 e0 x1 y1 e1 := epb
        refine okJ_c4 (by decide) fun nx ny d w4 eqx eqy eqb eqz => ?_
        have eqx : nx = (g 22 [t1, x1, y1, e1, t0, x0, y0, e0]).getD 0 0 := eqx
        have eqy : ny = (g 22 [t1, x1, y1, e1, t0, x0, y0, e0]).getD 1 0 := eqy
        have eqb : d = (g 22 [t1, x1, y1, e1, t0, x0, y0, e0]).getD 2 0 := eqb
        rw [fuse2 (en45_25 hg) (by omega) (by omega) (by omega) (by omega)] at eqx eqy eqb
        have eqx : nx = mean2 e1 e0 x1 x0 := eqx
        have eqy : ny = mean2 e1 e0 y1 y0 := eqy
        have eqb : d = bnd2 (mean2 e1 e0 x1 x0) (mean2 e1 e0 y1 y0) x1 y1 e1 x0 y0 e0 := eqb
        rw [mean2_rev e0 e1 x0 x1, ← epx] at eqx
        rw [mean2_rev e0 e1 y0 y1, ← epy] at eqy
        rw [mean2_rev e0 e1 x0 x1, mean2_rev e0 e1 y0 y1, bnd2_rev _ _ x0 y0 e0 x1 y1 e1, ← epb] at eqb
        have eqx := eqx.symm
        have eqy := eqy.symm
        have eqb := eqb.symm
        subst eqx; subst eqy; subst eqb
        clear epb
        have nx1_0 := mnz_l x0 x1
        have mx1_0 := mnz_r x0 x1
        have gx1_0 := mxz_l x0 x1
        have hx1_0 := mxz_r x0 x1
        have nx0_1 := mnz_l (mnz x0 x1) x0
        have mx0_1 := mnz_r (mnz x0 x1) x0
        have gx0_1 := mxz_l (mxz x0 x1) x0
        have hx0_1 := mxz_r (mxz x0 x1) x0
        have lox : (mnz (mnz x0 x1) x0) ≤ mx := by rw [epx]; exact mean2_lo e0 e1 (by omega) (by omega)
        have hix : mx ≤ (mxz (mxz x0 x1) x0) := by rw [epx]; exact mean2_hi e0 e1 (by omega) (by omega)
        have ny1_0 := mnz_l y0 y1
        have my1_0 := mnz_r y0 y1
        have gy1_0 := mxz_l y0 y1
        have hy1_0 := mxz_r y0 y1
        have ny0_1 := mnz_l (mnz y0 y1) y0
        have my0_1 := mnz_r (mnz y0 y1) y0
        have gy0_1 := mxz_l (mxz y0 y1) y0
        have hy0_1 := mxz_r (mxz y0 y1) y0
        have loy : (mnz (mnz y0 y1) y0) ≤ my := by rw [epy]; exact mean2_lo e0 e1 (by omega) (by omega)
        have hiy : my ≤ (mxz (mxz y0 y1) y0) := by rw [epy]; exact mean2_hi e0 e1 (by omega) (by omega)
        refine okJ_ite (fun h => ?_) fun _ => ?_
        · exfalso
          have h : (((((!((decide (mx = mx) && decide (my = my))) || !(decide (b = b))) || decide (mx < (mnz (mnz x0 x1) x0))) || decide ((mxz (mxz x0 x1) x0) < mx)) || decide (my < (mnz (mnz y0 y1) y0))) || decide ((mxz (mxz y0 y1) y0) < my)) = true := h
          simp only [Bool.or_eq_true, Bool.and_eq_true, Bool.not_eq_true', decide_eq_true_eq, decide_eq_false_iff_not, Bool.and_eq_false_iff, true_and, and_true, not_true_eq_false, false_or, or_false, Bool.and_eq_false_imp, decide_true, Bool.and_self, Bool.true_eq_false, Bool.false_eq_true] at h
          omega
        refine okJ_cL (by decide) fun ru hru => ?_
        have hru : ru = fit 5 (g 32 [t0, x0, y0, e0, t1, x1, y1, e1]) := hru
        have eru : ru = [(g 32 [t0, x0, y0, e0, t1, x1, y1, e1]).getD 0 0, (g 32 [t0, x0, y0, e0, t1, x1, y1, e1]).getD 1 0, (g 32 [t0, x0, y0, e0, t1, x1, y1, e1]).getD 2 0, (g 32 [t0, x0, y0, e0, t1, x1, y1, e1]).getD 3 0, (g 32 [t0, x0, y0, e0, t1, x1, y1, e1]).getD 4 0] := hru
        have hu := common2_ok hg (r := g 32 [t0, x0, y0, e0, t1, x1, y1, e1]) rfl
        generalize (g 32 [t0, x0, y0, e0, t1, x1, y1, e1]).getD 0 0 = ux, (g 32 [t0, x0, y0, e0, t1, x1, y1, e1]).getD 1 0 = uy, (g 32 [t0, x0, y0, e0, t1, x1, y1, e1]).getD 2 0 = vx, (g 32 [t0, x0, y0, e0, t1, x1, y1, e1]).getD 3 0 = vy, (g 32 [t0, x0, y0, e0, t1, x1, y1, e1]).getD 4 0 = ok at eru hu
        clear hru
        subst eru
        refine okJ_cL (by decide) fun rv hrv => ?_
        have hrv : rv = fit 5 (g 42 [t0, x0, y0, e0, t1, x1, y1, e1]) := hrv
        have erv : rv = [(g 42 [t0, x0, y0, e0, t1, x1, y1, e1]).getD 0 0, (g 42 [t0, x0, y0, e0, t1, x1, y1, e1]).getD 1 0, (g 42 [t0, x0, y0, e0, t1, x1, y1, e1]).getD 2 0, (g 42 [t0, x0, y0, e0, t1, x1, y1, e1]).getD 3 0, (g 42 [t0, x0, y0, e0, t1, x1, y1, e1]).getD 4 0] := hrv
        have hv := hull2_ok hg (r := g 42 [t0, x0, y0, e0, t1, x1, y1, e1]) rfl
        generalize (g 42 [t0, x0, y0, e0, t1, x1, y1, e1]).getD 0 0 = gx, (g 42 [t0, x0, y0, e0, t1, x1, y1, e1]).getD 1 0 = gy, (g 42 [t0, x0, y0, e0, t1, x1, y1, e1]).getD 2 0 = hx, (g 42 [t0, x0, y0, e0, t1, x1, y1, e1]).getD 3 0 = hy, (g 42 [t0, x0, y0, e0, t1, x1, y1, e1]).getD 4 0 = is at erv hv
        clear hrv
        subst erv
        refine okJ_ite (fun h => ?_) fun _ => ?_
        · exfalso
          have h : (decide (ok ≠ 0) && (((decide (ux < (x0 - e0)) || decide ((x0 + e0) < vx)) || decide (uy < (y0 - e0))) || decide ((y0 + e0) < vy))) = true := h
          simp only [Bool.or_eq_true, Bool.and_eq_true, Bool.not_eq_true', decide_eq_true_eq, decide_eq_false_iff_not, Bool.and_eq_false_iff, true_and, and_true, not_true_eq_false, false_or, or_false, Bool.and_eq_false_imp, decide_true, Bool.and_self, Bool.true_eq_false, Bool.false_eq_true] at h
          omega
        refine okJ_ite (fun h => ?_) fun _ => ?_
        · exfalso
          have h : (((decide ((x0 - e0) < gx) || decide (hx < (x0 + e0))) || decide ((y0 - e0) < gy)) || decide (hy < (y0 + e0))) = true := h
          simp only [Bool.or_eq_true, Bool.and_eq_true, Bool.not_eq_true', decide_eq_true_eq, decide_eq_false_iff_not, Bool.and_eq_false_iff, true_and, and_true, not_true_eq_false, false_or, or_false, Bool.and_eq_false_imp, decide_true, Bool.and_self, Bool.true_eq_false, Bool.false_eq_true] at h
          omega
        refine okJ_ite (fun h => ?_) fun _ => ?_
        · exfalso
          have h : (decide (ok ≠ 0) && (((decide (ux < (x1 - e1)) || decide ((x1 + e1) < vx)) || decide (uy < (y1 - e1))) || decide ((y1 + e1) < vy))) = true := h
          simp only [Bool.or_eq_true, Bool.and_eq_true, Bool.not_eq_true', decide_eq_true_eq, decide_eq_false_iff_not, Bool.and_eq_false_iff, true_and, and_true, not_true_eq_false, false_or, or_false, Bool.and_eq_false_imp, decide_true, Bool.and_self, Bool.true_eq_false, Bool.false_eq_true] at h
          omega
        refine okJ_ite (fun h => ?_) fun _ => ?_
        · exfalso
          have h : (((decide ((x1 - e1) < gx) || decide (hx < (x1 + e1))) || decide ((y1 - e1) < gy)) || decide (hy < (y1 + e1))) = true := h
          simp only [Bool.or_eq_true, Bool.and_eq_true, Bool.not_eq_true', decide_eq_true_eq, decide_eq_false_iff_not, Bool.and_eq_false_iff, true_and, and_true, not_true_eq_false, false_or, or_false, Bool.and_eq_false_imp, decide_true, Bool.and_self, Bool.true_eq_false, Bool.false_eq_true] at h
          omega
        refine okJ_c4 (by decide) fun sx sy sb sz esx _ _ _ => ?_
        have esx : sx = (g 22 [t1, x1, y1, 7, t0, x0, y0, 7]).getD 0 0 := esx
        rw [fuse2 (en45_25 hg) (by omega) (by omega) (by omega) (by omega)] at esx
        have esx : sx = mean2 7 7 x1 x0 := esx
        rw [mean2_same] at esx
        refine okJ_c2 (by decide) fun want z5 ew _ => ?_
        have ew : want = (g 16 [0 + x1 + x0, 2]).getD 0 0 := ew
        rw [g16 (en25_16 (en45_25 hg)) (by omega)] at ew
        have ew : want = halfZ (0 + x1 + x0) 2 := ew
        refine okJ_ite (fun _ => okJ_c1 (by decide) fun _ _ => rfl) fun h => ?_
        exfalso
        have h : decide (sx = want) = false := h
        rw [esx, ew] at h
        simp at h
    · refine okJ_c4 (by decide) fun mx my b z4 epx epy epb epz => ?_
      have epx : mx = (g 21 [t0, x0, y0, e0]).getD 0 0 := epx
      have epy : my = (g 21 [t0, x0, y0, e0]).getD 1 0 := epy
      have epb : b = (g 21 [t0, x0, y0, e0]).getD 2 0 := epb
      rw [fuse1 (en45_25 hg) (by omega) (by omega)] at epx epy epb
      have epx : mx = mean1 e0 x0 := epx
      have epy : my = mean1 e0 y0 := epy
      clear epb
      have nx0_0 := mnz_l x0 x0
      have mx0_0 := mnz_r x0 x0
      have gx0_0 := mxz_l x0 x0
      have hx0_0 := mxz_r x0 x0
      have lox : (mnz x0 x0) ≤ mx := by rw [epx]; exact mean1_lo e0 (by omega)
      have hix : mx ≤ (mxz x0 x0) := by rw [epx]; exact mean1_hi e0 (by omega)
      have ny0_0 := mnz_l y0 y0
      have my0_0 := mnz_r y0 y0
      have gy0_0 := mxz_l y0 y0
      have hy0_0 := mxz_r y0 y0
      have loy : (mnz y0 y0) ≤ my := by rw [epy]; exact mean1_lo e0 (by omega)
      have hiy : my ≤ (mxz y0 y0) := by rw [epy]; exact mean1_hi e0 (by omega)
      refine okJ_ite (fun h => ?_) fun _ => ?_
      · exfalso
        have h : (((decide (mx < (mnz x0 x0)) || decide ((mxz x0 x0) < mx)) || decide (my < (mnz y0 y0))) || decide ((mxz y0 y0) < my)) = true := h
        simp only [Bool.or_eq_true, Bool.and_eq_true, Bool.not_eq_true', decide_eq_true_eq, decide_eq_false_iff_not, Bool.and_eq_false_iff, true_and, and_true, not_true_eq_false, false_or, or_false, Bool.and_eq_false_imp, decide_true, Bool.and_self, Bool.true_eq_false, Bool.false_eq_true] at h
        omega
      refine okJ_cL (by decide) fun ru hru => ?_
      have hru : ru = fit 5 (g 31 [t0, x0, y0, e0]) := hru
      have eru : ru = [(g 31 [t0, x0, y0, e0]).getD 0 0, (g 31 [t0, x0, y0, e0]).getD 1 0, (g 31 [t0, x0, y0, e0]).getD 2 0, (g 31 [t0, x0, y0, e0]).getD 3 0, (g 31 [t0, x0, y0, e0]).getD 4 0] := hru
      have hu := common1_ok hg (r := g 31 [t0, x0, y0, e0]) rfl
      generalize (g 31 [t0, x0, y0, e0]).getD 0 0 = ux, (g 31 [t0, x0, y0, e0]).getD 1 0 = uy, (g 31 [t0, x0, y0, e0]).getD 2 0 = vx, (g 31 [t0, x0, y0, e0]).getD 3 0 = vy, (g 31 [t0, x0, y0, e0]).getD 4 0 = ok at eru hu
      clear hru
      subst eru
      refine okJ_cL (by decide) fun rv hrv => ?_
      have hrv : rv = fit 5 (g 41 [t0, x0, y0, e0]) := hrv
      have erv : rv = [(g 41 [t0, x0, y0, e0]).getD 0 0, (g 41 [t0, x0, y0, e0]).getD 1 0, (g 41 [t0, x0, y0, e0]).getD 2 0, (g 41 [t0, x0, y0, e0]).getD 3 0, (g 41 [t0, x0, y0, e0]).getD 4 0] := hrv
      have hv := hull1_ok hg (r := g 41 [t0, x0, y0, e0]) rfl
      generalize (g 41 [t0, x0, y0, e0]).getD 0 0 = gx, (g 41 [t0, x0, y0, e0]).getD 1 0 = gy, (g 41 [t0, x0, y0, e0]).getD 2 0 = hx, (g 41 [t0, x0, y0, e0]).getD 3 0 = hy, (g 41 [t0, x0, y0, e0]).getD 4 0 = is at erv hv
      clear hrv
      subst erv
      refine okJ_ite (fun h => ?_) fun _ => ?_
      · exfalso
        have h : (decide (ok ≠ 0) && (((decide (ux < (x0 - e0)) || decide ((x0 + e0) < vx)) || decide (uy < (y0 - e0))) || decide ((y0 + e0) < vy))) = true := h
        simp only [Bool.or_eq_true, Bool.and_eq_true, Bool.not_eq_true', decide_eq_true_eq, decide_eq_false_iff_not, Bool.and_eq_false_iff, true_and, and_true, not_true_eq_false, false_or, or_false, Bool.and_eq_false_imp, decide_true, Bool.and_self, Bool.true_eq_false, Bool.false_eq_true] at h
        omega
      refine okJ_ite (fun h => ?_) fun _ => ?_
      · exfalso
        have h : (((decide ((x0 - e0) < gx) || decide (hx < (x0 + e0))) || decide ((y0 - e0) < gy)) || decide (hy < (y0 + e0))) = true := h
        simp only [Bool.or_eq_true, Bool.and_eq_true, Bool.not_eq_true', decide_eq_true_eq, decide_eq_false_iff_not, Bool.and_eq_false_iff, true_and, and_true, not_true_eq_false, false_or, or_false, Bool.and_eq_false_imp, decide_true, Bool.and_self, Bool.true_eq_false, Bool.false_eq_true] at h
        omega
      refine okJ_c4 (by decide) fun sx sy sb sz esx _ _ _ => ?_
      have esx : sx = (g 21 [t0, x0, y0, 7]).getD 0 0 := esx
      rw [fuse1 (en45_25 hg) (by omega) (by omega)] at esx
      have esx : sx = mean1 7 x0 := esx
      rw [mean1_same] at esx
      refine okJ_c2 (by decide) fun want z5 ew _ => ?_
      have ew : want = (g 16 [0 + x0, 1]).getD 0 0 := ew
      rw [g16 (en25_16 (en45_25 hg)) (by omega)] at ew
      have ew : want = halfZ (0 + x0) 1 := ew
      refine okJ_ite (fun _ => okJ_c1 (by decide) fun _ _ => rfl) fun h => ?_
      exfalso
      have h : decide (sx = want) = false := h
      rw [esx, ew] at h
      simp at h
  · exact okJ_c1 (by decide) fun _ _ => rfl
theorem walk (a0 : Option Addr) (len0 cap0 : Nat) (z0 : List Int) (w : World) (w0 : IsRow .i64 w a0 len0 cap0 z0) (r : List Int) (hr : KsOK (shsKs SS) r) :
    Calls Try.prog 6 (.slice a0 len0 cap0 :: shsV SS r).toArray w fun e w' => e = .returned (.bool true) ∧ Below w.heap.size w w' := by
  match r, hr.length, hr with
  | [], _, hr => exact row_lawX w0 en45_con en45_kl tree_eq (fun g hg => plain _ _ z0 g hg hr) hr
end Go.Proofs.Ytcedkkleclhglaa.fuseMean
