/- 'dynpos/dynposlaw22.WeatherGrows': the tree of its walk, and that each of its leaves is true. -/
import Derived.Test.YtapdjkiekjdgdaaWL
set_option linter.unusedSimpArgs false
set_option linter.unusedVariables false
set_option maxRecDepth 100000
namespace Go.Proofs.Ytapdjkiekjdgdaa.weatherGrows
open Go.RowKit Ev
def SS : List Sh := [.one (some .u16)]
def hints : FuncId → Nat → Option Hint := fun _ _ => none
def tree : T Leaf :=
(.ite (.lt (.lit 600) (.v 0))
 (.call 10 [] 1
 (.leaf ((.bool (.lit true)), [], []))
 )
 (.call 11 [(.mn (.v 0) (.lit 600)), (.v 1), (.lit 0)] 13
 (.call 11 [(.mn (.v 0) (.lit 600)), (.v 1), (.v 3)] 13
 (.call 11 [(.mn (.v 0) (.lit 600)), (.v 1), (.v 16)] 13
 (.call 900 [(.lit 3600), (.mn (.v 0) (.lit 600)), (.v 29)] 2
 (.call 900 [(.lit 3600), (.mn (.v 0) (.lit 600)), (.v 43)] 2
 (.call 17 [(.v 44), (.rem (.v 2) (.lit 9000)), (.v 42), (.v 4), (.v 5), (.v 6), (.v 7), (.v 8), (.v 9), (.v 10), (.v 11), (.v 12), (.v 13), (.v 14), (.v 15), (.v 17), (.v 18), (.v 19), (.v 20), (.v 21), (.v 22), (.v 23), (.v 24), (.v 25), (.v 26), (.v 27), (.v 28), (.v 30), (.v 31), (.v 32), (.v 33), (.v 34), (.v 35), (.v 36), (.v 37), (.v 38), (.v 39), (.v 40), (.v 41)] 3
 (.call 900 [(.lit 900), (.mn (.v 0) (.lit 600)), (.v 45)] 2
 (.call 17 [(.v 44), (.add (.add (.rem (.v 2) (.lit 9000)) (.lit 1)) (.v 49)), (.v 42), (.v 4), (.v 5), (.v 6), (.v 7), (.v 8), (.v 9), (.v 10), (.v 11), (.v 12), (.v 13), (.v 14), (.v 15), (.v 17), (.v 18), (.v 19), (.v 20), (.v 21), (.v 22), (.v 23), (.v 24), (.v 25), (.v 26), (.v 27), (.v 28), (.v 30), (.v 31), (.v 32), (.v 33), (.v 34), (.v 35), (.v 36), (.v 37), (.v 38), (.v 39), (.v 40), (.v 41)] 3
 (.ite (.or (.and (.lt (.lit 0) (.v 46)) (.lt (.v 51) (.v 46))) (.and (.lt (.v 46) (.lit 0)) (.lt (.v 46) (.v 51))))
  (.leaf ((.bool (.lit false)), [], []))
  (.ite (.or (.and (.lt (.lit 0) (.v 47)) (.lt (.v 52) (.v 47))) (.and (.lt (.v 47) (.lit 0)) (.lt (.v 47) (.v 52))))
   (.leaf ((.bool (.lit false)), [], []))
   (.ite (.or (.and (.lt (.lit 0) (.v 48)) (.lt (.v 53) (.v 48))) (.and (.lt (.v 48) (.lit 0)) (.lt (.v 48) (.v 53))))
    (.leaf ((.bool (.lit false)), [], []))
    (.call 10 [] 1
    (.leaf ((.bool (.lit true)), [], []))
    )
   )
  )
 )
 )
 )
 )
 )
 )
 )
 )
 )
)
theorem tree_eq : (evFn Try.prog (rowCtxE (exL en19) [] hints) 60 12 5 (.sls 0 (.v 0) (.v 1) :: shsS SS 2) [] (rowFx (rngE 2 (ksRg (shsKs SS)))) (shsW SS + 2)).strip = tree := by kernel_rfl
def JJ : Nat → List Int → List Int → Prop := fun _ _ _ => True

set_option maxHeartbeats 4000000 in
theorem plain (l c : Int) (z : List Int) (g : Nat → List Int → List Int) (hg : EnOK g l c z en19) (x0 : Int) (hr : KsOK (shsKs SS) [x0]) : T.okJ JJ g LTrue [l, c, x0] tree := by
  refine okJ_ite (fun _ => okJ_c1 (by decide) fun _ _ => rfl) fun _ => ?_
  refine okJ_c13 (by decide) fun p1 a0 a1 a2 a3 a4 a5 a6 a7 a8 a9 a10 a11 _ => ?_
  refine okJ_c13 (by decide) fun p2 b0 b1 b2 b3 b4 b5 b6 b7 b8 b9 b10 b11 _ => ?_
  refine okJ_c13 (by decide) fun p3 c0 c1 c2 c3 c4 c5 c6 c7 c8 c9 c10 c11 _ => ?_
  refine okJ_src fun a q1 _ _ => ?_
  refine okJ_src fun f q2 _ _ => ?_
  refine okJ_c3 (by decide) fun r0 r1 r2 e0 e1 e2 => ?_
  have e0 : r0 = (g 17 [f, x0.tmod 9000, a, a0, a1, a2, a3, a4, a5, a6, a7, a8, a9, a10, a11, b0, b1, b2, b3, b4, b5, b6, b7, b8, b9, b10, b11, c0, c1, c2, c3, c4, c5, c6, c7, c8, c9, c10, c11]).getD 0 0 := e0
  have e1 : r1 = (g 17 [f, x0.tmod 9000, a, a0, a1, a2, a3, a4, a5, a6, a7, a8, a9, a10, a11, b0, b1, b2, b3, b4, b5, b6, b7, b8, b9, b10, b11, c0, c1, c2, c3, c4, c5, c6, c7, c8, c9, c10, c11]).getD 1 0 := e1
  have e2 : r2 = (g 17 [f, x0.tmod 9000, a, a0, a1, a2, a3, a4, a5, a6, a7, a8, a9, a10, a11, b0, b1, b2, b3, b4, b5, b6, b7, b8, b9, b10, b11, c0, c1, c2, c3, c4, c5, c6, c7, c8, c9, c10, c11]).getD 2 0 := e2
  rw [g17 hg] at e0 e1 e2
  refine okJ_src fun d q3 hd0 _ => ?_
  refine okJ_c3 (by decide) fun s0 s1 s2 k0 k1 k2 => ?_
  have k0 : s0 = (g 17 [f, x0.tmod 9000 + 1 + d, a, a0, a1, a2, a3, a4, a5, a6, a7, a8, a9, a10, a11, b0, b1, b2, b3, b4, b5, b6, b7, b8, b9, b10, b11, c0, c1, c2, c3, c4, c5, c6, c7, c8, c9, c10, c11]).getD 0 0 := k0
  have k1 : s1 = (g 17 [f, x0.tmod 9000 + 1 + d, a, a0, a1, a2, a3, a4, a5, a6, a7, a8, a9, a10, a11, b0, b1, b2, b3, b4, b5, b6, b7, b8, b9, b10, b11, c0, c1, c2, c3, c4, c5, c6, c7, c8, c9, c10, c11]).getD 1 0 := k1
  have k2 : s2 = (g 17 [f, x0.tmod 9000 + 1 + d, a, a0, a1, a2, a3, a4, a5, a6, a7, a8, a9, a10, a11, b0, b1, b2, b3, b4, b5, b6, b7, b8, b9, b10, b11, c0, c1, c2, c3, c4, c5, c6, c7, c8, c9, c10, c11]).getD 2 0 := k2
  rw [g17 hg] at k0 k1 k2
  have hx : 0 ≤ x0 := hr.1.1
  have hv : 0 ≤ x0.tmod 9000 := Int.tmod_nonneg _ hx
  have key : ∀ q : Int, (0 < compZ q (x0.tmod 9000) → compZ q (x0.tmod 9000) ≤ compZ q (x0.tmod 9000 + 1 + d)) ∧ (compZ q (x0.tmod 9000) < 0 → compZ q (x0.tmod 9000 + 1 + d) ≤ compZ q (x0.tmod 9000)) := fun q => compZ_grows hv (by omega)
  have leaf : ∀ (r s : Int) {q : Int}, r = compZ q (x0.tmod 9000) → s = compZ q (x0.tmod 9000 + 1 + d) → (decide (0 < r) && decide (s < r) || decide (r < 0) && decide (r < s)) = true → False := fun r s q h1 h2 h => by
    have h3 := key q
    rw [← h1, ← h2] at h3
    simp at h
    omega
  refine okJ_ite (fun h => (leaf r0 s0 e0 k0 h).elim) fun _ => ?_
  refine okJ_ite (fun h => (leaf r1 s1 e1 k1 h).elim) fun _ => ?_
  refine okJ_ite (fun h => (leaf r2 s2 e2 k2 h).elim) fun _ => ?_
  exact okJ_c1 (by decide) fun _ _ => rfl
theorem walk (a0 : Option Addr) (len0 cap0 : Nat) (z0 : List Int) (w : World) (w0 : IsRow .i64 w a0 len0 cap0 z0) (r : List Int) (hr : KsOK (shsKs SS) r) :
    Calls Try.prog 5 (.slice a0 len0 cap0 :: shsV SS r).toArray w fun e w' => e = .returned (.bool true) ∧ Below w.heap.size w w' := by
  match r, hr.length, hr with
  | [x0], _, hr => exact row_lawX w0 en19_con en19_kl tree_eq (fun g hg => plain _ _ z0 g hg _ hr) hr
end Go.Proofs.Ytapdjkiekjdgdaa.weatherGrows
