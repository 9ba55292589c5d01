/- 'dynpos/dynposlaw22.WeatherMirror': the tree of its walk; each of its leaves is true. -/
import Derived.Test.YtapdjkiekjdgdaaWMirrorP0
set_option linter.unusedSimpArgs false
set_option linter.unusedVariables false
set_option maxRecDepth 100000
namespace Go.Proofs.Ytapdjkiekjdgdaa.weatherMirror
open Go.RowKit Ev
def tree : T Leaf :=
(.ite (.lt (.lit 600) (.v 0))
 (.call 10 [] 1
 (.leaf ((.bool (.lit true)), [], []))
 )
 (.call 900 [(.lit 9), (.mn (.v 0) (.lit 600)), (.lit 0)] 2
 (.call 900 [(.lit 6), (.mn (.v 0) (.lit 600)), (.v 4)] 2
 (.call 900 [(.lit 3600), (.mn (.v 0) (.lit 600)), (.v 6)] 2
 (.call 13 [(.sub (.rem (.add (.rem (.v 2) (.lit 2001)) (.lit 2001)) (.lit 2001)) (.lit 1000)), (.sub (.rem (.add (.rem (.v 2) (.lit 2001)) (.lit 2001)) (.lit 2001)) (.lit 1000)), (.sub (.rem (.add (.rem (.v 2) (.lit 2001)) (.lit 2001)) (.lit 2001)) (.lit 1000)), (.sub (.rem (.add (.rem (.v 2) (.lit 2001)) (.lit 2001)) (.lit 2001)) (.lit 1000)), (.sub (.rem (.add (.rem (.v 2) (.lit 2001)) (.lit 2001)) (.lit 2001)) (.lit 1000)), (.sub (.rem (.add (.rem (.v 2) (.lit 2001)) (.lit 2001)) (.lit 2001)) (.lit 1000)), (.sub (.rem (.add (.rem (.v 2) (.lit 2001)) (.lit 2001)) (.lit 2001)) (.lit 1000)), (.sub (.rem (.add (.rem (.v 2) (.lit 2001)) (.lit 2001)) (.lit 2001)) (.lit 1000)), (.sub (.rem (.add (.rem (.v 2) (.lit 2001)) (.lit 2001)) (.lit 2001)) (.lit 1000)), (.sub (.rem (.add (.rem (.v 2) (.lit 2001)) (.lit 2001)) (.lit 2001)) (.lit 1000)), (.sub (.rem (.add (.rem (.v 2) (.lit 2001)) (.lit 2001)) (.lit 2001)) (.lit 1000)), (.sub (.rem (.add (.rem (.v 2) (.lit 2001)) (.lit 2001)) (.lit 2001)) (.lit 1000))] 13
 (.call 12 [(.sub (.sw (.v 3) 0 (.lit 0) (.sw (.v 3) 1 (.lit 1) (.sw (.v 3) 2 (.lit 299) (.sw (.v 3) 3 (.lit 300) (.sw (.v 3) 4 (.lit 450) (.sw (.v 3) 5 (.lit 900) (.sw (.v 3) 6 (.lit 1800) (.sw (.v 3) 7 (.lit 2701) (.lit 3599))))))))) (.v 7))] 1
 (.call 16 [(.v 9), (.v 10), (.v 11), (.v 12), (.v 13), (.v 14), (.v 15), (.v 16), (.v 17), (.v 18), (.v 19), (.v 20), (.v 22)] 1
 (.call 15 [(.mul (.mul (.v 23) (.sw (.v 5) 0 (.lit 0) (.sw (.v 5) 1 (.lit 0) (.sw (.v 5) 2 (.lit 50) (.sw (.v 5) 3 (.lit 100) (.sw (.v 5) 4 (.lit 200) (.lit 1000))))))) (.sw (.v 5) 0 (.lit 0) (.sw (.v 5) 1 (.lit 0) (.sw (.v 5) 2 (.lit 50) (.sw (.v 5) 3 (.lit 100) (.sw (.v 5) 4 (.lit 200) (.lit 1000))))))), (.lit 1000000)] 1
 (.call 12 [(.sub (.sw (.v 3) 0 (.lit 0) (.sw (.v 3) 1 (.lit 1) (.sw (.v 3) 2 (.lit 299) (.sw (.v 3) 3 (.lit 300) (.sw (.v 3) 4 (.lit 450) (.sw (.v 3) 5 (.lit 900) (.sw (.v 3) 6 (.lit 1800) (.sw (.v 3) 7 (.lit 2701) (.lit 3599))))))))) (.lit 0))] 1
 (.call 16 [(.v 9), (.v 10), (.v 11), (.v 12), (.v 13), (.v 14), (.v 15), (.v 16), (.v 17), (.v 18), (.v 19), (.v 20), (.v 25)] 1
 (.call 15 [(.mul (.mul (.v 26) (.sw (.v 5) 0 (.lit 0) (.sw (.v 5) 1 (.lit 0) (.sw (.v 5) 2 (.lit 50) (.sw (.v 5) 3 (.lit 100) (.sw (.v 5) 4 (.lit 200) (.lit 1000))))))) (.sw (.v 5) 0 (.lit 0) (.sw (.v 5) 1 (.lit 0) (.sw (.v 5) 2 (.lit 50) (.sw (.v 5) 3 (.lit 100) (.sw (.v 5) 4 (.lit 200) (.lit 1000))))))), (.lit 1000000)] 1
 (.ite (.not (.and (.eq (.v 24) (.v 27)) (.and (.eq (.v 24) (.v 27)) (.eq (.v 24) (.v 27)))))
  (.leaf ((.bool (.lit false)), [], []))
  (.call 11 [(.mn (.v 0) (.lit 600)), (.v 1), (.v 8)] 13
  (.call 11 [(.mn (.v 0) (.lit 600)), (.v 1), (.v 28)] 13
  (.call 11 [(.mn (.v 0) (.lit 600)), (.v 1), (.v 41)] 13
  (.call 900 [(.lit 12), (.mn (.v 0) (.lit 600)), (.v 54)] 2
  (.call 17 [(.mul (.quo (.sw (.v 3) 0 (.lit 0) (.sw (.v 3) 1 (.lit 1) (.sw (.v 3) 2 (.lit 299) (.sw (.v 3) 3 (.lit 300) (.sw (.v 3) 4 (.lit 450) (.sw (.v 3) 5 (.lit 900) (.sw (.v 3) 6 (.lit 1800) (.sw (.v 3) 7 (.lit 2701) (.lit 3599))))))))) (.lit 300)) (.lit 300)), (.sw (.v 5) 0 (.lit 0) (.sw (.v 5) 1 (.lit 0) (.sw (.v 5) 2 (.lit 50) (.sw (.v 5) 3 (.lit 100) (.sw (.v 5) 4 (.lit 200) (.lit 1000)))))), (.mul (.lit 300) (.v 67)), (.v 29), (.v 30), (.v 31), (.v 32), (.v 33), (.v 34), (.v 35), (.v 36), (.v 37), (.v 38), (.v 39), (.v 40), (.v 42), (.v 43), (.v 44), (.v 45), (.v 46), (.v 47), (.v 48), (.v 49), (.v 50), (.v 51), (.v 52), (.v 53), (.v 55), (.v 56), (.v 57), (.v 58), (.v 59), (.v 60), (.v 61), (.v 62), (.v 63), (.v 64), (.v 65), (.v 66)] 3
  (.call 12 [(.sub (.mul (.quo (.sw (.v 3) 0 (.lit 0) (.sw (.v 3) 1 (.lit 1) (.sw (.v 3) 2 (.lit 299) (.sw (.v 3) 3 (.lit 300) (.sw (.v 3) 4 (.lit 450) (.sw (.v 3) 5 (.lit 900) (.sw (.v 3) 6 (.lit 1800) (.sw (.v 3) 7 (.lit 2701) (.lit 3599))))))))) (.lit 300)) (.lit 300)) (.mul (.lit 300) (.v 67)))] 1
  (.call 16 [(.sub (.lit 0) (.v 29)), (.sub (.lit 0) (.v 30)), (.sub (.lit 0) (.v 31)), (.sub (.lit 0) (.v 32)), (.sub (.lit 0) (.v 33)), (.sub (.lit 0) (.v 34)), (.sub (.lit 0) (.v 35)), (.sub (.lit 0) (.v 36)), (.sub (.lit 0) (.v 37)), (.sub (.lit 0) (.v 38)), (.sub (.lit 0) (.v 39)), (.sub (.lit 0) (.v 40)), (.v 72)] 1
  (.call 15 [(.mul (.mul (.v 73) (.sw (.v 5) 0 (.lit 0) (.sw (.v 5) 1 (.lit 0) (.sw (.v 5) 2 (.lit 50) (.sw (.v 5) 3 (.lit 100) (.sw (.v 5) 4 (.lit 200) (.lit 1000))))))) (.sw (.v 5) 0 (.lit 0) (.sw (.v 5) 1 (.lit 0) (.sw (.v 5) 2 (.lit 50) (.sw (.v 5) 3 (.lit 100) (.sw (.v 5) 4 (.lit 200) (.lit 1000))))))), (.lit 1000000)] 1
  (.call 16 [(.sub (.lit 0) (.v 42)), (.sub (.lit 0) (.v 43)), (.sub (.lit 0) (.v 44)), (.sub (.lit 0) (.v 45)), (.sub (.lit 0) (.v 46)), (.sub (.lit 0) (.v 47)), (.sub (.lit 0) (.v 48)), (.sub (.lit 0) (.v 49)), (.sub (.lit 0) (.v 50)), (.sub (.lit 0) (.v 51)), (.sub (.lit 0) (.v 52)), (.sub (.lit 0) (.v 53)), (.v 72)] 1
  (.call 15 [(.mul (.mul (.v 75) (.sw (.v 5) 0 (.lit 0) (.sw (.v 5) 1 (.lit 0) (.sw (.v 5) 2 (.lit 50) (.sw (.v 5) 3 (.lit 100) (.sw (.v 5) 4 (.lit 200) (.lit 1000))))))) (.sw (.v 5) 0 (.lit 0) (.sw (.v 5) 1 (.lit 0) (.sw (.v 5) 2 (.lit 50) (.sw (.v 5) 3 (.lit 100) (.sw (.v 5) 4 (.lit 200) (.lit 1000))))))), (.lit 1000000)] 1
  (.call 16 [(.sub (.lit 0) (.v 55)), (.sub (.lit 0) (.v 56)), (.sub (.lit 0) (.v 57)), (.sub (.lit 0) (.v 58)), (.sub (.lit 0) (.v 59)), (.sub (.lit 0) (.v 60)), (.sub (.lit 0) (.v 61)), (.sub (.lit 0) (.v 62)), (.sub (.lit 0) (.v 63)), (.sub (.lit 0) (.v 64)), (.sub (.lit 0) (.v 65)), (.sub (.lit 0) (.v 66)), (.v 72)] 1
  (.call 15 [(.mul (.mul (.v 77) (.sw (.v 5) 0 (.lit 0) (.sw (.v 5) 1 (.lit 0) (.sw (.v 5) 2 (.lit 50) (.sw (.v 5) 3 (.lit 100) (.sw (.v 5) 4 (.lit 200) (.lit 1000))))))) (.sw (.v 5) 0 (.lit 0) (.sw (.v 5) 1 (.lit 0) (.sw (.v 5) 2 (.lit 50) (.sw (.v 5) 3 (.lit 100) (.sw (.v 5) 4 (.lit 200) (.lit 1000))))))), (.lit 1000000)] 1
  (.ite (.or (.lt (.add (.v 69) (.v 74)) (.lit 0)) (.lt (.lit 1) (.add (.v 69) (.v 74))))
   (.leaf ((.bool (.lit false)), [], []))
   (.ite (.or (.lt (.add (.v 70) (.v 76)) (.lit 0)) (.lt (.lit 1) (.add (.v 70) (.v 76))))
    (.leaf ((.bool (.lit false)), [], []))
    (.ite (.or (.lt (.add (.v 71) (.v 78)) (.lit 0)) (.lt (.lit 1) (.add (.v 71) (.v 78))))
     (.leaf ((.bool (.lit false)), [], []))
     (.call 10 [] 1
     (.leaf ((.bool (.lit true)), [], []))
     )
    )
   )
  )
  )
  )
  )
  )
  )
  )
  )
  )
  )
  )
  )
  )
 )
 )
 )
 )
 )
 )
 )
 )
 )
 )
 )
)
theorem root_chk : (clL (shsW SS + 2) (ltB ([] : Blks).length) (.sls 0 (.v 0) (.v 1) :: shsS SS 2) && clBs (shsW SS + 2) (ltB ([] : Blks).length) [] && clFx (shsW SS + 2) (rowFx (rngE 2 (ksRg (shsKs SS))))) = true := by kernel_rfl
theorem root_fn : LP.funcs[LG]? = some fn0 := by kernel_rfl
theorem root_body : fn0.body = some (fn0.body.getD .skip) := by kernel_rfl
theorem root_st : ({ t := (.sls 0 (.v 0) (.v 1) :: shsS SS 2) ++ List.replicate (fn0.ntmps - (.sls 0 (.v 0) (.v 1) :: shsS SS 2 : List SV).length) .undef, b := [], fx := rowFx (rngE 2 (ksRg (shsKs SS))), n := shsW SS + 2, wd := [], cs := [] } : St) = st0 := by kernel_rfl
theorem root_tree : tr0 = tree := by kernel_rfl
theorem root_ct : ct0 = .go (fn0.body.getD .skip) 0 [] := rfl
theorem root_at : (at_ LP LC LF (evD LP LC LF LD) LG LK (.go (fn0.body.getD .skip) 0 []) st0).strip = tree := (root_ct ▸ th0).trans root_tree
theorem tree_eq : (evFn Try.prog (rowCtxE (exL en19) [] hints) 60 12 4 (.sls 0 (.v 0) (.v 1) :: shsS SS 2) [] (rowFx (rngE 2 (ksRg (shsKs SS)))) (shsW SS + 2)).strip = tree :=
  evFn_at (P := LP) (C := LC) (F := LF) (d := LD) (f := LG) (fn := fn0) root_chk root_fn root_body root_st root_at
def JJ : Nat → List Int → List Int → Prop := fun _ _ _ => True
theorem okJ_cK {α : Type} {J : Nat → List Int → List Int → Prop} {g : Nat → List Int → List Int} {L : List Int → α → Prop} {ρ : List Int} {k m : Nat} {es : List E} {t : T α} {xs R : List Int} (hk : k < 900) (hx : es.map (den ρ) = xs) (he : g k xs = R) (hm : R.length = m) (h : T.okJ J g L (ρ ++ R) t) : T.okJ J g L ρ (.call k es m t) :=
  okJ_call hk (by rw [hx, he, fit_len hm]; exact h)
theorem okJ_iteK {α : Type} {J : Nat → List Int → List Int → Prop} {g : Nat → List Int → List Int} {L : List Int → α → Prop} {ρ : List Int} {b : B} {t e : T α} {b' : Bool} (hb : denB ρ b = b') (h1 : b' = true → T.okJ J g L ρ t) (h2 : b' = false → T.okJ J g L ρ e) : T.okJ J g L ρ (.ite b t e) :=
  okJ_ite (fun h => h1 (hb ▸ h)) (fun h => h2 (hb ▸ h))
theorem okJ_cE {α : Type} {J : Nat → List Int → List Int → Prop} {g : Nat → List Int → List Int} {L : List Int → α → Prop} {ρ : List Int} {k m : Nat} {es : List E} {t : T α} {R : List Int} (hk : k < 900) (he : g k (es.map (den ρ)) = R) (hm : R.length = m) (h : T.okJ J g L (ρ ++ R) t) : T.okJ J g L ρ (.call k es m t) :=
  okJ_call hk (by rw [he, fit_len hm]; exact h)
theorem P12_same (x k : Int) : P12 x x x x x x x x x x x x k = x := by unfold P12; (repeat' split) <;> rfl
theorem at_same {x a : Int} (ha : 0 ≤ a) : atZ x x x x x x x x x x x x a = x := by
  unfold atZ
  rw [P12_same, P12_same]
  have h0 := Int.tmod_nonneg 300 ha
  have h1 := Int.tmod_lt_of_pos a (show (0 : Int) < 300 by omega)
  have a1 := mixZ_lo (x := x) (y := x) h0 (by omega) (Int.le_refl x) (Int.le_refl x)
  have a2 := mixZ_hi (x := x) (y := x) h0 (by omega) (Int.le_refl x) (Int.le_refl x)
  omega
theorem P12_neg (x0 x1 x2 x3 x4 x5 x6 x7 x8 x9 x10 x11 k : Int) : P12 (0 - x0) (0 - x1) (0 - x2) (0 - x3) (0 - x4) (0 - x5) (0 - x6) (0 - x7) (0 - x8) (0 - x9) (0 - x10) (0 - x11) k = -P12 x0 x1 x2 x3 x4 x5 x6 x7 x8 x9 x10 x11 k := by
  have n : ∀ (q : Prop) [Decidable q] (x y z : Int), z = -y → (if q then 0 - x else z) = -(if q then x else y) := fun q _ x y z h => by split <;> omega
  unfold P12
  iterate 11 refine n _ _ _ _ ?_
  omega
theorem mult_tmod (q k : Int) : ((q * 300 - 300 * k) % 3600).tmod 300 = 0 := by
  have h : (q * 300 - 300 * k) % 3600 = 300 * ((q - k) % 12) := by omega
  rw [h]
  exact Int.mul_tmod_right 300 _
theorem at_mult (x0 x1 x2 x3 x4 x5 x6 x7 x8 x9 x10 x11 : Int) {a : Int} (h : a.tmod 300 = 0) : atZ x0 x1 x2 x3 x4 x5 x6 x7 x8 x9 x10 x11 a = P12 x0 x1 x2 x3 x4 x5 x6 x7 x8 x9 x10 x11 (a.tdiv 300) := by
  unfold atZ
  rw [h, mixZ_0]
theorem opp (p v : Int) : 0 ≤ compZ p v + compZ (-p) v ∧ compZ p v + compZ (-p) v ≤ 1 := by
  unfold compZ
  rw [Int.neg_mul, Int.neg_mul]
  exact halfZ_opp (by omega)

set_option maxHeartbeats 4000000 in
theorem plain (l c : Int) (z : List Int) (g : Nat → List Int → List Int) (hg : EnOK g l c z en19) (x0 : Int) (hr : KsOK (shsKs SS) [x0]) : T.okJ JJ g LTrue [l, c, x0] tree := by
  unfold tree
  refine okJ_ite (fun _ => okJ_c1 (by decide) fun _ _ => rfl) fun _ => ?_
  refine okJ_src fun d3 q4 _ _ => ?_
  refine okJ_src fun d5 q6 _ _ => ?_
  refine okJ_src fun h7 q8 h7a _ => ?_
  obtain ⟨F, hF⟩ : ∃ x, x = ((x0.tmod 2001 + 2001).tmod 2001 - 1000) := ⟨_, rfl⟩
  have m1 : 0 ≤ (AngZ d3 - h7) % 3600 := Int.emod_nonneg _ (by omega)
  have m2 : 0 ≤ (AngZ d3 - 0) % 3600 := Int.emod_nonneg _ (by omega)
  obtain ⟨a1, ha1⟩ : ∃ x, x = (AngZ d3 - h7) % 3600 := ⟨_, rfl⟩
  obtain ⟨a2, ha2⟩ : ∃ x, x = (AngZ d3 - 0) % 3600 := ⟨_, rfl⟩
  rw [← ha1] at m1
  rw [← ha2] at m2
  obtain ⟨G, hG⟩ : ∃ x, x = compZ F (SpdZ d5) := ⟨_, rfl⟩
  refine okJ_cK (by decide) (xs := [((x0.tmod 2001 + 2001).tmod 2001 - 1000), ((x0.tmod 2001 + 2001).tmod 2001 - 1000), ((x0.tmod 2001 + 2001).tmod 2001 - 1000), ((x0.tmod 2001 + 2001).tmod 2001 - 1000), ((x0.tmod 2001 + 2001).tmod 2001 - 1000), ((x0.tmod 2001 + 2001).tmod 2001 - 1000), ((x0.tmod 2001 + 2001).tmod 2001 - 1000), ((x0.tmod 2001 + 2001).tmod 2001 - 1000), ((x0.tmod 2001 + 2001).tmod 2001 - 1000), ((x0.tmod 2001 + 2001).tmod 2001 - 1000), ((x0.tmod 2001 + 2001).tmod 2001 - 1000), ((x0.tmod 2001 + 2001).tmod 2001 - 1000)]) (R := [F, F, F, F, F, F, F, F, F, F, F, F, 1]) (by kernel_rfl) (by rw [g13 hg, hF]) rfl ?_
  refine okJ_cK (by decide) (xs := [AngZ d3 - h7]) (R := [a1]) (by kernel_rfl) (by rw [g12 hg, ha1]) rfl ?_
  refine okJ_cK (by decide) (xs := [F, F, F, F, F, F, F, F, F, F, F, F, a1]) (R := [F]) (by kernel_rfl) (by rw [g16 hg, at_same m1]) rfl ?_
  refine okJ_cK (by decide) (xs := [F * SpdZ d5 * SpdZ d5, 1000000]) (R := [G]) (by kernel_rfl) (by rw [g15 hg (by decide), hG]; rfl) rfl ?_
  refine okJ_cK (by decide) (xs := [AngZ d3 - 0]) (R := [a2]) (by kernel_rfl) (by rw [g12 hg, ha2]) rfl ?_
  refine okJ_cK (by decide) (xs := [F, F, F, F, F, F, F, F, F, F, F, F, a2]) (R := [F]) (by kernel_rfl) (by rw [g16 hg, at_same m2]) rfl ?_
  refine okJ_cK (by decide) (xs := [F * SpdZ d5 * SpdZ d5, 1000000]) (R := [G]) (by kernel_rfl) (by rw [g15 hg (by decide), hG]; rfl) rfl ?_
  refine okJ_iteK (b' := !(decide (G = G) && (decide (G = G) && decide (G = G)))) (by kernel_rfl) (fun h => ?_) fun _ => ?_
  · exfalso
    rw [decide_eq_true rfl] at h
    exact absurd h (by decide)
  refine okJ_cL (by decide) fun r hr => ?_
  obtain ⟨p1, a0, a1, a2, a3, a4, a5, a6, a7, a8, a9, a10, a11, rfl⟩ : ∃ p1 a0 a1 a2 a3 a4 a5 a6 a7 a8 a9 a10 a11, r = [p1, a0, a1, a2, a3, a4, a5, a6, a7, a8, a9, a10, a11] := ⟨_, _, _, _, _, _, _, _, _, _, _, _, _, hr⟩
  clear hr
  refine okJ_cL (by decide) fun r hr => ?_
  obtain ⟨p2, b0, b1, b2, b3, b4, b5, b6, b7, b8, b9, b10, b11, rfl⟩ : ∃ p2 b0 b1 b2 b3 b4 b5 b6 b7 b8 b9 b10 b11, r = [p2, b0, b1, b2, b3, b4, b5, b6, b7, b8, b9, b10, b11] := ⟨_, _, _, _, _, _, _, _, _, _, _, _, _, hr⟩
  clear hr
  refine okJ_cL (by decide) fun r hr => ?_
  obtain ⟨p3, c0, c1, c2, c3, c4, c5, c6, c7, c8, c9, c10, c11, rfl⟩ : ∃ p3 c0 c1 c2 c3 c4 c5 c6 c7 c8 c9 c10 c11, r = [p3, c0, c1, c2, c3, c4, c5, c6, c7, c8, c9, c10, c11] := ⟨_, _, _, _, _, _, _, _, _, _, _, _, _, hr⟩
  clear hr
  refine okJ_src fun k67 q68 _ _ => ?_
  have hm : ((((AngZ d3).tdiv 300 * 300) - 300 * k67) % 3600).tmod 300 = 0 := mult_tmod _ _
  obtain ⟨A, hA⟩ : ∃ x, x = ((((AngZ d3).tdiv 300 * 300) - 300 * k67) % 3600) := ⟨_, rfl⟩
  rw [← hA] at hm
  obtain ⟨P0, hP0⟩ : ∃ x, x = compZ (atZ a0 a1 a2 a3 a4 a5 a6 a7 a8 a9 a10 a11 A) (SpdZ d5) := ⟨_, rfl⟩
  obtain ⟨N0, hN0⟩ : ∃ x, x = atZ (0 - a0) (0 - a1) (0 - a2) (0 - a3) (0 - a4) (0 - a5) (0 - a6) (0 - a7) (0 - a8) (0 - a9) (0 - a10) (0 - a11) A := ⟨_, rfl⟩
  obtain ⟨Q0, hQ0⟩ : ∃ x, x = compZ N0 (SpdZ d5) := ⟨_, rfl⟩
  have s0 : ¬ (P0 + Q0 < 0 ∨ 1 < P0 + Q0) := by
    have key := opp (P12 a0 a1 a2 a3 a4 a5 a6 a7 a8 a9 a10 a11 (A.tdiv 300)) (SpdZ d5)
    rw [hQ0, hN0, hP0, at_mult a0 a1 a2 a3 a4 a5 a6 a7 a8 a9 a10 a11 hm, at_mult (0 - a0) (0 - a1) (0 - a2) (0 - a3) (0 - a4) (0 - a5) (0 - a6) (0 - a7) (0 - a8) (0 - a9) (0 - a10) (0 - a11) hm, P12_neg]
    omega
  obtain ⟨P1, hP1⟩ : ∃ x, x = compZ (atZ b0 b1 b2 b3 b4 b5 b6 b7 b8 b9 b10 b11 A) (SpdZ d5) := ⟨_, rfl⟩
  obtain ⟨N1, hN1⟩ : ∃ x, x = atZ (0 - b0) (0 - b1) (0 - b2) (0 - b3) (0 - b4) (0 - b5) (0 - b6) (0 - b7) (0 - b8) (0 - b9) (0 - b10) (0 - b11) A := ⟨_, rfl⟩
  obtain ⟨Q1, hQ1⟩ : ∃ x, x = compZ N1 (SpdZ d5) := ⟨_, rfl⟩
  have s1 : ¬ (P1 + Q1 < 0 ∨ 1 < P1 + Q1) := by
    have key := opp (P12 b0 b1 b2 b3 b4 b5 b6 b7 b8 b9 b10 b11 (A.tdiv 300)) (SpdZ d5)
    rw [hQ1, hN1, hP1, at_mult b0 b1 b2 b3 b4 b5 b6 b7 b8 b9 b10 b11 hm, at_mult (0 - b0) (0 - b1) (0 - b2) (0 - b3) (0 - b4) (0 - b5) (0 - b6) (0 - b7) (0 - b8) (0 - b9) (0 - b10) (0 - b11) hm, P12_neg]
    omega
  obtain ⟨P2, hP2⟩ : ∃ x, x = compZ (atZ c0 c1 c2 c3 c4 c5 c6 c7 c8 c9 c10 c11 A) (SpdZ d5) := ⟨_, rfl⟩
  obtain ⟨N2, hN2⟩ : ∃ x, x = atZ (0 - c0) (0 - c1) (0 - c2) (0 - c3) (0 - c4) (0 - c5) (0 - c6) (0 - c7) (0 - c8) (0 - c9) (0 - c10) (0 - c11) A := ⟨_, rfl⟩
  obtain ⟨Q2, hQ2⟩ : ∃ x, x = compZ N2 (SpdZ d5) := ⟨_, rfl⟩
  have s2 : ¬ (P2 + Q2 < 0 ∨ 1 < P2 + Q2) := by
    have key := opp (P12 c0 c1 c2 c3 c4 c5 c6 c7 c8 c9 c10 c11 (A.tdiv 300)) (SpdZ d5)
    rw [hQ2, hN2, hP2, at_mult c0 c1 c2 c3 c4 c5 c6 c7 c8 c9 c10 c11 hm, at_mult (0 - c0) (0 - c1) (0 - c2) (0 - c3) (0 - c4) (0 - c5) (0 - c6) (0 - c7) (0 - c8) (0 - c9) (0 - c10) (0 - c11) hm, P12_neg]
    omega
  refine okJ_cK (by decide) (xs := [((AngZ d3).tdiv 300 * 300), SpdZ d5, 300 * k67, a0, a1, a2, a3, a4, a5, a6, a7, a8, a9, a10, a11, b0, b1, b2, b3, b4, b5, b6, b7, b8, b9, b10, b11, c0, c1, c2, c3, c4, c5, c6, c7, c8, c9, c10, c11]) (R := [P0, P1, P2]) (by kernel_rfl) (by rw [g17 hg, ← hA, ← hP0, ← hP1, ← hP2]) rfl ?_
  refine okJ_cK (by decide) (xs := [((AngZ d3).tdiv 300 * 300) - 300 * k67]) (R := [A]) (by kernel_rfl) (by rw [g12 hg, hA]) rfl ?_
  refine okJ_cK (by decide) (xs := [(0 - a0), (0 - a1), (0 - a2), (0 - a3), (0 - a4), (0 - a5), (0 - a6), (0 - a7), (0 - a8), (0 - a9), (0 - a10), (0 - a11), A]) (R := [N0]) (by kernel_rfl) (by rw [g16 hg, hN0]) rfl ?_
  refine okJ_cK (by decide) (xs := [N0 * SpdZ d5 * SpdZ d5, 1000000]) (R := [Q0]) (by kernel_rfl) (by rw [g15 hg (by decide), hQ0]; rfl) rfl ?_
  refine okJ_cK (by decide) (xs := [(0 - b0), (0 - b1), (0 - b2), (0 - b3), (0 - b4), (0 - b5), (0 - b6), (0 - b7), (0 - b8), (0 - b9), (0 - b10), (0 - b11), A]) (R := [N1]) (by kernel_rfl) (by rw [g16 hg, hN1]) rfl ?_
  refine okJ_cK (by decide) (xs := [N1 * SpdZ d5 * SpdZ d5, 1000000]) (R := [Q1]) (by kernel_rfl) (by rw [g15 hg (by decide), hQ1]; rfl) rfl ?_
  refine okJ_cK (by decide) (xs := [(0 - c0), (0 - c1), (0 - c2), (0 - c3), (0 - c4), (0 - c5), (0 - c6), (0 - c7), (0 - c8), (0 - c9), (0 - c10), (0 - c11), A]) (R := [N2]) (by kernel_rfl) (by rw [g16 hg, hN2]) rfl ?_
  refine okJ_cK (by decide) (xs := [N2 * SpdZ d5 * SpdZ d5, 1000000]) (R := [Q2]) (by kernel_rfl) (by rw [g15 hg (by decide), hQ2]; rfl) rfl ?_
  refine okJ_iteK (b' := (decide (P0 + Q0 < 0) || decide (1 < P0 + Q0))) (by kernel_rfl) (fun h => ?_) fun _ => ?_
  · exfalso
    simp only [Bool.or_eq_true, decide_eq_true_eq] at h
    exact s0 h
  refine okJ_iteK (b' := (decide (P1 + Q1 < 0) || decide (1 < P1 + Q1))) (by kernel_rfl) (fun h => ?_) fun _ => ?_
  · exfalso
    simp only [Bool.or_eq_true, decide_eq_true_eq] at h
    exact s1 h
  refine okJ_iteK (b' := (decide (P2 + Q2 < 0) || decide (1 < P2 + Q2))) (by kernel_rfl) (fun h => ?_) fun _ => ?_
  · exfalso
    simp only [Bool.or_eq_true, decide_eq_true_eq] at h
    exact s2 h
  exact okJ_c1 (by decide) fun _ _ => rfl
theorem walk (a0 : Option Addr) (len0 cap0 : Nat) (z0 : List Int) (w : World) (w0 : IsRow .i64 w a0 len0 cap0 z0) (r : List Int) (hr : KsOK (shsKs SS) r) :
    Calls Try.prog 4 (.slice a0 len0 cap0 :: shsV SS r).toArray w fun e w' => e = .returned (.bool true) ∧ Below w.heap.size w w' := by
  match r, hr.length, hr with
  | [x0], _, hr => exact row_lawX w0 en19_con en19_kl tree_eq (fun g hg => plain _ _ z0 g hg _ hr) hr
end Go.Proofs.Ytapdjkiekjdgdaa.weatherMirror
