/- 'dynpos/dynposlaw23.VesselRests': the tree of its walk, and that each of its leaves is true. -/
import Derived.Test.YtnnnmdmniceenaaVR
set_option linter.unusedSimpArgs false
set_option linter.unusedVariables false
set_option maxRecDepth 100000
namespace Go.Proofs.Ytnnnmdmniceenaa.vesselRests
open Go.RowKit Ev
def SS : List Sh := [.one (some .u8)]
def hints : FuncId → Nat → Option Hint := fun _ _ => none
def tree : T Leaf :=
(.ite (.lt (.lit 600) (.v 0))
 (.call 10 [] 1
 (.leaf ((.bool (.lit true)), [], []))
 )
 (.call 11 [(.mn (.v 0) (.lit 600)), (.v 1), (.lit 0)] 13
 (.call 11 [(.mn (.v 0) (.lit 600)), (.v 1), (.v 3)] 13
 (.call 11 [(.mn (.v 0) (.lit 600)), (.v 1), (.v 16)] 13
 (.call 11 [(.mn (.v 0) (.lit 600)), (.v 1), (.v 29)] 13
 (.call 11 [(.mn (.v 0) (.lit 600)), (.v 1), (.v 42)] 13
 (.call 11 [(.mn (.v 0) (.lit 600)), (.v 1), (.v 55)] 13
 (.call 11 [(.mn (.v 0) (.lit 600)), (.v 1), (.v 68)] 13
 (.call 11 [(.mn (.v 0) (.lit 600)), (.v 1), (.v 81)] 13
 (.call 11 [(.mn (.v 0) (.lit 600)), (.v 1), (.v 94)] 13
 (.call 900 [(.lit 5), (.mn (.v 0) (.lit 600)), (.v 107)] 2
 (.call 900 [(.lit 4), (.mn (.v 0) (.lit 600)), (.v 121)] 2
 (.call 900 [(.lit 4), (.mn (.v 0) (.lit 600)), (.v 123)] 2
 (.call 900 [(.lit 4), (.mn (.v 0) (.lit 600)), (.v 125)] 2
 (.call 900 [(.lit 50), (.mn (.v 0) (.lit 600)), (.v 127)] 2
 (.call 900 [(.lit 5), (.mn (.v 0) (.lit 600)), (.v 129)] 2
 (.call 900 [(.lit 4), (.mn (.v 0) (.lit 600)), (.v 131)] 2
 (.call 900 [(.lit 360000), (.mn (.v 0) (.lit 600)), (.v 133)] 2
 (.call 900 [(.lit 6001), (.mn (.v 0) (.lit 600)), (.v 135)] 2
 (.call 900 [(.lit 1801), (.mn (.v 0) (.lit 600)), (.v 137)] 2
 (.call 900 [(.lit 1001), (.mn (.v 0) (.lit 600)), (.v 139)] 2
 (.call 23 [(.sw (.v 120) 0 (.lit 1000) (.sw (.v 120) 1 (.lit 1) (.sw (.v 120) 2 (.lit 30) (.sw (.v 120) 3 (.lit 5000) (.lit 1000000))))), (.sw (.v 122) 0 (.lit 100000) (.sw (.v 122) 1 (.lit 1) (.sw (.v 122) 2 (.lit 500) (.lit 1073741824)))), (.mn (.sw (.v 124) 0 (.lit 0) (.sw (.v 124) 1 (.lit 1) (.sw (.v 124) 2 (.quo (.sw (.v 120) 0 (.lit 1000) (.sw (.v 120) 1 (.lit 1) (.sw (.v 120) 2 (.lit 30) (.sw (.v 120) 3 (.lit 5000) (.lit 1000000))))) (.lit 10)) (.sw (.v 120) 0 (.lit 1000) (.sw (.v 120) 1 (.lit 1) (.sw (.v 120) 2 (.lit 30) (.sw (.v 120) 3 (.lit 5000) (.lit 1000000)))))))) (.sw (.v 120) 0 (.lit 1000) (.sw (.v 120) 1 (.lit 1) (.sw (.v 120) 2 (.lit 30) (.sw (.v 120) 3 (.lit 5000) (.lit 1000000)))))), (.mn (.sw (.v 126) 0 (.lit 0) (.sw (.v 126) 1 (.lit 1) (.sw (.v 126) 2 (.quo (.sw (.v 122) 0 (.lit 100000) (.sw (.v 122) 1 (.lit 1) (.sw (.v 122) 2 (.lit 500) (.lit 1073741824)))) (.lit 10)) (.sw (.v 122) 0 (.lit 100000) (.sw (.v 122) 1 (.lit 1) (.sw (.v 122) 2 (.lit 500) (.lit 1073741824))))))) (.sw (.v 122) 0 (.lit 100000) (.sw (.v 122) 1 (.lit 1) (.sw (.v 122) 2 (.lit 500) (.lit 1073741824))))), (.v 128), (.sw (.v 130) 0 (.lit 0) (.sw (.v 130) 1 (.lit 50) (.sw (.v 130) 2 (.lit (-50)) (.sw (.v 130) 3 (.lit 12345) (.lit (-99999)))))), (.sw (.v 132) 0 (.lit 0) (.sw (.v 132) 1 (.lit 1) (.sw (.v 132) 2 (.lit (-149)) (.lit 700)))), (.v 134), (.lit 0), (.lit 0), (.lit 0), (.lit 0), (.lit 0), (.lit 0), (.v 2), (.v 4), (.v 5), (.v 6), (.v 7), (.v 8), (.v 9), (.v 10), (.v 11), (.v 12), (.v 13), (.v 14), (.v 15), (.v 17), (.v 18), (.v 19), (.v 20), (.v 21), (.v 22), (.v 23), (.v 24), (.v 25), (.v 26), (.v 27), (.v 28), (.v 30), (.v 31), (.v 32), (.v 33), (.v 34), (.v 35), (.v 36), (.v 37), (.v 38), (.v 39), (.v 40), (.v 41), (.v 43), (.v 44), (.v 45), (.v 46), (.v 47), (.v 48), (.v 49), (.v 50), (.v 51), (.v 52), (.v 53), (.v 54), (.v 56), (.v 57), (.v 58), (.v 59), (.v 60), (.v 61), (.v 62), (.v 63), (.v 64), (.v 65), (.v 66), (.v 67), (.v 69), (.v 70), (.v 71), (.v 72), (.v 73), (.v 74), (.v 75), (.v 76), (.v 77), (.v 78), (.v 79), (.v 80), (.v 82), (.v 83), (.v 84), (.v 85), (.v 86), (.v 87), (.v 88), (.v 89), (.v 90), (.v 91), (.v 92), (.v 93), (.v 95), (.v 96), (.v 97), (.v 98), (.v 99), (.v 100), (.v 101), (.v 102), (.v 103), (.v 104), (.v 105), (.v 106), (.v 108), (.v 109), (.v 110), (.v 111), (.v 112), (.v 113), (.v 114), (.v 115), (.v 116), (.v 117), (.v 118), (.v 119)] 8
 (.ite (.and (.eq (.v 149) (.lit 0)) (.and (.eq (.v 142) (.add (.v 128) (.v 2))) (.and (.eq (.v 143) (.sw (.v 130) 0 (.lit 0) (.sw (.v 130) 1 (.lit 50) (.sw (.v 130) 2 (.lit (-50)) (.sw (.v 130) 3 (.lit 12345) (.lit (-99999))))))) (.and (.eq (.v 144) (.sw (.v 132) 0 (.lit 0) (.sw (.v 132) 1 (.lit 1) (.sw (.v 132) 2 (.lit (-149)) (.lit 700))))) (.and (.eq (.v 145) (.v 134)) (.and (.eq (.v 146) (.lit 0)) (.and (.eq (.v 147) (.lit 0)) (.eq (.v 148) (.lit 0)))))))))
  (.call 10 [] 1
  (.leaf ((.bool (.lit true)), [], []))
  )
  (.leaf ((.bool (.lit false)), [], []))
 )
 )
 )
 )
 )
 )
 )
 )
 )
 )
 )
 )
 )
 )
 )
 )
 )
 )
 )
 )
 )
 )
)
theorem tree_eq : (evFn Try.prog (rowCtxE (exL en23) [] hints) 60 12 8 (.sls 0 (.v 0) (.v 1) :: shsS SS 2) [] (rowFx (rngE 2 (ksRg (shsKs SS)))) (shsW SS + 2)).strip = tree := by kernel_rfl
def JJ : Nat → List Int → List Int → Prop := fun _ _ _ => True
theorem okJ_cE {α : Type} {J : Nat → List Int → List Int → Prop} {g : Nat → List Int → List Int} {L : List Int → α → Prop} {ρ : List Int} {k m : Nat} {es : List E} {t : T α} {R : List Int} (hk : k < 900) (he : g k (es.map (den ρ)) = R) (hm : R.length = m) (h : T.okJ J g L (ρ ++ R) t) : T.okJ J g L ρ (.call k es m t) :=
  okJ_call hk (by rw [he, fit_len hm]; exact h)
theorem okJ_cF {α : Type} {J : Nat → List Int → List Int → Prop} {g : Nat → List Int → List Int} {L : List Int → α → Prop} {ρ s : List Int} {n k m : Nat} {es : List E} {t : T α} {R : List Int} (hl : ρ.length = n) (hc : es.all (clE n) = true) (hk : k < 900) (he : g k (es.map (den ρ)) = R) (hm : R.length = m) (h : T.okJ J g L (ρ ++ s ++ R) t) : T.okJ J g L (ρ ++ s) (.call k es m t) := by
  refine okJ_call hk ?_
  have e : es.map (den (ρ ++ s)) = es.map (den ρ) := List.map_congr_left fun x hx => clE_ok (List.all_eq_true.1 hc x hx) (by omega) _
  rw [e, he, fit_len hm]
  exact h
def xZ (m : Int) : Int := if m = 0 then 0 else if m = 1 then 50 else if m = 2 then -50 else if m = 3 then 12345 else -99999
def yZ (m : Int) : Int := if m = 0 then 0 else if m = 1 then 1 else if m = 2 then -149 else 700
theorem xZ_bd (m : Int) : -100000 ≤ xZ m ∧ xZ m ≤ 100000 := by unfold xZ; (repeat' split) <;> omega
theorem yZ_bd (m : Int) : -100000 ≤ yZ m ∧ yZ m ≤ 100000 := by unfold yZ; (repeat' split) <;> omega
theorem mod_bd {x d : Int} (hd : 0 < d) : -d < x.tmod d ∧ x.tmod d < d := ⟨Int.lt_tmod_of_pos x hd, Int.tmod_lt_of_pos x hd⟩
def massZ (m : Int) : Int := if m = 0 then 1000 else if m = 1 then 1 else if m = 2 then 30 else if m = 3 then 5000 else 1000000
def inerZ (m : Int) : Int := if m = 0 then 100000 else if m = 1 then 1 else if m = 2 then 500 else 1073741824
def dragZ (m M : Int) : Int := if M < (if m = 0 then 0 else if m = 1 then 1 else if m = 2 then M.tdiv 10 else M) then M else (if m = 0 then 0 else if m = 1 then 1 else if m = 2 then M.tdiv 10 else M)
theorem massZ_bd (m : Int) : 1 ≤ massZ m ∧ massZ m ≤ 1000000 := by unfold massZ; (repeat' split) <;> omega
theorem inerZ_bd (m : Int) : 1 ≤ inerZ m ∧ inerZ m ≤ 1073741824 := by unfold inerZ; (repeat' split) <;> omega
theorem dragZ_bd {m M : Int} (h : 1 ≤ M) : 0 ≤ dragZ m M ∧ dragZ m M ≤ M := by
  have h2 : 0 ≤ M.tdiv 10 := Int.tdiv_nonneg (by omega) (by omega)
  unfold dragZ
  (repeat' split) <;> omega
section
variable {α : Type} {J : Nat → List Int → List Int → Prop} {g : Nat → List Int → List Int} {L : List Int → α → Prop} {ρ : List Int} {es : List E} {t : T α}
theorem okJ_Sk {n : Nat} {B : Int} (hl : ρ.length = n) (hB : (es.map (den ρ)).getD 0 0 = B) (h : ∀ r : List Int, r.length = n + 2 → (∀ j, j < n → r.getD j 0 = ρ.getD j 0) → (0 ≤ r.getD n 0 ∧ (1 ≤ B → r.getD n 0 < B)) → T.okJ J g L r t) : T.okJ J g L ρ (.call 900 es 2 t) :=
  okJ_src fun v p h0 h1 => h _ (by rw [List.length_append, hl]; rfl) (fun j hj => by
    simp only [List.getD_eq_getElem?_getD]
    rw [List.getElem?_append_left (by omega)]) (by rw [getD_app hl]; exact ⟨h0, by rw [← hB]; exact h1⟩)
end
theorem okJ_Lk {α : Type} {J : Nat → List Int → List Int → Prop} {g : Nat → List Int → List Int} {L : List Int → α → Prop} {ρ : List Int} {k m : Nat} {es : List E} {t : T α} {n : Nat} (hl : ρ.length = n) (hk : k < 900) (h : ∀ r : List Int, r.length = n + m → (∀ j, j < n → r.getD j 0 = ρ.getD j 0) → T.okJ J g L r t) : T.okJ J g L ρ (.call k es m t) :=
  okJ_call hk (h _ (by rw [List.length_append, fit_length, hl]) fun j hj => getD_lt (by omega))

set_option maxHeartbeats 4000000 in
theorem plain (l c : Int) (z : List Int) (g : Nat → List Int → List Int) (hg : EnOK g l c z en23) (hl : EnLp g z en23) (x0 : Int) (hr : KsOK (shsKs SS) [x0]) : T.okJ JJ g LTrue [l, c, x0] tree := by
  unfold tree
  refine okJ_ite (fun _ => okJ_c1 (by decide) fun _ _ => rfl) fun _ => ?_
  refine okJ_Lk (n := 3) rfl (by decide) fun r0 h0 g0 => ?_
  refine okJ_Lk (n := 16) h0 (by decide) fun r1 h1 g1 => ?_
  refine okJ_Lk (n := 29) h1 (by decide) fun r2 h2 g2 => ?_
  refine okJ_Lk (n := 42) h2 (by decide) fun r3 h3 g3 => ?_
  refine okJ_Lk (n := 55) h3 (by decide) fun r4 h4 g4 => ?_
  refine okJ_Lk (n := 68) h4 (by decide) fun r5 h5 g5 => ?_
  refine okJ_Lk (n := 81) h5 (by decide) fun r6 h6 g6 => ?_
  refine okJ_Lk (n := 94) h6 (by decide) fun r7 h7 g7 => ?_
  refine okJ_Lk (n := 107) h7 (by decide) fun r8 h8 g8 => ?_
  refine okJ_Sk (n := 120) (B := 5) h8 rfl fun r9 h9 g9 f9 => ?_
  refine okJ_Sk (n := 122) (B := 4) h9 rfl fun r10 h10 g10 f10 => ?_
  refine okJ_Sk (n := 124) (B := 4) h10 rfl fun r11 h11 g11 f11 => ?_
  refine okJ_Sk (n := 126) (B := 4) h11 rfl fun r12 h12 g12 f12 => ?_
  refine okJ_Sk (n := 128) (B := 50) h12 rfl fun r13 h13 g13 f13 => ?_
  refine okJ_Sk (n := 130) (B := 5) h13 rfl fun r14 h14 g14 f14 => ?_
  refine okJ_Sk (n := 132) (B := 4) h14 rfl fun r15 h15 g15 f15 => ?_
  refine okJ_Sk (n := 134) (B := 360000) h15 rfl fun r16 h16 g16 f16 => ?_
  refine okJ_Sk (n := 136) (B := 6001) h16 rfl fun r17 h17 g17 f17 => ?_
  refine okJ_Sk (n := 138) (B := 1801) h17 rfl fun r18 h18 g18 f18 => ?_
  refine okJ_Sk (n := 140) (B := 1001) h18 rfl fun r19 h19 g19 f19 => ?_
  have hT : 0 ≤ r19.getD 128 0 ∧ r19.getD 128 0 < 50 := by
    rw [g19 128 (by omega), g18 128 (by omega), g17 128 (by omega), g16 128 (by omega), g15 128 (by omega), g14 128 (by omega)]
    exact ⟨f13.1, f13.2 (by decide)⟩
  have hC : 0 ≤ r19.getD 134 0 ∧ r19.getD 134 0 < 360000 := by
    rw [g19 134 (by omega), g18 134 (by omega), g17 134 (by omega)]
    exact ⟨f16.1, f16.2 (by decide)⟩
  have e2 : r19.getD 2 0 = x0 := by
    rw [g19 2 (by omega), g18 2 (by omega), g17 2 (by omega), g16 2 (by omega), g15 2 (by omega), g14 2 (by omega), g13 2 (by omega), g12 2 (by omega), g11 2 (by omega), g10 2 (by omega), g9 2 (by omega), g8 2 (by omega), g7 2 (by omega), g6 2 (by omega), g5 2 (by omega), g4 2 (by omega), g3 2 (by omega), g2 2 (by omega), g1 2 (by omega), g0 2 (by omega)]
    rfl
  have hx : 0 ≤ x0 ∧ x0 ≤ 255 := hr.1
  rw [← e2] at hx
  have hl9 : r19.length = 142 := h19
  generalize r19 = ρ at hT hC hx hl9 ⊢
  have hM := massZ_bd (ρ.getD 120 0)
  have hI := inerZ_bd (ρ.getD 122 0)
  have hX := xZ_bd (ρ.getD 130 0)
  have hY := yZ_bd (ρ.getD 132 0)
  refine okJ_cE (by decide) (R := [ρ.getD 128 0 + ((ρ.getD 2 0).toNat : Int), xZ (ρ.getD 130 0), yZ (ρ.getD 132 0), ρ.getD 134 0, 0, 0, 0, 0]) ((run9_it hg hl rfl hx.1).trans (itR_still (D := dragZ (ρ.getD 124 0) (massZ (ρ.getD 120 0))) (S := dragZ (ρ.getD 126 0) (inerZ (ρ.getD 122 0))) (en22_18 (en23_22 hg)) ⟨hM.1, by omega⟩ hI (show -10000000000 ≤ xZ (ρ.getD 130 0) ∧ xZ (ρ.getD 130 0) ≤ 10000000000 by omega) (show -10000000000 ≤ yZ (ρ.getD 132 0) ∧ yZ (ρ.getD 132 0) ≤ 10000000000 by omega) hC (ρ.getD 2 0).toNat (ρ.getD 128 0) (by omega))) rfl ?_
  have hlow : ∀ j, j < 142 → ∀ s, (ρ ++ s).getD j 0 = ρ.getD j 0 := fun j hj s => getD_lt (by omega)
  refine okJ_ite (fun _ => okJ_c1 (by decide) fun _ _ => rfl) fun h => ?_
  exfalso
  have a0 := getD_at hl9 0 [ρ.getD 128 0 + ((ρ.getD 2 0).toNat : Int), xZ (ρ.getD 130 0), yZ (ρ.getD 132 0), ρ.getD 134 0, 0, 0, 0, 0]
  have a1 := getD_at hl9 1 [ρ.getD 128 0 + ((ρ.getD 2 0).toNat : Int), xZ (ρ.getD 130 0), yZ (ρ.getD 132 0), ρ.getD 134 0, 0, 0, 0, 0]
  have a2 := getD_at hl9 2 [ρ.getD 128 0 + ((ρ.getD 2 0).toNat : Int), xZ (ρ.getD 130 0), yZ (ρ.getD 132 0), ρ.getD 134 0, 0, 0, 0, 0]
  have a3 := getD_at hl9 3 [ρ.getD 128 0 + ((ρ.getD 2 0).toNat : Int), xZ (ρ.getD 130 0), yZ (ρ.getD 132 0), ρ.getD 134 0, 0, 0, 0, 0]
  have a4 := getD_at hl9 4 [ρ.getD 128 0 + ((ρ.getD 2 0).toNat : Int), xZ (ρ.getD 130 0), yZ (ρ.getD 132 0), ρ.getD 134 0, 0, 0, 0, 0]
  have a5 := getD_at hl9 5 [ρ.getD 128 0 + ((ρ.getD 2 0).toNat : Int), xZ (ρ.getD 130 0), yZ (ρ.getD 132 0), ρ.getD 134 0, 0, 0, 0, 0]
  have a6 := getD_at hl9 6 [ρ.getD 128 0 + ((ρ.getD 2 0).toNat : Int), xZ (ρ.getD 130 0), yZ (ρ.getD 132 0), ρ.getD 134 0, 0, 0, 0, 0]
  have a7 := getD_at hl9 7 [ρ.getD 128 0 + ((ρ.getD 2 0).toNat : Int), xZ (ρ.getD 130 0), yZ (ρ.getD 132 0), ρ.getD 134 0, 0, 0, 0, 0]
  generalize hσ : ρ ++ [ρ.getD 128 0 + ((ρ.getD 2 0).toNat : Int), xZ (ρ.getD 130 0), yZ (ρ.getD 132 0), ρ.getD 134 0, 0, 0, 0, 0] = σ at h a0 a1 a2 a3 a4 a5 a6 a7
  have b2 : σ.getD 2 0 = ρ.getD 2 0 := by rw [← hσ]; exact hlow 2 (by omega) _
  have b128 : σ.getD 128 0 = ρ.getD 128 0 := by rw [← hσ]; exact hlow 128 (by omega) _
  have b130 : σ.getD 130 0 = ρ.getD 130 0 := by rw [← hσ]; exact hlow 130 (by omega) _
  have b132 : σ.getD 132 0 = ρ.getD 132 0 := by rw [← hσ]; exact hlow 132 (by omega) _
  have b134 : σ.getD 134 0 = ρ.getD 134 0 := by rw [← hσ]; exact hlow 134 (by omega) _
  have h : (decide (σ.getD 149 0 = 0) && (decide (σ.getD 142 0 = σ.getD 128 0 + σ.getD 2 0) && (decide (σ.getD 143 0 = xZ (σ.getD 130 0)) && (decide (σ.getD 144 0 = yZ (σ.getD 132 0)) && (decide (σ.getD 145 0 = σ.getD 134 0) && (decide (σ.getD 146 0 = 0) && (decide (σ.getD 147 0 = 0) && decide (σ.getD 148 0 = 0)))))))) = false := h
  have a0 : σ.getD 142 0 = ρ.getD 128 0 + ((ρ.getD 2 0).toNat : Int) := a0
  have a1 : σ.getD 143 0 = xZ (ρ.getD 130 0) := a1
  have a2 : σ.getD 144 0 = yZ (ρ.getD 132 0) := a2
  have a3 : σ.getD 145 0 = ρ.getD 134 0 := a3
  have a4 : σ.getD 146 0 = 0 := a4
  have a5 : σ.getD 147 0 = 0 := a5
  have a6 : σ.getD 148 0 = 0 := a6
  have a7 : σ.getD 149 0 = 0 := a7
  have hx2 : ((ρ.getD 2 0).toNat : Int) = ρ.getD 2 0 := Int.toNat_of_nonneg hx.1
  rw [a0, a1, a2, a3, a4, a5, a6, a7, b2, b128, b130, b132, b134, hx2, decide_eq_true rfl, decide_eq_true rfl, decide_eq_true rfl, decide_eq_true rfl, decide_eq_true rfl] at h
  exact absurd h (by decide)
theorem walk (a0 : Option Addr) (len0 cap0 : Nat) (z0 : List Int) (w : World) (w0 : IsRow .i64 w a0 len0 cap0 z0) (r : List Int) (hr : KsOK (shsKs SS) r) :
    Calls Try.prog 8 (.slice a0 len0 cap0 :: shsV SS r).toArray w fun e w' => e = .returned (.bool true) ∧ Below w.heap.size w w' := by
  match r, hr.length, hr with
  | [x0], _, hr => exact row_lawXL w0 en23_con en23_kl tree_eq (fun g hg hl => plain _ _ z0 g hg hl _ hr) hr
end Go.Proofs.Ytnnnmdmniceenaa.vesselRests
