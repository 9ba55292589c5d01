/- 'dynpos/dynposlaw23.VesselSteers': the tree of its walk, and that each of its leaves is true. -/
import Derived.Test.YtnnnmdmniceenaaVL
set_option linter.unusedSimpArgs false
set_option linter.unusedVariables false
set_option maxRecDepth 100000
namespace Go.Proofs.Ytnnnmdmniceenaa.vesselSteers
open Go.RowKit Ev
def SS : List Sh := []
def hints : FuncId → Nat → Option Hint := fun _ _ => none
def tree : T Leaf :=
(.ite (.lt (.lit 600) (.v 0))
 (.call 10 [] 1
 (.leaf ((.bool (.lit true)), [], []))
 )
 (.call 11 [(.mn (.v 0) (.lit 600)), (.v 1), (.lit 0)] 13
 (.call 11 [(.mn (.v 0) (.lit 600)), (.v 1), (.v 2)] 13
 (.call 11 [(.mn (.v 0) (.lit 600)), (.v 1), (.v 15)] 13
 (.call 11 [(.mn (.v 0) (.lit 600)), (.v 1), (.v 28)] 13
 (.call 11 [(.mn (.v 0) (.lit 600)), (.v 1), (.v 41)] 13
 (.call 11 [(.mn (.v 0) (.lit 600)), (.v 1), (.v 54)] 13
 (.call 11 [(.mn (.v 0) (.lit 600)), (.v 1), (.v 67)] 13
 (.call 11 [(.mn (.v 0) (.lit 600)), (.v 1), (.v 80)] 13
 (.call 11 [(.mn (.v 0) (.lit 600)), (.v 1), (.v 93)] 13
 (.call 900 [(.lit 5), (.mn (.v 0) (.lit 600)), (.v 106)] 2
 (.call 900 [(.lit 4), (.mn (.v 0) (.lit 600)), (.v 120)] 2
 (.call 900 [(.lit 4), (.mn (.v 0) (.lit 600)), (.v 122)] 2
 (.call 900 [(.lit 4), (.mn (.v 0) (.lit 600)), (.v 124)] 2
 (.call 900 [(.lit 50), (.mn (.v 0) (.lit 600)), (.v 126)] 2
 (.call 900 [(.lit 5), (.mn (.v 0) (.lit 600)), (.v 128)] 2
 (.call 900 [(.lit 4), (.mn (.v 0) (.lit 600)), (.v 130)] 2
 (.call 900 [(.lit 360000), (.mn (.v 0) (.lit 600)), (.v 132)] 2
 (.call 900 [(.lit 6001), (.mn (.v 0) (.lit 600)), (.v 134)] 2
 (.call 900 [(.lit 1801), (.mn (.v 0) (.lit 600)), (.v 136)] 2
 (.call 900 [(.lit 1001), (.mn (.v 0) (.lit 600)), (.v 138)] 2
 (.call 21 [(.sw (.v 119) 0 (.lit 1000) (.sw (.v 119) 1 (.lit 1) (.sw (.v 119) 2 (.lit 30) (.sw (.v 119) 3 (.lit 5000) (.lit 1000000))))), (.sw (.v 121) 0 (.lit 100000) (.sw (.v 121) 1 (.lit 1) (.sw (.v 121) 2 (.lit 500) (.lit 1073741824)))), (.mn (.sw (.v 123) 0 (.lit 0) (.sw (.v 123) 1 (.lit 1) (.sw (.v 123) 2 (.quo (.sw (.v 119) 0 (.lit 1000) (.sw (.v 119) 1 (.lit 1) (.sw (.v 119) 2 (.lit 30) (.sw (.v 119) 3 (.lit 5000) (.lit 1000000))))) (.lit 10)) (.sw (.v 119) 0 (.lit 1000) (.sw (.v 119) 1 (.lit 1) (.sw (.v 119) 2 (.lit 30) (.sw (.v 119) 3 (.lit 5000) (.lit 1000000)))))))) (.sw (.v 119) 0 (.lit 1000) (.sw (.v 119) 1 (.lit 1) (.sw (.v 119) 2 (.lit 30) (.sw (.v 119) 3 (.lit 5000) (.lit 1000000)))))), (.lit 0), (.v 127), (.sw (.v 129) 0 (.lit 0) (.sw (.v 129) 1 (.lit 50) (.sw (.v 129) 2 (.lit (-50)) (.sw (.v 129) 3 (.lit 12345) (.lit (-99999)))))), (.sw (.v 131) 0 (.lit 0) (.sw (.v 131) 1 (.lit 1) (.sw (.v 131) 2 (.lit (-149)) (.lit 700)))), (.lit 0), (.add (.lit (-3000)) (.v 135)), (.add (.lit (-900)) (.v 137)), (.lit 0), (.lit 0), (.lit 0), (.lit 0), (.v 3), (.v 4), (.v 5), (.v 6), (.v 7), (.v 8), (.v 9), (.v 10), (.v 11), (.v 12), (.v 13), (.v 14), (.v 16), (.v 17), (.v 18), (.v 19), (.v 20), (.v 21), (.v 22), (.v 23), (.v 24), (.v 25), (.v 26), (.v 27), (.v 29), (.v 30), (.v 31), (.v 32), (.v 33), (.v 34), (.v 35), (.v 36), (.v 37), (.v 38), (.v 39), (.v 40), (.v 42), (.v 43), (.v 44), (.v 45), (.v 46), (.v 47), (.v 48), (.v 49), (.v 50), (.v 51), (.v 52), (.v 53), (.v 55), (.v 56), (.v 57), (.v 58), (.v 59), (.v 60), (.v 61), (.v 62), (.v 63), (.v 64), (.v 65), (.v 66), (.v 68), (.v 69), (.v 70), (.v 71), (.v 72), (.v 73), (.v 74), (.v 75), (.v 76), (.v 77), (.v 78), (.v 79), (.v 81), (.v 82), (.v 83), (.v 84), (.v 85), (.v 86), (.v 87), (.v 88), (.v 89), (.v 90), (.v 91), (.v 92), (.v 94), (.v 95), (.v 96), (.v 97), (.v 98), (.v 99), (.v 100), (.v 101), (.v 102), (.v 103), (.v 104), (.v 105), (.v 107), (.v 108), (.v 109), (.v 110), (.v 111), (.v 112), (.v 113), (.v 114), (.v 115), (.v 116), (.v 117), (.v 118)] 8
 (.call 21 [(.sw (.v 119) 0 (.lit 1000) (.sw (.v 119) 1 (.lit 1) (.sw (.v 119) 2 (.lit 30) (.sw (.v 119) 3 (.lit 5000) (.lit 1000000))))), (.sw (.v 121) 0 (.lit 100000) (.sw (.v 121) 1 (.lit 1) (.sw (.v 121) 2 (.lit 500) (.lit 1073741824)))), (.mn (.sw (.v 123) 0 (.lit 0) (.sw (.v 123) 1 (.lit 1) (.sw (.v 123) 2 (.quo (.sw (.v 119) 0 (.lit 1000) (.sw (.v 119) 1 (.lit 1) (.sw (.v 119) 2 (.lit 30) (.sw (.v 119) 3 (.lit 5000) (.lit 1000000))))) (.lit 10)) (.sw (.v 119) 0 (.lit 1000) (.sw (.v 119) 1 (.lit 1) (.sw (.v 119) 2 (.lit 30) (.sw (.v 119) 3 (.lit 5000) (.lit 1000000)))))))) (.sw (.v 119) 0 (.lit 1000) (.sw (.v 119) 1 (.lit 1) (.sw (.v 119) 2 (.lit 30) (.sw (.v 119) 3 (.lit 5000) (.lit 1000000)))))), (.lit 0), (.v 127), (.sw (.v 129) 0 (.lit 0) (.sw (.v 129) 1 (.lit 50) (.sw (.v 129) 2 (.lit (-50)) (.sw (.v 129) 3 (.lit 12345) (.lit (-99999)))))), (.sw (.v 131) 0 (.lit 0) (.sw (.v 131) 1 (.lit 1) (.sw (.v 131) 2 (.lit (-149)) (.lit 700)))), (.lit 90000), (.add (.lit (-3000)) (.v 135)), (.add (.lit (-900)) (.v 137)), (.lit 0), (.lit 0), (.lit 0), (.lit 0), (.v 3), (.v 4), (.v 5), (.v 6), (.v 7), (.v 8), (.v 9), (.v 10), (.v 11), (.v 12), (.v 13), (.v 14), (.v 16), (.v 17), (.v 18), (.v 19), (.v 20), (.v 21), (.v 22), (.v 23), (.v 24), (.v 25), (.v 26), (.v 27), (.v 29), (.v 30), (.v 31), (.v 32), (.v 33), (.v 34), (.v 35), (.v 36), (.v 37), (.v 38), (.v 39), (.v 40), (.v 42), (.v 43), (.v 44), (.v 45), (.v 46), (.v 47), (.v 48), (.v 49), (.v 50), (.v 51), (.v 52), (.v 53), (.v 55), (.v 56), (.v 57), (.v 58), (.v 59), (.v 60), (.v 61), (.v 62), (.v 63), (.v 64), (.v 65), (.v 66), (.v 68), (.v 69), (.v 70), (.v 71), (.v 72), (.v 73), (.v 74), (.v 75), (.v 76), (.v 77), (.v 78), (.v 79), (.v 81), (.v 82), (.v 83), (.v 84), (.v 85), (.v 86), (.v 87), (.v 88), (.v 89), (.v 90), (.v 91), (.v 92), (.v 94), (.v 95), (.v 96), (.v 97), (.v 98), (.v 99), (.v 100), (.v 101), (.v 102), (.v 103), (.v 104), (.v 105), (.v 107), (.v 108), (.v 109), (.v 110), (.v 111), (.v 112), (.v 113), (.v 114), (.v 115), (.v 116), (.v 117), (.v 118)] 8
 (.ite (.and (.and (.and (.and (.and (.eq (.v 148) (.lit 0)) (.eq (.v 156) (.lit 0))) (.eq (.v 142) (.add (.sw (.v 129) 0 (.lit 0) (.sw (.v 129) 1 (.lit 50) (.sw (.v 129) 2 (.lit (-50)) (.sw (.v 129) 3 (.lit 12345) (.lit (-99999)))))) (.v 145)))) (.eq (.v 143) (.add (.sw (.v 131) 0 (.lit 0) (.sw (.v 131) 1 (.lit 1) (.sw (.v 131) 2 (.lit (-149)) (.lit 700)))) (.v 146)))) (.eq (.v 150) (.sub (.sw (.v 129) 0 (.lit 0) (.sw (.v 129) 1 (.lit 50) (.sw (.v 129) 2 (.lit (-50)) (.sw (.v 129) 3 (.lit 12345) (.lit (-99999)))))) (.v 154)))) (.eq (.v 151) (.add (.sw (.v 131) 0 (.lit 0) (.sw (.v 131) 1 (.lit 1) (.sw (.v 131) 2 (.lit (-149)) (.lit 700)))) (.v 153))))
  (.call 10 [] 1
  (.leaf ((.bool (.lit true)), [], []))
  )
  (.leaf ((.bool (.lit false)), [], []))
 )
 )
 )
 )
 )
 )
 )
 )
 )
 )
 )
 )
 )
 )
 )
 )
 )
 )
 )
 )
 )
 )
 )
)
theorem tree_eq : (evFn Try.prog (rowCtxE (exL en22) [] hints) 60 12 5 (.sls 0 (.v 0) (.v 1) :: shsS SS 2) [] (rowFx (rngE 2 (ksRg (shsKs SS)))) (shsW SS + 2)).strip = tree := by kernel_rfl
def JJ : Nat → List Int → List Int → Prop := fun _ _ _ => True
theorem okJ_cE {α : Type} {J : Nat → List Int → List Int → Prop} {g : Nat → List Int → List Int} {L : List Int → α → Prop} {ρ : List Int} {k m : Nat} {es : List E} {t : T α} {R : List Int} (hk : k < 900) (he : g k (es.map (den ρ)) = R) (hm : R.length = m) (h : T.okJ J g L (ρ ++ R) t) : T.okJ J g L ρ (.call k es m t) :=
  okJ_call hk (by rw [he, fit_len hm]; exact h)
theorem okJ_cF {α : Type} {J : Nat → List Int → List Int → Prop} {g : Nat → List Int → List Int} {L : List Int → α → Prop} {ρ s : List Int} {n k m : Nat} {es : List E} {t : T α} {R : List Int} (hl : ρ.length = n) (hc : es.all (clE n) = true) (hk : k < 900) (he : g k (es.map (den ρ)) = R) (hm : R.length = m) (h : T.okJ J g L (ρ ++ s ++ R) t) : T.okJ J g L (ρ ++ s) (.call k es m t) := by
  refine okJ_call hk ?_
  have e : es.map (den (ρ ++ s)) = es.map (den ρ) := List.map_congr_left fun x hx => clE_ok (List.all_eq_true.1 hc x hx) (by omega) _
  rw [e, he, fit_len hm]
  exact h
theorem getD_lt {ρ s : List Int} {j : Nat} (h : j < ρ.length) : (ρ ++ s).getD j 0 = ρ.getD j 0 := by
  simp only [List.getD_eq_getElem?_getD]
  rw [List.getElem?_append_left h]
def xZ (m : Int) : Int := if m = 0 then 0 else if m = 1 then 50 else if m = 2 then -50 else if m = 3 then 12345 else -99999
def yZ (m : Int) : Int := if m = 0 then 0 else if m = 1 then 1 else if m = 2 then -149 else 700
theorem xZ_bd (m : Int) : -100000 ≤ xZ m ∧ xZ m ≤ 100000 := by unfold xZ; (repeat' split) <;> omega
theorem yZ_bd (m : Int) : -100000 ≤ yZ m ∧ yZ m ≤ 100000 := by unfold yZ; (repeat' split) <;> omega
theorem mod_bd {x d : Int} (hd : 0 < d) : -d < x.tmod d ∧ x.tmod d < d := ⟨Int.lt_tmod_of_pos x hd, Int.tmod_lt_of_pos x hd⟩
def massZ (m : Int) : Int := if m = 0 then 1000 else if m = 1 then 1 else if m = 2 then 30 else if m = 3 then 5000 else 1000000
def inerZ (m : Int) : Int := if m = 0 then 100000 else if m = 1 then 1 else if m = 2 then 500 else 1073741824
def dragZ (m M : Int) : Int := if M < (if m = 0 then 0 else if m = 1 then 1 else if m = 2 then M.tdiv 10 else M) then M else (if m = 0 then 0 else if m = 1 then 1 else if m = 2 then M.tdiv 10 else M)
theorem massZ_bd (m : Int) : 1 ≤ massZ m ∧ massZ m ≤ 1000000 := by unfold massZ; (repeat' split) <;> omega
theorem inerZ_bd (m : Int) : 1 ≤ inerZ m ∧ inerZ m ≤ 1073741824 := by unfold inerZ; (repeat' split) <;> omega
theorem dragZ_bd {m M : Int} (h : 1 ≤ M) : 0 ≤ dragZ m M ∧ dragZ m M ≤ M := by
  have h2 : 0 ≤ M.tdiv 10 := Int.tdiv_nonneg (by omega) (by omega)
  unfold dragZ
  (repeat' split) <;> omega
section
variable {α : Type} {J : Nat → List Int → List Int → Prop} {g : Nat → List Int → List Int} {L : List Int → α → Prop} {ρ : List Int} {es : List E} {t : T α}
theorem okJ_Sk {n : Nat} {B : Int} (hl : ρ.length = n) (hB : (es.map (den ρ)).getD 0 0 = B) (h : ∀ r : List Int, r.length = n + 2 → (∀ j, j < n → r.getD j 0 = ρ.getD j 0) → (0 ≤ r.getD n 0 ∧ (1 ≤ B → r.getD n 0 < B)) → T.okJ J g L r t) : T.okJ J g L ρ (.call 900 es 2 t) :=
  okJ_src fun v p h0 h1 => h _ (by rw [List.length_append, hl]; rfl) (fun j hj => by
    simp only [List.getD_eq_getElem?_getD]
    rw [List.getElem?_append_left (by omega)]) (by rw [getD_app hl]; exact ⟨h0, by rw [← hB]; exact h1⟩)
end
theorem sin0 {l c : Int} {z : List Int} {g : Nat → List Int → List Int} (hg : EnOK g l c z en18) : sinG g 0 = 0 ∧ sinG g 900 = 10000 ∧ sinG g 1800 = 0 := ⟨(sin_at hg 0).trans rfl, (sin_at hg 900).trans rfl, (sin_at hg 1800).trans rfl⟩
theorem cos0 {l c : Int} {z : List Int} {g : Nat → List Int → List Int} (hg : EnOK g l c z en18) : cosG g 0 = 10000 ∧ cosG g 900 = 0 := by
  obtain ⟨h0, h1, h2⟩ := sin0 hg
  constructor
  · rw [cos_at hg]
    show (if (-160010 : Int) < (if (g 17 [900]).getD 0 0 < 160010 then (g 17 [900]).getD 0 0 else 160010) then (if (g 17 [900]).getD 0 0 < 160010 then (g 17 [900]).getD 0 0 else 160010) else -160010) = 10000
    rw [show (g 17 [900]).getD 0 0 = 10000 from h1]; rfl
  · rw [cos_at hg]
    show (if (-160010 : Int) < (if (g 17 [1800]).getD 0 0 < 160010 then (g 17 [1800]).getD 0 0 else 160010) then (if (g 17 [1800]).getD 0 0 < 160010 then (g 17 [1800]).getD 0 0 else 160010) else -160010) = 0
    rw [show (g 17 [1800]).getD 0 0 = 0 from h2]; rfl
theorem d0 {l c : Int} {z : List Int} {g : Nat → List Int → List Int} (hg : EnOK g l c z en18) (u w : Int) : dxZ g u w 0 = u ∧ dyZ g u w 0 = w ∧ dxZ g u w 900 = -w ∧ dyZ g u w 900 = u := by
  obtain ⟨s0, s9, _⟩ := sin0 hg
  obtain ⟨c0, c9⟩ := cos0 hg
  unfold dxZ dyZ
  rw [s0, s9, c0, c9]
  refine ⟨?_, ?_, ?_, ?_⟩
  · rw [show u * 10000 - w * 0 = 10000 * u by omega, halfZ_mul (by omega)]
  · rw [show u * 0 + w * 10000 = 10000 * w by omega, halfZ_mul (by omega)]
  · rw [show u * 0 - w * 10000 = 10000 * (-w) by omega, halfZ_mul (by omega)]
  · rw [show u * 10000 + w * 0 = 10000 * u by omega, halfZ_mul (by omega)]
theorem ns00 {I : Int} (hI : 1 ≤ I) : nsZ 0 0 0 I = 0 := by unfold nsZ; rw [show (10000 : Int) * 0 - 0 * 0 = 0 from rfl, halfZ_zero (by omega)]; rfl

set_option maxHeartbeats 4000000 in
theorem plain (l c : Int) (z : List Int) (g : Nat → List Int → List Int) (hg : EnOK g l c z en22) (hr : KsOK (shsKs SS) []) : T.okJ JJ g LTrue [l, c] tree := by
  unfold tree
  refine okJ_ite (fun _ => okJ_c1 (by decide) fun _ _ => rfl) fun _ => ?_
  refine okJ_L (n := 2) rfl (by decide) fun r0 h0 => ?_
  refine okJ_L (n := 15) h0 (by decide) fun r1 h1 => ?_
  refine okJ_L (n := 28) h1 (by decide) fun r2 h2 => ?_
  refine okJ_L (n := 41) h2 (by decide) fun r3 h3 => ?_
  refine okJ_L (n := 54) h3 (by decide) fun r4 h4 => ?_
  refine okJ_L (n := 67) h4 (by decide) fun r5 h5 => ?_
  refine okJ_L (n := 80) h5 (by decide) fun r6 h6 => ?_
  refine okJ_L (n := 93) h6 (by decide) fun r7 h7 => ?_
  refine okJ_L (n := 106) h7 (by decide) fun r8 h8 => ?_
  refine okJ_Sk (n := 119) (B := 5) h8 rfl fun r9 h9 g9 f9 => ?_
  refine okJ_Sk (n := 121) (B := 4) h9 rfl fun r10 h10 g10 f10 => ?_
  refine okJ_Sk (n := 123) (B := 4) h10 rfl fun r11 h11 g11 f11 => ?_
  refine okJ_Sk (n := 125) (B := 4) h11 rfl fun r12 h12 g12 f12 => ?_
  refine okJ_Sk (n := 127) (B := 50) h12 rfl fun r13 h13 g13 f13 => ?_
  refine okJ_Sk (n := 129) (B := 5) h13 rfl fun r14 h14 g14 f14 => ?_
  refine okJ_Sk (n := 131) (B := 4) h14 rfl fun r15 h15 g15 f15 => ?_
  refine okJ_Sk (n := 133) (B := 360000) h15 rfl fun r16 h16 g16 f16 => ?_
  refine okJ_Sk (n := 135) (B := 6001) h16 rfl fun r17 h17 g17 f17 => ?_
  refine okJ_Sk (n := 137) (B := 1801) h17 rfl fun r18 h18 g18 f18 => ?_
  refine okJ_Sk (n := 139) (B := 1001) h18 rfl fun r19 h19 g19 f19 => ?_
  have hT : 0 ≤ r19.getD 127 0 ∧ r19.getD 127 0 < 50 := by
    rw [g19 127 (by omega), g18 127 (by omega), g17 127 (by omega), g16 127 (by omega), g15 127 (by omega), g14 127 (by omega)]
    exact ⟨f13.1, f13.2 (by decide)⟩
  have hsu : 0 ≤ r19.getD 135 0 ∧ r19.getD 135 0 < 6001 := by
    rw [g19 135 (by omega), g18 135 (by omega)]
    exact ⟨f17.1, f17.2 (by decide)⟩
  have hsw : 0 ≤ r19.getD 137 0 ∧ r19.getD 137 0 < 1801 := by
    rw [g19 137 (by omega)]
    exact ⟨f18.1, f18.2 (by decide)⟩
  have hl : r19.length = 141 := h19
  generalize r19 = ρ at hT hsu hsw hl ⊢
  have hM := massZ_bd (ρ.getD 119 0)
  have hI := inerZ_bd (ρ.getD 121 0)
  have hD := dragZ_bd (m := ρ.getD 123 0) hM.1
  have hX := xZ_bd (ρ.getD 129 0)
  have hY := yZ_bd (ρ.getD 131 0)
  have k1 := drag_bd (s := -3000 + ρ.getD 135 0) hD.1 hD.2 hM.1
  have k2 := drag_bd (s := -900 + ρ.getD 137 0) hD.1 hD.2 hM.1
  have k3 := ns00 hI.1
  have n1 : -100000 ≤ nsZ (-3000 + ρ.getD 135 0) (dragZ (ρ.getD 123 0) (massZ (ρ.getD 119 0))) 0 (massZ (ρ.getD 119 0)) ∧ nsZ (-3000 + ρ.getD 135 0) (dragZ (ρ.getD 123 0) (massZ (ρ.getD 119 0))) 0 (massZ (ρ.getD 119 0)) ≤ 100000 := by
    unfold nsZ
    rcases Int.le_total 0 (-3000 + ρ.getD 135 0) with h | h
    · have := k1.1 h; omega
    · have := k1.2 h; omega
  have n2 : -100000 ≤ nsZ (-900 + ρ.getD 137 0) (dragZ (ρ.getD 123 0) (massZ (ρ.getD 119 0))) 0 (massZ (ρ.getD 119 0)) ∧ nsZ (-900 + ρ.getD 137 0) (dragZ (ρ.getD 123 0) (massZ (ρ.getD 119 0))) 0 (massZ (ρ.getD 119 0)) ≤ 100000 := by
    unfold nsZ
    rcases Int.le_total 0 (-900 + ρ.getD 137 0) with h | h
    · have := k2.1 h; omega
    · have := k2.2 h; omega
  have m1 := mul_bd (x := dragZ (ρ.getD 123 0) (massZ (ρ.getD 119 0))) (y := -3000 + ρ.getD 135 0) (a := 1000000) (b := 10000) (by omega) (by omega) (by omega) (by omega) (by omega) (by omega)
  have m2 := mul_bd (x := dragZ (ρ.getD 123 0) (massZ (ρ.getD 119 0))) (y := -900 + ρ.getD 137 0) (a := 1000000) (b := 10000) (by omega) (by omega) (by omega) (by omega) (by omega) (by omega)
  have s1 := fun {k0_ k1_ k2_ k3_ k4_ k5_ k6_ k7_ k8_ k9_ k10_ k11_ k12_ k13_ k14_ k15_ k16_ k17_ k18_ k19_ k20_ k21_ k22_ k23_ k24_ k25_ k26_ k27_ k28_ k29_ k30_ k31_ k32_ k33_ k34_ k35_ k36_ k37_ k38_ k39_ k40_ k41_ k42_ k43_ k44_ k45_ k46_ k47_ k48_ k49_ k50_ k51_ k52_ k53_ k54_ k55_ k56_ k57_ k58_ k59_ k60_ k61_ k62_ k63_ k64_ k65_ k66_ k67_ k68_ k69_ k70_ k71_ k72_ k73_ k74_ k75_ k76_ k77_ k78_ k79_ k80_ k81_ k82_ k83_ k84_ k85_ k86_ k87_ k88_ k89_ k90_ k91_ k92_ k93_ k94_ k95_ k96_ k97_ k98_ k99_ k100_ k101_ k102_ k103_ k104_ k105_ k106_ k107_ : Int} => step9_ok (k0 := k0_) (k1 := k1_) (k2 := k2_) (k3 := k3_) (k4 := k4_) (k5 := k5_) (k6 := k6_) (k7 := k7_) (k8 := k8_) (k9 := k9_) (k10 := k10_) (k11 := k11_) (k12 := k12_) (k13 := k13_) (k14 := k14_) (k15 := k15_) (k16 := k16_) (k17 := k17_) (k18 := k18_) (k19 := k19_) (k20 := k20_) (k21 := k21_) (k22 := k22_) (k23 := k23_) (k24 := k24_) (k25 := k25_) (k26 := k26_) (k27 := k27_) (k28 := k28_) (k29 := k29_) (k30 := k30_) (k31 := k31_) (k32 := k32_) (k33 := k33_) (k34 := k34_) (k35 := k35_) (k36 := k36_) (k37 := k37_) (k38 := k38_) (k39 := k39_) (k40 := k40_) (k41 := k41_) (k42 := k42_) (k43 := k43_) (k44 := k44_) (k45 := k45_) (k46 := k46_) (k47 := k47_) (k48 := k48_) (k49 := k49_) (k50 := k50_) (k51 := k51_) (k52 := k52_) (k53 := k53_) (k54 := k54_) (k55 := k55_) (k56 := k56_) (k57 := k57_) (k58 := k58_) (k59 := k59_) (k60 := k60_) (k61 := k61_) (k62 := k62_) (k63 := k63_) (k64 := k64_) (k65 := k65_) (k66 := k66_) (k67 := k67_) (k68 := k68_) (k69 := k69_) (k70 := k70_) (k71 := k71_) (k72 := k72_) (k73 := k73_) (k74 := k74_) (k75 := k75_) (k76 := k76_) (k77 := k77_) (k78 := k78_) (k79 := k79_) (k80 := k80_) (k81 := k81_) (k82 := k82_) (k83 := k83_) (k84 := k84_) (k85 := k85_) (k86 := k86_) (k87 := k87_) (k88 := k88_) (k89 := k89_) (k90 := k90_) (k91 := k91_) (k92 := k92_) (k93 := k93_) (k94 := k94_) (k95 := k95_) (k96 := k96_) (k97 := k97_) (k98 := k98_) (k99 := k99_) (k100 := k100_) (k101 := k101_) (k102 := k102_) (k103 := k103_) (k104 := k104_) (k105 := k105_) (k106 := k106_) (k107 := k107_) hg (M := massZ (ρ.getD 119 0)) (I := inerZ (ρ.getD 121 0)) (D := dragZ (ρ.getD 123 0) (massZ (ρ.getD 119 0))) (S := 0) (T := ρ.getD 127 0) (X := xZ (ρ.getD 129 0)) (Y := yZ (ρ.getD 131 0)) (C := 0) (su := -3000 + ρ.getD 135 0) (sw := -900 + ρ.getD 137 0) (tu := 0) (a := 0) (b := 0) (e := 0)
    hM.1 hI.1 (by omega) (by omega) (by omega) n1 n2 (by rw [k3]; omega) (by omega) hI.2 (by omega) (by omega) (by decide)
  have s2 := fun {k0_ k1_ k2_ k3_ k4_ k5_ k6_ k7_ k8_ k9_ k10_ k11_ k12_ k13_ k14_ k15_ k16_ k17_ k18_ k19_ k20_ k21_ k22_ k23_ k24_ k25_ k26_ k27_ k28_ k29_ k30_ k31_ k32_ k33_ k34_ k35_ k36_ k37_ k38_ k39_ k40_ k41_ k42_ k43_ k44_ k45_ k46_ k47_ k48_ k49_ k50_ k51_ k52_ k53_ k54_ k55_ k56_ k57_ k58_ k59_ k60_ k61_ k62_ k63_ k64_ k65_ k66_ k67_ k68_ k69_ k70_ k71_ k72_ k73_ k74_ k75_ k76_ k77_ k78_ k79_ k80_ k81_ k82_ k83_ k84_ k85_ k86_ k87_ k88_ k89_ k90_ k91_ k92_ k93_ k94_ k95_ k96_ k97_ k98_ k99_ k100_ k101_ k102_ k103_ k104_ k105_ k106_ k107_ : Int} => step9_ok (k0 := k0_) (k1 := k1_) (k2 := k2_) (k3 := k3_) (k4 := k4_) (k5 := k5_) (k6 := k6_) (k7 := k7_) (k8 := k8_) (k9 := k9_) (k10 := k10_) (k11 := k11_) (k12 := k12_) (k13 := k13_) (k14 := k14_) (k15 := k15_) (k16 := k16_) (k17 := k17_) (k18 := k18_) (k19 := k19_) (k20 := k20_) (k21 := k21_) (k22 := k22_) (k23 := k23_) (k24 := k24_) (k25 := k25_) (k26 := k26_) (k27 := k27_) (k28 := k28_) (k29 := k29_) (k30 := k30_) (k31 := k31_) (k32 := k32_) (k33 := k33_) (k34 := k34_) (k35 := k35_) (k36 := k36_) (k37 := k37_) (k38 := k38_) (k39 := k39_) (k40 := k40_) (k41 := k41_) (k42 := k42_) (k43 := k43_) (k44 := k44_) (k45 := k45_) (k46 := k46_) (k47 := k47_) (k48 := k48_) (k49 := k49_) (k50 := k50_) (k51 := k51_) (k52 := k52_) (k53 := k53_) (k54 := k54_) (k55 := k55_) (k56 := k56_) (k57 := k57_) (k58 := k58_) (k59 := k59_) (k60 := k60_) (k61 := k61_) (k62 := k62_) (k63 := k63_) (k64 := k64_) (k65 := k65_) (k66 := k66_) (k67 := k67_) (k68 := k68_) (k69 := k69_) (k70 := k70_) (k71 := k71_) (k72 := k72_) (k73 := k73_) (k74 := k74_) (k75 := k75_) (k76 := k76_) (k77 := k77_) (k78 := k78_) (k79 := k79_) (k80 := k80_) (k81 := k81_) (k82 := k82_) (k83 := k83_) (k84 := k84_) (k85 := k85_) (k86 := k86_) (k87 := k87_) (k88 := k88_) (k89 := k89_) (k90 := k90_) (k91 := k91_) (k92 := k92_) (k93 := k93_) (k94 := k94_) (k95 := k95_) (k96 := k96_) (k97 := k97_) (k98 := k98_) (k99 := k99_) (k100 := k100_) (k101 := k101_) (k102 := k102_) (k103 := k103_) (k104 := k104_) (k105 := k105_) (k106 := k106_) (k107 := k107_) hg (M := massZ (ρ.getD 119 0)) (I := inerZ (ρ.getD 121 0)) (D := dragZ (ρ.getD 123 0) (massZ (ρ.getD 119 0))) (S := 0) (T := ρ.getD 127 0) (X := xZ (ρ.getD 129 0)) (Y := yZ (ρ.getD 131 0)) (C := 90000) (su := -3000 + ρ.getD 135 0) (sw := -900 + ρ.getD 137 0) (tu := 0) (a := 0) (b := 0) (e := 0)
    hM.1 hI.1 (by omega) (by omega) (by omega) n1 n2 (by rw [k3]; omega) (by omega) hI.2 (by omega) (by omega) (by decide)
  rw [k3, show hdZ 0 0 = 0 from rfl, (d0 (en22_18 hg) _ _).1, (d0 (en22_18 hg) _ _).2.1] at s1
  rw [k3, show hdZ 90000 0 = 900 from rfl, (d0 (en22_18 hg) _ _).2.2.1, (d0 (en22_18 hg) _ _).2.2.2] at s2
  generalize nsZ (-3000 + ρ.getD 135 0) (dragZ (ρ.getD 123 0) (massZ (ρ.getD 119 0))) 0 (massZ (ρ.getD 119 0)) = U at s1 s2
  generalize nsZ (-900 + ρ.getD 137 0) (dragZ (ρ.getD 123 0) (massZ (ρ.getD 119 0))) 0 (massZ (ρ.getD 119 0)) = V at s1 s2
  refine okJ_cE (by decide) (R := [ρ.getD 127 0 + 1, xZ (ρ.getD 129 0) + U, yZ (ρ.getD 131 0) + V, (0 + 0) % 360000, U, V, 0, 0]) s1 rfl ?_
  refine okJ_cF hl (by kernel_rfl) (by decide) (R := [ρ.getD 127 0 + 1, xZ (ρ.getD 129 0) + -V, yZ (ρ.getD 131 0) + U, (90000 + 0) % 360000, U, V, 0, 0]) s2 rfl ?_
  refine okJ_ite (fun _ => okJ_c1 (by decide) fun _ _ => rfl) fun h => ?_
  exfalso
  have h : (decide ((ρ ++ [ρ.getD 127 0 + 1, xZ (ρ.getD 129 0) + U, yZ (ρ.getD 131 0) + V, (0 + 0) % 360000, U, V, 0, 0] ++ [ρ.getD 127 0 + 1, xZ (ρ.getD 129 0) + -V, yZ (ρ.getD 131 0) + U, (90000 + 0) % 360000, U, V, 0, 0]).getD 148 0 = 0) && decide ((ρ ++ [ρ.getD 127 0 + 1, xZ (ρ.getD 129 0) + U, yZ (ρ.getD 131 0) + V, (0 + 0) % 360000, U, V, 0, 0] ++ [ρ.getD 127 0 + 1, xZ (ρ.getD 129 0) + -V, yZ (ρ.getD 131 0) + U, (90000 + 0) % 360000, U, V, 0, 0]).getD 156 0 = 0) && decide ((ρ ++ [ρ.getD 127 0 + 1, xZ (ρ.getD 129 0) + U, yZ (ρ.getD 131 0) + V, (0 + 0) % 360000, U, V, 0, 0] ++ [ρ.getD 127 0 + 1, xZ (ρ.getD 129 0) + -V, yZ (ρ.getD 131 0) + U, (90000 + 0) % 360000, U, V, 0, 0]).getD 142 0 = xZ ((ρ ++ [ρ.getD 127 0 + 1, xZ (ρ.getD 129 0) + U, yZ (ρ.getD 131 0) + V, (0 + 0) % 360000, U, V, 0, 0] ++ [ρ.getD 127 0 + 1, xZ (ρ.getD 129 0) + -V, yZ (ρ.getD 131 0) + U, (90000 + 0) % 360000, U, V, 0, 0]).getD 129 0) + (ρ ++ [ρ.getD 127 0 + 1, xZ (ρ.getD 129 0) + U, yZ (ρ.getD 131 0) + V, (0 + 0) % 360000, U, V, 0, 0] ++ [ρ.getD 127 0 + 1, xZ (ρ.getD 129 0) + -V, yZ (ρ.getD 131 0) + U, (90000 + 0) % 360000, U, V, 0, 0]).getD 145 0) && decide ((ρ ++ [ρ.getD 127 0 + 1, xZ (ρ.getD 129 0) + U, yZ (ρ.getD 131 0) + V, (0 + 0) % 360000, U, V, 0, 0] ++ [ρ.getD 127 0 + 1, xZ (ρ.getD 129 0) + -V, yZ (ρ.getD 131 0) + U, (90000 + 0) % 360000, U, V, 0, 0]).getD 143 0 = yZ ((ρ ++ [ρ.getD 127 0 + 1, xZ (ρ.getD 129 0) + U, yZ (ρ.getD 131 0) + V, (0 + 0) % 360000, U, V, 0, 0] ++ [ρ.getD 127 0 + 1, xZ (ρ.getD 129 0) + -V, yZ (ρ.getD 131 0) + U, (90000 + 0) % 360000, U, V, 0, 0]).getD 131 0) + (ρ ++ [ρ.getD 127 0 + 1, xZ (ρ.getD 129 0) + U, yZ (ρ.getD 131 0) + V, (0 + 0) % 360000, U, V, 0, 0] ++ [ρ.getD 127 0 + 1, xZ (ρ.getD 129 0) + -V, yZ (ρ.getD 131 0) + U, (90000 + 0) % 360000, U, V, 0, 0]).getD 146 0) && decide ((ρ ++ [ρ.getD 127 0 + 1, xZ (ρ.getD 129 0) + U, yZ (ρ.getD 131 0) + V, (0 + 0) % 360000, U, V, 0, 0] ++ [ρ.getD 127 0 + 1, xZ (ρ.getD 129 0) + -V, yZ (ρ.getD 131 0) + U, (90000 + 0) % 360000, U, V, 0, 0]).getD 150 0 = xZ ((ρ ++ [ρ.getD 127 0 + 1, xZ (ρ.getD 129 0) + U, yZ (ρ.getD 131 0) + V, (0 + 0) % 360000, U, V, 0, 0] ++ [ρ.getD 127 0 + 1, xZ (ρ.getD 129 0) + -V, yZ (ρ.getD 131 0) + U, (90000 + 0) % 360000, U, V, 0, 0]).getD 129 0) - (ρ ++ [ρ.getD 127 0 + 1, xZ (ρ.getD 129 0) + U, yZ (ρ.getD 131 0) + V, (0 + 0) % 360000, U, V, 0, 0] ++ [ρ.getD 127 0 + 1, xZ (ρ.getD 129 0) + -V, yZ (ρ.getD 131 0) + U, (90000 + 0) % 360000, U, V, 0, 0]).getD 154 0) && decide ((ρ ++ [ρ.getD 127 0 + 1, xZ (ρ.getD 129 0) + U, yZ (ρ.getD 131 0) + V, (0 + 0) % 360000, U, V, 0, 0] ++ [ρ.getD 127 0 + 1, xZ (ρ.getD 129 0) + -V, yZ (ρ.getD 131 0) + U, (90000 + 0) % 360000, U, V, 0, 0]).getD 151 0 = yZ ((ρ ++ [ρ.getD 127 0 + 1, xZ (ρ.getD 129 0) + U, yZ (ρ.getD 131 0) + V, (0 + 0) % 360000, U, V, 0, 0] ++ [ρ.getD 127 0 + 1, xZ (ρ.getD 129 0) + -V, yZ (ρ.getD 131 0) + U, (90000 + 0) % 360000, U, V, 0, 0]).getD 131 0) + (ρ ++ [ρ.getD 127 0 + 1, xZ (ρ.getD 129 0) + U, yZ (ρ.getD 131 0) + V, (0 + 0) % 360000, U, V, 0, 0] ++ [ρ.getD 127 0 + 1, xZ (ρ.getD 129 0) + -V, yZ (ρ.getD 131 0) + U, (90000 + 0) % 360000, U, V, 0, 0]).getD 153 0)) = false := h
  rw [List.append_assoc, getD_at hl 7, getD_at hl 15, getD_at hl 1, getD_at hl 4, getD_at hl 2, getD_at hl 5, getD_at hl 9, getD_at hl 13, getD_at hl 10, getD_at hl 12, getD_lt (show 129 < ρ.length by omega), getD_lt (show 131 < ρ.length by omega)] at h
  have h : (decide ((0 : Int) = 0) && decide ((0 : Int) = 0) && decide (xZ (ρ.getD 129 0) + U = xZ (ρ.getD 129 0) + U) && decide (yZ (ρ.getD 131 0) + V = yZ (ρ.getD 131 0) + V) && decide (xZ (ρ.getD 129 0) + -V = xZ (ρ.getD 129 0) - V) && decide (yZ (ρ.getD 131 0) + U = yZ (ρ.getD 131 0) + U)) = false := h
  rw [show xZ (ρ.getD 129 0) + -V = xZ (ρ.getD 129 0) - V by omega] at h
  simp at h
theorem walk (a0 : Option Addr) (len0 cap0 : Nat) (z0 : List Int) (w : World) (w0 : IsRow .i64 w a0 len0 cap0 z0) (r : List Int) (hr : KsOK (shsKs SS) r) :
    Calls Try.prog 5 (.slice a0 len0 cap0 :: shsV SS r).toArray w fun e w' => e = .returned (.bool true) ∧ Below w.heap.size w w' := by
  match r, hr.length, hr with
  | [], _, hr => exact row_lawX w0 en22_con en22_kl tree_eq (fun g hg => plain _ _ z0 g hg hr) hr
end Go.Proofs.Ytnnnmdmniceenaa.vesselSteers
