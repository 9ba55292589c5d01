/- 'dynpos/dynposlaw23.VesselSplits': the tree of its walk, and that each of its leaves is true. -/
import Derived.Test.YtnnnmdmniceenaaVR
set_option linter.unusedSimpArgs false
set_option linter.unusedVariables false
set_option maxRecDepth 100000
namespace Go.Proofs.Ytnnnmdmniceenaa.vesselSplits
open Go.RowKit Ev
def SS : List Sh := [.one (some .u8), .one (some .u8)]
def hints : FuncId → Nat → Option Hint := fun _ _ => none
def tree : T Leaf :=
(.ite (.lt (.lit 600) (.v 0))
 (.call 10 [] 1
 (.leaf ((.bool (.lit true)), [], []))
 )
 (.call 11 [(.mn (.v 0) (.lit 600)), (.v 1), (.lit 0)] 13
 (.call 11 [(.mn (.v 0) (.lit 600)), (.v 1), (.v 4)] 13
 (.call 11 [(.mn (.v 0) (.lit 600)), (.v 1), (.v 17)] 13
 (.call 11 [(.mn (.v 0) (.lit 600)), (.v 1), (.v 30)] 13
 (.call 11 [(.mn (.v 0) (.lit 600)), (.v 1), (.v 43)] 13
 (.call 11 [(.mn (.v 0) (.lit 600)), (.v 1), (.v 56)] 13
 (.call 11 [(.mn (.v 0) (.lit 600)), (.v 1), (.v 69)] 13
 (.call 11 [(.mn (.v 0) (.lit 600)), (.v 1), (.v 82)] 13
 (.call 11 [(.mn (.v 0) (.lit 600)), (.v 1), (.v 95)] 13
 (.call 900 [(.lit 5), (.mn (.v 0) (.lit 600)), (.v 108)] 2
 (.call 900 [(.lit 4), (.mn (.v 0) (.lit 600)), (.v 122)] 2
 (.call 900 [(.lit 4), (.mn (.v 0) (.lit 600)), (.v 124)] 2
 (.call 900 [(.lit 4), (.mn (.v 0) (.lit 600)), (.v 126)] 2
 (.call 900 [(.lit 50), (.mn (.v 0) (.lit 600)), (.v 128)] 2
 (.call 900 [(.lit 5), (.mn (.v 0) (.lit 600)), (.v 130)] 2
 (.call 900 [(.lit 4), (.mn (.v 0) (.lit 600)), (.v 132)] 2
 (.call 900 [(.lit 360000), (.mn (.v 0) (.lit 600)), (.v 134)] 2
 (.call 900 [(.lit 6001), (.mn (.v 0) (.lit 600)), (.v 136)] 2
 (.call 900 [(.lit 1801), (.mn (.v 0) (.lit 600)), (.v 138)] 2
 (.call 900 [(.lit 1001), (.mn (.v 0) (.lit 600)), (.v 140)] 2
 (.call 900 [(.lit 121), (.mn (.v 0) (.lit 600)), (.v 142)] 2
 (.call 900 [(.lit 121), (.mn (.v 0) (.lit 600)), (.v 144)] 2
 (.call 900 [(.lit 1801), (.mn (.v 0) (.lit 600)), (.v 146)] 2
 (.call 23 [(.sw (.v 121) 0 (.lit 1000) (.sw (.v 121) 1 (.lit 1) (.sw (.v 121) 2 (.lit 30) (.sw (.v 121) 3 (.lit 5000) (.lit 1000000))))), (.sw (.v 123) 0 (.lit 100000) (.sw (.v 123) 1 (.lit 1) (.sw (.v 123) 2 (.lit 500) (.lit 1073741824)))), (.mn (.sw (.v 125) 0 (.lit 0) (.sw (.v 125) 1 (.lit 1) (.sw (.v 125) 2 (.quo (.sw (.v 121) 0 (.lit 1000) (.sw (.v 121) 1 (.lit 1) (.sw (.v 121) 2 (.lit 30) (.sw (.v 121) 3 (.lit 5000) (.lit 1000000))))) (.lit 10)) (.sw (.v 121) 0 (.lit 1000) (.sw (.v 121) 1 (.lit 1) (.sw (.v 121) 2 (.lit 30) (.sw (.v 121) 3 (.lit 5000) (.lit 1000000)))))))) (.sw (.v 121) 0 (.lit 1000) (.sw (.v 121) 1 (.lit 1) (.sw (.v 121) 2 (.lit 30) (.sw (.v 121) 3 (.lit 5000) (.lit 1000000)))))), (.mn (.sw (.v 127) 0 (.lit 0) (.sw (.v 127) 1 (.lit 1) (.sw (.v 127) 2 (.quo (.sw (.v 123) 0 (.lit 100000) (.sw (.v 123) 1 (.lit 1) (.sw (.v 123) 2 (.lit 500) (.lit 1073741824)))) (.lit 10)) (.sw (.v 123) 0 (.lit 100000) (.sw (.v 123) 1 (.lit 1) (.sw (.v 123) 2 (.lit 500) (.lit 1073741824))))))) (.sw (.v 123) 0 (.lit 100000) (.sw (.v 123) 1 (.lit 1) (.sw (.v 123) 2 (.lit 500) (.lit 1073741824))))), (.v 129), (.sw (.v 131) 0 (.lit 0) (.sw (.v 131) 1 (.lit 50) (.sw (.v 131) 2 (.lit (-50)) (.sw (.v 131) 3 (.lit 12345) (.lit (-99999)))))), (.sw (.v 133) 0 (.lit 0) (.sw (.v 133) 1 (.lit 1) (.sw (.v 133) 2 (.lit (-149)) (.lit 700)))), (.v 135), (.add (.lit (-3000)) (.v 137)), (.add (.lit (-900)) (.v 139)), (.add (.lit (-500)) (.v 141)), (.add (.lit (-60)) (.v 143)), (.add (.lit (-60)) (.v 145)), (.add (.lit (-900)) (.v 147)), (.add (.rem (.v 2) (.lit 20)) (.rem (.v 3) (.lit 20))), (.v 5), (.v 6), (.v 7), (.v 8), (.v 9), (.v 10), (.v 11), (.v 12), (.v 13), (.v 14), (.v 15), (.v 16), (.v 18), (.v 19), (.v 20), (.v 21), (.v 22), (.v 23), (.v 24), (.v 25), (.v 26), (.v 27), (.v 28), (.v 29), (.v 31), (.v 32), (.v 33), (.v 34), (.v 35), (.v 36), (.v 37), (.v 38), (.v 39), (.v 40), (.v 41), (.v 42), (.v 44), (.v 45), (.v 46), (.v 47), (.v 48), (.v 49), (.v 50), (.v 51), (.v 52), (.v 53), (.v 54), (.v 55), (.v 57), (.v 58), (.v 59), (.v 60), (.v 61), (.v 62), (.v 63), (.v 64), (.v 65), (.v 66), (.v 67), (.v 68), (.v 70), (.v 71), (.v 72), (.v 73), (.v 74), (.v 75), (.v 76), (.v 77), (.v 78), (.v 79), (.v 80), (.v 81), (.v 83), (.v 84), (.v 85), (.v 86), (.v 87), (.v 88), (.v 89), (.v 90), (.v 91), (.v 92), (.v 93), (.v 94), (.v 96), (.v 97), (.v 98), (.v 99), (.v 100), (.v 101), (.v 102), (.v 103), (.v 104), (.v 105), (.v 106), (.v 107), (.v 109), (.v 110), (.v 111), (.v 112), (.v 113), (.v 114), (.v 115), (.v 116), (.v 117), (.v 118), (.v 119), (.v 120)] 8
 (.call 23 [(.sw (.v 121) 0 (.lit 1000) (.sw (.v 121) 1 (.lit 1) (.sw (.v 121) 2 (.lit 30) (.sw (.v 121) 3 (.lit 5000) (.lit 1000000))))), (.sw (.v 123) 0 (.lit 100000) (.sw (.v 123) 1 (.lit 1) (.sw (.v 123) 2 (.lit 500) (.lit 1073741824)))), (.mn (.sw (.v 125) 0 (.lit 0) (.sw (.v 125) 1 (.lit 1) (.sw (.v 125) 2 (.quo (.sw (.v 121) 0 (.lit 1000) (.sw (.v 121) 1 (.lit 1) (.sw (.v 121) 2 (.lit 30) (.sw (.v 121) 3 (.lit 5000) (.lit 1000000))))) (.lit 10)) (.sw (.v 121) 0 (.lit 1000) (.sw (.v 121) 1 (.lit 1) (.sw (.v 121) 2 (.lit 30) (.sw (.v 121) 3 (.lit 5000) (.lit 1000000)))))))) (.sw (.v 121) 0 (.lit 1000) (.sw (.v 121) 1 (.lit 1) (.sw (.v 121) 2 (.lit 30) (.sw (.v 121) 3 (.lit 5000) (.lit 1000000)))))), (.mn (.sw (.v 127) 0 (.lit 0) (.sw (.v 127) 1 (.lit 1) (.sw (.v 127) 2 (.quo (.sw (.v 123) 0 (.lit 100000) (.sw (.v 123) 1 (.lit 1) (.sw (.v 123) 2 (.lit 500) (.lit 1073741824)))) (.lit 10)) (.sw (.v 123) 0 (.lit 100000) (.sw (.v 123) 1 (.lit 1) (.sw (.v 123) 2 (.lit 500) (.lit 1073741824))))))) (.sw (.v 123) 0 (.lit 100000) (.sw (.v 123) 1 (.lit 1) (.sw (.v 123) 2 (.lit 500) (.lit 1073741824))))), (.v 129), (.sw (.v 131) 0 (.lit 0) (.sw (.v 131) 1 (.lit 50) (.sw (.v 131) 2 (.lit (-50)) (.sw (.v 131) 3 (.lit 12345) (.lit (-99999)))))), (.sw (.v 133) 0 (.lit 0) (.sw (.v 133) 1 (.lit 1) (.sw (.v 133) 2 (.lit (-149)) (.lit 700)))), (.v 135), (.add (.lit (-3000)) (.v 137)), (.add (.lit (-900)) (.v 139)), (.add (.lit (-500)) (.v 141)), (.add (.lit (-60)) (.v 143)), (.add (.lit (-60)) (.v 145)), (.add (.lit (-900)) (.v 147)), (.rem (.v 2) (.lit 20)), (.v 5), (.v 6), (.v 7), (.v 8), (.v 9), (.v 10), (.v 11), (.v 12), (.v 13), (.v 14), (.v 15), (.v 16), (.v 18), (.v 19), (.v 20), (.v 21), (.v 22), (.v 23), (.v 24), (.v 25), (.v 26), (.v 27), (.v 28), (.v 29), (.v 31), (.v 32), (.v 33), (.v 34), (.v 35), (.v 36), (.v 37), (.v 38), (.v 39), (.v 40), (.v 41), (.v 42), (.v 44), (.v 45), (.v 46), (.v 47), (.v 48), (.v 49), (.v 50), (.v 51), (.v 52), (.v 53), (.v 54), (.v 55), (.v 57), (.v 58), (.v 59), (.v 60), (.v 61), (.v 62), (.v 63), (.v 64), (.v 65), (.v 66), (.v 67), (.v 68), (.v 70), (.v 71), (.v 72), (.v 73), (.v 74), (.v 75), (.v 76), (.v 77), (.v 78), (.v 79), (.v 80), (.v 81), (.v 83), (.v 84), (.v 85), (.v 86), (.v 87), (.v 88), (.v 89), (.v 90), (.v 91), (.v 92), (.v 93), (.v 94), (.v 96), (.v 97), (.v 98), (.v 99), (.v 100), (.v 101), (.v 102), (.v 103), (.v 104), (.v 105), (.v 106), (.v 107), (.v 109), (.v 110), (.v 111), (.v 112), (.v 113), (.v 114), (.v 115), (.v 116), (.v 117), (.v 118), (.v 119), (.v 120)] 8
 (.ite (.not (.eq (.v 164) (.lit 0)))
  (.ite (.eq (.v 156) (.v 164))
   (.call 10 [] 1
   (.leaf ((.bool (.lit true)), [], []))
   )
   (.leaf ((.bool (.lit false)), [], []))
  )
  (.call 23 [(.sw (.v 121) 0 (.lit 1000) (.sw (.v 121) 1 (.lit 1) (.sw (.v 121) 2 (.lit 30) (.sw (.v 121) 3 (.lit 5000) (.lit 1000000))))), (.sw (.v 123) 0 (.lit 100000) (.sw (.v 123) 1 (.lit 1) (.sw (.v 123) 2 (.lit 500) (.lit 1073741824)))), (.mn (.sw (.v 125) 0 (.lit 0) (.sw (.v 125) 1 (.lit 1) (.sw (.v 125) 2 (.quo (.sw (.v 121) 0 (.lit 1000) (.sw (.v 121) 1 (.lit 1) (.sw (.v 121) 2 (.lit 30) (.sw (.v 121) 3 (.lit 5000) (.lit 1000000))))) (.lit 10)) (.sw (.v 121) 0 (.lit 1000) (.sw (.v 121) 1 (.lit 1) (.sw (.v 121) 2 (.lit 30) (.sw (.v 121) 3 (.lit 5000) (.lit 1000000)))))))) (.sw (.v 121) 0 (.lit 1000) (.sw (.v 121) 1 (.lit 1) (.sw (.v 121) 2 (.lit 30) (.sw (.v 121) 3 (.lit 5000) (.lit 1000000)))))), (.mn (.sw (.v 127) 0 (.lit 0) (.sw (.v 127) 1 (.lit 1) (.sw (.v 127) 2 (.quo (.sw (.v 123) 0 (.lit 100000) (.sw (.v 123) 1 (.lit 1) (.sw (.v 123) 2 (.lit 500) (.lit 1073741824)))) (.lit 10)) (.sw (.v 123) 0 (.lit 100000) (.sw (.v 123) 1 (.lit 1) (.sw (.v 123) 2 (.lit 500) (.lit 1073741824))))))) (.sw (.v 123) 0 (.lit 100000) (.sw (.v 123) 1 (.lit 1) (.sw (.v 123) 2 (.lit 500) (.lit 1073741824))))), (.v 157), (.v 158), (.v 159), (.v 160), (.v 161), (.v 162), (.v 163), (.add (.lit (-60)) (.v 143)), (.add (.lit (-60)) (.v 145)), (.add (.lit (-900)) (.v 147)), (.rem (.v 3) (.lit 20)), (.v 5), (.v 6), (.v 7), (.v 8), (.v 9), (.v 10), (.v 11), (.v 12), (.v 13), (.v 14), (.v 15), (.v 16), (.v 18), (.v 19), (.v 20), (.v 21), (.v 22), (.v 23), (.v 24), (.v 25), (.v 26), (.v 27), (.v 28), (.v 29), (.v 31), (.v 32), (.v 33), (.v 34), (.v 35), (.v 36), (.v 37), (.v 38), (.v 39), (.v 40), (.v 41), (.v 42), (.v 44), (.v 45), (.v 46), (.v 47), (.v 48), (.v 49), (.v 50), (.v 51), (.v 52), (.v 53), (.v 54), (.v 55), (.v 57), (.v 58), (.v 59), (.v 60), (.v 61), (.v 62), (.v 63), (.v 64), (.v 65), (.v 66), (.v 67), (.v 68), (.v 70), (.v 71), (.v 72), (.v 73), (.v 74), (.v 75), (.v 76), (.v 77), (.v 78), (.v 79), (.v 80), (.v 81), (.v 83), (.v 84), (.v 85), (.v 86), (.v 87), (.v 88), (.v 89), (.v 90), (.v 91), (.v 92), (.v 93), (.v 94), (.v 96), (.v 97), (.v 98), (.v 99), (.v 100), (.v 101), (.v 102), (.v 103), (.v 104), (.v 105), (.v 106), (.v 107), (.v 109), (.v 110), (.v 111), (.v 112), (.v 113), (.v 114), (.v 115), (.v 116), (.v 117), (.v 118), (.v 119), (.v 120)] 8
  (.ite (.and (.and (.eq (.v 165) (.v 149)) (.and (.eq (.v 166) (.v 150)) (.and (.eq (.v 167) (.v 151)) (.and (.eq (.v 168) (.v 152)) (.and (.eq (.v 169) (.v 153)) (.and (.eq (.v 170) (.v 154)) (.eq (.v 171) (.v 155)))))))) (.eq (.v 172) (.v 156)))
   (.call 10 [] 1
   (.leaf ((.bool (.lit true)), [], []))
   )
   (.leaf ((.bool (.lit false)), [], []))
  )
  )
 )
 )
 )
 )
 )
 )
 )
 )
 )
 )
 )
 )
 )
 )
 )
 )
 )
 )
 )
 )
 )
 )
 )
 )
 )
 )
)
theorem tree_eq : (evFn Try.prog (rowCtxE (exL en23) [] hints) 60 12 7 (.sls 0 (.v 0) (.v 1) :: shsS SS 2) [] (rowFx (rngE 2 (ksRg (shsKs SS)))) (shsW SS + 2)).strip = tree := by kernel_rfl
def JJ : Nat → List Int → List Int → Prop := fun _ _ _ => True
theorem okJ_cE {α : Type} {J : Nat → List Int → List Int → Prop} {g : Nat → List Int → List Int} {L : List Int → α → Prop} {ρ : List Int} {k m : Nat} {es : List E} {t : T α} {R : List Int} (hk : k < 900) (he : g k (es.map (den ρ)) = R) (hm : R.length = m) (h : T.okJ J g L (ρ ++ R) t) : T.okJ J g L ρ (.call k es m t) :=
  okJ_call hk (by rw [he, fit_len hm]; exact h)
theorem okJ_cF {α : Type} {J : Nat → List Int → List Int → Prop} {g : Nat → List Int → List Int} {L : List Int → α → Prop} {ρ s : List Int} {n k m : Nat} {es : List E} {t : T α} {R : List Int} (hl : ρ.length = n) (hc : es.all (clE n) = true) (hk : k < 900) (he : g k (es.map (den ρ)) = R) (hm : R.length = m) (h : T.okJ J g L (ρ ++ s ++ R) t) : T.okJ J g L (ρ ++ s) (.call k es m t) := by
  refine okJ_call hk ?_
  have e : es.map (den (ρ ++ s)) = es.map (den ρ) := List.map_congr_left fun x hx => clE_ok (List.all_eq_true.1 hc x hx) (by omega) _
  rw [e, he, fit_len hm]
  exact h
def xZ (m : Int) : Int := if m = 0 then 0 else if m = 1 then 50 else if m = 2 then -50 else if m = 3 then 12345 else -99999
def yZ (m : Int) : Int := if m = 0 then 0 else if m = 1 then 1 else if m = 2 then -149 else 700
theorem xZ_bd (m : Int) : -100000 ≤ xZ m ∧ xZ m ≤ 100000 := by unfold xZ; (repeat' split) <;> omega
theorem yZ_bd (m : Int) : -100000 ≤ yZ m ∧ yZ m ≤ 100000 := by unfold yZ; (repeat' split) <;> omega
theorem mod_bd {x d : Int} (hd : 0 < d) : -d < x.tmod d ∧ x.tmod d < d := ⟨Int.lt_tmod_of_pos x hd, Int.tmod_lt_of_pos x hd⟩
def massZ (m : Int) : Int := if m = 0 then 1000 else if m = 1 then 1 else if m = 2 then 30 else if m = 3 then 5000 else 1000000
def inerZ (m : Int) : Int := if m = 0 then 100000 else if m = 1 then 1 else if m = 2 then 500 else 1073741824
def dragZ (m M : Int) : Int := if M < (if m = 0 then 0 else if m = 1 then 1 else if m = 2 then M.tdiv 10 else M) then M else (if m = 0 then 0 else if m = 1 then 1 else if m = 2 then M.tdiv 10 else M)
theorem massZ_bd (m : Int) : 1 ≤ massZ m ∧ massZ m ≤ 1000000 := by unfold massZ; (repeat' split) <;> omega
theorem inerZ_bd (m : Int) : 1 ≤ inerZ m ∧ inerZ m ≤ 1073741824 := by unfold inerZ; (repeat' split) <;> omega
theorem dragZ_bd {m M : Int} (h : 1 ≤ M) : 0 ≤ dragZ m M ∧ dragZ m M ≤ M := by
  have h2 : 0 ≤ M.tdiv 10 := Int.tdiv_nonneg (by omega) (by omega)
  unfold dragZ
  (repeat' split) <;> omega
section
variable {α : Type} {J : Nat → List Int → List Int → Prop} {g : Nat → List Int → List Int} {L : List Int → α → Prop} {ρ : List Int} {es : List E} {t : T α}
theorem okJ_Sk {n : Nat} {B : Int} (hl : ρ.length = n) (hB : (es.map (den ρ)).getD 0 0 = B) (h : ∀ r : List Int, r.length = n + 2 → (∀ j, j < n → r.getD j 0 = ρ.getD j 0) → (0 ≤ r.getD n 0 ∧ (1 ≤ B → r.getD n 0 < B)) → T.okJ J g L r t) : T.okJ J g L ρ (.call 900 es 2 t) :=
  okJ_src fun v p h0 h1 => h _ (by rw [List.length_append, hl]; rfl) (fun j hj => by
    simp only [List.getD_eq_getElem?_getD]
    rw [List.getElem?_append_left (by omega)]) (by rw [getD_app hl]; exact ⟨h0, by rw [← hB]; exact h1⟩)
end
theorem okJ_Lk {α : Type} {J : Nat → List Int → List Int → Prop} {g : Nat → List Int → List Int} {L : List Int → α → Prop} {ρ : List Int} {k m : Nat} {es : List E} {t : T α} {n : Nat} (hl : ρ.length = n) (hk : k < 900) (h : ∀ r : List Int, r.length = n + m → (∀ j, j < n → r.getD j 0 = ρ.getD j 0) → T.okJ J g L r t) : T.okJ J g L ρ (.call k es m t) :=
  okJ_call hk (h _ (by rw [List.length_append, fit_length, hl]) fun j hj => getD_lt (by omega))

set_option maxHeartbeats 4000000 in
theorem plain (l c : Int) (z : List Int) (g : Nat → List Int → List Int) (hg : EnOK g l c z en23) (hl : EnLp g z en23) (x0 : Int) (x1 : Int) (hr : KsOK (shsKs SS) [x0, x1]) : T.okJ JJ g LTrue [l, c, x0, x1] tree := by
  unfold tree
  refine okJ_ite (fun _ => okJ_c1 (by decide) fun _ _ => rfl) fun _ => ?_
  refine okJ_Lk (n := 4) rfl (by decide) fun r0 h0 g0 => ?_
  refine okJ_Lk (n := 17) h0 (by decide) fun r1 h1 g1 => ?_
  refine okJ_Lk (n := 30) h1 (by decide) fun r2 h2 g2 => ?_
  refine okJ_Lk (n := 43) h2 (by decide) fun r3 h3 g3 => ?_
  refine okJ_Lk (n := 56) h3 (by decide) fun r4 h4 g4 => ?_
  refine okJ_Lk (n := 69) h4 (by decide) fun r5 h5 g5 => ?_
  refine okJ_Lk (n := 82) h5 (by decide) fun r6 h6 g6 => ?_
  refine okJ_Lk (n := 95) h6 (by decide) fun r7 h7 g7 => ?_
  refine okJ_Lk (n := 108) h7 (by decide) fun r8 h8 g8 => ?_
  refine okJ_Sk (n := 121) (B := 5) h8 rfl fun r9 h9 g9 f9 => ?_
  refine okJ_Sk (n := 123) (B := 4) h9 rfl fun r10 h10 g10 f10 => ?_
  refine okJ_Sk (n := 125) (B := 4) h10 rfl fun r11 h11 g11 f11 => ?_
  refine okJ_Sk (n := 127) (B := 4) h11 rfl fun r12 h12 g12 f12 => ?_
  refine okJ_Sk (n := 129) (B := 50) h12 rfl fun r13 h13 g13 f13 => ?_
  refine okJ_Sk (n := 131) (B := 5) h13 rfl fun r14 h14 g14 f14 => ?_
  refine okJ_Sk (n := 133) (B := 4) h14 rfl fun r15 h15 g15 f15 => ?_
  refine okJ_Sk (n := 135) (B := 360000) h15 rfl fun r16 h16 g16 f16 => ?_
  refine okJ_Sk (n := 137) (B := 6001) h16 rfl fun r17 h17 g17 f17 => ?_
  refine okJ_Sk (n := 139) (B := 1801) h17 rfl fun r18 h18 g18 f18 => ?_
  refine okJ_Sk (n := 141) (B := 1001) h18 rfl fun r19 h19 g19 f19 => ?_
  refine okJ_Sk (n := 143) (B := 121) h19 rfl fun r20 h20 g20 f20 => ?_
  refine okJ_Sk (n := 145) (B := 121) h20 rfl fun r21 h21 g21 f21 => ?_
  refine okJ_Sk (n := 147) (B := 1801) h21 rfl fun r22 h22 g22 f22 => ?_
  have e2 : r22.getD 2 0 = x0 := by
    rw [g22 2 (by omega), g21 2 (by omega), g20 2 (by omega), g19 2 (by omega), g18 2 (by omega), g17 2 (by omega), g16 2 (by omega), g15 2 (by omega), g14 2 (by omega), g13 2 (by omega), g12 2 (by omega), g11 2 (by omega), g10 2 (by omega), g9 2 (by omega), g8 2 (by omega), g7 2 (by omega), g6 2 (by omega), g5 2 (by omega), g4 2 (by omega), g3 2 (by omega), g2 2 (by omega), g1 2 (by omega), g0 2 (by omega)]
    rfl
  have e3 : r22.getD 3 0 = x1 := by
    rw [g22 3 (by omega), g21 3 (by omega), g20 3 (by omega), g19 3 (by omega), g18 3 (by omega), g17 3 (by omega), g16 3 (by omega), g15 3 (by omega), g14 3 (by omega), g13 3 (by omega), g12 3 (by omega), g11 3 (by omega), g10 3 (by omega), g9 3 (by omega), g8 3 (by omega), g7 3 (by omega), g6 3 (by omega), g5 3 (by omega), g4 3 (by omega), g3 3 (by omega), g2 3 (by omega), g1 3 (by omega), g0 3 (by omega)]
    rfl
  have hx : 0 ≤ x0 ∧ x0 ≤ 255 := hr.1
  have hy : 0 ≤ x1 ∧ x1 ≤ 255 := hr.2.1
  rw [← e2] at hx
  rw [← e3] at hy
  have hl9 : r22.length = 149 := h22
  generalize r22 = ρ at hx hy hl9 ⊢
  have hx0 : 0 ≤ (ρ.getD 2 0).tmod 20 := Int.tmod_nonneg _ hx.1
  have hy0 : 0 ≤ (ρ.getD 3 0).tmod 20 := Int.tmod_nonneg _ hy.1
  have e1 : ∀ m, itR (rowF g z) (massZ (ρ.getD 121 0)) (inerZ (ρ.getD 123 0)) (dragZ (ρ.getD 125 0) (massZ (ρ.getD 121 0))) (dragZ (ρ.getD 127 0) (inerZ (ρ.getD 123 0))) (-60 + ρ.getD 143 0) (-60 + ρ.getD 145 0) (-900 + ρ.getD 147 0) m (ρ.getD 129 0) (xZ (ρ.getD 131 0)) (yZ (ρ.getD 133 0)) (ρ.getD 135 0) (-3000 + ρ.getD 137 0) (-900 + ρ.getD 139 0) (-500 + ρ.getD 141 0) = itR (rowF g z) (massZ (ρ.getD 121 0)) (inerZ (ρ.getD 123 0)) (dragZ (ρ.getD 125 0) (massZ (ρ.getD 121 0))) (dragZ (ρ.getD 127 0) (inerZ (ρ.getD 123 0))) (-60 + ρ.getD 143 0) (-60 + ρ.getD 145 0) (-900 + ρ.getD 147 0) m (ρ.getD 129 0) (xZ (ρ.getD 131 0)) (yZ (ρ.getD 133 0)) (ρ.getD 135 0) (-3000 + ρ.getD 137 0) (-900 + ρ.getD 139 0) (-500 + ρ.getD 141 0) := fun _ => rfl
  have hnat : ((ρ.getD 2 0).tmod 20 + (ρ.getD 3 0).tmod 20).toNat = ((ρ.getD 2 0).tmod 20).toNat + ((ρ.getD 3 0).tmod 20).toNat := by omega
  have key := itR_form (F := rowF g z) (M := massZ (ρ.getD 121 0)) (I := inerZ (ρ.getD 123 0)) (D := dragZ (ρ.getD 125 0) (massZ (ρ.getD 121 0))) (S := dragZ (ρ.getD 127 0) (inerZ (ρ.getD 123 0))) (a := -60 + ρ.getD 143 0) (b := -60 + ρ.getD 145 0) (e := -900 + ρ.getD 147 0) ((ρ.getD 2 0).tmod 20).toNat (ρ.getD 129 0) (xZ (ρ.getD 131 0)) (yZ (ρ.getD 133 0)) (ρ.getD 135 0) (-3000 + ρ.getD 137 0) (-900 + ρ.getD 139 0) (-500 + ρ.getD 141 0)
  have run1 : ∀ {n : Int} {m : Nat}, 0 ≤ n → n.toNat = m → ∀ xs : List Int, xs.length = 123 → xs.take 15 = [massZ (ρ.getD 121 0), inerZ (ρ.getD 123 0), dragZ (ρ.getD 125 0) (massZ (ρ.getD 121 0)), dragZ (ρ.getD 127 0) (inerZ (ρ.getD 123 0)), ρ.getD 129 0, xZ (ρ.getD 131 0), yZ (ρ.getD 133 0), ρ.getD 135 0, -3000 + ρ.getD 137 0, -900 + ρ.getD 139 0, -500 + ρ.getD 141 0, -60 + ρ.getD 143 0, -60 + ρ.getD 145 0, -900 + ρ.getD 147 0, n] →
      g 23 xs = itR (rowF g z) (massZ (ρ.getD 121 0)) (inerZ (ρ.getD 123 0)) (dragZ (ρ.getD 125 0) (massZ (ρ.getD 121 0))) (dragZ (ρ.getD 127 0) (inerZ (ρ.getD 123 0))) (-60 + ρ.getD 143 0) (-60 + ρ.getD 145 0) (-900 + ρ.getD 147 0) m (ρ.getD 129 0) (xZ (ρ.getD 131 0)) (yZ (ρ.getD 133 0)) (ρ.getD 135 0) (-3000 + ρ.getD 137 0) (-900 + ρ.getD 139 0) (-500 + ρ.getD 141 0) := by
    intro n m h0 hm xs hxl ht
    have ga : ∀ j, j < 15 → xs.getD j 0 = (xs.take 15).getD j 0 := fun j hj => by
      simp only [List.getD_eq_getElem?_getD, List.getElem?_take, if_pos hj]
    rw [ht] at ga
    have h14 : xs.getD 14 0 = n := ga 14 (by omega)
    rw [run9_it hg hl hxl (by rw [h14]; exact h0), h14, hm, ga 0 (by omega), ga 1 (by omega), ga 2 (by omega), ga 3 (by omega), ga 4 (by omega), ga 5 (by omega), ga 6 (by omega), ga 7 (by omega), ga 8 (by omega), ga 9 (by omega), ga 10 (by omega), ga 11 (by omega), ga 12 (by omega), ga 13 (by omega)]
    rfl
  rcases key with ⟨t, x, y, c, u, w, v, k1, k2⟩ | ⟨k1, k2⟩
  · have k2 := k2 ((ρ.getD 3 0).tmod 20).toNat
    obtain ⟨q0, q1, q2, q3, q4, q5, q6, q7, k3⟩ := itR_list (F := rowF g z) (M := massZ (ρ.getD 121 0)) (I := inerZ (ρ.getD 123 0)) (D := dragZ (ρ.getD 125 0) (massZ (ρ.getD 121 0))) (S := dragZ (ρ.getD 127 0) (inerZ (ρ.getD 123 0))) (a := -60 + ρ.getD 143 0) (b := -60 + ρ.getD 145 0) (e := -900 + ρ.getD 147 0) ((ρ.getD 3 0).tmod 20).toNat t x y c u w v
    refine okJ_cE (by decide) (R := [q0, q1, q2, q3, q4, q5, q6, q7]) (((run1 (n := (ρ.getD 2 0).tmod 20 + (ρ.getD 3 0).tmod 20) (by omega) hnat _ rfl rfl).trans k2).trans k3) rfl ?_
    refine okJ_cF hl9 (by kernel_rfl) (by decide) (R := [t, x, y, c, u, w, v, 0]) ((run1 (n := (ρ.getD 2 0).tmod 20) hx0 rfl _ rfl rfl).trans k1) rfl ?_
    rw [List.append_assoc]
    have hlow : ∀ j, j < 149 → (ρ ++ ([q0, q1, q2, q3, q4, q5, q6, q7] ++ [t, x, y, c, u, w, v, 0])).getD j 0 = ρ.getD j 0 := fun j hj => getD_lt (by omega)
    have hhi := fun j => getD_at hl9 j ([q0, q1, q2, q3, q4, q5, q6, q7] ++ [t, x, y, c, u, w, v, 0])
    have hl10 : (ρ ++ ([q0, q1, q2, q3, q4, q5, q6, q7] ++ [t, x, y, c, u, w, v, 0])).length = 165 := by simp [hl9]
    generalize ρ ++ ([q0, q1, q2, q3, q4, q5, q6, q7] ++ [t, x, y, c, u, w, v, 0]) = σ at hlow hhi hl10 ⊢
    have c0 : σ.getD 149 0 = q0 := hhi 0
    have c1 : σ.getD 150 0 = q1 := hhi 1
    have c2 : σ.getD 151 0 = q2 := hhi 2
    have c3 : σ.getD 152 0 = q3 := hhi 3
    have c4 : σ.getD 153 0 = q4 := hhi 4
    have c5 : σ.getD 154 0 = q5 := hhi 5
    have c6 : σ.getD 155 0 = q6 := hhi 6
    have c7 : σ.getD 156 0 = q7 := hhi 7
    have d0 : σ.getD 157 0 = t := hhi 8
    have d1 : σ.getD 158 0 = x := hhi 9
    have d2 : σ.getD 159 0 = y := hhi 10
    have d3 : σ.getD 160 0 = c := hhi 11
    have d4 : σ.getD 161 0 = u := hhi 12
    have d5 : σ.getD 162 0 = w := hhi 13
    have d6 : σ.getD 163 0 = v := hhi 14
    have d7 : σ.getD 164 0 = 0 := hhi 15
    refine okJ_ite (fun h => ?_) fun _ => ?_
    · exfalso
      have h : (!decide (σ.getD 164 0 = 0)) = true := h
      rw [d7] at h
      exact absurd h (by decide)
    · refine okJ_cE (by decide) (R := [q0, q1, q2, q3, q4, q5, q6, q7]) (?_ : _ = _) rfl ?_
      · refine (run9_it hg hl rfl ?_).trans ?_
        · show 0 ≤ (σ.getD 3 0).tmod 20
          rw [hlow 3 (by omega)]; exact hy0
        · show itR (rowF g z) (massZ (σ.getD 121 0)) (inerZ (σ.getD 123 0)) (dragZ (σ.getD 125 0) (massZ (σ.getD 121 0))) (dragZ (σ.getD 127 0) (inerZ (σ.getD 123 0))) (-60 + σ.getD 143 0) (-60 + σ.getD 145 0) (-900 + σ.getD 147 0) ((σ.getD 3 0).tmod 20).toNat (σ.getD 157 0) (σ.getD 158 0) (σ.getD 159 0) (σ.getD 160 0) (σ.getD 161 0) (σ.getD 162 0) (σ.getD 163 0) = _
          rw [hlow 121 (by omega), hlow 123 (by omega), hlow 125 (by omega), hlow 127 (by omega), hlow 143 (by omega), hlow 145 (by omega), hlow 147 (by omega), hlow 3 (by omega), d0, d1, d2, d3, d4, d5, d6]
          exact k3
      · have hc := fun j (hj : j < 165) => getD_lt (ρ := σ) (s := [q0, q1, q2, q3, q4, q5, q6, q7]) (j := j) (by omega)
        have hd := fun j => getD_at hl10 j [q0, q1, q2, q3, q4, q5, q6, q7]
        generalize σ ++ [q0, q1, q2, q3, q4, q5, q6, q7] = τ at hc hd ⊢
        refine okJ_ite (fun _ => okJ_c1 (by decide) fun _ _ => rfl) fun h => ?_
        exfalso
        have h : ((decide (τ.getD 165 0 = τ.getD 149 0) && (decide (τ.getD 166 0 = τ.getD 150 0) && (decide (τ.getD 167 0 = τ.getD 151 0) && (decide (τ.getD 168 0 = τ.getD 152 0) && (decide (τ.getD 169 0 = τ.getD 153 0) && (decide (τ.getD 170 0 = τ.getD 154 0) && decide (τ.getD 171 0 = τ.getD 155 0))))))) && decide (τ.getD 172 0 = τ.getD 156 0)) = false := h
        have m0 : τ.getD 165 0 = q0 := hd 0
        have m1 : τ.getD 166 0 = q1 := hd 1
        have m2 : τ.getD 167 0 = q2 := hd 2
        have m3 : τ.getD 168 0 = q3 := hd 3
        have m4 : τ.getD 169 0 = q4 := hd 4
        have m5 : τ.getD 170 0 = q5 := hd 5
        have m6 : τ.getD 171 0 = q6 := hd 6
        have m7 : τ.getD 172 0 = q7 := hd 7
        rw [m0, m1, m2, m3, m4, m5, m6, m7, hc 149 (by omega), hc 150 (by omega), hc 151 (by omega), hc 152 (by omega), hc 153 (by omega), hc 154 (by omega), hc 155 (by omega), hc 156 (by omega), c0, c1, c2, c3, c4, c5, c6, c7] at h
        rw [decide_eq_true rfl, decide_eq_true rfl, decide_eq_true rfl, decide_eq_true rfl, decide_eq_true rfl, decide_eq_true rfl, decide_eq_true rfl, decide_eq_true rfl] at h
        exact absurd h (by decide)
  · have k2 := k2 ((ρ.getD 3 0).tmod 20).toNat
    refine okJ_cE (by decide) (R := errR) ((run1 (n := (ρ.getD 2 0).tmod 20 + (ρ.getD 3 0).tmod 20) (by omega) hnat _ rfl rfl).trans k2) rfl ?_
    refine okJ_cF hl9 (by kernel_rfl) (by decide) (R := errR) ((run1 (n := (ρ.getD 2 0).tmod 20) hx0 rfl _ rfl rfl).trans k1) rfl ?_
    rw [List.append_assoc]
    have hhi := fun j => getD_at hl9 j (errR ++ errR)
    generalize ρ ++ (errR ++ errR) = σ at hhi ⊢
    have c7 : σ.getD 156 0 = 2 := hhi 7
    have d7 : σ.getD 164 0 = 2 := hhi 15
    refine okJ_ite (fun _ => ?_) fun h => ?_
    · refine okJ_ite (fun _ => okJ_c1 (by decide) fun _ _ => rfl) fun h => ?_
      exfalso
      have h : decide (σ.getD 156 0 = σ.getD 164 0) = false := h
      rw [c7, d7] at h
      exact absurd h (by decide)
    · exfalso
      have h : (!decide (σ.getD 164 0 = 0)) = false := h
      rw [d7] at h
      exact absurd h (by decide)
theorem walk (a0 : Option Addr) (len0 cap0 : Nat) (z0 : List Int) (w : World) (w0 : IsRow .i64 w a0 len0 cap0 z0) (r : List Int) (hr : KsOK (shsKs SS) r) :
    Calls Try.prog 7 (.slice a0 len0 cap0 :: shsV SS r).toArray w fun e w' => e = .returned (.bool true) ∧ Below w.heap.size w w' := by
  match r, hr.length, hr with
  | [x0, x1], _, hr => exact row_lawXL w0 en23_con en23_kl tree_eq (fun g hg hl => plain _ _ z0 g hg hl _ _ hr) hr
end Go.Proofs.Ytnnnmdmniceenaa.vesselSplits
