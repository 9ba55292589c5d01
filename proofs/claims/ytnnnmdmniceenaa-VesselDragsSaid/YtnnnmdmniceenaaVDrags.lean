/- 'dynpos/dynposlaw23.VesselDrags': the tree of its walk, and that each of its leaves is true. -/
import Derived.Test.YtnnnmdmniceenaaVL
set_option linter.unusedSimpArgs false
set_option linter.unusedVariables false
set_option maxRecDepth 100000
namespace Go.Proofs.Ytnnnmdmniceenaa.vesselDrags
open Go.RowKit Ev
def SS : List Sh := []
def hints : FuncId → Nat → Option Hint := fun _ _ => none
def tree : T Leaf :=
(.ite (.lt (.lit 600) (.v 0))
 (.call 10 [] 1
 (.leaf ((.bool (.lit true)), [], []))
 )
 (.call 11 [(.mn (.v 0) (.lit 600)), (.v 1), (.lit 0)] 13
 (.call 11 [(.mn (.v 0) (.lit 600)), (.v 1), (.v 2)] 13
 (.call 11 [(.mn (.v 0) (.lit 600)), (.v 1), (.v 15)] 13
 (.call 11 [(.mn (.v 0) (.lit 600)), (.v 1), (.v 28)] 13
 (.call 11 [(.mn (.v 0) (.lit 600)), (.v 1), (.v 41)] 13
 (.call 11 [(.mn (.v 0) (.lit 600)), (.v 1), (.v 54)] 13
 (.call 11 [(.mn (.v 0) (.lit 600)), (.v 1), (.v 67)] 13
 (.call 11 [(.mn (.v 0) (.lit 600)), (.v 1), (.v 80)] 13
 (.call 11 [(.mn (.v 0) (.lit 600)), (.v 1), (.v 93)] 13
 (.call 900 [(.lit 5), (.mn (.v 0) (.lit 600)), (.v 106)] 2
 (.call 900 [(.lit 4), (.mn (.v 0) (.lit 600)), (.v 120)] 2
 (.call 900 [(.lit 4), (.mn (.v 0) (.lit 600)), (.v 122)] 2
 (.call 900 [(.lit 4), (.mn (.v 0) (.lit 600)), (.v 124)] 2
 (.call 900 [(.lit 50), (.mn (.v 0) (.lit 600)), (.v 126)] 2
 (.call 900 [(.lit 5), (.mn (.v 0) (.lit 600)), (.v 128)] 2
 (.call 900 [(.lit 4), (.mn (.v 0) (.lit 600)), (.v 130)] 2
 (.call 900 [(.lit 360000), (.mn (.v 0) (.lit 600)), (.v 132)] 2
 (.call 900 [(.lit 6001), (.mn (.v 0) (.lit 600)), (.v 134)] 2
 (.call 900 [(.lit 1801), (.mn (.v 0) (.lit 600)), (.v 136)] 2
 (.call 900 [(.lit 1001), (.mn (.v 0) (.lit 600)), (.v 138)] 2
 (.call 21 [(.sw (.v 119) 0 (.lit 1000) (.sw (.v 119) 1 (.lit 1) (.sw (.v 119) 2 (.lit 30) (.sw (.v 119) 3 (.lit 5000) (.lit 1000000))))), (.sw (.v 121) 0 (.lit 100000) (.sw (.v 121) 1 (.lit 1) (.sw (.v 121) 2 (.lit 500) (.lit 1073741824)))), (.mn (.sw (.v 123) 0 (.lit 0) (.sw (.v 123) 1 (.lit 1) (.sw (.v 123) 2 (.quo (.sw (.v 119) 0 (.lit 1000) (.sw (.v 119) 1 (.lit 1) (.sw (.v 119) 2 (.lit 30) (.sw (.v 119) 3 (.lit 5000) (.lit 1000000))))) (.lit 10)) (.sw (.v 119) 0 (.lit 1000) (.sw (.v 119) 1 (.lit 1) (.sw (.v 119) 2 (.lit 30) (.sw (.v 119) 3 (.lit 5000) (.lit 1000000)))))))) (.sw (.v 119) 0 (.lit 1000) (.sw (.v 119) 1 (.lit 1) (.sw (.v 119) 2 (.lit 30) (.sw (.v 119) 3 (.lit 5000) (.lit 1000000)))))), (.mn (.sw (.v 125) 0 (.lit 0) (.sw (.v 125) 1 (.lit 1) (.sw (.v 125) 2 (.quo (.sw (.v 121) 0 (.lit 100000) (.sw (.v 121) 1 (.lit 1) (.sw (.v 121) 2 (.lit 500) (.lit 1073741824)))) (.lit 10)) (.sw (.v 121) 0 (.lit 100000) (.sw (.v 121) 1 (.lit 1) (.sw (.v 121) 2 (.lit 500) (.lit 1073741824))))))) (.sw (.v 121) 0 (.lit 100000) (.sw (.v 121) 1 (.lit 1) (.sw (.v 121) 2 (.lit 500) (.lit 1073741824))))), (.v 127), (.sw (.v 129) 0 (.lit 0) (.sw (.v 129) 1 (.lit 50) (.sw (.v 129) 2 (.lit (-50)) (.sw (.v 129) 3 (.lit 12345) (.lit (-99999)))))), (.sw (.v 131) 0 (.lit 0) (.sw (.v 131) 1 (.lit 1) (.sw (.v 131) 2 (.lit (-149)) (.lit 700)))), (.v 133), (.add (.lit (-3000)) (.v 135)), (.add (.lit (-900)) (.v 137)), (.add (.lit (-500)) (.v 139)), (.lit 0), (.lit 0), (.lit 0), (.v 3), (.v 4), (.v 5), (.v 6), (.v 7), (.v 8), (.v 9), (.v 10), (.v 11), (.v 12), (.v 13), (.v 14), (.v 16), (.v 17), (.v 18), (.v 19), (.v 20), (.v 21), (.v 22), (.v 23), (.v 24), (.v 25), (.v 26), (.v 27), (.v 29), (.v 30), (.v 31), (.v 32), (.v 33), (.v 34), (.v 35), (.v 36), (.v 37), (.v 38), (.v 39), (.v 40), (.v 42), (.v 43), (.v 44), (.v 45), (.v 46), (.v 47), (.v 48), (.v 49), (.v 50), (.v 51), (.v 52), (.v 53), (.v 55), (.v 56), (.v 57), (.v 58), (.v 59), (.v 60), (.v 61), (.v 62), (.v 63), (.v 64), (.v 65), (.v 66), (.v 68), (.v 69), (.v 70), (.v 71), (.v 72), (.v 73), (.v 74), (.v 75), (.v 76), (.v 77), (.v 78), (.v 79), (.v 81), (.v 82), (.v 83), (.v 84), (.v 85), (.v 86), (.v 87), (.v 88), (.v 89), (.v 90), (.v 91), (.v 92), (.v 94), (.v 95), (.v 96), (.v 97), (.v 98), (.v 99), (.v 100), (.v 101), (.v 102), (.v 103), (.v 104), (.v 105), (.v 107), (.v 108), (.v 109), (.v 110), (.v 111), (.v 112), (.v 113), (.v 114), (.v 115), (.v 116), (.v 117), (.v 118)] 8
 (.ite (.not (.eq (.v 148) (.lit 0)))
  (.leaf ((.bool (.lit false)), [], []))
  (.ite (.or (.and (.le (.lit 0) (.add (.lit (-3000)) (.v 135))) (.or (.lt (.v 145) (.lit 0)) (.lt (.add (.lit (-3000)) (.v 135)) (.v 145)))) (.and (.lt (.add (.lit (-3000)) (.v 135)) (.lit 0)) (.or (.lt (.lit 0) (.v 145)) (.lt (.v 145) (.add (.lit (-3000)) (.v 135))))))
   (.leaf ((.bool (.lit false)), [], []))
   (.ite (.or (.and (.le (.lit 0) (.add (.lit (-900)) (.v 137))) (.or (.lt (.v 146) (.lit 0)) (.lt (.add (.lit (-900)) (.v 137)) (.v 146)))) (.and (.lt (.add (.lit (-900)) (.v 137)) (.lit 0)) (.or (.lt (.lit 0) (.v 146)) (.lt (.v 146) (.add (.lit (-900)) (.v 137))))))
    (.leaf ((.bool (.lit false)), [], []))
    (.ite (.or (.and (.le (.lit 0) (.add (.lit (-500)) (.v 139))) (.or (.lt (.v 147) (.lit 0)) (.lt (.add (.lit (-500)) (.v 139)) (.v 147)))) (.and (.lt (.add (.lit (-500)) (.v 139)) (.lit 0)) (.or (.lt (.lit 0) (.v 147)) (.lt (.v 147) (.add (.lit (-500)) (.v 139))))))
     (.leaf ((.bool (.lit false)), [], []))
     (.call 21 [(.sw (.v 119) 0 (.lit 1000) (.sw (.v 119) 1 (.lit 1) (.sw (.v 119) 2 (.lit 30) (.sw (.v 119) 3 (.lit 5000) (.lit 1000000))))), (.sw (.v 121) 0 (.lit 100000) (.sw (.v 121) 1 (.lit 1) (.sw (.v 121) 2 (.lit 500) (.lit 1073741824)))), (.sw (.v 119) 0 (.lit 1000) (.sw (.v 119) 1 (.lit 1) (.sw (.v 119) 2 (.lit 30) (.sw (.v 119) 3 (.lit 5000) (.lit 1000000))))), (.sw (.v 121) 0 (.lit 100000) (.sw (.v 121) 1 (.lit 1) (.sw (.v 121) 2 (.lit 500) (.lit 1073741824)))), (.v 127), (.sw (.v 129) 0 (.lit 0) (.sw (.v 129) 1 (.lit 50) (.sw (.v 129) 2 (.lit (-50)) (.sw (.v 129) 3 (.lit 12345) (.lit (-99999)))))), (.sw (.v 131) 0 (.lit 0) (.sw (.v 131) 1 (.lit 1) (.sw (.v 131) 2 (.lit (-149)) (.lit 700)))), (.v 133), (.add (.lit (-3000)) (.v 135)), (.add (.lit (-900)) (.v 137)), (.add (.lit (-500)) (.v 139)), (.lit 0), (.lit 0), (.lit 0), (.v 3), (.v 4), (.v 5), (.v 6), (.v 7), (.v 8), (.v 9), (.v 10), (.v 11), (.v 12), (.v 13), (.v 14), (.v 16), (.v 17), (.v 18), (.v 19), (.v 20), (.v 21), (.v 22), (.v 23), (.v 24), (.v 25), (.v 26), (.v 27), (.v 29), (.v 30), (.v 31), (.v 32), (.v 33), (.v 34), (.v 35), (.v 36), (.v 37), (.v 38), (.v 39), (.v 40), (.v 42), (.v 43), (.v 44), (.v 45), (.v 46), (.v 47), (.v 48), (.v 49), (.v 50), (.v 51), (.v 52), (.v 53), (.v 55), (.v 56), (.v 57), (.v 58), (.v 59), (.v 60), (.v 61), (.v 62), (.v 63), (.v 64), (.v 65), (.v 66), (.v 68), (.v 69), (.v 70), (.v 71), (.v 72), (.v 73), (.v 74), (.v 75), (.v 76), (.v 77), (.v 78), (.v 79), (.v 81), (.v 82), (.v 83), (.v 84), (.v 85), (.v 86), (.v 87), (.v 88), (.v 89), (.v 90), (.v 91), (.v 92), (.v 94), (.v 95), (.v 96), (.v 97), (.v 98), (.v 99), (.v 100), (.v 101), (.v 102), (.v 103), (.v 104), (.v 105), (.v 107), (.v 108), (.v 109), (.v 110), (.v 111), (.v 112), (.v 113), (.v 114), (.v 115), (.v 116), (.v 117), (.v 118)] 8
     (.ite (.eq (.v 156) (.lit 0))
      (.ite (.and (.and (.eq (.v 153) (.lit 0)) (.eq (.v 154) (.lit 0))) (.eq (.v 155) (.lit 0)))
       (.call 13 [(.v 150), (.lit 100)] 1
       (.call 13 [(.v 151), (.lit 100)] 1
       (.call 13 [(.sw (.v 129) 0 (.lit 0) (.sw (.v 129) 1 (.lit 50) (.sw (.v 129) 2 (.lit (-50)) (.sw (.v 129) 3 (.lit 12345) (.lit (-99999)))))), (.lit 100)] 1
       (.call 13 [(.sw (.v 131) 0 (.lit 0) (.sw (.v 131) 1 (.lit 1) (.sw (.v 131) 2 (.lit (-149)) (.lit 700)))), (.lit 100)] 1
       (.ite (.and (.eq (.v 157) (.v 159)) (.eq (.v 158) (.v 160)))
        (.call 10 [] 1
        (.leaf ((.bool (.lit true)), [], []))
        )
        (.leaf ((.bool (.lit false)), [], []))
       )
       )
       )
       )
       )
       (.leaf ((.bool (.lit false)), [], []))
      )
      (.leaf ((.bool (.lit false)), [], []))
     )
     )
    )
   )
  )
 )
 )
 )
 )
 )
 )
 )
 )
 )
 )
 )
 )
 )
 )
 )
 )
 )
 )
 )
 )
 )
 )
)
theorem tree_eq : (evFn Try.prog (rowCtxE (exL en22) [] hints) 60 12 4 (.sls 0 (.v 0) (.v 1) :: shsS SS 2) [] (rowFx (rngE 2 (ksRg (shsKs SS)))) (shsW SS + 2)).strip = tree := by kernel_rfl
def JJ : Nat → List Int → List Int → Prop := fun _ _ _ => True
theorem okJ_cK {α : Type} {J : Nat → List Int → List Int → Prop} {g : Nat → List Int → List Int} {L : List Int → α → Prop} {ρ : List Int} {k m : Nat} {es : List E} {t : T α} {xs R : List Int} (hk : k < 900) (hx : es.map (den ρ) = xs) (he : g k xs = R) (hm : R.length = m) (h : T.okJ J g L (ρ ++ R) t) : T.okJ J g L ρ (.call k es m t) :=
  okJ_call hk (by rw [hx, he, fit_len hm]; exact h)
theorem okJ_srcK {α : Type} {J : Nat → List Int → List Int → Prop} {g : Nat → List Int → List Int} {L : List Int → α → Prop} {ρ : List Int} {es : List E} {t : T α} {B : Int} (hB : (es.map (den ρ)).getD 0 0 = B) (h : ∀ v p : Int, 0 ≤ v → (1 ≤ B → v < B) → T.okJ J g L (ρ ++ [v, p]) t) : T.okJ J g L ρ (.call 900 es 2 t) :=
  okJ_src fun v p h0 h1 => h v p h0 (by rw [← hB]; exact h1)
theorem okJ_iteK {α : Type} {J : Nat → List Int → List Int → Prop} {g : Nat → List Int → List Int} {L : List Int → α → Prop} {ρ : List Int} {b : B} {t e : T α} {b' : Bool} (hb : denB ρ b = b') (h1 : b' = true → T.okJ J g L ρ t) (h2 : b' = false → T.okJ J g L ρ e) : T.okJ J g L ρ (.ite b t e) :=
  okJ_ite (fun h => h1 (hb ▸ h)) (fun h => h2 (hb ▸ h))
def xZ (m : Int) : Int := if m = 0 then 0 else if m = 1 then 50 else if m = 2 then -50 else if m = 3 then 12345 else -99999
def yZ (m : Int) : Int := if m = 0 then 0 else if m = 1 then 1 else if m = 2 then -149 else 700
theorem xZ_bd (m : Int) : -100000 ≤ xZ m ∧ xZ m ≤ 100000 := by unfold xZ; (repeat' split) <;> omega
theorem yZ_bd (m : Int) : -100000 ≤ yZ m ∧ yZ m ≤ 100000 := by unfold yZ; (repeat' split) <;> omega
theorem mod_bd {x d : Int} (hd : 0 < d) : -d < x.tmod d ∧ x.tmod d < d := ⟨Int.lt_tmod_of_pos x hd, Int.tmod_lt_of_pos x hd⟩
def massZ (m : Int) : Int := if m = 0 then 1000 else if m = 1 then 1 else if m = 2 then 30 else if m = 3 then 5000 else 1000000
def inerZ (m : Int) : Int := if m = 0 then 100000 else if m = 1 then 1 else if m = 2 then 500 else 1073741824
def dragZ (m M : Int) : Int := if M < (if m = 0 then 0 else if m = 1 then 1 else if m = 2 then M.tdiv 10 else M) then M else (if m = 0 then 0 else if m = 1 then 1 else if m = 2 then M.tdiv 10 else M)
theorem massZ_bd (m : Int) : 1 ≤ massZ m ∧ massZ m ≤ 1000000 := by unfold massZ; (repeat' split) <;> omega
theorem inerZ_bd (m : Int) : 1 ≤ inerZ m ∧ inerZ m ≤ 1073741824 := by unfold inerZ; (repeat' split) <;> omega
theorem dragZ_bd {m M : Int} (h : 1 ≤ M) : 0 ≤ dragZ m M ∧ dragZ m M ≤ M := by
  have h2 : 0 ≤ M.tdiv 10 := Int.tdiv_nonneg (by omega) (by omega)
  unfold dragZ
  (repeat' split) <;> omega
theorem ns_full {s M : Int} (hM : 1 ≤ M) : nsZ s M 0 M = 0 := by
  unfold nsZ
  rw [show (10000 : Int) * 0 - M * s = M * (-s) by rw [Int.mul_neg]; omega, halfZ_mul (by omega)]
  omega
theorem d00 (g : Nat → List Int → List Int) (h : Int) : dxZ g 0 0 h = 0 ∧ dyZ g 0 0 h = 0 := by
  unfold dxZ dyZ
  simp only [Int.zero_mul, Int.sub_zero, Int.add_zero]
  exact ⟨halfZ_zero (by omega), halfZ_zero (by omega)⟩

set_option maxHeartbeats 4000000 in
theorem plain (l c : Int) (z : List Int) (g : Nat → List Int → List Int) (hg : EnOK g l c z en22) (hr : KsOK (shsKs SS) []) : T.okJ JJ g LTrue [l, c] tree := by
  unfold tree
  refine okJ_ite (fun _ => okJ_c1 (by decide) fun _ _ => rfl) fun _ => ?_
  refine okJ_cL (by decide) fun r hr_ => ?_
  obtain ⟨p0, k0, k1, k2, k3, k4, k5, k6, k7, k8, k9, k10, k11, rfl⟩ : ∃ p0 k0 k1 k2 k3 k4 k5 k6 k7 k8 k9 k10 k11, r = [p0, k0, k1, k2, k3, k4, k5, k6, k7, k8, k9, k10, k11] := ⟨_, _, _, _, _, _, _, _, _, _, _, _, _, hr_⟩
  clear hr_
  refine okJ_cL (by decide) fun r hr_ => ?_
  obtain ⟨p1, k12, k13, k14, k15, k16, k17, k18, k19, k20, k21, k22, k23, rfl⟩ : ∃ p1 k12 k13 k14 k15 k16 k17 k18 k19 k20 k21 k22 k23, r = [p1, k12, k13, k14, k15, k16, k17, k18, k19, k20, k21, k22, k23] := ⟨_, _, _, _, _, _, _, _, _, _, _, _, _, hr_⟩
  clear hr_
  refine okJ_cL (by decide) fun r hr_ => ?_
  obtain ⟨p2, k24, k25, k26, k27, k28, k29, k30, k31, k32, k33, k34, k35, rfl⟩ : ∃ p2 k24 k25 k26 k27 k28 k29 k30 k31 k32 k33 k34 k35, r = [p2, k24, k25, k26, k27, k28, k29, k30, k31, k32, k33, k34, k35] := ⟨_, _, _, _, _, _, _, _, _, _, _, _, _, hr_⟩
  clear hr_
  refine okJ_cL (by decide) fun r hr_ => ?_
  obtain ⟨p3, k36, k37, k38, k39, k40, k41, k42, k43, k44, k45, k46, k47, rfl⟩ : ∃ p3 k36 k37 k38 k39 k40 k41 k42 k43 k44 k45 k46 k47, r = [p3, k36, k37, k38, k39, k40, k41, k42, k43, k44, k45, k46, k47] := ⟨_, _, _, _, _, _, _, _, _, _, _, _, _, hr_⟩
  clear hr_
  refine okJ_cL (by decide) fun r hr_ => ?_
  obtain ⟨p4, k48, k49, k50, k51, k52, k53, k54, k55, k56, k57, k58, k59, rfl⟩ : ∃ p4 k48 k49 k50 k51 k52 k53 k54 k55 k56 k57 k58 k59, r = [p4, k48, k49, k50, k51, k52, k53, k54, k55, k56, k57, k58, k59] := ⟨_, _, _, _, _, _, _, _, _, _, _, _, _, hr_⟩
  clear hr_
  refine okJ_cL (by decide) fun r hr_ => ?_
  obtain ⟨p5, k60, k61, k62, k63, k64, k65, k66, k67, k68, k69, k70, k71, rfl⟩ : ∃ p5 k60 k61 k62 k63 k64 k65 k66 k67 k68 k69 k70 k71, r = [p5, k60, k61, k62, k63, k64, k65, k66, k67, k68, k69, k70, k71] := ⟨_, _, _, _, _, _, _, _, _, _, _, _, _, hr_⟩
  clear hr_
  refine okJ_cL (by decide) fun r hr_ => ?_
  obtain ⟨p6, k72, k73, k74, k75, k76, k77, k78, k79, k80, k81, k82, k83, rfl⟩ : ∃ p6 k72 k73 k74 k75 k76 k77 k78 k79 k80 k81 k82 k83, r = [p6, k72, k73, k74, k75, k76, k77, k78, k79, k80, k81, k82, k83] := ⟨_, _, _, _, _, _, _, _, _, _, _, _, _, hr_⟩
  clear hr_
  refine okJ_cL (by decide) fun r hr_ => ?_
  obtain ⟨p7, k84, k85, k86, k87, k88, k89, k90, k91, k92, k93, k94, k95, rfl⟩ : ∃ p7 k84 k85 k86 k87 k88 k89 k90 k91 k92 k93 k94 k95, r = [p7, k84, k85, k86, k87, k88, k89, k90, k91, k92, k93, k94, k95] := ⟨_, _, _, _, _, _, _, _, _, _, _, _, _, hr_⟩
  clear hr_
  refine okJ_cL (by decide) fun r hr_ => ?_
  obtain ⟨p8, k96, k97, k98, k99, k100, k101, k102, k103, k104, k105, k106, k107, rfl⟩ : ∃ p8 k96 k97 k98 k99 k100 k101 k102 k103 k104 k105 k106 k107, r = [p8, k96, k97, k98, k99, k100, k101, k102, k103, k104, k105, k106, k107] := ⟨_, _, _, _, _, _, _, _, _, _, _, _, _, hr_⟩
  clear hr_
  refine okJ_srcK (B := 5) (by kernel_rfl) fun m0 q0 hm0a hm0b => ?_
  refine okJ_srcK (B := 4) (by kernel_rfl) fun m1 q1 hm1a hm1b => ?_
  refine okJ_srcK (B := 4) (by kernel_rfl) fun m2 q2 hm2a hm2b => ?_
  refine okJ_srcK (B := 4) (by kernel_rfl) fun m3 q3 hm3a hm3b => ?_
  refine okJ_srcK (B := 50) (by kernel_rfl) fun T q4 hTa hTb => ?_
  refine okJ_srcK (B := 5) (by kernel_rfl) fun x q5 hxa hxb => ?_
  refine okJ_srcK (B := 4) (by kernel_rfl) fun y q6 hya hyb => ?_
  refine okJ_srcK (B := 360000) (by kernel_rfl) fun C q7 hCa hCb => ?_
  refine okJ_srcK (B := 6001) (by kernel_rfl) fun su q8 hsua hsub => ?_
  refine okJ_srcK (B := 1801) (by kernel_rfl) fun sw q9 hswa hswb => ?_
  refine okJ_srcK (B := 1001) (by kernel_rfl) fun tu q10 htua htub => ?_
  have hT : 0 ≤ T ∧ T < 50 := ⟨hTa, hTb (by decide)⟩
  have hsu : 0 ≤ su ∧ su < 6001 := ⟨hsua, hsub (by decide)⟩
  have hsw : 0 ≤ sw ∧ sw < 1801 := ⟨hswa, hswb (by decide)⟩
  have htu : 0 ≤ tu ∧ tu < 1001 := ⟨htua, htub (by decide)⟩
  have hC : 0 ≤ C ∧ C < 360000 := ⟨hCa, hCb (by decide)⟩
  have hM := massZ_bd m0
  have hI := inerZ_bd m1
  have hD := dragZ_bd (m := m2) hM.1
  have hS := dragZ_bd (m := m3) hI.1
  have hX := xZ_bd x
  have hY := yZ_bd y
  have b1 := drag_bd (s := -3000 + su) hD.1 hD.2 hM.1
  have b2 := drag_bd (s := -900 + sw) hD.1 hD.2 hM.1
  have b3 := drag_bd (s := -500 + tu) hS.1 hS.2 hI.1
  obtain ⟨n1, hn1⟩ : ∃ n, n = nsZ (-3000 + su) (dragZ m2 (massZ m0)) 0 (massZ m0) := ⟨_, rfl⟩
  obtain ⟨n2, hn2⟩ : ∃ n, n = nsZ (-900 + sw) (dragZ m2 (massZ m0)) 0 (massZ m0) := ⟨_, rfl⟩
  obtain ⟨n3, hn3⟩ : ∃ n, n = nsZ (-500 + tu) (dragZ m3 (inerZ m1)) 0 (inerZ m1) := ⟨_, rfl⟩
  have c1 : (0 ≤ -3000 + su → 0 ≤ n1 ∧ n1 ≤ -3000 + su) ∧ (-3000 + su ≤ 0 → -3000 + su ≤ n1 ∧ n1 ≤ 0) := by rw [hn1]; exact b1
  have c2 : (0 ≤ -900 + sw → 0 ≤ n2 ∧ n2 ≤ -900 + sw) ∧ (-900 + sw ≤ 0 → -900 + sw ≤ n2 ∧ n2 ≤ 0) := by rw [hn2]; exact b2
  have c3 : (0 ≤ -500 + tu → 0 ≤ n3 ∧ n3 ≤ -500 + tu) ∧ (-500 + tu ≤ 0 → -500 + tu ≤ n3 ∧ n3 ≤ 0) := by rw [hn3]; exact b3
  have r1 : -100000 ≤ n1 ∧ n1 ≤ 100000 := by rcases Int.le_total 0 (-3000 + su) with h | h <;> omega
  have r2 : -100000 ≤ n2 ∧ n2 ≤ 100000 := by rcases Int.le_total 0 (-900 + sw) with h | h <;> omega
  have r3 : -10000 ≤ n3 ∧ n3 ≤ 10000 := by rcases Int.le_total 0 (-500 + tu) with h | h <;> omega
  have z1 := ns_full (s := -3000 + su) hM.1
  have z2 := ns_full (s := -900 + sw) hM.1
  have z3 := ns_full (s := -500 + tu) hI.1
  have w1 := mul_bd (x := dragZ m2 (massZ m0)) (y := -3000 + su) (a := 1000000) (b := 10000) (by omega) (by omega) (by omega) (by omega) (by omega) (by omega)
  have w2 := mul_bd (x := dragZ m2 (massZ m0)) (y := -900 + sw) (a := 1000000) (b := 10000) (by omega) (by omega) (by omega) (by omega) (by omega) (by omega)
  have w3 := mul_bd (x := dragZ m3 (inerZ m1)) (y := -500 + tu) (a := 1073741824) (b := 10000) (by omega) (by omega) (by omega) (by omega) (by omega) (by omega)
  have w4 := mul_bd (x := massZ m0) (y := -3000 + su) (a := 1000000) (b := 10000) (by omega) (by omega) (by omega) (by omega) (by omega) (by omega)
  have w5 := mul_bd (x := massZ m0) (y := -900 + sw) (a := 1000000) (b := 10000) (by omega) (by omega) (by omega) (by omega) (by omega) (by omega)
  have w6 := mul_bd (x := inerZ m1) (y := -500 + tu) (a := 1073741824) (b := 10000) (by omega) (by omega) (by omega) (by omega) (by omega) (by omega)
  obtain ⟨X1, hX1⟩ : ∃ n, n = xZ x + dxZ g n1 n2 (hdZ C n3) := ⟨_, rfl⟩
  obtain ⟨Y1, hY1⟩ : ∃ n, n = yZ y + dyZ g n1 n2 (hdZ C n3) := ⟨_, rfl⟩
  obtain ⟨C1, hC1⟩ : ∃ n, n = (C + n3) % 360000 := ⟨_, rfl⟩
  obtain ⟨C2, hC2⟩ : ∃ n, n = (C + 0) % 360000 := ⟨_, rfl⟩
  have s1 : g 21 [massZ m0, inerZ m1, dragZ m2 (massZ m0), dragZ m3 (inerZ m1), T, xZ x, yZ y, C, -3000 + su, -900 + sw, -500 + tu, 0, 0, 0, k0, k1, k2, k3, k4, k5, k6, k7, k8, k9, k10, k11, k12, k13, k14, k15, k16, k17, k18, k19, k20, k21, k22, k23, k24, k25, k26, k27, k28, k29, k30, k31, k32, k33, k34, k35, k36, k37, k38, k39, k40, k41, k42, k43, k44, k45, k46, k47, k48, k49, k50, k51, k52, k53, k54, k55, k56, k57, k58, k59, k60, k61, k62, k63, k64, k65, k66, k67, k68, k69, k70, k71, k72, k73, k74, k75, k76, k77, k78, k79, k80, k81, k82, k83, k84, k85, k86, k87, k88, k89, k90, k91, k92, k93, k94, k95, k96, k97, k98, k99, k100, k101, k102, k103, k104, k105, k106, k107] = [T + 1, X1, Y1, C1, n1, n2, n3, 0] := by
    rw [step9_ok hg hM.1 hI.1 (by omega) (by omega) (by omega) (by rw [← hn1]; exact r1) (by rw [← hn2]; exact r2) (by rw [← hn3]; exact r3) (by omega) hI.2 (by omega) (by omega) (by omega), ← hn1, ← hn2, ← hn3, ← hX1, ← hY1, ← hC1]
  have s2 : g 21 [massZ m0, inerZ m1, massZ m0, inerZ m1, T, xZ x, yZ y, C, -3000 + su, -900 + sw, -500 + tu, 0, 0, 0, k0, k1, k2, k3, k4, k5, k6, k7, k8, k9, k10, k11, k12, k13, k14, k15, k16, k17, k18, k19, k20, k21, k22, k23, k24, k25, k26, k27, k28, k29, k30, k31, k32, k33, k34, k35, k36, k37, k38, k39, k40, k41, k42, k43, k44, k45, k46, k47, k48, k49, k50, k51, k52, k53, k54, k55, k56, k57, k58, k59, k60, k61, k62, k63, k64, k65, k66, k67, k68, k69, k70, k71, k72, k73, k74, k75, k76, k77, k78, k79, k80, k81, k82, k83, k84, k85, k86, k87, k88, k89, k90, k91, k92, k93, k94, k95, k96, k97, k98, k99, k100, k101, k102, k103, k104, k105, k106, k107] = [T + 1, xZ x, yZ y, C2, 0, 0, 0, 0] := by
    rw [step9_ok hg hM.1 hI.1 (by omega) (by omega) (by omega) (by rw [z1]; omega) (by rw [z2]; omega) (by rw [z3]; omega) (by omega) hI.2 (by omega) (by omega) (by omega), z1, z2, z3, (d00 g _).1, (d00 g _).2, ← hC2, Int.add_zero, Int.add_zero]
  refine okJ_cK (by decide) (xs := [massZ m0, inerZ m1, dragZ m2 (massZ m0), dragZ m3 (inerZ m1), T, xZ x, yZ y, C, -3000 + su, -900 + sw, -500 + tu, 0, 0, 0, k0, k1, k2, k3, k4, k5, k6, k7, k8, k9, k10, k11, k12, k13, k14, k15, k16, k17, k18, k19, k20, k21, k22, k23, k24, k25, k26, k27, k28, k29, k30, k31, k32, k33, k34, k35, k36, k37, k38, k39, k40, k41, k42, k43, k44, k45, k46, k47, k48, k49, k50, k51, k52, k53, k54, k55, k56, k57, k58, k59, k60, k61, k62, k63, k64, k65, k66, k67, k68, k69, k70, k71, k72, k73, k74, k75, k76, k77, k78, k79, k80, k81, k82, k83, k84, k85, k86, k87, k88, k89, k90, k91, k92, k93, k94, k95, k96, k97, k98, k99, k100, k101, k102, k103, k104, k105, k106, k107]) (R := [T + 1, X1, Y1, C1, n1, n2, n3, 0]) (by kernel_rfl) (s1) rfl ?_
  refine okJ_iteK (b' := !(decide (0 = 0))) (by kernel_rfl) (fun h => ?_) fun _ => ?_
  · exfalso
    simp at h
  refine okJ_iteK (b' := ((decide (0 ≤ ((-3000) + su)) && (decide (n1 < 0) || decide (((-3000) + su) < n1))) || (decide (((-3000) + su) < 0) && (decide (0 < n1) || decide (n1 < ((-3000) + su)))))) (by kernel_rfl) (fun h => ?_) fun _ => ?_
  · exfalso
    simp only [Bool.or_eq_true, Bool.and_eq_true, decide_eq_true_eq] at h
    omega
  refine okJ_iteK (b' := ((decide (0 ≤ ((-900) + sw)) && (decide (n2 < 0) || decide (((-900) + sw) < n2))) || (decide (((-900) + sw) < 0) && (decide (0 < n2) || decide (n2 < ((-900) + sw)))))) (by kernel_rfl) (fun h => ?_) fun _ => ?_
  · exfalso
    simp only [Bool.or_eq_true, Bool.and_eq_true, decide_eq_true_eq] at h
    omega
  refine okJ_iteK (b' := ((decide (0 ≤ ((-500) + tu)) && (decide (n3 < 0) || decide (((-500) + tu) < n3))) || (decide (((-500) + tu) < 0) && (decide (0 < n3) || decide (n3 < ((-500) + tu)))))) (by kernel_rfl) (fun h => ?_) fun _ => ?_
  · exfalso
    simp only [Bool.or_eq_true, Bool.and_eq_true, decide_eq_true_eq] at h
    omega
  refine okJ_cK (by decide) (xs := [massZ m0, inerZ m1, massZ m0, inerZ m1, T, xZ x, yZ y, C, -3000 + su, -900 + sw, -500 + tu, 0, 0, 0, k0, k1, k2, k3, k4, k5, k6, k7, k8, k9, k10, k11, k12, k13, k14, k15, k16, k17, k18, k19, k20, k21, k22, k23, k24, k25, k26, k27, k28, k29, k30, k31, k32, k33, k34, k35, k36, k37, k38, k39, k40, k41, k42, k43, k44, k45, k46, k47, k48, k49, k50, k51, k52, k53, k54, k55, k56, k57, k58, k59, k60, k61, k62, k63, k64, k65, k66, k67, k68, k69, k70, k71, k72, k73, k74, k75, k76, k77, k78, k79, k80, k81, k82, k83, k84, k85, k86, k87, k88, k89, k90, k91, k92, k93, k94, k95, k96, k97, k98, k99, k100, k101, k102, k103, k104, k105, k106, k107]) (R := [T + 1, xZ x, yZ y, C2, 0, 0, 0, 0]) (by kernel_rfl) (s2) rfl ?_
  refine okJ_iteK (b' := decide (0 = 0)) (by kernel_rfl) (fun _ => ?_) (fun h => absurd h (by simp))
  refine okJ_iteK (b' := ((decide (0 = 0) && decide (0 = 0)) && decide (0 = 0))) (by kernel_rfl) (fun _ => ?_) (fun h => absurd h (by simp))
  refine okJ_cK (by decide) (xs := [xZ x, 100]) (R := [halfZ (xZ x) 100]) (by kernel_rfl) (g13 (en22_18 hg) (by decide) (by decide) ⟨by omega, by omega⟩) rfl ?_
  refine okJ_cK (by decide) (xs := [yZ y, 100]) (R := [halfZ (yZ y) 100]) (by kernel_rfl) (g13 (en22_18 hg) (by decide) (by decide) ⟨by omega, by omega⟩) rfl ?_
  refine okJ_cK (by decide) (xs := [xZ x, 100]) (R := [halfZ (xZ x) 100]) (by kernel_rfl) (g13 (en22_18 hg) (by decide) (by decide) ⟨by omega, by omega⟩) rfl ?_
  refine okJ_cK (by decide) (xs := [yZ y, 100]) (R := [halfZ (yZ y) 100]) (by kernel_rfl) (g13 (en22_18 hg) (by decide) (by decide) ⟨by omega, by omega⟩) rfl ?_
  refine okJ_iteK (b' := (decide ((halfZ (xZ x) 100) = (halfZ (xZ x) 100)) && decide ((halfZ (yZ y) 100) = (halfZ (yZ y) 100)))) (by kernel_rfl) (fun _ => ?_) (fun h => absurd h (by simp))
  exact okJ_c1 (by decide) fun _ _ => rfl
theorem walk (a0 : Option Addr) (len0 cap0 : Nat) (z0 : List Int) (w : World) (w0 : IsRow .i64 w a0 len0 cap0 z0) (r : List Int) (hr : KsOK (shsKs SS) r) :
    Calls Try.prog 4 (.slice a0 len0 cap0 :: shsV SS r).toArray w fun e w' => e = .returned (.bool true) ∧ Below w.heap.size w w' := by
  match r, hr.length, hr with
  | [], _, hr => exact row_lawX w0 en22_con en22_kl tree_eq (fun g hg => plain _ _ z0 g hg hr) hr
end Go.Proofs.Ytnnnmdmniceenaa.vesselDrags
