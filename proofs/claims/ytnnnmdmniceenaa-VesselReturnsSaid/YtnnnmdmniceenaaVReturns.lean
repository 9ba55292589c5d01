/- 'dynpos/dynposlaw23.VesselReturns': the tree of its walk, and that each of its leaves is true. -/
import Derived.Test.YtnnnmdmniceenaaVL
set_option linter.unusedSimpArgs false
set_option linter.unusedVariables false
set_option maxRecDepth 100000
namespace Go.Proofs.Ytnnnmdmniceenaa.vesselReturns
open Go.RowKit Ev
def SS : List Sh := [.one (some .i64)]
def hints : FuncId → Nat → Option Hint := fun _ _ => none
def tree : T Leaf :=
(.ite (.lt (.lit 600) (.v 0))
 (.call 10 [] 1
 (.leaf ((.bool (.lit true)), [], []))
 )
 (.call 900 [(.lit 4), (.mn (.v 0) (.lit 600)), (.lit 0)] 2
 (.call 900 [(.lit 50), (.mn (.v 0) (.lit 600)), (.v 4)] 2
 (.call 900 [(.lit 5), (.mn (.v 0) (.lit 600)), (.v 6)] 2
 (.call 900 [(.lit 4), (.mn (.v 0) (.lit 600)), (.v 8)] 2
 (.call 900 [(.lit 360000), (.mn (.v 0) (.lit 600)), (.v 10)] 2
 (.call 900 [(.lit 6001), (.mn (.v 0) (.lit 600)), (.v 12)] 2
 (.call 900 [(.lit 1801), (.mn (.v 0) (.lit 600)), (.v 14)] 2
 (.call 900 [(.lit 1001), (.mn (.v 0) (.lit 600)), (.v 16)] 2
 (.ite (.lt (.lit 30000) (.quo (.lit 40000) (.sw (.v 3) 0 (.lit 1) (.sw (.v 3) 1 (.lit 10) (.sw (.v 3) 2 (.lit 100) (.lit 1000))))))
  (.call 22 [(.sw (.v 3) 0 (.lit 1) (.sw (.v 3) 1 (.lit 10) (.sw (.v 3) 2 (.lit 100) (.lit 1000)))), (.lit 500), (.lit 0), (.lit 0), (.v 5), (.sw (.v 7) 0 (.lit 0) (.sw (.v 7) 1 (.lit 50) (.sw (.v 7) 2 (.lit (-50)) (.sw (.v 7) 3 (.lit 12345) (.lit (-99999)))))), (.sw (.v 9) 0 (.lit 0) (.sw (.v 9) 1 (.lit 1) (.sw (.v 9) 2 (.lit (-149)) (.lit 700)))), (.v 11), (.rem (.add (.lit (-3000)) (.v 13)) (.lit 100)), (.rem (.add (.lit (-900)) (.v 15)) (.lit 100)), (.add (.lit (-500)) (.v 17)), (.rem (.sub (.rem (.add (.rem (.v 2) (.lit 9)) (.lit 9)) (.lit 9)) (.lit 4)) (.lit 2)), (.lit 1), (.lit 0), (.lit 0), (.lit 0), (.lit 0), (.lit 0), (.lit 0), (.lit 0), (.lit 0), (.lit 0), (.lit 0), (.lit 0), (.lit 0), (.lit 0)] 8
  (.call 22 [(.sw (.v 3) 0 (.lit 1) (.sw (.v 3) 1 (.lit 10) (.sw (.v 3) 2 (.lit 100) (.lit 1000)))), (.lit 500), (.lit 0), (.lit 0), (.v 19), (.v 20), (.v 21), (.v 22), (.v 23), (.v 24), (.v 25), (.sub (.lit 0) (.rem (.sub (.rem (.add (.rem (.v 2) (.lit 9)) (.lit 9)) (.lit 9)) (.lit 4)) (.lit 2))), (.lit (-1)), (.lit 0), (.lit 0), (.lit 0), (.lit 0), (.lit 0), (.lit 0), (.lit 0), (.lit 0), (.lit 0), (.lit 0), (.lit 0), (.lit 0), (.lit 0)] 8
  (.ite (.and (.and (.and (.and (.eq (.v 26) (.lit 0)) (.eq (.v 34) (.lit 0))) (.eq (.v 31) (.rem (.add (.lit (-3000)) (.v 13)) (.lit 100)))) (.eq (.v 32) (.rem (.add (.lit (-900)) (.v 15)) (.lit 100)))) (.eq (.v 33) (.add (.lit (-500)) (.v 17))))
   (.call 10 [] 1
   (.leaf ((.bool (.lit true)), [], []))
   )
   (.leaf ((.bool (.lit false)), [], []))
  )
  )
  )
  (.call 22 [(.sw (.v 3) 0 (.lit 1) (.sw (.v 3) 1 (.lit 10) (.sw (.v 3) 2 (.lit 100) (.lit 1000)))), (.lit 500), (.lit 0), (.lit 0), (.v 5), (.sw (.v 7) 0 (.lit 0) (.sw (.v 7) 1 (.lit 50) (.sw (.v 7) 2 (.lit (-50)) (.sw (.v 7) 3 (.lit 12345) (.lit (-99999)))))), (.sw (.v 9) 0 (.lit 0) (.sw (.v 9) 1 (.lit 1) (.sw (.v 9) 2 (.lit (-149)) (.lit 700)))), (.v 11), (.rem (.add (.lit (-3000)) (.v 13)) (.lit 100)), (.rem (.add (.lit (-900)) (.v 15)) (.lit 100)), (.add (.lit (-500)) (.v 17)), (.sub (.rem (.add (.rem (.v 2) (.lit 9)) (.lit 9)) (.lit 9)) (.lit 4)), (.sub (.lit 3) (.sub (.rem (.add (.rem (.v 2) (.lit 9)) (.lit 9)) (.lit 9)) (.lit 4))), (.lit 0), (.lit 0), (.lit 0), (.lit 0), (.lit 0), (.lit 0), (.lit 0), (.lit 0), (.lit 0), (.lit 0), (.lit 0), (.lit 0), (.lit 0)] 8
  (.call 22 [(.sw (.v 3) 0 (.lit 1) (.sw (.v 3) 1 (.lit 10) (.sw (.v 3) 2 (.lit 100) (.lit 1000)))), (.lit 500), (.lit 0), (.lit 0), (.v 19), (.v 20), (.v 21), (.v 22), (.v 23), (.v 24), (.v 25), (.sub (.lit 0) (.sub (.rem (.add (.rem (.v 2) (.lit 9)) (.lit 9)) (.lit 9)) (.lit 4))), (.sub (.lit 0) (.sub (.lit 3) (.sub (.rem (.add (.rem (.v 2) (.lit 9)) (.lit 9)) (.lit 9)) (.lit 4)))), (.lit 0), (.lit 0), (.lit 0), (.lit 0), (.lit 0), (.lit 0), (.lit 0), (.lit 0), (.lit 0), (.lit 0), (.lit 0), (.lit 0), (.lit 0)] 8
  (.ite (.and (.and (.and (.and (.eq (.v 26) (.lit 0)) (.eq (.v 34) (.lit 0))) (.eq (.v 31) (.rem (.add (.lit (-3000)) (.v 13)) (.lit 100)))) (.eq (.v 32) (.rem (.add (.lit (-900)) (.v 15)) (.lit 100)))) (.eq (.v 33) (.add (.lit (-500)) (.v 17))))
   (.call 10 [] 1
   (.leaf ((.bool (.lit true)), [], []))
   )
   (.leaf ((.bool (.lit false)), [], []))
  )
  )
  )
 )
 )
 )
 )
 )
 )
 )
 )
 )
)
theorem tree_eq : (evFn Try.prog (rowCtxE (exL en22) [] hints) 60 12 3 (.sls 0 (.v 0) (.v 1) :: shsS SS 2) [] (rowFx (rngE 2 (ksRg (shsKs SS)))) (shsW SS + 2)).strip = tree := by kernel_rfl
def JJ : Nat → List Int → List Int → Prop := fun _ _ _ => True
theorem okJ_cE {α : Type} {J : Nat → List Int → List Int → Prop} {g : Nat → List Int → List Int} {L : List Int → α → Prop} {ρ : List Int} {k m : Nat} {es : List E} {t : T α} {R : List Int} (hk : k < 900) (he : g k (es.map (den ρ)) = R) (hm : R.length = m) (h : T.okJ J g L (ρ ++ R) t) : T.okJ J g L ρ (.call k es m t) :=
  okJ_call hk (by rw [he, fit_len hm]; exact h)
theorem ns_Q {s a M Q : Int} (hM : 1 ≤ M) (hQ : M * Q = 10000) : nsZ s 0 a M = s + Q * a := by
  unfold nsZ
  rw [show 10000 * a - 0 * s = M * (Q * a) by rw [← Int.mul_assoc, hQ]; omega, halfZ_mul (by omega)]
theorem ns_0 {s M : Int} (hM : 1 ≤ M) : nsZ s 0 0 M = s := by
  unfold nsZ
  rw [show 10000 * 0 - 0 * s = (0 : Int) by omega, halfZ_zero (by omega)]; omega
theorem ret {l c : Int} {z : List Int} {g : Nat → List Int → List Int} (hg : EnOK g l c z en22) {M Q T X Y C su sw tu a b : Int} (hM : 1 ≤ M) (hM2 : M ≤ 1000) (hQ : M * Q = 10000) (hT : 0 ≤ T ∧ T ≤ 100) (hX : -100000 ≤ X ∧ X ≤ 100000) (hY : -100000 ≤ Y ∧ Y ≤ 100000)
    (hsu : -100 ≤ su ∧ su ≤ 100) (hsw : -100 ≤ sw ∧ sw ≤ 100) (htu : -500 ≤ tu ∧ tu ≤ 500) (ha : -10 ≤ a ∧ a ≤ 10) (hb : -10 ≤ b ∧ b ≤ 10) (qa : -10000 ≤ Q * a ∧ Q * a ≤ 10000) (qb : -10000 ≤ Q * b ∧ Q * b ≤ 10000) :
    ∃ X1 Y1 C1 X2 Y2 C2, g 22 [M, 500, 0, 0, T, X, Y, C, su, sw, tu, a, b, 0, 0, 0, 0, 0, 0, 0, 0, 0, 0, 0, 0, 0] = [T + 1, X1, Y1, C1, su + Q * a, sw + Q * b, tu, 0] ∧
      g 22 [M, 500, 0, 0, T + 1, X1, Y1, C1, su + Q * a, sw + Q * b, tu, 0 - a, 0 - b, 0, 0, 0, 0, 0, 0, 0, 0, 0, 0, 0, 0, 0] = [T + 1 + 1, X2, Y2, C2, su, sw, tu, 0] := by
  have e1 := ns_Q (s := su) (a := a) hM hQ
  have e2 := ns_Q (s := sw) (a := b) hM hQ
  have e3 := ns_0 (s := tu) (M := 500) (by omega)
  have f1 : nsZ (su + Q * a) 0 (0 - a) M = su := by rw [ns_Q hM hQ, Int.mul_sub]; omega
  have f2 : nsZ (sw + Q * b) 0 (0 - b) M = sw := by rw [ns_Q hM hQ, Int.mul_sub]; omega
  have s1 := step1_ok (k0 := 0) (k1 := 0) (k2 := 0) (k3 := 0) (k4 := 0) (k5 := 0) (k6 := 0) (k7 := 0) (k8 := 0) (k9 := 0) (k10 := 0) (k11 := 0) hg (I := 500) (D := 0) (S := 0) (T := T) (X := X) (Y := Y) (C := C) (su := su) (sw := sw) (tu := tu) (a := a) (b := b) (e := 0) hM (by omega) (by omega) (by omega) (by omega) (by rw [e1]; omega) (by rw [e2]; omega) (by rw [e3]; omega) (by omega) (by omega) (by omega) (by omega) (by omega)
  have hd := dx_bd (en22_18 hg) (u := nsZ su 0 a M) (w := nsZ sw 0 b M) (h := hdZ C (nsZ tu 0 0 500)) (by rw [e1]; omega) (by rw [e2]; omega)
  have s2 := step1_ok (k0 := 0) (k1 := 0) (k2 := 0) (k3 := 0) (k4 := 0) (k5 := 0) (k6 := 0) (k7 := 0) (k8 := 0) (k9 := 0) (k10 := 0) (k11 := 0) hg (I := 500) (D := 0) (S := 0) (T := T + 1) (X := X + dxZ g (nsZ su 0 a M) (nsZ sw 0 b M) (hdZ C (nsZ tu 0 0 500))) (Y := Y + dyZ g (nsZ su 0 a M) (nsZ sw 0 b M) (hdZ C (nsZ tu 0 0 500))) (C := (C + nsZ tu 0 0 500) % 360000) (su := su + Q * a) (sw := sw + Q * b) (tu := tu) (a := 0 - a) (b := 0 - b) (e := 0) hM (by omega) (by omega) (by omega) (by omega) (by rw [f1]; omega) (by rw [f2]; omega) (by rw [e3]; omega) (by omega) (by omega) (by omega) (by omega) (by omega)
  generalize X + dxZ g (nsZ su 0 a M) (nsZ sw 0 b M) (hdZ C (nsZ tu 0 0 500)) = X1 at *
  generalize Y + dyZ g (nsZ su 0 a M) (nsZ sw 0 b M) (hdZ C (nsZ tu 0 0 500)) = Y1 at *
  generalize (C + nsZ tu 0 0 500) % 360000 = C1 at *
  rw [e1, e2, e3] at s1
  rw [f1, f2, e3] at s2
  exact ⟨X1, Y1, C1, _, _, _, s1, s2⟩
def mZ (m : Int) : Int := if m = 0 then 1 else if m = 1 then 10 else if m = 2 then 100 else 1000
def xZ (m : Int) : Int := if m = 0 then 0 else if m = 1 then 50 else if m = 2 then -50 else if m = 3 then 12345 else -99999
def yZ (m : Int) : Int := if m = 0 then 0 else if m = 1 then 1 else if m = 2 then -149 else 700
theorem xZ_bd (m : Int) : -100000 ≤ xZ m ∧ xZ m ≤ 100000 := by unfold xZ; (repeat' split) <;> omega
theorem yZ_bd (m : Int) : -100000 ≤ yZ m ∧ yZ m ≤ 100000 := by unfold yZ; (repeat' split) <;> omega
theorem mod_bd {x d : Int} (hd : 0 < d) : -d < x.tmod d ∧ x.tmod d < d := ⟨Int.lt_tmod_of_pos x hd, Int.tmod_lt_of_pos x hd⟩

set_option maxHeartbeats 4000000 in
theorem plain (l c : Int) (z : List Int) (g : Nat → List Int → List Int) (hg : EnOK g l c z en22) (x0 : Int) (hr : KsOK (shsKs SS) [x0]) : T.okJ JJ g LTrue [l, c, x0] tree := by
  unfold tree
  refine okJ_ite (fun _ => okJ_c1 (by decide) fun _ _ => rfl) fun _ => ?_
  refine okJ_src fun m q0 _ _ => ?_
  refine okJ_src fun T q1 hT0 hT1 => ?_
  refine okJ_src fun xi q2 _ _ => ?_
  refine okJ_src fun yi q3 _ _ => ?_
  refine okJ_src fun C q4 _ _ => ?_
  refine okJ_src fun su q5 hs0 hs1 => ?_
  refine okJ_src fun sw q6 hw0 hw1 => ?_
  refine okJ_src fun tu q7 ht0 ht1 => ?_
  have hT1 : T < 50 := hT1 (show (1 : Int) ≤ 50 by decide)
  have ht1 : tu < 1001 := ht1 (show (1 : Int) ≤ 1001 by decide)
  have b1 := mod_bd (x := -3000 + su) (d := 100) (by omega)
  have b2 := mod_bd (x := -900 + sw) (d := 100) (by omega)
  have hk0 : 0 ≤ (x0.tmod 9 + 9).tmod 9 ∧ (x0.tmod 9 + 9).tmod 9 < 9 := by
    have h1 := mod_bd (x := x0) (d := 9) (by omega)
    exact ⟨Int.tmod_nonneg _ (by omega), Int.tmod_lt_of_pos _ (by omega)⟩
  refine okJ_ite (fun hc => ?_) fun hc => ?_
  · have hc : decide (30000 < (40000 : Int).tdiv (mZ m)) = true := hc
    have hm : mZ m = 1 := by
      have hc := of_decide_eq_true hc
      unfold mZ at hc ⊢
      split at hc
      · rename_i h; rw [if_pos h]
      · exfalso; revert hc; (repeat' split) <;> decide
    have b3 := mod_bd (x := (x0.tmod 9 + 9).tmod 9 - 4) (d := 2) (by omega)
    have hQ : mZ m * 10000 = 10000 := by rw [hm]; rfl
    generalize hQe : (10000 : Int) = Q at hQ
    have qa : -10000 ≤ Q * ((x0.tmod 9 + 9).tmod 9 - 4).tmod 2 ∧ Q * ((x0.tmod 9 + 9).tmod 9 - 4).tmod 2 ≤ 10000 := by subst hQe; omega
    have qb : -10000 ≤ Q * 1 ∧ Q * 1 ≤ 10000 := by subst hQe; omega
    have hQ : mZ m * Q = 10000 := by rw [hQ, ← hQe]
    obtain ⟨X1, Y1, C1, X2, Y2, C2, s1, s2⟩ := ret hg (M := mZ m) (Q := Q) (T := T) (X := xZ xi) (Y := yZ yi) (C := C) (su := (-3000 + su).tmod 100) (sw := (-900 + sw).tmod 100) (tu := -500 + tu) (a := ((x0.tmod 9 + 9).tmod 9 - 4).tmod 2) (b := 1) (by omega) (by omega) hQ (by omega) (xZ_bd xi) (yZ_bd yi) (by omega) (by omega) (by omega) (by omega) (by omega) qa qb
    refine okJ_cE (by decide) s1 rfl ?_
    refine okJ_cE (by decide) s2 rfl ?_
    refine okJ_ite (fun _ => okJ_c1 (by decide) fun _ _ => rfl) fun h => ?_
    exfalso
    have h : (decide ((0 : Int) = 0) && decide ((0 : Int) = 0) && decide ((-3000 + su).tmod 100 = (-3000 + su).tmod 100) && decide ((-900 + sw).tmod 100 = (-900 + sw).tmod 100) && decide (-500 + tu = -500 + tu)) = false := h
    simp at h
  · have hc : decide (30000 < (40000 : Int).tdiv (mZ m)) = false := hc
    obtain ⟨Q, hQ, q0, q1, m0, m1⟩ : ∃ Q, mZ m * Q = 10000 ∧ 0 ≤ Q ∧ Q ≤ 1000 ∧ 1 ≤ mZ m ∧ mZ m ≤ 1000 := by
      have hc := of_decide_eq_false hc
      unfold mZ at hc ⊢
      by_cases c0 : m = 0
      · rw [if_pos c0] at hc; exact absurd (by decide) hc
      · rw [if_neg c0]
        by_cases c1 : m = 1
        · rw [if_pos c1]; exact ⟨1000, rfl, by omega, by omega, by omega, by omega⟩
        · rw [if_neg c1]
          by_cases c2 : m = 2
          · rw [if_pos c2]; exact ⟨100, rfl, by omega, by omega, by omega, by omega⟩
          · rw [if_neg c2]; exact ⟨10, rfl, by omega, by omega, by omega, by omega⟩
    have bd : ∀ k : Int, -10 ≤ k → k ≤ 10 → -10000 ≤ Q * k ∧ Q * k ≤ 10000 := fun k h1 h2 => mul_bd (a := 1000) (b := 10) (by omega) (by omega) (by omega) (by omega) h1 h2
    have qa := bd ((x0.tmod 9 + 9).tmod 9 - 4) (by omega) (by omega)
    have qb := bd (3 - ((x0.tmod 9 + 9).tmod 9 - 4)) (by omega) (by omega)
    obtain ⟨X1, Y1, C1, X2, Y2, C2, s1, s2⟩ := ret hg (M := mZ m) (Q := Q) (T := T) (X := xZ xi) (Y := yZ yi) (C := C) (su := (-3000 + su).tmod 100) (sw := (-900 + sw).tmod 100) (tu := -500 + tu) (a := ((x0.tmod 9 + 9).tmod 9 - 4)) (b := (3 - ((x0.tmod 9 + 9).tmod 9 - 4))) (by omega) (by omega) hQ (by omega) (xZ_bd xi) (yZ_bd yi) (by omega) (by omega) (by omega) (by omega) (by omega) qa qb
    refine okJ_cE (by decide) s1 rfl ?_
    refine okJ_cE (by decide) s2 rfl ?_
    refine okJ_ite (fun _ => okJ_c1 (by decide) fun _ _ => rfl) fun h => ?_
    exfalso
    have h : (decide ((0 : Int) = 0) && decide ((0 : Int) = 0) && decide ((-3000 + su).tmod 100 = (-3000 + su).tmod 100) && decide ((-900 + sw).tmod 100 = (-900 + sw).tmod 100) && decide (-500 + tu = -500 + tu)) = false := h
    simp at h
theorem walk (a0 : Option Addr) (len0 cap0 : Nat) (z0 : List Int) (w : World) (w0 : IsRow .i64 w a0 len0 cap0 z0) (r : List Int) (hr : KsOK (shsKs SS) r) :
    Calls Try.prog 3 (.slice a0 len0 cap0 :: shsV SS r).toArray w fun e w' => e = .returned (.bool true) ∧ Below w.heap.size w w' := by
  match r, hr.length, hr with
  | [x0], _, hr => exact row_lawX w0 en22_con en22_kl tree_eq (fun g hg => plain _ _ z0 g hg _ hr) hr
end Go.Proofs.Ytnnnmdmniceenaa.vesselReturns
