/- Chapter 7: what the contracts' functions are, in plain integers. -/
import Derived.Test.YtejklpbiieofoaaMTC
import Derived.Test.YtejklpbiieofoaaOkJ
set_option linter.unusedSimpArgs false
set_option linter.unusedVariables false
set_option maxRecDepth 100000
namespace Go.Proofs.Ytejklpbiieofoaa
open Go.RowKit Ev
def mxz (a b : Int) : Int := if a < b then b else a
/-- A track is empty, or it can be one. -/
def TV (k l0 l1 l2 l3 g0 g1 g2 g3 s m st : Int) : Prop := (l0 = 0 ∧ l1 = 0 ∧ l2 = 0 ∧ l3 = 0 ∧ g0 = 0 ∧ g1 = 0 ∧ g2 = 0 ∧ g3 = 0 ∧ s = 0 ∧ m = 0 ∧ st = 0) ∨ (s = 1 ∧ 1 ≤ l3 ∧ 1 ≤ g3 ∧ 1 ≤ m ∧ m ≤ k)
theorem TV_0 : TV 0 0 0 0 0 0 0 0 0 0 0 0 := .inl ⟨rfl, rfl, rfl, rfl, rfl, rfl, rfl, rfl, rfl, rfl, rfl⟩
theorem TV_mono {k k' l0 l1 l2 l3 g0 g1 g2 g3 s m st : Int} (hk : k ≤ k') (h : TV k l0 l1 l2 l3 g0 g1 g2 g3 s m st) : TV k' l0 l1 l2 l3 g0 g1 g2 g3 s m st := by
  unfold TV at *
  omega
/-- Numbers that are a good track with the answer 0, or the answer 16. -/
def StepR (k : Int) (R : List Int) : Prop := ∃ a0 a1 a2 a3 a4 a5 a6 a7 a8 a9 a10 e : Int, R = [a0, a1, a2, a3, a4, a5, a6, a7, a8, a9, a10, e] ∧ (e = 0 ∧ TV k a0 a1 a2 a3 a4 a5 a6 a7 a8 a9 a10 ∨ e = 16)
/-- A good track, and 0 or 16. -/
def RunR (R : List Int) : Prop := ∃ a0 a1 a2 a3 a4 a5 a6 a7 a8 a9 a10 e : Int, R = [a0, a1, a2, a3, a4, a5, a6, a7, a8, a9, a10, e] ∧ TV 6 a0 a1 a2 a3 a4 a5 a6 a7 a8 a9 a10 ∧ (e = 0 ∨ e = 16)
section
variable {F : Nat → List Int → List Int} {Q : List Int → Prop} {ρ xs R : List Int} {k m : Nat} {es : List E} {t e : T (List E)} {b : B}
theorem runQ_call (hx : es.map (den ρ) = xs) (he : F k xs = R) (hm : R.length = m) (h : Q (Ev.runT F (ρ ++ R) t)) : Q (Ev.runT F ρ (.call k es m t)) := by
  show Q (Ev.runT F (ρ ++ fit m (F k (es.map (den ρ)))) t)
  rw [hx, he, fit_len hm]; exact h
theorem runQ_ite {b' : Bool} (hb : denB ρ b = b') (h1 : b' = true → Q (Ev.runT F ρ t)) (h2 : b' = false → Q (Ev.runT F ρ e)) : Q (Ev.runT F ρ (.ite b t e)) := by
  show Q (if denB ρ b = true then Ev.runT F ρ t else Ev.runT F ρ e)
  rw [hb]
  cases b' with
  | true => exact h1 rfl
  | false => exact h2 rfl
theorem runQ_leaf (hx : es.map (den ρ) = xs) (h : Q xs) : Q (Ev.runT F ρ (.leaf es)) := by
  show Q (es.map (den ρ))
  rw [hx]; exact h
end
section
variable {g : Nat → List Int → List Int} {l c : Int} {z : List Int}
set_option maxHeartbeats 1000000 in
theorem step0_eq (hg : EnOK g l c z en27) (r0 r1 r2 r3 l0 l1 l2 l3 g0 g1 g2 g3 s m st f0 f1 f2 f3 : Int) : g 18 [r0, r1, r2, r3, l0, l1, l2, l3, g0, g1, g2, g3, s, m, st, f0, f1, f2, f3] = (if (!(!(decide (s ≠ 0)))) = true then (if (decide (1 ≤ l3)) = true then (if (decide (1 ≤ g3)) = true then [0, 0, 0, 0, 0, 0, 0, 0, 0, 0, 0, 1] else [0, 0, 0, 0, 0, 0, 0, 0, 0, 0, 0, 1]) else [0, 0, 0, 0, 0, 0, 0, 0, 0, 0, 0, 1]) else [f0, f1, f2, f3, f0, f1, f2, f3, 1, 1, 1, 0]) := by
  have h := hg.2.2.2.2.2.2.2.2.1 [r0, r1, r2, r3, l0, l1, l2, l3, g0, g1, g2, g3, s, m, st, f0, f1, f2, f3]
  rw [show c_step0.key = 18 from rfl, rowF_lt (by decide)] at h
  exact h
set_option maxHeartbeats 2000000 in
theorem step0_ok (hg : EnOK g l c z en27) (r0 r1 r2 r3 : Int) {l0 l1 l2 l3 g0 g1 g2 g3 s m st : Int} (tv : TV 0 l0 l1 l2 l3 g0 g1 g2 g3 s m st) (f0 f1 f2 : Int) {f3 : Int} (hf : 1 ≤ f3) : StepR 1 (g 18 [r0, r1, r2, r3, l0, l1, l2, l3, g0, g1, g2, g3, s, m, st, f0, f1, f2, f3]) := by
  rw [step0_eq hg]
  unfold TV at tv
  (repeat' split) <;> refine ⟨_, _, _, _, _, _, _, _, _, _, _, _, rfl, ?_⟩ <;> first
    | exact .inr rfl
    | (refine .inl ⟨rfl, ?_⟩
       unfold TV
       refine .inr ⟨rfl, ?_, ?_, ?_, ?_⟩ <;> ((try simp only [Bool.not_not, Bool.and_eq_true, Bool.or_eq_true, decide_eq_true_eq, Bool.not_eq_true', decide_eq_false_iff_not, ne_eq, Decidable.not_not, Int.not_le, Int.not_lt, Bool.not_eq_true] at *) <;> omega))
    | (exfalso
       (try simp only [Bool.not_not, Bool.and_eq_true, Bool.or_eq_true, decide_eq_true_eq, Bool.not_eq_true', decide_eq_false_iff_not, ne_eq, Decidable.not_not, Int.not_le, Int.not_lt, Bool.not_eq_true] at *) <;> omega)
set_option maxHeartbeats 1000000 in
theorem step1_eq (hg : EnOK g l c z en27) (r0 r1 r2 r3 l0 l1 l2 l3 g0 g1 g2 g3 s m st f0 f1 f2 f3 : Int) : g 17 [r0, r1, r2, r3, l0, l1, l2, l3, g0, g1, g2, g3, s, m, st, f0, f1, f2, f3] = (if (!(!(decide (s ≠ 0)))) = true then (if (decide (1 ≤ l3)) = true then (if (decide (1 ≤ g3)) = true then (if (decide (m < 1)) = true then [0, 0, 0, 0, 0, 0, 0, 0, 0, 0, 0, 1] else (if (decide (f0 ≤ l0)) = true then [0, 0, 0, 0, 0, 0, 0, 0, 0, 0, 0, 16] else (if ((decide (l1 = f1) && decide (l2 = f2))) = true then (if (decide ((((r1 * (f0 - g0)) + g3) + f3) < (mxz (mxz (g1 - f1) (f1 - g1)) (mxz (g2 - f2) (f2 - g2))))) = true then [f0, f1, f2, f3, g0, g1, g2, g3, 1, 2, 4, 0] else (if ((!(decide (r3 = 0)) && decide (r3 ≤ 2))) = true then [f0, f1, f2, f3, g0, g1, g2, g3, 1, 2, 3, 0] else [f0, f1, f2, f3, f0, f1, f2, f3, 1, 2, 1, 0])) else (if (decide ((((r1 * (f0 - g0)) + g3) + f3) < (mxz (mxz (g1 - f1) (f1 - g1)) (mxz (g2 - f2) (f2 - g2))))) = true then [f0, f1, f2, f3, g0, g1, g2, g3, 1, 1, 4, 0] else (if ((!(decide (r3 = 0)) && decide (r3 ≤ 1))) = true then [f0, f1, f2, f3, g0, g1, g2, g3, 1, 1, 3, 0] else [f0, f1, f2, f3, f0, f1, f2, f3, 1, 1, 1, 0]))))) else [0, 0, 0, 0, 0, 0, 0, 0, 0, 0, 0, 1]) else [0, 0, 0, 0, 0, 0, 0, 0, 0, 0, 0, 1]) else [f0, f1, f2, f3, f0, f1, f2, f3, 1, 1, 1, 0]) := by
  have h := hg.2.2.2.2.2.2.2.2.2.1 [r0, r1, r2, r3, l0, l1, l2, l3, g0, g1, g2, g3, s, m, st, f0, f1, f2, f3]
  rw [show c_step1.key = 17 from rfl, rowF_lt (by decide)] at h
  exact h
set_option maxHeartbeats 2000000 in
theorem step1_ok (hg : EnOK g l c z en27) (r0 r1 r2 r3 : Int) {l0 l1 l2 l3 g0 g1 g2 g3 s m st : Int} (tv : TV 1 l0 l1 l2 l3 g0 g1 g2 g3 s m st) (f0 f1 f2 : Int) {f3 : Int} (hf : 1 ≤ f3) : StepR 2 (g 17 [r0, r1, r2, r3, l0, l1, l2, l3, g0, g1, g2, g3, s, m, st, f0, f1, f2, f3]) := by
  rw [step1_eq hg]
  unfold TV at tv
  (repeat' split) <;> refine ⟨_, _, _, _, _, _, _, _, _, _, _, _, rfl, ?_⟩ <;> first
    | exact .inr rfl
    | (refine .inl ⟨rfl, ?_⟩
       unfold TV
       refine .inr ⟨rfl, ?_, ?_, ?_, ?_⟩ <;> ((try simp only [Bool.not_not, Bool.and_eq_true, Bool.or_eq_true, decide_eq_true_eq, Bool.not_eq_true', decide_eq_false_iff_not, ne_eq, Decidable.not_not, Int.not_le, Int.not_lt, Bool.not_eq_true] at *) <;> omega))
    | (exfalso
       (try simp only [Bool.not_not, Bool.and_eq_true, Bool.or_eq_true, decide_eq_true_eq, Bool.not_eq_true', decide_eq_false_iff_not, ne_eq, Decidable.not_not, Int.not_le, Int.not_lt, Bool.not_eq_true] at *) <;> omega)
set_option maxHeartbeats 1000000 in
theorem step2_eq (hg : EnOK g l c z en27) (r0 r1 r2 r3 l0 l1 l2 l3 g0 g1 g2 g3 s m st f0 f1 f2 f3 : Int) : g 16 [r0, r1, r2, r3, l0, l1, l2, l3, g0, g1, g2, g3, s, m, st, f0, f1, f2, f3] = (if (!(!(decide (s ≠ 0)))) = true then (if (decide (1 ≤ l3)) = true then (if (decide (1 ≤ g3)) = true then (if (decide (m < 1)) = true then [0, 0, 0, 0, 0, 0, 0, 0, 0, 0, 0, 1] else (if (decide (f0 ≤ l0)) = true then [0, 0, 0, 0, 0, 0, 0, 0, 0, 0, 0, 16] else (if ((decide (l1 = f1) && decide (l2 = f2))) = true then (if (decide ((((r1 * (f0 - g0)) + g3) + f3) < (mxz (mxz (g1 - f1) (f1 - g1)) (mxz (g2 - f2) (f2 - g2))))) = true then [f0, f1, f2, f3, g0, g1, g2, g3, 1, (m + 1), 4, 0] else (if ((!(decide (r3 = 0)) && decide (r3 ≤ (m + 1)))) = true then [f0, f1, f2, f3, g0, g1, g2, g3, 1, (m + 1), 3, 0] else [f0, f1, f2, f3, f0, f1, f2, f3, 1, (m + 1), 1, 0])) else (if (decide ((((r1 * (f0 - g0)) + g3) + f3) < (mxz (mxz (g1 - f1) (f1 - g1)) (mxz (g2 - f2) (f2 - g2))))) = true then [f0, f1, f2, f3, g0, g1, g2, g3, 1, 1, 4, 0] else (if ((!(decide (r3 = 0)) && decide (r3 ≤ 1))) = true then [f0, f1, f2, f3, g0, g1, g2, g3, 1, 1, 3, 0] else [f0, f1, f2, f3, f0, f1, f2, f3, 1, 1, 1, 0]))))) else [0, 0, 0, 0, 0, 0, 0, 0, 0, 0, 0, 1]) else [0, 0, 0, 0, 0, 0, 0, 0, 0, 0, 0, 1]) else [f0, f1, f2, f3, f0, f1, f2, f3, 1, 1, 1, 0]) := by
  have h := hg.2.2.2.2.2.2.2.2.2.2.1 [r0, r1, r2, r3, l0, l1, l2, l3, g0, g1, g2, g3, s, m, st, f0, f1, f2, f3]
  rw [show c_step2.key = 16 from rfl, rowF_lt (by decide)] at h
  exact h
set_option maxHeartbeats 2000000 in
theorem step2_ok (hg : EnOK g l c z en27) (r0 r1 r2 r3 : Int) {l0 l1 l2 l3 g0 g1 g2 g3 s m st : Int} (tv : TV 2 l0 l1 l2 l3 g0 g1 g2 g3 s m st) (f0 f1 f2 : Int) {f3 : Int} (hf : 1 ≤ f3) : StepR 3 (g 16 [r0, r1, r2, r3, l0, l1, l2, l3, g0, g1, g2, g3, s, m, st, f0, f1, f2, f3]) := by
  rw [step2_eq hg]
  unfold TV at tv
  (repeat' split) <;> refine ⟨_, _, _, _, _, _, _, _, _, _, _, _, rfl, ?_⟩ <;> first
    | exact .inr rfl
    | (refine .inl ⟨rfl, ?_⟩
       unfold TV
       refine .inr ⟨rfl, ?_, ?_, ?_, ?_⟩ <;> ((try simp only [Bool.not_not, Bool.and_eq_true, Bool.or_eq_true, decide_eq_true_eq, Bool.not_eq_true', decide_eq_false_iff_not, ne_eq, Decidable.not_not, Int.not_le, Int.not_lt, Bool.not_eq_true] at *) <;> omega))
    | (exfalso
       (try simp only [Bool.not_not, Bool.and_eq_true, Bool.or_eq_true, decide_eq_true_eq, Bool.not_eq_true', decide_eq_false_iff_not, ne_eq, Decidable.not_not, Int.not_le, Int.not_lt, Bool.not_eq_true] at *) <;> omega)
set_option maxHeartbeats 1000000 in
theorem step3_eq (hg : EnOK g l c z en27) (r0 r1 r2 r3 l0 l1 l2 l3 g0 g1 g2 g3 s m st f0 f1 f2 f3 : Int) : g 15 [r0, r1, r2, r3, l0, l1, l2, l3, g0, g1, g2, g3, s, m, st, f0, f1, f2, f3] = (if (!(!(decide (s ≠ 0)))) = true then (if (decide (1 ≤ l3)) = true then (if (decide (1 ≤ g3)) = true then (if (decide (m < 1)) = true then [0, 0, 0, 0, 0, 0, 0, 0, 0, 0, 0, 1] else (if (decide (f0 ≤ l0)) = true then [0, 0, 0, 0, 0, 0, 0, 0, 0, 0, 0, 16] else (if ((decide (l1 = f1) && decide (l2 = f2))) = true then (if (decide ((((r1 * (f0 - g0)) + g3) + f3) < (mxz (mxz (g1 - f1) (f1 - g1)) (mxz (g2 - f2) (f2 - g2))))) = true then [f0, f1, f2, f3, g0, g1, g2, g3, 1, (m + 1), 4, 0] else (if ((!(decide (r3 = 0)) && decide (r3 ≤ (m + 1)))) = true then [f0, f1, f2, f3, g0, g1, g2, g3, 1, (m + 1), 3, 0] else [f0, f1, f2, f3, f0, f1, f2, f3, 1, (m + 1), 1, 0])) else (if (decide ((((r1 * (f0 - g0)) + g3) + f3) < (mxz (mxz (g1 - f1) (f1 - g1)) (mxz (g2 - f2) (f2 - g2))))) = true then [f0, f1, f2, f3, g0, g1, g2, g3, 1, 1, 4, 0] else (if ((!(decide (r3 = 0)) && decide (r3 ≤ 1))) = true then [f0, f1, f2, f3, g0, g1, g2, g3, 1, 1, 3, 0] else [f0, f1, f2, f3, f0, f1, f2, f3, 1, 1, 1, 0]))))) else [0, 0, 0, 0, 0, 0, 0, 0, 0, 0, 0, 1]) else [0, 0, 0, 0, 0, 0, 0, 0, 0, 0, 0, 1]) else [f0, f1, f2, f3, f0, f1, f2, f3, 1, 1, 1, 0]) := by
  have h := hg.2.2.2.2.2.2.2.2.2.2.2.1 [r0, r1, r2, r3, l0, l1, l2, l3, g0, g1, g2, g3, s, m, st, f0, f1, f2, f3]
  rw [show c_step3.key = 15 from rfl, rowF_lt (by decide)] at h
  exact h
set_option maxHeartbeats 2000000 in
theorem step3_ok (hg : EnOK g l c z en27) (r0 r1 r2 r3 : Int) {l0 l1 l2 l3 g0 g1 g2 g3 s m st : Int} (tv : TV 3 l0 l1 l2 l3 g0 g1 g2 g3 s m st) (f0 f1 f2 : Int) {f3 : Int} (hf : 1 ≤ f3) : StepR 4 (g 15 [r0, r1, r2, r3, l0, l1, l2, l3, g0, g1, g2, g3, s, m, st, f0, f1, f2, f3]) := by
  rw [step3_eq hg]
  unfold TV at tv
  (repeat' split) <;> refine ⟨_, _, _, _, _, _, _, _, _, _, _, _, rfl, ?_⟩ <;> first
    | exact .inr rfl
    | (refine .inl ⟨rfl, ?_⟩
       unfold TV
       refine .inr ⟨rfl, ?_, ?_, ?_, ?_⟩ <;> ((try simp only [Bool.not_not, Bool.and_eq_true, Bool.or_eq_true, decide_eq_true_eq, Bool.not_eq_true', decide_eq_false_iff_not, ne_eq, Decidable.not_not, Int.not_le, Int.not_lt, Bool.not_eq_true] at *) <;> omega))
    | (exfalso
       (try simp only [Bool.not_not, Bool.and_eq_true, Bool.or_eq_true, decide_eq_true_eq, Bool.not_eq_true', decide_eq_false_iff_not, ne_eq, Decidable.not_not, Int.not_le, Int.not_lt, Bool.not_eq_true] at *) <;> omega)
set_option maxHeartbeats 1000000 in
theorem step4_eq (hg : EnOK g l c z en27) (r0 r1 r2 r3 l0 l1 l2 l3 g0 g1 g2 g3 s m st f0 f1 f2 f3 : Int) : g 14 [r0, r1, r2, r3, l0, l1, l2, l3, g0, g1, g2, g3, s, m, st, f0, f1, f2, f3] = (if (!(!(decide (s ≠ 0)))) = true then (if (decide (1 ≤ l3)) = true then (if (decide (1 ≤ g3)) = true then (if (decide (m < 1)) = true then [0, 0, 0, 0, 0, 0, 0, 0, 0, 0, 0, 1] else (if (decide (f0 ≤ l0)) = true then [0, 0, 0, 0, 0, 0, 0, 0, 0, 0, 0, 16] else (if ((decide (l1 = f1) && decide (l2 = f2))) = true then (if (decide ((((r1 * (f0 - g0)) + g3) + f3) < (mxz (mxz (g1 - f1) (f1 - g1)) (mxz (g2 - f2) (f2 - g2))))) = true then [f0, f1, f2, f3, g0, g1, g2, g3, 1, (m + 1), 4, 0] else (if ((!(decide (r3 = 0)) && decide (r3 ≤ (m + 1)))) = true then [f0, f1, f2, f3, g0, g1, g2, g3, 1, (m + 1), 3, 0] else [f0, f1, f2, f3, f0, f1, f2, f3, 1, (m + 1), 1, 0])) else (if (decide ((((r1 * (f0 - g0)) + g3) + f3) < (mxz (mxz (g1 - f1) (f1 - g1)) (mxz (g2 - f2) (f2 - g2))))) = true then [f0, f1, f2, f3, g0, g1, g2, g3, 1, 1, 4, 0] else (if ((!(decide (r3 = 0)) && decide (r3 ≤ 1))) = true then [f0, f1, f2, f3, g0, g1, g2, g3, 1, 1, 3, 0] else [f0, f1, f2, f3, f0, f1, f2, f3, 1, 1, 1, 0]))))) else [0, 0, 0, 0, 0, 0, 0, 0, 0, 0, 0, 1]) else [0, 0, 0, 0, 0, 0, 0, 0, 0, 0, 0, 1]) else [f0, f1, f2, f3, f0, f1, f2, f3, 1, 1, 1, 0]) := by
  have h := hg.2.2.2.2.2.2.2.2.2.2.2.2.1 [r0, r1, r2, r3, l0, l1, l2, l3, g0, g1, g2, g3, s, m, st, f0, f1, f2, f3]
  rw [show c_step4.key = 14 from rfl, rowF_lt (by decide)] at h
  exact h
set_option maxHeartbeats 2000000 in
theorem step4_ok (hg : EnOK g l c z en27) (r0 r1 r2 r3 : Int) {l0 l1 l2 l3 g0 g1 g2 g3 s m st : Int} (tv : TV 4 l0 l1 l2 l3 g0 g1 g2 g3 s m st) (f0 f1 f2 : Int) {f3 : Int} (hf : 1 ≤ f3) : StepR 5 (g 14 [r0, r1, r2, r3, l0, l1, l2, l3, g0, g1, g2, g3, s, m, st, f0, f1, f2, f3]) := by
  rw [step4_eq hg]
  unfold TV at tv
  (repeat' split) <;> refine ⟨_, _, _, _, _, _, _, _, _, _, _, _, rfl, ?_⟩ <;> first
    | exact .inr rfl
    | (refine .inl ⟨rfl, ?_⟩
       unfold TV
       refine .inr ⟨rfl, ?_, ?_, ?_, ?_⟩ <;> ((try simp only [Bool.not_not, Bool.and_eq_true, Bool.or_eq_true, decide_eq_true_eq, Bool.not_eq_true', decide_eq_false_iff_not, ne_eq, Decidable.not_not, Int.not_le, Int.not_lt, Bool.not_eq_true] at *) <;> omega))
    | (exfalso
       (try simp only [Bool.not_not, Bool.and_eq_true, Bool.or_eq_true, decide_eq_true_eq, Bool.not_eq_true', decide_eq_false_iff_not, ne_eq, Decidable.not_not, Int.not_le, Int.not_lt, Bool.not_eq_true] at *) <;> omega)
set_option maxHeartbeats 1000000 in
theorem step5_eq (hg : EnOK g l c z en27) (r0 r1 r2 r3 l0 l1 l2 l3 g0 g1 g2 g3 s m st f0 f1 f2 f3 : Int) : g 13 [r0, r1, r2, r3, l0, l1, l2, l3, g0, g1, g2, g3, s, m, st, f0, f1, f2, f3] = (if (!(!(decide (s ≠ 0)))) = true then (if (decide (1 ≤ l3)) = true then (if (decide (1 ≤ g3)) = true then (if (decide (m < 1)) = true then [0, 0, 0, 0, 0, 0, 0, 0, 0, 0, 0, 1] else (if (decide (f0 ≤ l0)) = true then [0, 0, 0, 0, 0, 0, 0, 0, 0, 0, 0, 16] else (if ((decide (l1 = f1) && decide (l2 = f2))) = true then (if (decide ((((r1 * (f0 - g0)) + g3) + f3) < (mxz (mxz (g1 - f1) (f1 - g1)) (mxz (g2 - f2) (f2 - g2))))) = true then [f0, f1, f2, f3, g0, g1, g2, g3, 1, (m + 1), 4, 0] else (if ((!(decide (r3 = 0)) && decide (r3 ≤ (m + 1)))) = true then [f0, f1, f2, f3, g0, g1, g2, g3, 1, (m + 1), 3, 0] else [f0, f1, f2, f3, f0, f1, f2, f3, 1, (m + 1), 1, 0])) else (if (decide ((((r1 * (f0 - g0)) + g3) + f3) < (mxz (mxz (g1 - f1) (f1 - g1)) (mxz (g2 - f2) (f2 - g2))))) = true then [f0, f1, f2, f3, g0, g1, g2, g3, 1, 1, 4, 0] else (if ((!(decide (r3 = 0)) && decide (r3 ≤ 1))) = true then [f0, f1, f2, f3, g0, g1, g2, g3, 1, 1, 3, 0] else [f0, f1, f2, f3, f0, f1, f2, f3, 1, 1, 1, 0]))))) else [0, 0, 0, 0, 0, 0, 0, 0, 0, 0, 0, 1]) else [0, 0, 0, 0, 0, 0, 0, 0, 0, 0, 0, 1]) else [f0, f1, f2, f3, f0, f1, f2, f3, 1, 1, 1, 0]) := by
  have h := hg.2.2.2.2.2.2.2.2.2.2.2.2.2.1 [r0, r1, r2, r3, l0, l1, l2, l3, g0, g1, g2, g3, s, m, st, f0, f1, f2, f3]
  rw [show c_step5.key = 13 from rfl, rowF_lt (by decide)] at h
  exact h
set_option maxHeartbeats 2000000 in
theorem step5_ok (hg : EnOK g l c z en27) (r0 r1 r2 r3 : Int) {l0 l1 l2 l3 g0 g1 g2 g3 s m st : Int} (tv : TV 5 l0 l1 l2 l3 g0 g1 g2 g3 s m st) (f0 f1 f2 : Int) {f3 : Int} (hf : 1 ≤ f3) : StepR 6 (g 13 [r0, r1, r2, r3, l0, l1, l2, l3, g0, g1, g2, g3, s, m, st, f0, f1, f2, f3]) := by
  rw [step5_eq hg]
  unfold TV at tv
  (repeat' split) <;> refine ⟨_, _, _, _, _, _, _, _, _, _, _, _, rfl, ?_⟩ <;> first
    | exact .inr rfl
    | (refine .inl ⟨rfl, ?_⟩
       unfold TV
       refine .inr ⟨rfl, ?_, ?_, ?_, ?_⟩ <;> ((try simp only [Bool.not_not, Bool.and_eq_true, Bool.or_eq_true, decide_eq_true_eq, Bool.not_eq_true', decide_eq_false_iff_not, ne_eq, Decidable.not_not, Int.not_le, Int.not_lt, Bool.not_eq_true] at *) <;> omega))
    | (exfalso
       (try simp only [Bool.not_not, Bool.and_eq_true, Bool.or_eq_true, decide_eq_true_eq, Bool.not_eq_true', decide_eq_false_iff_not, ne_eq, Decidable.not_not, Int.not_le, Int.not_lt, Bool.not_eq_true] at *) <;> omega)
theorem run0_ok (hg : EnOK g l c z en27) (r0 r1 r2 r3 : Int) : RunR (g 20 [r0, r1, r2, r3]) := by
  have h := hg.2.2.2.2.2.2.2.1 [r0, r1, r2, r3]
  rw [show c_run0.key = 20 from rfl, rowF_lt (by decide)] at h
  rw [h]
  unfold t_run0
  exact runQ_leaf (xs := [0, 0, 0, 0, 0, 0, 0, 0, 0, 0, 0, 0]) (by kernel_rfl) ⟨_, _, _, _, _, _, _, _, _, _, _, _, rfl, TV_mono (by omega) TV_0, .inl rfl⟩
theorem run1_ok (hg : EnOK g l c z en27) (r0 r1 r2 r3 f00 f01 f02 f03 : Int) (h0 : 1 ≤ f03) : RunR (g 21 [r0, r1, r2, r3, f00, f01, f02, f03]) := by
  have h := hg.2.2.2.2.2.2.1 [r0, r1, r2, r3, f00, f01, f02, f03]
  rw [show c_run1.key = 21 from rfl, rowF_lt (by decide)] at h
  rw [h]
  unfold t_run1
  obtain ⟨a0_0, a0_1, a0_2, a0_3, a0_4, a0_5, a0_6, a0_7, a0_8, a0_9, a0_10, e0, E0, D0⟩ := step0_ok hg r0 r1 r2 r3 TV_0 f00 f01 f02 h0
  refine runQ_call (xs := [r0, r1, r2, r3, 0, 0, 0, 0, 0, 0, 0, 0, 0, 0, 0, f00, f01, f02, f03]) (R := [a0_0, a0_1, a0_2, a0_3, a0_4, a0_5, a0_6, a0_7, a0_8, a0_9, a0_10, e0]) (by kernel_rfl) ((congrFun (rowF_lt (show 18 < 900 by decide)) _).trans E0) rfl ?_
  refine runQ_ite (b' := !(decide (e0 = 0))) (by kernel_rfl) (fun hb => ?_) fun hb => ?_
  · refine runQ_leaf (xs := [0, 0, 0, 0, 0, 0, 0, 0, 0, 0, 0, e0]) (by kernel_rfl) ⟨_, _, _, _, _, _, _, _, _, _, _, _, rfl, TV_mono (by omega) TV_0, ?_⟩
    simp at hb
    omega
  have hz : e0 = 0 := by simp at hb; omega
  obtain ⟨_, V0⟩ : e0 = 0 ∧ TV 1 a0_0 a0_1 a0_2 a0_3 a0_4 a0_5 a0_6 a0_7 a0_8 a0_9 a0_10 := by
    rcases D0 with D | D
    · exact D
    · omega
  exact runQ_leaf (xs := [a0_0, a0_1, a0_2, a0_3, a0_4, a0_5, a0_6, a0_7, a0_8, a0_9, a0_10, 0]) (by kernel_rfl) ⟨_, _, _, _, _, _, _, _, _, _, _, _, rfl, TV_mono (by omega) V0, .inl rfl⟩
theorem run2_ok (hg : EnOK g l c z en27) (r0 r1 r2 r3 f00 f01 f02 f03 f10 f11 f12 f13 : Int) (h0 : 1 ≤ f03) (h1 : 1 ≤ f13) : RunR (g 22 [r0, r1, r2, r3, f00, f01, f02, f03, f10, f11, f12, f13]) := by
  have h := hg.2.2.2.2.2.1 [r0, r1, r2, r3, f00, f01, f02, f03, f10, f11, f12, f13]
  rw [show c_run2.key = 22 from rfl, rowF_lt (by decide)] at h
  rw [h]
  unfold t_run2
  obtain ⟨a0_0, a0_1, a0_2, a0_3, a0_4, a0_5, a0_6, a0_7, a0_8, a0_9, a0_10, e0, E0, D0⟩ := step0_ok hg r0 r1 r2 r3 TV_0 f00 f01 f02 h0
  refine runQ_call (xs := [r0, r1, r2, r3, 0, 0, 0, 0, 0, 0, 0, 0, 0, 0, 0, f00, f01, f02, f03]) (R := [a0_0, a0_1, a0_2, a0_3, a0_4, a0_5, a0_6, a0_7, a0_8, a0_9, a0_10, e0]) (by kernel_rfl) ((congrFun (rowF_lt (show 18 < 900 by decide)) _).trans E0) rfl ?_
  refine runQ_ite (b' := !(decide (e0 = 0))) (by kernel_rfl) (fun hb => ?_) fun hb => ?_
  · refine runQ_leaf (xs := [0, 0, 0, 0, 0, 0, 0, 0, 0, 0, 0, e0]) (by kernel_rfl) ⟨_, _, _, _, _, _, _, _, _, _, _, _, rfl, TV_mono (by omega) TV_0, ?_⟩
    simp at hb
    omega
  have hz : e0 = 0 := by simp at hb; omega
  obtain ⟨_, V0⟩ : e0 = 0 ∧ TV 1 a0_0 a0_1 a0_2 a0_3 a0_4 a0_5 a0_6 a0_7 a0_8 a0_9 a0_10 := by
    rcases D0 with D | D
    · exact D
    · omega
  obtain ⟨a1_0, a1_1, a1_2, a1_3, a1_4, a1_5, a1_6, a1_7, a1_8, a1_9, a1_10, e1, E1, D1⟩ := step1_ok hg r0 r1 r2 r3 V0 f10 f11 f12 h1
  refine runQ_call (xs := [r0, r1, r2, r3, a0_0, a0_1, a0_2, a0_3, a0_4, a0_5, a0_6, a0_7, a0_8, a0_9, a0_10, f10, f11, f12, f13]) (R := [a1_0, a1_1, a1_2, a1_3, a1_4, a1_5, a1_6, a1_7, a1_8, a1_9, a1_10, e1]) (by kernel_rfl) ((congrFun (rowF_lt (show 17 < 900 by decide)) _).trans E1) rfl ?_
  refine runQ_ite (b' := !(decide (e1 = 0))) (by kernel_rfl) (fun hb => ?_) fun hb => ?_
  · refine runQ_leaf (xs := [a0_0, a0_1, a0_2, a0_3, a0_4, a0_5, a0_6, a0_7, a0_8, a0_9, a0_10, e1]) (by kernel_rfl) ⟨_, _, _, _, _, _, _, _, _, _, _, _, rfl, TV_mono (by omega) V0, ?_⟩
    simp at hb
    omega
  have hz : e1 = 0 := by simp at hb; omega
  obtain ⟨_, V1⟩ : e1 = 0 ∧ TV 2 a1_0 a1_1 a1_2 a1_3 a1_4 a1_5 a1_6 a1_7 a1_8 a1_9 a1_10 := by
    rcases D1 with D | D
    · exact D
    · omega
  exact runQ_leaf (xs := [a1_0, a1_1, a1_2, a1_3, a1_4, a1_5, a1_6, a1_7, a1_8, a1_9, a1_10, 0]) (by kernel_rfl) ⟨_, _, _, _, _, _, _, _, _, _, _, _, rfl, TV_mono (by omega) V1, .inl rfl⟩
theorem run3_ok (hg : EnOK g l c z en27) (r0 r1 r2 r3 f00 f01 f02 f03 f10 f11 f12 f13 f20 f21 f22 f23 : Int) (h0 : 1 ≤ f03) (h1 : 1 ≤ f13) (h2 : 1 ≤ f23) : RunR (g 23 [r0, r1, r2, r3, f00, f01, f02, f03, f10, f11, f12, f13, f20, f21, f22, f23]) := by
  have h := hg.2.2.2.2.1 [r0, r1, r2, r3, f00, f01, f02, f03, f10, f11, f12, f13, f20, f21, f22, f23]
  rw [show c_run3.key = 23 from rfl, rowF_lt (by decide)] at h
  rw [h]
  unfold t_run3
  obtain ⟨a0_0, a0_1, a0_2, a0_3, a0_4, a0_5, a0_6, a0_7, a0_8, a0_9, a0_10, e0, E0, D0⟩ := step0_ok hg r0 r1 r2 r3 TV_0 f00 f01 f02 h0
  refine runQ_call (xs := [r0, r1, r2, r3, 0, 0, 0, 0, 0, 0, 0, 0, 0, 0, 0, f00, f01, f02, f03]) (R := [a0_0, a0_1, a0_2, a0_3, a0_4, a0_5, a0_6, a0_7, a0_8, a0_9, a0_10, e0]) (by kernel_rfl) ((congrFun (rowF_lt (show 18 < 900 by decide)) _).trans E0) rfl ?_
  refine runQ_ite (b' := !(decide (e0 = 0))) (by kernel_rfl) (fun hb => ?_) fun hb => ?_
  · refine runQ_leaf (xs := [0, 0, 0, 0, 0, 0, 0, 0, 0, 0, 0, e0]) (by kernel_rfl) ⟨_, _, _, _, _, _, _, _, _, _, _, _, rfl, TV_mono (by omega) TV_0, ?_⟩
    simp at hb
    omega
  have hz : e0 = 0 := by simp at hb; omega
  obtain ⟨_, V0⟩ : e0 = 0 ∧ TV 1 a0_0 a0_1 a0_2 a0_3 a0_4 a0_5 a0_6 a0_7 a0_8 a0_9 a0_10 := by
    rcases D0 with D | D
    · exact D
    · omega
  obtain ⟨a1_0, a1_1, a1_2, a1_3, a1_4, a1_5, a1_6, a1_7, a1_8, a1_9, a1_10, e1, E1, D1⟩ := step1_ok hg r0 r1 r2 r3 V0 f10 f11 f12 h1
  refine runQ_call (xs := [r0, r1, r2, r3, a0_0, a0_1, a0_2, a0_3, a0_4, a0_5, a0_6, a0_7, a0_8, a0_9, a0_10, f10, f11, f12, f13]) (R := [a1_0, a1_1, a1_2, a1_3, a1_4, a1_5, a1_6, a1_7, a1_8, a1_9, a1_10, e1]) (by kernel_rfl) ((congrFun (rowF_lt (show 17 < 900 by decide)) _).trans E1) rfl ?_
  refine runQ_ite (b' := !(decide (e1 = 0))) (by kernel_rfl) (fun hb => ?_) fun hb => ?_
  · refine runQ_leaf (xs := [a0_0, a0_1, a0_2, a0_3, a0_4, a0_5, a0_6, a0_7, a0_8, a0_9, a0_10, e1]) (by kernel_rfl) ⟨_, _, _, _, _, _, _, _, _, _, _, _, rfl, TV_mono (by omega) V0, ?_⟩
    simp at hb
    omega
  have hz : e1 = 0 := by simp at hb; omega
  obtain ⟨_, V1⟩ : e1 = 0 ∧ TV 2 a1_0 a1_1 a1_2 a1_3 a1_4 a1_5 a1_6 a1_7 a1_8 a1_9 a1_10 := by
    rcases D1 with D | D
    · exact D
    · omega
  obtain ⟨a2_0, a2_1, a2_2, a2_3, a2_4, a2_5, a2_6, a2_7, a2_8, a2_9, a2_10, e2, E2, D2⟩ := step2_ok hg r0 r1 r2 r3 V1 f20 f21 f22 h2
  refine runQ_call (xs := [r0, r1, r2, r3, a1_0, a1_1, a1_2, a1_3, a1_4, a1_5, a1_6, a1_7, a1_8, a1_9, a1_10, f20, f21, f22, f23]) (R := [a2_0, a2_1, a2_2, a2_3, a2_4, a2_5, a2_6, a2_7, a2_8, a2_9, a2_10, e2]) (by kernel_rfl) ((congrFun (rowF_lt (show 16 < 900 by decide)) _).trans E2) rfl ?_
  refine runQ_ite (b' := !(decide (e2 = 0))) (by kernel_rfl) (fun hb => ?_) fun hb => ?_
  · refine runQ_leaf (xs := [a1_0, a1_1, a1_2, a1_3, a1_4, a1_5, a1_6, a1_7, a1_8, a1_9, a1_10, e2]) (by kernel_rfl) ⟨_, _, _, _, _, _, _, _, _, _, _, _, rfl, TV_mono (by omega) V1, ?_⟩
    simp at hb
    omega
  have hz : e2 = 0 := by simp at hb; omega
  obtain ⟨_, V2⟩ : e2 = 0 ∧ TV 3 a2_0 a2_1 a2_2 a2_3 a2_4 a2_5 a2_6 a2_7 a2_8 a2_9 a2_10 := by
    rcases D2 with D | D
    · exact D
    · omega
  exact runQ_leaf (xs := [a2_0, a2_1, a2_2, a2_3, a2_4, a2_5, a2_6, a2_7, a2_8, a2_9, a2_10, 0]) (by kernel_rfl) ⟨_, _, _, _, _, _, _, _, _, _, _, _, rfl, TV_mono (by omega) V2, .inl rfl⟩
theorem run4_ok (hg : EnOK g l c z en27) (r0 r1 r2 r3 f00 f01 f02 f03 f10 f11 f12 f13 f20 f21 f22 f23 f30 f31 f32 f33 : Int) (h0 : 1 ≤ f03) (h1 : 1 ≤ f13) (h2 : 1 ≤ f23) (h3 : 1 ≤ f33) : RunR (g 24 [r0, r1, r2, r3, f00, f01, f02, f03, f10, f11, f12, f13, f20, f21, f22, f23, f30, f31, f32, f33]) := by
  have h := hg.2.2.2.1 [r0, r1, r2, r3, f00, f01, f02, f03, f10, f11, f12, f13, f20, f21, f22, f23, f30, f31, f32, f33]
  rw [show c_run4.key = 24 from rfl, rowF_lt (by decide)] at h
  rw [h]
  unfold t_run4
  obtain ⟨a0_0, a0_1, a0_2, a0_3, a0_4, a0_5, a0_6, a0_7, a0_8, a0_9, a0_10, e0, E0, D0⟩ := step0_ok hg r0 r1 r2 r3 TV_0 f00 f01 f02 h0
  refine runQ_call (xs := [r0, r1, r2, r3, 0, 0, 0, 0, 0, 0, 0, 0, 0, 0, 0, f00, f01, f02, f03]) (R := [a0_0, a0_1, a0_2, a0_3, a0_4, a0_5, a0_6, a0_7, a0_8, a0_9, a0_10, e0]) (by kernel_rfl) ((congrFun (rowF_lt (show 18 < 900 by decide)) _).trans E0) rfl ?_
  refine runQ_ite (b' := !(decide (e0 = 0))) (by kernel_rfl) (fun hb => ?_) fun hb => ?_
  · refine runQ_leaf (xs := [0, 0, 0, 0, 0, 0, 0, 0, 0, 0, 0, e0]) (by kernel_rfl) ⟨_, _, _, _, _, _, _, _, _, _, _, _, rfl, TV_mono (by omega) TV_0, ?_⟩
    simp at hb
    omega
  have hz : e0 = 0 := by simp at hb; omega
  obtain ⟨_, V0⟩ : e0 = 0 ∧ TV 1 a0_0 a0_1 a0_2 a0_3 a0_4 a0_5 a0_6 a0_7 a0_8 a0_9 a0_10 := by
    rcases D0 with D | D
    · exact D
    · omega
  obtain ⟨a1_0, a1_1, a1_2, a1_3, a1_4, a1_5, a1_6, a1_7, a1_8, a1_9, a1_10, e1, E1, D1⟩ := step1_ok hg r0 r1 r2 r3 V0 f10 f11 f12 h1
  refine runQ_call (xs := [r0, r1, r2, r3, a0_0, a0_1, a0_2, a0_3, a0_4, a0_5, a0_6, a0_7, a0_8, a0_9, a0_10, f10, f11, f12, f13]) (R := [a1_0, a1_1, a1_2, a1_3, a1_4, a1_5, a1_6, a1_7, a1_8, a1_9, a1_10, e1]) (by kernel_rfl) ((congrFun (rowF_lt (show 17 < 900 by decide)) _).trans E1) rfl ?_
  refine runQ_ite (b' := !(decide (e1 = 0))) (by kernel_rfl) (fun hb => ?_) fun hb => ?_
  · refine runQ_leaf (xs := [a0_0, a0_1, a0_2, a0_3, a0_4, a0_5, a0_6, a0_7, a0_8, a0_9, a0_10, e1]) (by kernel_rfl) ⟨_, _, _, _, _, _, _, _, _, _, _, _, rfl, TV_mono (by omega) V0, ?_⟩
    simp at hb
    omega
  have hz : e1 = 0 := by simp at hb; omega
  obtain ⟨_, V1⟩ : e1 = 0 ∧ TV 2 a1_0 a1_1 a1_2 a1_3 a1_4 a1_5 a1_6 a1_7 a1_8 a1_9 a1_10 := by
    rcases D1 with D | D
    · exact D
    · omega
  obtain ⟨a2_0, a2_1, a2_2, a2_3, a2_4, a2_5, a2_6, a2_7, a2_8, a2_9, a2_10, e2, E2, D2⟩ := step2_ok hg r0 r1 r2 r3 V1 f20 f21 f22 h2
  refine runQ_call (xs := [r0, r1, r2, r3, a1_0, a1_1, a1_2, a1_3, a1_4, a1_5, a1_6, a1_7, a1_8, a1_9, a1_10, f20, f21, f22, f23]) (R := [a2_0, a2_1, a2_2, a2_3, a2_4, a2_5, a2_6, a2_7, a2_8, a2_9, a2_10, e2]) (by kernel_rfl) ((congrFun (rowF_lt (show 16 < 900 by decide)) _).trans E2) rfl ?_
  refine runQ_ite (b' := !(decide (e2 = 0))) (by kernel_rfl) (fun hb => ?_) fun hb => ?_
  · refine runQ_leaf (xs := [a1_0, a1_1, a1_2, a1_3, a1_4, a1_5, a1_6, a1_7, a1_8, a1_9, a1_10, e2]) (by kernel_rfl) ⟨_, _, _, _, _, _, _, _, _, _, _, _, rfl, TV_mono (by omega) V1, ?_⟩
    simp at hb
    omega
  have hz : e2 = 0 := by simp at hb; omega
  obtain ⟨_, V2⟩ : e2 = 0 ∧ TV 3 a2_0 a2_1 a2_2 a2_3 a2_4 a2_5 a2_6 a2_7 a2_8 a2_9 a2_10 := by
    rcases D2 with D | D
    · exact D
    · omega
  obtain ⟨a3_0, a3_1, a3_2, a3_3, a3_4, a3_5, a3_6, a3_7, a3_8, a3_9, a3_10, e3, E3, D3⟩ := step3_ok hg r0 r1 r2 r3 V2 f30 f31 f32 h3
  refine runQ_call (xs := [r0, r1, r2, r3, a2_0, a2_1, a2_2, a2_3, a2_4, a2_5, a2_6, a2_7, a2_8, a2_9, a2_10, f30, f31, f32, f33]) (R := [a3_0, a3_1, a3_2, a3_3, a3_4, a3_5, a3_6, a3_7, a3_8, a3_9, a3_10, e3]) (by kernel_rfl) ((congrFun (rowF_lt (show 15 < 900 by decide)) _).trans E3) rfl ?_
  refine runQ_ite (b' := !(decide (e3 = 0))) (by kernel_rfl) (fun hb => ?_) fun hb => ?_
  · refine runQ_leaf (xs := [a2_0, a2_1, a2_2, a2_3, a2_4, a2_5, a2_6, a2_7, a2_8, a2_9, a2_10, e3]) (by kernel_rfl) ⟨_, _, _, _, _, _, _, _, _, _, _, _, rfl, TV_mono (by omega) V2, ?_⟩
    simp at hb
    omega
  have hz : e3 = 0 := by simp at hb; omega
  obtain ⟨_, V3⟩ : e3 = 0 ∧ TV 4 a3_0 a3_1 a3_2 a3_3 a3_4 a3_5 a3_6 a3_7 a3_8 a3_9 a3_10 := by
    rcases D3 with D | D
    · exact D
    · omega
  exact runQ_leaf (xs := [a3_0, a3_1, a3_2, a3_3, a3_4, a3_5, a3_6, a3_7, a3_8, a3_9, a3_10, 0]) (by kernel_rfl) ⟨_, _, _, _, _, _, _, _, _, _, _, _, rfl, TV_mono (by omega) V3, .inl rfl⟩
theorem run5_ok (hg : EnOK g l c z en27) (r0 r1 r2 r3 f00 f01 f02 f03 f10 f11 f12 f13 f20 f21 f22 f23 f30 f31 f32 f33 f40 f41 f42 f43 : Int) (h0 : 1 ≤ f03) (h1 : 1 ≤ f13) (h2 : 1 ≤ f23) (h3 : 1 ≤ f33) (h4 : 1 ≤ f43) : RunR (g 25 [r0, r1, r2, r3, f00, f01, f02, f03, f10, f11, f12, f13, f20, f21, f22, f23, f30, f31, f32, f33, f40, f41, f42, f43]) := by
  have h := hg.2.2.1 [r0, r1, r2, r3, f00, f01, f02, f03, f10, f11, f12, f13, f20, f21, f22, f23, f30, f31, f32, f33, f40, f41, f42, f43]
  rw [show c_run5.key = 25 from rfl, rowF_lt (by decide)] at h
  rw [h]
  unfold t_run5
  obtain ⟨a0_0, a0_1, a0_2, a0_3, a0_4, a0_5, a0_6, a0_7, a0_8, a0_9, a0_10, e0, E0, D0⟩ := step0_ok hg r0 r1 r2 r3 TV_0 f00 f01 f02 h0
  refine runQ_call (xs := [r0, r1, r2, r3, 0, 0, 0, 0, 0, 0, 0, 0, 0, 0, 0, f00, f01, f02, f03]) (R := [a0_0, a0_1, a0_2, a0_3, a0_4, a0_5, a0_6, a0_7, a0_8, a0_9, a0_10, e0]) (by kernel_rfl) ((congrFun (rowF_lt (show 18 < 900 by decide)) _).trans E0) rfl ?_
  refine runQ_ite (b' := !(decide (e0 = 0))) (by kernel_rfl) (fun hb => ?_) fun hb => ?_
  · refine runQ_leaf (xs := [0, 0, 0, 0, 0, 0, 0, 0, 0, 0, 0, e0]) (by kernel_rfl) ⟨_, _, _, _, _, _, _, _, _, _, _, _, rfl, TV_mono (by omega) TV_0, ?_⟩
    simp at hb
    omega
  have hz : e0 = 0 := by simp at hb; omega
  obtain ⟨_, V0⟩ : e0 = 0 ∧ TV 1 a0_0 a0_1 a0_2 a0_3 a0_4 a0_5 a0_6 a0_7 a0_8 a0_9 a0_10 := by
    rcases D0 with D | D
    · exact D
    · omega
  obtain ⟨a1_0, a1_1, a1_2, a1_3, a1_4, a1_5, a1_6, a1_7, a1_8, a1_9, a1_10, e1, E1, D1⟩ := step1_ok hg r0 r1 r2 r3 V0 f10 f11 f12 h1
  refine runQ_call (xs := [r0, r1, r2, r3, a0_0, a0_1, a0_2, a0_3, a0_4, a0_5, a0_6, a0_7, a0_8, a0_9, a0_10, f10, f11, f12, f13]) (R := [a1_0, a1_1, a1_2, a1_3, a1_4, a1_5, a1_6, a1_7, a1_8, a1_9, a1_10, e1]) (by kernel_rfl) ((congrFun (rowF_lt (show 17 < 900 by decide)) _).trans E1) rfl ?_
  refine runQ_ite (b' := !(decide (e1 = 0))) (by kernel_rfl) (fun hb => ?_) fun hb => ?_
  · refine runQ_leaf (xs := [a0_0, a0_1, a0_2, a0_3, a0_4, a0_5, a0_6, a0_7, a0_8, a0_9, a0_10, e1]) (by kernel_rfl) ⟨_, _, _, _, _, _, _, _, _, _, _, _, rfl, TV_mono (by omega) V0, ?_⟩
    simp at hb
    omega
  have hz : e1 = 0 := by simp at hb; omega
  obtain ⟨_, V1⟩ : e1 = 0 ∧ TV 2 a1_0 a1_1 a1_2 a1_3 a1_4 a1_5 a1_6 a1_7 a1_8 a1_9 a1_10 := by
    rcases D1 with D | D
    · exact D
    · omega
  obtain ⟨a2_0, a2_1, a2_2, a2_3, a2_4, a2_5, a2_6, a2_7, a2_8, a2_9, a2_10, e2, E2, D2⟩ := step2_ok hg r0 r1 r2 r3 V1 f20 f21 f22 h2
  refine runQ_call (xs := [r0, r1, r2, r3, a1_0, a1_1, a1_2, a1_3, a1_4, a1_5, a1_6, a1_7, a1_8, a1_9, a1_10, f20, f21, f22, f23]) (R := [a2_0, a2_1, a2_2, a2_3, a2_4, a2_5, a2_6, a2_7, a2_8, a2_9, a2_10, e2]) (by kernel_rfl) ((congrFun (rowF_lt (show 16 < 900 by decide)) _).trans E2) rfl ?_
  refine runQ_ite (b' := !(decide (e2 = 0))) (by kernel_rfl) (fun hb => ?_) fun hb => ?_
  · refine runQ_leaf (xs := [a1_0, a1_1, a1_2, a1_3, a1_4, a1_5, a1_6, a1_7, a1_8, a1_9, a1_10, e2]) (by kernel_rfl) ⟨_, _, _, _, _, _, _, _, _, _, _, _, rfl, TV_mono (by omega) V1, ?_⟩
    simp at hb
    omega
  have hz : e2 = 0 := by simp at hb; omega
  obtain ⟨_, V2⟩ : e2 = 0 ∧ TV 3 a2_0 a2_1 a2_2 a2_3 a2_4 a2_5 a2_6 a2_7 a2_8 a2_9 a2_10 := by
    rcases D2 with D | D
    · exact D
    · omega
  obtain ⟨a3_0, a3_1, a3_2, a3_3, a3_4, a3_5, a3_6, a3_7, a3_8, a3_9, a3_10, e3, E3, D3⟩ := step3_ok hg r0 r1 r2 r3 V2 f30 f31 f32 h3
  refine runQ_call (xs := [r0, r1, r2, r3, a2_0, a2_1, a2_2, a2_3, a2_4, a2_5, a2_6, a2_7, a2_8, a2_9, a2_10, f30, f31, f32, f33]) (R := [a3_0, a3_1, a3_2, a3_3, a3_4, a3_5, a3_6, a3_7, a3_8, a3_9, a3_10, e3]) (by kernel_rfl) ((congrFun (rowF_lt (show 15 < 900 by decide)) _).trans E3) rfl ?_
  refine runQ_ite (b' := !(decide (e3 = 0))) (by kernel_rfl) (fun hb => ?_) fun hb => ?_
  · refine runQ_leaf (xs := [a2_0, a2_1, a2_2, a2_3, a2_4, a2_5, a2_6, a2_7, a2_8, a2_9, a2_10, e3]) (by kernel_rfl) ⟨_, _, _, _, _, _, _, _, _, _, _, _, rfl, TV_mono (by omega) V2, ?_⟩
    simp at hb
    omega
  have hz : e3 = 0 := by simp at hb; omega
  obtain ⟨_, V3⟩ : e3 = 0 ∧ TV 4 a3_0 a3_1 a3_2 a3_3 a3_4 a3_5 a3_6 a3_7 a3_8 a3_9 a3_10 := by
    rcases D3 with D | D
    · exact D
    · omega
  obtain ⟨a4_0, a4_1, a4_2, a4_3, a4_4, a4_5, a4_6, a4_7, a4_8, a4_9, a4_10, e4, E4, D4⟩ := step4_ok hg r0 r1 r2 r3 V3 f40 f41 f42 h4
  refine runQ_call (xs := [r0, r1, r2, r3, a3_0, a3_1, a3_2, a3_3, a3_4, a3_5, a3_6, a3_7, a3_8, a3_9, a3_10, f40, f41, f42, f43]) (R := [a4_0, a4_1, a4_2, a4_3, a4_4, a4_5, a4_6, a4_7, a4_8, a4_9, a4_10, e4]) (by kernel_rfl) ((congrFun (rowF_lt (show 14 < 900 by decide)) _).trans E4) rfl ?_
  refine runQ_ite (b' := !(decide (e4 = 0))) (by kernel_rfl) (fun hb => ?_) fun hb => ?_
  · refine runQ_leaf (xs := [a3_0, a3_1, a3_2, a3_3, a3_4, a3_5, a3_6, a3_7, a3_8, a3_9, a3_10, e4]) (by kernel_rfl) ⟨_, _, _, _, _, _, _, _, _, _, _, _, rfl, TV_mono (by omega) V3, ?_⟩
    simp at hb
    omega
  have hz : e4 = 0 := by simp at hb; omega
  obtain ⟨_, V4⟩ : e4 = 0 ∧ TV 5 a4_0 a4_1 a4_2 a4_3 a4_4 a4_5 a4_6 a4_7 a4_8 a4_9 a4_10 := by
    rcases D4 with D | D
    · exact D
    · omega
  exact runQ_leaf (xs := [a4_0, a4_1, a4_2, a4_3, a4_4, a4_5, a4_6, a4_7, a4_8, a4_9, a4_10, 0]) (by kernel_rfl) ⟨_, _, _, _, _, _, _, _, _, _, _, _, rfl, TV_mono (by omega) V4, .inl rfl⟩
theorem run6_ok (hg : EnOK g l c z en27) (r0 r1 r2 r3 f00 f01 f02 f03 f10 f11 f12 f13 f20 f21 f22 f23 f30 f31 f32 f33 f40 f41 f42 f43 f50 f51 f52 f53 : Int) (h0 : 1 ≤ f03) (h1 : 1 ≤ f13) (h2 : 1 ≤ f23) (h3 : 1 ≤ f33) (h4 : 1 ≤ f43) (h5 : 1 ≤ f53) : RunR (g 26 [r0, r1, r2, r3, f00, f01, f02, f03, f10, f11, f12, f13, f20, f21, f22, f23, f30, f31, f32, f33, f40, f41, f42, f43, f50, f51, f52, f53]) := by
  have h := hg.2.1 [r0, r1, r2, r3, f00, f01, f02, f03, f10, f11, f12, f13, f20, f21, f22, f23, f30, f31, f32, f33, f40, f41, f42, f43, f50, f51, f52, f53]
  rw [show c_run6.key = 26 from rfl, rowF_lt (by decide)] at h
  rw [h]
  unfold t_run6
  obtain ⟨a0_0, a0_1, a0_2, a0_3, a0_4, a0_5, a0_6, a0_7, a0_8, a0_9, a0_10, e0, E0, D0⟩ := step0_ok hg r0 r1 r2 r3 TV_0 f00 f01 f02 h0
  refine runQ_call (xs := [r0, r1, r2, r3, 0, 0, 0, 0, 0, 0, 0, 0, 0, 0, 0, f00, f01, f02, f03]) (R := [a0_0, a0_1, a0_2, a0_3, a0_4, a0_5, a0_6, a0_7, a0_8, a0_9, a0_10, e0]) (by kernel_rfl) ((congrFun (rowF_lt (show 18 < 900 by decide)) _).trans E0) rfl ?_
  refine runQ_ite (b' := !(decide (e0 = 0))) (by kernel_rfl) (fun hb => ?_) fun hb => ?_
  · refine runQ_leaf (xs := [0, 0, 0, 0, 0, 0, 0, 0, 0, 0, 0, e0]) (by kernel_rfl) ⟨_, _, _, _, _, _, _, _, _, _, _, _, rfl, TV_mono (by omega) TV_0, ?_⟩
    simp at hb
    omega
  have hz : e0 = 0 := by simp at hb; omega
  obtain ⟨_, V0⟩ : e0 = 0 ∧ TV 1 a0_0 a0_1 a0_2 a0_3 a0_4 a0_5 a0_6 a0_7 a0_8 a0_9 a0_10 := by
    rcases D0 with D | D
    · exact D
    · omega
  obtain ⟨a1_0, a1_1, a1_2, a1_3, a1_4, a1_5, a1_6, a1_7, a1_8, a1_9, a1_10, e1, E1, D1⟩ := step1_ok hg r0 r1 r2 r3 V0 f10 f11 f12 h1
  refine runQ_call (xs := [r0, r1, r2, r3, a0_0, a0_1, a0_2, a0_3, a0_4, a0_5, a0_6, a0_7, a0_8, a0_9, a0_10, f10, f11, f12, f13]) (R := [a1_0, a1_1, a1_2, a1_3, a1_4, a1_5, a1_6, a1_7, a1_8, a1_9, a1_10, e1]) (by kernel_rfl) ((congrFun (rowF_lt (show 17 < 900 by decide)) _).trans E1) rfl ?_
  refine runQ_ite (b' := !(decide (e1 = 0))) (by kernel_rfl) (fun hb => ?_) fun hb => ?_
  · refine runQ_leaf (xs := [a0_0, a0_1, a0_2, a0_3, a0_4, a0_5, a0_6, a0_7, a0_8, a0_9, a0_10, e1]) (by kernel_rfl) ⟨_, _, _, _, _, _, _, _, _, _, _, _, rfl, TV_mono (by omega) V0, ?_⟩
    simp at hb
    omega
  have hz : e1 = 0 := by simp at hb; omega
  obtain ⟨_, V1⟩ : e1 = 0 ∧ TV 2 a1_0 a1_1 a1_2 a1_3 a1_4 a1_5 a1_6 a1_7 a1_8 a1_9 a1_10 := by
    rcases D1 with D | D
    · exact D
    · omega
  obtain ⟨a2_0, a2_1, a2_2, a2_3, a2_4, a2_5, a2_6, a2_7, a2_8, a2_9, a2_10, e2, E2, D2⟩ := step2_ok hg r0 r1 r2 r3 V1 f20 f21 f22 h2
  refine runQ_call (xs := [r0, r1, r2, r3, a1_0, a1_1, a1_2, a1_3, a1_4, a1_5, a1_6, a1_7, a1_8, a1_9, a1_10, f20, f21, f22, f23]) (R := [a2_0, a2_1, a2_2, a2_3, a2_4, a2_5, a2_6, a2_7, a2_8, a2_9, a2_10, e2]) (by kernel_rfl) ((congrFun (rowF_lt (show 16 < 900 by decide)) _).trans E2) rfl ?_
  refine runQ_ite (b' := !(decide (e2 = 0))) (by kernel_rfl) (fun hb => ?_) fun hb => ?_
  · refine runQ_leaf (xs := [a1_0, a1_1, a1_2, a1_3, a1_4, a1_5, a1_6, a1_7, a1_8, a1_9, a1_10, e2]) (by kernel_rfl) ⟨_, _, _, _, _, _, _, _, _, _, _, _, rfl, TV_mono (by omega) V1, ?_⟩
    simp at hb
    omega
  have hz : e2 = 0 := by simp at hb; omega
  obtain ⟨_, V2⟩ : e2 = 0 ∧ TV 3 a2_0 a2_1 a2_2 a2_3 a2_4 a2_5 a2_6 a2_7 a2_8 a2_9 a2_10 := by
    rcases D2 with D | D
    · exact D
    · omega
  obtain ⟨a3_0, a3_1, a3_2, a3_3, a3_4, a3_5, a3_6, a3_7, a3_8, a3_9, a3_10, e3, E3, D3⟩ := step3_ok hg r0 r1 r2 r3 V2 f30 f31 f32 h3
  refine runQ_call (xs := [r0, r1, r2, r3, a2_0, a2_1, a2_2, a2_3, a2_4, a2_5, a2_6, a2_7, a2_8, a2_9, a2_10, f30, f31, f32, f33]) (R := [a3_0, a3_1, a3_2, a3_3, a3_4, a3_5, a3_6, a3_7, a3_8, a3_9, a3_10, e3]) (by kernel_rfl) ((congrFun (rowF_lt (show 15 < 900 by decide)) _).trans E3) rfl ?_
  refine runQ_ite (b' := !(decide (e3 = 0))) (by kernel_rfl) (fun hb => ?_) fun hb => ?_
  · refine runQ_leaf (xs := [a2_0, a2_1, a2_2, a2_3, a2_4, a2_5, a2_6, a2_7, a2_8, a2_9, a2_10, e3]) (by kernel_rfl) ⟨_, _, _, _, _, _, _, _, _, _, _, _, rfl, TV_mono (by omega) V2, ?_⟩
    simp at hb
    omega
  have hz : e3 = 0 := by simp at hb; omega
  obtain ⟨_, V3⟩ : e3 = 0 ∧ TV 4 a3_0 a3_1 a3_2 a3_3 a3_4 a3_5 a3_6 a3_7 a3_8 a3_9 a3_10 := by
    rcases D3 with D | D
    · exact D
    · omega
  obtain ⟨a4_0, a4_1, a4_2, a4_3, a4_4, a4_5, a4_6, a4_7, a4_8, a4_9, a4_10, e4, E4, D4⟩ := step4_ok hg r0 r1 r2 r3 V3 f40 f41 f42 h4
  refine runQ_call (xs := [r0, r1, r2, r3, a3_0, a3_1, a3_2, a3_3, a3_4, a3_5, a3_6, a3_7, a3_8, a3_9, a3_10, f40, f41, f42, f43]) (R := [a4_0, a4_1, a4_2, a4_3, a4_4, a4_5, a4_6, a4_7, a4_8, a4_9, a4_10, e4]) (by kernel_rfl) ((congrFun (rowF_lt (show 14 < 900 by decide)) _).trans E4) rfl ?_
  refine runQ_ite (b' := !(decide (e4 = 0))) (by kernel_rfl) (fun hb => ?_) fun hb => ?_
  · refine runQ_leaf (xs := [a3_0, a3_1, a3_2, a3_3, a3_4, a3_5, a3_6, a3_7, a3_8, a3_9, a3_10, e4]) (by kernel_rfl) ⟨_, _, _, _, _, _, _, _, _, _, _, _, rfl, TV_mono (by omega) V3, ?_⟩
    simp at hb
    omega
  have hz : e4 = 0 := by simp at hb; omega
  obtain ⟨_, V4⟩ : e4 = 0 ∧ TV 5 a4_0 a4_1 a4_2 a4_3 a4_4 a4_5 a4_6 a4_7 a4_8 a4_9 a4_10 := by
    rcases D4 with D | D
    · exact D
    · omega
  obtain ⟨a5_0, a5_1, a5_2, a5_3, a5_4, a5_5, a5_6, a5_7, a5_8, a5_9, a5_10, e5, E5, D5⟩ := step5_ok hg r0 r1 r2 r3 V4 f50 f51 f52 h5
  refine runQ_call (xs := [r0, r1, r2, r3, a4_0, a4_1, a4_2, a4_3, a4_4, a4_5, a4_6, a4_7, a4_8, a4_9, a4_10, f50, f51, f52, f53]) (R := [a5_0, a5_1, a5_2, a5_3, a5_4, a5_5, a5_6, a5_7, a5_8, a5_9, a5_10, e5]) (by kernel_rfl) ((congrFun (rowF_lt (show 13 < 900 by decide)) _).trans E5) rfl ?_
  refine runQ_ite (b' := !(decide (e5 = 0))) (by kernel_rfl) (fun hb => ?_) fun hb => ?_
  · refine runQ_leaf (xs := [a4_0, a4_1, a4_2, a4_3, a4_4, a4_5, a4_6, a4_7, a4_8, a4_9, a4_10, e5]) (by kernel_rfl) ⟨_, _, _, _, _, _, _, _, _, _, _, _, rfl, TV_mono (by omega) V4, ?_⟩
    simp at hb
    omega
  have hz : e5 = 0 := by simp at hb; omega
  obtain ⟨_, V5⟩ : e5 = 0 ∧ TV 6 a5_0 a5_1 a5_2 a5_3 a5_4 a5_5 a5_6 a5_7 a5_8 a5_9 a5_10 := by
    rcases D5 with D | D
    · exact D
    · omega
  exact runQ_leaf (xs := [a5_0, a5_1, a5_2, a5_3, a5_4, a5_5, a5_6, a5_7, a5_8, a5_9, a5_10, 0]) (by kernel_rfl) ⟨_, _, _, _, _, _, _, _, _, _, _, _, rfl, TV_mono (by omega) V5, .inl rfl⟩
theorem tick_eq (hg : EnOK g l c z en27) (r0 r1 r2 r3 l0 l1 l2 l3 g0 g1 g2 g3 s m st now : Int) : g 27 [r0, r1, r2, r3, l0, l1, l2, l3, g0, g1, g2, g3, s, m, st, now] = (if (!(!(decide (s ≠ 0)))) = true then (if (decide (1 ≤ l3)) = true then (if (decide (1 ≤ g3)) = true then (if (decide (m < 1)) = true then [0, 0, 0, 0, 0, 0, 0, 0, 0, 0, 0, 1] else (if (decide (now < l0)) = true then [0, 0, 0, 0, 0, 0, 0, 0, 0, 0, 0, 16] else (if (decide (r2 ≤ (now - l0))) = true then [l0, l1, l2, l3, g0, g1, g2, g3, 1, m, 2, 0] else [l0, l1, l2, l3, g0, g1, g2, g3, 1, m, st, 0]))) else [0, 0, 0, 0, 0, 0, 0, 0, 0, 0, 0, 1]) else [0, 0, 0, 0, 0, 0, 0, 0, 0, 0, 0, 1]) else [l0, l1, l2, l3, g0, g1, g2, g3, 0, m, st, 0]) := by
  have h := hg.1 [r0, r1, r2, r3, l0, l1, l2, l3, g0, g1, g2, g3, s, m, st, now]
  rw [show c_tick.key = 27 from rfl, rowF_lt (by decide)] at h
  exact h
def stZ (r2 l0 s st now : Int) : Int := if s = 1 ∧ r2 ≤ now - l0 then 2 else st
theorem tick_ok (hg : EnOK g l c z en27) {r0 r1 r2 r3 l0 l1 l2 l3 g0 g1 g2 g3 s m st now : Int} (tv : TV 6 l0 l1 l2 l3 g0 g1 g2 g3 s m st) (hn : l0 ≤ now) : g 27 [r0, r1, r2, r3, l0, l1, l2, l3, g0, g1, g2, g3, s, m, st, now] = [l0, l1, l2, l3, g0, g1, g2, g3, s, m, stZ r2 l0 s st now, 0] := by
  rw [tick_eq hg]
  unfold TV at tv
  unfold stZ
  rcases tv with ⟨rfl, rfl, rfl, rfl, rfl, rfl, rfl, rfl, rfl, rfl, rfl⟩ | ⟨rfl, h1, h2, h3, h4⟩
  · simp
  · rw [if_pos (by simp), if_pos (by simpa using h1), if_pos (by simpa using h2), if_neg (by simp; omega), if_neg (by simp; omega)]
    by_cases hs : r2 ≤ now - l0
    · rw [if_pos (by simpa using hs), if_pos ⟨rfl, hs⟩]
    · rw [if_neg (by simpa using hs), if_neg (by omega)]
theorem TV_st {l0 l1 l2 l3 g0 g1 g2 g3 s m st st' : Int} (h : TV 6 l0 l1 l2 l3 g0 g1 g2 g3 s m st) (hs : s = 1 ∨ st' = st) : TV 6 l0 l1 l2 l3 g0 g1 g2 g3 s m st' := by
  unfold TV at *
  rcases h with h | h
  · rcases hs with hs | hs
    · omega
    · subst hs; exact .inl h
  · exact .inr h
theorem stZ_c (r2 l0 s st now : Int) : (stZ r2 l0 s st now = 2 ∨ stZ r2 l0 s st now = st) ∧ (s = 1 ∨ stZ r2 l0 s st now = st) := by
  unfold stZ
  by_cases h : s = 1 ∧ r2 ≤ now - l0
  · rw [if_pos h]; exact ⟨.inl rfl, .inl h.1⟩
  · rw [if_neg h]; exact ⟨.inr rfl, .inr rfl⟩
theorem stZ_2 {r2 l0 s st now now' : Int} (h : now ≤ now') (h2 : stZ r2 l0 s st now = 2) : stZ r2 l0 s (stZ r2 l0 s st now) now' = 2 := by
  unfold stZ at *
  by_cases h : s = 1 ∧ r2 ≤ now' - l0
  · rw [if_pos h]
  · rw [if_neg h]; exact h2
end
end Go.Proofs.Ytejklpbiieofoaa
