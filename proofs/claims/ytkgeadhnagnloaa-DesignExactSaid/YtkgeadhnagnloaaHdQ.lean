/- Chapter 26: links, plain; what a right design has. -/
import Derived.Test.YtkgeadhnagnloaaHdO
import Derived.Test.YtkgeadhnagnloaaHdP
set_option linter.unusedSimpArgs false
set_option linter.unusedVariables false
namespace Go.Proofs.Ytkgeadhnagnloaa.H
theorem cmpL_lt (x y : Ln) : cmpL x y < 0 ↔ (ltP x.1 y.1 = true ∨ x.1 = y.1 ∧ ltP x.2 y.2 = true) := by
  simp only [cmpL]
  by_cases h : cmpP x.1 y.1 = 0
  · rw [if_pos h, cmpP_lt]
    have h' := (cmpP_zero _ _).1 h
    have : ltP x.1 y.1 = false := by rw [h', ltP_irr]
    rw [this]; simp [h']
  · rw [if_neg h, cmpP_lt]
    have h' : ¬ x.1 = y.1 := fun e => h ((cmpP_zero _ _).2 e)
    simp [h']
def lnInv (ps : List Pt) (ls : List Ln) (i : Nat) : Prop := (ls.take i).all (lnOk ps) = true ∧ ∀ (j : Nat) (h : j + 1 < ls.length), j + 1 < i → cmpL ls[j] ls[j + 1] < 0
theorem lnInv_step {ps : List Pt} {ls : List Ln} {i : Nat} (hi : i < ls.length) (h : lnInv ps ls i) (h1 : lnOk ps ls[i] = true) (h2 : 0 < i → cmpL (ls[i - 1]'(by omega)) ls[i] < 0) : lnInv ps ls (i + 1) := by
  refine ⟨by rw [all_take_succ hi, h.1, h1]; rfl, fun j hj hj' => ?_⟩
  by_cases e : j + 1 = i
  · subst e; exact h2 (by omega)
  · exact h.2 j hj (by omega)
theorem lnInv_end {ps : List Pt} {ls : List Ln} (h : lnInv ps ls ls.length) : linksP ps ls = true := by
  have h1 := h.1
  rw [List.take_length] at h1
  rw [linksP, h1, ascB_iff.2 fun j hj => decide_eq_true (h.2 j hj (by omega))]; rfl
theorem lnInv_no1 {ps : List Pt} {ls : List Ln} {i : Nat} (hi : i < ls.length) (h : lnOk ps ls[i] = false) : linksP ps ls = false := by rw [linksP, all_of_not hi h]; rfl
theorem lnInv_no2 {ps : List Pt} {ls : List Ln} {i : Nat} (h0 : 0 < i) (hi : i < ls.length) (h : ¬ cmpL (ls[i - 1]'(by omega)) ls[i] < 0) : linksP ps ls = false := by
  have e2 : i - 1 + 1 = i := by omega
  rw [linksP, ascB_not (i := i - 1) (by omega) (by simp only [e2]; exact decide_eq_false h), Bool.and_false]
theorem check_63 {ps : List Pt} {ls : List Ln} {gs : List Gr} (h0 : ¬ (ps.length > 40 ∨ ls.length > 60 ∨ gs.length > 6)) (h : (sortedP ps && linksP ps ls && groupsP ps gs) = false) : checkP ps ls gs = 63 := by
  rw [checkP, if_neg h0, h]; rfl
theorem lnOk_f1 {ps : List Pt} {x : Ln} (h : hasP ps x.1 = false) : lnOk ps x = false := by simp only [lnOk, h, Bool.false_and]
theorem lnOk_f2 {ps : List Pt} {x : Ln} (h : hasP ps x.2 = false) : lnOk ps x = false := by simp only [lnOk, h, Bool.false_and, Bool.and_false]
theorem lnOk_f3 {ps : List Pt} {x : Ln} (h : x.1 = x.2) : lnOk ps x = false := by simp [lnOk, h]
theorem lnOk_t {ps : List Pt} {x : Ln} (h1 : hasP ps x.1 = true) (h2 : hasP ps x.2 = true) (h3 : ¬ x.1 = x.2) : lnOk ps x = true := by
  simp only [lnOk, h1, h2, pt_eq, decide_eq_false h3]; rfl
theorem cmpL_t1 {x y : Ln} (h : ltP x.1 y.1 = true) : cmpL x y < 0 := (cmpL_lt x y).2 (.inl h)
theorem cmpL_t2 {x y : Ln} (h : x.1 = y.1) (h2 : ltP x.2 y.2 = true) : cmpL x y < 0 := (cmpL_lt x y).2 (.inr ⟨h, h2⟩)
theorem cmpL_f1 {x y : Ln} (h : ltP x.1 y.1 = false) (h2 : ¬ x.1 = y.1) : ¬ cmpL x y < 0 := by
  rw [cmpL_lt, h]; simp [h2]
theorem cmpL_f2 {x y : Ln} (h : ltP x.1 y.1 = false) (h2 : ltP x.2 y.2 = false) : ¬ cmpL x y < 0 := by
  rw [cmpL_lt, h, h2]; simp
/-- The names ahead. -/
def nmInv (gs : List Gr) (g : Gr) (k : Nat) : Prop := (gs.take k).any (sameN g) = false
theorem any_take_succ {α : Type} {p : α → Bool} {l : List α} {i : Nat} (h : i < l.length) : (l.take (i + 1)).any p = ((l.take i).any p || p l[i]) := by
  rw [List.take_succ_eq_append_getElem h, List.any_append]; simp
theorem check_zero {ps : List Pt} {ls : List Ln} {gs : List Gr} (h : checkP ps ls gs = 0) : sortedP ps = true ∧ linksP ps ls = true ∧ groupsP ps gs = true := by
  unfold checkP at h
  split at h
  · cases h
  · split at h
    · rename_i h2
      simp only [Bool.and_eq_true] at h2
      exact ⟨h2.1.1, h2.1.2, h2.2⟩
    · cases h
theorem check_asc {ps : List Pt} {ls : List Ln} {gs : List Gr} (h : checkP ps ls gs = 0) : AscP ps := by
  have := (check_zero h).1
  simp only [sortedP, Bool.and_eq_true] at this
  exact ascB_asc.1 this.2
theorem check_link {ps : List Pt} {ls : List Ln} {gs : List Gr} (h : checkP ps ls gs = 0) {x : Ln} (hx : x ∈ ls) : x.1 ∈ ps ∧ x.2 ∈ ps := by
  have := (check_zero h).2.1
  simp only [linksP, Bool.and_eq_true] at this
  have := List.all_eq_true.1 this.1 x hx
  simp only [lnOk, hasP, Bool.and_eq_true, decide_eq_true_eq] at this
  exact this.1
end Go.Proofs.Ytkgeadhnagnloaa.H
