/- Chapter 26, plain: strictly ascending lists with the same members are the same; the union. -/
import Derived.Test.YtkgeadhnagnloaaHdD
set_option linter.unusedSimpArgs false
set_option linter.unusedVariables false
namespace Go.Proofs.Ytkgeadhnagnloaa.H
theorem ltP_irr (a : Pt) : ltP a a = false := by simp [ltP]
theorem ltP_trans {a b c : Pt} (h1 : ltP a b = true) (h2 : ltP b c = true) : ltP a c = true := by
  simp only [ltP, decide_eq_true_eq] at *; omega
theorem ltP_asymm {a b : Pt} (h : ltP a b = true) : ltP b a = false := by
  simp only [ltP, decide_eq_true_eq, decide_eq_false_iff_not] at *; omega
theorem ltP_tri {a b : Pt} (h1 : ltP a b = false) (h2 : ltP b a = false) : a = b := by
  simp only [ltP, decide_eq_false_iff_not] at *
  exact Prod.ext (by omega) (by omega)
abbrev AscP (l : List Pt) : Prop := l.Pairwise fun x y => ltP x y = true
theorem ascB_asc : ∀ {l : List Pt}, ascB ltP l = true ↔ AscP l
  | [] => by simp [ascB]
  | [a] => by simp [ascB]
  | a :: b :: l => by
    simp only [ascB, Bool.and_eq_true, ascB_asc (l := b :: l)]
    constructor
    · rintro ⟨h1, h2⟩
      refine List.pairwise_cons.2 ⟨fun x hx => ?_, h2⟩
      rcases List.mem_cons.1 hx with rfl | hx
      · exact h1
      · exact ltP_trans h1 (List.rel_of_pairwise_cons h2 hx)
    · intro h
      exact ⟨List.rel_of_pairwise_cons h (List.mem_cons_self ..), h.of_cons⟩
theorem mem_withP {x p : Pt} : ∀ {l : List Pt}, x ∈ withP l p ↔ x = p ∨ x ∈ l
  | [] => by simp [withP]
  | y :: l => by
    simp only [withP]
    split
    · simp only [List.mem_cons, mem_withP (l := l)]
      constructor
      · rintro (h | h | h) <;> simp [h]
      · rintro (h | h | h) <;> simp [h]
    · split
      · rename_i h; subst h; simp
      · simp
theorem asc_withP {p : Pt} : ∀ {l : List Pt}, AscP l → AscP (withP l p)
  | [], _ => by simp [withP]
  | y :: l, h => by
    simp only [withP]
    split
    · rename_i hy
      refine List.pairwise_cons.2 ⟨fun x hx => ?_, asc_withP h.of_cons⟩
      rcases mem_withP.1 hx with rfl | hx
      · exact hy
      · exact List.rel_of_pairwise_cons h hx
    · rename_i hy
      split
      · exact h
      · rename_i hne
        have hpy : ltP p y = true := by
          cases hq : ltP p y
          · exact absurd (ltP_tri (by simpa using hy) hq) hne
          · rfl
        refine List.pairwise_cons.2 ⟨fun x hx => ?_, h⟩
        rcases List.mem_cons.1 hx with rfl | hx
        · exact hpy
        · exact ltP_trans hpy (List.rel_of_pairwise_cons h hx)
theorem asc_uniq : ∀ {l m : List Pt}, AscP l → AscP m → (∀ x, x ∈ l ↔ x ∈ m) → l = m
  | [], [], _, _, _ => rfl
  | [], b :: m, _, _, h => by have := (h b).2 (by simp); simp at this
  | a :: l, [], _, _, h => by have := (h a).1 (by simp); simp at this
  | a :: l, b :: m, hl, hm, h => by
    have e : a = b := by
      rcases List.mem_cons.1 ((h a).1 (by simp)) with e | e1
      · exact e
      · rcases List.mem_cons.1 ((h b).2 (by simp)) with e | e2
        · exact e.symm
        · have q1 := List.rel_of_pairwise_cons hm e1
          have q2 := List.rel_of_pairwise_cons hl e2
          rw [ltP_asymm q1] at q2; cases q2
    subst e
    congr 1
    refine asc_uniq hl.of_cons hm.of_cons fun x => ⟨fun hx => ?_, fun hx => ?_⟩
    · rcases List.mem_cons.1 ((h x).1 (List.mem_cons_of_mem _ hx)) with e | e1
      · have := List.rel_of_pairwise_cons hl hx
        rw [e, ltP_irr] at this; cases this
      · exact e1
    · rcases List.mem_cons.1 ((h x).2 (List.mem_cons_of_mem _ hx)) with e | e1
      · have := List.rel_of_pairwise_cons hm hx
        rw [e, ltP_irr] at this; cases this
      · exact e1
theorem mem_foldW {x : Pt} : ∀ {b l : List Pt}, x ∈ b.foldl withP l ↔ x ∈ l ∨ x ∈ b
  | [], l => by simp
  | p :: b, l => by
    rw [List.foldl_cons, mem_foldW (b := b), mem_withP, List.mem_cons]
    constructor
    · rintro ((h | h) | h) <;> simp [h]
    · rintro (h | h | h) <;> simp [h]
theorem asc_foldW : ∀ {b l : List Pt}, AscP l → AscP (b.foldl withP l)
  | [], l, h => h
  | p :: b, l, h => asc_foldW (b := b) (asc_withP h)
/-- The union of two lists. -/
def unP (a b : List Pt) : List Pt := b.foldl withP (a.foldl withP [])
theorem mem_unP {a b : List Pt} {x : Pt} : x ∈ unP a b ↔ x ∈ a ∨ x ∈ b := by
  unfold unP; rw [mem_foldW, mem_foldW]; simp
theorem asc_unP (a b : List Pt) : AscP (unP a b) := asc_foldW (asc_foldW .nil)
/-- Of equal neighbours one is kept. -/
def dedP : List Pt → List Pt
  | [] => []
  | a :: l => match l with
    | [] => [a]
    | b :: _ => if a = b then dedP l else a :: dedP l
theorem mem_dedP {x : Pt} : ∀ {l : List Pt}, x ∈ dedP l ↔ x ∈ l
  | [] => by simp [dedP]
  | [a] => by simp [dedP]
  | a :: b :: l => by
    have := mem_dedP (x := x) (l := b :: l)
    rw [dedP]
    split
    · rename_i h; subst h; rw [this]; simp
    · rw [List.mem_cons, this, List.mem_cons (a := x) (b := a)]
theorem asc_dedP : ∀ {l : List Pt}, l.Pairwise (fun x y => ltP y x = false) → AscP (dedP l)
  | [], _ => by simp [dedP]
  | [a], _ => by simp [dedP]
  | a :: b :: l, h => by
    have := asc_dedP (l := b :: l) h.of_cons
    rw [dedP]
    split
    · exact this
    · rename_i hne
      refine List.pairwise_cons.2 ⟨fun x hx => ?_, this⟩
      have hx' : x ∈ b :: l := mem_dedP.1 hx
      have hab : ltP a b = true := by
        cases hq : ltP a b
        · exact absurd (ltP_tri hq (List.rel_of_pairwise_cons h (List.mem_cons_self ..))) hne
        · rfl
      rcases List.mem_cons.1 hx' with rfl | hx'
      · exact hab
      · have h3 : ltP x b = false := List.rel_of_pairwise_cons h.of_cons hx'
        cases hq : ltP a x
        · have : ltP x a = true := by
            cases hq' : ltP x a
            · have := ltP_tri hq hq'; subst this; rw [hab] at h3; cases h3
            · rfl
          rw [List.rel_of_pairwise_cons h (List.mem_cons_of_mem _ hx')] at this; cases this
        · rfl
theorem union_eq {a b l : List Pt} (hp : l.Perm (a ++ b)) (hs : l.Pairwise fun x y => ¬ cmpP y x < 0) : dedP l = unP a b := by
  refine asc_uniq (asc_dedP (hs.imp fun {x y} h => ?_)) (asc_unP a b) fun x => ?_
  · cases hq : ltP y x
    · rfl
    · exact absurd ((cmpP_lt y x).2 hq) h
  · rw [mem_dedP, hp.mem_iff, List.mem_append, mem_unP]
end Go.Proofs.Ytkgeadhnagnloaa.H
