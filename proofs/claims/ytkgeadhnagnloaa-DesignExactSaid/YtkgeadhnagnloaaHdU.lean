/- Chapter 26, plain: how what falls is found, in both ways; lists that a function gives. -/
import Derived.Test.YtkgeadhnagnloaaHdT
set_option linter.unusedSimpArgs false
set_option linter.unusedVariables false
namespace Go.Proofs.Ytkgeadhnagnloaa.H
/-! ### The program's queue -/
structure Wl (ls : List Ln) (B F q : List Pt) : Prop where
  nd : F.Nodup
  rch : ∀ p, p ∈ F ∨ p ∈ q → Rch ls B p
  base : ∀ p ∈ B, p ∈ F ∨ p ∈ q
  cl : ∀ x ∈ ls, x.1 ∈ F → x.2 ∈ F ∨ x.2 ∈ q
structure WlI (ls : List Ln) (B F q : List Pt) (p : Pt) (i : Nat) : Prop where
  nd : F.Nodup
  pin : p ∈ F
  rch : ∀ p, p ∈ F ∨ p ∈ q → Rch ls B p
  base : ∀ p ∈ B, p ∈ F ∨ p ∈ q
  cl : ∀ x ∈ ls, x.1 ∈ F → x.1 ≠ p → x.2 ∈ F ∨ x.2 ∈ q
  lnk : ∀ x ∈ ls.take i, x.1 = p → x.2 ∈ F ∨ x.2 ∈ q
theorem wl0 (ls : List Ln) (B : List Pt) : Wl ls B [] B where
  nd := .nil
  rch := fun p h => h.elim (fun h => by simp at h) .base
  base := fun p h => .inr h
  cl := fun x _ h => by simp at h
theorem Wl.skip {ls : List Ln} {B F q : List Pt} {p : Pt} (h : Wl ls B F (p :: q)) (hp : p ∈ F) : Wl ls B F q where
  nd := h.nd
  rch := fun r hr => h.rch r (hr.imp id (List.mem_cons_of_mem _))
  base := fun r hr => by
    rcases h.base r hr with h1 | h1
    · exact .inl h1
    · rcases List.mem_cons.1 h1 with rfl | h1
      · exact .inl hp
      · exact .inr h1
  cl := fun x hx h1 => by
    rcases h.cl x hx h1 with h1 | h1
    · exact .inl h1
    · rcases List.mem_cons.1 h1 with e | h1
      · rw [e]; exact .inl hp
      · exact .inr h1
theorem Wl.visit {ls : List Ln} {B F q : List Pt} {p : Pt} (h : Wl ls B F (p :: q)) (hp : p ∉ F) : WlI ls B (F ++ [p]) q p 0 where
  nd := by
    rw [List.nodup_append]
    exact ⟨h.nd, by simp, fun a ha b hb e => by simp only [List.mem_singleton] at hb; subst hb; subst e; exact hp ha⟩
  pin := by simp
  rch := fun r hr => h.rch r (by
    rcases hr with hr | hr
    · rcases List.mem_append.1 hr with hr | hr
      · exact .inl hr
      · simp only [List.mem_singleton] at hr; subst hr; exact .inr (List.mem_cons_self ..)
    · exact .inr (List.mem_cons_of_mem _ hr))
  base := fun r hr => by
    rcases h.base r hr with h1 | h1
    · exact .inl (List.mem_append_left _ h1)
    · rcases List.mem_cons.1 h1 with rfl | h1
      · exact .inl (by simp)
      · exact .inr h1
  cl := fun x hx h1 hne => by
    rcases List.mem_append.1 h1 with h1 | h1
    · rcases h.cl x hx h1 with h1 | h1
      · exact .inl (List.mem_append_left _ h1)
      · rcases List.mem_cons.1 h1 with e | h1
        · rw [e]; exact .inl (by simp)
        · exact .inr h1
    · simp only [List.mem_singleton] at h1; exact absurd h1 hne
  lnk := fun x hx => by simp at hx
theorem WlI.skip {ls : List Ln} {B F q : List Pt} {p : Pt} {i : Nat} (h : WlI ls B F q p i) (hi : i < ls.length) (hn : ls[i].1 ≠ p) : WlI ls B F q p (i + 1) :=
  ⟨h.nd, h.pin, h.rch, h.base, h.cl, fun x hx e => by
    rcases (mem_take_succ hi).1 hx with hx | rfl
    · exact h.lnk x hx e
    · exact absurd e hn⟩
theorem WlI.add {ls : List Ln} {B F q : List Pt} {p : Pt} {i : Nat} (h : WlI ls B F q p i) (hi : i < ls.length) (hn : ls[i].1 = p) : WlI ls B F (q ++ [ls[i].2]) p (i + 1) where
  nd := h.nd
  pin := h.pin
  rch := fun r hr => by
    rcases hr with hr | hr
    · exact h.rch r (.inl hr)
    · rcases List.mem_append.1 hr with hr | hr
      · exact h.rch r (.inr hr)
      · simp only [List.mem_singleton] at hr; subst hr
        exact .step (List.getElem_mem hi) (by rw [hn]; exact h.rch p (.inl h.pin))
  base := fun r hr => (h.base r hr).imp id (List.mem_append_left _)
  cl := fun x hx h1 h2 => (h.cl x hx h1 h2).imp id (List.mem_append_left _)
  lnk := fun x hx e => by
    rcases (mem_take_succ hi).1 hx with hx | rfl
    · exact (h.lnk x hx e).imp id (List.mem_append_left _)
    · exact .inr (List.mem_append_right _ (by simp))
theorem WlI.next {ls : List Ln} {B F q : List Pt} {p : Pt} (h : WlI ls B F q p ls.length) : Wl ls B F q where
  nd := h.nd
  rch := h.rch
  base := h.base
  cl := fun x hx h1 => by
    by_cases e : x.1 = p
    · exact h.lnk x (by rw [List.take_length]; exact hx) e
    · exact h.cl x hx h1 e
theorem Wl.fin {ls : List Ln} {B F : List Pt} (h : Wl ls B F []) (r : Pt) : r ∈ F ↔ Rch ls B r := by
  refine ⟨fun hr => h.rch r (.inl hr), fun hr => ?_⟩
  induction hr with
  | base hp => exact (h.base _ hp).elim id fun h => by simp at h
  | step hx _ ih => exact (h.cl _ hx ih).elim id fun h => by simp at h
theorem rch_len {ls : List Ln} {B F : List Pt} (hn : F.Nodup) (h : ∀ p ∈ F, Rch ls B p) : F.length ≤ B.length + ls.length := by
  have := nodup_len hn (m := B ++ ls.map (·.2)) fun p hp => (h p hp).cand
  simpa using this
/-! ### The reference's rounds -/
structure FlR (ls : List Ln) (B l : List Pt) : Prop where
  asc : AscP l
  rch : ∀ p ∈ l, Rch ls B p
  base : ∀ p ∈ B, p ∈ l
theorem flr0 (ls : List Ln) (B : List Pt) : FlR ls B (unP B []) where
  asc := asc_unP _ _
  rch := fun p hp => .base (by simpa [mem_unP] using hp)
  base := fun p hp => by simpa [mem_unP] using hp
theorem FlR.add {ls : List Ln} {B l : List Pt} (h : FlR ls B l) {x : Ln} (hx : x ∈ ls) (h1 : x.1 ∈ l) : FlR ls B (withP l x.2) where
  asc := asc_withP h.asc
  rch := fun p hp => by
    rw [mem_withP] at hp
    rcases hp with hp | hp
    · first | exact h.rch p hp | (rw [hp]; exact .step hx (h.rch _ h1))
    · first | exact h.rch p hp | (rw [hp]; exact .step hx (h.rch _ h1))
  base := fun p hp => by rw [mem_withP]; simp [h.base p hp]
theorem FlR.len {ls : List Ln} {B l : List Pt} (h : FlR ls B l) : l.length ≤ B.length + ls.length := rch_len (asc_nodup h.asc) h.rch
theorem withP_len1 {l : List Pt} {p : Pt} (h : AscP l) (hp : p ∉ l) : (withP l p).length = l.length + 1 := by
  have h1 := withP_len p l
  have h2 := nodup_len (l := p :: l) (m := withP l p) (List.nodup_cons.2 ⟨hp, asc_nodup h⟩) fun x hx => by
    rw [mem_withP]; simpa using List.mem_cons.1 hx
  simp only [List.length_cons] at h2
  omega
theorem FlR.fin {ls : List Ln} {B l : List Pt} (h : FlR ls B l) (hc : ∀ x ∈ ls, x.1 ∈ l → x.2 ∈ l) : l = fallP ls B :=
  fallP_is h.asc fun q => ⟨h.rch q, fun hq => by
    induction hq with
    | base hp => exact h.base _ hp
    | step hx _ ih => exact hc _ hx ih⟩
/-! ### Lists that a function gives -/
/-- The list is empty, or somewhere in a block of its own, perhaps with more behind it. -/
def IsO (l : List Pt) (v : AV) (s' : St) : Prop := (l = [] ∧ ∃ k, v = .ful k []) ∨ ∃ id z, v = .own id 0 l.length ∧ s'[id]? = some (some (.cells 29 2 (rowsA (pts (l ++ z)))))
theorem IsO.fn {P : Program} {f : FuncId} {vs : List AV} {l : List Pt} (h : ACalls P f vs [] (IsO l)) : Fn P f vs (LP l) := by
  unfold Fn
  have h1 : ACalls P f vs [] fun v _ => v = LP l := by
    refine ACalls.freeze (ACalls.endW (Q' := fun v s' => v = LP l ∨ ∃ id z, v = .own id 0 l.length ∧ s'[id]? = some (some (.cells 29 2 (rowsA (pts (l ++ z)))))) h fun v s' hv => ?_) fun v s' hv => ?_
    · rcases hv with ⟨rfl, k, rfl⟩ | hv
      · exact ⟨LP [], .nil k 2, .inl rfl⟩
      · exact ⟨v, .same _, .inr hv⟩
    · rcases hv with hv | ⟨id, z, rfl, hs⟩
      · exact .inl hv
      · refine .inr ⟨id, 29, 2, pts (l ++ z), hs, by simp [fitA], ?_⟩
        simp [frzA]
  exact h1.take fun v s' e => ⟨by rw [e]; rfl, fun i b hi => by simp at hi, e, by simp⟩
theorem sorted_asc {l : List Pt} (hn : l.Nodup) (h : l.Pairwise fun x y => ¬ cmpP y x < 0) : AscP l := by
  rw [List.nodup_iff_pairwise_ne] at hn
  have := hn.and h
  refine this.imp fun {x y} hxy => ?_
  cases hq : ltP x y
  · have h2 : ltP y x = false := by
      cases hq' : ltP y x
      · rfl
      · exact absurd ((cmpP_lt y x).2 hq') hxy.2
    exact absurd (ltP_tri hq h2) hxy.1
  · rfl
end Go.Proofs.Ytkgeadhnagnloaa.H
