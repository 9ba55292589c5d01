/- Chapter 26, plain: what is reached by links; how far a part is. -/
import Derived.Test.YtkgeadhnagnloaaHdK
set_option linter.unusedSimpArgs false
set_option linter.unusedVariables false
namespace Go.Proofs.Ytkgeadhnagnloaa.H
/-- What is reached by links from some parts. -/
inductive Rch (ls : List Ln) (B : List Pt) : Pt → Prop where
  | base {p : Pt} : p ∈ B → Rch ls B p
  | step {x : Ln} : x ∈ ls → Rch ls B x.1 → Rch ls B x.2
theorem Rch.trans {ls : List Ln} {B C : List Pt} (h : ∀ p ∈ B, Rch ls C p) {q : Pt} (hq : Rch ls B q) : Rch ls C q := by
  induction hq with
  | base hp => exact h _ hp
  | step hx _ ih => exact .step hx ih
theorem Rch.cand {ls : List Ln} {B : List Pt} {q : Pt} (h : Rch ls B q) : q ∈ B ++ ls.map (·.2) := by
  cases h with
  | base h => exact List.mem_append_left _ h
  | step hx _ => exact List.mem_append_right _ (List.mem_map_of_mem hx)
open Classical in
/-- What falls. -/
noncomputable def fallP (ls : List Ln) (B : List Pt) : List Pt := unP ((B ++ ls.map (·.2)).filter fun q => decide (Rch ls B q)) []
theorem mem_fallP {ls : List Ln} {B : List Pt} {q : Pt} : q ∈ fallP ls B ↔ Rch ls B q := by
  unfold fallP
  rw [mem_unP, List.mem_filter]
  simp only [decide_eq_true_eq, List.not_mem_nil, or_false]
  exact ⟨fun h => h.2, fun h => ⟨h.cand, h⟩⟩
theorem asc_fallP (ls : List Ln) (B : List Pt) : AscP (fallP ls B) := asc_unP _ _
theorem fallP_is {ls : List Ln} {B l : List Pt} (h1 : AscP l) (h2 : ∀ q, q ∈ l ↔ Rch ls B q) : l = fallP ls B :=
  asc_uniq h1 (asc_fallP ls B) fun x => by rw [h2, mem_fallP]
/-- A list without repeats is no longer than one that has all of it. -/
theorem nodup_len {α : Type} [DecidableEq α] : ∀ {l m : List α}, l.Nodup → (∀ x ∈ l, x ∈ m) → l.length ≤ m.length
  | [], m, _, _ => by simp
  | a :: l, m, hn, h => by
    have ha := h a (by simp)
    have h1 := List.nodup_cons.1 hn
    have := nodup_len (l := l) (m := m.erase a) h1.2 fun x hx => by
      have hne : x ≠ a := fun e => h1.1 (e ▸ hx)
      exact (List.mem_erase_of_ne hne).2 (h x (List.mem_cons_of_mem _ hx))
    rw [List.length_erase_of_mem ha] at this
    have := List.length_pos_of_mem ha
    simp only [List.length_cons]; omega
theorem asc_nodup {l : List Pt} (h : AscP l) : l.Nodup := by
  refine List.Pairwise.imp (fun {x y} hxy e => ?_) h
  subst e; rw [ltP_irr] at hxy; cases hxy
/-- A way of so many links to a part. -/
inductive Way (ls : List Ln) (t : Pt) : Nat → Pt → Prop where
  | here : Way ls t 0 t
  | step {n : Nat} {x : Ln} : x ∈ ls → Way ls t n x.2 → Way ls t (n + 1) x.1
theorem Way.zero {ls : List Ln} {t p : Pt} (h : Way ls t 0 p) : p = t := by
  generalize h0 : 0 = n at h
  cases h with
  | here => rfl
  | step => omega
theorem Way.succ {ls : List Ln} {t p : Pt} {n : Nat} (h : Way ls t (n + 1) p) : ∃ x ∈ ls, x.1 = p ∧ Way ls t n x.2 := by
  generalize h0 : n + 1 = m at h
  cases h with
  | here => omega
  | @step k x hx hw =>
    have e : n = k := by omega
    subst e
    exact ⟨x, hx, rfl, hw⟩
/-- The least number of links. -/
def Dst (ls : List Ln) (t p : Pt) (n : Nat) : Prop := Way ls t n p ∧ ∀ m, Way ls t m p → n ≤ m
theorem Dst.uniq {ls : List Ln} {t p : Pt} {n m : Nat} (h1 : Dst ls t p n) (h2 : Dst ls t p m) : n = m := Nat.le_antisymm (h1.2 m h2.1) (h2.2 n h1.1)
theorem Way.dst {ls : List Ln} {t p : Pt} : ∀ {n : Nat}, Way ls t n p → ∃ m, m ≤ n ∧ Dst ls t p m := by
  intro n
  induction n using Nat.strongRecOn with
  | ind n ih =>
    intro h
    by_cases hm : ∃ m, m < n ∧ Way ls t m p
    · obtain ⟨m, hm, hw⟩ := hm
      obtain ⟨k, hk, hd⟩ := ih m hm hw
      exact ⟨k, by omega, hd⟩
    · exact ⟨n, Nat.le_refl _, h, fun m hw => Classical.byContradiction fun hn => hm ⟨m, by omega, hw⟩⟩
theorem Dst.self (ls : List Ln) (t : Pt) : Dst ls t t 0 := ⟨.here, fun _ _ => Nat.zero_le _⟩
theorem Dst.succ {ls : List Ln} {t p : Pt} {n : Nat} (h : Dst ls t p (n + 1)) : ∃ x ∈ ls, x.1 = p ∧ Dst ls t x.2 n := by
  obtain ⟨x, hx, rfl, hw⟩ := h.1.succ
  refine ⟨x, hx, rfl, hw, fun m hm => ?_⟩
  have := h.2 (m + 1) (.step hx hm)
  omega
open Classical in
noncomputable def dstP (ls : List Ln) (t p : Pt) : Option Nat := if h : ∃ n, Dst ls t p n then some (Classical.choose h) else none
theorem dstP_some {ls : List Ln} {t p : Pt} {n : Nat} : dstP ls t p = some n ↔ Dst ls t p n := by
  unfold dstP
  split
  · rename_i h
    have hc := Classical.choose_spec h
    rw [Option.some.injEq]
    exact ⟨fun e => e ▸ hc, fun hd => hc.uniq hd⟩
  · rename_i h
    exact ⟨fun e => by simp at e, fun hd => absurd ⟨n, hd⟩ h⟩
theorem dstP_none {ls : List Ln} {t p : Pt} : dstP ls t p = none ↔ ∀ n, ¬ Way ls t n p := by
  cases h : dstP ls t p with
  | none =>
    simp only [true_iff]
    intro n hw
    obtain ⟨m, _, hd⟩ := hw.dst
    rw [dstP_some.2 hd] at h; cases h
  | some n =>
    simp only [reduceCtorEq, false_iff]
    exact fun h' => h' n (dstP_some.1 h).1
theorem way_rch {ls : List Ln} {t p : Pt} : (∃ n, Way ls t n p) ↔ Rch ls [p] t := by
  constructor
  · rintro ⟨n, h⟩
    induction h with
    | here => exact .base (by simp)
    | @step n x hx _ ih =>
      refine Rch.trans (fun q hq => ?_) ih
      simp only [List.mem_singleton] at hq
      subst hq
      exact .step hx (.base (by simp))
  · intro h
    have key : ∀ {q : Pt}, Rch ls [p] q → ∀ {n : Nat} , Way ls t n q → ∃ m, Way ls t m p := by
      intro q hq
      induction hq with
      | base h => simp only [List.mem_singleton] at h; subst h; exact fun hw => ⟨_, hw⟩
      | step hx _ ih => exact fun hw => ih (.step hx hw)
    exact key h .here
/-- The next part of a chain. -/
noncomputable def nxtP (ls : List Ln) (t : Pt) (n : Nat) (p : Pt) : Pt := match ls.find? (fun x => decide (x.1 = p ∧ dstP ls t x.2 = some n)) with
  | some x => x.2
  | none => p
/-- A chain of so many links. -/
noncomputable def chnP (ls : List Ln) (t : Pt) : Nat → Pt → List Pt
  | 0, p => [p]
  | n + 1, p => p :: chnP ls t n (nxtP ls t n p)
theorem nxtP_ok {ls : List Ln} {t p : Pt} {n : Nat} (h : Dst ls t p (n + 1)) : Dst ls t (nxtP ls t n p) n ∧ (p, nxtP ls t n p) ∈ ls := by
  unfold nxtP
  split
  · rename_i x hx
    have h1 := List.find?_some hx
    have h2 := List.mem_of_find?_eq_some hx
    simp only [decide_eq_true_eq] at h1
    exact ⟨dstP_some.1 h1.2, by rw [← h1.1]; exact h2⟩
  · rename_i hx
    obtain ⟨x, hx1, hx2, hd⟩ := h.succ
    have := List.find?_eq_none.1 hx x hx1
    simp only [decide_eq_true_eq] at this
    exact absurd ⟨hx2, dstP_some.2 hd⟩ this
theorem chnP_len (ls : List Ln) (t : Pt) : ∀ (n : Nat) (p : Pt), (chnP ls t n p).length = n + 1
  | 0, p => rfl
  | n + 1, p => by simp [chnP, chnP_len ls t n]
theorem chnP_head (ls : List Ln) (t : Pt) (n : Nat) (p : Pt) : (chnP ls t n p).head? = some p := by cases n <;> rfl
theorem chnP_ne (ls : List Ln) (t : Pt) (n : Nat) (p : Pt) : chnP ls t n p ≠ [] := by cases n <;> simp [chnP]
theorem chnP_dst {ls : List Ln} {t : Pt} : ∀ {n : Nat} {p : Pt}, Dst ls t p n → ∀ (i : Nat) (h : i < (chnP ls t n p).length), Dst ls t (chnP ls t n p)[i] (n - i)
  | 0, p, h, i, hi => by
    have : i = 0 := by simp [chnP] at hi; omega
    subst this; exact h
  | n + 1, p, h, i, hi => by
    cases i with
    | zero => exact h
    | succ i =>
      have := chnP_dst (nxtP_ok h).1 i (by simpa [chnP] using hi)
      simpa [chnP] using this
theorem chnP_link {ls : List Ln} {t : Pt} : ∀ {n : Nat} {p : Pt}, Dst ls t p n → ∀ (i : Nat) (h : i + 1 < (chnP ls t n p).length), ((chnP ls t n p)[i], (chnP ls t n p)[i + 1]) ∈ ls
  | 0, p, h, i, hi => by simp [chnP] at hi
  | n + 1, p, h, i, hi => by
    cases i with
    | zero =>
      have h1 := (nxtP_ok h).2
      have h2 : (chnP ls t n (nxtP ls t n p))[0]'(by rw [chnP_len]; omega) = nxtP ls t n p := by
        have := chnP_head ls t n (nxtP ls t n p)
        rw [List.head?_eq_getElem?] at this
        rw [List.getElem?_eq_getElem (by rw [chnP_len]; omega)] at this
        simpa using this
      simp only [chnP, List.getElem_cons_zero, List.getElem_cons_succ, h2]
      exact h1
    | succ i =>
      have := chnP_link (nxtP_ok h).1 i (by simpa [chnP] using hi)
      simpa [chnP] using this
/-- A least number of links is below the count of the parts. -/
theorem dst_lt {ls : List Ln} {ps : List Pt} {t p : Pt} {n : Nat} (hp : p ∈ ps) (hl : ∀ x ∈ ls, x.2 ∈ ps) (h : Dst ls t p n) : n < ps.length := by
  have hsub : ∀ q ∈ chnP ls t n p, q ∈ ps := by
    intro q hq
    obtain ⟨i, hi, rfl⟩ := List.getElem_of_mem hq
    cases i with
    | zero =>
      have := chnP_head ls t n p
      rw [List.head?_eq_getElem?, List.getElem?_eq_getElem (by rw [chnP_len]; omega)] at this
      simp only [Option.some.injEq] at this
      rw [this]; exact hp
    | succ i => exact hl _ (chnP_link h i hi)
  have hnd : (chnP ls t n p).Nodup := by
    rw [List.nodup_iff_pairwise_ne, List.pairwise_iff_getElem]
    intro i j hi hj hij e
    have h1 := chnP_dst h i hi
    have h2 := chnP_dst h j hj
    rw [e] at h1
    have := h1.uniq h2
    rw [chnP_len] at hi hj
    omega
  have := nodup_len hnd hsub
  rw [chnP_len] at this
  omega
end Go.Proofs.Ytkgeadhnagnloaa.H
