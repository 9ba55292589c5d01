/- EstimateHolds. -/
import Derived.Test.YtipanehdmhachaaGreatDoorHqN
import Derived.Test.YtipanehdmhachaaGreatDoorHqL
set_option linter.unusedSimpArgs false
set_option linter.unusedVariables false
set_option linter.unusedSectionVars false
namespace Go.Proofs.YtipanehdmhachaaGreatDoor.H
variable [DR]
def HL (sp : Int) (l : List Rf) : Prop := ∀ i, i < l.length → (l.getD i rf0).c = i ∧ (l.getD i rf0).s = sp ∧ (l.getD i rf0).fz = 0 ∧ 1 ≤ (l.getD i rf0).st ∧ (l.getD i rf0).st ≤ 5
theorem getD_snoc {α : Type} {l : List α} {x d : α} {i : Nat} (h : i < (l ++ [x]).length) : (i < l.length ∧ (l ++ [x]).getD i d = l.getD i d) ∨ (i = l.length ∧ (l ++ [x]).getD i d = x) := by
  rw [List.length_append, List.length_singleton] at h
  by_cases hi : i < l.length
  · exact .inl ⟨hi, by simp [List.getD, List.getElem?_append, hi]⟩
  · have : i = l.length := by omega
    subst this
    exact .inr ⟨rfl, by simp [List.getD]⟩
theorem HL.snoc {sp : Int} {l : List Rf} {st : Int} (h : HL sp l) (h1 : 1 ≤ st) (h2 : st ≤ 5) : HL sp (l ++ [⟨l.length, sp, st, 0⟩]) := by
  intro i hi
  rcases getD_snoc (d := rf0) hi with ⟨a, b⟩ | ⟨a, b⟩
  · rw [b]; exact h i a
  · rw [b, a]; exact ⟨rfl, rfl, rfl, h1, h2⟩
theorem HL.rf {sp : Int} {l : List Rf} {off : Nat → Int} (h : HL sp l) (h8 : l.length ≤ 8) (hs : 0 ≤ sp ∧ sp ≤ 40) (ho : ∀ i, 0 ≤ off i ∧ off i ≤ 100000) : RfA l sp off := by
  refine ⟨h8, fun i hi => ?_, fun i hi => (h i hi).1, ho⟩
  obtain ⟨a, b, c, d, e⟩ := h i hi
  refine ⟨?_, b, c⟩
  rw [vaR_iff]; omega
theorem HL.cfg {sp : Int} {l : List Rf} (h : HL sp l) (h8 : l.length ≤ 8) (hs : 0 ≤ sp ∧ sp ≤ 40) : CfgOK l := by
  refine ⟨h8, fun r hr => ?_⟩
  obtain ⟨i, hi, rfl⟩ := List.getElem_of_mem hr
  have := ((h.rf (off := fun _ => 0) h8 hs (by simp)).ro i hi).1
  simpa [List.getD, hi] using this
structure GSi (l : List Rf) (off : Nat → Int) (k x y : Int) (i : Nat) (fs : List Sg) : Prop where
  g : GSA l off k x y fs
  lt : ∀ s ∈ fs, s.src < i
  len : fs.length ≤ i
theorem GSi.nil {l : List Rf} {off : Nat → Int} {k x y : Int} : GSi l off k x y 0 [] := ⟨⟨by simp, .nil, by simp⟩, by simp, by simp⟩
theorem GSi.up {l : List Rf} {off : Nat → Int} {k x y : Int} {i : Nat} {fs : List Sg} (h : GSi l off k x y i fs) : GSi l off k x y (i + 1) fs := ⟨h.g, fun s hs => by have := h.lt s hs; omega, by have := h.len; omega⟩
theorem GSi.snoc {l : List Rf} {off : Nat → Int} {k x y : Int} {i : Nat} {fs : List Sg} {a b c : Int} (h : GSi l off k x y i fs) (hi : i < l.length) (hg : GS k (x + off i) y ⟨1, i, k, a, b, c⟩) : GSi l off k x y (i + 1) (fs ++ [⟨1, i, k, a, b, c⟩]) := by
  refine ⟨⟨fun s hs => ?_, ?_, fun s hs => ?_⟩, fun s hs => ?_, by have := h.len; simp; omega⟩
  · rcases List.mem_append.1 hs with hs | hs
    · exact h.g.is s hs
    · simp only [List.mem_singleton] at hs; subst hs
      simp [isS, hi]
  · rw [List.pairwise_append]
    refine ⟨h.g.pw, by simp, fun s hs z hz => ?_⟩
    simp only [List.mem_singleton] at hz; subst hz
    have := h.lt s hs
    simp only; omega
  · rcases List.mem_append.1 hs with hs | hs
    · exact h.g.gs s hs
    · simp only [List.mem_singleton] at hs; subst hs
      exact hg
  · rcases List.mem_append.1 hs with hs | hs
    · have := h.lt s hs; omega
    · simp only [List.mem_singleton] at hs; subst hs
      simp only; omega
theorem TrA.start {l : List Rf} {sp : Int} {off : Nat → Int} : TrA l sp off (List.replicate l.length tk0) 0 0 0 := by
  refine ⟨by simp, fun i hi => .inl ?_⟩
  have : (List.replicate l.length tk0).getD i tk0 = tk0 := by simp [List.getD, hi]
  rw [this]; exact ⟨rfl, rfl⟩
theorem EsI.start : EsI es0 0 0 0 := ⟨by decide, rfl, rfl, fun h => absurd rfl h⟩
end Go.Proofs.YtipanehdmhachaaGreatDoor.H
