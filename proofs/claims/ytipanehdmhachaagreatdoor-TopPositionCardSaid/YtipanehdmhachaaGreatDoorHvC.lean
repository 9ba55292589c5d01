/- Chapter 8: fixes, causes and numbers that are drawn. -/
import Derived.Test.YtipanehdmhachaaGreatDoorHvB
import Derived.Test.YtipanehdmhachaaGreatDoorHmC
set_option linter.unusedSimpArgs false
set_option linter.unusedVariables false
set_option linter.unusedSectionVars false
namespace Go.Proofs.YtipanehdmhachaaGreatDoor.H
variable [DR]
/-- A list that grows from nothing, in a block of that number. -/
def gVg {α : Type} (id : Nat) (l : List α) : AV := match l with
  | [] => .ful 0 []
  | p :: l => .own id 0 (p :: l).length
def gBg {α : Type} (T k : Nat) (f : α → List D) (l : List α) : Option Blk := match l with
  | [] => none
  | p :: l => some (.cells T k (rowsA ((p :: l).map f)))
section
variable {α : Type} {T k id : Nat} {f : α → List D}
theorem gVg_nil : gVg (α := α) id [] = .ful 0 [] := rfl
theorem gBg_nil : gBg T k f [] = none := rfl
theorem gVg_cons (p : α) (l : List α) : gVg id (p :: l) = .own id 0 (p :: l).length := rfl
theorem gBg_cons (p : α) (l : List α) : gBg T k f (p :: l) = some (.cells T k (rowsA ((p :: l).map f))) := rfl
end
abbrev inR1 (x : Int) : List D := [dI x]
def VFx (f : Fx) : Prop := f.t = 0 ∧ f.x ∈ [0, 0, 1, 20, -30, 1000] ∧ f.y ∈ [0, 0, 5, -20] ∧ f.e ∈ [1, 10, 50, 200]
theorem VFx.agree {f : Fx} (h : VFx f) : agP f f = true := by
  obtain ⟨-, h1, h2, h3⟩ := h
  rw [agP_iff]
  simp only [List.mem_cons, List.not_mem_nil, or_false] at h1 h2 h3
  simp only [okP, decide_eq_true_eq]
  omega
end Go.Proofs.YtipanehdmhachaaGreatDoor.H
