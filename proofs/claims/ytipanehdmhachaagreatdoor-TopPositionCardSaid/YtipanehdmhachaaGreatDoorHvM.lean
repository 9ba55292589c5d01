/- Chapter 8: votes are checked; what boxes have in common; the examples. -/
import Derived.Test.YtipanehdmhachaaGreatDoorHvJ
set_option linter.unusedSimpArgs false
set_option linter.unusedVariables false
set_option linter.unusedSectionVars false
namespace Go.Proofs.YtipanehdmhachaaGreatDoor.H
variable [DR]
theorem DecQ.fn {P : Program} {f : FuncId} {vs : List AV} {c : List Int} {l : List Fx} (h : ACalls P f vs [] (DecQ c l)) : Fn P f vs (.tup [AVt (decP c l), AI .i64 (decE c l)]) := by
  unfold Fn
  have h1 : ACalls P f vs [] fun v s' => v = .tup [AVt (decP c l), AI .i64 (decE c l)] := h.endT fun v s' ⟨r, hw, e⟩ => ⟨r, _, e, hw, rfl⟩
  exact h1.take fun v s' e => ⟨by rw [e]; rfl, fun i b hi => by simp at hi, e, by simp⟩
theorem decide_ok (c : List Int) (l : List Fx) (hc : c.length ≤ 4611686018427387904) (hl : l.length ≤ 4611686018427387904) : Fn Tryz.prog 36 [LI c, LF l] (.tup [AVt (decP c l), AI .i64 (decE c l)]) := DecQ.fn (decide0 c l hc hl)
theorem dec_len (c : List Int) (l : List Fx) : (decP c l).m.length ≤ 8 ∧ (decP c l).c.length ≤ 8 := by
  unfold decP
  split
  · rename_i h
    have hl : l.length ≤ 8 := by
      unfold decE at h
      split at h
      · cases h
      · split at h
        · cases h
        · omega
    unfold voteP
    split
    · exact ⟨by simp, by simp⟩
    · exact sets_len8 hl (bestP_best (sets_ne c l)).1
  · exact ⟨by simp, by simp⟩
end Go.Proofs.YtipanehdmhachaaGreatDoor.H
