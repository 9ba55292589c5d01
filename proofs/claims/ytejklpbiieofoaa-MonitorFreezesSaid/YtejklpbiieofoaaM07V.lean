/- What the chapters' examples say. -/
import Derived.Test.YtejklpbiieofoaaRows
import Derived.Test.YtejklpbiieofoaaArithD
import Derived.Test.YtejklpbiieofoaaEvN
namespace Go.Proofs.Ytejklpbiieofoaa
open Ev
def t_sane : T Leaf := .leaf (.bool (.lit true), [], [])
def trueT : T Leaf → Bool
  | .leaf l => trueLeaf l
  | _ => false
theorem t_sane07_eq : trueT (evFn Try.prog noCtx 40 12 13 [] [] ⟨[], []⟩ 0) = true := by kernel_rfl
theorem sane07_ok : PCOK Try.prog 13 cSane gSane := pc_of_tree noCtx_ok (Φ := noSig) rfl (fun _ => trivial) (by kernel_rfl) (by kernel_rfl) rfl rfl fun xs hl _ => by
  have h := t_sane07_eq
  match xs, hl with
  | [], _ =>
    refine ⟨by simp [gSane, cSane, RngOK], ?_⟩
    show T.ok noSig _ [] (evFn Try.prog noCtx 40 12 13 [] [] ⟨[], []⟩ 0)
    revert h
    generalize evFn Try.prog noCtx 40 12 13 [] [] ⟨[], []⟩ 0 = t
    intro h
    unfold trueT at h
    split at h
    · rename_i l
      unfold trueLeaf at h
      split at h
      · rename_i b hb
        subst h
        intro η
        rw [hb]
        simp [denV, denB, cSane, gSane, retV, shV, cellV]
      · cases h
    · cases h
end Go.Proofs.Ytejklpbiieofoaa
