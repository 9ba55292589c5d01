/-
  'EstimateHolds' holds: for every input the law returns true, and each argument reads behind the call as it read before; the two listed package variables hold what the program's text lays in them (the card ties them). Conditions: none of ours.
-/
import Derived.Test.YtbhffdbkdfkpgaaDoorRows
import Derived.Test.YtbhffdbkdfkpgaaDoorCards
import Derived.Test.YtbhffdbkdfkpgaaDoorTie
import Derived.Test.YtbhffdbkdfkpgaaDoorHqH
import Derived.Test.YtbhffdbkdfkpgaaDoorHvX
import Derived.Test.YtbhffdbkdfkpgaaDoorKaC
import Derived.WalkKit
import Derived.ProofKit
import Derived.OpenShut
import Derived.ShutString
import Derived.ChangeOld
import Derived.LaidMore
import Derived.Stop.Joined
import Derived.SevenTiedAt
import Derived.Below
namespace Go.Proofs.YtbhffdbkdfkpgaaDoor.estimateHolds
open Go.ChangeShapes Go.WideShapes Go.ChangeAt Go.RowKit
open Go.ChangeMaps (open_string shut_string)
set_option linter.unusedVariables false

theorem own : ownKnob Tryd.prog.godebug = none := by kernel_rfl
theorem laidOut : laidOutB Tryd.prog = true := by kernel_rfl
theorem door_met (os : Os) (args : Array Value) : laidMetH Tryd.prog Go.Proofs.YtbhffdbkdfkpgaaDoor.H.laid2 ((World.doorLaid Tryd.prog 4000 os).forCall (fun _ _ => 0) ⟨#[], args, []⟩).memory :=
  laidMetH_of_parts3 (fuel := 8) (laidMet_of_run' 8 (by kernel_rfl) (by kernel_rfl)) (by kernel_rfl) (by kernel_rfl)

set_option maxRecDepth 100000 in
theorem lifted (os : Os) (started : os.Started) (H : Type) (enc : TypeId × Value → H) :
    ReturnsInHanded {} Tryd.checked os 4 .any (fun w args => (Rows.estimateHoldsSpec.pre enc Tryd.prog Tryd.f4 [] false w args ∧ laidMetH Tryd.prog Go.Proofs.YtbhffdbkdfkpgaaDoor.H.laid2 w) ∧ sizedMet enc Tryd.prog Tryd.f4 (OpenSpec.ofChange Rows.estimateHoldsSpec) false w args)
      (Rows.estimateHoldsSpec.post enc Tryd.prog Tryd.f4 false true false false) := by
  refine returnsInHanded_of_change_and (C := Tryd.checked) (X := fun w _ => laidMetH Tryd.prog Go.Proofs.YtbhffdbkdfkpgaaDoor.H.laid2 w) (fun _ _ _ hh h => h.of_heap hh) own started (by kernel_rfl) Tryd.func4
    (ChangeSpec.witness_shaped (enc := enc) (C := Tryd.checked) (os := os) (X := fun w _ => laidMetH Tryd.prog Go.Proofs.YtbhffdbkdfkpgaaDoor.H.laid2 w) false (World.doorLaid Tryd.prog 4000 os) #[.slice none 0 0] 8 rfl (World.shaped_of_RefB (by kernel_rfl) (by kernel_rfl)) (by kernel_rfl) (by kernel_rfl) (by kernel_rfl) (door_met os _)) ?_
  intro W base args ds gs before hval0 hW hcnd _ hLaid _
  have hval : ∀ (j : Nat) t v, Tryd.f4.params[j]? = some t → args[j]? = some v → Value.okWide Tryd.prog W .any base t v := hval0
  have hW' := hW
  obtain ⟨p, q, hA0, hV, rfl, hfz, hnd⟩ := hW
  have hA : DataW.TrodAll enc Tryd.prog W 0 (fun _ => true) true Tryd.f4.params.toList args.toList ds p := hA0
  rw [Tryd.params4] at hA hval
  obtain ⟨v0, vs0, d0, ds0, p0, q0, hargs, rfl, rfl, h0, r0⟩ := trodAll_cons hA
  obtain ⟨rfl, rfl, rfl⟩ := trodAll_nil r0
  obtain rfl : args = #[v0] := by cases args; simp_all
  obtain ⟨rfl, rfl⟩ := trodVars_none hV
  have lt0 : ∀ x ∈ p0, x.block < W.heap.size := by obtain ⟨m, hm⟩ := h0; exact DataW.trod_lt m _ _ _ hm
  obtain ⟨z0, k0, g0⟩ := Go.Proofs.YtbhffdbkdfkpgaaDoor.H.R_argL (t := 22) (e := 3) (n := 8) (by kernel_rfl) (by kernel_rfl) (hval 0 22 v0 rfl rfl) h0 (β := Go.Proofs.YtbhffdbkdfkpgaaDoor.H.loc0)
  obtain ⟨x0, rfl, b0⟩ := Go.Proofs.YtbhffdbkdfkpgaaDoor.H.dec_ints k0
  have hwalk := Go.Proofs.YtbhffdbkdfkpgaaDoor.H.law_ok (w := W) (us := [v0]) (Go.Proofs.YtbhffdbkdfkpgaaDoor.H.hold_walk x0) (by simp only [Go.Proofs.YtbhffdbkdfkpgaaDoor.H.RL]; exact ⟨v0, [], rfl, g0, rfl⟩) (Go.Proofs.YtbhffdbkdfkpgaaDoor.H.gl_of hLaid)
  clear hA0 hval0
  refine hwalk.mono fun e W' ⟨he, bel⟩ => ?_
  subst he
  exact ⟨_, rfl, _, _, _, [], _, [], hW', trodAll_mk1 (shut_bool (t := 4) (by kernel_rfl) _), (trodAll_cons_mk (Below.trod laidOut (by kernel_rfl) (of_decide_eq_true (by kernel_rfl)) h0 bel lt0) trodAll_mk0), rfl, bel.frame _, fun h => by cases h⟩

theorem over : Rows.estimateHoldsRow.holds Tryd.pinned (OpenSpec.ofChange Rows.estimateHoldsSpec) :=
  OpenClaim.holds_of_wide 4 Tryd.f4 rfl rfl rfl rfl rfl rfl rfl ⟨rfl, rfl, rfl, rfl, rfl⟩ rfl rfl rfl rfl rfl (by kernel_rfl) Tryd.func4 (by kernel_rfl)
    (of_decide_eq_true (by kernel_rfl)) (by unfold Func.isWrapper; first | (rw [if_pos (by decide +kernel)]; kernel_rfl) | (rw [if_neg (by decide +kernel)]; exact ⟨rfl, rfl⟩))
    (fun os started H enc _ => lifted os started H enc)

/-- THE STATEMENT: the tied card. -/
theorem proved : Rows.EstimateHoldsCardSaid :=
  Claim7.holds_tied_plain_at .later [] [.data, .data] true (true, "aa1538c4011e10dab952d4767836ed660774e60f3e921e4ee66d83547674e34f") false
    over (fun _ h => by cases h) (by kernel_rfl) (fun _ h => by cases h) estimateHolds_row_tie rfl ⟨rfl, rfl⟩ (by kernel_rfl) rfl
    (fun f fn hf hfn => by
      obtain rfl : f = 4 := Option.some.inj ((show Tryd.prog.funcNamed "dynpos/dynposlaw10.EstimateHolds" = some 4 by kernel_rfl).symm.trans hf) |>.symm
      obtain rfl : fn = Tryd.f4 := (Option.some.inj (Tryd.func4.symm.trans hfn)).symm
      exact ⟨by kernel_rfl, fun j t ht => by
        rw [Tryd.params4] at ht
        have hm : t ∈ [22] := by simpa using Array.mem_of_getElem? ht
        have hall : ([22].all fun u => !Tryd.prog.wantsStandIn u) = true := by kernel_rfl
        exact (show Tryd.prog.wantsStandIn t = false by simpa using List.all_eq_true.1 hall t hm)⟩)
    (by kernel_rfl)
#print axioms proved
end Go.Proofs.YtbhffdbkdfkpgaaDoor.estimateHolds
