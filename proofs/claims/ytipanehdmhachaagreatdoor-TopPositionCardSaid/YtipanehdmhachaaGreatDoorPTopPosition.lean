/-
  'TopPosition' holds: for every input the law returns true, and each argument reads behind the call as it read before; the seven listed package variables hold what the program's text lays in them (the card ties them). Conditions: none of ours.
-/
import Derived.Test.YtipanehdmhachaaGreatDoorRows
import Derived.Test.YtipanehdmhachaaGreatDoorCards
import Derived.Test.YtipanehdmhachaaGreatDoorTie
import Derived.Test.YtipanehdmhachaaGreatDoorHtZ
import Derived.Test.YtipanehdmhachaaGreatDoorHtX
import Derived.Test.YtipanehdmhachaaGreatDoorHtW
import Derived.Lay
import Derived.Test.YtipanehdmhachaaGreatDoorKaC
import Derived.WalkKit
import Derived.ProofKit
import Derived.OpenShut
import Derived.ShutString
import Derived.ChangeOld
import Derived.LaidMore
import Derived.Stop.Joined
import Derived.SevenTiedAt
import Derived.Below
namespace Go.Proofs.YtipanehdmhachaaGreatDoor.topPosition
open Go.ChangeShapes Go.WideShapes Go.ChangeAt Go.RowKit
open Go.ChangeMaps (open_string shut_string)
set_option linter.unusedVariables false

theorem own : ownKnob Tryz.prog.godebug = none := by kernel_rfl
theorem laidOut : laidOutB Tryz.prog = true := by kernel_rfl
theorem door_met (os : Os) (args : Array Value) : laidMetH Tryz.prog Go.Proofs.YtipanehdmhachaaGreatDoor.H.laid7 ((World.laidAll Tryz.prog os Go.Proofs.YtipanehdmhachaaGreatDoor.H.laid7).forCall (fun _ _ => 0) ⟨#[], args, []⟩).memory :=
  Go.Proofs.YtipanehdmhachaaGreatDoor.H.all_met os args

set_option maxRecDepth 100000 in
theorem lifted (os : Os) (started : os.Started) (H : Type) (enc : TypeId × Value → H) :
    ReturnsInHanded {} Tryz.checked os 3 .any (fun w args => (Rows.topPositionSpec.pre enc Tryz.prog Tryz.f3 [] false w args ∧ laidMetH Tryz.prog Go.Proofs.YtipanehdmhachaaGreatDoor.H.laid7 w) ∧ sizedMet enc Tryz.prog Tryz.f3 (OpenSpec.ofChange Rows.topPositionSpec) false w args)
      (Rows.topPositionSpec.post enc Tryz.prog Tryz.f3 false true false false) := by
  refine returnsInHanded_of_change_and (C := Tryz.checked) (X := fun w _ => laidMetH Tryz.prog Go.Proofs.YtipanehdmhachaaGreatDoor.H.laid7 w) (fun _ _ _ hh h => h.of_heap hh) own started (by kernel_rfl) Tryz.func3
    (ChangeSpec.witness_shaped (enc := enc) (C := Tryz.checked) (os := os) (X := fun w _ => laidMetH Tryz.prog Go.Proofs.YtipanehdmhachaaGreatDoor.H.laid7 w) false (World.laidAll Tryz.prog os Go.Proofs.YtipanehdmhachaaGreatDoor.H.laid7) #[.slice none 0 0] 8 (World.laidAll_os _ _ _) (World.shaped_of_ZipB (by kernel_rfl) (by kernel_rfl)) (by kernel_rfl) (by kernel_rfl) (by kernel_rfl) (door_met os _)) ?_
  intro W base args ds gs before hval0 hW hcnd _ hLaid _
  have hval : ∀ (j : Nat) t v, Tryz.f3.params[j]? = some t → args[j]? = some v → Value.okWide Tryz.prog W .any base t v := hval0
  have hW' := hW
  obtain ⟨p, q, hA0, hV, rfl, hfz, hnd⟩ := hW
  have hA : DataW.TrodAll enc Tryz.prog W 0 (fun _ => true) true Tryz.f3.params.toList args.toList ds p := hA0
  rw [Tryz.params3] at hA hval
  obtain ⟨v0, vs0, d0, ds0, p0, q0, hargs, rfl, rfl, h0, r0⟩ := trodAll_cons hA
  obtain ⟨rfl, rfl, rfl⟩ := trodAll_nil r0
  obtain rfl : args = #[v0] := by cases args; simp_all
  obtain ⟨rfl, rfl⟩ := trodVars_none hV
  have lt0 : ∀ x ∈ p0, x.block < W.heap.size := by obtain ⟨m, hm⟩ := h0; exact DataW.trod_lt m _ _ _ hm
  obtain ⟨z0, k0, g0⟩ := Go.Proofs.YtipanehdmhachaaGreatDoor.H.R_argL (t := 22) (e := 3) (n := 8) (by kernel_rfl) (by kernel_rfl) (hval 0 22 v0 rfl rfl) h0 (β := Go.Proofs.YtipanehdmhachaaGreatDoor.H.loc0)
  obtain ⟨x0, rfl, b0⟩ := Go.Proofs.YtipanehdmhachaaGreatDoor.H.dec_ints k0
  have hwalk := Go.Proofs.YtipanehdmhachaaGreatDoor.H.law_ok (w := W) (us := [v0]) (Go.Proofs.YtipanehdmhachaaGreatDoor.H.top_law x0) (by simp only [Go.Proofs.YtipanehdmhachaaGreatDoor.H.RL]; exact ⟨v0, [], rfl, g0, rfl⟩) (Go.Proofs.YtipanehdmhachaaGreatDoor.H.gl_of7 hLaid)
  clear hA0 hval0
  refine hwalk.mono fun e W' ⟨he, bel⟩ => ?_
  subst he
  exact ⟨_, rfl, _, _, _, [], _, [], hW', trodAll_mk1 (shut_bool (t := 4) (by kernel_rfl) _), (trodAll_cons_mk (Below.trod laidOut (by kernel_rfl) (of_decide_eq_true (by kernel_rfl)) h0 bel lt0) trodAll_mk0), rfl, bel.frame _, fun h => by cases h⟩

theorem over : Rows.topPositionRow.holds Tryz.pinned (OpenSpec.ofChange Rows.topPositionSpec) :=
  OpenClaim.holds_of_wide 3 Tryz.f3 rfl rfl rfl rfl rfl rfl rfl ⟨rfl, rfl, rfl, rfl, rfl⟩ rfl rfl rfl rfl rfl (by kernel_rfl) Tryz.func3 (by kernel_rfl)
    (of_decide_eq_true (by kernel_rfl)) (by unfold Func.isWrapper; first | (rw [if_pos (by decide +kernel)]; kernel_rfl) | (rw [if_neg (by decide +kernel)]; exact ⟨rfl, rfl⟩))
    (fun os started H enc _ => lifted os started H enc)

/-- THE STATEMENT: the tied card. -/
theorem proved : Rows.TopPositionCardSaid :=
  Claim7.holds_tied_plain_at .later [] [.data, .data, .data, .data, .sentinel, .sentinel, .pinned] true (true, "720cf3a134f5dfe0a663593bdde865152838df3b0d43bc9f2067dac4c7b8ea90") true
    over (fun _ h => by cases h) (by kernel_rfl) (fun _ h => by cases h) topPosition_row_tie rfl ⟨rfl, rfl⟩ (by kernel_rfl) rfl
    (fun f fn hf hfn => by
      obtain rfl : f = 3 := Option.some.inj ((show Tryz.prog.funcNamed "dynpos/dynpostop.TopPosition" = some 3 by kernel_rfl).symm.trans hf) |>.symm
      obtain rfl : fn = Tryz.f3 := (Option.some.inj (Tryz.func3.symm.trans hfn)).symm
      exact ⟨by kernel_rfl, fun j t ht => by
        rw [Tryz.params3] at ht
        have hm : t ∈ [22] := by simpa using Array.mem_of_getElem? ht
        have hall : ([22].all fun u => !Tryz.prog.wantsStandIn u) = true := by kernel_rfl
        exact (show Tryz.prog.wantsStandIn t = false by simpa using List.all_eq_true.1 hall t hm)⟩)
    (by kernel_rfl)
#print axioms proved
end Go.Proofs.YtipanehdmhachaaGreatDoor.topPosition
