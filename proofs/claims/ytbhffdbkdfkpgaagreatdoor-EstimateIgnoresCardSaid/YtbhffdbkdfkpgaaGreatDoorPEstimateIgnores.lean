/-
  'EstimateIgnores' holds: for every input the law returns true, and each argument reads behind the call as it read before; the two listed package variables hold what the program's text lays in them (the card ties them). Conditions: none of ours.
-/
import Derived.Test.YtbhffdbkdfkpgaaGreatDoorRows
import Derived.Test.YtbhffdbkdfkpgaaGreatDoorCards
import Derived.Test.YtbhffdbkdfkpgaaGreatDoorTie
import Derived.Test.YtbhffdbkdfkpgaaGreatDoorHqI
import Derived.Test.YtbhffdbkdfkpgaaGreatDoorHvX
import Derived.Test.YtbhffdbkdfkpgaaGreatDoorKaC
import Derived.WalkKit
import Derived.ProofKit
import Derived.OpenShut
import Derived.ShutString
import Derived.ChangeOld
import Derived.LaidMore
import Derived.Stop.Joined
import Derived.SevenTiedAt
import Derived.Below
namespace Go.Proofs.YtbhffdbkdfkpgaaGreatDoor.estimateIgnores
open Go.ChangeShapes Go.WideShapes Go.ChangeAt Go.RowKit
open Go.ChangeMaps (open_string shut_string)
set_option linter.unusedVariables false

theorem own : ownKnob Tryz.prog.godebug = none := by kernel_rfl
theorem laidOut : laidOutB Tryz.prog = true := by kernel_rfl
theorem door_met (os : Os) (args : Array Value) : laidMetH Tryz.prog Go.Proofs.YtbhffdbkdfkpgaaGreatDoor.H.laid2 ((World.doorLaid Tryz.prog 4000 os).forCall (fun _ _ => 0) ⟨#[], args, []⟩).memory :=
  laidMetH_of_parts3 (fuel := 8) (laidMet_of_run' 8 (by kernel_rfl) (by kernel_rfl)) (by kernel_rfl) (by kernel_rfl)

set_option maxRecDepth 100000 in
theorem lifted (os : Os) (started : os.Started) (H : Type) (enc : TypeId × Value → H) :
    ReturnsInHanded {} Tryz.checked os 3 .any (fun w args => (Rows.estimateIgnoresSpec.pre enc Tryz.prog Tryz.f3 [] false w args ∧ laidMetH Tryz.prog Go.Proofs.YtbhffdbkdfkpgaaGreatDoor.H.laid2 w) ∧ sizedMet enc Tryz.prog Tryz.f3 (OpenSpec.ofChange Rows.estimateIgnoresSpec) false w args)
      (Rows.estimateIgnoresSpec.post enc Tryz.prog Tryz.f3 false true false false) := by
  refine returnsInHanded_of_change_and (C := Tryz.checked) (X := fun w _ => laidMetH Tryz.prog Go.Proofs.YtbhffdbkdfkpgaaGreatDoor.H.laid2 w) (fun _ _ _ hh h => h.of_heap hh) own started (by kernel_rfl) Tryz.func3
    (ChangeSpec.witness_shaped (enc := enc) (C := Tryz.checked) (os := os) (X := fun w _ => laidMetH Tryz.prog Go.Proofs.YtbhffdbkdfkpgaaGreatDoor.H.laid2 w) false (World.doorLaid Tryz.prog 4000 os) #[.slice none 0 0, .slice none 0 0] 8 rfl (World.shaped_of_RefB (by kernel_rfl) (by kernel_rfl)) (by kernel_rfl) (by kernel_rfl) (by kernel_rfl) (door_met os _)) ?_
  intro W base args ds gs before hval0 hW hcnd _ hLaid _
  have hval : ∀ (j : Nat) t v, Tryz.f3.params[j]? = some t → args[j]? = some v → Value.okWide Tryz.prog W .any base t v := hval0
  have hW' := hW
  obtain ⟨p, q, hA0, hV, rfl, hfz, hnd⟩ := hW
  have hA : DataW.TrodAll enc Tryz.prog W 0 (fun _ => true) true Tryz.f3.params.toList args.toList ds p := hA0
  rw [Tryz.params3] at hA hval
  obtain ⟨v0, vs0, d0, ds0, p0, q0, hargs, rfl, rfl, h0, r0⟩ := trodAll_cons hA
  obtain ⟨v1, vs1, d1, ds1, p1, q1, rfl, rfl, rfl, h1, r1⟩ := trodAll_cons r0
  obtain ⟨rfl, rfl, rfl⟩ := trodAll_nil r1
  obtain rfl : args = #[v0, v1] := by cases args; simp_all
  obtain ⟨rfl, rfl⟩ := trodVars_none hV
  have lt0 : ∀ x ∈ p0, x.block < W.heap.size := by obtain ⟨m, hm⟩ := h0; exact DataW.trod_lt m _ _ _ hm
  have lt1 : ∀ x ∈ p1, x.block < W.heap.size := by obtain ⟨m, hm⟩ := h1; exact DataW.trod_lt m _ _ _ hm
  obtain ⟨z0, k0, g0⟩ := Go.Proofs.YtbhffdbkdfkpgaaGreatDoor.H.R_argL (t := 22) (e := 3) (n := 8) (by kernel_rfl) (by kernel_rfl) (hval 0 22 v0 rfl rfl) h0 (β := Go.Proofs.YtbhffdbkdfkpgaaGreatDoor.H.loc0)
  obtain ⟨x0, rfl, b0⟩ := Go.Proofs.YtbhffdbkdfkpgaaGreatDoor.H.dec_ints k0
  obtain ⟨z1, k1, g1⟩ := Go.Proofs.YtbhffdbkdfkpgaaGreatDoor.H.R_argL (t := 23) (e := 41) (n := 8) (by kernel_rfl) (by kernel_rfl) (hval 1 23 v1 rfl rfl) h1 (β := Go.Proofs.YtbhffdbkdfkpgaaGreatDoor.H.loc0)
  obtain ⟨x1, rfl, b1⟩ := Go.Proofs.YtbhffdbkdfkpgaaGreatDoor.H.dec_sgs k1
  have hwalk := Go.Proofs.YtbhffdbkdfkpgaaGreatDoor.H.law_ok (w := W) (us := [v0, v1]) (Go.Proofs.YtbhffdbkdfkpgaaGreatDoor.H.ign_walk x0 x1) (by simp only [Go.Proofs.YtbhffdbkdfkpgaaGreatDoor.H.RL]; exact ⟨v0, [v1], rfl, g0, ⟨v1, [], rfl, g1, rfl⟩⟩) (Go.Proofs.YtbhffdbkdfkpgaaGreatDoor.H.gl_of hLaid)
  clear hA0 hval0
  refine hwalk.mono fun e W' ⟨he, bel⟩ => ?_
  subst he
  exact ⟨_, rfl, _, _, _, [], _, [], hW', trodAll_mk1 (shut_bool (t := 4) (by kernel_rfl) _), (trodAll_cons_mk (Below.trod laidOut (by kernel_rfl) (of_decide_eq_true (by kernel_rfl)) h0 bel lt0) (trodAll_cons_mk (Below.trod laidOut (by kernel_rfl) (of_decide_eq_true (by kernel_rfl)) h1 bel lt1) trodAll_mk0)), rfl, bel.frame _, fun h => by cases h⟩

theorem over : Rows.estimateIgnoresRow.holds Tryz.pinned (OpenSpec.ofChange Rows.estimateIgnoresSpec) :=
  OpenClaim.holds_of_wide 3 Tryz.f3 rfl rfl rfl rfl rfl rfl rfl ⟨rfl, rfl, rfl, rfl, rfl⟩ rfl rfl rfl rfl rfl (by kernel_rfl) Tryz.func3 (by kernel_rfl)
    (of_decide_eq_true (by kernel_rfl)) (by unfold Func.isWrapper; first | (rw [if_pos (by decide +kernel)]; kernel_rfl) | (rw [if_neg (by decide +kernel)]; exact ⟨rfl, rfl⟩))
    (fun os started H enc _ => lifted os started H enc)

/-- THE STATEMENT: the tied card. -/
theorem proved : Rows.EstimateIgnoresCardSaid :=
  Claim7.holds_tied_plain_at .later [] [.data, .data] true (true, "13119501477c266a87419ff737df688c1d7fb6d1875610847c379f29d5b6f4c3") false
    over (fun _ h => by cases h) (by kernel_rfl) (fun _ h => by cases h) estimateIgnores_row_tie rfl ⟨rfl, rfl⟩ (by kernel_rfl) rfl
    (fun f fn hf hfn => by
      obtain rfl : f = 3 := Option.some.inj ((show Tryz.prog.funcNamed "dynpos/dynposlaw10.EstimateIgnores" = some 3 by kernel_rfl).symm.trans hf) |>.symm
      obtain rfl : fn = Tryz.f3 := (Option.some.inj (Tryz.func3.symm.trans hfn)).symm
      exact ⟨by kernel_rfl, fun j t ht => by
        rw [Tryz.params3] at ht
        have hm : t ∈ [22, 23] := by simpa using Array.mem_of_getElem? ht
        have hall : ([22, 23].all fun u => !Tryz.prog.wantsStandIn u) = true := by kernel_rfl
        exact (show Tryz.prog.wantsStandIn t = false by simpa using List.all_eq_true.1 hall t hm)⟩)
    (by kernel_rfl)
#print axioms proved
end Go.Proofs.YtbhffdbkdfkpgaaGreatDoor.estimateIgnores
