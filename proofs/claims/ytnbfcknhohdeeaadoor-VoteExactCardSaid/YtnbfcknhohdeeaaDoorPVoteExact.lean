/-
  'VoteExact' holds: for every input the law returns true, and each argument reads behind the call as it read before; the two listed package variables hold what the program's text lays in them (the card ties them). Conditions: none of ours.
-/
import Derived.Test.YtnbfcknhohdeeaaDoorRows
import Derived.Test.YtnbfcknhohdeeaaDoorCards
import Derived.Test.YtnbfcknhohdeeaaDoorTie
import Derived.Test.YtnbfcknhohdeeaaDoorHvZ
import Derived.Test.YtnbfcknhohdeeaaDoorHvX
import Derived.Test.YtnbfcknhohdeeaaDoorKaC
import Derived.WalkKit
import Derived.ProofKit
import Derived.OpenShut
import Derived.ShutString
import Derived.ChangeOld
import Derived.LaidMore
import Derived.Stop.Joined
import Derived.SevenTiedAt
import Derived.Below
namespace Go.Proofs.YtnbfcknhohdeeaaDoor.voteExact
open Go.ChangeShapes Go.WideShapes Go.ChangeAt Go.RowKit
open Go.ChangeMaps (open_string shut_string)
set_option linter.unusedVariables false

theorem own : ownKnob Tryd.prog.godebug = none := by kernel_rfl
theorem laidOut : laidOutB Tryd.prog = true := by kernel_rfl
theorem door_met (os : Os) (args : Array Value) : laidMetH Tryd.prog Go.Proofs.YtnbfcknhohdeeaaDoor.H.laid2 ((World.doorLaid Tryd.prog 4000 os).forCall (fun _ _ => 0) ⟨#[], args, []⟩).memory :=
  laidMetH_of_parts3 (fuel := 8) (laidMet_of_run' 8 (by kernel_rfl) (by kernel_rfl)) (by kernel_rfl) (by kernel_rfl)

set_option maxRecDepth 100000 in
theorem lifted (os : Os) (started : os.Started) (H : Type) (enc : TypeId × Value → H) :
    ReturnsInHanded {} Tryd.checked os 6 .any (fun w args => (Rows.voteExactSpec.pre enc Tryd.prog Tryd.f6 [] false w args ∧ laidMetH Tryd.prog Go.Proofs.YtnbfcknhohdeeaaDoor.H.laid2 w) ∧ sizedMet enc Tryd.prog Tryd.f6 (OpenSpec.ofChange Rows.voteExactSpec) false w args)
      (Rows.voteExactSpec.post enc Tryd.prog Tryd.f6 false true false false) := by
  refine returnsInHanded_of_change_and (C := Tryd.checked) (X := fun w _ => laidMetH Tryd.prog Go.Proofs.YtnbfcknhohdeeaaDoor.H.laid2 w) (fun _ _ _ hh h => h.of_heap hh) own started (by kernel_rfl) Tryd.func6
    (ChangeSpec.witness_shaped (enc := enc) (C := Tryd.checked) (os := os) (X := fun w _ => laidMetH Tryd.prog Go.Proofs.YtnbfcknhohdeeaaDoor.H.laid2 w) false (World.doorLaid Tryd.prog 4000 os) #[.slice none 0 0, .slice none 0 0, .slice none 0 0, .slice none 0 0, .agg #[.slice none 0 0, .slice none 0 0, .bool false], .agg #[.int .i64 0, .int .i64 0, .int .i64 0, .int .i64 0]] 8 rfl (World.shaped_of_RefB (by kernel_rfl) (by kernel_rfl)) (by kernel_rfl) (by kernel_rfl) (by kernel_rfl) (door_met os _)) ?_
  intro W base args ds gs before hval0 hW hcnd _ hLaid _
  have hval : ∀ (j : Nat) t v, Tryd.f6.params[j]? = some t → args[j]? = some v → Value.okWide Tryd.prog W .any base t v := hval0
  have hW' := hW
  obtain ⟨p, q, hA0, hV, rfl, hfz, hnd⟩ := hW
  have hA : DataW.TrodAll enc Tryd.prog W 0 (fun _ => true) true Tryd.f6.params.toList args.toList ds p := hA0
  rw [Tryd.params6] at hA hval
  obtain ⟨v0, vs0, d0, ds0, p0, q0, hargs, rfl, rfl, h0, r0⟩ := trodAll_cons hA
  obtain ⟨v1, vs1, d1, ds1, p1, q1, rfl, rfl, rfl, h1, r1⟩ := trodAll_cons r0
  obtain ⟨v2, vs2, d2, ds2, p2, q2, rfl, rfl, rfl, h2, r2⟩ := trodAll_cons r1
  obtain ⟨v3, vs3, d3, ds3, p3, q3, rfl, rfl, rfl, h3, r3⟩ := trodAll_cons r2
  obtain ⟨v4, vs4, d4, ds4, p4, q4, rfl, rfl, rfl, h4, r4⟩ := trodAll_cons r3
  obtain ⟨v5, vs5, d5, ds5, p5, q5, rfl, rfl, rfl, h5, r5⟩ := trodAll_cons r4
  obtain ⟨rfl, rfl, rfl⟩ := trodAll_nil r5
  obtain rfl : args = #[v0, v1, v2, v3, v4, v5] := by cases args; simp_all
  obtain ⟨rfl, rfl⟩ := trodVars_none hV
  have lt0 : ∀ x ∈ p0, x.block < W.heap.size := by obtain ⟨m, hm⟩ := h0; exact DataW.trod_lt m _ _ _ hm
  have lt1 : ∀ x ∈ p1, x.block < W.heap.size := by obtain ⟨m, hm⟩ := h1; exact DataW.trod_lt m _ _ _ hm
  have lt2 : ∀ x ∈ p2, x.block < W.heap.size := by obtain ⟨m, hm⟩ := h2; exact DataW.trod_lt m _ _ _ hm
  have lt3 : ∀ x ∈ p3, x.block < W.heap.size := by obtain ⟨m, hm⟩ := h3; exact DataW.trod_lt m _ _ _ hm
  have lt4 : ∀ x ∈ p4, x.block < W.heap.size := by obtain ⟨m, hm⟩ := h4; exact DataW.trod_lt m _ _ _ hm
  have lt5 : ∀ x ∈ p5, x.block < W.heap.size := by obtain ⟨m, hm⟩ := h5; exact DataW.trod_lt m _ _ _ hm
  obtain ⟨z0, k0, g0⟩ := Go.Proofs.YtnbfcknhohdeeaaDoor.H.R_argL (t := 22) (e := 3) (n := 8) (by kernel_rfl) (by kernel_rfl) (hval 0 22 v0 rfl rfl) h0 (β := Go.Proofs.YtnbfcknhohdeeaaDoor.H.loc0)
  obtain ⟨x0, rfl, b0⟩ := Go.Proofs.YtnbfcknhohdeeaaDoor.H.dec_ints k0
  obtain ⟨z1, k1, g1⟩ := Go.Proofs.YtnbfcknhohdeeaaDoor.H.R_argL (t := 22) (e := 3) (n := 8) (by kernel_rfl) (by kernel_rfl) (hval 1 22 v1 rfl rfl) h1 (β := Go.Proofs.YtnbfcknhohdeeaaDoor.H.loc0)
  obtain ⟨x1, rfl, b1⟩ := Go.Proofs.YtnbfcknhohdeeaaDoor.H.dec_ints k1
  obtain ⟨z2, k2, g2⟩ := Go.Proofs.YtnbfcknhohdeeaaDoor.H.R_argL (t := 30) (e := 26) (n := 8) (by kernel_rfl) (by kernel_rfl) (hval 2 30 v2 rfl rfl) h2 (β := Go.Proofs.YtnbfcknhohdeeaaDoor.H.loc0)
  obtain ⟨x2, rfl, b2⟩ := Go.Proofs.YtnbfcknhohdeeaaDoor.H.dec_fxs k2
  obtain ⟨z3, k3, g3⟩ := Go.Proofs.YtnbfcknhohdeeaaDoor.H.R_argL (t := 22) (e := 3) (n := 8) (by kernel_rfl) (by kernel_rfl) (hval 3 22 v3 rfl rfl) h3 (β := Go.Proofs.YtnbfcknhohdeeaaDoor.H.loc0)
  obtain ⟨x3, rfl, b3⟩ := Go.Proofs.YtnbfcknhohdeeaaDoor.H.dec_ints k3
  obtain ⟨z4, k4, g4⟩ := Go.Proofs.YtnbfcknhohdeeaaDoor.H.R_argS (fs := match Tryd.prog.underlying 41 with | some (.struct fs) => fs | _ => #[]) (t := 41) (n := 8) (by kernel_rfl) (by kernel_rfl) (hval 4 41 v4 rfl rfl) h4 (β := Go.Proofs.YtnbfcknhohdeeaaDoor.H.loc0)
  obtain ⟨x4, rfl, b4⟩ := Go.Proofs.YtnbfcknhohdeeaaDoor.H.dec_vt k4
  obtain ⟨z5, k5, g5⟩ := Go.Proofs.YtnbfcknhohdeeaaDoor.H.R_argS (fs := match Tryd.prog.underlying 26 with | some (.struct fs) => fs | _ => #[]) (t := 26) (n := 8) (by kernel_rfl) (by kernel_rfl) (hval 5 26 v5 rfl rfl) h5 (β := Go.Proofs.YtnbfcknhohdeeaaDoor.H.loc0)
  obtain ⟨x5, rfl, b5⟩ := Go.Proofs.YtnbfcknhohdeeaaDoor.H.dec_fx k5
  have hwalk := Go.Proofs.YtnbfcknhohdeeaaDoor.H.law_ok (w := W) (us := [v0, v1, v2, v3, v4, v5]) (Go.Proofs.YtnbfcknhohdeeaaDoor.H.law6_ok x0 x1 x2 x3 x4 x5 b1 b2 b3 b4.1 b4.2) (by simp only [Go.Proofs.YtnbfcknhohdeeaaDoor.H.RL]; exact ⟨v0, [v1, v2, v3, v4, v5], rfl, g0, ⟨v1, [v2, v3, v4, v5], rfl, g1, ⟨v2, [v3, v4, v5], rfl, g2, ⟨v3, [v4, v5], rfl, g3, ⟨v4, [v5], rfl, g4, ⟨v5, [], rfl, g5, rfl⟩⟩⟩⟩⟩⟩) (Go.Proofs.YtnbfcknhohdeeaaDoor.H.gl_of hLaid)
  clear hA0 hval0
  refine hwalk.mono fun e W' ⟨he, bel⟩ => ?_
  subst he
  exact ⟨_, rfl, _, _, _, [], _, [], hW', trodAll_mk1 (shut_bool (t := 4) (by kernel_rfl) _), (trodAll_cons_mk (Below.trod laidOut (by kernel_rfl) (of_decide_eq_true (by kernel_rfl)) h0 bel lt0) (trodAll_cons_mk (Below.trod laidOut (by kernel_rfl) (of_decide_eq_true (by kernel_rfl)) h1 bel lt1) (trodAll_cons_mk (Below.trod laidOut (by kernel_rfl) (of_decide_eq_true (by kernel_rfl)) h2 bel lt2) (trodAll_cons_mk (Below.trod laidOut (by kernel_rfl) (of_decide_eq_true (by kernel_rfl)) h3 bel lt3) (trodAll_cons_mk (Below.trod laidOut (by kernel_rfl) (of_decide_eq_true (by kernel_rfl)) h4 bel lt4) (trodAll_cons_mk (Below.trod laidOut (by kernel_rfl) (of_decide_eq_true (by kernel_rfl)) h5 bel lt5) trodAll_mk0)))))), rfl, bel.frame _, fun h => by cases h⟩

theorem over : Rows.voteExactRow.holds Tryd.pinned (OpenSpec.ofChange Rows.voteExactSpec) :=
  OpenClaim.holds_of_wide 6 Tryd.f6 rfl rfl rfl rfl rfl rfl rfl ⟨rfl, rfl, rfl, rfl, rfl⟩ rfl rfl rfl rfl rfl (by kernel_rfl) Tryd.func6 (by kernel_rfl)
    (of_decide_eq_true (by kernel_rfl)) (by unfold Func.isWrapper; first | (rw [if_pos (by decide +kernel)]; kernel_rfl) | (rw [if_neg (by decide +kernel)]; exact ⟨rfl, rfl⟩))
    (fun os started H enc _ => lifted os started H enc)

/-- THE STATEMENT: the tied card. -/
theorem proved : Rows.VoteExactCardSaid :=
  Claim7.holds_tied_plain_at .later [] [.data, .data] true (true, "44f8d372266826c851aab70ba3230e0f906b4c556b104e8bc747df7669ee85d8") false
    over (fun _ h => by cases h) (by kernel_rfl) (fun _ h => by cases h) voteExact_row_tie rfl ⟨rfl, rfl⟩ (by kernel_rfl) rfl
    (fun f fn hf hfn => by
      obtain rfl : f = 6 := Option.some.inj ((show Tryd.prog.funcNamed "dynpos/dynposlaw08.VoteExact" = some 6 by kernel_rfl).symm.trans hf) |>.symm
      obtain rfl : fn = Tryd.f6 := (Option.some.inj (Tryd.func6.symm.trans hfn)).symm
      exact ⟨by kernel_rfl, fun j t ht => by
        rw [Tryd.params6] at ht
        have hm : t ∈ [22, 22, 30, 22, 41, 26] := by simpa using Array.mem_of_getElem? ht
        have hall : ([22, 22, 30, 22, 41, 26].all fun u => !Tryd.prog.wantsStandIn u) = true := by kernel_rfl
        exact (show Tryd.prog.wantsStandIn t = false by simpa using List.all_eq_true.1 hall t hm)⟩)
    (by kernel_rfl)
#print axioms proved
end Go.Proofs.YtnbfcknhohdeeaaDoor.voteExact
