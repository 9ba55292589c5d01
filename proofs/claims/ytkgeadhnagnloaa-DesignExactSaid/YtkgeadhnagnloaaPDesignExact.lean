/-
  'DesignExact' holds: for every input the law returns true, and each argument reads behind the call as it read before. Conditions: none of ours.
-/
import Derived.Test.YtkgeadhnagnloaaRows
import Derived.Test.YtkgeadhnagnloaaHgE
import Derived.Test.YtkgeadhnagnloaaKaC
import Derived.WalkKit
import Derived.ProofKit
import Derived.OpenShut
import Derived.ShutString
import Derived.ChangeOld
import Derived.Below
namespace Go.Proofs.Ytkgeadhnagnloaa.designExact
open Go.ChangeShapes Go.WideShapes Go.ChangeAt Go.RowKit
open Go.ChangeMaps (open_string shut_string)
set_option linter.unusedVariables false

theorem own : ownKnob Try.prog.godebug = none := by kernel_rfl
theorem laidOut : laidOutB Try.prog = true := by kernel_rfl

set_option maxRecDepth 100000 in
theorem lifted (os : Os) (started : os.Started) (H : Type) (enc : TypeId × Value → H) :
    ReturnsInHanded {} Try.checked os 3 .any (Rows.designExactSpec.pre6 enc Try.prog Try.f3 Rows.designExactRow.domain false) (Rows.designExactSpec.post enc Try.prog Try.f3 false true false false) := by
  refine returnsInHanded_of_change (C := Try.checked) own started (by kernel_rfl) Try.func3
    (ChangeSpec.witness6 (enc := enc) (C := Try.checked) false ⟨#[], #[.slice none 0 0, .agg #[.slice none 0 0, .slice none 0 0, .slice none 0 0], .slice none 0 0, .agg #[.int .i64 0, .int .i64 0], .agg #[.int .i64 0, .int .i64 0], .int .i64 0, .int .i64 0], []⟩ 8 (by kernel_rfl) (by kernel_rfl) (by kernel_rfl) (by kernel_rfl)) ?_
  intro W base args ds gs before hval0 hW hcnd _
  have hval : ∀ (j : Nat) t v, Try.f3.params[j]? = some t → args[j]? = some v → Value.okWide Try.prog W .any base t v := hval0
  have hW' := hW
  obtain ⟨p, q, hA0, hV, rfl, hfz, hnd⟩ := hW
  have hA : DataW.TrodAll enc Try.prog W 0 (fun _ => true) true Try.f3.params.toList args.toList ds p := hA0
  rw [Try.params3] at hA hval
  obtain ⟨v0, vs0, d0, ds0, p0, q0, hargs, rfl, rfl, h0, r0⟩ := trodAll_cons hA
  obtain ⟨v1, vs1, d1, ds1, p1, q1, rfl, rfl, rfl, h1, r1⟩ := trodAll_cons r0
  obtain ⟨v2, vs2, d2, ds2, p2, q2, rfl, rfl, rfl, h2, r2⟩ := trodAll_cons r1
  obtain ⟨v3, vs3, d3, ds3, p3, q3, rfl, rfl, rfl, h3, r3⟩ := trodAll_cons r2
  obtain ⟨v4, vs4, d4, ds4, p4, q4, rfl, rfl, rfl, h4, r4⟩ := trodAll_cons r3
  obtain ⟨v5, vs5, d5, ds5, p5, q5, rfl, rfl, rfl, h5, r5⟩ := trodAll_cons r4
  obtain ⟨v6, vs6, d6, ds6, p6, q6, rfl, rfl, rfl, h6, r6⟩ := trodAll_cons r5
  obtain ⟨rfl, rfl, rfl⟩ := trodAll_nil r6
  obtain rfl : args = #[v0, v1, v2, v3, v4, v5, v6] := by cases args; simp_all
  obtain ⟨rfl, rfl⟩ := trodVars_none hV
  have lt0 : ∀ x ∈ p0, x.block < W.heap.size := by obtain ⟨m, hm⟩ := h0; exact DataW.trod_lt m _ _ _ hm
  have lt1 : ∀ x ∈ p1, x.block < W.heap.size := by obtain ⟨m, hm⟩ := h1; exact DataW.trod_lt m _ _ _ hm
  have lt2 : ∀ x ∈ p2, x.block < W.heap.size := by obtain ⟨m, hm⟩ := h2; exact DataW.trod_lt m _ _ _ hm
  have lt3 : ∀ x ∈ p3, x.block < W.heap.size := by obtain ⟨m, hm⟩ := h3; exact DataW.trod_lt m _ _ _ hm
  have lt4 : ∀ x ∈ p4, x.block < W.heap.size := by obtain ⟨m, hm⟩ := h4; exact DataW.trod_lt m _ _ _ hm
  have lt5 : ∀ x ∈ p5, x.block < W.heap.size := by obtain ⟨m, hm⟩ := h5; exact DataW.trod_lt m _ _ _ hm
  have lt6 : ∀ x ∈ p6, x.block < W.heap.size := by obtain ⟨m, hm⟩ := h6; exact DataW.trod_lt m _ _ _ hm
  obtain ⟨z0, k0, g0⟩ := Go.Proofs.Ytkgeadhnagnloaa.H.R_argL (t := 22) (e := 3) (n := 8) (by kernel_rfl) (by kernel_rfl) (hval 0 22 v0 rfl rfl) h0 (β := Go.Proofs.Ytkgeadhnagnloaa.H.loc0)
  obtain ⟨x0, rfl, b0⟩ := Go.Proofs.Ytkgeadhnagnloaa.H.dec_ints k0
  obtain ⟨z1, k1, g1⟩ := Go.Proofs.Ytkgeadhnagnloaa.H.R_argS (fs := match Try.prog.underlying 27 with | some (.struct fs) => fs | _ => #[]) (t := 27) (n := 8) (by kernel_rfl) (by kernel_rfl) (hval 1 27 v1 rfl rfl) h1 (β := Go.Proofs.Ytkgeadhnagnloaa.H.loc0)
  obtain ⟨x1, rfl, b1⟩ := Go.Proofs.Ytkgeadhnagnloaa.H.dec_ds k1
  obtain ⟨z2, k2, g2⟩ := Go.Proofs.Ytkgeadhnagnloaa.H.R_argL (t := 23) (e := 29) (n := 8) (by kernel_rfl) (by kernel_rfl) (hval 2 23 v2 rfl rfl) h2 (β := Go.Proofs.Ytkgeadhnagnloaa.H.loc0)
  obtain ⟨x2, rfl, b2⟩ := Go.Proofs.Ytkgeadhnagnloaa.H.dec_pts k2
  obtain ⟨z3, k3, g3⟩ := Go.Proofs.Ytkgeadhnagnloaa.H.R_argS (fs := match Try.prog.underlying 29 with | some (.struct fs) => fs | _ => #[]) (t := 29) (n := 8) (by kernel_rfl) (by kernel_rfl) (hval 3 29 v3 rfl rfl) h3 (β := Go.Proofs.Ytkgeadhnagnloaa.H.loc0)
  obtain ⟨x3, rfl, b3⟩ := Go.Proofs.Ytkgeadhnagnloaa.H.dec_pt k3
  obtain ⟨z4, k4, g4⟩ := Go.Proofs.Ytkgeadhnagnloaa.H.R_argS (fs := match Try.prog.underlying 29 with | some (.struct fs) => fs | _ => #[]) (t := 29) (n := 8) (by kernel_rfl) (by kernel_rfl) (hval 4 29 v4 rfl rfl) h4 (β := Go.Proofs.Ytkgeadhnagnloaa.H.loc0)
  obtain ⟨x4, rfl, b4⟩ := Go.Proofs.Ytkgeadhnagnloaa.H.dec_pt k4
  obtain ⟨x5, k5, g5⟩ := Go.Proofs.Ytkgeadhnagnloaa.H.R_argI (t := 3) (k := .i64) (by kernel_rfl) (hval 5 3 v5 rfl rfl) h5 (β := Go.Proofs.Ytkgeadhnagnloaa.H.loc0)
  obtain ⟨x6, k6, g6⟩ := Go.Proofs.Ytkgeadhnagnloaa.H.R_argI (t := 3) (k := .i64) (by kernel_rfl) (hval 6 3 v6 rfl rfl) h6 (β := Go.Proofs.Ytkgeadhnagnloaa.H.loc0)
  have hwalk := Go.Proofs.Ytkgeadhnagnloaa.H.law_ok (w := W) (us := [v0, v1, v2, v3, v4, v5, v6]) (Go.Proofs.Ytkgeadhnagnloaa.H.law3_ok x0 x1.1 x1.2.1 x1.2.2 x2 x3 x4 x5 x6) (by simp only [Go.Proofs.Ytkgeadhnagnloaa.H.RL]; exact ⟨v0, [v1, v2, v3, v4, v5, v6], rfl, g0, ⟨v1, [v2, v3, v4, v5, v6], rfl, g1, ⟨v2, [v3, v4, v5, v6], rfl, g2, ⟨v3, [v4, v5, v6], rfl, g3, ⟨v4, [v5, v6], rfl, g4, ⟨v5, [v6], rfl, g5, ⟨v6, [], rfl, g6, rfl⟩⟩⟩⟩⟩⟩⟩)
  clear hA0 hval0
  refine hwalk.mono fun e W' ⟨he, bel⟩ => ?_
  subst he
  exact ⟨_, rfl, _, _, _, [], _, [], hW', trodAll_mk1 (shut_bool (t := 4) (by kernel_rfl) _), (trodAll_cons_mk (Below.trod laidOut (by kernel_rfl) (of_decide_eq_true (by kernel_rfl)) h0 bel lt0) (trodAll_cons_mk (Below.trod laidOut (by kernel_rfl) (of_decide_eq_true (by kernel_rfl)) h1 bel lt1) (trodAll_cons_mk (Below.trod laidOut (by kernel_rfl) (of_decide_eq_true (by kernel_rfl)) h2 bel lt2) (trodAll_cons_mk (Below.trod laidOut (by kernel_rfl) (of_decide_eq_true (by kernel_rfl)) h3 bel lt3) (trodAll_cons_mk (Below.trod laidOut (by kernel_rfl) (of_decide_eq_true (by kernel_rfl)) h4 bel lt4) (trodAll_cons_mk (Below.trod laidOut (by kernel_rfl) (of_decide_eq_true (by kernel_rfl)) h5 bel lt5) (trodAll_cons_mk (Below.trod laidOut (by kernel_rfl) (of_decide_eq_true (by kernel_rfl)) h6 bel lt6) trodAll_mk0))))))), rfl, bel.frame _, fun h => by cases h⟩

theorem over : Rows.designExactRow.holds Try.pinned (OpenSpec.ofChange Rows.designExactSpec) :=
  OpenClaim.holds_of_wide 3 Try.f3 rfl rfl rfl rfl rfl rfl rfl ⟨rfl, rfl, rfl, rfl, rfl⟩ rfl rfl rfl rfl rfl (by kernel_rfl) Try.func3 (by kernel_rfl)
    (of_decide_eq_true (by kernel_rfl)) (by unfold Func.isWrapper; first | (rw [if_pos (by decide +kernel)]; kernel_rfl) | (rw [if_neg (by decide +kernel)]; exact ⟨rfl, rfl⟩))
    (fun os started H enc _ => lifted os started H enc)

/-- THE STATEMENT -/
theorem proved : Rows.DesignExactSaid := over
#print axioms proved
end Go.Proofs.Ytkgeadhnagnloaa.designExact
