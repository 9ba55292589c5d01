/-
  'FuseExact' holds: for every input the law returns true, and each argument reads behind the call as it read before. Conditions: none of ours.
-/
import Derived.Test.YtcedkkleclhglaaRows
import Derived.Test.YtcedkkleclhglaaHfE
import Derived.Test.YtcedkkleclhglaaHyB
import Derived.WalkKit
import Derived.ProofKit
import Derived.OpenShut
import Derived.ShutString
import Derived.ChangeOld
import Derived.Below
namespace Go.Proofs.Ytcedkkleclhglaa.fuseExact
open Go.ChangeShapes Go.WideShapes Go.ChangeAt Go.RowKit
open Go.ChangeMaps (open_string shut_string)
set_option linter.unusedVariables false

theorem own : ownKnob Try.prog.godebug = none := by kernel_rfl
theorem laidOut : laidOutB Try.prog = true := by kernel_rfl

set_option maxRecDepth 100000 in
theorem lifted (os : Os) (started : os.Started) (H : Type) (enc : TypeId × Value → H) :
    ReturnsInHanded {} Try.checked os 5 .any (Rows.fuseExactSpec.pre6 enc Try.prog Try.f5 Rows.fuseExactRow.domain false) (Rows.fuseExactSpec.post enc Try.prog Try.f5 false true false false) := by
  refine returnsInHanded_of_change (C := Try.checked) own started (by kernel_rfl) Try.func5
    (ChangeSpec.witness6 (enc := enc) (C := Try.checked) false ⟨#[], #[.slice none 0 0, .slice none 0 0, .int .i64 0, .int .i64 0, .int .i64 0], []⟩ 8 (by kernel_rfl) (by kernel_rfl) (by kernel_rfl) (by kernel_rfl)) ?_
  intro W base args ds gs before hval0 hW hcnd _
  have hval : ∀ (j : Nat) t v, Try.f5.params[j]? = some t → args[j]? = some v → Value.okWide Try.prog W .any base t v := hval0
  have hW' := hW
  obtain ⟨p, q, hA0, hV, rfl, hfz, hnd⟩ := hW
  have hA : DataW.TrodAll enc Try.prog W 0 (fun _ => true) true Try.f5.params.toList args.toList ds p := hA0
  rw [Try.params5] at hA hval
  obtain ⟨v0, vs0, d0, ds0, p0, q0, hargs, rfl, rfl, h0, r0⟩ := trodAll_cons hA
  obtain ⟨v1, vs1, d1, ds1, p1, q1, rfl, rfl, rfl, h1, r1⟩ := trodAll_cons r0
  obtain ⟨v2, vs2, d2, ds2, p2, q2, rfl, rfl, rfl, h2, r2⟩ := trodAll_cons r1
  obtain ⟨v3, vs3, d3, ds3, p3, q3, rfl, rfl, rfl, h3, r3⟩ := trodAll_cons r2
  obtain ⟨v4, vs4, d4, ds4, p4, q4, rfl, rfl, rfl, h4, r4⟩ := trodAll_cons r3
  obtain ⟨rfl, rfl, rfl⟩ := trodAll_nil r4
  obtain rfl : args = #[v0, v1, v2, v3, v4] := by cases args; simp_all
  obtain ⟨rfl, rfl⟩ := trodVars_none hV
  have lt0 : ∀ x ∈ p0, x.block < W.heap.size := by obtain ⟨m, hm⟩ := h0; exact DataW.trod_lt m _ _ _ hm
  have lt1 : ∀ x ∈ p1, x.block < W.heap.size := by obtain ⟨m, hm⟩ := h1; exact DataW.trod_lt m _ _ _ hm
  have lt2 : ∀ x ∈ p2, x.block < W.heap.size := by obtain ⟨m, hm⟩ := h2; exact DataW.trod_lt m _ _ _ hm
  have lt3 : ∀ x ∈ p3, x.block < W.heap.size := by obtain ⟨m, hm⟩ := h3; exact DataW.trod_lt m _ _ _ hm
  have lt4 : ∀ x ∈ p4, x.block < W.heap.size := by obtain ⟨m, hm⟩ := h4; exact DataW.trod_lt m _ _ _ hm
  obtain ⟨z0, k0, g0⟩ := Go.Proofs.Ytcedkkleclhglaa.H.R_argL (t := 29) (e := 3) (n := 8) (by kernel_rfl) (by kernel_rfl) (hval 0 29 v0 rfl rfl) h0 (β := Go.Proofs.Ytcedkkleclhglaa.H.loc0)
  obtain ⟨x0, rfl, b0⟩ := Go.Proofs.Ytcedkkleclhglaa.H.dec_ints k0
  obtain ⟨z1, k1, g1⟩ := Go.Proofs.Ytcedkkleclhglaa.H.R_argL (t := 32) (e := 39) (n := 8) (by kernel_rfl) (by kernel_rfl) (hval 1 32 v1 rfl rfl) h1 (β := Go.Proofs.Ytcedkkleclhglaa.H.loc0)
  obtain ⟨x1, rfl, b1⟩ := Go.Proofs.Ytcedkkleclhglaa.H.dec_fxs k1
  obtain ⟨x2, k2, g2⟩ := Go.Proofs.Ytcedkkleclhglaa.H.R_argI (t := 3) (k := .i64) (by kernel_rfl) (hval 2 3 v2 rfl rfl) h2 (β := Go.Proofs.Ytcedkkleclhglaa.H.loc0)
  obtain ⟨x3, k3, g3⟩ := Go.Proofs.Ytcedkkleclhglaa.H.R_argI (t := 3) (k := .i64) (by kernel_rfl) (hval 3 3 v3 rfl rfl) h3 (β := Go.Proofs.Ytcedkkleclhglaa.H.loc0)
  obtain ⟨x4, k4, g4⟩ := Go.Proofs.Ytcedkkleclhglaa.H.R_argI (t := 3) (k := .i64) (by kernel_rfl) (hval 4 3 v4 rfl rfl) h4 (β := Go.Proofs.Ytcedkkleclhglaa.H.loc0)
  have hwalk := Go.Proofs.Ytcedkkleclhglaa.H.law_ok (w := W) (us := [v0, v1, v2, v3, v4]) (Go.Proofs.Ytcedkkleclhglaa.H.law_walk x0 x1 b1 x2 x3 x4) (by simp only [Go.Proofs.Ytcedkkleclhglaa.H.RL]; exact ⟨v0, [v1, v2, v3, v4], rfl, g0, ⟨v1, [v2, v3, v4], rfl, g1, ⟨v2, [v3, v4], rfl, g2, ⟨v3, [v4], rfl, g3, ⟨v4, [], rfl, g4, rfl⟩⟩⟩⟩⟩)
  clear hA0 hval0
  refine hwalk.mono fun e W' ⟨he, bel⟩ => ?_
  subst he
  exact ⟨_, rfl, _, _, _, [], _, [], hW', trodAll_mk1 (shut_bool (t := 4) (by kernel_rfl) _), (trodAll_cons_mk (Below.trod laidOut (by kernel_rfl) (of_decide_eq_true (by kernel_rfl)) h0 bel lt0) (trodAll_cons_mk (Below.trod laidOut (by kernel_rfl) (of_decide_eq_true (by kernel_rfl)) h1 bel lt1) (trodAll_cons_mk (Below.trod laidOut (by kernel_rfl) (of_decide_eq_true (by kernel_rfl)) h2 bel lt2) (trodAll_cons_mk (Below.trod laidOut (by kernel_rfl) (of_decide_eq_true (by kernel_rfl)) h3 bel lt3) (trodAll_cons_mk (Below.trod laidOut (by kernel_rfl) (of_decide_eq_true (by kernel_rfl)) h4 bel lt4) trodAll_mk0))))), rfl, bel.frame _, fun h => by cases h⟩

theorem over : Rows.fuseExactRow.holds Try.pinned (OpenSpec.ofChange Rows.fuseExactSpec) :=
  OpenClaim.holds_of_wide 5 Try.f5 rfl rfl rfl rfl rfl rfl rfl ⟨rfl, rfl, rfl, rfl, rfl⟩ rfl rfl rfl rfl rfl (by kernel_rfl) Try.func5 (by kernel_rfl)
    (of_decide_eq_true (by kernel_rfl)) (by unfold Func.isWrapper; first | (rw [if_pos (by decide +kernel)]; kernel_rfl) | (rw [if_neg (by decide +kernel)]; exact ⟨rfl, rfl⟩))
    (fun os started H enc _ => lifted os started H enc)

/-- THE STATEMENT -/
theorem proved : Rows.FuseExactSaid := over
#print axioms proved
end Go.Proofs.Ytcedkkleclhglaa.fuseExact
