/-
  'WeatherExact' holds: for every input the law returns true, and each argument reads behind the call as it read before. Conditions: none of ours.
-/
import Derived.Test.YtapdjkiekjdgdaaRows
import Derived.Test.YtapdjkiekjdgdaaHwO
import Derived.Test.YtapdjkiekjdgdaaHyA
import Derived.WalkKit
import Derived.ProofKit
import Derived.OpenShut
import Derived.ShutString
import Derived.ChangeOld
import Derived.Below
namespace Go.Proofs.Ytapdjkiekjdgdaa.weatherExact
open Go.ChangeShapes Go.WideShapes Go.ChangeAt Go.RowKit
open Go.ChangeMaps (open_string shut_string)
set_option linter.unusedVariables false

theorem own : ownKnob Try.prog.godebug = none := by kernel_rfl
theorem laidOut : laidOutB Try.prog = true := by kernel_rfl

set_option maxRecDepth 100000 in
theorem lifted (os : Os) (started : os.Started) (H : Type) (enc : TypeId × Value → H) :
    ReturnsInHanded {} Try.checked os 6 .any (Rows.weatherExactSpec.pre6 enc Try.prog Try.f6 Rows.weatherExactRow.domain false) (Rows.weatherExactSpec.post enc Try.prog Try.f6 false true false false) := by
  refine returnsInHanded_of_change (C := Try.checked) own started (by kernel_rfl) Try.func6
    (ChangeSpec.witness6 (enc := enc) (C := Try.checked) false ⟨#[], #[.slice none 0 0, .agg #[.slice none 0 0, .slice none 0 0, .slice none 0 0], .agg #[.int .i64 0, .int .i64 0], .int .i64 0, .int .i64 0], []⟩ 8 (by kernel_rfl) (by kernel_rfl) (by kernel_rfl) (by kernel_rfl)) ?_
  intro W base args ds gs before hval0 hW hcnd _
  have hval : ∀ (j : Nat) t v, Try.f6.params[j]? = some t → args[j]? = some v → Value.okWide Try.prog W .any base t v := hval0
  have hW' := hW
  obtain ⟨p, q, hA0, hV, rfl, hfz, hnd⟩ := hW
  have hA : DataW.TrodAll enc Try.prog W 0 (fun _ => true) true Try.f6.params.toList args.toList ds p := hA0
  rw [Try.params6] at hA hval
  obtain ⟨v0, vs0, d0, ds0, p0, q0, hargs, rfl, rfl, h0, r0⟩ := trodAll_cons hA
  obtain ⟨v1, vs1, d1, ds1, p1, q1, rfl, rfl, rfl, h1, r1⟩ := trodAll_cons r0
  obtain ⟨v2, vs2, d2, ds2, p2, q2, rfl, rfl, rfl, h2, r2⟩ := trodAll_cons r1
  obtain ⟨v3, vs3, d3, ds3, p3, q3, rfl, rfl, rfl, h3, r3⟩ := trodAll_cons r2
  obtain ⟨v4, vs4, d4, ds4, p4, q4, rfl, rfl, rfl, h4, r4⟩ := trodAll_cons r3
  obtain ⟨rfl, rfl, rfl⟩ := trodAll_nil r4
  obtain rfl : args = #[v0, v1, v2, v3, v4] := by cases args; simp_all
  obtain ⟨rfl, rfl⟩ := trodVars_none hV
  have lt0 : ∀ x ∈ p0, x.block < W.heap.size := by obtain ⟨m, hm⟩ := h0; exact DataW.trod_lt m _ _ _ hm
  have lt1 : ∀ x ∈ p1, x.block < W.heap.size := by obtain ⟨m, hm⟩ := h1; exact DataW.trod_lt m _ _ _ hm
  have lt2 : ∀ x ∈ p2, x.block < W.heap.size := by obtain ⟨m, hm⟩ := h2; exact DataW.trod_lt m _ _ _ hm
  have lt3 : ∀ x ∈ p3, x.block < W.heap.size := by obtain ⟨m, hm⟩ := h3; exact DataW.trod_lt m _ _ _ hm
  have lt4 : ∀ x ∈ p4, x.block < W.heap.size := by obtain ⟨m, hm⟩ := h4; exact DataW.trod_lt m _ _ _ hm
  obtain ⟨x0, g0⟩ := Go.Proofs.Ytapdjkiekjdgdaa.H.R_ints (t := 22) (e := 3) (by kernel_rfl) (by kernel_rfl) (by kernel_rfl) (hval 0 22 v0 rfl rfl) h0 (β := Go.Proofs.Ytapdjkiekjdgdaa.H.loc0)
  obtain ⟨x1, y1, z1, g1⟩ := Go.Proofs.Ytapdjkiekjdgdaa.H.R_three' (e := 3) (t := 27) (by kernel_rfl) (hval 1 27 v1 rfl rfl) h1 (β := Go.Proofs.Ytapdjkiekjdgdaa.H.loc0)
  obtain ⟨x2, y2, g2⟩ := Go.Proofs.Ytapdjkiekjdgdaa.H.R_two' (t := 33) (by kernel_rfl) (hval 2 33 v2 rfl rfl) h2 (β := Go.Proofs.Ytapdjkiekjdgdaa.H.loc0)
  obtain ⟨x3, g3⟩ := Go.Proofs.Ytapdjkiekjdgdaa.H.R_i64 (t := 3) (by kernel_rfl) (hval 3 3 v3 rfl rfl) (w := W) (β := Go.Proofs.Ytapdjkiekjdgdaa.H.loc0)
  obtain ⟨x4, g4⟩ := Go.Proofs.Ytapdjkiekjdgdaa.H.R_i64 (t := 3) (by kernel_rfl) (hval 4 3 v4 rfl rfl) (w := W) (β := Go.Proofs.Ytapdjkiekjdgdaa.H.loc0)
  have hwalk := Go.Proofs.Ytapdjkiekjdgdaa.H.law_ok (w := W) (us := [v0, v1, v2, v3, v4]) (Go.Proofs.Ytapdjkiekjdgdaa.H.law_walk x0 x1 y1 z1 x2 y2 x3 x4) (by simp only [Go.Proofs.Ytapdjkiekjdgdaa.H.RL]; exact ⟨v0, [v1, v2, v3, v4], rfl, g0, ⟨v1, [v2, v3, v4], rfl, g1, ⟨v2, [v3, v4], rfl, g2, ⟨v3, [v4], rfl, g3, ⟨v4, [], rfl, g4, rfl⟩⟩⟩⟩⟩)
  clear hA0 hval0
  refine hwalk.mono fun e W' ⟨he, bel⟩ => ?_
  subst he
  exact ⟨_, rfl, _, _, _, [], _, [], hW', trodAll_mk1 (shut_bool (t := 4) (by kernel_rfl) _), (trodAll_cons_mk (Below.trod laidOut (by kernel_rfl) (of_decide_eq_true (by kernel_rfl)) h0 bel lt0) (trodAll_cons_mk (Below.trod laidOut (by kernel_rfl) (of_decide_eq_true (by kernel_rfl)) h1 bel lt1) (trodAll_cons_mk (Below.trod laidOut (by kernel_rfl) (of_decide_eq_true (by kernel_rfl)) h2 bel lt2) (trodAll_cons_mk (Below.trod laidOut (by kernel_rfl) (of_decide_eq_true (by kernel_rfl)) h3 bel lt3) (trodAll_cons_mk (Below.trod laidOut (by kernel_rfl) (of_decide_eq_true (by kernel_rfl)) h4 bel lt4) trodAll_mk0))))), rfl, bel.frame _, fun h => by cases h⟩

theorem over : Rows.weatherExactRow.holds Try.pinned (OpenSpec.ofChange Rows.weatherExactSpec) :=
  OpenClaim.holds_of_wide 6 Try.f6 rfl rfl rfl rfl rfl rfl rfl ⟨rfl, rfl, rfl, rfl, rfl⟩ rfl rfl rfl rfl rfl (by kernel_rfl) Try.func6 (by kernel_rfl)
    (of_decide_eq_true (by kernel_rfl)) (by unfold Func.isWrapper; first | (rw [if_pos (by decide +kernel)]; kernel_rfl) | (rw [if_neg (by decide +kernel)]; exact ⟨rfl, rfl⟩))
    (fun os started H enc _ => lifted os started H enc)

/-- THE STATEMENT -/
theorem proved : Rows.WeatherExactSaid := over
#print axioms proved
end Go.Proofs.Ytapdjkiekjdgdaa.weatherExact
