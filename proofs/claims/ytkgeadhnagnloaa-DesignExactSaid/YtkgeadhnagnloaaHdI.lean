/- Chapter 26: the program's union. -/
import Derived.Test.YtkgeadhnagnloaaHdH
import Derived.Shelf.SlSortCmp.NoneTotal
set_option linter.unusedSimpArgs false
set_option linter.unusedVariables false
namespace Go.Proofs.Ytkgeadhnagnloaa.H
open Go.Shelf Go.Proofs Go.Sort
def encP (x : Pt) : List Value := [.int .i64 x.1, .int .i64 x.2]
theorem rowsE_pts (l : List Pt) : rowsE encP l = pts l := rfl
theorem swoP : SWO (ltOf cmpP) := by
  have h : ∀ x y, ltOf cmpP x y = ltP x y := fun x y => by
    unfold ltOf
    cases hq : ltP x y
    · exact decide_eq_false fun e => by rw [(cmpP_lt x y).1 e] at hq; cases hq
    · exact decide_eq_true ((cmpP_lt x y).2 hq)
  refine ⟨fun x => by rw [h, ltP_irr], fun x y z h1 h2 => by rw [h] at *; exact ltP_trans h1 h2, fun x y z h1 h2 => ?_⟩
  rw [h] at *
  simp only [ltP, decide_eq_false_iff_not] at *; omega
theorem sortnil_ok {f : FuncId} {s : St} {Q : AV → St → Prop} (hq : Q (.tup []) s) : ACalls Try.prog (sortL_ren.f 6) [.ful 0 [], .fn f [] []] s Q := by
  intro w K β us hz hr
  simp only [RL] at hr
  obtain ⟨u1, _, rfl, r1, u2, _, rfl, r2, rfl⟩ := hr
  simp only [R] at r1
  obtain ⟨a, rfl, _⟩ := r1
  refine (AnyF.slices_SortFunc_none (P := Try.prog) sortL a 0 u2 w).mono ?_
  rintro e w' ⟨rfl, rfl⟩
  exact ⟨.tup [], s, K, β, .tuple #[], rfl, hq, hz, by simp only [R, RL]; exact ⟨[], rfl, rfl⟩, .refl (Nat.le_refl _)⟩
theorem agg24 : ∀ w, (isAgg (sortL_ren.t 24)).run Try.prog w = .ok true w := by
  intro w
  have h : (match (Try.prog).underlying (sortL_ren.t 24) with | some (.struct _) => true | _ => false) = true := by kernel_rfl
  split at h
  · rename_i fs hu
    simp only [isAgg, Sem.run_bind, run_underlying hu, Result.andThen_ok, Sem.run_pure]
  · cases h
theorem size24 : ∀ w, (Go.sizeOf (sortL_ren.t 24)).run Try.prog w = .ok 2 w := fun w => run_sizeOf (by kernel_rfl) w
theorem sortP_ok {l : List Pt} (h0 : 0 < l.length) (hl : l.length ≤ 1000000) {s : St} {id : Nat} (hid : s[id]? = some (some (.cells 29 2 (rowsA (pts l))))) {Q : AV → St → Prop}
    (hq : ∀ l' : List Pt, l'.Perm l → l'.Pairwise (fun x y => ¬ cmpP y x < 0) → Q (.tup []) (s.set id (some (.cells 29 2 (rowsA (pts l')))))) : ACalls Try.prog 47 [.own id 0 l.length, .fn 42 [] []] s Q :=
  sort_ok (enc := encP) (cf := cmpP) (k := 2) (fun x => rfl) (fun x v hv => by simp [encP] at hv; rcases hv with rfl | rfl <;> rfl) swoP (g := 42) (fun x y => compare_ok x y) (by kernel_rfl) agg24 size24 h0 (by omega) hid hq
theorem oV_pos {l : List Pt} (h : 0 < l.length) : oV l = .own 0 0 l.length := by
  cases l with
  | nil => simp at h
  | cons p l => rfl
theorem oS_pos {l : List Pt} (h : 0 < l.length) : oS l = [some (.cells 29 2 (rowsA (pts l)))] := by
  cases l with
  | nil => simp at h
  | cons p l => rfl
theorem compact0_ok : ACalls Try.prog 48 [.ful 0 []] [] fun v s' => v = .ful 0 [] ∧ s' = [] := by
  refine ACalls.of fn48 (by simp) ?_
  unfold c48
  have hc : ((0 : Nat) : Int) < 2 := by decide
  repeat' (first | refine AW.seq' ?_ | with_reducible refine AW.blockS rfl ?_ | ((first | refine AW.ops ?_ | refine AW.draw ?_ | refine AW.skip ?_ | refine AW.ret ?_ | refine AW.exit ?_) <;> simp only [RS, LS, SY, ne_eq, isFl, floatV, constA, thenQ, blockQ, pack, intA, boolA, eqA, unA, nilcA, asI, asB, asS, loadA, idxA, lenA, slcA, AV.flat, AV.one, zA1, storeA, toD, srcOf, copyA, ↓reduceIte, reduceCtorEq, List.replicate, Nat.reduceBEq, Nat.reduceAdd, Nat.reduceMul, Nat.reduceSub, Nat.reduceLeDiff, Nat.reduceLT, Int.reduceToNat, Nat.reduceEqDiff, Int.reduceEq, hc]) | refine AW.condT rfl ?_ | refine AW.condF rfl ?_ | ((first | refine GI.of (fun h => ?_) (fun h => ?_) (by first | exact Classical.em _ | exact (Classical.em _).symm | grind) | refine GD.of (fun h => ?_) (fun h => ?_) (by first | exact Classical.em _ | exact (Classical.em _).symm | grind)) <;> simp only [RS, LS, SY, ne_eq, isFl, floatV, constA, thenQ, blockQ, pack, intA, boolA, eqA, unA, nilcA, asI, asB, asS, loadA, idxA, lenA, slcA, AV.flat, AV.one, zA1, storeA, toD, srcOf, copyA, ↓reduceIte, reduceCtorEq, List.replicate, Nat.reduceBEq, Nat.reduceAdd, Nat.reduceMul, Nat.reduceSub, Nat.reduceLeDiff, Nat.reduceLT, Int.reduceToNat, Nat.reduceEqDiff, Int.reduceEq, hc, h]) | (refine AW.condP rfl (fun h => ?_) (fun h => ?_) <;> try simp only [Bool.and_eq_true, decide_eq_true_eq, Bool.not_eq_true', decide_eq_false_iff_not, Bool.not_eq_false', Bool.not_eq_true, Bool.not_eq_false] at h) | refine And.intro (by omega) ?_ | fail)
/-- A list of its own, perhaps with more behind it, is given up. -/
theorem zFn {P : Program} {f : FuncId} {vs : List AV} {l z : List Pt} (h : ACalls P f vs [] fun v s' => v = .own 0 0 l.length ∧ s' = [some (.cells 29 2 (rowsA (pts (l ++ z))))]) : ACalls P f vs [] fun v s' => v = LP l ∧ s' = [] := by
  have h1 : ACalls P f vs [] fun v s' => v = LP l := h.freeze fun v s' ⟨e1, e2⟩ => by
    subst e1 e2
    refine .inr ⟨0, 29, 2, pts (l ++ z), rfl, by simp [fitA], ?_⟩
    simp [frzA]
  exact h1.take fun v s' e => ⟨by rw [e]; rfl, fun i b hi => by simp at hi, e, by simp⟩
end Go.Proofs.Ytkgeadhnagnloaa.H
