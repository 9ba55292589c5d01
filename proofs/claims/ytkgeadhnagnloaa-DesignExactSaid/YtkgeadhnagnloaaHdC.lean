/- Chapter 26: sorted lists. -/
import Derived.Test.YtkgeadhnagnloaaHdB
set_option linter.unusedSimpArgs false
set_option linter.unusedVariables false
namespace Go.Proofs.Ytkgeadhnagnloaa.H
/-- Each one is less than the next. -/
def ascB {α : Type} (lt : α → α → Bool) : List α → Bool
  | a :: b :: l => lt a b && ascB lt (b :: l)
  | _ => true
theorem ascB_iff {α : Type} {lt : α → α → Bool} : ∀ {l : List α}, ascB lt l = true ↔ ∀ (i : Nat) (h : i + 1 < l.length), lt l[i] l[i + 1] = true
  | [] => by simp [ascB]
  | [a] => by simp [ascB]
  | a :: b :: l => by
    simp only [ascB, Bool.and_eq_true, ascB_iff (l := b :: l)]
    constructor
    · rintro ⟨h1, h2⟩ i hi
      cases i with
      | zero => exact h1
      | succ i => exact h2 i (by simpa using hi)
    · intro h
      exact ⟨h 0 (by simp), fun i hi => h (i + 1) (by simpa using hi)⟩
theorem ascB_not {α : Type} {lt : α → α → Bool} {l : List α} {i : Nat} (h : i + 1 < l.length) (hn : lt l[i] l[i + 1] = false) : ascB lt l = false := by
  cases ha : ascB lt l
  · rfl
  · rw [ascB_iff.1 ha i h] at hn; cases hn
theorem asc_ok {cf : Pt → Pt → Int} {f : FuncId} (hf : ∀ x y, Fn Try.prog f [APt x, APt y] (AI .i64 (cf x y))) (hB : BodyOK Try.prog f = true) (l : List Pt) (hl : l.length ≤ 4611686018427387904) : Fn Try.prog 41 [LP l, .fn f [] []] (AB (ascB (fun x y => decide (cf x y < 0)) l)) := by
  refine Fn.of fn41 (by simp) rfl ?_
  unfold c41
  repeat' (first | refine AW.seq' ?_ | with_reducible refine AW.blockS rfl ?_ | ((first | refine AW.ops ?_ | refine AW.draw ?_ | refine AW.skip ?_ | refine AW.ret ?_ | refine AW.exit ?_) <;> simp only [RS, LS, SY, ne_eq, isFl, floatV, constA, thenQ, blockQ, pack, intA, boolA, eqA, unA, nilcA, asI, asB, asS, loadA, idxA, lenA, slcA, AV.flat, AV.one, zA1, storeA, toD, srcOf, copyA, ↓reduceIte, reduceCtorEq, List.replicate, Nat.reduceBEq, Nat.reduceAdd, Nat.reduceMul, Nat.reduceSub, Nat.reduceLeDiff, Nat.reduceLT, Int.reduceToNat, Nat.reduceEqDiff, Int.reduceEq]) | refine AW.condT rfl ?_ | refine AW.condF rfl ?_ | ((first | refine GI.of (fun h => ?_) (fun h => ?_) (by first | exact Classical.em _ | exact (Classical.em _).symm | grind) | refine GD.of (fun h => ?_) (fun h => ?_) (by first | exact Classical.em _ | exact (Classical.em _).symm | grind)) <;> simp only [RS, LS, SY, ne_eq, isFl, floatV, constA, thenQ, blockQ, pack, intA, boolA, eqA, unA, nilcA, asI, asB, asS, loadA, idxA, lenA, slcA, AV.flat, AV.one, zA1, storeA, toD, srcOf, copyA, ↓reduceIte, reduceCtorEq, List.replicate, Nat.reduceBEq, Nat.reduceAdd, Nat.reduceMul, Nat.reduceSub, Nat.reduceLeDiff, Nat.reduceLT, Int.reduceToNat, Nat.reduceEqDiff, Int.reduceEq, h]) | (refine AW.condP rfl (fun h => ?_) (fun h => ?_) <;> try simp only [Bool.and_eq_true, decide_eq_true_eq, Bool.not_eq_true', decide_eq_false_iff_not, Bool.not_eq_false', Bool.not_eq_true, Bool.not_eq_false] at h) | refine And.intro (by omega) ?_ | fail)
  refine AW.block ?_
  refine AW.loopA (α := Nat) (fun i => l.length + 1 - i) (fun i => [(5, AI .i64 i), (0, LP l), (1, .fn f [] [])]) (fun _ => []) (fun i => 1 ≤ i ∧ i ≤ l.length + 1 ∧ ∀ (j : Nat) (h : j + 1 < l.length), j + 1 < i → cf l[j] l[j + 1] < 0) 1 ⟨Nat.le_refl _, by omega, fun j h hj => by omega⟩ [] ⟨rfl, by decide, rfl, by simp [NT, belA, belL, tget, renA, renL], trivial⟩ ?_
  intro i ⟨h1, h2, h3⟩
  unfold c41_0
  by_cases hi : i < l.length
  · have hi1 : i - 1 < l.length := by omega
    have e1 : ((i : Int) - 1).toNat = i - 1 := by omega
    have e2 : i - 1 + 1 = i := by omega
    have hc : (i : Int) < l.length := by omega
    repeat' (first | refine AW.seq' ?_ | with_reducible refine AW.blockS rfl ?_ | ((first | refine AW.ops ?_ | refine AW.draw ?_ | refine AW.skip ?_ | refine AW.ret ?_ | refine AW.exit ?_ |  refine Fn.call (hf _ _) rfl rfl ?_) <;> simp (disch := omega) only [RS, LS, SY, ne_eq, isFl, floatV, constA, thenQ, blockQ, pack, intA, boolA, eqA, unA, nilcA, asI, asB, asS, loadA, idxA, lenA, slcA, AV.flat, AV.one, zA1, storeA, toD, srcOf, copyA, ↓reduceIte, reduceCtorEq, List.replicate, Nat.reduceBEq, Nat.reduceAdd, Nat.reduceMul, Nat.reduceSub, Nat.reduceLeDiff, Nat.reduceLT, Int.reduceToNat, Nat.reduceEqDiff, Int.reduceEq, wrap_id, hc, e1, getD_map_lt hi, getD_map_lt hi1, hB]) | refine AW.condT rfl ?_ | refine AW.condF rfl ?_ | ((first | refine GI.of (fun h => ?_) (fun h => ?_) (by first | exact Classical.em _ | exact (Classical.em _).symm | grind) | refine GD.of (fun h => ?_) (fun h => ?_) (by first | exact Classical.em _ | exact (Classical.em _).symm | grind)) <;> simp (disch := omega) only [RS, LS, SY, ne_eq, isFl, floatV, constA, thenQ, blockQ, pack, intA, boolA, eqA, unA, nilcA, asI, asB, asS, loadA, idxA, lenA, slcA, AV.flat, AV.one, zA1, storeA, toD, srcOf, copyA, ↓reduceIte, reduceCtorEq, List.replicate, Nat.reduceBEq, Nat.reduceAdd, Nat.reduceMul, Nat.reduceSub, Nat.reduceLeDiff, Nat.reduceLT, Int.reduceToNat, Nat.reduceEqDiff, Int.reduceEq, wrap_id, hc, e1, getD_map_lt hi, getD_map_lt hi1, hB, h]) | (refine AW.condP rfl (fun h => ?_) (fun h => ?_) <;> try simp only [Bool.and_eq_true, decide_eq_true_eq, Bool.not_eq_true', decide_eq_false_iff_not, Bool.not_eq_false', Bool.not_eq_true, Bool.not_eq_false] at h) | refine And.intro (by omega) ?_ | fail)
    · rw [ascB_not (i := i - 1) (by omega)]
      simp only [e2]
      simpa using h
    · refine ⟨i + 1, [], ⟨by omega, by omega, fun j hj hj' => ?_⟩, by omega, rfl, by decide, rfl, ?_, trivial⟩
      · by_cases e : j + 1 = i
        · subst e
          simp only [Nat.add_sub_cancel] at h
          omega
        · exact h3 j hj (by omega)
      · simp [NT, belA, belL, tget, renA, renL]
  · have hc : ¬ (i : Int) < l.length := by omega
    repeat' (first | refine AW.seq' ?_ | with_reducible refine AW.blockS rfl ?_ | ((first | refine AW.ops ?_ | refine AW.draw ?_ | refine AW.skip ?_ | refine AW.ret ?_ | refine AW.exit ?_) <;> simp only [RS, LS, SY, ne_eq, isFl, floatV, constA, thenQ, blockQ, pack, intA, boolA, eqA, unA, nilcA, asI, asB, asS, loadA, idxA, lenA, slcA, AV.flat, AV.one, zA1, storeA, toD, srcOf, copyA, ↓reduceIte, reduceCtorEq, List.replicate, Nat.reduceBEq, Nat.reduceAdd, Nat.reduceMul, Nat.reduceSub, Nat.reduceLeDiff, Nat.reduceLT, Int.reduceToNat, Nat.reduceEqDiff, Int.reduceEq, hc]) | refine AW.condT rfl ?_ | refine AW.condF rfl ?_ | ((first | refine GI.of (fun h => ?_) (fun h => ?_) (by first | exact Classical.em _ | exact (Classical.em _).symm | grind) | refine GD.of (fun h => ?_) (fun h => ?_) (by first | exact Classical.em _ | exact (Classical.em _).symm | grind)) <;> simp only [RS, LS, SY, ne_eq, isFl, floatV, constA, thenQ, blockQ, pack, intA, boolA, eqA, unA, nilcA, asI, asB, asS, loadA, idxA, lenA, slcA, AV.flat, AV.one, zA1, storeA, toD, srcOf, copyA, ↓reduceIte, reduceCtorEq, List.replicate, Nat.reduceBEq, Nat.reduceAdd, Nat.reduceMul, Nat.reduceSub, Nat.reduceLeDiff, Nat.reduceLT, Int.reduceToNat, Nat.reduceEqDiff, Int.reduceEq, hc, h]) | (refine AW.condP rfl (fun h => ?_) (fun h => ?_) <;> try simp only [Bool.and_eq_true, decide_eq_true_eq, Bool.not_eq_true', decide_eq_false_iff_not, Bool.not_eq_false', Bool.not_eq_true, Bool.not_eq_false] at h) | refine And.intro (by omega) ?_ | fail)
    rw [ascB_iff.2 fun j hj => decide_eq_true (h3 j hj (by omega))]
def sortedP (l : List Pt) : Bool := l.all vldP && ascB ltP l
theorem asc_lt (l : List Pt) : ascB (fun x y => decide (cmpP x y < 0)) l = ascB ltP l := by
  have : (fun x y => decide (cmpP x y < 0)) = ltP := by
    funext x y
    cases h : ltP x y
    · exact decide_eq_false (by rw [cmpP_lt, h]; decide)
    · exact decide_eq_true ((cmpP_lt x y).2 h)
  rw [this]
theorem nvalid_ok (p : Pt) : Fn Try.prog 39 [APt p] (AB (!vldP p)) := by
  refine Fn.of fn39 (by simp) rfl ?_
  unfold c39
  repeat' (first | refine AW.seq' ?_ | with_reducible refine AW.blockS rfl ?_ | ((first | refine AW.ops ?_ | refine AW.draw ?_ | refine AW.skip ?_ | refine AW.ret ?_ | refine AW.exit ?_ | refine Fn.call (valid_ok p) rfl rfl ?_) <;> simp only [RS, LS, SY, ne_eq, isFl, floatV, constA, thenQ, blockQ, pack, intA, boolA, eqA, unA, nilcA, asI, asB, asS, loadA, idxA, lenA, slcA, AV.flat, AV.one, zA1, storeA, toD, srcOf, copyA, ↓reduceIte, reduceCtorEq, List.replicate, Nat.reduceBEq, Nat.reduceAdd, Nat.reduceMul, Nat.reduceSub, Nat.reduceLeDiff, Nat.reduceLT, Int.reduceToNat, Nat.reduceEqDiff, Int.reduceEq]) | refine AW.condT rfl ?_ | refine AW.condF rfl ?_ | ((first | refine GI.of (fun h => ?_) (fun h => ?_) (by first | exact Classical.em _ | exact (Classical.em _).symm | grind) | refine GD.of (fun h => ?_) (fun h => ?_) (by first | exact Classical.em _ | exact (Classical.em _).symm | grind)) <;> simp only [RS, LS, SY, ne_eq, isFl, floatV, constA, thenQ, blockQ, pack, intA, boolA, eqA, unA, nilcA, asI, asB, asS, loadA, idxA, lenA, slcA, AV.flat, AV.one, zA1, storeA, toD, srcOf, copyA, ↓reduceIte, reduceCtorEq, List.replicate, Nat.reduceBEq, Nat.reduceAdd, Nat.reduceMul, Nat.reduceSub, Nat.reduceLeDiff, Nat.reduceLT, Int.reduceToNat, Nat.reduceEqDiff, Int.reduceEq, h]) | (refine AW.condP rfl (fun h => ?_) (fun h => ?_) <;> try simp only [Bool.and_eq_true, decide_eq_true_eq, Bool.not_eq_true', decide_eq_false_iff_not, Bool.not_eq_false', Bool.not_eq_true, Bool.not_eq_false] at h) | refine And.intro (by omega) ?_ | fail)
theorem sorted_ok (l : List Pt) (hl : l.length ≤ 4611686018427387904) : Fn Try.prog 13 [LP l] (AB (sortedP l)) := by
  refine Fn.of fn13 (by simp) rfl ?_
  unfold c13
  have ha := asc_ok (f := 42) compare_ok (by kernel_rfl) l hl
  rw [asc_lt] at ha
  have hq : (l.any fun p => !vldP p) = !(l.all vldP) := by rw [List.any_eq_not_all_not]; simp
  repeat' (first | refine AW.seq' ?_ | with_reducible refine AW.blockS rfl ?_ | ((first | refine AW.ops ?_ | refine AW.draw ?_ | refine AW.skip ?_ | refine AW.ret ?_ | refine AW.exit ?_ | refine Fn.call (ha) rfl rfl ?_ |  (refine (containsf_ok (q := fun p => !vldP p) hl rfl ClS.nil (by kernel_rfl) (fun x => Fn.fnV (nvalid_ok x) rfl rfl _)).mono ?_; rintro v s' ⟨rfl, rfl⟩)) <;> simp only [RS, LS, SY, ne_eq, isFl, floatV, constA, thenQ, blockQ, pack, intA, boolA, eqA, unA, nilcA, asI, asB, asS, loadA, idxA, lenA, slcA, AV.flat, AV.one, zA1, storeA, toD, srcOf, copyA, ↓reduceIte, reduceCtorEq, List.replicate, Nat.reduceBEq, Nat.reduceAdd, Nat.reduceMul, Nat.reduceSub, Nat.reduceLeDiff, Nat.reduceLT, Int.reduceToNat, Nat.reduceEqDiff, Int.reduceEq, hq]) | refine AW.condT rfl ?_ | refine AW.condF rfl ?_ | ((first | refine GI.of (fun h => ?_) (fun h => ?_) (by first | exact Classical.em _ | exact (Classical.em _).symm | grind) | refine GD.of (fun h => ?_) (fun h => ?_) (by first | exact Classical.em _ | exact (Classical.em _).symm | grind)) <;> simp only [RS, LS, SY, ne_eq, isFl, floatV, constA, thenQ, blockQ, pack, intA, boolA, eqA, unA, nilcA, asI, asB, asS, loadA, idxA, lenA, slcA, AV.flat, AV.one, zA1, storeA, toD, srcOf, copyA, ↓reduceIte, reduceCtorEq, List.replicate, Nat.reduceBEq, Nat.reduceAdd, Nat.reduceMul, Nat.reduceSub, Nat.reduceLeDiff, Nat.reduceLT, Int.reduceToNat, Nat.reduceEqDiff, Int.reduceEq, hq, h]) | (refine AW.condP rfl (fun h => ?_) (fun h => ?_) <;> try simp only [Bool.and_eq_true, decide_eq_true_eq, Bool.not_eq_true', decide_eq_false_iff_not, Bool.not_eq_false', Bool.not_eq_true, Bool.not_eq_false] at h) | refine And.intro (by omega) ?_ | fail)
  all_goals (simp only [sortedP]; simp [h])
theorem rsorted_ok (l : List Pt) (hl : l.length ≤ 4611686018427387904) : Fn Try.prog 14 [LP l] (AB (sortedP l)) := by
  refine Fn.of fn14 (by simp) rfl ?_
  unfold c14
  repeat' (first | refine AW.seq' ?_ | with_reducible refine AW.blockS rfl ?_ | ((first | refine AW.ops ?_ | refine AW.draw ?_ | refine AW.skip ?_ | refine AW.ret ?_ | refine AW.exit ?_) <;> simp only [RS, LS, SY, ne_eq, isFl, floatV, constA, thenQ, blockQ, pack, intA, boolA, eqA, unA, nilcA, asI, asB, asS, loadA, idxA, lenA, slcA, AV.flat, AV.one, zA1, storeA, toD, srcOf, copyA, ↓reduceIte, reduceCtorEq, List.replicate, Nat.reduceBEq, Nat.reduceAdd, Nat.reduceMul, Nat.reduceSub, Nat.reduceLeDiff, Nat.reduceLT, Int.reduceToNat, Nat.reduceEqDiff, Int.reduceEq]) | refine AW.condT rfl ?_ | refine AW.condF rfl ?_ | ((first | refine GI.of (fun h => ?_) (fun h => ?_) (by first | exact Classical.em _ | exact (Classical.em _).symm | grind) | refine GD.of (fun h => ?_) (fun h => ?_) (by first | exact Classical.em _ | exact (Classical.em _).symm | grind)) <;> simp only [RS, LS, SY, ne_eq, isFl, floatV, constA, thenQ, blockQ, pack, intA, boolA, eqA, unA, nilcA, asI, asB, asS, loadA, idxA, lenA, slcA, AV.flat, AV.one, zA1, storeA, toD, srcOf, copyA, ↓reduceIte, reduceCtorEq, List.replicate, Nat.reduceBEq, Nat.reduceAdd, Nat.reduceMul, Nat.reduceSub, Nat.reduceLeDiff, Nat.reduceLT, Int.reduceToNat, Nat.reduceEqDiff, Int.reduceEq, h]) | (refine AW.condP rfl (fun h => ?_) (fun h => ?_) <;> try simp only [Bool.and_eq_true, decide_eq_true_eq, Bool.not_eq_true', decide_eq_false_iff_not, Bool.not_eq_false', Bool.not_eq_true, Bool.not_eq_false] at h) | refine And.intro (by omega) ?_ | fail)
  refine AW.range (α := Unit) l.length hl (by decide) (fun _ _ => [(5, LP l), (0, LP l)]) (fun _ _ => []) (fun i _ => (l.take i).all vldP = true ∧ ∀ (j : Nat) (h : j + 1 < l.length), j + 1 < i → ltP l[j] l[j + 1] = true) () ⟨by simp, fun j h hj => by omega⟩ [] ⟨rfl, by decide, rfl, by simp [NT, belA, tget, renA], trivial⟩ (by simp) ?_ ?_
  · intro i _ hi ⟨hv, hJ⟩
    unfold c14_0
    by_cases hi0 : i = 0
    · subst hi0
      have hc : ¬ (0 : Int) < ((0 : Nat) : Int) := by simp
      repeat' (first | refine AW.seq' ?_ | with_reducible refine AW.blockS rfl ?_ | ((first | refine AW.ops ?_ | refine AW.draw ?_ | refine AW.skip ?_ | refine AW.ret ?_ | refine AW.exit ?_ | refine Fn.call (rvalid_ok _) rfl rfl ?_) <;> simp only [RS, LS, SY, ne_eq, isFl, floatV, constA, thenQ, blockQ, pack, intA, boolA, eqA, unA, nilcA, asI, asB, asS, loadA, idxA, lenA, slcA, AV.flat, AV.one, zA1, storeA, toD, srcOf, copyA, ↓reduceIte, reduceCtorEq, List.replicate, Nat.reduceBEq, Nat.reduceAdd, Nat.reduceMul, Nat.reduceSub, Nat.reduceLeDiff, Nat.reduceLT, Int.reduceToNat, Nat.reduceEqDiff, Int.reduceEq, hc, getD_map_lt hi]) | refine AW.condT rfl ?_ | refine AW.condF rfl ?_ | ((first | refine GI.of (fun h => ?_) (fun h => ?_) (by first | exact Classical.em _ | exact (Classical.em _).symm | grind) | refine GD.of (fun h => ?_) (fun h => ?_) (by first | exact Classical.em _ | exact (Classical.em _).symm | grind)) <;> simp only [RS, LS, SY, ne_eq, isFl, floatV, constA, thenQ, blockQ, pack, intA, boolA, eqA, unA, nilcA, asI, asB, asS, loadA, idxA, lenA, slcA, AV.flat, AV.one, zA1, storeA, toD, srcOf, copyA, ↓reduceIte, reduceCtorEq, List.replicate, Nat.reduceBEq, Nat.reduceAdd, Nat.reduceMul, Nat.reduceSub, Nat.reduceLeDiff, Nat.reduceLT, Int.reduceToNat, Nat.reduceEqDiff, Int.reduceEq, hc, getD_map_lt hi, h]) | (refine AW.condP rfl (fun h => ?_) (fun h => ?_) <;> try simp only [Bool.and_eq_true, decide_eq_true_eq, Bool.not_eq_true', decide_eq_false_iff_not, Bool.not_eq_false', Bool.not_eq_true, Bool.not_eq_false] at h) | refine And.intro (by omega) ?_ | fail)
      · refine ⟨(), [], ⟨?_, fun j h hj => by omega⟩, rfl, by decide, rfl, by simp [NT, belA, tget, renA], trivial⟩
        rw [all_take_succ hi]; simp [h]
      · rw [sortedP, all_of_not hi h]; rfl
    · have hi1 : i - 1 < l.length := by omega
      have e1 : ((i : Int) - 1).toNat = i - 1 := by omega
      have hc : (0 : Int) < i := by omega
      repeat' (first | refine AW.seq' ?_ | with_reducible refine AW.blockS rfl ?_ | ((first | refine AW.ops ?_ | refine AW.draw ?_ | refine AW.skip ?_ | refine AW.ret ?_ | refine AW.exit ?_ | refine Fn.call (rvalid_ok _) rfl rfl ?_ | refine Fn.call (less_ok _ _) rfl rfl ?_) <;> simp (disch := omega) only [RS, LS, SY, ne_eq, isFl, floatV, constA, thenQ, blockQ, pack, intA, boolA, eqA, unA, nilcA, asI, asB, asS, loadA, idxA, lenA, slcA, AV.flat, AV.one, zA1, storeA, toD, srcOf, copyA, ↓reduceIte, reduceCtorEq, List.replicate, Nat.reduceBEq, Nat.reduceAdd, Nat.reduceMul, Nat.reduceSub, Nat.reduceLeDiff, Nat.reduceLT, Int.reduceToNat, Nat.reduceEqDiff, Int.reduceEq, wrap_id, hc, e1, getD_map_lt hi, getD_map_lt hi1]) | refine AW.condT rfl ?_ | refine AW.condF rfl ?_ | ((first | refine GI.of (fun h => ?_) (fun h => ?_) (by first | exact Classical.em _ | exact (Classical.em _).symm | grind) | refine GD.of (fun h => ?_) (fun h => ?_) (by first | exact Classical.em _ | exact (Classical.em _).symm | grind)) <;> simp (disch := omega) only [RS, LS, SY, ne_eq, isFl, floatV, constA, thenQ, blockQ, pack, intA, boolA, eqA, unA, nilcA, asI, asB, asS, loadA, idxA, lenA, slcA, AV.flat, AV.one, zA1, storeA, toD, srcOf, copyA, ↓reduceIte, reduceCtorEq, List.replicate, Nat.reduceBEq, Nat.reduceAdd, Nat.reduceMul, Nat.reduceSub, Nat.reduceLeDiff, Nat.reduceLT, Int.reduceToNat, Nat.reduceEqDiff, Int.reduceEq, wrap_id, hc, e1, getD_map_lt hi, getD_map_lt hi1, h]) | (refine AW.condP rfl (fun h => ?_) (fun h => ?_) <;> try simp only [Bool.and_eq_true, decide_eq_true_eq, Bool.not_eq_true', decide_eq_false_iff_not, Bool.not_eq_false', Bool.not_eq_true, Bool.not_eq_false] at h) | refine And.intro (by omega) ?_ | fail)
      · have e2 : i - 1 + 1 = i := by omega
        rw [sortedP, ascB_not (i := i - 1) (by omega) (by simp only [e2]; exact h), Bool.and_false]
      · refine ⟨(), [], ⟨?_, fun j hj hj' => ?_⟩, rfl, by decide, rfl, by simp [NT, belA, tget, renA], trivial⟩
        · rw [all_take_succ hi, hv]; simpa using (by assumption : vldP l[i] = true)
        · by_cases e : j + 1 = i
          · subst e; simpa using h
          · exact hJ j hj (by omega)
      · rw [sortedP, all_of_not hi h]; rfl
  · intro _ ⟨hv, hJ⟩
    rw [List.take_length] at hv
    simp only [RS, LS, SY, ne_eq, isFl, floatV, constA, thenQ, blockQ, pack, intA, boolA, eqA, unA, nilcA, asI, asB, asS, loadA, idxA, lenA, slcA, AV.flat, AV.one, zA1, storeA, toD, srcOf, copyA, ↓reduceIte, reduceCtorEq, List.replicate, Nat.reduceBEq, Nat.reduceAdd, Nat.reduceMul, Nat.reduceSub, Nat.reduceLeDiff, Nat.reduceLT, Int.reduceToNat, Nat.reduceEqDiff, Int.reduceEq]
    repeat' (first | refine AW.seq' ?_ | with_reducible refine AW.blockS rfl ?_ | ((first | refine AW.ops ?_ | refine AW.draw ?_ | refine AW.skip ?_ | refine AW.ret ?_ | refine AW.exit ?_) <;> simp only [RS, LS, SY, ne_eq, isFl, floatV, constA, thenQ, blockQ, pack, intA, boolA, eqA, unA, nilcA, asI, asB, asS, loadA, idxA, lenA, slcA, AV.flat, AV.one, zA1, storeA, toD, srcOf, copyA, ↓reduceIte, reduceCtorEq, List.replicate, Nat.reduceBEq, Nat.reduceAdd, Nat.reduceMul, Nat.reduceSub, Nat.reduceLeDiff, Nat.reduceLT, Int.reduceToNat, Nat.reduceEqDiff, Int.reduceEq]) | refine AW.condT rfl ?_ | refine AW.condF rfl ?_ | ((first | refine GI.of (fun h => ?_) (fun h => ?_) (by first | exact Classical.em _ | exact (Classical.em _).symm | grind) | refine GD.of (fun h => ?_) (fun h => ?_) (by first | exact Classical.em _ | exact (Classical.em _).symm | grind)) <;> simp only [RS, LS, SY, ne_eq, isFl, floatV, constA, thenQ, blockQ, pack, intA, boolA, eqA, unA, nilcA, asI, asB, asS, loadA, idxA, lenA, slcA, AV.flat, AV.one, zA1, storeA, toD, srcOf, copyA, ↓reduceIte, reduceCtorEq, List.replicate, Nat.reduceBEq, Nat.reduceAdd, Nat.reduceMul, Nat.reduceSub, Nat.reduceLeDiff, Nat.reduceLT, Int.reduceToNat, Nat.reduceEqDiff, Int.reduceEq, h]) | (refine AW.condP rfl (fun h => ?_) (fun h => ?_) <;> try simp only [Bool.and_eq_true, decide_eq_true_eq, Bool.not_eq_true', decide_eq_false_iff_not, Bool.not_eq_false', Bool.not_eq_true, Bool.not_eq_false] at h) | refine And.intro (by omega) ?_ | fail)
    rw [sortedP, hv, ascB_iff.2 fun j hj => hJ j hj hj]; rfl
end Go.Proofs.Ytkgeadhnagnloaa.H
