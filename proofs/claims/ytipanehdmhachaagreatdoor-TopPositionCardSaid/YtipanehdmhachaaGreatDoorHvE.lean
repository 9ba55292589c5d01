/- Chapter 8: cliques. -/
import Derived.Test.YtipanehdmhachaaGreatDoorHvD
set_option linter.unusedSimpArgs false
set_option linter.unusedVariables false
set_option linter.unusedSectionVars false
namespace Go.Proofs.YtipanehdmhachaaGreatDoor.H
variable [DR]
theorem last_take {m : List Int} {i : Nat} (hi : i < m.length) : (m.take i).getLast? = if i = 0 then none else some m[i - 1] := by
  by_cases h : i = 0
  · subst h; simp
  · rw [if_neg h, List.getLast?_eq_getElem?, List.length_take, List.getElem?_take, if_pos (by omega), Nat.min_eq_left (by omega), List.getElem?_eq_getElem (by omega)]
theorem more_iff {l : List Fx} {m : List Int} {i : Nat} (hi : i < m.length) : moreP l (m.take i) m[i] = true ↔ (0 ≤ m[i] ∧ m[i] < l.length) ∧ (0 < i → m[i - 1] < m[i]) ∧ (m.take (i + 1)).all (fun b => agP (atF l m[i]) (atF l b)) = true := by
  unfold moreP inR
  rw [last_take hi, List.take_succ_eq_append_getElem hi, Bool.and_eq_true, Bool.and_eq_true, and_assoc]
  refine and_congr decide_eq_true_iff (and_congr ?_ Iff.rfl)
  by_cases h : i = 0
  · simp [h]
  · simp only [h, if_false, decide_eq_true_eq]
    exact ⟨fun g _ => g, fun g => g (by omega)⟩
theorem clq_step {l : List Fx} {m : List Int} {i : Nat} (hi : i < m.length) : clqP l (m.take (i + 1)) = (clqP l (m.take i) && moreP l (m.take i) m[i]) := by
  rw [List.take_succ_eq_append_getElem hi, clqP_snoc]
theorem clq_not {l : List Fx} {m : List Int} {i : Nat} (hi : i < m.length) (h : ¬ moreP l (m.take i) m[i] = true) : clqP l m = false := by
  refine clqP_take (i := i + 1) ?_
  rw [clq_step hi, Bool.eq_false_iff.2 h, Bool.and_false]
theorem clq_in {l : List Fx} {m : List Int} {i j : Nat} (h : clqP l (m.take i) = true) (hj : j < i) (hjm : j < m.length) : 0 ≤ m[j] ∧ m[j] < l.length :=
  ((clqP_iff ..).1 h).2.1 _ (List.mem_of_getElem? (i := j) (by rw [List.getElem?_take, if_pos hj, List.getElem?_eq_getElem hjm]))
theorem atF_toNat {l : List Fx} {a : Int} (h0 : 0 ≤ a) (h : a < l.length) : atF l a = l[a.toNat]'(by omega) := by
  unfold atF
  have : a.toNat < l.length := by omega
  simp [List.getD, this]
theorem getF {l : List Fx} {a : Int} (h0 : 0 ≤ a) (h : a < l.length) : (fxs l).getD a.toNat [] = fxR (atF l a) := by
  rw [atF_toNat h0 h, getD_map_lt (by omega)]
set_option maxHeartbeats 1000000 in
theorem clique_ok (l : List Fx) (m : List Int) (hl : l.length ≤ 4611686018427387904) (hm : m.length < 4611686018427387904) : Fn Tryz.prog 88 [LF l, LI m] (AB (clqP l m)) := by
  refine Fn.of fn88 (by simp) rfl ?_
  unfold c88
  repeat' (first | refine AW.seq' ?_ | with_reducible refine AW.blockS rfl ?_ | ((first | refine AW.ops ?_ | refine AW.draw ?_ | refine AW.skip ?_ | refine AW.ret ?_ | refine AW.exit ?_) <;> simp only [RS, LS, SY, ne_eq, isFl, floatV, constA, thenQ, blockQ, pack, intA, boolA, eqA, unA, nilcA, asI, asB, asS, loadA, idxA, lenA, slcA, AV.flat, AV.one, zA1, storeA, toD, srcOf, copyA, ↓reduceIte, reduceCtorEq, List.replicate, Nat.reduceBEq, Nat.reduceAdd, Nat.reduceMul, Nat.reduceSub, Nat.reduceLeDiff, Nat.reduceLT, Int.reduceToNat, Nat.reduceEqDiff, Int.reduceEq]) | refine AW.condT rfl ?_ | refine AW.condF rfl ?_ | ((first | (refine GI.of (fun h => ?_) (fun h => ?_) ?emm; case emm => first | exact Classical.em _ | exact (Classical.em _).symm | grind) | (refine GD.of (fun h => ?_) (fun h => ?_) ?emm; case emm => first | exact Classical.em _ | exact (Classical.em _).symm | grind)) <;> simp only [RS, LS, SY, ne_eq, isFl, floatV, constA, thenQ, blockQ, pack, intA, boolA, eqA, unA, nilcA, asI, asB, asS, loadA, idxA, lenA, slcA, AV.flat, AV.one, zA1, storeA, toD, srcOf, copyA, ↓reduceIte, reduceCtorEq, List.replicate, Nat.reduceBEq, Nat.reduceAdd, Nat.reduceMul, Nat.reduceSub, Nat.reduceLeDiff, Nat.reduceLT, Int.reduceToNat, Nat.reduceEqDiff, Int.reduceEq, h]) | (refine AW.condP rfl (fun h => ?_) (fun h => ?_) <;> try simp only [Bool.and_eq_true, decide_eq_true_eq, Bool.not_eq_true', decide_eq_false_iff_not, Bool.not_eq_false', Bool.not_eq_true, Bool.not_eq_false] at h) | refine And.intro (by omega) ?_ | fail)
  refine AW.range (α := Unit) m.length (by omega) (by decide) (fun _ _ => [(0, LF l), (1, LI m), (9, LI m)]) (fun _ _ => []) (fun i _ => clqP l (m.take i) = true) () rfl [] ⟨rfl, by decide, rfl, by simp [NT, belA, tget, renA], trivial⟩ (by simp) ?_ ?_
  · intro i _ hi hJ
    unfold c88_1
    have e1 : ((i : Int) - 1).toNat = i - 1 := by omega
    have e3 : ((i : Int) + 1).toNat = i + 1 := by omega
    have hi1 : i - 1 < m.length := by omega
    have hmi := more_iff (l := l) hi
    have htl : (m.take (i + 1)).length = i + 1 := by rw [List.length_take]; omega
    have htk : List.take (i + 1) (ints m) = ints (m.take (i + 1)) := by rw [ints, ints, List.map_take]
    repeat' (first | refine AW.seq' ?_ | with_reducible refine AW.blockS rfl ?_ | ((first | refine AW.ops ?_ | refine AW.draw ?_ | refine AW.skip ?_ | refine AW.ret ?_ | refine AW.exit ?_) <;> simp (disch := omega) only [RS, LS, SY, ne_eq, isFl, floatV, constA, thenQ, blockQ, pack, intA, boolA, eqA, unA, nilcA, asI, asB, asS, loadA, idxA, lenA, slcA, AV.flat, AV.one, zA1, storeA, toD, srcOf, copyA, ↓reduceIte, reduceCtorEq, List.replicate, Nat.reduceBEq, Nat.reduceAdd, Nat.reduceMul, Nat.reduceSub, Nat.reduceLeDiff, Nat.reduceLT, Int.reduceToNat, Nat.reduceEqDiff, Int.reduceEq, wrap_id, getD_map_lt hi, getD_map_lt hi1, e1, e3, htk]) | refine AW.condT rfl ?_ | refine AW.condF rfl ?_ | ((first | (refine GI.of (fun h => ?_) (fun h => ?_) ?emm; case emm => first | exact Classical.em _ | exact (Classical.em _).symm | grind) | (refine GD.of (fun h => ?_) (fun h => ?_) ?emm; case emm => first | exact Classical.em _ | exact (Classical.em _).symm | grind)) <;> simp (disch := omega) only [RS, LS, SY, ne_eq, isFl, floatV, constA, thenQ, blockQ, pack, intA, boolA, eqA, unA, nilcA, asI, asB, asS, loadA, idxA, lenA, slcA, AV.flat, AV.one, zA1, storeA, toD, srcOf, copyA, ↓reduceIte, reduceCtorEq, List.replicate, Nat.reduceBEq, Nat.reduceAdd, Nat.reduceMul, Nat.reduceSub, Nat.reduceLeDiff, Nat.reduceLT, Int.reduceToNat, Nat.reduceEqDiff, Int.reduceEq, wrap_id, getD_map_lt hi, getD_map_lt hi1, e1, e3, htk, h]) | (refine AW.condP rfl (fun h => ?_) (fun h => ?_) <;> try simp only [Bool.and_eq_true, decide_eq_true_eq, Bool.not_eq_true', decide_eq_false_iff_not, Bool.not_eq_false', Bool.not_eq_true, Bool.not_eq_false] at h) | refine And.intro (by omega) ?_ | fail)
    all_goals try (rw [clq_not hi (fun g => by rw [hmi] at g; omega)]; done)
    all_goals
      have hr : 0 ≤ m[i] ∧ m[i] < l.length := by omega
      have hp : 0 < i → m[i - 1] < m[i] := fun _ => by omega
      refine AW.range (α := Unit) (i + 1) (by omega) (by decide) (fun _ _ => [(0, LF l), (1, LI m), (9, LI m), (11, AI .i64 i), (10, AI .i64 m.length), (6, AI .i64 m[i]), (40, LI (m.take (i + 1)))]) (fun _ _ => []) (fun j _ => ((m.take (i + 1)).take j).all (fun b => agP (atF l m[i]) (atF l b)) = true) () rfl [] ⟨rfl, by decide, rfl, by simp [NT, belA, tget, renA]; omega, trivial⟩ (by simp) ?_ ?_
      · intro j _ hj hJ2
        unfold c88_0
        have hj2 : j < (m.take (i + 1)).length := by omega
        have hjm : j < m.length := by omega
        have hg : (m.take (i + 1))[j] = m[j] := by rw [List.getElem_take]
        have hrj : 0 ≤ m[j] ∧ m[j] < l.length := by
          by_cases e : j = i
          · subst e; exact hr
          · exact clq_in hJ (by omega) hjm
        have f1 := getF hr.1 hr.2
        have f2 := getF hrj.1 hrj.2
        repeat' (first | refine AW.seq' ?_ | with_reducible refine AW.blockS rfl ?_ | ((first | refine AW.ops ?_ | refine AW.draw ?_ | refine AW.skip ?_ | refine AW.ret ?_ | refine AW.exit ?_ | refine Fn.call (agree_ok _ _) rfl rfl ?_) <;> simp only [RS, LS, SY, ne_eq, isFl, floatV, constA, thenQ, blockQ, pack, intA, boolA, eqA, unA, nilcA, asI, asB, asS, loadA, idxA, lenA, slcA, AV.flat, AV.one, zA1, storeA, toD, srcOf, copyA, ↓reduceIte, reduceCtorEq, List.replicate, Nat.reduceBEq, Nat.reduceAdd, Nat.reduceMul, Nat.reduceSub, Nat.reduceLeDiff, Nat.reduceLT, Int.reduceToNat, Nat.reduceEqDiff, Int.reduceEq, getD_map_lt hj2, hg, f1, f2]) | refine AW.condT rfl ?_ | refine AW.condF rfl ?_ | ((first | (refine GI.of (fun h => ?_) (fun h => ?_) ?emm; case emm => first | exact Classical.em _ | exact (Classical.em _).symm | grind) | (refine GD.of (fun h => ?_) (fun h => ?_) ?emm; case emm => first | exact Classical.em _ | exact (Classical.em _).symm | grind)) <;> simp only [RS, LS, SY, ne_eq, isFl, floatV, constA, thenQ, blockQ, pack, intA, boolA, eqA, unA, nilcA, asI, asB, asS, loadA, idxA, lenA, slcA, AV.flat, AV.one, zA1, storeA, toD, srcOf, copyA, ↓reduceIte, reduceCtorEq, List.replicate, Nat.reduceBEq, Nat.reduceAdd, Nat.reduceMul, Nat.reduceSub, Nat.reduceLeDiff, Nat.reduceLT, Int.reduceToNat, Nat.reduceEqDiff, Int.reduceEq, getD_map_lt hj2, hg, f1, f2, h]) | (refine AW.condP rfl (fun h => ?_) (fun h => ?_) <;> try simp only [Bool.and_eq_true, decide_eq_true_eq, Bool.not_eq_true', decide_eq_false_iff_not, Bool.not_eq_false', Bool.not_eq_true, Bool.not_eq_false] at h) | refine And.intro (by omega) ?_ | fail)
        · rw [clq_not hi (fun g => by
            rw [hmi] at g
            have := List.all_eq_true.1 g.2.2 _ (List.getElem_mem hj2)
            rw [hg] at this
            simp [this] at h)]
        · refine ⟨(), [], by rw [all_take_succ hj2, hJ2, hg]; simpa using h, rfl, by decide, rfl, by simp [NT, belA, tget, renA], trivial⟩
      · intro _ hJ2
        simp only [RS, LS, SY, ne_eq, isFl, floatV, constA, thenQ, blockQ, pack, intA, boolA, eqA, unA, nilcA, asI, asB, asS, loadA, idxA, lenA, slcA, AV.flat, AV.one, zA1, storeA, toD, srcOf, copyA, ↓reduceIte, reduceCtorEq, List.replicate, Nat.reduceBEq, Nat.reduceAdd, Nat.reduceMul, Nat.reduceSub, Nat.reduceLeDiff, Nat.reduceLT, Int.reduceToNat, Nat.reduceEqDiff, Int.reduceEq]
        refine ⟨(), [], ?_, rfl, by decide, rfl, by simp [NT, belA, tget, renA], trivial⟩
        rw [clq_step hi, hJ, Bool.true_and, hmi]
        refine ⟨hr, hp, ?_⟩
        rw [List.take_of_length_le (by omega)] at hJ2
        exact hJ2
  · intro _ hJ
    rw [List.take_length] at hJ
    simp only [RS, LS, SY, ne_eq, isFl, floatV, constA, thenQ, blockQ, pack, intA, boolA, eqA, unA, nilcA, asI, asB, asS, loadA, idxA, lenA, slcA, AV.flat, AV.one, zA1, storeA, toD, srcOf, copyA, ↓reduceIte, reduceCtorEq, List.replicate, Nat.reduceBEq, Nat.reduceAdd, Nat.reduceMul, Nat.reduceSub, Nat.reduceLeDiff, Nat.reduceLT, Int.reduceToNat, Nat.reduceEqDiff, Int.reduceEq]
    repeat' (first | refine AW.seq' ?_ | with_reducible refine AW.blockS rfl ?_ | ((first | refine AW.ops ?_ | refine AW.draw ?_ | refine AW.skip ?_ | refine AW.ret ?_ | refine AW.exit ?_) <;> simp only [RS, LS, SY, ne_eq, isFl, floatV, constA, thenQ, blockQ, pack, intA, boolA, eqA, unA, nilcA, asI, asB, asS, loadA, idxA, lenA, slcA, AV.flat, AV.one, zA1, storeA, toD, srcOf, copyA, ↓reduceIte, reduceCtorEq, List.replicate, Nat.reduceBEq, Nat.reduceAdd, Nat.reduceMul, Nat.reduceSub, Nat.reduceLeDiff, Nat.reduceLT, Int.reduceToNat, Nat.reduceEqDiff, Int.reduceEq, hJ]) | refine AW.condT rfl ?_ | refine AW.condF rfl ?_ | ((first | (refine GI.of (fun h => ?_) (fun h => ?_) ?emm; case emm => first | exact Classical.em _ | exact (Classical.em _).symm | grind) | (refine GD.of (fun h => ?_) (fun h => ?_) ?emm; case emm => first | exact Classical.em _ | exact (Classical.em _).symm | grind)) <;> simp only [RS, LS, SY, ne_eq, isFl, floatV, constA, thenQ, blockQ, pack, intA, boolA, eqA, unA, nilcA, asI, asB, asS, loadA, idxA, lenA, slcA, AV.flat, AV.one, zA1, storeA, toD, srcOf, copyA, ↓reduceIte, reduceCtorEq, List.replicate, Nat.reduceBEq, Nat.reduceAdd, Nat.reduceMul, Nat.reduceSub, Nat.reduceLeDiff, Nat.reduceLT, Int.reduceToNat, Nat.reduceEqDiff, Int.reduceEq, hJ, h]) | (refine AW.condP rfl (fun h => ?_) (fun h => ?_) <;> try simp only [Bool.and_eq_true, decide_eq_true_eq, Bool.not_eq_true', decide_eq_false_iff_not, Bool.not_eq_false', Bool.not_eq_true, Bool.not_eq_false] at h) | refine And.intro (by omega) ?_ | fail)
end Go.Proofs.YtipanehdmhachaaGreatDoor.H
