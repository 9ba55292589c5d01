/- Chapter 8: pick; the sort of at most twelve numbers. -/
import Derived.Test.YtipanehdmhachaaGreatDoorHvD
set_option linter.unusedSimpArgs false
set_option linter.unusedVariables false
set_option linter.unusedSectionVars false
namespace Go.Proofs.YtipanehdmhachaaGreatDoor.H
variable [DR]
section
variable {P : Program} {f : FuncId} {vs : List AV} {α : Type} {T k : Nat} {g : α → List D} {l : List α} {s : St} {Q : AV → St → Prop}
theorem backN {x : Option Blk} (hx : ∀ r, x.map (renB r) = x) : backS [] s [x] = s ++ [x] := by
  cases x with
  | none =>
    unfold backS
    simp only [List.length_nil, List.drop_zero, List.map_cons, List.map_nil]
    refine congrArg (· ++ [none]) ?_
    refine List.ext_getElem? fun j => ?_
    rw [List.getElem?_map]
    by_cases hj : j < s.length
    · rw [List.getElem?_range hj]; simp [hj]
    · rw [List.getElem?_eq_none (by simp; omega), List.getElem?_eq_none (by omega)]; rfl
  | some b =>
    have hb : ∀ r, renB r b = b := fun r => by simpa using hx r
    unfold backS
    simp only [List.length_nil, List.drop_zero, List.map_cons, List.map_nil, hb]
    refine congrArg (· ++ [some b]) ?_
    refine List.ext_getElem? fun j => ?_
    rw [List.getElem?_map]
    by_cases hj : j < s.length
    · rw [List.getElem?_range hj]; simp [hj]
    · rw [List.getElem?_eq_none (by simp; omega), List.getElem?_eq_none (by omega)]; rfl
theorem gBg_ren (r : Nat → Nat) : (gBg T k g l).map (renB r) = gBg T k g l := by
  cases l with
  | nil => rfl
  | cons p l => rw [gBg_cons, Option.map_some, renB_rowsA]
theorem gBg_bel {n : Nat} : ∀ b, gBg T k g l = some b → belB n b = true := by
  cases l with
  | nil => intro b h; cases h
  | cons p l => intro b h; rw [gBg_cons, Option.some.injEq] at h; subst h; exact belB_rowsA ..
theorem renA_gVg (r : Nat → Nat) (i : Nat) : renA r (gVg i l) = gVg (r i) l := by
  cases l <;> rfl
/-- A call that makes a list that grows from nothing. -/
theorem own_call (h : ACalls P f vs [] fun v s' => v = gVg 0 l ∧ s' = [gBg T k g l]) (hb : belL 0 vs = true) (hq : Q (gVg s.length l) (s ++ [gBg T k g l])) : ACalls P f vs s Q :=
  ACalls.frame (ft := []) h (given_nil hb) fun v s' ⟨e1, e2⟩ => by
    subst e1 e2
    rw [backN fun r => gBg_ren r, renA_gVg]
    simpa [nmR] using hq
/-- Its list given up at once. -/
theorem own_frozen (h : ACalls P f vs [] fun v s' => v = gVg 0 l ∧ s' = [gBg T k g l]) : Fn P f vs (.d (.lst k (l.map g))) := by
  unfold Fn
  cases l with
  | nil =>
    have h1 : ACalls P f vs [] fun v s' => v = AV.d (.lst k []) := h.endW fun v s' ⟨e1, e2⟩ => ⟨_, by rw [e1]; exact .nil 0 k, rfl⟩
    exact h1.take fun v s' e => ⟨by rw [e]; rfl, fun i b hi => by simp at hi, e, by simp⟩
  | cons p l =>
    have h1 : ACalls P f vs [] fun v s' => v = AV.d (.lst k ((p :: l).map g)) := h.freeze fun v s' ⟨e1, e2⟩ => by
      subst e1 e2
      refine .inr ⟨0, T, k, (p :: l).map g, rfl, by simp [gVg, fitA], ?_⟩
      simp [gVg, frzA, List.take_of_length_le]
    exact h1.take fun v s' e => ⟨by rw [e]; rfl, fun i b hi => by simp at hi, e, by simp⟩
end
theorem pick_step {c m : List Int} {i : Nat} (hi : i < m.length) : pickP c (m.take (i + 1)) = pickP c (m.take i) ++ (if 0 ≤ m[i] then c[m[i].toNat]? else none).toList := by
  unfold pickP
  rw [List.take_succ_eq_append_getElem hi, List.filterMap_append]
  simp only [List.filterMap_cons, List.filterMap_nil]
  cases h : (if 0 ≤ m[i] then c[m[i].toNat]? else none) <;> rfl
theorem pick_len (c m : List Int) : (pickP c m).length ≤ m.length := List.length_filterMap_le ..
set_option maxHeartbeats 2000000 in
theorem pick0 (c m : List Int) (hc : c.length ≤ 4611686018427387904) (hm : m.length ≤ 1000) : ACalls Tryz.prog 108 [LI c, LI m] [] fun v s' => v = gVg 0 (pickP c m) ∧ s' = [gBg 3 1 inR1 (pickP c m)] := by
  refine ACalls.of fn108 (by simp) ?_
  unfold c108
  repeat' (first | refine AW.seq' ?_ | with_reducible refine AW.blockS rfl ?_ | ((first | refine AW.ops ?_ | refine AW.draw ?_ | refine AW.skip ?_ | refine AW.ret ?_ | refine AW.exit ?_) <;> simp only [RS, LS, SY, ne_eq, isFl, floatV, constA, thenQ, blockQ, pack, intA, boolA, eqA, unA, nilcA, asI, asB, asS, loadA, idxA, lenA, slcA, AV.flat, AV.one, zA1, storeA, toD, srcOf, copyA, ↓reduceIte, reduceCtorEq, List.replicate, Nat.reduceBEq, Nat.reduceAdd, Nat.reduceMul, Nat.reduceSub, Nat.reduceLeDiff, Nat.reduceLT, Int.reduceToNat, Nat.reduceEqDiff, Int.reduceEq]) | refine AW.condT rfl ?_ | refine AW.condF rfl ?_ | ((first | (refine GI.of (fun h => ?_) (fun h => ?_) ?emm; case emm => first | exact Classical.em _ | exact (Classical.em _).symm | grind) | (refine GD.of (fun h => ?_) (fun h => ?_) ?emm; case emm => first | exact Classical.em _ | exact (Classical.em _).symm | grind)) <;> simp only [RS, LS, SY, ne_eq, isFl, floatV, constA, thenQ, blockQ, pack, intA, boolA, eqA, unA, nilcA, asI, asB, asS, loadA, idxA, lenA, slcA, AV.flat, AV.one, zA1, storeA, toD, srcOf, copyA, ↓reduceIte, reduceCtorEq, List.replicate, Nat.reduceBEq, Nat.reduceAdd, Nat.reduceMul, Nat.reduceSub, Nat.reduceLeDiff, Nat.reduceLT, Int.reduceToNat, Nat.reduceEqDiff, Int.reduceEq, h]) | (refine AW.condP rfl (fun h => ?_) (fun h => ?_) <;> try simp only [Bool.and_eq_true, decide_eq_true_eq, Bool.not_eq_true', decide_eq_false_iff_not, Bool.not_eq_false', Bool.not_eq_true, Bool.not_eq_false] at h) | refine And.intro (by omega) ?_ | fail)
  refine AW.range (α := List Int) m.length (by omega) (by decide) (fun _ l => [(0, LI c), (8, LI m), (5, gVg 0 l)]) (fun _ l => [gBg 3 1 inR1 l]) (fun i l => l = pickP c (m.take i)) [] (by simp [pickP]) [0] ⟨rfl, by decide, rfl, by simp [NT, belA, tget, renA, gVg], trivial⟩ (by simp) ?_ ?_
  · intro i l hi hJ
    unfold c108_0
    have hst := pick_step (c := c) hi
    rw [← hJ] at hst
    have hll : l.length ≤ 1000 := by rw [hJ]; have := pick_len c (m.take i); rw [List.length_take] at this; omega
    have hskip : ¬ (0 ≤ m[i] ∧ m[i] < c.length) → pickP c (m.take (i + 1)) = l := fun hn => by
      rw [hst]
      by_cases h0 : 0 ≤ m[i]
      · rw [if_pos h0, List.getElem?_eq_none (by omega)]; simp
      · rw [if_neg h0]; simp
    have htake : ∀ (h0 : 0 ≤ m[i]) (h1 : m[i] < c.length), pickP c (m.take (i + 1)) = l ++ [c[m[i].toNat]'(by omega)] := fun h0 h1 => by
      rw [hst, if_pos h0, List.getElem?_eq_getElem (by omega)]; rfl
    by_cases hin : 0 ≤ m[i] ∧ m[i] < c.length
    · have hlt : m[i].toNat < c.length := by omega
      have ht := htake hin.1 hin.2
      generalize hz : c[m[i].toNat] = z at ht
      cases l with
      | nil =>
        rw [gVg_nil, gBg_nil]
        repeat' (first | refine AW.seq' ?_ | with_reducible refine AW.blockS rfl ?_ | ((first | refine AW.ops ?_ | refine AW.draw ?_ | refine AW.skip ?_ | refine AW.ret ?_ | refine AW.exit ?_) <;> simp only [RS, LS, SY, ne_eq, isFl, floatV, constA, thenQ, blockQ, pack, intA, boolA, eqA, unA, nilcA, asI, asB, asS, loadA, idxA, lenA, slcA, AV.flat, AV.one, zA1, storeA, toD, srcOf, copyA, ↓reduceIte, reduceCtorEq, List.replicate, Nat.reduceBEq, Nat.reduceAdd, Nat.reduceMul, Nat.reduceSub, Nat.reduceLeDiff, Nat.reduceLT, Int.reduceToNat, Nat.reduceEqDiff, Int.reduceEq, getD_map_lt hi, getD_map_lt hlt, hin.1, hin.2, hz]) | refine AW.condT rfl ?_ | refine AW.condF rfl ?_ | ((first | (refine GI.of (fun h => ?_) (fun h => ?_) ?emm; case emm => first | exact Classical.em _ | exact (Classical.em _).symm | grind) | (refine GD.of (fun h => ?_) (fun h => ?_) ?emm; case emm => first | exact Classical.em _ | exact (Classical.em _).symm | grind)) <;> simp only [RS, LS, SY, ne_eq, isFl, floatV, constA, thenQ, blockQ, pack, intA, boolA, eqA, unA, nilcA, asI, asB, asS, loadA, idxA, lenA, slcA, AV.flat, AV.one, zA1, storeA, toD, srcOf, copyA, ↓reduceIte, reduceCtorEq, List.replicate, Nat.reduceBEq, Nat.reduceAdd, Nat.reduceMul, Nat.reduceSub, Nat.reduceLeDiff, Nat.reduceLT, Int.reduceToNat, Nat.reduceEqDiff, Int.reduceEq, getD_map_lt hi, getD_map_lt hlt, hin.1, hin.2, hz, h]) | (refine AW.condP rfl (fun h => ?_) (fun h => ?_) <;> try simp only [Bool.and_eq_true, decide_eq_true_eq, Bool.not_eq_true', decide_eq_false_iff_not, Bool.not_eq_false', Bool.not_eq_true, Bool.not_eq_false] at h) | refine And.intro (by omega) ?_ | fail)
        exact ⟨[z], [1], by rw [ht]; rfl, rfl, by decide, rfl, by simp [NT, belA, tget, renA, gVg_cons, nmL], ⟨⟨rfl, rfl⟩, trivial⟩⟩
      | cons x l =>
        rw [gVg_cons, gBg_cons]
        have htk : List.take l.length (List.map inR1 l) = List.map inR1 l := List.take_of_length_le (by simp)
        have hl2 : l.length + 1 ≤ 1000 := hll
        repeat' (first | refine AW.seq' ?_ | with_reducible refine AW.blockS rfl ?_ | ((first | refine AW.ops ?_ | refine AW.draw ?_ | refine AW.skip ?_ | refine AW.ret ?_ | refine AW.exit ?_) <;> simp (disch := omega) only [RS, LS, SY, ne_eq, isFl, floatV, constA, thenQ, blockQ, pack, intA, boolA, eqA, unA, nilcA, asI, asB, asS, loadA, idxA, lenA, slcA, AV.flat, AV.one, zA1, storeA, toD, srcOf, copyA, ↓reduceIte, reduceCtorEq, List.replicate, Nat.reduceBEq, Nat.reduceAdd, Nat.reduceMul, Nat.reduceSub, Nat.reduceLeDiff, Nat.reduceLT, Int.reduceToNat, Nat.reduceEqDiff, Int.reduceEq, wrap_id, getD_map_lt hi, getD_map_lt hlt, hin.1, hin.2, hz, htk]) | refine AW.condT rfl ?_ | refine AW.condF rfl ?_ | ((first | (refine GI.of (fun h => ?_) (fun h => ?_) ?emm; case emm => first | exact Classical.em _ | exact (Classical.em _).symm | grind) | (refine GD.of (fun h => ?_) (fun h => ?_) ?emm; case emm => first | exact Classical.em _ | exact (Classical.em _).symm | grind)) <;> simp (disch := omega) only [RS, LS, SY, ne_eq, isFl, floatV, constA, thenQ, blockQ, pack, intA, boolA, eqA, unA, nilcA, asI, asB, asS, loadA, idxA, lenA, slcA, AV.flat, AV.one, zA1, storeA, toD, srcOf, copyA, ↓reduceIte, reduceCtorEq, List.replicate, Nat.reduceBEq, Nat.reduceAdd, Nat.reduceMul, Nat.reduceSub, Nat.reduceLeDiff, Nat.reduceLT, Int.reduceToNat, Nat.reduceEqDiff, Int.reduceEq, wrap_id, getD_map_lt hi, getD_map_lt hlt, hin.1, hin.2, hz, htk, h]) | (refine AW.condP rfl (fun h => ?_) (fun h => ?_) <;> try simp only [Bool.and_eq_true, decide_eq_true_eq, Bool.not_eq_true', decide_eq_false_iff_not, Bool.not_eq_false', Bool.not_eq_true, Bool.not_eq_false] at h) | refine And.intro (by omega) ?_ | fail)
        have e : rowsA (ints (x :: (l ++ [z]))) = [AV.d (dI x)] :: (rowsA (List.map inR1 l) ++ [[AV.d (dI z)]]) := by simp [rowsA, ints]
        exact ⟨x :: (l ++ [z]), [1], by rw [ht]; rfl, rfl, by decide, rfl, by simp [NT, belA, tget, renA, gVg_cons, nmL], ⟨⟨belB_rowsA _ _ _ (ints (x :: (l ++ [z]))), by rw [renB_rowsA, e]; rfl⟩, trivial⟩⟩
    · have hsk := hskip hin
      have hbe : ∀ b, gBg 3 1 inR1 l = some b → belB [gBg 3 1 inR1 l].length b = true := fun b hb => gBg_bel b hb
      by_cases h0 : 0 ≤ m[i]
      · have h1 : ¬ m[i] < c.length := fun h => hin ⟨h0, h⟩
        cases l with
        | nil =>
          rw [gVg_nil, gBg_nil]
          repeat' (first | refine AW.seq' ?_ | with_reducible refine AW.blockS rfl ?_ | ((first | refine AW.ops ?_ | refine AW.draw ?_ | refine AW.skip ?_ | refine AW.ret ?_ | refine AW.exit ?_) <;> simp only [RS, LS, SY, ne_eq, isFl, floatV, constA, thenQ, blockQ, pack, intA, boolA, eqA, unA, nilcA, asI, asB, asS, loadA, idxA, lenA, slcA, AV.flat, AV.one, zA1, storeA, toD, srcOf, copyA, ↓reduceIte, reduceCtorEq, List.replicate, Nat.reduceBEq, Nat.reduceAdd, Nat.reduceMul, Nat.reduceSub, Nat.reduceLeDiff, Nat.reduceLT, Int.reduceToNat, Nat.reduceEqDiff, Int.reduceEq, getD_map_lt hi, h0, h1]) | refine AW.condT rfl ?_ | refine AW.condF rfl ?_ | ((first | (refine GI.of (fun h => ?_) (fun h => ?_) ?emm; case emm => first | exact Classical.em _ | exact (Classical.em _).symm | grind) | (refine GD.of (fun h => ?_) (fun h => ?_) ?emm; case emm => first | exact Classical.em _ | exact (Classical.em _).symm | grind)) <;> simp only [RS, LS, SY, ne_eq, isFl, floatV, constA, thenQ, blockQ, pack, intA, boolA, eqA, unA, nilcA, asI, asB, asS, loadA, idxA, lenA, slcA, AV.flat, AV.one, zA1, storeA, toD, srcOf, copyA, ↓reduceIte, reduceCtorEq, List.replicate, Nat.reduceBEq, Nat.reduceAdd, Nat.reduceMul, Nat.reduceSub, Nat.reduceLeDiff, Nat.reduceLT, Int.reduceToNat, Nat.reduceEqDiff, Int.reduceEq, getD_map_lt hi, h0, h1, h]) | (refine AW.condP rfl (fun h => ?_) (fun h => ?_) <;> try simp only [Bool.and_eq_true, decide_eq_true_eq, Bool.not_eq_true', decide_eq_false_iff_not, Bool.not_eq_false', Bool.not_eq_true, Bool.not_eq_false] at h) | refine And.intro (by omega) ?_ | fail)
          exact ⟨[], [0], hsk.symm, rfl, by decide, rfl, by simp [NT, belA, tget, renA, gVg_nil, nmL], trivial⟩
        | cons x l =>
          rw [gVg_cons, gBg_cons]
          repeat' (first | refine AW.seq' ?_ | with_reducible refine AW.blockS rfl ?_ | ((first | refine AW.ops ?_ | refine AW.draw ?_ | refine AW.skip ?_ | refine AW.ret ?_ | refine AW.exit ?_) <;> simp only [RS, LS, SY, ne_eq, isFl, floatV, constA, thenQ, blockQ, pack, intA, boolA, eqA, unA, nilcA, asI, asB, asS, loadA, idxA, lenA, slcA, AV.flat, AV.one, zA1, storeA, toD, srcOf, copyA, ↓reduceIte, reduceCtorEq, List.replicate, Nat.reduceBEq, Nat.reduceAdd, Nat.reduceMul, Nat.reduceSub, Nat.reduceLeDiff, Nat.reduceLT, Int.reduceToNat, Nat.reduceEqDiff, Int.reduceEq, getD_map_lt hi, h0, h1]) | refine AW.condT rfl ?_ | refine AW.condF rfl ?_ | ((first | (refine GI.of (fun h => ?_) (fun h => ?_) ?emm; case emm => first | exact Classical.em _ | exact (Classical.em _).symm | grind) | (refine GD.of (fun h => ?_) (fun h => ?_) ?emm; case emm => first | exact Classical.em _ | exact (Classical.em _).symm | grind)) <;> simp only [RS, LS, SY, ne_eq, isFl, floatV, constA, thenQ, blockQ, pack, intA, boolA, eqA, unA, nilcA, asI, asB, asS, loadA, idxA, lenA, slcA, AV.flat, AV.one, zA1, storeA, toD, srcOf, copyA, ↓reduceIte, reduceCtorEq, List.replicate, Nat.reduceBEq, Nat.reduceAdd, Nat.reduceMul, Nat.reduceSub, Nat.reduceLeDiff, Nat.reduceLT, Int.reduceToNat, Nat.reduceEqDiff, Int.reduceEq, getD_map_lt hi, h0, h1, h]) | (refine AW.condP rfl (fun h => ?_) (fun h => ?_) <;> try simp only [Bool.and_eq_true, decide_eq_true_eq, Bool.not_eq_true', decide_eq_false_iff_not, Bool.not_eq_false', Bool.not_eq_true, Bool.not_eq_false] at h) | refine And.intro (by omega) ?_ | fail)
          exact ⟨x :: l, [0], hsk.symm, rfl, by decide, rfl, by simp [NT, belA, tget, renA, gVg_cons, nmL], ⟨⟨belB_rowsA .., by rw [renB_rowsA]; rfl⟩, trivial⟩⟩
      · cases l with
        | nil =>
          rw [gVg_nil, gBg_nil]
          repeat' (first | refine AW.seq' ?_ | with_reducible refine AW.blockS rfl ?_ | ((first | refine AW.ops ?_ | refine AW.draw ?_ | refine AW.skip ?_ | refine AW.ret ?_ | refine AW.exit ?_) <;> simp only [RS, LS, SY, ne_eq, isFl, floatV, constA, thenQ, blockQ, pack, intA, boolA, eqA, unA, nilcA, asI, asB, asS, loadA, idxA, lenA, slcA, AV.flat, AV.one, zA1, storeA, toD, srcOf, copyA, ↓reduceIte, reduceCtorEq, List.replicate, Nat.reduceBEq, Nat.reduceAdd, Nat.reduceMul, Nat.reduceSub, Nat.reduceLeDiff, Nat.reduceLT, Int.reduceToNat, Nat.reduceEqDiff, Int.reduceEq, getD_map_lt hi, h0]) | refine AW.condT rfl ?_ | refine AW.condF rfl ?_ | ((first | (refine GI.of (fun h => ?_) (fun h => ?_) ?emm; case emm => first | exact Classical.em _ | exact (Classical.em _).symm | grind) | (refine GD.of (fun h => ?_) (fun h => ?_) ?emm; case emm => first | exact Classical.em _ | exact (Classical.em _).symm | grind)) <;> simp only [RS, LS, SY, ne_eq, isFl, floatV, constA, thenQ, blockQ, pack, intA, boolA, eqA, unA, nilcA, asI, asB, asS, loadA, idxA, lenA, slcA, AV.flat, AV.one, zA1, storeA, toD, srcOf, copyA, ↓reduceIte, reduceCtorEq, List.replicate, Nat.reduceBEq, Nat.reduceAdd, Nat.reduceMul, Nat.reduceSub, Nat.reduceLeDiff, Nat.reduceLT, Int.reduceToNat, Nat.reduceEqDiff, Int.reduceEq, getD_map_lt hi, h0, h]) | (refine AW.condP rfl (fun h => ?_) (fun h => ?_) <;> try simp only [Bool.and_eq_true, decide_eq_true_eq, Bool.not_eq_true', decide_eq_false_iff_not, Bool.not_eq_false', Bool.not_eq_true, Bool.not_eq_false] at h) | refine And.intro (by omega) ?_ | fail)
          exact ⟨[], [0], hsk.symm, rfl, by decide, rfl, by simp [NT, belA, tget, renA, gVg_nil, nmL], trivial⟩
        | cons x l =>
          rw [gVg_cons, gBg_cons]
          repeat' (first | refine AW.seq' ?_ | with_reducible refine AW.blockS rfl ?_ | ((first | refine AW.ops ?_ | refine AW.draw ?_ | refine AW.skip ?_ | refine AW.ret ?_ | refine AW.exit ?_) <;> simp only [RS, LS, SY, ne_eq, isFl, floatV, constA, thenQ, blockQ, pack, intA, boolA, eqA, unA, nilcA, asI, asB, asS, loadA, idxA, lenA, slcA, AV.flat, AV.one, zA1, storeA, toD, srcOf, copyA, ↓reduceIte, reduceCtorEq, List.replicate, Nat.reduceBEq, Nat.reduceAdd, Nat.reduceMul, Nat.reduceSub, Nat.reduceLeDiff, Nat.reduceLT, Int.reduceToNat, Nat.reduceEqDiff, Int.reduceEq, getD_map_lt hi, h0]) | refine AW.condT rfl ?_ | refine AW.condF rfl ?_ | ((first | (refine GI.of (fun h => ?_) (fun h => ?_) ?emm; case emm => first | exact Classical.em _ | exact (Classical.em _).symm | grind) | (refine GD.of (fun h => ?_) (fun h => ?_) ?emm; case emm => first | exact Classical.em _ | exact (Classical.em _).symm | grind)) <;> simp only [RS, LS, SY, ne_eq, isFl, floatV, constA, thenQ, blockQ, pack, intA, boolA, eqA, unA, nilcA, asI, asB, asS, loadA, idxA, lenA, slcA, AV.flat, AV.one, zA1, storeA, toD, srcOf, copyA, ↓reduceIte, reduceCtorEq, List.replicate, Nat.reduceBEq, Nat.reduceAdd, Nat.reduceMul, Nat.reduceSub, Nat.reduceLeDiff, Nat.reduceLT, Int.reduceToNat, Nat.reduceEqDiff, Int.reduceEq, getD_map_lt hi, h0, h]) | (refine AW.condP rfl (fun h => ?_) (fun h => ?_) <;> try simp only [Bool.and_eq_true, decide_eq_true_eq, Bool.not_eq_true', decide_eq_false_iff_not, Bool.not_eq_false', Bool.not_eq_true, Bool.not_eq_false] at h) | refine And.intro (by omega) ?_ | fail)
          exact ⟨x :: l, [0], hsk.symm, rfl, by decide, rfl, by simp [NT, belA, tget, renA, gVg_cons, nmL], ⟨⟨belB_rowsA .., by rw [renB_rowsA]; rfl⟩, trivial⟩⟩
  · intro l hJ
    rw [List.take_length] at hJ
    subst hJ
    simp only [RS, LS, SY, ne_eq, isFl, floatV, constA, thenQ, blockQ, pack, intA, boolA, eqA, unA, nilcA, asI, asB, asS, loadA, idxA, lenA, slcA, AV.flat, AV.one, zA1, storeA, toD, srcOf, copyA, ↓reduceIte, reduceCtorEq, List.replicate, Nat.reduceBEq, Nat.reduceAdd, Nat.reduceMul, Nat.reduceSub, Nat.reduceLeDiff, Nat.reduceLT, Int.reduceToNat, Nat.reduceEqDiff, Int.reduceEq]
    repeat' (first | refine AW.seq' ?_ | with_reducible refine AW.blockS rfl ?_ | ((first | refine AW.ops ?_ | refine AW.draw ?_ | refine AW.skip ?_ | refine AW.ret ?_ | refine AW.exit ?_) <;> simp only [RS, LS, SY, ne_eq, isFl, floatV, constA, thenQ, blockQ, pack, intA, boolA, eqA, unA, nilcA, asI, asB, asS, loadA, idxA, lenA, slcA, AV.flat, AV.one, zA1, storeA, toD, srcOf, copyA, ↓reduceIte, reduceCtorEq, List.replicate, Nat.reduceBEq, Nat.reduceAdd, Nat.reduceMul, Nat.reduceSub, Nat.reduceLeDiff, Nat.reduceLT, Int.reduceToNat, Nat.reduceEqDiff, Int.reduceEq]) | refine AW.condT rfl ?_ | refine AW.condF rfl ?_ | ((first | (refine GI.of (fun h => ?_) (fun h => ?_) ?emm; case emm => first | exact Classical.em _ | exact (Classical.em _).symm | grind) | (refine GD.of (fun h => ?_) (fun h => ?_) ?emm; case emm => first | exact Classical.em _ | exact (Classical.em _).symm | grind)) <;> simp only [RS, LS, SY, ne_eq, isFl, floatV, constA, thenQ, blockQ, pack, intA, boolA, eqA, unA, nilcA, asI, asB, asS, loadA, idxA, lenA, slcA, AV.flat, AV.one, zA1, storeA, toD, srcOf, copyA, ↓reduceIte, reduceCtorEq, List.replicate, Nat.reduceBEq, Nat.reduceAdd, Nat.reduceMul, Nat.reduceSub, Nat.reduceLeDiff, Nat.reduceLT, Int.reduceToNat, Nat.reduceEqDiff, Int.reduceEq, h]) | (refine AW.condP rfl (fun h => ?_) (fun h => ?_) <;> try simp only [Bool.and_eq_true, decide_eq_true_eq, Bool.not_eq_true', decide_eq_false_iff_not, Bool.not_eq_false', Bool.not_eq_true, Bool.not_eq_false] at h) | refine And.intro (by omega) ?_ | fail)
/-- The list is ordered up to i but for the place j, and nothing behind j is less than what lies there. -/
structure InJ (l cur : List Int) (i j : Nat) : Prop where
  len : cur.length = l.length
  mem : ∀ v, v ∈ cur ↔ v ∈ l
  ji : j ≤ i
  il : i < l.length
  ord : ∀ (p q : Nat) (hq : q < cur.length) (hpq : p < q), q ≤ i → p ≠ j → q ≠ j → cur[p]'(by omega) ≤ cur[q]
  low : ∀ (q : Nat) (hq : q < cur.length), j < q → q ≤ i → cur[j]'(by omega) ≤ cur[q]
theorem swap_mem {l : List Int} {i j : Nat} (hi : i < l.length) (hj : j < l.length) (v : Int) : v ∈ (l.set i l[j]).set j l[i] ↔ v ∈ l := by
  simp only [List.mem_iff_getElem]
  constructor
  · rintro ⟨k, hk, rfl⟩
    simp only [List.length_set] at hk
    rw [List.getElem_set]
    split
    · exact ⟨i, hi, rfl⟩
    · rw [List.getElem_set]
      split
      · exact ⟨j, hj, rfl⟩
      · exact ⟨k, hk, rfl⟩
  · rintro ⟨k, hk, rfl⟩
    by_cases e : k = i
    · subst e; exact ⟨j, by simpa using hj, by simp⟩
    · by_cases e2 : k = j
      · subst e2
        refine ⟨i, by simpa using hi, ?_⟩
        rw [List.getElem_set, if_neg e, List.getElem_set, if_pos rfl]
      · exact ⟨k, by simpa using hk, by rw [List.getElem_set, if_neg (Ne.symm e2), List.getElem_set, if_neg (Ne.symm e)]⟩
theorem InJ.step {l cur : List Int} {i j : Nat} (h : InJ l cur i j) (h0 : 0 < j) (hj : j < cur.length) (hlt : cur[j] < cur[j - 1]) : InJ l ((cur.set j cur[j - 1]).set (j - 1) cur[j]) i (j - 1) := by
  obtain ⟨h1, h2, h3, h4, h5, h6⟩ := h
  have get : ∀ (q : Nat) (hq : q < cur.length), ((cur.set j cur[j - 1]).set (j - 1) cur[j])[q]'(by simpa using hq) = if q = j - 1 then cur[j] else if q = j then cur[j - 1] else cur[q] := fun q hq => by
    rw [List.getElem_set]
    by_cases e : q = j - 1
    · rw [if_pos e.symm, if_pos e]
    · rw [if_neg (Ne.symm e), if_neg e, List.getElem_set]
      by_cases e2 : q = j
      · rw [if_pos e2.symm, if_pos e2]
      · rw [if_neg (Ne.symm e2), if_neg e2]
  refine ⟨by simpa using h1, fun v => by rw [swap_mem hj (by omega), h2], by omega, h4, fun p q hq hpq hqi hp hq1 => ?_, fun q hq hjq hqi => ?_⟩
  · simp only [List.length_set] at hq
    rw [get p (by omega), get q hq, if_neg hp, if_neg hq1]
    by_cases e : q = j
    · rw [if_pos e, if_neg (by omega)]
      exact h5 p (j - 1) (by omega) (by omega) (by omega) (by omega) (by omega)
    · rw [if_neg e]
      by_cases e2 : p = j
      · rw [if_pos e2]
        exact h5 (j - 1) q hq (by omega) hqi (by omega) e
      · rw [if_neg e2]; exact h5 p q hq hpq hqi e2 e
  · simp only [List.length_set] at hq
    rw [get (j - 1) (by omega), get q hq, if_pos rfl, if_neg (by omega)]
    by_cases e : q = j
    · rw [if_pos e]; omega
    · rw [if_neg e]; exact h6 q hq (by omega) hqi
theorem InJ.done {l cur : List Int} {i j : Nat} (h : InJ l cur i j) (hs : ∀ (_ : 0 < j) (hj : j < cur.length), ¬ cur[j] < cur[j - 1]) : ∀ (p q : Nat) (hq : q < cur.length) (hpq : p < q), q < i + 1 → cur[p]'(by omega) ≤ cur[q] := by
  obtain ⟨h1, h2, h3, h4, h5, h6⟩ := h
  intro p q hq hpq hqi
  by_cases e : p = j
  · subst e; exact h6 q hq hpq (by omega)
  · by_cases e2 : q = j
    · subst e2
      have := hs (by omega) hq
      by_cases e3 : p = q - 1
      · subst e3; omega
      · have := h5 p (q - 1) (by omega) (by omega) (by omega) e (by omega); omega
    · exact h5 p q hq hpq (by omega) e e2
theorem rowsA_ints {o : List Int} {i : Nat} (h : i < o.length) : (rowsA (ints o)).getD i [] = [AI .i64 o[i]] := by simp [rowsA, h]
theorem rowsA_set {o : List Int} {i : Nat} {v : Int} : (rowsA (ints o)).set i [AI .i64 v] = rowsA (ints (o.set i v)) := by
  simp [rowsA, List.map_set]
/-- What a sort leaves. -/
def SrtQ (l : List Int) (v : AV) (s' : St) : Prop := ∃ l' : List Int, l'.length = l.length ∧ (∀ v, v ∈ l' ↔ v ∈ l) ∧ l'.Pairwise (· ≤ ·) ∧ v = .tup [] ∧ s' = [some (.cells 3 1 (rowsA (ints l')))]
set_option maxHeartbeats 1000000 in
theorem insertion_ok (l : List Int) (hl : l.length ≤ 12) : ACalls Tryz.prog 153 [.own 0 0 l.length, AI .i64 0, AI .i64 l.length] [some (.cells 3 1 (rowsA (ints l)))] (SrtQ l) := by
  refine ACalls.of fn153 (by simp) ?_
  unfold c153
  repeat' (first | refine AW.seq' ?_ | with_reducible refine AW.blockS rfl ?_ | ((first | refine AW.ops ?_ | refine AW.draw ?_ | refine AW.skip ?_ | refine AW.ret ?_ | refine AW.exit ?_) <;> simp (disch := omega) only [RS, LS, SY, ne_eq, isFl, floatV, constA, thenQ, blockQ, pack, intA, boolA, eqA, unA, nilcA, asI, asB, asS, loadA, idxA, lenA, slcA, AV.flat, AV.one, zA1, storeA, toD, srcOf, copyA, ↓reduceIte, reduceCtorEq, List.replicate, Nat.reduceBEq, Nat.reduceAdd, Nat.reduceMul, Nat.reduceSub, Nat.reduceLeDiff, Nat.reduceLT, Int.reduceToNat, Nat.reduceEqDiff, Int.reduceEq, wrap_id]) | refine AW.condT rfl ?_ | refine AW.condF rfl ?_ | ((first | (refine GI.of (fun h => ?_) (fun h => ?_) ?emm; case emm => first | exact Classical.em _ | exact (Classical.em _).symm | grind) | (refine GD.of (fun h => ?_) (fun h => ?_) ?emm; case emm => first | exact Classical.em _ | exact (Classical.em _).symm | grind)) <;> simp (disch := omega) only [RS, LS, SY, ne_eq, isFl, floatV, constA, thenQ, blockQ, pack, intA, boolA, eqA, unA, nilcA, asI, asB, asS, loadA, idxA, lenA, slcA, AV.flat, AV.one, zA1, storeA, toD, srcOf, copyA, ↓reduceIte, reduceCtorEq, List.replicate, Nat.reduceBEq, Nat.reduceAdd, Nat.reduceMul, Nat.reduceSub, Nat.reduceLeDiff, Nat.reduceLT, Int.reduceToNat, Nat.reduceEqDiff, Int.reduceEq, wrap_id, h]) | (refine AW.condP rfl (fun h => ?_) (fun h => ?_) <;> try simp only [Bool.and_eq_true, decide_eq_true_eq, Bool.not_eq_true', decide_eq_false_iff_not, Bool.not_eq_false', Bool.not_eq_true, Bool.not_eq_false] at h) | refine And.intro (by omega) ?_ | fail)
  refine AW.block ?_
  refine AW.loopA (α := List Int × Nat) (fun x => l.length + 1 - x.2) (fun x => [(6, AI .i64 x.2), (0, .own 0 0 l.length), (1, AI .i64 0), (2, AI .i64 l.length)]) (fun x => [some (.cells 3 1 (rowsA (ints x.1)))]) (fun x => x.1.length = l.length ∧ (∀ v, v ∈ x.1 ↔ v ∈ l) ∧ 1 ≤ x.2 ∧ x.2 ≤ l.length + 1 ∧ ∀ (p q : Nat) (hq : q < x.1.length) (hpq : p < q), q < x.2 → x.1[p]'(by omega) ≤ x.1[q]) (l, 1) ⟨rfl, fun _ => Iff.rfl, by simp, by simp, fun p q _ h1 h2 => by simp only at h2; omega⟩ [0] ⟨rfl, by decide, rfl, by simp [NT, belA, belL, tget, renA, renL, nmL], ⟨⟨belB_rowsA .., by rw [renB_rowsA]; rfl⟩, trivial⟩⟩ ?_
  rintro ⟨cur, i⟩ ⟨g1, g2, g3, g4, g5⟩
  simp only at g1 g2 g3 g4 g5 ⊢
  unfold c153_1
  by_cases hi : i < l.length
  · have hc : (i : Int) < l.length := by omega
    repeat' (first | refine AW.seq' ?_ | with_reducible refine AW.blockS rfl ?_ | ((first | refine AW.ops ?_ | refine AW.draw ?_ | refine AW.skip ?_ | refine AW.ret ?_ | refine AW.exit ?_) <;> simp only [RS, LS, SY, ne_eq, isFl, floatV, constA, thenQ, blockQ, pack, intA, boolA, eqA, unA, nilcA, asI, asB, asS, loadA, idxA, lenA, slcA, AV.flat, AV.one, zA1, storeA, toD, srcOf, copyA, ↓reduceIte, reduceCtorEq, List.replicate, Nat.reduceBEq, Nat.reduceAdd, Nat.reduceMul, Nat.reduceSub, Nat.reduceLeDiff, Nat.reduceLT, Int.reduceToNat, Nat.reduceEqDiff, Int.reduceEq, hc]) | refine AW.condT rfl ?_ | refine AW.condF rfl ?_ | ((first | (refine GI.of (fun h => ?_) (fun h => ?_) ?emm; case emm => first | exact Classical.em _ | exact (Classical.em _).symm | grind) | (refine GD.of (fun h => ?_) (fun h => ?_) ?emm; case emm => first | exact Classical.em _ | exact (Classical.em _).symm | grind)) <;> simp only [RS, LS, SY, ne_eq, isFl, floatV, constA, thenQ, blockQ, pack, intA, boolA, eqA, unA, nilcA, asI, asB, asS, loadA, idxA, lenA, slcA, AV.flat, AV.one, zA1, storeA, toD, srcOf, copyA, ↓reduceIte, reduceCtorEq, List.replicate, Nat.reduceBEq, Nat.reduceAdd, Nat.reduceMul, Nat.reduceSub, Nat.reduceLeDiff, Nat.reduceLT, Int.reduceToNat, Nat.reduceEqDiff, Int.reduceEq, hc, h]) | (refine AW.condP rfl (fun h => ?_) (fun h => ?_) <;> try simp only [Bool.and_eq_true, decide_eq_true_eq, Bool.not_eq_true', decide_eq_false_iff_not, Bool.not_eq_false', Bool.not_eq_true, Bool.not_eq_false] at h) | refine And.intro (by omega) ?_ | fail)
    refine AW.block ?_
    refine AW.loopA (α := List Int × Nat) (fun x => x.2) (fun x => [(7, AI .i64 x.2), (6, AI .i64 i), (0, .own 0 0 l.length), (1, AI .i64 0), (2, AI .i64 l.length)]) (fun x => [some (.cells 3 1 (rowsA (ints x.1)))]) (fun x => InJ l x.1 i x.2) (cur, i) ⟨g1, g2, Nat.le_refl _, hi, fun p q hq h1 h2 h3 h4 => g5 p q hq h1 (by omega), fun q hq h1 h2 => by omega⟩ [0] ⟨rfl, by decide, rfl, by simp [NT, belA, belL, tget, renA, renL, nmL], ⟨⟨belB_rowsA .., by rw [renB_rowsA]; rfl⟩, trivial⟩⟩ ?_
    rintro ⟨cu, j⟩ hJ
    simp only at hJ ⊢
    unfold c153_0
    have hcl := hJ.len
    have hji := hJ.ji
    have hjc : j < cu.length := by omega
    have hj1 : j - 1 < cu.length := by omega
    have e1 : ((j : Int) - 1).toNat = j - 1 := by omega
    have hend : (¬ 0 < j ∨ ¬ cu[j] < cu[j - 1]) → ∀ (p q : Nat) (hq : q < cu.length) (hpq : p < q), q < i + 1 → cu[p]'(by omega) ≤ cu[q] := fun hn => hJ.done fun h0 hj => by
      rcases hn with h | h
      · exact absurd h0 h
      · exact h
    have hrl : (rowsA (ints cu)).length = l.length := by rw [rowsA_len]; simpa using hcl
    by_cases h0 : 0 < j
    · have hj0 : (0 : Int) < j := by omega
      cases hlt : decide (cu[j] < cu[j - 1])
      · have hlt' := of_decide_eq_false hlt
        have hls := less_ok cu[j] cu[j - 1]
        rw [hlt] at hls
        repeat' (first | refine AW.seq' ?_ | with_reducible refine AW.blockS rfl ?_ | ((first | refine AW.ops ?_ | refine AW.draw ?_ | refine AW.skip ?_ | refine AW.ret ?_ | refine AW.exit ?_ | refine Fn.call (hls) rfl rfl ?_) <;> simp (disch := omega) only [RS, LS, SY, ne_eq, isFl, floatV, constA, thenQ, blockQ, pack, intA, boolA, eqA, unA, nilcA, asI, asB, asS, loadA, idxA, lenA, slcA, AV.flat, AV.one, zA1, storeA, toD, srcOf, copyA, ↓reduceIte, reduceCtorEq, List.replicate, Nat.reduceBEq, Nat.reduceAdd, Nat.reduceMul, Nat.reduceSub, Nat.reduceLeDiff, Nat.reduceLT, Int.reduceToNat, Nat.reduceEqDiff, Int.reduceEq, wrap_id, hj0, e1, rowsA_ints hjc, rowsA_ints hj1]) | refine AW.condT rfl ?_ | refine AW.condF rfl ?_ | ((first | (refine GI.of (fun h => ?_) (fun h => ?_) ?emm; case emm => first | exact Classical.em _ | exact (Classical.em _).symm | grind) | (refine GD.of (fun h => ?_) (fun h => ?_) ?emm; case emm => first | exact Classical.em _ | exact (Classical.em _).symm | grind)) <;> simp (disch := omega) only [RS, LS, SY, ne_eq, isFl, floatV, constA, thenQ, blockQ, pack, intA, boolA, eqA, unA, nilcA, asI, asB, asS, loadA, idxA, lenA, slcA, AV.flat, AV.one, zA1, storeA, toD, srcOf, copyA, ↓reduceIte, reduceCtorEq, List.replicate, Nat.reduceBEq, Nat.reduceAdd, Nat.reduceMul, Nat.reduceSub, Nat.reduceLeDiff, Nat.reduceLT, Int.reduceToNat, Nat.reduceEqDiff, Int.reduceEq, wrap_id, hj0, e1, rowsA_ints hjc, rowsA_ints hj1, h]) | (refine AW.condP rfl (fun h => ?_) (fun h => ?_) <;> try simp only [Bool.and_eq_true, decide_eq_true_eq, Bool.not_eq_true', decide_eq_false_iff_not, Bool.not_eq_false', Bool.not_eq_true, Bool.not_eq_false] at h) | refine And.intro (by omega) ?_ | fail)
        exact ⟨(cu, i + 1), [0], ⟨hcl, hJ.mem, by simp, by simp only; omega, hend (.inr hlt')⟩, by simp only; omega, rfl, by decide, rfl, by simp [NT, belA, belL, tget, renA, renL, nmL], ⟨⟨belB_rowsA .., by rw [renB_rowsA]; rfl⟩, trivial⟩⟩
      · have hlt' := of_decide_eq_true hlt
        have hls := less_ok cu[j] cu[j - 1]
        rw [hlt] at hls
        have hst := hJ.step h0 hjc hlt'
        repeat' (first | refine AW.seq' ?_ | with_reducible refine AW.blockS rfl ?_ | ((first | refine AW.ops ?_ | refine AW.draw ?_ | refine AW.skip ?_ | refine AW.ret ?_ | refine AW.exit ?_ | refine Fn.call (hls) rfl rfl ?_) <;> simp (disch := omega) only [RS, LS, SY, ne_eq, isFl, floatV, constA, thenQ, blockQ, pack, intA, boolA, eqA, unA, nilcA, asI, asB, asS, loadA, idxA, lenA, slcA, AV.flat, AV.one, zA1, storeA, toD, srcOf, copyA, ↓reduceIte, reduceCtorEq, List.replicate, Nat.reduceBEq, Nat.reduceAdd, Nat.reduceMul, Nat.reduceSub, Nat.reduceLeDiff, Nat.reduceLT, Int.reduceToNat, Nat.reduceEqDiff, Int.reduceEq, wrap_id, hj0, e1, rowsA_ints hjc, rowsA_ints hj1, hrl, List.length_set]) | refine AW.condT rfl ?_ | refine AW.condF rfl ?_ | ((first | (refine GI.of (fun h => ?_) (fun h => ?_) ?emm; case emm => first | exact Classical.em _ | exact (Classical.em _).symm | grind) | (refine GD.of (fun h => ?_) (fun h => ?_) ?emm; case emm => first | exact Classical.em _ | exact (Classical.em _).symm | grind)) <;> simp (disch := omega) only [RS, LS, SY, ne_eq, isFl, floatV, constA, thenQ, blockQ, pack, intA, boolA, eqA, unA, nilcA, asI, asB, asS, loadA, idxA, lenA, slcA, AV.flat, AV.one, zA1, storeA, toD, srcOf, copyA, ↓reduceIte, reduceCtorEq, List.replicate, Nat.reduceBEq, Nat.reduceAdd, Nat.reduceMul, Nat.reduceSub, Nat.reduceLeDiff, Nat.reduceLT, Int.reduceToNat, Nat.reduceEqDiff, Int.reduceEq, wrap_id, hj0, e1, rowsA_ints hjc, rowsA_ints hj1, hrl, List.length_set, h]) | (refine AW.condP rfl (fun h => ?_) (fun h => ?_) <;> try simp only [Bool.and_eq_true, decide_eq_true_eq, Bool.not_eq_true', decide_eq_false_iff_not, Bool.not_eq_false', Bool.not_eq_true, Bool.not_eq_false] at h) | refine And.intro (by omega) ?_ | fail)
        refine ⟨((cu.set j cu[j - 1]).set (j - 1) cu[j], j - 1), [0], hst, by simp only; omega, rfl, by decide, rfl, ?_, ⟨⟨belB_rowsA .., ?_⟩, trivial⟩⟩
        · have : ((j - 1 : Nat) : Int) = j - 1 := by omega
          simp [NT, belA, belL, tget, renA, renL, nmL, this]
        · rw [renB_rowsA, ← rowsA_set, ← rowsA_set]; rfl
    · have hj0 : ¬ (0 : Int) < j := by omega
      repeat' (first | refine AW.seq' ?_ | with_reducible refine AW.blockS rfl ?_ | ((first | refine AW.ops ?_ | refine AW.draw ?_ | refine AW.skip ?_ | refine AW.ret ?_ | refine AW.exit ?_) <;> simp (disch := omega) only [RS, LS, SY, ne_eq, isFl, floatV, constA, thenQ, blockQ, pack, intA, boolA, eqA, unA, nilcA, asI, asB, asS, loadA, idxA, lenA, slcA, AV.flat, AV.one, zA1, storeA, toD, srcOf, copyA, ↓reduceIte, reduceCtorEq, List.replicate, Nat.reduceBEq, Nat.reduceAdd, Nat.reduceMul, Nat.reduceSub, Nat.reduceLeDiff, Nat.reduceLT, Int.reduceToNat, Nat.reduceEqDiff, Int.reduceEq, wrap_id, hj0]) | refine AW.condT rfl ?_ | refine AW.condF rfl ?_ | ((first | (refine GI.of (fun h => ?_) (fun h => ?_) ?emm; case emm => first | exact Classical.em _ | exact (Classical.em _).symm | grind) | (refine GD.of (fun h => ?_) (fun h => ?_) ?emm; case emm => first | exact Classical.em _ | exact (Classical.em _).symm | grind)) <;> simp (disch := omega) only [RS, LS, SY, ne_eq, isFl, floatV, constA, thenQ, blockQ, pack, intA, boolA, eqA, unA, nilcA, asI, asB, asS, loadA, idxA, lenA, slcA, AV.flat, AV.one, zA1, storeA, toD, srcOf, copyA, ↓reduceIte, reduceCtorEq, List.replicate, Nat.reduceBEq, Nat.reduceAdd, Nat.reduceMul, Nat.reduceSub, Nat.reduceLeDiff, Nat.reduceLT, Int.reduceToNat, Nat.reduceEqDiff, Int.reduceEq, wrap_id, hj0, h]) | (refine AW.condP rfl (fun h => ?_) (fun h => ?_) <;> try simp only [Bool.and_eq_true, decide_eq_true_eq, Bool.not_eq_true', decide_eq_false_iff_not, Bool.not_eq_false', Bool.not_eq_true, Bool.not_eq_false] at h) | refine And.intro (by omega) ?_ | fail)
      exact ⟨(cu, i + 1), [0], ⟨hcl, hJ.mem, by simp, by simp only; omega, hend (.inl h0)⟩, by simp only; omega, rfl, by decide, rfl, by simp [NT, belA, belL, tget, renA, renL, nmL], ⟨⟨belB_rowsA .., by rw [renB_rowsA]; rfl⟩, trivial⟩⟩
  · have hc : ¬ (i : Int) < l.length := by omega
    repeat' (first | refine AW.seq' ?_ | with_reducible refine AW.blockS rfl ?_ | ((first | refine AW.ops ?_ | refine AW.draw ?_ | refine AW.skip ?_ | refine AW.ret ?_ | refine AW.exit ?_) <;> simp only [RS, LS, SY, ne_eq, isFl, floatV, constA, thenQ, blockQ, pack, intA, boolA, eqA, unA, nilcA, asI, asB, asS, loadA, idxA, lenA, slcA, AV.flat, AV.one, zA1, storeA, toD, srcOf, copyA, ↓reduceIte, reduceCtorEq, List.replicate, Nat.reduceBEq, Nat.reduceAdd, Nat.reduceMul, Nat.reduceSub, Nat.reduceLeDiff, Nat.reduceLT, Int.reduceToNat, Nat.reduceEqDiff, Int.reduceEq, hc]) | refine AW.condT rfl ?_ | refine AW.condF rfl ?_ | ((first | (refine GI.of (fun h => ?_) (fun h => ?_) ?emm; case emm => first | exact Classical.em _ | exact (Classical.em _).symm | grind) | (refine GD.of (fun h => ?_) (fun h => ?_) ?emm; case emm => first | exact Classical.em _ | exact (Classical.em _).symm | grind)) <;> simp only [RS, LS, SY, ne_eq, isFl, floatV, constA, thenQ, blockQ, pack, intA, boolA, eqA, unA, nilcA, asI, asB, asS, loadA, idxA, lenA, slcA, AV.flat, AV.one, zA1, storeA, toD, srcOf, copyA, ↓reduceIte, reduceCtorEq, List.replicate, Nat.reduceBEq, Nat.reduceAdd, Nat.reduceMul, Nat.reduceSub, Nat.reduceLeDiff, Nat.reduceLT, Int.reduceToNat, Nat.reduceEqDiff, Int.reduceEq, hc, h]) | (refine AW.condP rfl (fun h => ?_) (fun h => ?_) <;> try simp only [Bool.and_eq_true, decide_eq_true_eq, Bool.not_eq_true', decide_eq_false_iff_not, Bool.not_eq_false', Bool.not_eq_true, Bool.not_eq_false] at h) | refine And.intro (by omega) ?_ | fail)
    refine ⟨cur, g1, g2, ?_, rfl, rfl⟩
    rw [List.pairwise_iff_getElem]
    exact fun p q hp hq hpq => g5 p q hq hpq (by omega)
theorem pdq_ok (l : List Int) (hl : l.length ≤ 12) (lim : Int) : ACalls Tryz.prog 136 [.own 0 0 l.length, AI .i64 0, AI .i64 l.length, AI .i64 lim] [some (.cells 3 1 (rowsA (ints l)))] (SrtQ l) := by
  refine ACalls.of fn136 (by simp) ?_
  unfold c136
  repeat' (first | refine AW.seq' ?_ | with_reducible refine AW.blockS rfl ?_ | ((first | refine AW.ops ?_ | refine AW.draw ?_ | refine AW.skip ?_ | refine AW.ret ?_ | refine AW.exit ?_) <;> simp only [RS, LS, SY, ne_eq, isFl, floatV, constA, thenQ, blockQ, pack, intA, boolA, eqA, unA, nilcA, asI, asB, asS, loadA, idxA, lenA, slcA, AV.flat, AV.one, zA1, storeA, toD, srcOf, copyA, ↓reduceIte, reduceCtorEq, List.replicate, Nat.reduceBEq, Nat.reduceAdd, Nat.reduceMul, Nat.reduceSub, Nat.reduceLeDiff, Nat.reduceLT, Int.reduceToNat, Nat.reduceEqDiff, Int.reduceEq]) | refine AW.condT rfl ?_ | refine AW.condF rfl ?_ | ((first | (refine GI.of (fun h => ?_) (fun h => ?_) ?emm; case emm => first | exact Classical.em _ | exact (Classical.em _).symm | grind) | (refine GD.of (fun h => ?_) (fun h => ?_) ?emm; case emm => first | exact Classical.em _ | exact (Classical.em _).symm | grind)) <;> simp only [RS, LS, SY, ne_eq, isFl, floatV, constA, thenQ, blockQ, pack, intA, boolA, eqA, unA, nilcA, asI, asB, asS, loadA, idxA, lenA, slcA, AV.flat, AV.one, zA1, storeA, toD, srcOf, copyA, ↓reduceIte, reduceCtorEq, List.replicate, Nat.reduceBEq, Nat.reduceAdd, Nat.reduceMul, Nat.reduceSub, Nat.reduceLeDiff, Nat.reduceLT, Int.reduceToNat, Nat.reduceEqDiff, Int.reduceEq, h]) | (refine AW.condP rfl (fun h => ?_) (fun h => ?_) <;> try simp only [Bool.and_eq_true, decide_eq_true_eq, Bool.not_eq_true', decide_eq_false_iff_not, Bool.not_eq_false', Bool.not_eq_true, Bool.not_eq_false] at h) | refine And.intro (by omega) ?_ | fail)
  refine AW.block ?_
  refine AW.loopA (α := Unit) (fun _ => 0) (fun _ => [(0, .own 0 0 l.length), (1, AI .i64 0), (2, AI .i64 l.length)]) (fun _ => [some (.cells 3 1 (rowsA (ints l)))]) (fun _ => True) () trivial [0] ⟨rfl, by decide, rfl, by simp [NT, belA, belL, tget, renA, renL, nmL], ⟨⟨belB_rowsA .., by rw [renB_rowsA]; rfl⟩, trivial⟩⟩ ?_
  intro _ _
  unfold c136_0
  have hc : (l.length : Int) ≤ 12 := by omega
  repeat' (first | refine AW.seq' ?_ | with_reducible refine AW.blockS rfl ?_ | ((first | refine AW.ops ?_ | refine AW.draw ?_ | refine AW.skip ?_ | refine AW.ret ?_ | refine AW.exit ?_ |  refine (insertion_ok l hl).mono fun v s' hq => ?_) <;> simp (disch := omega) only [RS, LS, SY, ne_eq, isFl, floatV, constA, thenQ, blockQ, pack, intA, boolA, eqA, unA, nilcA, asI, asB, asS, loadA, idxA, lenA, slcA, AV.flat, AV.one, zA1, storeA, toD, srcOf, copyA, ↓reduceIte, reduceCtorEq, List.replicate, Nat.reduceBEq, Nat.reduceAdd, Nat.reduceMul, Nat.reduceSub, Nat.reduceLeDiff, Nat.reduceLT, Int.reduceToNat, Nat.reduceEqDiff, Int.reduceEq, wrap_id, hc, Int.sub_zero]) | refine AW.condT rfl ?_ | refine AW.condF rfl ?_ | ((first | (refine GI.of (fun h => ?_) (fun h => ?_) ?emm; case emm => first | exact Classical.em _ | exact (Classical.em _).symm | grind) | (refine GD.of (fun h => ?_) (fun h => ?_) ?emm; case emm => first | exact Classical.em _ | exact (Classical.em _).symm | grind)) <;> simp (disch := omega) only [RS, LS, SY, ne_eq, isFl, floatV, constA, thenQ, blockQ, pack, intA, boolA, eqA, unA, nilcA, asI, asB, asS, loadA, idxA, lenA, slcA, AV.flat, AV.one, zA1, storeA, toD, srcOf, copyA, ↓reduceIte, reduceCtorEq, List.replicate, Nat.reduceBEq, Nat.reduceAdd, Nat.reduceMul, Nat.reduceSub, Nat.reduceLeDiff, Nat.reduceLT, Int.reduceToNat, Nat.reduceEqDiff, Int.reduceEq, wrap_id, hc, Int.sub_zero, h]) | (refine AW.condP rfl (fun h => ?_) (fun h => ?_) <;> try simp only [Bool.and_eq_true, decide_eq_true_eq, Bool.not_eq_true', decide_eq_false_iff_not, Bool.not_eq_false', Bool.not_eq_true, Bool.not_eq_false] at h) | refine And.intro (by omega) ?_ | fail)
  obtain ⟨l', a, b, c, rfl, e⟩ := hq
  exact ⟨l', a, b, c, rfl, e⟩
def lenB (n : Nat) : Nat := if n = 0 then 0 else if n = 1 then 1 else if n < 4 then 2 else if n < 8 then 3 else 4
set_option maxRecDepth 100000 in
theorem len64_ok (n : Nat) (hn : n ≤ 12) : Fn Tryz.prog 120 [AI .u64 n] (AI .i64 (lenB n)) := by
  refine Fn.of fn120 (by simp) rfl ?_
  unfold c120
  generalize hs : ByteArray.mk _ = B
  have hsz : (B.size : Int) = 256 := by rw [← hs]; kernel_rfl
  have hall : (List.range 13).all (fun k => decide ((B.data.toList.getD k 0).toNat = lenB k)) = true := by rw [← hs]; kernel_rfl
  have hg : (B.data.toList.getD n 0).toNat = lenB n := of_decide_eq_true (List.all_eq_true.1 hall n (List.mem_range.2 (by omega)))
  have h4 : lenB n ≤ 4 := by unfold lenB; (repeat' split) <;> omega
  clear hs hall
  generalize lenB n = z at *
  have w1 : IntKind.u8.wrap (n : Int) = n := (by decide : ∀ k, k < 13 → IntKind.u8.wrap ((k : Nat) : Int) = k) n (by omega)
  have w2 : IntKind.i64.wrap (z : Int) = z := wrap_id (by omega) (by omega)
  have h1 : ¬ (4294967296 : Int) ≤ n := by omega
  have h2 : ¬ (65536 : Int) ≤ n := by omega
  have h3 : ¬ (256 : Int) ≤ n := by omega
  repeat' (first | refine AW.seq' ?_ | with_reducible refine AW.blockS rfl ?_ | ((first | refine AW.ops ?_ | refine AW.draw ?_ | refine AW.skip ?_ | refine AW.ret ?_ | refine AW.exit ?_) <;> simp only [RS, LS, SY, ne_eq, isFl, floatV, constA, thenQ, blockQ, pack, intA, boolA, eqA, unA, nilcA, asI, asB, asS, loadA, idxA, lenA, slcA, AV.flat, AV.one, zA1, storeA, toD, srcOf, copyA, ↓reduceIte, reduceCtorEq, List.replicate, Nat.reduceBEq, Nat.reduceAdd, Nat.reduceMul, Nat.reduceSub, Nat.reduceLeDiff, Nat.reduceLT, Int.reduceToNat, Nat.reduceEqDiff, Int.reduceEq, w1, w2, h1, h2, h3, hsz, hg, Int.zero_add, Int.toNat_natCast]) | refine AW.condT rfl ?_ | refine AW.condF rfl ?_ | ((first | (refine GI.of (fun h => ?_) (fun h => ?_) ?emm; case emm => first | exact Classical.em _ | exact (Classical.em _).symm | grind) | (refine GD.of (fun h => ?_) (fun h => ?_) ?emm; case emm => first | exact Classical.em _ | exact (Classical.em _).symm | grind)) <;> simp only [RS, LS, SY, ne_eq, isFl, floatV, constA, thenQ, blockQ, pack, intA, boolA, eqA, unA, nilcA, asI, asB, asS, loadA, idxA, lenA, slcA, AV.flat, AV.one, zA1, storeA, toD, srcOf, copyA, ↓reduceIte, reduceCtorEq, List.replicate, Nat.reduceBEq, Nat.reduceAdd, Nat.reduceMul, Nat.reduceSub, Nat.reduceLeDiff, Nat.reduceLT, Int.reduceToNat, Nat.reduceEqDiff, Int.reduceEq, w1, w2, h1, h2, h3, hsz, hg, Int.zero_add, Int.toNat_natCast, h]) | (refine AW.condP rfl (fun h => ?_) (fun h => ?_) <;> try simp only [Bool.and_eq_true, decide_eq_true_eq, Bool.not_eq_true', decide_eq_false_iff_not, Bool.not_eq_false', Bool.not_eq_true, Bool.not_eq_false] at h) | refine And.intro (by omega) ?_ | fail)
theorem blen_ok (n : Nat) (hn : n ≤ 12) : Fn Tryz.prog 91 [AI .u64 n] (AI .i64 (lenB n)) := by
  refine Fn.of fn91 (by simp) rfl ?_
  unfold c91
  repeat' (first | refine AW.seq' ?_ | with_reducible refine AW.blockS rfl ?_ | ((first | refine AW.ops ?_ | refine AW.draw ?_ | refine AW.skip ?_ | refine AW.ret ?_ | refine AW.exit ?_ | refine Fn.call (len64_ok n hn) rfl rfl ?_) <;> simp only [RS, LS, SY, ne_eq, isFl, floatV, constA, thenQ, blockQ, pack, intA, boolA, eqA, unA, nilcA, asI, asB, asS, loadA, idxA, lenA, slcA, AV.flat, AV.one, zA1, storeA, toD, srcOf, copyA, ↓reduceIte, reduceCtorEq, List.replicate, Nat.reduceBEq, Nat.reduceAdd, Nat.reduceMul, Nat.reduceSub, Nat.reduceLeDiff, Nat.reduceLT, Int.reduceToNat, Nat.reduceEqDiff, Int.reduceEq]) | refine AW.condT rfl ?_ | refine AW.condF rfl ?_ | ((first | (refine GI.of (fun h => ?_) (fun h => ?_) ?emm; case emm => first | exact Classical.em _ | exact (Classical.em _).symm | grind) | (refine GD.of (fun h => ?_) (fun h => ?_) ?emm; case emm => first | exact Classical.em _ | exact (Classical.em _).symm | grind)) <;> simp only [RS, LS, SY, ne_eq, isFl, floatV, constA, thenQ, blockQ, pack, intA, boolA, eqA, unA, nilcA, asI, asB, asS, loadA, idxA, lenA, slcA, AV.flat, AV.one, zA1, storeA, toD, srcOf, copyA, ↓reduceIte, reduceCtorEq, List.replicate, Nat.reduceBEq, Nat.reduceAdd, Nat.reduceMul, Nat.reduceSub, Nat.reduceLeDiff, Nat.reduceLT, Int.reduceToNat, Nat.reduceEqDiff, Int.reduceEq, h]) | (refine AW.condP rfl (fun h => ?_) (fun h => ?_) <;> try simp only [Bool.and_eq_true, decide_eq_true_eq, Bool.not_eq_true', decide_eq_false_iff_not, Bool.not_eq_false', Bool.not_eq_true, Bool.not_eq_false] at h) | refine And.intro (by omega) ?_ | fail)
theorem sort_ok (l : List Int) (hl : l.length ≤ 12) : ACalls Tryz.prog 109 [.own 0 0 l.length] [some (.cells 3 1 (rowsA (ints l)))] (SrtQ l) := by
  refine ACalls.of fn109 (by simp) ?_
  unfold c109
  have hw : IntKind.u64.wrap (l.length : Int) = l.length := (by decide : ∀ k, k < 13 → IntKind.u64.wrap ((k : Nat) : Int) = k) l.length (by omega)
  repeat' (first | refine AW.seq' ?_ | with_reducible refine AW.blockS rfl ?_ | ((first | refine AW.ops ?_ | refine AW.draw ?_ | refine AW.skip ?_ | refine AW.ret ?_ | refine AW.exit ?_ | refine Fn.call (blen_ok l.length hl) rfl rfl ?_ |  refine (pdq_ok l hl _).mono fun v s' hq => ?_) <;> simp only [RS, LS, SY, ne_eq, isFl, floatV, constA, thenQ, blockQ, pack, intA, boolA, eqA, unA, nilcA, asI, asB, asS, loadA, idxA, lenA, slcA, AV.flat, AV.one, zA1, storeA, toD, srcOf, copyA, ↓reduceIte, reduceCtorEq, List.replicate, Nat.reduceBEq, Nat.reduceAdd, Nat.reduceMul, Nat.reduceSub, Nat.reduceLeDiff, Nat.reduceLT, Int.reduceToNat, Nat.reduceEqDiff, Int.reduceEq, hw]) | refine AW.condT rfl ?_ | refine AW.condF rfl ?_ | ((first | (refine GI.of (fun h => ?_) (fun h => ?_) ?emm; case emm => first | exact Classical.em _ | exact (Classical.em _).symm | grind) | (refine GD.of (fun h => ?_) (fun h => ?_) ?emm; case emm => first | exact Classical.em _ | exact (Classical.em _).symm | grind)) <;> simp only [RS, LS, SY, ne_eq, isFl, floatV, constA, thenQ, blockQ, pack, intA, boolA, eqA, unA, nilcA, asI, asB, asS, loadA, idxA, lenA, slcA, AV.flat, AV.one, zA1, storeA, toD, srcOf, copyA, ↓reduceIte, reduceCtorEq, List.replicate, Nat.reduceBEq, Nat.reduceAdd, Nat.reduceMul, Nat.reduceSub, Nat.reduceLeDiff, Nat.reduceLT, Int.reduceToNat, Nat.reduceEqDiff, Int.reduceEq, hw, h]) | (refine AW.condP rfl (fun h => ?_) (fun h => ?_) <;> try simp only [Bool.and_eq_true, decide_eq_true_eq, Bool.not_eq_true', decide_eq_false_iff_not, Bool.not_eq_false', Bool.not_eq_true, Bool.not_eq_false] at h) | refine And.intro (by omega) ?_ | fail)
  obtain ⟨l', a, b, c, rfl, e⟩ := hq
  exact ⟨l', a, b, c, rfl, e⟩
end Go.Proofs.YtipanehdmhachaaGreatDoor.H
