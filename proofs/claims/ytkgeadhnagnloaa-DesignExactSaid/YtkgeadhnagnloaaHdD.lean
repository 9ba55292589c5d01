/- Chapter 26: equal lists; a part put into a list; the reference's union. -/
import Derived.Test.YtkgeadhnagnloaaHdC
set_option linter.unusedSimpArgs false
set_option linter.unusedVariables false
namespace Go.Proofs.Ytkgeadhnagnloaa.H
theorem rsame_ok (a b : List Pt) (ha : a.length ≤ 4611686018427387904) (hb : b.length ≤ 4611686018427387904) : Fn Try.prog 17 [LP a, LP b] (AB (decide (a = b))) := by
  refine Fn.of fn17 (by simp) rfl ?_
  unfold c17
  by_cases hl : a.length = b.length
  · have hl' : (a.length : Int) = b.length := by omega
    repeat' (first | refine AW.seq' ?_ | with_reducible refine AW.blockS rfl ?_ | ((first | refine AW.ops ?_ | refine AW.draw ?_ | refine AW.skip ?_ | refine AW.ret ?_ | refine AW.exit ?_) <;> simp only [RS, LS, SY, ne_eq, isFl, floatV, constA, thenQ, blockQ, pack, intA, boolA, eqA, unA, nilcA, asI, asB, asS, loadA, idxA, lenA, slcA, AV.flat, AV.one, zA1, storeA, toD, srcOf, copyA, ↓reduceIte, reduceCtorEq, List.replicate, Nat.reduceBEq, Nat.reduceAdd, Nat.reduceMul, Nat.reduceSub, Nat.reduceLeDiff, Nat.reduceLT, Int.reduceToNat, Nat.reduceEqDiff, Int.reduceEq, hl']) | refine AW.condT rfl ?_ | refine AW.condF rfl ?_ | ((first | refine GI.of (fun h => ?_) (fun h => ?_) (by first | exact Classical.em _ | exact (Classical.em _).symm | grind) | refine GD.of (fun h => ?_) (fun h => ?_) (by first | exact Classical.em _ | exact (Classical.em _).symm | grind)) <;> simp only [RS, LS, SY, ne_eq, isFl, floatV, constA, thenQ, blockQ, pack, intA, boolA, eqA, unA, nilcA, asI, asB, asS, loadA, idxA, lenA, slcA, AV.flat, AV.one, zA1, storeA, toD, srcOf, copyA, ↓reduceIte, reduceCtorEq, List.replicate, Nat.reduceBEq, Nat.reduceAdd, Nat.reduceMul, Nat.reduceSub, Nat.reduceLeDiff, Nat.reduceLT, Int.reduceToNat, Nat.reduceEqDiff, Int.reduceEq, hl', h]) | (refine AW.condP rfl (fun h => ?_) (fun h => ?_) <;> try simp only [Bool.and_eq_true, decide_eq_true_eq, Bool.not_eq_true', decide_eq_false_iff_not, Bool.not_eq_false', Bool.not_eq_true, Bool.not_eq_false] at h) | refine And.intro (by omega) ?_ | fail)
    refine AW.range (α := Unit) b.length hb (by decide) (fun _ _ => [(0, LP a), (1, LP b)]) (fun _ _ => []) (fun i _ => ∀ (j : Nat) (h : j < a.length), j < i → a[j] = b[j]'(by omega)) () (fun j h hj => by omega) [] ⟨rfl, by decide, rfl, by simp [NT, belA, tget, renA, hl], trivial⟩ (by simp) ?_ ?_
    · intro i _ hi hJ
      have hi' : i < a.length := by omega
      unfold c17_0
      have hc : (i : Int) < a.length := by omega
      repeat' (first | refine AW.seq' ?_ | with_reducible refine AW.blockS rfl ?_ | ((first | refine AW.ops ?_ | refine AW.draw ?_ | refine AW.skip ?_ | refine AW.ret ?_ | refine AW.exit ?_) <;> simp only [RS, LS, SY, ne_eq, isFl, floatV, constA, thenQ, blockQ, pack, intA, boolA, eqA, unA, nilcA, asI, asB, asS, loadA, idxA, lenA, slcA, AV.flat, AV.one, zA1, storeA, toD, srcOf, copyA, ↓reduceIte, reduceCtorEq, List.replicate, Nat.reduceBEq, Nat.reduceAdd, Nat.reduceMul, Nat.reduceSub, Nat.reduceLeDiff, Nat.reduceLT, Int.reduceToNat, Nat.reduceEqDiff, Int.reduceEq, getD_map_lt hi, getD_map_lt hi', hl']) | refine AW.condT rfl ?_ | refine AW.condF rfl ?_ | ((first | refine GI.of (fun h => ?_) (fun h => ?_) (by first | exact Classical.em _ | exact (Classical.em _).symm | grind) | refine GD.of (fun h => ?_) (fun h => ?_) (by first | exact Classical.em _ | exact (Classical.em _).symm | grind)) <;> simp only [RS, LS, SY, ne_eq, isFl, floatV, constA, thenQ, blockQ, pack, intA, boolA, eqA, unA, nilcA, asI, asB, asS, loadA, idxA, lenA, slcA, AV.flat, AV.one, zA1, storeA, toD, srcOf, copyA, ↓reduceIte, reduceCtorEq, List.replicate, Nat.reduceBEq, Nat.reduceAdd, Nat.reduceMul, Nat.reduceSub, Nat.reduceLeDiff, Nat.reduceLT, Int.reduceToNat, Nat.reduceEqDiff, Int.reduceEq, getD_map_lt hi, getD_map_lt hi', hl', h]) | (refine AW.condP rfl (fun h => ?_) (fun h => ?_) <;> try simp only [Bool.and_eq_true, decide_eq_true_eq, Bool.not_eq_true', decide_eq_false_iff_not, Bool.not_eq_false', Bool.not_eq_true, Bool.not_eq_false] at h) | refine And.intro (by omega) ?_ | fail)
      · rw [pt_eq] at h
        simp only [decide_eq_false_iff_not] at h
        rw [decide_eq_false fun e => h (by simp only [e])]
      · refine ⟨(), [], fun j hj hj' => ?_, rfl, by decide, rfl, by simp [NT, belA, tget, renA], trivial⟩
        by_cases e : j = i
        · subst e; exact Prod.ext h.1 h.2
        · exact hJ j hj (by omega)
    · intro _ hJ
      simp only [RS, LS, SY, ne_eq, isFl, floatV, constA, thenQ, blockQ, pack, intA, boolA, eqA, unA, nilcA, asI, asB, asS, loadA, idxA, lenA, slcA, AV.flat, AV.one, zA1, storeA, toD, srcOf, copyA, ↓reduceIte, reduceCtorEq, List.replicate, Nat.reduceBEq, Nat.reduceAdd, Nat.reduceMul, Nat.reduceSub, Nat.reduceLeDiff, Nat.reduceLT, Int.reduceToNat, Nat.reduceEqDiff, Int.reduceEq]
      repeat' (first | refine AW.seq' ?_ | with_reducible refine AW.blockS rfl ?_ | ((first | refine AW.ops ?_ | refine AW.draw ?_ | refine AW.skip ?_ | refine AW.ret ?_ | refine AW.exit ?_) <;> simp only [RS, LS, SY, ne_eq, isFl, floatV, constA, thenQ, blockQ, pack, intA, boolA, eqA, unA, nilcA, asI, asB, asS, loadA, idxA, lenA, slcA, AV.flat, AV.one, zA1, storeA, toD, srcOf, copyA, ↓reduceIte, reduceCtorEq, List.replicate, Nat.reduceBEq, Nat.reduceAdd, Nat.reduceMul, Nat.reduceSub, Nat.reduceLeDiff, Nat.reduceLT, Int.reduceToNat, Nat.reduceEqDiff, Int.reduceEq]) | refine AW.condT rfl ?_ | refine AW.condF rfl ?_ | ((first | refine GI.of (fun h => ?_) (fun h => ?_) (by first | exact Classical.em _ | exact (Classical.em _).symm | grind) | refine GD.of (fun h => ?_) (fun h => ?_) (by first | exact Classical.em _ | exact (Classical.em _).symm | grind)) <;> simp only [RS, LS, SY, ne_eq, isFl, floatV, constA, thenQ, blockQ, pack, intA, boolA, eqA, unA, nilcA, asI, asB, asS, loadA, idxA, lenA, slcA, AV.flat, AV.one, zA1, storeA, toD, srcOf, copyA, ↓reduceIte, reduceCtorEq, List.replicate, Nat.reduceBEq, Nat.reduceAdd, Nat.reduceMul, Nat.reduceSub, Nat.reduceLeDiff, Nat.reduceLT, Int.reduceToNat, Nat.reduceEqDiff, Int.reduceEq, h]) | (refine AW.condP rfl (fun h => ?_) (fun h => ?_) <;> try simp only [Bool.and_eq_true, decide_eq_true_eq, Bool.not_eq_true', decide_eq_false_iff_not, Bool.not_eq_false', Bool.not_eq_true, Bool.not_eq_false] at h) | refine And.intro (by omega) ?_ | fail)
      rw [decide_eq_true (List.ext_getElem hl fun j h1 h2 => hJ j h1 h2)]
  · have hl' : ¬ (a.length : Int) = b.length := by omega
    repeat' (first | refine AW.seq' ?_ | with_reducible refine AW.blockS rfl ?_ | ((first | refine AW.ops ?_ | refine AW.draw ?_ | refine AW.skip ?_ | refine AW.ret ?_ | refine AW.exit ?_) <;> simp only [RS, LS, SY, ne_eq, isFl, floatV, constA, thenQ, blockQ, pack, intA, boolA, eqA, unA, nilcA, asI, asB, asS, loadA, idxA, lenA, slcA, AV.flat, AV.one, zA1, storeA, toD, srcOf, copyA, ↓reduceIte, reduceCtorEq, List.replicate, Nat.reduceBEq, Nat.reduceAdd, Nat.reduceMul, Nat.reduceSub, Nat.reduceLeDiff, Nat.reduceLT, Int.reduceToNat, Nat.reduceEqDiff, Int.reduceEq, hl']) | refine AW.condT rfl ?_ | refine AW.condF rfl ?_ | ((first | refine GI.of (fun h => ?_) (fun h => ?_) (by first | exact Classical.em _ | exact (Classical.em _).symm | grind) | refine GD.of (fun h => ?_) (fun h => ?_) (by first | exact Classical.em _ | exact (Classical.em _).symm | grind)) <;> simp only [RS, LS, SY, ne_eq, isFl, floatV, constA, thenQ, blockQ, pack, intA, boolA, eqA, unA, nilcA, asI, asB, asS, loadA, idxA, lenA, slcA, AV.flat, AV.one, zA1, storeA, toD, srcOf, copyA, ↓reduceIte, reduceCtorEq, List.replicate, Nat.reduceBEq, Nat.reduceAdd, Nat.reduceMul, Nat.reduceSub, Nat.reduceLeDiff, Nat.reduceLT, Int.reduceToNat, Nat.reduceEqDiff, Int.reduceEq, hl', h]) | (refine AW.condP rfl (fun h => ?_) (fun h => ?_) <;> try simp only [Bool.and_eq_true, decide_eq_true_eq, Bool.not_eq_true', decide_eq_false_iff_not, Bool.not_eq_false', Bool.not_eq_true, Bool.not_eq_false] at h) | refine And.intro (by omega) ?_ | fail)
    rw [decide_eq_false (fun e => hl (by rw [e]))]
/-- A part put into a list ahead of the first one that is not less, if that is not the part itself. -/
def withP (l : List Pt) (p : Pt) : List Pt := match l with
  | [] => [p]
  | x :: l => if ltP x p then x :: withP l p else if x = p then x :: l else p :: x :: l
theorem withP_at {p : Pt} : ∀ {l : List Pt} {k : Nat}, k ≤ l.length → (∀ (j : Nat) (h : j < l.length), j < k → ltP l[j] p = true) → (∀ h : k < l.length, ltP l[k] p = false) → withP l p = if l[k]? = some p then l else l.take k ++ p :: l.drop k
  | [], 0, _, _, _ => by simp [withP]
  | x :: l, 0, _, _, h => by
    have := h (by simp)
    simp only [List.getElem_cons_zero] at this
    simp only [withP, this, List.getElem?_cons_zero, Option.some.injEq, List.take_zero, List.nil_append, List.drop_zero, Bool.false_eq_true, if_false]
  | x :: l, k + 1, hk, hj, h => by
    have h0 := hj 0 (by simp) (by omega)
    simp only [List.getElem_cons_zero] at h0
    have := withP_at (p := p) (l := l) (k := k) (by simpa using hk) (fun j h1 h2 => hj (j + 1) (by simpa using h1) (by omega)) (fun h1 => h (by simpa using h1))
    simp only [withP, h0, if_true, this, List.getElem?_cons_succ, List.take_succ_cons, List.drop_succ_cons]
    split <;> simp
theorem rowsA_pts {l : List Pt} {i : Nat} (h : i < l.length) : (rowsA (pts l)).getD i [] = [AI .i64 l[i].1, AI .i64 l[i].2] := by
  simp [rowsA, h]
theorem rowsA_drop {l : List Pt} {k n : Nat} (h : k < l.length) (hn : n = l.length - k) : List.take n (List.drop k (rowsA (pts l))) = [AI .i64 l[k].1, AI .i64 l[k].2] :: rowsA (pts (l.drop (k + 1))) := by
  have e : List.drop k (rowsA (pts l)) = rowsA (pts (l.drop k)) := by simp [rowsA, List.map_drop]
  rw [e, List.take_of_length_le (by simp [rowsA]; omega), List.drop_eq_getElem_cons h]
  rfl
theorem rowsA_out {l : List Pt} {k n : Nat} (h : l.length ≤ k) : List.take n (List.drop k (rowsA (pts l))) = [] := by
  rw [List.drop_eq_nil_of_le (by simpa [rowsA] using h)]; simp
/-- The list is somewhere behind the call. -/
def IsL (T : Nat) (l : List Pt) (v : AV) (s' : St) : Prop := ∃ id, v = .own id 0 l.length ∧ s'[id]? = some (some (.cells T 2 (rowsA (pts l))))
set_option maxHeartbeats 4000000 in
theorem with0_ok (l : List Pt) (hl : l.length ≤ 1000000) (p : Pt) : ACalls Try.prog 49 [.own 0 0 l.length, APt p] [some (.cells 29 2 (rowsA (pts l)))] (IsL 29 (withP l p)) := by
  refine ACalls.of fn49 (by simp) ?_
  unfold c49
  repeat' (first | refine AW.seq' ?_ | with_reducible refine AW.blockS rfl ?_ | ((first | refine AW.ops ?_ | refine AW.draw ?_ | refine AW.skip ?_ | refine AW.ret ?_ | refine AW.exit ?_) <;> simp only [RS, LS, SY, ne_eq, isFl, floatV, constA, thenQ, blockQ, pack, intA, boolA, eqA, unA, nilcA, asI, asB, asS, loadA, idxA, lenA, slcA, AV.flat, AV.one, zA1, storeA, toD, srcOf, copyA, ↓reduceIte, reduceCtorEq, List.replicate, Nat.reduceBEq, Nat.reduceAdd, Nat.reduceMul, Nat.reduceSub, Nat.reduceLeDiff, Nat.reduceLT, Int.reduceToNat, Nat.reduceEqDiff, Int.reduceEq]) | refine AW.condT rfl ?_ | refine AW.condF rfl ?_ | ((first | refine GI.of (fun h => ?_) (fun h => ?_) (by first | exact Classical.em _ | exact (Classical.em _).symm | grind) | refine GD.of (fun h => ?_) (fun h => ?_) (by first | exact Classical.em _ | exact (Classical.em _).symm | grind)) <;> simp only [RS, LS, SY, ne_eq, isFl, floatV, constA, thenQ, blockQ, pack, intA, boolA, eqA, unA, nilcA, asI, asB, asS, loadA, idxA, lenA, slcA, AV.flat, AV.one, zA1, storeA, toD, srcOf, copyA, ↓reduceIte, reduceCtorEq, List.replicate, Nat.reduceBEq, Nat.reduceAdd, Nat.reduceMul, Nat.reduceSub, Nat.reduceLeDiff, Nat.reduceLT, Int.reduceToNat, Nat.reduceEqDiff, Int.reduceEq, h]) | (refine AW.condP rfl (fun h => ?_) (fun h => ?_) <;> try simp only [Bool.and_eq_true, decide_eq_true_eq, Bool.not_eq_true', decide_eq_false_iff_not, Bool.not_eq_false', Bool.not_eq_true, Bool.not_eq_false] at h) | refine And.intro (by omega) ?_ | fail)
  refine AW.block ?_
  refine AW.loopA (α := Nat) (fun k => l.length + 1 - k) (fun k => [(5, AI .i64 k), (0, .own 0 0 l.length), (3, .ptr 1 0 0)]) (fun _ => [some (.cells 29 2 (rowsA (pts l))), some (.cells 29 2 [[AI .i64 p.1, AI .i64 p.2]])]) (fun k => k ≤ l.length ∧ ∀ (j : Nat) (h : j < l.length), j < k → ltP l[j] p = true) 0 ⟨by omega, fun j h hj => by omega⟩ [0, 1] ⟨rfl, by decide, rfl, by simp [NT, belA, belL, tget, renA, renL, nmL], ⟨⟨belB_rowsA .., by rw [renB_rowsA]; rfl⟩, ⟨⟨rfl, rfl⟩, trivial⟩⟩⟩ ?_
  intro k ⟨h1, h2⟩
  unfold c49_0
  have hkl : k ≤ (rowsA (pts l)).length := by rw [rowsA_len]; simpa using h1
  by_cases hk : k < l.length
  · have hc : (k : Int) < l.length := by omega
    have hr := rowsA_pts hk
    cases hlt : ltP l[k] p
    · have hw := withP_at (p := p) h1 h2 (fun _ => hlt)
      rw [List.getElem?_eq_getElem hk] at hw
      have hd := rowsA_drop hk rfl
      have hfull : List.take (1 + ((List.drop (k + 1) l).length + 1)) ([AV.d (D.v (Value.int IntKind.i64 p.fst)), AV.d (D.v (Value.int IntKind.i64 p.snd))] :: [AI IntKind.i64 l[k].fst, AI IntKind.i64 l[k].snd] :: rowsA (pts (List.drop (k + 1) l))) = ([AV.d (D.v (Value.int IntKind.i64 p.fst)), AV.d (D.v (Value.int IntKind.i64 p.snd))] :: [AI IntKind.i64 l[k].fst, AI IntKind.i64 l[k].snd] :: rowsA (pts (List.drop (k + 1) l))) := List.take_of_length_le (by rw [List.length_cons, List.length_cons, rowsA_len, List.length_map]; omega)
      have hdl : (List.drop (k + 1) l).length = l.length - (k + 1) := by simp
      repeat' (first | refine AW.seq' ?_ | with_reducible refine AW.blockS rfl ?_ | ((first | refine AW.ops ?_ | refine AW.draw ?_ | refine AW.skip ?_ | refine AW.ret ?_ | refine AW.exit ?_ | refine Fn.call (less_ok _ _) rfl rfl ?_) <;> simp (disch := omega) only [RS, LS, SY, ne_eq, isFl, floatV, constA, thenQ, blockQ, pack, intA, boolA, eqA, unA, nilcA, asI, asB, asS, loadA, idxA, lenA, slcA, AV.flat, AV.one, zA1, storeA, toD, srcOf, copyA, ↓reduceIte, reduceCtorEq, List.replicate, Nat.reduceBEq, Nat.reduceAdd, Nat.reduceMul, Nat.reduceSub, Nat.reduceLeDiff, Nat.reduceLT, Int.reduceToNat, Nat.reduceEqDiff, Int.reduceEq, wrap_id, hc, hr, hlt, hd, hfull, Nat.sub_zero]) | refine AW.condT rfl ?_ | refine AW.condF rfl ?_ | ((first | refine GI.of (fun h => ?_) (fun h => ?_) (by first | exact Classical.em _ | exact (Classical.em _).symm | grind) | refine GD.of (fun h => ?_) (fun h => ?_) (by first | exact Classical.em _ | exact (Classical.em _).symm | grind)) <;> simp (disch := omega) only [RS, LS, SY, ne_eq, isFl, floatV, constA, thenQ, blockQ, pack, intA, boolA, eqA, unA, nilcA, asI, asB, asS, loadA, idxA, lenA, slcA, AV.flat, AV.one, zA1, storeA, toD, srcOf, copyA, ↓reduceIte, reduceCtorEq, List.replicate, Nat.reduceBEq, Nat.reduceAdd, Nat.reduceMul, Nat.reduceSub, Nat.reduceLeDiff, Nat.reduceLT, Int.reduceToNat, Nat.reduceEqDiff, Int.reduceEq, wrap_id, hc, hr, hlt, hd, hfull, Nat.sub_zero, h]) | (refine AW.condP rfl (fun h => ?_) (fun h => ?_) <;> try simp only [Bool.and_eq_true, decide_eq_true_eq, Bool.not_eq_true', decide_eq_false_iff_not, Bool.not_eq_false', Bool.not_eq_true, Bool.not_eq_false] at h) | refine And.intro (by omega) ?_ | fail)
      · rw [hw, if_pos (by rw [Prod.ext h.1 h.2])]
        exact ⟨0, rfl, rfl⟩
      · rw [hw, if_neg (fun e => h (by simp only [Option.some.injEq] at e; rw [e]; exact ⟨rfl, rfl⟩))]
        all_goals first
          | omega
          | skip
        refine ⟨3, ?_, ?_⟩
        · have : (List.take k l ++ p :: List.drop k l).length = k + ((List.drop (k + 1) l).length + 1 + 1) := by
            rw [List.length_append, List.length_take, List.length_cons, hdl, List.length_drop]; omega
          rw [this]
        · have e : rowsA (pts (List.take k l ++ p :: List.drop k l)) = rowsA (List.take k (pts l)) ++ [AV.d (D.v (Value.int IntKind.i64 p.fst)), AV.d (D.v (Value.int IntKind.i64 p.snd))] :: [AI IntKind.i64 l[k].fst, AI IntKind.i64 l[k].snd] :: rowsA (pts (List.drop (k + 1) l)) := by
            rw [List.drop_eq_getElem_cons hk]
            simp only [rowsA, List.map_append, List.map_cons, List.map_take]
            rfl
          rw [e]; rfl
    · repeat' (first | refine AW.seq' ?_ | with_reducible refine AW.blockS rfl ?_ | ((first | refine AW.ops ?_ | refine AW.draw ?_ | refine AW.skip ?_ | refine AW.ret ?_ | refine AW.exit ?_ | refine Fn.call (less_ok _ _) rfl rfl ?_) <;> simp (disch := omega) only [RS, LS, SY, ne_eq, isFl, floatV, constA, thenQ, blockQ, pack, intA, boolA, eqA, unA, nilcA, asI, asB, asS, loadA, idxA, lenA, slcA, AV.flat, AV.one, zA1, storeA, toD, srcOf, copyA, ↓reduceIte, reduceCtorEq, List.replicate, Nat.reduceBEq, Nat.reduceAdd, Nat.reduceMul, Nat.reduceSub, Nat.reduceLeDiff, Nat.reduceLT, Int.reduceToNat, Nat.reduceEqDiff, Int.reduceEq, wrap_id, hc, hr, hlt]) | refine AW.condT rfl ?_ | refine AW.condF rfl ?_ | ((first | refine GI.of (fun h => ?_) (fun h => ?_) (by first | exact Classical.em _ | exact (Classical.em _).symm | grind) | refine GD.of (fun h => ?_) (fun h => ?_) (by first | exact Classical.em _ | exact (Classical.em _).symm | grind)) <;> simp (disch := omega) only [RS, LS, SY, ne_eq, isFl, floatV, constA, thenQ, blockQ, pack, intA, boolA, eqA, unA, nilcA, asI, asB, asS, loadA, idxA, lenA, slcA, AV.flat, AV.one, zA1, storeA, toD, srcOf, copyA, ↓reduceIte, reduceCtorEq, List.replicate, Nat.reduceBEq, Nat.reduceAdd, Nat.reduceMul, Nat.reduceSub, Nat.reduceLeDiff, Nat.reduceLT, Int.reduceToNat, Nat.reduceEqDiff, Int.reduceEq, wrap_id, hc, hr, hlt, h]) | (refine AW.condP rfl (fun h => ?_) (fun h => ?_) <;> try simp only [Bool.and_eq_true, decide_eq_true_eq, Bool.not_eq_true', decide_eq_false_iff_not, Bool.not_eq_false', Bool.not_eq_true, Bool.not_eq_false] at h) | refine And.intro (by omega) ?_ | fail)
      refine ⟨k + 1, [0, 1], ⟨by omega, fun j hj hj' => ?_⟩, by omega, rfl, by decide, rfl, by simp [NT, belA, belL, tget, renA, renL, nmL], ⟨⟨belB_rowsA .., by rw [renB_rowsA]; rfl⟩, ⟨⟨rfl, rfl⟩, trivial⟩⟩⟩
      by_cases e : j = k
      · subst e; exact hlt
      · exact h2 j hj (by omega)
  · have hc : ¬ (k : Int) < l.length := by omega
    have hw := withP_at (p := p) h1 h2 (fun h => absurd h hk)
    have hk' : k = l.length := by omega
    rw [List.getElem?_eq_none (by omega)] at hw
    have hd := rowsA_out (l := l) (k := k) (n := l.length - k) (by omega)
    repeat' (first | refine AW.seq' ?_ | with_reducible refine AW.blockS rfl ?_ | ((first | refine AW.ops ?_ | refine AW.draw ?_ | refine AW.skip ?_ | refine AW.ret ?_ | refine AW.exit ?_) <;> simp (disch := omega) only [RS, LS, SY, ne_eq, isFl, floatV, constA, thenQ, blockQ, pack, intA, boolA, eqA, unA, nilcA, asI, asB, asS, loadA, idxA, lenA, slcA, AV.flat, AV.one, zA1, storeA, toD, srcOf, copyA, ↓reduceIte, reduceCtorEq, List.replicate, Nat.reduceBEq, Nat.reduceAdd, Nat.reduceMul, Nat.reduceSub, Nat.reduceLeDiff, Nat.reduceLT, Int.reduceToNat, Nat.reduceEqDiff, Int.reduceEq, wrap_id, hc, hd, Nat.sub_zero]) | refine AW.condT rfl ?_ | refine AW.condF rfl ?_ | ((first | refine GI.of (fun h => ?_) (fun h => ?_) (by first | exact Classical.em _ | exact (Classical.em _).symm | grind) | refine GD.of (fun h => ?_) (fun h => ?_) (by first | exact Classical.em _ | exact (Classical.em _).symm | grind)) <;> simp (disch := omega) only [RS, LS, SY, ne_eq, isFl, floatV, constA, thenQ, blockQ, pack, intA, boolA, eqA, unA, nilcA, asI, asB, asS, loadA, idxA, lenA, slcA, AV.flat, AV.one, zA1, storeA, toD, srcOf, copyA, ↓reduceIte, reduceCtorEq, List.replicate, Nat.reduceBEq, Nat.reduceAdd, Nat.reduceMul, Nat.reduceSub, Nat.reduceLeDiff, Nat.reduceLT, Int.reduceToNat, Nat.reduceEqDiff, Int.reduceEq, wrap_id, hc, hd, Nat.sub_zero, h]) | (refine AW.condP rfl (fun h => ?_) (fun h => ?_) <;> try simp only [Bool.and_eq_true, decide_eq_true_eq, Bool.not_eq_true', decide_eq_false_iff_not, Bool.not_eq_false', Bool.not_eq_true, Bool.not_eq_false] at h) | refine And.intro (by omega) ?_ | fail)
    all_goals (rw [hw, if_neg (by simp)]; subst hk')
    have e : rowsA (pts (List.take l.length l ++ p :: List.drop l.length l)) = rowsA (List.take l.length (pts l)) ++ [[AV.d (D.v (Value.int IntKind.i64 p.fst)), AV.d (D.v (Value.int IntKind.i64 p.snd))]] := by
      rw [List.drop_length]
      simp only [rowsA, List.map_append, List.map_cons, List.map_take]
      rfl
    exact ⟨2, by simp, by rw [e]; rfl⟩
end Go.Proofs.Ytkgeadhnagnloaa.H
