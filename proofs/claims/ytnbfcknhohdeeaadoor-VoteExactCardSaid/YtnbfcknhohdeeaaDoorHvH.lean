/- Chapter 8: the causes of some references, of the reference. -/
import Derived.Test.YtnbfcknhohdeeaaDoorHvF
set_option linter.unusedSimpArgs false
set_option linter.unusedVariables false
namespace Go.Proofs.YtnbfcknhohdeeaaDoor.H
theorem insI_at {p : Int} : ∀ {l : List Int} {k : Nat}, k ≤ l.length → (∀ (j : Nat) (h : j < l.length), j < k → l[j] < p) → (∀ h : k < l.length, ¬ l[k] < p) → insI l p = if l[k]? = some p then l else l.take k ++ p :: l.drop k
  | [], 0, _, _, _ => by simp [insI]
  | x :: l, 0, _, _, h => by
    have := h (by simp)
    simp only [List.getElem_cons_zero] at this
    simp only [insI, this, List.getElem?_cons_zero, Option.some.injEq, List.take_zero, List.nil_append, List.drop_zero, if_false]
  | x :: l, k + 1, hk, hj, h => by
    have h0 := hj 0 (by simp) (by omega)
    simp only [List.getElem_cons_zero] at h0
    have := insI_at (p := p) (l := l) (k := k) (by simpa using hk) (fun j h1 h2 => hj (j + 1) (by simpa using h1) (by omega)) (fun h1 => h (by simpa using h1))
    simp only [insI, h0, if_true, this, List.getElem?_cons_succ, List.take_succ_cons, List.drop_succ_cons]
    split <;> simp
theorem insI_len (p : Int) : ∀ l : List Int, (insI l p).length ≤ l.length + 1
  | [] => by simp [insI]
  | x :: l => by
    have := insI_len p l
    simp only [insI]
    split
    · simpa using this
    · split <;> simp
theorem cau_step {c m : List Int} {i : Nat} (hi : i < m.length) : cauP c (m.take (i + 1)) = match (if 0 ≤ m[i] then c[m[i].toNat]? else none) with | none => cauP c (m.take i) | some p => insI (cauP c (m.take i)) p := by
  unfold cauP
  rw [pick_step hi, List.foldl_append]
  cases (if 0 ≤ m[i] then c[m[i].toNat]? else none) <;> rfl
theorem cau_len (c m : List Int) : (cauP c m).length ≤ m.length := by
  have h : ∀ (q l : List Int), (q.foldl insI l).length ≤ l.length + q.length := by
    intro q
    induction q with
    | nil => intro l; simp
    | cons p q ih =>
      intro l
      rw [List.foldl_cons, List.length_cons]
      have := ih (insI l p)
      have := insI_len p l
      omega
  have h1 := h (pickP c m) []
  have h2 := pick_len c m
  unfold cauP
  simp only [List.length_nil] at h1
  omega
theorem rowsI_drop {l : List Int} {k n : Nat} (h : k < l.length) (hn : n = l.length - k) : List.take n (List.drop k (rowsA (ints l))) = [AI .i64 l[k]] :: rowsA (ints (l.drop (k + 1))) := by
  have e : List.drop k (rowsA (ints l)) = rowsA (ints (l.drop k)) := by simp [rowsA, List.map_drop]
  rw [e, List.take_of_length_le (by simp [rowsA]; omega), List.drop_eq_getElem_cons h]
  rfl
theorem rowsI_out {l : List Int} {k n : Nat} (h : l.length ≤ k) : List.take n (List.drop k (rowsA (ints l))) = [] := by
  rw [List.drop_eq_nil_of_le (by simpa [rowsA] using h)]; simp
set_option maxHeartbeats 8000000 in
theorem rcauses0 (c m : List Int) (hc : c.length ≤ 4611686018427387904) (hm : m.length ≤ 1000) : ACalls Tryd.prog 18 [LI c, LI m] [] fun v s' => v = gVg 0 (cauP c m) ∧ s' = [gBg 3 1 inR1 (cauP c m)] := by
  refine ACalls.of fn18 (by simp) ?_
  unfold c18
  repeat' (first | refine AW.seq' ?_ | with_reducible refine AW.blockS rfl ?_ | ((first | refine AW.ops ?_ | refine AW.draw ?_ | refine AW.skip ?_ | refine AW.ret ?_ | refine AW.exit ?_) <;> simp only [RS, LS, SY, ne_eq, isFl, floatV, constA, thenQ, blockQ, pack, intA, boolA, eqA, unA, nilcA, asI, asB, asS, loadA, idxA, lenA, slcA, AV.flat, AV.one, zA1, storeA, toD, srcOf, copyA, ↓reduceIte, reduceCtorEq, List.replicate, Nat.reduceBEq, Nat.reduceAdd, Nat.reduceMul, Nat.reduceSub, Nat.reduceLeDiff, Nat.reduceLT, Int.reduceToNat, Nat.reduceEqDiff, Int.reduceEq]) | refine AW.condT rfl ?_ | refine AW.condF rfl ?_ | ((first | (refine GI.of (fun h => ?_) (fun h => ?_) ?emm; case emm => first | exact Classical.em _ | exact (Classical.em _).symm | grind) | (refine GD.of (fun h => ?_) (fun h => ?_) ?emm; case emm => first | exact Classical.em _ | exact (Classical.em _).symm | grind)) <;> simp only [RS, LS, SY, ne_eq, isFl, floatV, constA, thenQ, blockQ, pack, intA, boolA, eqA, unA, nilcA, asI, asB, asS, loadA, idxA, lenA, slcA, AV.flat, AV.one, zA1, storeA, toD, srcOf, copyA, ↓reduceIte, reduceCtorEq, List.replicate, Nat.reduceBEq, Nat.reduceAdd, Nat.reduceMul, Nat.reduceSub, Nat.reduceLeDiff, Nat.reduceLT, Int.reduceToNat, Nat.reduceEqDiff, Int.reduceEq, h]) | (refine AW.condP rfl (fun h => ?_) (fun h => ?_) <;> try simp only [Bool.and_eq_true, decide_eq_true_eq, Bool.not_eq_true', decide_eq_false_iff_not, Bool.not_eq_false', Bool.not_eq_true, Bool.not_eq_false] at h) | refine And.intro (by omega) ?_ | fail)
  refine AW.range (α := List Int) m.length (by omega) (by decide) (fun _ l => [(0, LI c), (10, LI m), (5, gVg 0 l)]) (fun _ l => [gBg 3 1 inR1 l]) (fun i l => l = cauP c (m.take i)) [] (by simp [cauP, pickP]) [0] ⟨rfl, by decide, rfl, by simp [NT, belA, tget, renA, gVg], trivial⟩ (by simp) ?_ ?_
  · intro i l hi hJ
    unfold c18_1
    have hst := cau_step (c := c) hi
    rw [← hJ] at hst
    have hll : l.length ≤ 1000 := by rw [hJ]; have := cau_len c (m.take i); rw [List.length_take] at this; omega
    by_cases hin : 0 ≤ m[i] ∧ m[i] < c.length
    · have hlt : m[i].toNat < c.length := by omega
      rw [if_pos hin.1, List.getElem?_eq_getElem hlt] at hst
      simp only at hst
      generalize hp : c[m[i].toNat] = p at hst
      have hn1 : ¬ m[i] < 0 := by omega
      have hn2 : ¬ (c.length : Int) ≤ m[i] := by omega
      cases l with
      | nil =>
        rw [gVg_nil, gBg_nil]
        repeat' (first | refine AW.seq' ?_ | with_reducible refine AW.blockS rfl ?_ | ((first | refine AW.ops ?_ | refine AW.draw ?_ | refine AW.skip ?_ | refine AW.ret ?_ | refine AW.exit ?_) <;> simp only [RS, LS, SY, ne_eq, isFl, floatV, constA, thenQ, blockQ, pack, intA, boolA, eqA, unA, nilcA, asI, asB, asS, loadA, idxA, lenA, slcA, AV.flat, AV.one, zA1, storeA, toD, srcOf, copyA, ↓reduceIte, reduceCtorEq, List.replicate, Nat.reduceBEq, Nat.reduceAdd, Nat.reduceMul, Nat.reduceSub, Nat.reduceLeDiff, Nat.reduceLT, Int.reduceToNat, Nat.reduceEqDiff, Int.reduceEq, getD_map_lt hi, getD_map_lt hlt, hn1, hn2, hp]) | refine AW.condT rfl ?_ | refine AW.condF rfl ?_ | ((first | (refine GI.of (fun h => ?_) (fun h => ?_) ?emm; case emm => first | exact Classical.em _ | exact (Classical.em _).symm | grind) | (refine GD.of (fun h => ?_) (fun h => ?_) ?emm; case emm => first | exact Classical.em _ | exact (Classical.em _).symm | grind)) <;> simp only [RS, LS, SY, ne_eq, isFl, floatV, constA, thenQ, blockQ, pack, intA, boolA, eqA, unA, nilcA, asI, asB, asS, loadA, idxA, lenA, slcA, AV.flat, AV.one, zA1, storeA, toD, srcOf, copyA, ↓reduceIte, reduceCtorEq, List.replicate, Nat.reduceBEq, Nat.reduceAdd, Nat.reduceMul, Nat.reduceSub, Nat.reduceLeDiff, Nat.reduceLT, Int.reduceToNat, Nat.reduceEqDiff, Int.reduceEq, getD_map_lt hi, getD_map_lt hlt, hn1, hn2, hp, h]) | (refine AW.condP rfl (fun h => ?_) (fun h => ?_) <;> try simp only [Bool.and_eq_true, decide_eq_true_eq, Bool.not_eq_true', decide_eq_false_iff_not, Bool.not_eq_false', Bool.not_eq_true, Bool.not_eq_false] at h) | refine And.intro (by omega) ?_ | fail)
        refine AW.block ?_
        refine AW.loopA (α := Unit) (fun _ => 0) (fun _ => [(0, LI c), (10, LI m), (12, AI .i64 i), (11, AI .i64 m.length), (8, AI .i64 p), (9, AI .i64 0), (5, .ful 0 [])]) (fun _ => []) (fun _ => True) () trivial [] ⟨rfl, by decide, rfl, by simp [NT, belA, belL, tget, renA, renL, nmL], trivial⟩ ?_
        intro _ _
        unfold c18_0
        have hz : ¬ (0 : Int) < ((0 : Nat) : Int) := by decide
        repeat' (first | refine AW.seq' ?_ | with_reducible refine AW.blockS rfl ?_ | ((first | refine AW.ops ?_ | refine AW.draw ?_ | refine AW.skip ?_ | refine AW.ret ?_ | refine AW.exit ?_) <;> simp (disch := omega) only [RS, LS, SY, ne_eq, isFl, floatV, constA, thenQ, blockQ, pack, intA, boolA, eqA, unA, nilcA, asI, asB, asS, loadA, idxA, lenA, slcA, AV.flat, AV.one, zA1, storeA, toD, srcOf, copyA, ↓reduceIte, reduceCtorEq, List.replicate, Nat.reduceBEq, Nat.reduceAdd, Nat.reduceMul, Nat.reduceSub, Nat.reduceLeDiff, Nat.reduceLT, Int.reduceToNat, Nat.reduceEqDiff, Int.reduceEq, wrap_id, hz]) | refine AW.condT rfl ?_ | refine AW.condF rfl ?_ | ((first | (refine GI.of (fun h => ?_) (fun h => ?_) ?emm; case emm => first | exact Classical.em _ | exact (Classical.em _).symm | grind) | (refine GD.of (fun h => ?_) (fun h => ?_) ?emm; case emm => first | exact Classical.em _ | exact (Classical.em _).symm | grind)) <;> simp (disch := omega) only [RS, LS, SY, ne_eq, isFl, floatV, constA, thenQ, blockQ, pack, intA, boolA, eqA, unA, nilcA, asI, asB, asS, loadA, idxA, lenA, slcA, AV.flat, AV.one, zA1, storeA, toD, srcOf, copyA, ↓reduceIte, reduceCtorEq, List.replicate, Nat.reduceBEq, Nat.reduceAdd, Nat.reduceMul, Nat.reduceSub, Nat.reduceLeDiff, Nat.reduceLT, Int.reduceToNat, Nat.reduceEqDiff, Int.reduceEq, wrap_id, hz, h]) | (refine AW.condP rfl (fun h => ?_) (fun h => ?_) <;> try simp only [Bool.and_eq_true, decide_eq_true_eq, Bool.not_eq_true', decide_eq_false_iff_not, Bool.not_eq_false', Bool.not_eq_true, Bool.not_eq_false] at h) | refine And.intro (by omega) ?_ | fail)
        exact ⟨[p], [0], by rw [hst]; rfl, rfl, by decide, rfl, by simp [NT, belA, tget, renA, gVg_cons, nmL], ⟨⟨rfl, rfl⟩, trivial⟩⟩
      | cons x l =>
        rw [gVg_cons, gBg_cons]
        repeat' (first | refine AW.seq' ?_ | with_reducible refine AW.blockS rfl ?_ | ((first | refine AW.ops ?_ | refine AW.draw ?_ | refine AW.skip ?_ | refine AW.ret ?_ | refine AW.exit ?_) <;> simp only [RS, LS, SY, ne_eq, isFl, floatV, constA, thenQ, blockQ, pack, intA, boolA, eqA, unA, nilcA, asI, asB, asS, loadA, idxA, lenA, slcA, AV.flat, AV.one, zA1, storeA, toD, srcOf, copyA, ↓reduceIte, reduceCtorEq, List.replicate, Nat.reduceBEq, Nat.reduceAdd, Nat.reduceMul, Nat.reduceSub, Nat.reduceLeDiff, Nat.reduceLT, Int.reduceToNat, Nat.reduceEqDiff, Int.reduceEq, getD_map_lt hi, getD_map_lt hlt, hn1, hn2, hp]) | refine AW.condT rfl ?_ | refine AW.condF rfl ?_ | ((first | (refine GI.of (fun h => ?_) (fun h => ?_) ?emm; case emm => first | exact Classical.em _ | exact (Classical.em _).symm | grind) | (refine GD.of (fun h => ?_) (fun h => ?_) ?emm; case emm => first | exact Classical.em _ | exact (Classical.em _).symm | grind)) <;> simp only [RS, LS, SY, ne_eq, isFl, floatV, constA, thenQ, blockQ, pack, intA, boolA, eqA, unA, nilcA, asI, asB, asS, loadA, idxA, lenA, slcA, AV.flat, AV.one, zA1, storeA, toD, srcOf, copyA, ↓reduceIte, reduceCtorEq, List.replicate, Nat.reduceBEq, Nat.reduceAdd, Nat.reduceMul, Nat.reduceSub, Nat.reduceLeDiff, Nat.reduceLT, Int.reduceToNat, Nat.reduceEqDiff, Int.reduceEq, getD_map_lt hi, getD_map_lt hlt, hn1, hn2, hp, h]) | (refine AW.condP rfl (fun h => ?_) (fun h => ?_) <;> try simp only [Bool.and_eq_true, decide_eq_true_eq, Bool.not_eq_true', decide_eq_false_iff_not, Bool.not_eq_false', Bool.not_eq_true, Bool.not_eq_false] at h) | refine And.intro (by omega) ?_ | fail)
        refine AW.block ?_
        refine AW.loopA (α := Nat) (fun k => l.length + 2 - k) (fun k => [(0, LI c), (10, LI m), (12, AI .i64 i), (11, AI .i64 m.length), (8, AI .i64 p), (9, AI .i64 k), (5, .own 0 0 (l.length + 1))]) (fun _ => [some (.cells 3 1 (rowsA (ints (x :: l))))]) (fun k => k ≤ l.length + 1 ∧ ∀ (j : Nat) (h : j < (x :: l).length), j < k → (x :: l)[j] < p) 0 ⟨by omega, fun j h hj => by omega⟩ [0] ⟨rfl, by decide, rfl, by simp [NT, belA, belL, tget, renA, renL, nmL], ⟨⟨belB_rowsA .., by rw [renB_rowsA]; rfl⟩, trivial⟩⟩ ?_
        intro k ⟨h1, h2⟩
        unfold c18_0
        have hxl : (x :: l).length = l.length + 1 := rfl
        generalize hL : x :: l = L at *
        by_cases hk : k < L.length
        · have hck : (k : Int) < ((l.length + 1 : Nat) : Int) := by omega
          have hr := rowsA_ints hk
          by_cases hlt2 : L[k] < p
          · repeat' (first | refine AW.seq' ?_ | with_reducible refine AW.blockS rfl ?_ | ((first | refine AW.ops ?_ | refine AW.draw ?_ | refine AW.skip ?_ | refine AW.ret ?_ | refine AW.exit ?_) <;> simp (disch := omega) only [RS, LS, SY, ne_eq, isFl, floatV, constA, thenQ, blockQ, pack, intA, boolA, eqA, unA, nilcA, asI, asB, asS, loadA, idxA, lenA, slcA, AV.flat, AV.one, zA1, storeA, toD, srcOf, copyA, ↓reduceIte, reduceCtorEq, List.replicate, Nat.reduceBEq, Nat.reduceAdd, Nat.reduceMul, Nat.reduceSub, Nat.reduceLeDiff, Nat.reduceLT, Int.reduceToNat, Nat.reduceEqDiff, Int.reduceEq, wrap_id, hck, hr, hlt2]) | refine AW.condT rfl ?_ | refine AW.condF rfl ?_ | ((first | (refine GI.of (fun h => ?_) (fun h => ?_) ?emm; case emm => first | exact Classical.em _ | exact (Classical.em _).symm | grind) | (refine GD.of (fun h => ?_) (fun h => ?_) ?emm; case emm => first | exact Classical.em _ | exact (Classical.em _).symm | grind)) <;> simp (disch := omega) only [RS, LS, SY, ne_eq, isFl, floatV, constA, thenQ, blockQ, pack, intA, boolA, eqA, unA, nilcA, asI, asB, asS, loadA, idxA, lenA, slcA, AV.flat, AV.one, zA1, storeA, toD, srcOf, copyA, ↓reduceIte, reduceCtorEq, List.replicate, Nat.reduceBEq, Nat.reduceAdd, Nat.reduceMul, Nat.reduceSub, Nat.reduceLeDiff, Nat.reduceLT, Int.reduceToNat, Nat.reduceEqDiff, Int.reduceEq, wrap_id, hck, hr, hlt2, h]) | (refine AW.condP rfl (fun h => ?_) (fun h => ?_) <;> try simp only [Bool.and_eq_true, decide_eq_true_eq, Bool.not_eq_true', decide_eq_false_iff_not, Bool.not_eq_false', Bool.not_eq_true, Bool.not_eq_false] at h) | refine And.intro (by omega) ?_ | fail)
            refine ⟨k + 1, [0], ⟨by omega, fun j hj hj' => ?_⟩, by omega, rfl, by decide, rfl, by simp [NT, belA, belL, tget, renA, renL, nmL], ⟨⟨belB_rowsA .., by rw [renB_rowsA]; rfl⟩, trivial⟩⟩
            by_cases e : j = k
            · subst e; exact hlt2
            · exact h2 j hj (by omega)
          · have hw := insI_at (p := p) (l := L) (by omega) h2 (fun _ => hlt2)
            rw [List.getElem?_eq_getElem hk] at hw
            have hd := rowsI_drop (n := l.length + 1 - k) hk (by omega)
            have hfull : List.take (1 + ((List.drop (k + 1) L).length + 1)) ([AV.d (D.v (Value.int IntKind.i64 p))] :: [AI IntKind.i64 L[k]] :: rowsA (ints (List.drop (k + 1) L))) = ([AV.d (D.v (Value.int IntKind.i64 p))] :: [AI IntKind.i64 L[k]] :: rowsA (ints (List.drop (k + 1) L))) := List.take_of_length_le (by rw [List.length_cons, List.length_cons, rowsA_len, List.length_map]; omega)
            have hdl : (List.drop (k + 1) L).length = L.length - (k + 1) := by simp
            have hrl : (rowsA (ints L)).length = L.length := by rw [rowsA_len, List.length_map]
            repeat' (first | refine AW.seq' ?_ | with_reducible refine AW.blockS rfl ?_ | ((first | refine AW.ops ?_ | refine AW.draw ?_ | refine AW.skip ?_ | refine AW.ret ?_ | refine AW.exit ?_) <;> simp only [RS, LS, SY, ne_eq, isFl, floatV, constA, thenQ, blockQ, pack, intA, boolA, eqA, unA, nilcA, asI, asB, asS, loadA, idxA, lenA, slcA, AV.flat, AV.one, zA1, storeA, toD, srcOf, copyA, ↓reduceIte, reduceCtorEq, List.replicate, Nat.reduceBEq, Nat.reduceAdd, Nat.reduceMul, Nat.reduceSub, Nat.reduceLeDiff, Nat.reduceLT, Int.reduceToNat, Nat.reduceEqDiff, Int.reduceEq, hck, hr, hlt2, hd, hfull, Nat.sub_zero]) | refine AW.condT rfl ?_ | refine AW.condF rfl ?_ | ((first | (refine GI.of (fun h => ?_) (fun h => ?_) ?emm; case emm => first | exact Classical.em _ | exact (Classical.em _).symm | grind) | (refine GD.of (fun h => ?_) (fun h => ?_) ?emm; case emm => first | exact Classical.em _ | exact (Classical.em _).symm | grind)) <;> simp only [RS, LS, SY, ne_eq, isFl, floatV, constA, thenQ, blockQ, pack, intA, boolA, eqA, unA, nilcA, asI, asB, asS, loadA, idxA, lenA, slcA, AV.flat, AV.one, zA1, storeA, toD, srcOf, copyA, ↓reduceIte, reduceCtorEq, List.replicate, Nat.reduceBEq, Nat.reduceAdd, Nat.reduceMul, Nat.reduceSub, Nat.reduceLeDiff, Nat.reduceLT, Int.reduceToNat, Nat.reduceEqDiff, Int.reduceEq, hck, hr, hlt2, hd, hfull, Nat.sub_zero, h]) | (refine AW.condP rfl (fun h => ?_) (fun h => ?_) <;> try simp only [Bool.and_eq_true, decide_eq_true_eq, Bool.not_eq_true', decide_eq_false_iff_not, Bool.not_eq_false', Bool.not_eq_true, Bool.not_eq_false] at h) | refine And.intro (by omega) ?_ | fail)
            · rw [if_pos (by rw [h])] at hw
              rw [hw, ← hL] at hst
              exact ⟨x :: l, [0], hst.symm, rfl, by decide, rfl, by simp [NT, belA, tget, renA, gVg_cons, nmL], ⟨⟨belB_rowsA .., by rw [renB_rowsA, ← hL]; rfl⟩, trivial⟩⟩
            · rw [if_neg (fun e => h (by simpa using e))] at hw
              have hne : insI L p ≠ [] := by rw [hw]; simp
              obtain ⟨y, r, hy⟩ := List.exists_cons_of_ne_nil hne
              rw [hy] at hst
              have hlen : L.length + 1 = r.length + 1 := by
                have h7 := congrArg List.length (hy.symm.trans hw)
                rw [List.length_cons, List.length_append, List.length_take, List.length_cons, List.length_drop] at h7
                omega
              have hrows : rowsA (ints (y :: r)) = rowsA (List.take k (ints L)) ++ [AV.d (D.v (Value.int IntKind.i64 p))] :: [AI IntKind.i64 L[k]] :: rowsA (ints (List.drop (k + 1) L)) := by
                rw [← hy, hw, List.drop_eq_getElem_cons hk]
                simp only [rowsA, ints, List.map_append, List.map_cons, List.map_take]
                rfl
              have q1 : k + ((List.drop (k + 1) L).length + 1 + 1) = r.length + 1 := by rw [hdl]; omega
              have q2 : k + (L.length - (k + 1) + 1 + 1) = r.length + 1 := by omega
              exact ⟨y :: r, [2], hst.symm, rfl, by decide, rfl, by simp [NT, belA, tget, renA, gVg_cons, nmL, q1, q2], ⟨⟨belB_rowsA _ _ _ (ints (y :: r)), by rw [renB_rowsA, hrows]; rfl⟩, trivial⟩⟩
        · have hck : ¬ (k : Int) < ((l.length + 1 : Nat) : Int) := by omega
          have hw := insI_at (p := p) (l := L) (k := k) (by omega) h2 (fun h => absurd h hk)
          have hk' : k = L.length := by omega
          rw [List.getElem?_eq_none (by omega)] at hw
          have hd := rowsI_out (l := L) (k := k) (n := l.length + 1 - k) (by omega)
          repeat' (first | refine AW.seq' ?_ | with_reducible refine AW.blockS rfl ?_ | ((first | refine AW.ops ?_ | refine AW.draw ?_ | refine AW.skip ?_ | refine AW.ret ?_ | refine AW.exit ?_) <;> simp only [RS, LS, SY, ne_eq, isFl, floatV, constA, thenQ, blockQ, pack, intA, boolA, eqA, unA, nilcA, asI, asB, asS, loadA, idxA, lenA, slcA, AV.flat, AV.one, zA1, storeA, toD, srcOf, copyA, ↓reduceIte, reduceCtorEq, List.replicate, Nat.reduceBEq, Nat.reduceAdd, Nat.reduceMul, Nat.reduceSub, Nat.reduceLeDiff, Nat.reduceLT, Int.reduceToNat, Nat.reduceEqDiff, Int.reduceEq, hck, hd, Nat.sub_zero]) | refine AW.condT rfl ?_ | refine AW.condF rfl ?_ | ((first | (refine GI.of (fun h => ?_) (fun h => ?_) ?emm; case emm => first | exact Classical.em _ | exact (Classical.em _).symm | grind) | (refine GD.of (fun h => ?_) (fun h => ?_) ?emm; case emm => first | exact Classical.em _ | exact (Classical.em _).symm | grind)) <;> simp only [RS, LS, SY, ne_eq, isFl, floatV, constA, thenQ, blockQ, pack, intA, boolA, eqA, unA, nilcA, asI, asB, asS, loadA, idxA, lenA, slcA, AV.flat, AV.one, zA1, storeA, toD, srcOf, copyA, ↓reduceIte, reduceCtorEq, List.replicate, Nat.reduceBEq, Nat.reduceAdd, Nat.reduceMul, Nat.reduceSub, Nat.reduceLeDiff, Nat.reduceLT, Int.reduceToNat, Nat.reduceEqDiff, Int.reduceEq, hck, hd, Nat.sub_zero, h]) | (refine AW.condP rfl (fun h => ?_) (fun h => ?_) <;> try simp only [Bool.and_eq_true, decide_eq_true_eq, Bool.not_eq_true', decide_eq_false_iff_not, Bool.not_eq_false', Bool.not_eq_true, Bool.not_eq_false] at h) | refine And.intro (by omega) ?_ | fail)
          rw [if_neg (by simp), List.drop_eq_nil_of_le (by omega), hk', List.take_length] at hw
          have hne : insI L p ≠ [] := by rw [hw]; simp
          obtain ⟨y, r, hy⟩ := List.exists_cons_of_ne_nil hne
          rw [hy] at hst
          have hlen : L.length + 1 = r.length + 1 := by
            have h7 := congrArg List.length (hy.symm.trans hw)
            rw [List.length_cons, List.length_append, List.length_singleton] at h7
            omega
          have hrows : rowsA (ints (y :: r)) = rowsA (List.take k (ints L)) ++ [[AV.d (D.v (Value.int IntKind.i64 p))]] := by
            rw [← hy, hw, hk', List.take_of_length_le (by simp)]
            simp [rowsA, ints]
          have q1 : k + 1 = r.length + 1 := by omega
          exact ⟨y :: r, [1], hst.symm, rfl, by decide, rfl, by simp [NT, belA, tget, renA, gVg_cons, nmL, q1], ⟨⟨belB_rowsA _ _ _ (ints (y :: r)), by rw [renB_rowsA, hrows]; rfl⟩, trivial⟩⟩
    · have hskip : cauP c (m.take (i + 1)) = l := by
        rw [hst]
        by_cases h0 : 0 ≤ m[i]
        · rw [if_pos h0, List.getElem?_eq_none (by omega)]
        · rw [if_neg h0]
      by_cases h0 : 0 ≤ m[i]
      · have h1 : ¬ m[i] < 0 := by omega
        have h2 : (c.length : Int) ≤ m[i] := by omega
        cases l with
        | nil =>
          rw [gVg_nil, gBg_nil]
          repeat' (first | refine AW.seq' ?_ | with_reducible refine AW.blockS rfl ?_ | ((first | refine AW.ops ?_ | refine AW.draw ?_ | refine AW.skip ?_ | refine AW.ret ?_ | refine AW.exit ?_) <;> simp only [RS, LS, SY, ne_eq, isFl, floatV, constA, thenQ, blockQ, pack, intA, boolA, eqA, unA, nilcA, asI, asB, asS, loadA, idxA, lenA, slcA, AV.flat, AV.one, zA1, storeA, toD, srcOf, copyA, ↓reduceIte, reduceCtorEq, List.replicate, Nat.reduceBEq, Nat.reduceAdd, Nat.reduceMul, Nat.reduceSub, Nat.reduceLeDiff, Nat.reduceLT, Int.reduceToNat, Nat.reduceEqDiff, Int.reduceEq, getD_map_lt hi, h1, h2]) | refine AW.condT rfl ?_ | refine AW.condF rfl ?_ | ((first | (refine GI.of (fun h => ?_) (fun h => ?_) ?emm; case emm => first | exact Classical.em _ | exact (Classical.em _).symm | grind) | (refine GD.of (fun h => ?_) (fun h => ?_) ?emm; case emm => first | exact Classical.em _ | exact (Classical.em _).symm | grind)) <;> simp only [RS, LS, SY, ne_eq, isFl, floatV, constA, thenQ, blockQ, pack, intA, boolA, eqA, unA, nilcA, asI, asB, asS, loadA, idxA, lenA, slcA, AV.flat, AV.one, zA1, storeA, toD, srcOf, copyA, ↓reduceIte, reduceCtorEq, List.replicate, Nat.reduceBEq, Nat.reduceAdd, Nat.reduceMul, Nat.reduceSub, Nat.reduceLeDiff, Nat.reduceLT, Int.reduceToNat, Nat.reduceEqDiff, Int.reduceEq, getD_map_lt hi, h1, h2, h]) | (refine AW.condP rfl (fun h => ?_) (fun h => ?_) <;> try simp only [Bool.and_eq_true, decide_eq_true_eq, Bool.not_eq_true', decide_eq_false_iff_not, Bool.not_eq_false', Bool.not_eq_true, Bool.not_eq_false] at h) | refine And.intro (by omega) ?_ | fail)
          exact ⟨[], [0], hskip.symm, rfl, by decide, rfl, by simp [NT, belA, tget, renA, gVg_nil, nmL], trivial⟩
        | cons x l =>
          rw [gVg_cons, gBg_cons]
          repeat' (first | refine AW.seq' ?_ | with_reducible refine AW.blockS rfl ?_ | ((first | refine AW.ops ?_ | refine AW.draw ?_ | refine AW.skip ?_ | refine AW.ret ?_ | refine AW.exit ?_) <;> simp only [RS, LS, SY, ne_eq, isFl, floatV, constA, thenQ, blockQ, pack, intA, boolA, eqA, unA, nilcA, asI, asB, asS, loadA, idxA, lenA, slcA, AV.flat, AV.one, zA1, storeA, toD, srcOf, copyA, ↓reduceIte, reduceCtorEq, List.replicate, Nat.reduceBEq, Nat.reduceAdd, Nat.reduceMul, Nat.reduceSub, Nat.reduceLeDiff, Nat.reduceLT, Int.reduceToNat, Nat.reduceEqDiff, Int.reduceEq, getD_map_lt hi, h1, h2]) | refine AW.condT rfl ?_ | refine AW.condF rfl ?_ | ((first | (refine GI.of (fun h => ?_) (fun h => ?_) ?emm; case emm => first | exact Classical.em _ | exact (Classical.em _).symm | grind) | (refine GD.of (fun h => ?_) (fun h => ?_) ?emm; case emm => first | exact Classical.em _ | exact (Classical.em _).symm | grind)) <;> simp only [RS, LS, SY, ne_eq, isFl, floatV, constA, thenQ, blockQ, pack, intA, boolA, eqA, unA, nilcA, asI, asB, asS, loadA, idxA, lenA, slcA, AV.flat, AV.one, zA1, storeA, toD, srcOf, copyA, ↓reduceIte, reduceCtorEq, List.replicate, Nat.reduceBEq, Nat.reduceAdd, Nat.reduceMul, Nat.reduceSub, Nat.reduceLeDiff, Nat.reduceLT, Int.reduceToNat, Nat.reduceEqDiff, Int.reduceEq, getD_map_lt hi, h1, h2, h]) | (refine AW.condP rfl (fun h => ?_) (fun h => ?_) <;> try simp only [Bool.and_eq_true, decide_eq_true_eq, Bool.not_eq_true', decide_eq_false_iff_not, Bool.not_eq_false', Bool.not_eq_true, Bool.not_eq_false] at h) | refine And.intro (by omega) ?_ | fail)
          exact ⟨x :: l, [0], hskip.symm, rfl, by decide, rfl, by simp [NT, belA, tget, renA, gVg_cons, nmL], ⟨⟨belB_rowsA .., by rw [renB_rowsA]; rfl⟩, trivial⟩⟩
      · have h1 : m[i] < 0 := by omega
        cases l with
        | nil =>
          rw [gVg_nil, gBg_nil]
          repeat' (first | refine AW.seq' ?_ | with_reducible refine AW.blockS rfl ?_ | ((first | refine AW.ops ?_ | refine AW.draw ?_ | refine AW.skip ?_ | refine AW.ret ?_ | refine AW.exit ?_) <;> simp only [RS, LS, SY, ne_eq, isFl, floatV, constA, thenQ, blockQ, pack, intA, boolA, eqA, unA, nilcA, asI, asB, asS, loadA, idxA, lenA, slcA, AV.flat, AV.one, zA1, storeA, toD, srcOf, copyA, ↓reduceIte, reduceCtorEq, List.replicate, Nat.reduceBEq, Nat.reduceAdd, Nat.reduceMul, Nat.reduceSub, Nat.reduceLeDiff, Nat.reduceLT, Int.reduceToNat, Nat.reduceEqDiff, Int.reduceEq, getD_map_lt hi, h1]) | refine AW.condT rfl ?_ | refine AW.condF rfl ?_ | ((first | (refine GI.of (fun h => ?_) (fun h => ?_) ?emm; case emm => first | exact Classical.em _ | exact (Classical.em _).symm | grind) | (refine GD.of (fun h => ?_) (fun h => ?_) ?emm; case emm => first | exact Classical.em _ | exact (Classical.em _).symm | grind)) <;> simp only [RS, LS, SY, ne_eq, isFl, floatV, constA, thenQ, blockQ, pack, intA, boolA, eqA, unA, nilcA, asI, asB, asS, loadA, idxA, lenA, slcA, AV.flat, AV.one, zA1, storeA, toD, srcOf, copyA, ↓reduceIte, reduceCtorEq, List.replicate, Nat.reduceBEq, Nat.reduceAdd, Nat.reduceMul, Nat.reduceSub, Nat.reduceLeDiff, Nat.reduceLT, Int.reduceToNat, Nat.reduceEqDiff, Int.reduceEq, getD_map_lt hi, h1, h]) | (refine AW.condP rfl (fun h => ?_) (fun h => ?_) <;> try simp only [Bool.and_eq_true, decide_eq_true_eq, Bool.not_eq_true', decide_eq_false_iff_not, Bool.not_eq_false', Bool.not_eq_true, Bool.not_eq_false] at h) | refine And.intro (by omega) ?_ | fail)
          exact ⟨[], [0], hskip.symm, rfl, by decide, rfl, by simp [NT, belA, tget, renA, gVg_nil, nmL], trivial⟩
        | cons x l =>
          rw [gVg_cons, gBg_cons]
          repeat' (first | refine AW.seq' ?_ | with_reducible refine AW.blockS rfl ?_ | ((first | refine AW.ops ?_ | refine AW.draw ?_ | refine AW.skip ?_ | refine AW.ret ?_ | refine AW.exit ?_) <;> simp only [RS, LS, SY, ne_eq, isFl, floatV, constA, thenQ, blockQ, pack, intA, boolA, eqA, unA, nilcA, asI, asB, asS, loadA, idxA, lenA, slcA, AV.flat, AV.one, zA1, storeA, toD, srcOf, copyA, ↓reduceIte, reduceCtorEq, List.replicate, Nat.reduceBEq, Nat.reduceAdd, Nat.reduceMul, Nat.reduceSub, Nat.reduceLeDiff, Nat.reduceLT, Int.reduceToNat, Nat.reduceEqDiff, Int.reduceEq, getD_map_lt hi, h1]) | refine AW.condT rfl ?_ | refine AW.condF rfl ?_ | ((first | (refine GI.of (fun h => ?_) (fun h => ?_) ?emm; case emm => first | exact Classical.em _ | exact (Classical.em _).symm | grind) | (refine GD.of (fun h => ?_) (fun h => ?_) ?emm; case emm => first | exact Classical.em _ | exact (Classical.em _).symm | grind)) <;> simp only [RS, LS, SY, ne_eq, isFl, floatV, constA, thenQ, blockQ, pack, intA, boolA, eqA, unA, nilcA, asI, asB, asS, loadA, idxA, lenA, slcA, AV.flat, AV.one, zA1, storeA, toD, srcOf, copyA, ↓reduceIte, reduceCtorEq, List.replicate, Nat.reduceBEq, Nat.reduceAdd, Nat.reduceMul, Nat.reduceSub, Nat.reduceLeDiff, Nat.reduceLT, Int.reduceToNat, Nat.reduceEqDiff, Int.reduceEq, getD_map_lt hi, h1, h]) | (refine AW.condP rfl (fun h => ?_) (fun h => ?_) <;> try simp only [Bool.and_eq_true, decide_eq_true_eq, Bool.not_eq_true', decide_eq_false_iff_not, Bool.not_eq_false', Bool.not_eq_true, Bool.not_eq_false] at h) | refine And.intro (by omega) ?_ | fail)
          exact ⟨x :: l, [0], hskip.symm, rfl, by decide, rfl, by simp [NT, belA, tget, renA, gVg_cons, nmL], ⟨⟨belB_rowsA .., by rw [renB_rowsA]; rfl⟩, trivial⟩⟩
  · intro l hJ
    rw [List.take_length] at hJ
    subst hJ
    simp only [RS, LS, SY, ne_eq, isFl, floatV, constA, thenQ, blockQ, pack, intA, boolA, eqA, unA, nilcA, asI, asB, asS, loadA, idxA, lenA, slcA, AV.flat, AV.one, zA1, storeA, toD, srcOf, copyA, ↓reduceIte, reduceCtorEq, List.replicate, Nat.reduceBEq, Nat.reduceAdd, Nat.reduceMul, Nat.reduceSub, Nat.reduceLeDiff, Nat.reduceLT, Int.reduceToNat, Nat.reduceEqDiff, Int.reduceEq]
    repeat' (first | refine AW.seq' ?_ | with_reducible refine AW.blockS rfl ?_ | ((first | refine AW.ops ?_ | refine AW.draw ?_ | refine AW.skip ?_ | refine AW.ret ?_ | refine AW.exit ?_) <;> simp only [RS, LS, SY, ne_eq, isFl, floatV, constA, thenQ, blockQ, pack, intA, boolA, eqA, unA, nilcA, asI, asB, asS, loadA, idxA, lenA, slcA, AV.flat, AV.one, zA1, storeA, toD, srcOf, copyA, ↓reduceIte, reduceCtorEq, List.replicate, Nat.reduceBEq, Nat.reduceAdd, Nat.reduceMul, Nat.reduceSub, Nat.reduceLeDiff, Nat.reduceLT, Int.reduceToNat, Nat.reduceEqDiff, Int.reduceEq]) | refine AW.condT rfl ?_ | refine AW.condF rfl ?_ | ((first | (refine GI.of (fun h => ?_) (fun h => ?_) ?emm; case emm => first | exact Classical.em _ | exact (Classical.em _).symm | grind) | (refine GD.of (fun h => ?_) (fun h => ?_) ?emm; case emm => first | exact Classical.em _ | exact (Classical.em _).symm | grind)) <;> simp only [RS, LS, SY, ne_eq, isFl, floatV, constA, thenQ, blockQ, pack, intA, boolA, eqA, unA, nilcA, asI, asB, asS, loadA, idxA, lenA, slcA, AV.flat, AV.one, zA1, storeA, toD, srcOf, copyA, ↓reduceIte, reduceCtorEq, List.replicate, Nat.reduceBEq, Nat.reduceAdd, Nat.reduceMul, Nat.reduceSub, Nat.reduceLeDiff, Nat.reduceLT, Int.reduceToNat, Nat.reduceEqDiff, Int.reduceEq, h]) | (refine AW.condP rfl (fun h => ?_) (fun h => ?_) <;> try simp only [Bool.and_eq_true, decide_eq_true_eq, Bool.not_eq_true', decide_eq_false_iff_not, Bool.not_eq_false', Bool.not_eq_true, Bool.not_eq_false] at h) | refine And.intro (by omega) ?_ | fail)
end Go.Proofs.YtnbfcknhohdeeaaDoor.H
