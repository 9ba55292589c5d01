/- Chapter 26: Compact. -/
import Derived.Test.YtkgeadhnagnloaaHdG
set_option linter.unusedSimpArgs false
set_option linter.unusedVariables false
namespace Go.Proofs.Ytkgeadhnagnloaa.H
theorem dedP_snoc (x : Pt) : ∀ l : List Pt, dedP (l ++ [x]) = if l.getLast? = some x then dedP l else dedP l ++ [x]
  | [] => by simp [dedP]
  | [a] => by
    simp only [List.cons_append, List.nil_append, dedP, List.getLast?_singleton, Option.some.injEq]
    split
    · rename_i h; subst h; rfl
    · rfl
  | a :: b :: l => by
    have ih := dedP_snoc x (b :: l)
    have e : dedP (a :: b :: l ++ [x]) = if a = b then dedP (b :: l ++ [x]) else a :: dedP (b :: l ++ [x]) := rfl
    have e2 : dedP (a :: b :: l) = if a = b then dedP (b :: l) else a :: dedP (b :: l) := rfl
    rw [e, ih, e2, List.getLast?_cons_cons]
    split <;> split <;> simp_all
/-- One step of a list cut down to what differs from the one ahead. -/
theorem dedP_take {l : List Pt} {j : Nat} (h0 : 0 < j) (hj : j < l.length) : dedP (l.take (j + 1)) = if l[j] = l[j - 1] then dedP (l.take j) else dedP (l.take j) ++ [l[j]] := by
  rw [List.take_succ_eq_append_getElem hj, dedP_snoc]
  have : (l.take j).getLast? = some l[j - 1] := by
    rw [List.getLast?_eq_getElem?, List.length_take, List.getElem?_take, if_pos (by omega), Nat.min_eq_left (by omega), List.getElem?_eq_getElem (by omega)]
  rw [this]
  by_cases h : l[j] = l[j - 1]
  · rw [if_pos (by rw [h]), if_pos h]
  · rw [if_neg (fun e => h (by simpa using e.symm)), if_neg h]
theorem dedP_len : ∀ l : List Pt, (dedP l).length ≤ l.length
  | [] => by simp [dedP]
  | [a] => by simp [dedP]
  | a :: b :: l => by
    have := dedP_len (b :: l)
    rw [dedP]
    split
    · simp only [List.length_cons] at this ⊢; omega
    · simp only [List.length_cons] at this ⊢; omega
/-- What the list looks like after a step of the squeeze: the kept ones, then what was there. -/
structure SqP (l cur : List Pt) (i j : Nat) : Prop where
  len : cur.length = l.length
  kept : cur.take i = dedP (l.take j)
  cnt : i = (dedP (l.take j)).length
  lt : i < j
  rest : ∀ (t : Nat) (h : t < l.length), j - 1 ≤ t → cur[t]? = some l[t]
theorem SqP.step {l cur : List Pt} {i j : Nat} (h : SqP l cur i j) (h0 : 0 < j) (hj : j < l.length) : if l[j] = l[j - 1] then SqP l cur i (j + 1) else SqP l (cur.set i l[j]) (i + 1) (j + 1) := by
  have hd := dedP_take h0 hj
  split
  · rename_i e
    rw [if_pos e] at hd
    exact ⟨h.len, by rw [hd]; exact h.kept, by rw [hd]; exact h.cnt, by have := h.lt; omega, fun t ht h1 => h.rest t ht (by omega)⟩
  · rename_i e
    rw [if_neg e] at hd
    have hil : i < cur.length := by have := h.lt; have := h.len; omega
    refine ⟨by simp [h.len], ?_, by rw [hd, List.length_append]; have := h.cnt; simp; omega, by have := h.lt; omega, fun t ht h1 => ?_⟩
    · rw [hd, List.take_succ_eq_append_getElem (by simpa using hil), List.take_set_of_le (Nat.le_refl _), h.kept]; simp
    · rw [List.getElem?_set, if_neg (by have := h.lt; omega)]
      exact h.rest t ht (by omega)
/-- No two neighbours are equal so far: nothing is dropped. -/
theorem dedP_nodup {l : List Pt} : ∀ {j : Nat}, j ≤ l.length → (∀ (t : Nat) (h : t < l.length), 0 < t → t < j → l[t] ≠ l[t - 1]) → dedP (l.take j) = l.take j
  | 0, _, _ => by simp [dedP]
  | j + 1, hj, h => by
    have ih := dedP_nodup (j := j) (by omega) (fun t ht h1 h2 => h t ht h1 (by omega))
    by_cases h0 : j = 0
    · subst h0
      cases l with
      | nil => simp at hj
      | cons a l => simp [dedP]
    · rw [dedP_take (by omega) (by omega), if_neg (h j (by omega) (by omega) (by omega)), ih, List.take_succ_eq_append_getElem (by omega)]
theorem SqP.first {l : List Pt} {i : Nat} (h0 : 0 < i) (hi : i < l.length) (he : l[i] = l[i - 1]) (h : ∀ (t : Nat) (h : t < l.length), 0 < t → t < i → l[t] ≠ l[t - 1]) : SqP l l i (i + 1) := by
  have hd : dedP (l.take (i + 1)) = l.take i := by rw [dedP_take h0 hi, if_pos he, dedP_nodup (by omega) h]
  exact ⟨rfl, hd.symm, by rw [hd, List.length_take]; omega, by omega, fun t ht _ => List.getElem?_eq_getElem ht⟩
theorem rowsA_get {cur l : List Pt} {t u : Nat} (ht : t < l.length) (h : cur[t]? = some l[t]) (hu : u = t) : (rowsA (pts cur)).getD u [] = [AI .i64 l[t].1, AI .i64 l[t].2] := by
  subst hu
  simp [rowsA, List.getD, h]
set_option maxHeartbeats 4000000 in
theorem compact_ok (l : List Pt) (hl : l.length ≤ 1000000) : ACalls Try.prog 48 [.own 0 0 l.length] [some (.cells 29 2 (rowsA (pts l)))] fun v s' => v = .own 0 0 (dedP l).length ∧ s' = [some (.cells 29 2 (rowsA (pts (dedP l ++ List.replicate (l.length - (dedP l).length) (0, 0)))))] := by
  refine ACalls.of fn48 (by simp) ?_
  unfold c48
  by_cases h2 : l.length < 2
  · have hc : (l.length : Int) < 2 := by omega
    have hd : dedP l = l := by
      match l, h2 with
      | [], _ => rfl
      | [a], _ => rfl
    repeat' (first | refine AW.seq' ?_ | with_reducible refine AW.blockS rfl ?_ | ((first | refine AW.ops ?_ | refine AW.draw ?_ | refine AW.skip ?_ | refine AW.ret ?_ | refine AW.exit ?_) <;> simp only [RS, LS, SY, ne_eq, isFl, floatV, constA, thenQ, blockQ, pack, intA, boolA, eqA, unA, nilcA, asI, asB, asS, loadA, idxA, lenA, slcA, AV.flat, AV.one, zA1, storeA, toD, srcOf, copyA, ↓reduceIte, reduceCtorEq, List.replicate, Nat.reduceBEq, Nat.reduceAdd, Nat.reduceMul, Nat.reduceSub, Nat.reduceLeDiff, Nat.reduceLT, Int.reduceToNat, Nat.reduceEqDiff, Int.reduceEq, hc]) | refine AW.condT rfl ?_ | refine AW.condF rfl ?_ | ((first | refine GI.of (fun h => ?_) (fun h => ?_) (by first | exact Classical.em _ | exact (Classical.em _).symm | grind) | refine GD.of (fun h => ?_) (fun h => ?_) (by first | exact Classical.em _ | exact (Classical.em _).symm | grind)) <;> simp only [RS, LS, SY, ne_eq, isFl, floatV, constA, thenQ, blockQ, pack, intA, boolA, eqA, unA, nilcA, asI, asB, asS, loadA, idxA, lenA, slcA, AV.flat, AV.one, zA1, storeA, toD, srcOf, copyA, ↓reduceIte, reduceCtorEq, List.replicate, Nat.reduceBEq, Nat.reduceAdd, Nat.reduceMul, Nat.reduceSub, Nat.reduceLeDiff, Nat.reduceLT, Int.reduceToNat, Nat.reduceEqDiff, Int.reduceEq, hc, h]) | (refine AW.condP rfl (fun h => ?_) (fun h => ?_) <;> try simp only [Bool.and_eq_true, decide_eq_true_eq, Bool.not_eq_true', decide_eq_false_iff_not, Bool.not_eq_false', Bool.not_eq_true, Bool.not_eq_false] at h) | refine And.intro (by omega) ?_ | fail)
    rw [hd]; simp
  · have hc : ¬ (l.length : Int) < 2 := by omega
    repeat' (first | refine AW.seq' ?_ | with_reducible refine AW.blockS rfl ?_ | ((first | refine AW.ops ?_ | refine AW.draw ?_ | refine AW.skip ?_ | refine AW.ret ?_ | refine AW.exit ?_) <;> simp only [RS, LS, SY, ne_eq, isFl, floatV, constA, thenQ, blockQ, pack, intA, boolA, eqA, unA, nilcA, asI, asB, asS, loadA, idxA, lenA, slcA, AV.flat, AV.one, zA1, storeA, toD, srcOf, copyA, ↓reduceIte, reduceCtorEq, List.replicate, Nat.reduceBEq, Nat.reduceAdd, Nat.reduceMul, Nat.reduceSub, Nat.reduceLeDiff, Nat.reduceLT, Int.reduceToNat, Nat.reduceEqDiff, Int.reduceEq, hc]) | refine AW.condT rfl ?_ | refine AW.condF rfl ?_ | ((first | refine GI.of (fun h => ?_) (fun h => ?_) (by first | exact Classical.em _ | exact (Classical.em _).symm | grind) | refine GD.of (fun h => ?_) (fun h => ?_) (by first | exact Classical.em _ | exact (Classical.em _).symm | grind)) <;> simp only [RS, LS, SY, ne_eq, isFl, floatV, constA, thenQ, blockQ, pack, intA, boolA, eqA, unA, nilcA, asI, asB, asS, loadA, idxA, lenA, slcA, AV.flat, AV.one, zA1, storeA, toD, srcOf, copyA, ↓reduceIte, reduceCtorEq, List.replicate, Nat.reduceBEq, Nat.reduceAdd, Nat.reduceMul, Nat.reduceSub, Nat.reduceLeDiff, Nat.reduceLT, Int.reduceToNat, Nat.reduceEqDiff, Int.reduceEq, hc, h]) | (refine AW.condP rfl (fun h => ?_) (fun h => ?_) <;> try simp only [Bool.and_eq_true, decide_eq_true_eq, Bool.not_eq_true', decide_eq_false_iff_not, Bool.not_eq_false', Bool.not_eq_true, Bool.not_eq_false] at h) | refine And.intro (by omega) ?_ | fail)
    refine AW.block ?_
    refine AW.loopA (α := Nat) (fun i => l.length + 1 - i) (fun i => [(3, AI .i64 i), (0, .own 0 0 l.length)]) (fun _ => [some (.cells 29 2 (rowsA (pts l)))]) (fun i => 0 < i ∧ i ≤ l.length ∧ ∀ (t : Nat) (h : t < l.length), 0 < t → t < i → l[t] ≠ l[t - 1]) 1 ⟨by omega, by omega, fun t h h1 h2 => by omega⟩ [0] ⟨rfl, by decide, rfl, by simp [NT, belA, belL, tget, renA, renL, nmL], ⟨⟨belB_rowsA .., by rw [renB_rowsA]; rfl⟩, trivial⟩⟩ ?_
    intro i ⟨hi0, hi1, hi2⟩
    unfold c48_1
    by_cases hi : i < l.length
    · have hci : (i : Int) < l.length := by omega
      have e1 : ((i : Int) - 1).toNat = i - 1 := by omega
      have g1 := rowsA_get (cur := l) hi (List.getElem?_eq_getElem hi) rfl
      have g2 := rowsA_get (cur := l) (t := i - 1) (by omega) (List.getElem?_eq_getElem (by omega)) rfl
      repeat' (first | refine AW.seq' ?_ | with_reducible refine AW.blockS rfl ?_ | ((first | refine AW.ops ?_ | refine AW.draw ?_ | refine AW.skip ?_ | refine AW.ret ?_ | refine AW.exit ?_) <;> simp (disch := omega) only [RS, LS, SY, ne_eq, isFl, floatV, constA, thenQ, blockQ, pack, intA, boolA, eqA, unA, nilcA, asI, asB, asS, loadA, idxA, lenA, slcA, AV.flat, AV.one, zA1, storeA, toD, srcOf, copyA, ↓reduceIte, reduceCtorEq, List.replicate, Nat.reduceBEq, Nat.reduceAdd, Nat.reduceMul, Nat.reduceSub, Nat.reduceLeDiff, Nat.reduceLT, Int.reduceToNat, Nat.reduceEqDiff, Int.reduceEq, wrap_id, hci, e1, g1, g2]) | refine AW.condT rfl ?_ | refine AW.condF rfl ?_ | ((first | refine GI.of (fun h => ?_) (fun h => ?_) (by first | exact Classical.em _ | exact (Classical.em _).symm | grind) | refine GD.of (fun h => ?_) (fun h => ?_) (by first | exact Classical.em _ | exact (Classical.em _).symm | grind)) <;> simp (disch := omega) only [RS, LS, SY, ne_eq, isFl, floatV, constA, thenQ, blockQ, pack, intA, boolA, eqA, unA, nilcA, asI, asB, asS, loadA, idxA, lenA, slcA, AV.flat, AV.one, zA1, storeA, toD, srcOf, copyA, ↓reduceIte, reduceCtorEq, List.replicate, Nat.reduceBEq, Nat.reduceAdd, Nat.reduceMul, Nat.reduceSub, Nat.reduceLeDiff, Nat.reduceLT, Int.reduceToNat, Nat.reduceEqDiff, Int.reduceEq, wrap_id, hci, e1, g1, g2, h]) | (refine AW.condP rfl (fun h => ?_) (fun h => ?_) <;> try simp only [Bool.and_eq_true, decide_eq_true_eq, Bool.not_eq_true', decide_eq_false_iff_not, Bool.not_eq_false', Bool.not_eq_true, Bool.not_eq_false] at h) | refine And.intro (by omega) ?_ | fail)
      · refine AW.block ?_
        refine AW.loopA (α := List Pt × Nat × Nat) (fun x => l.length + 1 - x.2.2) (fun x => [(5, AI .i64 x.2.2), (4, .own 0 i (l.length - i)), (0, .own 0 0 l.length), (3, AI .i64 x.2.1)]) (fun x => [some (.cells 29 2 (rowsA (pts x.1)))]) (fun x => 0 < x.2.2 ∧ i + x.2.2 ≤ l.length ∧ SqP l x.1 x.2.1 (i + x.2.2)) (l, i, 1) ⟨by dsimp only; omega, by dsimp only; omega, SqP.first hi0 hi (Prod.ext h.1 h.2) hi2⟩ [0] ⟨rfl, by decide, rfl, by simp [NT, belA, belL, tget, renA, renL, nmL], ⟨⟨belB_rowsA .., by rw [renB_rowsA]; rfl⟩, trivial⟩⟩ ?_
        rintro ⟨cur, q, k⟩ ⟨hk0, hk1, hS⟩
        dsimp only at hk0 hk1 hS ⊢
        unfold c48_0
        have hql : q < i + k := hS.lt
        have hcl : cur.length = l.length := hS.len
        by_cases hk : i + k < l.length
        · have hck : (k : Int) < ((l.length - i : Nat) : Int) := by omega
          have e2 : ((k : Int) - 1).toNat = k - 1 := by omega
          have f1 := rowsA_get hk (hS.rest _ hk (by omega)) rfl
          have f2 := rowsA_get (u := i + (k - 1)) (t := i + k - 1) (by omega) (hS.rest (i + k - 1) (by omega) (by omega)) (by omega)
          have hqc : q < cur.length := by have := hS.len; omega
          have f3 := rowsA_get (cur := cur) (l := cur) hqc (List.getElem?_eq_getElem hqc) rfl
          have hst := hS.step (by omega) hk
          repeat' (first | refine AW.seq' ?_ | with_reducible refine AW.blockS rfl ?_ | ((first | refine AW.ops ?_ | refine AW.draw ?_ | refine AW.skip ?_ | refine AW.ret ?_ | refine AW.exit ?_) <;> simp (disch := omega) only [RS, LS, SY, ne_eq, isFl, floatV, constA, thenQ, blockQ, pack, intA, boolA, eqA, unA, nilcA, asI, asB, asS, loadA, idxA, lenA, slcA, AV.flat, AV.one, zA1, storeA, toD, srcOf, copyA, ↓reduceIte, reduceCtorEq, List.replicate, Nat.reduceBEq, Nat.reduceAdd, Nat.reduceMul, Nat.reduceSub, Nat.reduceLeDiff, Nat.reduceLT, Int.reduceToNat, Nat.reduceEqDiff, Int.reduceEq, wrap_id, hck, e2, f1, f2, f3]) | refine AW.condT rfl ?_ | refine AW.condF rfl ?_ | ((first | refine GI.of (fun h => ?_) (fun h => ?_) (by first | exact Classical.em _ | exact (Classical.em _).symm | grind) | refine GD.of (fun h => ?_) (fun h => ?_) (by first | exact Classical.em _ | exact (Classical.em _).symm | grind)) <;> simp (disch := omega) only [RS, LS, SY, ne_eq, isFl, floatV, constA, thenQ, blockQ, pack, intA, boolA, eqA, unA, nilcA, asI, asB, asS, loadA, idxA, lenA, slcA, AV.flat, AV.one, zA1, storeA, toD, srcOf, copyA, ↓reduceIte, reduceCtorEq, List.replicate, Nat.reduceBEq, Nat.reduceAdd, Nat.reduceMul, Nat.reduceSub, Nat.reduceLeDiff, Nat.reduceLT, Int.reduceToNat, Nat.reduceEqDiff, Int.reduceEq, wrap_id, hck, e2, f1, f2, f3, h]) | (refine AW.condP rfl (fun h => ?_) (fun h => ?_) <;> try simp only [Bool.and_eq_true, decide_eq_true_eq, Bool.not_eq_true', decide_eq_false_iff_not, Bool.not_eq_false', Bool.not_eq_true, Bool.not_eq_false] at h) | refine And.intro (by omega) ?_ | fail)
          · have hne : ¬ l[i + k] = l[i + k - 1] := fun e => by simp [e] at h
            rw [if_neg hne] at hst
            refine ⟨(cur.set q l[i + k], q + 1, k + 1), [0], ⟨by dsimp only; omega, by dsimp only; omega, hst⟩, by dsimp only; omega, rfl, by decide, rfl, by simp [NT, belA, belL, tget, renA, renL, nmL], ⟨⟨belB_rowsA .., ?_⟩, trivial⟩⟩
            rw [renB_rowsA]
            have e : rowsA (pts (cur.set q l[i + k])) = (rowsA (pts cur)).set q [AI .i64 l[i + k].1, AI .i64 l[i + k].2] := by simp [rowsA, List.map_set]
            rw [e]; rfl
          · rw [if_pos (Prod.ext h.1 h.2)] at hst
            exact ⟨(cur, q, k + 1), [0], ⟨by dsimp only; omega, by dsimp only; omega, hst⟩, by dsimp only; omega, rfl, by decide, rfl, by simp [NT, belA, belL, tget, renA, renL, nmL], ⟨⟨belB_rowsA .., by rw [renB_rowsA]; rfl⟩, trivial⟩⟩
        · have hck : ¬ (k : Int) < ((l.length - i : Nat) : Int) := by omega
          have hkl : i + k = l.length := by omega
          rw [hkl] at hS
          repeat' (first | refine AW.seq' ?_ | with_reducible refine AW.blockS rfl ?_ | ((first | refine AW.ops ?_ | refine AW.draw ?_ | refine AW.skip ?_ | refine AW.ret ?_ | refine AW.exit ?_ |  refine AOp.clr zero29 rfl (by decide) rfl (by simp only [rowsA_len, List.length_map, hS.len]; omega) ?_) <;> simp (disch := omega) only [RS, LS, SY, ne_eq, isFl, floatV, constA, thenQ, blockQ, pack, intA, boolA, eqA, unA, nilcA, asI, asB, asS, loadA, idxA, lenA, slcA, AV.flat, AV.one, zA1, storeA, toD, srcOf, copyA, ↓reduceIte, reduceCtorEq, List.replicate, Nat.reduceBEq, Nat.reduceAdd, Nat.reduceMul, Nat.reduceSub, Nat.reduceLeDiff, Nat.reduceLT, Int.reduceToNat, Nat.reduceEqDiff, Int.reduceEq, wrap_id, hck]) | refine AW.condT rfl ?_ | refine AW.condF rfl ?_ | ((first | refine GI.of (fun h => ?_) (fun h => ?_) (by first | exact Classical.em _ | exact (Classical.em _).symm | grind) | refine GD.of (fun h => ?_) (fun h => ?_) (by first | exact Classical.em _ | exact (Classical.em _).symm | grind)) <;> simp (disch := omega) only [RS, LS, SY, ne_eq, isFl, floatV, constA, thenQ, blockQ, pack, intA, boolA, eqA, unA, nilcA, asI, asB, asS, loadA, idxA, lenA, slcA, AV.flat, AV.one, zA1, storeA, toD, srcOf, copyA, ↓reduceIte, reduceCtorEq, List.replicate, Nat.reduceBEq, Nat.reduceAdd, Nat.reduceMul, Nat.reduceSub, Nat.reduceLeDiff, Nat.reduceLT, Int.reduceToNat, Nat.reduceEqDiff, Int.reduceEq, wrap_id, hck, h]) | (refine AW.condP rfl (fun h => ?_) (fun h => ?_) <;> try simp only [Bool.and_eq_true, decide_eq_true_eq, Bool.not_eq_true', decide_eq_false_iff_not, Bool.not_eq_false', Bool.not_eq_true, Bool.not_eq_false] at h) | refine And.intro (by omega) ?_ | fail)
          have hk' := hS.kept
          have hc' := hS.cnt
          rw [List.take_length] at hk' hc'
          refine ⟨by rw [Nat.sub_zero, hc'], ?_⟩
          have e : List.drop (q + (l.length - q)) (rowsA (pts cur)) = [] := List.drop_eq_nil_of_le (by rw [rowsA_len, List.length_map]; omega)
          rw [e, List.append_nil, ← List.map_take, hk', hc']
          simp [rowsA]
      · refine ⟨i + 1, [0], ⟨by omega, by omega, fun t ht h1 h2 => ?_⟩, by omega, rfl, by decide, rfl, by simp [NT, belA, belL, tget, renA, renL, nmL], ⟨⟨belB_rowsA .., by rw [renB_rowsA]; rfl⟩, trivial⟩⟩
        by_cases e : t = i
        · subst e; exact fun e => h ⟨by rw [e], by rw [e]⟩
        · exact hi2 t ht h1 (by omega)
    · have hci : ¬ (i : Int) < l.length := by omega
      have hil : i = l.length := by omega
      have hd := dedP_nodup hi1 hi2
      rw [hil, List.take_length] at hd
      repeat' (first | refine AW.seq' ?_ | with_reducible refine AW.blockS rfl ?_ | ((first | refine AW.ops ?_ | refine AW.draw ?_ | refine AW.skip ?_ | refine AW.ret ?_ | refine AW.exit ?_) <;> simp only [RS, LS, SY, ne_eq, isFl, floatV, constA, thenQ, blockQ, pack, intA, boolA, eqA, unA, nilcA, asI, asB, asS, loadA, idxA, lenA, slcA, AV.flat, AV.one, zA1, storeA, toD, srcOf, copyA, ↓reduceIte, reduceCtorEq, List.replicate, Nat.reduceBEq, Nat.reduceAdd, Nat.reduceMul, Nat.reduceSub, Nat.reduceLeDiff, Nat.reduceLT, Int.reduceToNat, Nat.reduceEqDiff, Int.reduceEq, hci]) | refine AW.condT rfl ?_ | refine AW.condF rfl ?_ | ((first | refine GI.of (fun h => ?_) (fun h => ?_) (by first | exact Classical.em _ | exact (Classical.em _).symm | grind) | refine GD.of (fun h => ?_) (fun h => ?_) (by first | exact Classical.em _ | exact (Classical.em _).symm | grind)) <;> simp only [RS, LS, SY, ne_eq, isFl, floatV, constA, thenQ, blockQ, pack, intA, boolA, eqA, unA, nilcA, asI, asB, asS, loadA, idxA, lenA, slcA, AV.flat, AV.one, zA1, storeA, toD, srcOf, copyA, ↓reduceIte, reduceCtorEq, List.replicate, Nat.reduceBEq, Nat.reduceAdd, Nat.reduceMul, Nat.reduceSub, Nat.reduceLeDiff, Nat.reduceLT, Int.reduceToNat, Nat.reduceEqDiff, Int.reduceEq, hci, h]) | (refine AW.condP rfl (fun h => ?_) (fun h => ?_) <;> try simp only [Bool.and_eq_true, decide_eq_true_eq, Bool.not_eq_true', decide_eq_false_iff_not, Bool.not_eq_false', Bool.not_eq_true, Bool.not_eq_false] at h) | refine And.intro (by omega) ?_ | fail)
      rw [hd]; simp
end Go.Proofs.Ytkgeadhnagnloaa.H
