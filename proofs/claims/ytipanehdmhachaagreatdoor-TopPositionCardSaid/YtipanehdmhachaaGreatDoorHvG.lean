/- Chapter 8: Compact; the causes of some references. -/
import Derived.Test.YtipanehdmhachaaGreatDoorHvF
set_option linter.unusedSimpArgs false
set_option linter.unusedVariables false
set_option linter.unusedSectionVars false
namespace Go.Proofs.YtipanehdmhachaaGreatDoor.H
variable [DR]
theorem zero3 : zeroOf Tryz.prog 3 = some [.int .i64 0] := by kernel_rfl
theorem dedI_snoc (x : Int) : ∀ l : List Int, dedI (l ++ [x]) = if l.getLast? = some x then dedI l else dedI l ++ [x]
  | [] => by simp [dedI]
  | [a] => by
    simp only [List.cons_append, List.nil_append, dedI, List.getLast?_singleton, Option.some.injEq]
    split
    · rename_i h; subst h; rfl
    · rfl
  | a :: b :: l => by
    have ih := dedI_snoc x (b :: l)
    have e : dedI (a :: b :: l ++ [x]) = if a = b then dedI (b :: l ++ [x]) else a :: dedI (b :: l ++ [x]) := rfl
    have e2 : dedI (a :: b :: l) = if a = b then dedI (b :: l) else a :: dedI (b :: l) := rfl
    rw [e, ih, e2, List.getLast?_cons_cons]
    split <;> split <;> simp_all
theorem dedI_take {l : List Int} {j : Nat} (h0 : 0 < j) (hj : j < l.length) : dedI (l.take (j + 1)) = if l[j] = l[j - 1] then dedI (l.take j) else dedI (l.take j) ++ [l[j]] := by
  rw [List.take_succ_eq_append_getElem hj, dedI_snoc]
  have : (l.take j).getLast? = some l[j - 1] := by
    rw [List.getLast?_eq_getElem?, List.length_take, List.getElem?_take, if_pos (by omega), Nat.min_eq_left (by omega), List.getElem?_eq_getElem (by omega)]
  rw [this]
  by_cases h : l[j] = l[j - 1]
  · rw [if_pos (by rw [h]), if_pos h]
  · rw [if_neg (fun e => h (by simpa using e.symm)), if_neg h]
structure SqI (l cur : List Int) (i j : Nat) : Prop where
  len : cur.length = l.length
  kept : cur.take i = dedI (l.take j)
  cnt : i = (dedI (l.take j)).length
  lt : i < j
  rest : ∀ (t : Nat) (h : t < l.length), j - 1 ≤ t → cur[t]? = some l[t]
theorem SqI.step {l cur : List Int} {i j : Nat} (h : SqI l cur i j) (h0 : 0 < j) (hj : j < l.length) : if l[j] = l[j - 1] then SqI l cur i (j + 1) else SqI l (cur.set i l[j]) (i + 1) (j + 1) := by
  have hd := dedI_take h0 hj
  split
  · rename_i e
    rw [if_pos e] at hd
    exact ⟨h.len, by rw [hd]; exact h.kept, by rw [hd]; exact h.cnt, by have := h.lt; omega, fun t ht h1 => h.rest t ht (by omega)⟩
  · rename_i e
    rw [if_neg e] at hd
    have hil : i < cur.length := by have := h.lt; have := h.len; omega
    refine ⟨by simp [h.len], ?_, by rw [hd, List.length_append]; have := h.cnt; simp; omega, by have := h.lt; omega, fun t ht h1 => ?_⟩
    · rw [hd, List.take_succ_eq_append_getElem (by simpa using hil), List.take_set_of_le (Nat.le_refl _), h.kept]; simp
    · rw [List.getElem?_set, if_neg (by have := h.lt; omega)]
      exact h.rest t ht (by omega)
theorem dedI_nodup {l : List Int} : ∀ {j : Nat}, j ≤ l.length → (∀ (t : Nat) (h : t < l.length), 0 < t → t < j → l[t] ≠ l[t - 1]) → dedI (l.take j) = l.take j
  | 0, _, _ => by simp [dedI]
  | j + 1, hj, h => by
    have ih := dedI_nodup (j := j) (by omega) (fun t ht h1 h2 => h t ht h1 (by omega))
    by_cases h0 : j = 0
    · subst h0
      cases l with
      | nil => simp at hj
      | cons a l => simp [dedI]
    · rw [dedI_take (by omega) (by omega), if_neg (h j (by omega) (by omega) (by omega)), ih, List.take_succ_eq_append_getElem (by omega)]
theorem SqI.first {l : List Int} {i : Nat} (h0 : 0 < i) (hi : i < l.length) (he : l[i] = l[i - 1]) (h : ∀ (t : Nat) (h : t < l.length), 0 < t → t < i → l[t] ≠ l[t - 1]) : SqI l l i (i + 1) := by
  have hd : dedI (l.take (i + 1)) = l.take i := by rw [dedI_take h0 hi, if_pos he, dedI_nodup (by omega) h]
  exact ⟨rfl, hd.symm, by rw [hd, List.length_take]; omega, by omega, fun t ht _ => List.getElem?_eq_getElem ht⟩
theorem rowsA_get {cur l : List Int} {t u : Nat} (ht : t < l.length) (h : cur[t]? = some l[t]) (hu : u = t) : (rowsA (ints cur)).getD u [] = [AI .i64 l[t]] := by
  subst hu
  simp [rowsA, List.getD, h]
set_option maxHeartbeats 4000000 in
theorem compact_ok (l : List Int) (hl : l.length ≤ 1000000) : ACalls Tryz.prog 110 [.own 0 0 l.length] [some (.cells 3 1 (rowsA (ints l)))] fun v s' => v = .own 0 0 (dedI l).length ∧ s' = [some (.cells 3 1 (rowsA (ints (dedI l ++ List.replicate (l.length - (dedI l).length) 0))))] := by
  refine ACalls.of fn110 (by simp) ?_
  unfold c110
  by_cases h2 : l.length < 2
  · have hc : (l.length : Int) < 2 := by omega
    have hd : dedI l = l := by
      match l, h2 with
      | [], _ => rfl
      | [a], _ => rfl
    repeat' (first | refine AW.seq' ?_ | with_reducible refine AW.blockS rfl ?_ | ((first | refine AW.ops ?_ | refine AW.draw ?_ | refine AW.skip ?_ | refine AW.ret ?_ | refine AW.exit ?_) <;> simp only [RS, LS, SY, ne_eq, isFl, floatV, constA, thenQ, blockQ, pack, intA, boolA, eqA, unA, nilcA, asI, asB, asS, loadA, idxA, lenA, slcA, AV.flat, AV.one, zA1, storeA, toD, srcOf, copyA, ↓reduceIte, reduceCtorEq, List.replicate, Nat.reduceBEq, Nat.reduceAdd, Nat.reduceMul, Nat.reduceSub, Nat.reduceLeDiff, Nat.reduceLT, Int.reduceToNat, Nat.reduceEqDiff, Int.reduceEq, hc]) | refine AW.condT rfl ?_ | refine AW.condF rfl ?_ | ((first | (refine GI.of (fun h => ?_) (fun h => ?_) ?emm; case emm => first | exact Classical.em _ | exact (Classical.em _).symm | grind) | (refine GD.of (fun h => ?_) (fun h => ?_) ?emm; case emm => first | exact Classical.em _ | exact (Classical.em _).symm | grind)) <;> simp only [RS, LS, SY, ne_eq, isFl, floatV, constA, thenQ, blockQ, pack, intA, boolA, eqA, unA, nilcA, asI, asB, asS, loadA, idxA, lenA, slcA, AV.flat, AV.one, zA1, storeA, toD, srcOf, copyA, ↓reduceIte, reduceCtorEq, List.replicate, Nat.reduceBEq, Nat.reduceAdd, Nat.reduceMul, Nat.reduceSub, Nat.reduceLeDiff, Nat.reduceLT, Int.reduceToNat, Nat.reduceEqDiff, Int.reduceEq, hc, h]) | (refine AW.condP rfl (fun h => ?_) (fun h => ?_) <;> try simp only [Bool.and_eq_true, decide_eq_true_eq, Bool.not_eq_true', decide_eq_false_iff_not, Bool.not_eq_false', Bool.not_eq_true, Bool.not_eq_false] at h) | refine And.intro (by omega) ?_ | fail)
    rw [hd]; simp
  · have hc : ¬ (l.length : Int) < 2 := by omega
    repeat' (first | refine AW.seq' ?_ | with_reducible refine AW.blockS rfl ?_ | ((first | refine AW.ops ?_ | refine AW.draw ?_ | refine AW.skip ?_ | refine AW.ret ?_ | refine AW.exit ?_) <;> simp only [RS, LS, SY, ne_eq, isFl, floatV, constA, thenQ, blockQ, pack, intA, boolA, eqA, unA, nilcA, asI, asB, asS, loadA, idxA, lenA, slcA, AV.flat, AV.one, zA1, storeA, toD, srcOf, copyA, ↓reduceIte, reduceCtorEq, List.replicate, Nat.reduceBEq, Nat.reduceAdd, Nat.reduceMul, Nat.reduceSub, Nat.reduceLeDiff, Nat.reduceLT, Int.reduceToNat, Nat.reduceEqDiff, Int.reduceEq, hc]) | refine AW.condT rfl ?_ | refine AW.condF rfl ?_ | ((first | (refine GI.of (fun h => ?_) (fun h => ?_) ?emm; case emm => first | exact Classical.em _ | exact (Classical.em _).symm | grind) | (refine GD.of (fun h => ?_) (fun h => ?_) ?emm; case emm => first | exact Classical.em _ | exact (Classical.em _).symm | grind)) <;> simp only [RS, LS, SY, ne_eq, isFl, floatV, constA, thenQ, blockQ, pack, intA, boolA, eqA, unA, nilcA, asI, asB, asS, loadA, idxA, lenA, slcA, AV.flat, AV.one, zA1, storeA, toD, srcOf, copyA, ↓reduceIte, reduceCtorEq, List.replicate, Nat.reduceBEq, Nat.reduceAdd, Nat.reduceMul, Nat.reduceSub, Nat.reduceLeDiff, Nat.reduceLT, Int.reduceToNat, Nat.reduceEqDiff, Int.reduceEq, hc, h]) | (refine AW.condP rfl (fun h => ?_) (fun h => ?_) <;> try simp only [Bool.and_eq_true, decide_eq_true_eq, Bool.not_eq_true', decide_eq_false_iff_not, Bool.not_eq_false', Bool.not_eq_true, Bool.not_eq_false] at h) | refine And.intro (by omega) ?_ | fail)
    refine AW.block ?_
    refine AW.loopA (α := Nat) (fun i => l.length + 1 - i) (fun i => [(3, AI .i64 i), (0, .own 0 0 l.length)]) (fun _ => [some (.cells 3 1 (rowsA (ints l)))]) (fun i => 0 < i ∧ i ≤ l.length ∧ ∀ (t : Nat) (h : t < l.length), 0 < t → t < i → l[t] ≠ l[t - 1]) 1 ⟨by omega, by omega, fun t h h1 h2 => by omega⟩ [0] ⟨rfl, by decide, rfl, by simp [NT, belA, belL, tget, renA, renL, nmL], ⟨⟨belB_rowsA .., by rw [renB_rowsA]; rfl⟩, trivial⟩⟩ ?_
    intro i ⟨hi0, hi1, hi2⟩
    unfold c110_1
    by_cases hi : i < l.length
    · have hci : (i : Int) < l.length := by omega
      have e1 : ((i : Int) - 1).toNat = i - 1 := by omega
      have g1 := rowsA_get (cur := l) hi (List.getElem?_eq_getElem hi) rfl
      have g2 := rowsA_get (cur := l) (t := i - 1) (by omega) (List.getElem?_eq_getElem (by omega)) rfl
      repeat' (first | refine AW.seq' ?_ | with_reducible refine AW.blockS rfl ?_ | ((first | refine AW.ops ?_ | refine AW.draw ?_ | refine AW.skip ?_ | refine AW.ret ?_ | refine AW.exit ?_) <;> simp (disch := omega) only [RS, LS, SY, ne_eq, isFl, floatV, constA, thenQ, blockQ, pack, intA, boolA, eqA, unA, nilcA, asI, asB, asS, loadA, idxA, lenA, slcA, AV.flat, AV.one, zA1, storeA, toD, srcOf, copyA, ↓reduceIte, reduceCtorEq, List.replicate, Nat.reduceBEq, Nat.reduceAdd, Nat.reduceMul, Nat.reduceSub, Nat.reduceLeDiff, Nat.reduceLT, Int.reduceToNat, Nat.reduceEqDiff, Int.reduceEq, wrap_id, hci, e1, g1, g2]) | refine AW.condT rfl ?_ | refine AW.condF rfl ?_ | ((first | (refine GI.of (fun h => ?_) (fun h => ?_) ?emm; case emm => first | exact Classical.em _ | exact (Classical.em _).symm | grind) | (refine GD.of (fun h => ?_) (fun h => ?_) ?emm; case emm => first | exact Classical.em _ | exact (Classical.em _).symm | grind)) <;> simp (disch := omega) only [RS, LS, SY, ne_eq, isFl, floatV, constA, thenQ, blockQ, pack, intA, boolA, eqA, unA, nilcA, asI, asB, asS, loadA, idxA, lenA, slcA, AV.flat, AV.one, zA1, storeA, toD, srcOf, copyA, ↓reduceIte, reduceCtorEq, List.replicate, Nat.reduceBEq, Nat.reduceAdd, Nat.reduceMul, Nat.reduceSub, Nat.reduceLeDiff, Nat.reduceLT, Int.reduceToNat, Nat.reduceEqDiff, Int.reduceEq, wrap_id, hci, e1, g1, g2, h]) | (refine AW.condP rfl (fun h => ?_) (fun h => ?_) <;> try simp only [Bool.and_eq_true, decide_eq_true_eq, Bool.not_eq_true', decide_eq_false_iff_not, Bool.not_eq_false', Bool.not_eq_true, Bool.not_eq_false] at h) | refine And.intro (by omega) ?_ | fail)
      · refine AW.block ?_
        refine AW.loopA (α := List Int × Nat × Nat) (fun x => l.length + 1 - x.2.2) (fun x => [(5, AI .i64 x.2.2), (4, .own 0 i (l.length - i)), (0, .own 0 0 l.length), (3, AI .i64 x.2.1)]) (fun x => [some (.cells 3 1 (rowsA (ints x.1)))]) (fun x => 0 < x.2.2 ∧ i + x.2.2 ≤ l.length ∧ SqI l x.1 x.2.1 (i + x.2.2)) (l, i, 1) ⟨by dsimp only; omega, by dsimp only; omega, SqI.first hi0 hi h hi2⟩ [0] ⟨rfl, by decide, rfl, by simp [NT, belA, belL, tget, renA, renL, nmL], ⟨⟨belB_rowsA .., by rw [renB_rowsA]; rfl⟩, trivial⟩⟩ ?_
        rintro ⟨cur, q, k⟩ ⟨hk0, hk1, hS⟩
        dsimp only at hk0 hk1 hS ⊢
        unfold c110_0
        have hql : q < i + k := hS.lt
        have hcl : cur.length = l.length := hS.len
        by_cases hk : i + k < l.length
        · have hck : (k : Int) < ((l.length - i : Nat) : Int) := by omega
          have e2 : ((k : Int) - 1).toNat = k - 1 := by omega
          have f1 := rowsA_get hk (hS.rest _ hk (by omega)) rfl
          have f2 := rowsA_get (u := i + (k - 1)) (t := i + k - 1) (by omega) (hS.rest (i + k - 1) (by omega) (by omega)) (by omega)
          have hqc : q < cur.length := by have := hS.len; omega
          have f3 := rowsA_get (cur := cur) (l := cur) hqc (List.getElem?_eq_getElem hqc) rfl
          have hst := hS.step (by omega) hk
          repeat' (first | refine AW.seq' ?_ | with_reducible refine AW.blockS rfl ?_ | ((first | refine AW.ops ?_ | refine AW.draw ?_ | refine AW.skip ?_ | refine AW.ret ?_ | refine AW.exit ?_) <;> simp (disch := omega) only [RS, LS, SY, ne_eq, isFl, floatV, constA, thenQ, blockQ, pack, intA, boolA, eqA, unA, nilcA, asI, asB, asS, loadA, idxA, lenA, slcA, AV.flat, AV.one, zA1, storeA, toD, srcOf, copyA, ↓reduceIte, reduceCtorEq, List.replicate, Nat.reduceBEq, Nat.reduceAdd, Nat.reduceMul, Nat.reduceSub, Nat.reduceLeDiff, Nat.reduceLT, Int.reduceToNat, Nat.reduceEqDiff, Int.reduceEq, wrap_id, hck, e2, f1, f2, f3]) | refine AW.condT rfl ?_ | refine AW.condF rfl ?_ | ((first | (refine GI.of (fun h => ?_) (fun h => ?_) ?emm; case emm => first | exact Classical.em _ | exact (Classical.em _).symm | grind) | (refine GD.of (fun h => ?_) (fun h => ?_) ?emm; case emm => first | exact Classical.em _ | exact (Classical.em _).symm | grind)) <;> simp (disch := omega) only [RS, LS, SY, ne_eq, isFl, floatV, constA, thenQ, blockQ, pack, intA, boolA, eqA, unA, nilcA, asI, asB, asS, loadA, idxA, lenA, slcA, AV.flat, AV.one, zA1, storeA, toD, srcOf, copyA, ↓reduceIte, reduceCtorEq, List.replicate, Nat.reduceBEq, Nat.reduceAdd, Nat.reduceMul, Nat.reduceSub, Nat.reduceLeDiff, Nat.reduceLT, Int.reduceToNat, Nat.reduceEqDiff, Int.reduceEq, wrap_id, hck, e2, f1, f2, f3, h]) | (refine AW.condP rfl (fun h => ?_) (fun h => ?_) <;> try simp only [Bool.and_eq_true, decide_eq_true_eq, Bool.not_eq_true', decide_eq_false_iff_not, Bool.not_eq_false', Bool.not_eq_true, Bool.not_eq_false] at h) | refine And.intro (by omega) ?_ | fail)
          · have hne : ¬ l[i + k] = l[i + k - 1] := fun e => by simp [e] at h
            rw [if_neg hne] at hst
            refine ⟨(cur.set q l[i + k], q + 1, k + 1), [0], ⟨by dsimp only; omega, by dsimp only; omega, hst⟩, by dsimp only; omega, rfl, by decide, rfl, by simp [NT, belA, belL, tget, renA, renL, nmL], ⟨⟨belB_rowsA .., ?_⟩, trivial⟩⟩
            rw [renB_rowsA]
            have e : rowsA (ints (cur.set q l[i + k])) = (rowsA (ints cur)).set q [AI .i64 l[i + k]] := by simp [rowsA, List.map_set]
            rw [e]; rfl
          · rw [if_pos (Classical.not_not.1 h)] at hst
            exact ⟨(cur, q, k + 1), [0], ⟨by dsimp only; omega, by dsimp only; omega, hst⟩, by dsimp only; omega, rfl, by decide, rfl, by simp [NT, belA, belL, tget, renA, renL, nmL], ⟨⟨belB_rowsA .., by rw [renB_rowsA]; rfl⟩, trivial⟩⟩
        · have hck : ¬ (k : Int) < ((l.length - i : Nat) : Int) := by omega
          have hkl : i + k = l.length := by omega
          rw [hkl] at hS
          repeat' (first | refine AW.seq' ?_ | with_reducible refine AW.blockS rfl ?_ | ((first | refine AW.ops ?_ | refine AW.draw ?_ | refine AW.skip ?_ | refine AW.ret ?_ | refine AW.exit ?_ |  refine AOp.clr zero3 rfl (by decide) rfl (by simp only [rowsA_len, List.length_map, hS.len]; omega) ?_) <;> simp (disch := omega) only [RS, LS, SY, ne_eq, isFl, floatV, constA, thenQ, blockQ, pack, intA, boolA, eqA, unA, nilcA, asI, asB, asS, loadA, idxA, lenA, slcA, AV.flat, AV.one, zA1, storeA, toD, srcOf, copyA, ↓reduceIte, reduceCtorEq, List.replicate, Nat.reduceBEq, Nat.reduceAdd, Nat.reduceMul, Nat.reduceSub, Nat.reduceLeDiff, Nat.reduceLT, Int.reduceToNat, Nat.reduceEqDiff, Int.reduceEq, wrap_id, hck]) | refine AW.condT rfl ?_ | refine AW.condF rfl ?_ | ((first | (refine GI.of (fun h => ?_) (fun h => ?_) ?emm; case emm => first | exact Classical.em _ | exact (Classical.em _).symm | grind) | (refine GD.of (fun h => ?_) (fun h => ?_) ?emm; case emm => first | exact Classical.em _ | exact (Classical.em _).symm | grind)) <;> simp (disch := omega) only [RS, LS, SY, ne_eq, isFl, floatV, constA, thenQ, blockQ, pack, intA, boolA, eqA, unA, nilcA, asI, asB, asS, loadA, idxA, lenA, slcA, AV.flat, AV.one, zA1, storeA, toD, srcOf, copyA, ↓reduceIte, reduceCtorEq, List.replicate, Nat.reduceBEq, Nat.reduceAdd, Nat.reduceMul, Nat.reduceSub, Nat.reduceLeDiff, Nat.reduceLT, Int.reduceToNat, Nat.reduceEqDiff, Int.reduceEq, wrap_id, hck, h]) | (refine AW.condP rfl (fun h => ?_) (fun h => ?_) <;> try simp only [Bool.and_eq_true, decide_eq_true_eq, Bool.not_eq_true', decide_eq_false_iff_not, Bool.not_eq_false', Bool.not_eq_true, Bool.not_eq_false] at h) | refine And.intro (by omega) ?_ | fail)
          have hk' := hS.kept
          have hc' := hS.cnt
          rw [List.take_length] at hk' hc'
          refine ⟨by rw [Nat.sub_zero, hc'], ?_⟩
          have e : List.drop (q + (l.length - q)) (rowsA (ints cur)) = [] := List.drop_eq_nil_of_le (by rw [rowsA_len, List.length_map]; omega)
          rw [e, List.append_nil, ← List.map_take, hk', hc']
          simp [rowsA]
      · refine ⟨i + 1, [0], ⟨by omega, by omega, fun t ht h1 h2 => ?_⟩, by omega, rfl, by decide, rfl, by simp [NT, belA, belL, tget, renA, renL, nmL], ⟨⟨belB_rowsA .., by rw [renB_rowsA]; rfl⟩, trivial⟩⟩
        by_cases e : t = i
        · subst e; exact h
        · exact hi2 t ht h1 (by omega)
    · have hci : ¬ (i : Int) < l.length := by omega
      have hil : i = l.length := by omega
      have hd := dedI_nodup hi1 hi2
      rw [hil, List.take_length] at hd
      repeat' (first | refine AW.seq' ?_ | with_reducible refine AW.blockS rfl ?_ | ((first | refine AW.ops ?_ | refine AW.draw ?_ | refine AW.skip ?_ | refine AW.ret ?_ | refine AW.exit ?_) <;> simp only [RS, LS, SY, ne_eq, isFl, floatV, constA, thenQ, blockQ, pack, intA, boolA, eqA, unA, nilcA, asI, asB, asS, loadA, idxA, lenA, slcA, AV.flat, AV.one, zA1, storeA, toD, srcOf, copyA, ↓reduceIte, reduceCtorEq, List.replicate, Nat.reduceBEq, Nat.reduceAdd, Nat.reduceMul, Nat.reduceSub, Nat.reduceLeDiff, Nat.reduceLT, Int.reduceToNat, Nat.reduceEqDiff, Int.reduceEq, hci]) | refine AW.condT rfl ?_ | refine AW.condF rfl ?_ | ((first | (refine GI.of (fun h => ?_) (fun h => ?_) ?emm; case emm => first | exact Classical.em _ | exact (Classical.em _).symm | grind) | (refine GD.of (fun h => ?_) (fun h => ?_) ?emm; case emm => first | exact Classical.em _ | exact (Classical.em _).symm | grind)) <;> simp only [RS, LS, SY, ne_eq, isFl, floatV, constA, thenQ, blockQ, pack, intA, boolA, eqA, unA, nilcA, asI, asB, asS, loadA, idxA, lenA, slcA, AV.flat, AV.one, zA1, storeA, toD, srcOf, copyA, ↓reduceIte, reduceCtorEq, List.replicate, Nat.reduceBEq, Nat.reduceAdd, Nat.reduceMul, Nat.reduceSub, Nat.reduceLeDiff, Nat.reduceLT, Int.reduceToNat, Nat.reduceEqDiff, Int.reduceEq, hci, h]) | (refine AW.condP rfl (fun h => ?_) (fun h => ?_) <;> try simp only [Bool.and_eq_true, decide_eq_true_eq, Bool.not_eq_true', decide_eq_false_iff_not, Bool.not_eq_false', Bool.not_eq_true, Bool.not_eq_false] at h) | refine And.intro (by omega) ?_ | fail)
      rw [hd]; simp
theorem insertion_nil : Fn Tryz.prog 153 [.ful 0 [], AI .i64 0, AI .i64 0] (.tup []) := by
  refine Fn.of fn153 (by simp) rfl ?_
  unfold c153
  repeat' (first | refine AW.seq' ?_ | with_reducible refine AW.blockS rfl ?_ | ((first | refine AW.ops ?_ | refine AW.draw ?_ | refine AW.skip ?_ | refine AW.ret ?_ | refine AW.exit ?_) <;> simp (disch := omega) only [RS, LS, SY, ne_eq, isFl, floatV, constA, thenQ, blockQ, pack, intA, boolA, eqA, unA, nilcA, asI, asB, asS, loadA, idxA, lenA, slcA, AV.flat, AV.one, zA1, storeA, toD, srcOf, copyA, ↓reduceIte, reduceCtorEq, List.replicate, Nat.reduceBEq, Nat.reduceAdd, Nat.reduceMul, Nat.reduceSub, Nat.reduceLeDiff, Nat.reduceLT, Int.reduceToNat, Nat.reduceEqDiff, Int.reduceEq, wrap_id]) | refine AW.condT rfl ?_ | refine AW.condF rfl ?_ | ((first | (refine GI.of (fun h => ?_) (fun h => ?_) ?emm; case emm => first | exact Classical.em _ | exact (Classical.em _).symm | grind) | (refine GD.of (fun h => ?_) (fun h => ?_) ?emm; case emm => first | exact Classical.em _ | exact (Classical.em _).symm | grind)) <;> simp (disch := omega) only [RS, LS, SY, ne_eq, isFl, floatV, constA, thenQ, blockQ, pack, intA, boolA, eqA, unA, nilcA, asI, asB, asS, loadA, idxA, lenA, slcA, AV.flat, AV.one, zA1, storeA, toD, srcOf, copyA, ↓reduceIte, reduceCtorEq, List.replicate, Nat.reduceBEq, Nat.reduceAdd, Nat.reduceMul, Nat.reduceSub, Nat.reduceLeDiff, Nat.reduceLT, Int.reduceToNat, Nat.reduceEqDiff, Int.reduceEq, wrap_id, h]) | (refine AW.condP rfl (fun h => ?_) (fun h => ?_) <;> try simp only [Bool.and_eq_true, decide_eq_true_eq, Bool.not_eq_true', decide_eq_false_iff_not, Bool.not_eq_false', Bool.not_eq_true, Bool.not_eq_false] at h) | refine And.intro (by omega) ?_ | fail)
  refine AW.block ?_
  refine AW.loopA (α := Unit) (fun _ => 0) (fun _ => [(6, AI .i64 1), (2, AI .i64 0)]) (fun _ => []) (fun _ => True) () trivial [] ⟨rfl, by decide, rfl, by simp [NT, belA, belL, tget, renA, renL, nmL], trivial⟩ ?_
  intro _ _
  unfold c153_1
  repeat' (first | refine AW.seq' ?_ | with_reducible refine AW.blockS rfl ?_ | ((first | refine AW.ops ?_ | refine AW.draw ?_ | refine AW.skip ?_ | refine AW.ret ?_ | refine AW.exit ?_) <;> simp only [RS, LS, SY, ne_eq, isFl, floatV, constA, thenQ, blockQ, pack, intA, boolA, eqA, unA, nilcA, asI, asB, asS, loadA, idxA, lenA, slcA, AV.flat, AV.one, zA1, storeA, toD, srcOf, copyA, ↓reduceIte, reduceCtorEq, List.replicate, Nat.reduceBEq, Nat.reduceAdd, Nat.reduceMul, Nat.reduceSub, Nat.reduceLeDiff, Nat.reduceLT, Int.reduceToNat, Nat.reduceEqDiff, Int.reduceEq]) | refine AW.condT rfl ?_ | refine AW.condF rfl ?_ | ((first | (refine GI.of (fun h => ?_) (fun h => ?_) ?emm; case emm => first | exact Classical.em _ | exact (Classical.em _).symm | grind) | (refine GD.of (fun h => ?_) (fun h => ?_) ?emm; case emm => first | exact Classical.em _ | exact (Classical.em _).symm | grind)) <;> simp only [RS, LS, SY, ne_eq, isFl, floatV, constA, thenQ, blockQ, pack, intA, boolA, eqA, unA, nilcA, asI, asB, asS, loadA, idxA, lenA, slcA, AV.flat, AV.one, zA1, storeA, toD, srcOf, copyA, ↓reduceIte, reduceCtorEq, List.replicate, Nat.reduceBEq, Nat.reduceAdd, Nat.reduceMul, Nat.reduceSub, Nat.reduceLeDiff, Nat.reduceLT, Int.reduceToNat, Nat.reduceEqDiff, Int.reduceEq, h]) | (refine AW.condP rfl (fun h => ?_) (fun h => ?_) <;> try simp only [Bool.and_eq_true, decide_eq_true_eq, Bool.not_eq_true', decide_eq_false_iff_not, Bool.not_eq_false', Bool.not_eq_true, Bool.not_eq_false] at h) | refine And.intro (by omega) ?_ | fail)
theorem pdq_nil (lim : Int) : Fn Tryz.prog 136 [.ful 0 [], AI .i64 0, AI .i64 0, AI .i64 lim] (.tup []) := by
  refine Fn.of fn136 (by simp) rfl ?_
  unfold c136
  repeat' (first | refine AW.seq' ?_ | with_reducible refine AW.blockS rfl ?_ | ((first | refine AW.ops ?_ | refine AW.draw ?_ | refine AW.skip ?_ | refine AW.ret ?_ | refine AW.exit ?_) <;> simp only [RS, LS, SY, ne_eq, isFl, floatV, constA, thenQ, blockQ, pack, intA, boolA, eqA, unA, nilcA, asI, asB, asS, loadA, idxA, lenA, slcA, AV.flat, AV.one, zA1, storeA, toD, srcOf, copyA, ↓reduceIte, reduceCtorEq, List.replicate, Nat.reduceBEq, Nat.reduceAdd, Nat.reduceMul, Nat.reduceSub, Nat.reduceLeDiff, Nat.reduceLT, Int.reduceToNat, Nat.reduceEqDiff, Int.reduceEq]) | refine AW.condT rfl ?_ | refine AW.condF rfl ?_ | ((first | (refine GI.of (fun h => ?_) (fun h => ?_) ?emm; case emm => first | exact Classical.em _ | exact (Classical.em _).symm | grind) | (refine GD.of (fun h => ?_) (fun h => ?_) ?emm; case emm => first | exact Classical.em _ | exact (Classical.em _).symm | grind)) <;> simp only [RS, LS, SY, ne_eq, isFl, floatV, constA, thenQ, blockQ, pack, intA, boolA, eqA, unA, nilcA, asI, asB, asS, loadA, idxA, lenA, slcA, AV.flat, AV.one, zA1, storeA, toD, srcOf, copyA, ↓reduceIte, reduceCtorEq, List.replicate, Nat.reduceBEq, Nat.reduceAdd, Nat.reduceMul, Nat.reduceSub, Nat.reduceLeDiff, Nat.reduceLT, Int.reduceToNat, Nat.reduceEqDiff, Int.reduceEq, h]) | (refine AW.condP rfl (fun h => ?_) (fun h => ?_) <;> try simp only [Bool.and_eq_true, decide_eq_true_eq, Bool.not_eq_true', decide_eq_false_iff_not, Bool.not_eq_false', Bool.not_eq_true, Bool.not_eq_false] at h) | refine And.intro (by omega) ?_ | fail)
  refine AW.block ?_
  refine AW.loopA (α := Unit) (fun _ => 0) (fun _ => [(0, .ful 0 []), (1, AI .i64 0), (2, AI .i64 0)]) (fun _ => []) (fun _ => True) () trivial [] ⟨rfl, by decide, rfl, by simp [NT, belA, belL, tget, renA, renL, nmL], trivial⟩ ?_
  intro _ _
  unfold c136_0
  repeat' (first | refine AW.seq' ?_ | with_reducible refine AW.blockS rfl ?_ | ((first | refine AW.ops ?_ | refine AW.draw ?_ | refine AW.skip ?_ | refine AW.ret ?_ | refine AW.exit ?_ | refine Fn.call (insertion_nil) rfl rfl ?_) <;> simp only [RS, LS, SY, ne_eq, isFl, floatV, constA, thenQ, blockQ, pack, intA, boolA, eqA, unA, nilcA, asI, asB, asS, loadA, idxA, lenA, slcA, AV.flat, AV.one, zA1, storeA, toD, srcOf, copyA, ↓reduceIte, reduceCtorEq, List.replicate, Nat.reduceBEq, Nat.reduceAdd, Nat.reduceMul, Nat.reduceSub, Nat.reduceLeDiff, Nat.reduceLT, Int.reduceToNat, Nat.reduceEqDiff, Int.reduceEq]) | refine AW.condT rfl ?_ | refine AW.condF rfl ?_ | ((first | (refine GI.of (fun h => ?_) (fun h => ?_) ?emm; case emm => first | exact Classical.em _ | exact (Classical.em _).symm | grind) | (refine GD.of (fun h => ?_) (fun h => ?_) ?emm; case emm => first | exact Classical.em _ | exact (Classical.em _).symm | grind)) <;> simp only [RS, LS, SY, ne_eq, isFl, floatV, constA, thenQ, blockQ, pack, intA, boolA, eqA, unA, nilcA, asI, asB, asS, loadA, idxA, lenA, slcA, AV.flat, AV.one, zA1, storeA, toD, srcOf, copyA, ↓reduceIte, reduceCtorEq, List.replicate, Nat.reduceBEq, Nat.reduceAdd, Nat.reduceMul, Nat.reduceSub, Nat.reduceLeDiff, Nat.reduceLT, Int.reduceToNat, Nat.reduceEqDiff, Int.reduceEq, h]) | (refine AW.condP rfl (fun h => ?_) (fun h => ?_) <;> try simp only [Bool.and_eq_true, decide_eq_true_eq, Bool.not_eq_true', decide_eq_false_iff_not, Bool.not_eq_false', Bool.not_eq_true, Bool.not_eq_false] at h) | refine And.intro (by omega) ?_ | fail)
theorem sort_nil : Fn Tryz.prog 109 [.ful 0 []] (.tup []) := by
  refine Fn.of fn109 (by simp) rfl ?_
  unfold c109
  have hl := blen_ok 0 (by omega)
  repeat' (first | refine AW.seq' ?_ | with_reducible refine AW.blockS rfl ?_ | ((first | refine AW.ops ?_ | refine AW.draw ?_ | refine AW.skip ?_ | refine AW.ret ?_ | refine AW.exit ?_ | refine Fn.call (hl) rfl rfl ?_ | refine Fn.call (pdq_nil _) rfl rfl ?_) <;> simp only [RS, LS, SY, ne_eq, isFl, floatV, constA, thenQ, blockQ, pack, intA, boolA, eqA, unA, nilcA, asI, asB, asS, loadA, idxA, lenA, slcA, AV.flat, AV.one, zA1, storeA, toD, srcOf, copyA, ↓reduceIte, reduceCtorEq, List.replicate, Nat.reduceBEq, Nat.reduceAdd, Nat.reduceMul, Nat.reduceSub, Nat.reduceLeDiff, Nat.reduceLT, Int.reduceToNat, Nat.reduceEqDiff, Int.reduceEq]) | refine AW.condT rfl ?_ | refine AW.condF rfl ?_ | ((first | (refine GI.of (fun h => ?_) (fun h => ?_) ?emm; case emm => first | exact Classical.em _ | exact (Classical.em _).symm | grind) | (refine GD.of (fun h => ?_) (fun h => ?_) ?emm; case emm => first | exact Classical.em _ | exact (Classical.em _).symm | grind)) <;> simp only [RS, LS, SY, ne_eq, isFl, floatV, constA, thenQ, blockQ, pack, intA, boolA, eqA, unA, nilcA, asI, asB, asS, loadA, idxA, lenA, slcA, AV.flat, AV.one, zA1, storeA, toD, srcOf, copyA, ↓reduceIte, reduceCtorEq, List.replicate, Nat.reduceBEq, Nat.reduceAdd, Nat.reduceMul, Nat.reduceSub, Nat.reduceLeDiff, Nat.reduceLT, Int.reduceToNat, Nat.reduceEqDiff, Int.reduceEq, h]) | (refine AW.condP rfl (fun h => ?_) (fun h => ?_) <;> try simp only [Bool.and_eq_true, decide_eq_true_eq, Bool.not_eq_true', decide_eq_false_iff_not, Bool.not_eq_false', Bool.not_eq_true, Bool.not_eq_false] at h) | refine And.intro (by omega) ?_ | fail)
theorem compact_nil : Fn Tryz.prog 110 [.ful 0 []] (.ful 0 []) := by
  refine Fn.of fn110 (by simp) rfl ?_
  unfold c110
  repeat' (first | refine AW.seq' ?_ | with_reducible refine AW.blockS rfl ?_ | ((first | refine AW.ops ?_ | refine AW.draw ?_ | refine AW.skip ?_ | refine AW.ret ?_ | refine AW.exit ?_) <;> simp only [RS, LS, SY, ne_eq, isFl, floatV, constA, thenQ, blockQ, pack, intA, boolA, eqA, unA, nilcA, asI, asB, asS, loadA, idxA, lenA, slcA, AV.flat, AV.one, zA1, storeA, toD, srcOf, copyA, ↓reduceIte, reduceCtorEq, List.replicate, Nat.reduceBEq, Nat.reduceAdd, Nat.reduceMul, Nat.reduceSub, Nat.reduceLeDiff, Nat.reduceLT, Int.reduceToNat, Nat.reduceEqDiff, Int.reduceEq]) | refine AW.condT rfl ?_ | refine AW.condF rfl ?_ | ((first | (refine GI.of (fun h => ?_) (fun h => ?_) ?emm; case emm => first | exact Classical.em _ | exact (Classical.em _).symm | grind) | (refine GD.of (fun h => ?_) (fun h => ?_) ?emm; case emm => first | exact Classical.em _ | exact (Classical.em _).symm | grind)) <;> simp only [RS, LS, SY, ne_eq, isFl, floatV, constA, thenQ, blockQ, pack, intA, boolA, eqA, unA, nilcA, asI, asB, asS, loadA, idxA, lenA, slcA, AV.flat, AV.one, zA1, storeA, toD, srcOf, copyA, ↓reduceIte, reduceCtorEq, List.replicate, Nat.reduceBEq, Nat.reduceAdd, Nat.reduceMul, Nat.reduceSub, Nat.reduceLeDiff, Nat.reduceLT, Int.reduceToNat, Nat.reduceEqDiff, Int.reduceEq, h]) | (refine AW.condP rfl (fun h => ?_) (fun h => ?_) <;> try simp only [Bool.and_eq_true, decide_eq_true_eq, Bool.not_eq_true', decide_eq_false_iff_not, Bool.not_eq_false', Bool.not_eq_true, Bool.not_eq_false] at h) | refine And.intro (by omega) ?_ | fail)
set_option maxHeartbeats 1000000 in
theorem causesP_ok (c m : List Int) (hc : c.length ≤ 4611686018427387904) (hm : m.length ≤ 12) : Fn Tryz.prog 89 [LI c, LI m] (LI (cauP c m)) := by
  unfold Fn
  have hpl := pick_len c m
  cases hp : pickP c m with
  | nil =>
    have h0 : cauP c m = [] := by unfold cauP; rw [hp]; rfl
    have hk := pick0 c m hc (by omega)
    rw [hp] at hk
    rw [h0]
    have h1 : ACalls Tryz.prog 89 [LI c, LI m] [] fun v s' => v = .ful 0 [] ∧ s' = [none] := by
      refine ACalls.of fn89 (by simp) ?_
      unfold c89
      repeat' (first | refine AW.seq' ?_ | with_reducible refine AW.blockS rfl ?_ | ((first | refine AW.ops ?_ | refine AW.draw ?_ | refine AW.skip ?_ | refine AW.ret ?_ | refine AW.exit ?_ |  refine own_call (g := inR1) hk rfl ?_ | refine Fn.call (sort_nil) rfl rfl ?_ | refine Fn.call (compact_nil) rfl rfl ?_) <;> simp only [RS, LS, SY, ne_eq, isFl, floatV, constA, thenQ, blockQ, pack, intA, boolA, eqA, unA, nilcA, asI, asB, asS, loadA, idxA, lenA, slcA, AV.flat, AV.one, zA1, storeA, toD, srcOf, copyA, ↓reduceIte, reduceCtorEq, List.replicate, Nat.reduceBEq, Nat.reduceAdd, Nat.reduceMul, Nat.reduceSub, Nat.reduceLeDiff, Nat.reduceLT, Int.reduceToNat, Nat.reduceEqDiff, Int.reduceEq]) | refine AW.condT rfl ?_ | refine AW.condF rfl ?_ | ((first | (refine GI.of (fun h => ?_) (fun h => ?_) ?emm; case emm => first | exact Classical.em _ | exact (Classical.em _).symm | grind) | (refine GD.of (fun h => ?_) (fun h => ?_) ?emm; case emm => first | exact Classical.em _ | exact (Classical.em _).symm | grind)) <;> simp only [RS, LS, SY, ne_eq, isFl, floatV, constA, thenQ, blockQ, pack, intA, boolA, eqA, unA, nilcA, asI, asB, asS, loadA, idxA, lenA, slcA, AV.flat, AV.one, zA1, storeA, toD, srcOf, copyA, ↓reduceIte, reduceCtorEq, List.replicate, Nat.reduceBEq, Nat.reduceAdd, Nat.reduceMul, Nat.reduceSub, Nat.reduceLeDiff, Nat.reduceLT, Int.reduceToNat, Nat.reduceEqDiff, Int.reduceEq, h]) | (refine AW.condP rfl (fun h => ?_) (fun h => ?_) <;> try simp only [Bool.and_eq_true, decide_eq_true_eq, Bool.not_eq_true', decide_eq_false_iff_not, Bool.not_eq_false', Bool.not_eq_true, Bool.not_eq_false] at h) | refine And.intro (by omega) ?_ | fail)
      all_goals first | done | exact ⟨rfl, rfl⟩ | rfl | trace_state
    have h2 : ACalls Tryz.prog 89 [LI c, LI m] [] fun v s' => v = LI [] := h1.endW fun v s' ⟨e1, e2⟩ => ⟨_, by rw [e1]; exact .nil 0 1, rfl⟩
    exact h2.take fun v s' e => ⟨by rw [e]; rfl, fun i b hi => by simp at hi, e, by simp⟩
  | cons x l =>
    have hk := pick0 c m hc (by omega)
    rw [hp] at hk hpl
    have h1 : ACalls Tryz.prog 89 [LI c, LI m] [] fun v s' => ∃ l' : List Int, (dedI l') = cauP c m ∧ v = .own 0 0 (dedI l').length ∧ s' = [some (.cells 3 1 (rowsA (ints (dedI l' ++ List.replicate (l'.length - (dedI l').length) 0))))] := by
      refine ACalls.of fn89 (by simp) ?_
      unfold c89
      have hsrt := sort_ok (x :: l) (by omega)
      simp only [List.length_cons] at hsrt
      repeat' (first | refine AW.seq' ?_ | with_reducible refine AW.blockS rfl ?_ | ((first | refine AW.ops ?_ | refine AW.draw ?_ | refine AW.skip ?_ | refine AW.ret ?_ | refine AW.exit ?_ |  (refine own_call (g := inR1) hk rfl ?_; rw [gVg_cons, gBg_cons]) |  (refine hsrt.mono fun v s' hq => ?_; obtain ⟨l', g1, g2, g3, rfl, rfl⟩ := hq; rw [← List.length_cons (a := x), ← g1]) |  (refine (compact_ok l' (by simp only [List.length_cons] at g1 hpl; omega)).mono fun v s' hq => ?_; obtain ⟨rfl, rfl⟩ := hq)) <;> simp only [RS, LS, SY, ne_eq, isFl, floatV, constA, thenQ, blockQ, pack, intA, boolA, eqA, unA, nilcA, asI, asB, asS, loadA, idxA, lenA, slcA, AV.flat, AV.one, zA1, storeA, toD, srcOf, copyA, ↓reduceIte, reduceCtorEq, List.replicate, Nat.reduceBEq, Nat.reduceAdd, Nat.reduceMul, Nat.reduceSub, Nat.reduceLeDiff, Nat.reduceLT, Int.reduceToNat, Nat.reduceEqDiff, Int.reduceEq]) | refine AW.condT rfl ?_ | refine AW.condF rfl ?_ | ((first | (refine GI.of (fun h => ?_) (fun h => ?_) ?emm; case emm => first | exact Classical.em _ | exact (Classical.em _).symm | grind) | (refine GD.of (fun h => ?_) (fun h => ?_) ?emm; case emm => first | exact Classical.em _ | exact (Classical.em _).symm | grind)) <;> simp only [RS, LS, SY, ne_eq, isFl, floatV, constA, thenQ, blockQ, pack, intA, boolA, eqA, unA, nilcA, asI, asB, asS, loadA, idxA, lenA, slcA, AV.flat, AV.one, zA1, storeA, toD, srcOf, copyA, ↓reduceIte, reduceCtorEq, List.replicate, Nat.reduceBEq, Nat.reduceAdd, Nat.reduceMul, Nat.reduceSub, Nat.reduceLeDiff, Nat.reduceLT, Int.reduceToNat, Nat.reduceEqDiff, Int.reduceEq, h]) | (refine AW.condP rfl (fun h => ?_) (fun h => ?_) <;> try simp only [Bool.and_eq_true, decide_eq_true_eq, Bool.not_eq_true', decide_eq_false_iff_not, Bool.not_eq_false', Bool.not_eq_true, Bool.not_eq_false] at h) | refine And.intro (by omega) ?_ | fail)
      refine ⟨l', ?_, rfl, rfl⟩
      exact str_ext (dedI_str g3) (cauP_str c m) fun v => by rw [dedI_mem, cauP_mem, hp]; exact g2 v
    have h2 : ACalls Tryz.prog 89 [LI c, LI m] [] fun v s' => v = LI (cauP c m) := h1.freeze fun v s' ⟨l', e1, e2, e3⟩ => by
      subst e2 e3
      refine .inr ⟨0, 3, 1, _, rfl, by simp [fitA], ?_⟩
      simp only [frzA]
      rw [← e1]
      simp [ints]
    exact h2.take fun v s' e => ⟨by rw [e]; rfl, fun i b hi => by simp at hi, e, by simp⟩
end Go.Proofs.YtipanehdmhachaaGreatDoor.H
