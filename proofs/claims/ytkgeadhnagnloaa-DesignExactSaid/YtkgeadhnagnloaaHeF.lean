/- Chapter 26: links out of numbers. -/
import Derived.Test.YtkgeadhnagnloaaHeE
set_option linter.unusedSimpArgs false
set_option linter.unusedVariables false
namespace Go.Proofs.Ytkgeadhnagnloaa.H
structure LkI (l : List Pt) (ls : List Ln) (i j : Nat) : Prop where
  pw : ls.Pairwise fun x y => cmpL x y < 0
  lt : ∀ x ∈ ls, (∃ i', i' < i ∧ l[i']? = some x.1) ∨ (l[i]? = some x.1 ∧ ∃ j', j' < j ∧ l[j']? = some x.2)
  ok : ls.all (lnOk l) = true
  len : ls.length ≤ 20
theorem lk0 (l : List Pt) : LkI l [] 0 0 := ⟨.nil, by simp, rfl, by simp⟩
theorem LkI.step {l : List Pt} {ls : List Ln} {i j : Nat} (h : LkI l ls i j) : LkI l ls i (j + 1) :=
  ⟨h.pw, fun x hx => (h.lt x hx).imp id fun ⟨h1, j', h2, h3⟩ => ⟨h1, j', by omega, h3⟩, h.ok, h.len⟩
theorem LkI.row {l : List Pt} {ls : List Ln} {i j : Nat} (h : LkI l ls i j) : LkI l ls (i + 1) 0 :=
  ⟨h.pw, fun x hx => by
    rcases h.lt x hx with ⟨i', h1, h2⟩ | ⟨h1, _⟩
    · exact .inl ⟨i', by omega, h2⟩
    · exact .inl ⟨i, by omega, h1⟩, h.ok, h.len⟩
theorem asc_lt_of {l : List Pt} (ha : AscP l) {i j : Nat} (hj : j < l.length) (hij : i < j) : ltP (l[i]'(by omega)) l[j] = true :=
  List.pairwise_iff_getElem.1 ha i j (by omega) hj hij
theorem LkI.add {l : List Pt} (ha : AscP l) {ls : List Ln} {i j : Nat} (h : LkI l ls i j) (hi : i < l.length) (hj : j < l.length) (hne : ¬ l[i] = l[j]) (hlen : ls.length < 20) : LkI l (ls ++ [(l[i], l[j])]) i (j + 1) := by
  refine ⟨?_, fun x hx => ?_, ?_, by simp; omega⟩
  · rw [List.pairwise_append]
    refine ⟨h.pw, by simp, fun x hx y hy => ?_⟩
    simp only [List.mem_singleton] at hy
    subst hy
    rcases h.lt x hx with ⟨i', h1, h2⟩ | ⟨h1, j', h2, h3⟩
    · obtain ⟨g1, g2⟩ := List.getElem?_eq_some_iff.1 h2
      exact cmpL_t1 (by rw [← g2]; exact asc_lt_of ha hi h1)
    · obtain ⟨g1, g2⟩ := List.getElem?_eq_some_iff.1 h1
      obtain ⟨k1, k2⟩ := List.getElem?_eq_some_iff.1 h3
      exact cmpL_t2 g2.symm (by rw [← k2]; exact asc_lt_of ha hj h2)
  · rcases List.mem_append.1 hx with hx | hx
    · exact (h.lt x hx).imp id fun ⟨h1, j', h2, h3⟩ => ⟨h1, j', by omega, h3⟩
    · simp only [List.mem_singleton] at hx
      subst hx
      exact .inr ⟨List.getElem?_eq_getElem hi, j, by omega, List.getElem?_eq_getElem hj⟩
  · rw [List.all_append, h.ok]
    simp only [List.all_cons, List.all_nil, Bool.and_true, Bool.true_and]
    exact lnOk_t (decide_eq_true (List.getElem_mem hi)) (decide_eq_true (List.getElem_mem hj)) hne
theorem ascB_of {α : Type} {lt : α → α → Bool} : ∀ {l : List α}, l.Pairwise (fun x y => lt x y = true) → ascB lt l = true
  | [], _ => rfl
  | [a], _ => rfl
  | a :: b :: l, h => by
    simp only [ascB, Bool.and_eq_true]
    exact ⟨List.rel_of_pairwise_cons h (List.mem_cons_self ..), ascB_of h.of_cons⟩
theorem LkI.fin {l : List Pt} {ls : List Ln} {i j : Nat} (h : LkI l ls i j) : linksP l ls = true := by
  rw [linksP, h.ok, ascB_of (h.pw.imp fun {x y} hxy => decide_eq_true hxy)]; rfl
def VLk (l : List Pt) (rows : List (List D)) : Prop := ∃ ls : List Ln, rows = lns ls ∧ ls.length ≤ 20 ∧ linksP l ls = true
set_option maxHeartbeats 4000000 in
theorem linked_ok {L : List Int} (hL : L.length ≤ 600) (l : List Pt) (ha : AscP l) (hl : l.length ≤ 1000) : SFnO Try.prog SRC L 36 [LP l] 60 4 (VLk l) := by
  intro p hp
  refine ACalls.of fn36 (by simp) ?_
  unfold c36
  repeat' (first | refine AW.seq' ?_ | with_reducible refine AW.blockS rfl ?_ | ((first | refine AW.ops ?_ | refine AW.draw ?_ | refine AW.skip ?_ | refine AW.ret ?_ | refine AW.exit ?_) <;> simp only [RS, LS, SY, ne_eq, isFl, floatV, constA, thenQ, blockQ, pack, intA, boolA, eqA, unA, nilcA, asI, asB, asS, loadA, idxA, lenA, slcA, AV.flat, AV.one, zA1, storeA, toD, srcOf, copyA, ↓reduceIte, reduceCtorEq, List.replicate, Nat.reduceBEq, Nat.reduceAdd, Nat.reduceMul, Nat.reduceSub, Nat.reduceLeDiff, Nat.reduceLT, Int.reduceToNat, Nat.reduceEqDiff, Int.reduceEq]) | refine AW.condT rfl ?_ | refine AW.condF rfl ?_ | ((first | refine GI.of (fun h => ?_) (fun h => ?_) (by first | exact Classical.em _ | exact (Classical.em _).symm | grind) | refine GD.of (fun h => ?_) (fun h => ?_) (by first | exact Classical.em _ | exact (Classical.em _).symm | grind)) <;> simp only [RS, LS, SY, ne_eq, isFl, floatV, constA, thenQ, blockQ, pack, intA, boolA, eqA, unA, nilcA, asI, asB, asS, loadA, idxA, lenA, slcA, AV.flat, AV.one, zA1, storeA, toD, srcOf, copyA, ↓reduceIte, reduceCtorEq, List.replicate, Nat.reduceBEq, Nat.reduceAdd, Nat.reduceMul, Nat.reduceSub, Nat.reduceLeDiff, Nat.reduceLT, Int.reduceToNat, Nat.reduceEqDiff, Int.reduceEq, h]) | (refine AW.condP rfl (fun h => ?_) (fun h => ?_) <;> try simp only [Bool.and_eq_true, decide_eq_true_eq, Bool.not_eq_true', decide_eq_false_iff_not, Bool.not_eq_false', Bool.not_eq_true, Bool.not_eq_false] at h) | refine And.intro (by omega) ?_ | fail)
  refine AW.range (α := Nat × List Ln) l.length (by omega) (by decide) (fun _ a => [(10, LP l), (0, .ptr 0 0 0), (1, LP l), (5, gVg 1 a.2)]) (fun _ a => [SrcS SRC L a.1, gBg 60 4 lnR a.2]) (fun i a => a.1 ≤ L.length ∧ LkI l a.2 i 0) (p, []) ⟨hp, lk0 l⟩ [0, 1] ⟨rfl, by decide, rfl, by simp [NT, belA, belL, tget, renA, renL, nmL, gVg], ⟨⟨rfl, rfl⟩, trivial⟩⟩ (by simp) ?_ ?_
  · rintro i ⟨p, ls⟩ hi ⟨hp, hI⟩
    simp only at hp hI ⊢
    unfold c36_1
    have hbel : belA 2 (gVg 1 ls) = true := by cases ls <;> rfl
    have hren : renA (nmL [0, 1, 2]) (gVg 1 ls) = gVg 1 ls := by cases ls <;> rfl
    have hbel3 : belA 3 (gVg 1 ls) = true := by cases ls <;> rfl
    repeat' (first | refine AW.seq' ?_ | with_reducible refine AW.blockS rfl ?_ | ((first | refine AW.ops ?_ | refine AW.draw ?_ | refine AW.skip ?_ | refine AW.ret ?_ | refine AW.exit ?_) <;> simp only [RS, LS, SY, ne_eq, isFl, floatV, constA, thenQ, blockQ, pack, intA, boolA, eqA, unA, nilcA, asI, asB, asS, loadA, idxA, lenA, slcA, AV.flat, AV.one, zA1, storeA, toD, srcOf, copyA, ↓reduceIte, reduceCtorEq, List.replicate, Nat.reduceBEq, Nat.reduceAdd, Nat.reduceMul, Nat.reduceSub, Nat.reduceLeDiff, Nat.reduceLT, Int.reduceToNat, Nat.reduceEqDiff, Int.reduceEq, getD_map_lt hi]) | refine AW.condT rfl ?_ | refine AW.condF rfl ?_ | ((first | refine GI.of (fun h => ?_) (fun h => ?_) (by first | exact Classical.em _ | exact (Classical.em _).symm | grind) | refine GD.of (fun h => ?_) (fun h => ?_) (by first | exact Classical.em _ | exact (Classical.em _).symm | grind)) <;> simp only [RS, LS, SY, ne_eq, isFl, floatV, constA, thenQ, blockQ, pack, intA, boolA, eqA, unA, nilcA, asI, asB, asS, loadA, idxA, lenA, slcA, AV.flat, AV.one, zA1, storeA, toD, srcOf, copyA, ↓reduceIte, reduceCtorEq, List.replicate, Nat.reduceBEq, Nat.reduceAdd, Nat.reduceMul, Nat.reduceSub, Nat.reduceLeDiff, Nat.reduceLT, Int.reduceToNat, Nat.reduceEqDiff, Int.reduceEq, getD_map_lt hi, h]) | (refine AW.condP rfl (fun h => ?_) (fun h => ?_) <;> try simp only [Bool.and_eq_true, decide_eq_true_eq, Bool.not_eq_true', decide_eq_false_iff_not, Bool.not_eq_false', Bool.not_eq_true, Bool.not_eq_false] at h) | refine And.intro (by omega) ?_ | fail)
    refine AW.range (α := Nat × List Ln) l.length (by omega) (by decide) (fun _ a => [(16, LP l), (7, .ptr 2 0 0), (12, AI .i64 i), (11, AI .i64 l.length), (10, LP l), (0, .ptr 0 0 0), (1, LP l), (5, gVg 1 a.2)]) (fun _ a => [SrcS SRC L a.1, gBg 60 4 lnR a.2, some (.cells 29 2 [[AI .i64 l[i].1, AI .i64 l[i].2]])]) (fun j a => a.1 ≤ L.length ∧ LkI l a.2 i j) (p, ls) ⟨hp, hI⟩ [0, 1, 2] ⟨rfl, by decide, rfl, by simp [NT, belA, belL, tget, renA, renL, nmL, hbel3, hren], ⟨⟨rfl, rfl⟩, ?_⟩⟩ (by simp) ?_ ?_
    · cases ls with
      | nil => exact ⟨⟨rfl, rfl⟩, trivial⟩
      | cons x ls => exact ⟨⟨belB_rowsA _ _ _ (lns (x :: ls)), by rw [renB_rowsA]; rfl⟩, ⟨⟨rfl, rfl⟩, trivial⟩⟩
    · rintro j ⟨p, ls⟩ hj ⟨hp, hI⟩
      simp only at hp hI ⊢
      have hlen := hI.len
      unfold c36_0
      cases ls with
      | nil =>
        rw [gVg_nil, gBg_nil]
        have h20 : ((0 : Nat) : Int) < 20 := by decide
        repeat' (first | refine AW.seq' ?_ | with_reducible refine AW.blockS rfl ?_ | ((first | refine AW.ops ?_ | refine AW.draw ?_ | refine AW.skip ?_ | refine AW.ret ?_ | refine AW.exit ?_ |  (refine SFn.call (n_ok hL 7 (by omega)) rfl rfl (by assumption) (fun v p hp hv hb => ?_); obtain ⟨z, z0, z1, rfl⟩ := hv)) <;> simp only [RS, LS, SY, ne_eq, isFl, floatV, constA, thenQ, blockQ, pack, intA, boolA, eqA, unA, nilcA, asI, asB, asS, loadA, idxA, lenA, slcA, AV.flat, AV.one, zA1, storeA, toD, srcOf, copyA, ↓reduceIte, reduceCtorEq, List.replicate, Nat.reduceBEq, Nat.reduceAdd, Nat.reduceMul, Nat.reduceSub, Nat.reduceLeDiff, Nat.reduceLT, Int.reduceToNat, Nat.reduceEqDiff, Int.reduceEq, getD_map_lt hj, pt_eq, h20]) | refine AW.condT rfl ?_ | refine AW.condF rfl ?_ | ((first | refine GI.of (fun h => ?_) (fun h => ?_) (by first | exact Classical.em _ | exact (Classical.em _).symm | grind) | refine GD.of (fun h => ?_) (fun h => ?_) (by first | exact Classical.em _ | exact (Classical.em _).symm | grind)) <;> simp only [RS, LS, SY, ne_eq, isFl, floatV, constA, thenQ, blockQ, pack, intA, boolA, eqA, unA, nilcA, asI, asB, asS, loadA, idxA, lenA, slcA, AV.flat, AV.one, zA1, storeA, toD, srcOf, copyA, ↓reduceIte, reduceCtorEq, List.replicate, Nat.reduceBEq, Nat.reduceAdd, Nat.reduceMul, Nat.reduceSub, Nat.reduceLeDiff, Nat.reduceLT, Int.reduceToNat, Nat.reduceEqDiff, Int.reduceEq, getD_map_lt hj, pt_eq, h20, h]) | (refine AW.condP rfl (fun h => ?_) (fun h => ?_) <;> try simp only [Bool.and_eq_true, decide_eq_true_eq, Bool.not_eq_true', decide_eq_false_iff_not, Bool.not_eq_false', Bool.not_eq_true, Bool.not_eq_false] at h) | refine And.intro (by omega) ?_ | fail)
        all_goals first
          | exact ⟨(p, [(l[i], l[j])]), [0, 4, 2], ⟨hp, hI.add ha hi hj (by assumption) (by simp)⟩, rfl, by decide, rfl, by simp [NT, belA, belL, tget, renA, renL, nmL, gVg_cons], ⟨⟨rfl, rfl⟩, ⟨⟨rfl, rfl⟩, ⟨⟨rfl, rfl⟩, trivial⟩⟩⟩⟩
          | exact ⟨(p, []), [0, 1, 2], ⟨hp, hI.step⟩, rfl, by decide, rfl, by simp [NT, belA, belL, tget, renA, renL, nmL, gVg_nil], ⟨⟨rfl, rfl⟩, ⟨⟨rfl, rfl⟩, trivial⟩⟩⟩
      | cons x ls =>
        rw [gVg_cons, gBg_cons]
        have htk : List.take ls.length (List.map lnR ls) = List.map lnR ls := List.take_of_length_le (by simp)
        simp only [List.length_cons] at hlen
        repeat' (first | refine AW.seq' ?_ | with_reducible refine AW.blockS rfl ?_ | ((first | refine AW.ops ?_ | refine AW.draw ?_ | refine AW.skip ?_ | refine AW.ret ?_ | refine AW.exit ?_ |  (refine SFn.call (n_ok hL 7 (by omega)) rfl rfl (by assumption) (fun v p hp hv hb => ?_); obtain ⟨z, z0, z1, rfl⟩ := hv)) <;> simp only [RS, LS, SY, ne_eq, isFl, floatV, constA, thenQ, blockQ, pack, intA, boolA, eqA, unA, nilcA, asI, asB, asS, loadA, idxA, lenA, slcA, AV.flat, AV.one, zA1, storeA, toD, srcOf, copyA, ↓reduceIte, reduceCtorEq, List.replicate, Nat.reduceBEq, Nat.reduceAdd, Nat.reduceMul, Nat.reduceSub, Nat.reduceLeDiff, Nat.reduceLT, Int.reduceToNat, Nat.reduceEqDiff, Int.reduceEq, getD_map_lt hj, pt_eq, htk]) | refine AW.condT rfl ?_ | refine AW.condF rfl ?_ | ((first | refine GI.of (fun h => ?_) (fun h => ?_) (by first | exact Classical.em _ | exact (Classical.em _).symm | grind) | refine GD.of (fun h => ?_) (fun h => ?_) (by first | exact Classical.em _ | exact (Classical.em _).symm | grind)) <;> simp only [RS, LS, SY, ne_eq, isFl, floatV, constA, thenQ, blockQ, pack, intA, boolA, eqA, unA, nilcA, asI, asB, asS, loadA, idxA, lenA, slcA, AV.flat, AV.one, zA1, storeA, toD, srcOf, copyA, ↓reduceIte, reduceCtorEq, List.replicate, Nat.reduceBEq, Nat.reduceAdd, Nat.reduceMul, Nat.reduceSub, Nat.reduceLeDiff, Nat.reduceLT, Int.reduceToNat, Nat.reduceEqDiff, Int.reduceEq, getD_map_lt hj, pt_eq, htk, h]) | (refine AW.condP rfl (fun h => ?_) (fun h => ?_) <;> try simp only [Bool.and_eq_true, decide_eq_true_eq, Bool.not_eq_true', decide_eq_false_iff_not, Bool.not_eq_false', Bool.not_eq_true, Bool.not_eq_false] at h) | refine And.intro (by omega) ?_ | fail)
        have e : rowsA (lns (x :: (ls ++ [(l[i], l[j])]))) = List.map AV.d (lnR x) :: (rowsA (List.map lnR ls) ++ [[AV.d (dI l[i].fst), AV.d (dI l[i].snd), AV.d (dI l[j].fst), AV.d (dI l[j].snd)]]) := by simp [rowsA, lnR]
        all_goals first
          | exact ⟨(p, x :: (ls ++ [(l[i], l[j])])), [0, 4, 2], ⟨hp, hI.add ha hi hj (by assumption) (by simp only [List.length_cons]; omega)⟩, rfl, by decide, rfl, by simp [NT, belA, belL, tget, renA, renL, nmL, gVg_cons], ⟨⟨rfl, rfl⟩, ⟨⟨belB_rowsA _ _ _ (lns (x :: (ls ++ [(l[i], l[j])]))), by rw [renB_rowsA, e]; rfl⟩, ⟨⟨rfl, rfl⟩, trivial⟩⟩⟩⟩
          | exact ⟨(p, x :: ls), [0, 1, 2], ⟨hp, hI.step⟩, rfl, by decide, rfl, by simp [NT, belA, belL, tget, renA, renL, nmL, gVg_cons], ⟨⟨rfl, rfl⟩, ⟨⟨belB_rowsA _ _ _ (lns (x :: ls)), by rw [renB_rowsA]; rfl⟩, ⟨⟨rfl, rfl⟩, trivial⟩⟩⟩⟩
    · rintro ⟨p, ls⟩ ⟨hp, hI⟩
      simp only at hp hI ⊢
      have hbel : belA 2 (gVg 1 ls) = true := by cases ls <;> rfl
      have hren : renA (nmL [0, 1]) (gVg 1 ls) = gVg 1 ls := by cases ls <;> rfl
      simp only [RS, LS, SY, ne_eq, isFl, floatV, constA, thenQ, blockQ, pack, intA, boolA, eqA, unA, nilcA, asI, asB, asS, loadA, idxA, lenA, slcA, AV.flat, AV.one, zA1, storeA, toD, srcOf, copyA, ↓reduceIte, reduceCtorEq, List.replicate, Nat.reduceBEq, Nat.reduceAdd, Nat.reduceMul, Nat.reduceSub, Nat.reduceLeDiff, Nat.reduceLT, Int.reduceToNat, Nat.reduceEqDiff, Int.reduceEq]
      refine ⟨(p, ls), [0, 1], ⟨hp, hI.row⟩, rfl, by decide, rfl, by simp [NT, belA, belL, tget, tset, renA, renL, nmL, hbel, hren], ⟨⟨rfl, rfl⟩, ?_⟩⟩
      cases ls with
      | nil => trivial
      | cons x ls => exact ⟨⟨belB_rowsA _ _ _ (lns (x :: ls)), by rw [renB_rowsA]; rfl⟩, trivial⟩
  · rintro ⟨p, ls⟩ ⟨hp, hI⟩
    simp only at hp hI ⊢
    have hfin : VLk l (lns ls) := ⟨ls, rfl, hI.len, hI.fin⟩
    cases ls with
    | nil =>
      rw [gVg_nil, gBg_nil]
      simp only [RS, LS, SY, ne_eq, isFl, floatV, constA, thenQ, blockQ, pack, intA, boolA, eqA, unA, nilcA, asI, asB, asS, loadA, idxA, lenA, slcA, AV.flat, AV.one, zA1, storeA, toD, srcOf, copyA, ↓reduceIte, reduceCtorEq, List.replicate, Nat.reduceBEq, Nat.reduceAdd, Nat.reduceMul, Nat.reduceSub, Nat.reduceLeDiff, Nat.reduceLT, Int.reduceToNat, Nat.reduceEqDiff, Int.reduceEq]
      refine AW.nrm [0] (T' := [(5, .ful 0 [])]) (s' := [SrcS SRC L p]) ⟨rfl, by decide, rfl, by simp [NT, belA, belL, tget, renA, renL, nmL], ⟨⟨rfl, rfl⟩, trivial⟩⟩ ?_
      repeat' (first | refine AW.seq' ?_ | with_reducible refine AW.blockS rfl ?_ | ((first | refine AW.ops ?_ | refine AW.draw ?_ | refine AW.skip ?_ | refine AW.ret ?_ | refine AW.exit ?_) <;> simp only [RS, LS, SY, ne_eq, isFl, floatV, constA, thenQ, blockQ, pack, intA, boolA, eqA, unA, nilcA, asI, asB, asS, loadA, idxA, lenA, slcA, AV.flat, AV.one, zA1, storeA, toD, srcOf, copyA, ↓reduceIte, reduceCtorEq, List.replicate, Nat.reduceBEq, Nat.reduceAdd, Nat.reduceMul, Nat.reduceSub, Nat.reduceLeDiff, Nat.reduceLT, Int.reduceToNat, Nat.reduceEqDiff, Int.reduceEq]) | refine AW.condT rfl ?_ | refine AW.condF rfl ?_ | ((first | refine GI.of (fun h => ?_) (fun h => ?_) (by first | exact Classical.em _ | exact (Classical.em _).symm | grind) | refine GD.of (fun h => ?_) (fun h => ?_) (by first | exact Classical.em _ | exact (Classical.em _).symm | grind)) <;> simp only [RS, LS, SY, ne_eq, isFl, floatV, constA, thenQ, blockQ, pack, intA, boolA, eqA, unA, nilcA, asI, asB, asS, loadA, idxA, lenA, slcA, AV.flat, AV.one, zA1, storeA, toD, srcOf, copyA, ↓reduceIte, reduceCtorEq, List.replicate, Nat.reduceBEq, Nat.reduceAdd, Nat.reduceMul, Nat.reduceSub, Nat.reduceLeDiff, Nat.reduceLT, Int.reduceToNat, Nat.reduceEqDiff, Int.reduceEq, h]) | (refine AW.condP rfl (fun h => ?_) (fun h => ?_) <;> try simp only [Bool.and_eq_true, decide_eq_true_eq, Bool.not_eq_true', decide_eq_false_iff_not, Bool.not_eq_false', Bool.not_eq_true, Bool.not_eq_false] at h) | refine And.intro (by omega) ?_ | fail)
      exact ⟨p, [], hp, hfin, .inl ⟨rfl, rfl⟩⟩
    | cons x ls =>
      rw [gVg_cons, gBg_cons]
      simp only [RS, LS, SY, ne_eq, isFl, floatV, constA, thenQ, blockQ, pack, intA, boolA, eqA, unA, nilcA, asI, asB, asS, loadA, idxA, lenA, slcA, AV.flat, AV.one, zA1, storeA, toD, srcOf, copyA, ↓reduceIte, reduceCtorEq, List.replicate, Nat.reduceBEq, Nat.reduceAdd, Nat.reduceMul, Nat.reduceSub, Nat.reduceLeDiff, Nat.reduceLT, Int.reduceToNat, Nat.reduceEqDiff, Int.reduceEq]
      repeat' (first | refine AW.seq' ?_ | with_reducible refine AW.blockS rfl ?_ | ((first | refine AW.ops ?_ | refine AW.draw ?_ | refine AW.skip ?_ | refine AW.ret ?_ | refine AW.exit ?_) <;> simp only [RS, LS, SY, ne_eq, isFl, floatV, constA, thenQ, blockQ, pack, intA, boolA, eqA, unA, nilcA, asI, asB, asS, loadA, idxA, lenA, slcA, AV.flat, AV.one, zA1, storeA, toD, srcOf, copyA, ↓reduceIte, reduceCtorEq, List.replicate, Nat.reduceBEq, Nat.reduceAdd, Nat.reduceMul, Nat.reduceSub, Nat.reduceLeDiff, Nat.reduceLT, Int.reduceToNat, Nat.reduceEqDiff, Int.reduceEq]) | refine AW.condT rfl ?_ | refine AW.condF rfl ?_ | ((first | refine GI.of (fun h => ?_) (fun h => ?_) (by first | exact Classical.em _ | exact (Classical.em _).symm | grind) | refine GD.of (fun h => ?_) (fun h => ?_) (by first | exact Classical.em _ | exact (Classical.em _).symm | grind)) <;> simp only [RS, LS, SY, ne_eq, isFl, floatV, constA, thenQ, blockQ, pack, intA, boolA, eqA, unA, nilcA, asI, asB, asS, loadA, idxA, lenA, slcA, AV.flat, AV.one, zA1, storeA, toD, srcOf, copyA, ↓reduceIte, reduceCtorEq, List.replicate, Nat.reduceBEq, Nat.reduceAdd, Nat.reduceMul, Nat.reduceSub, Nat.reduceLeDiff, Nat.reduceLT, Int.reduceToNat, Nat.reduceEqDiff, Int.reduceEq, h]) | (refine AW.condP rfl (fun h => ?_) (fun h => ?_) <;> try simp only [Bool.and_eq_true, decide_eq_true_eq, Bool.not_eq_true', decide_eq_false_iff_not, Bool.not_eq_false', Bool.not_eq_true, Bool.not_eq_false] at h) | refine And.intro (by omega) ?_ | fail)
      exact ⟨p, lns (x :: ls), hp, hfin, .inr ⟨by rw [List.length_map]; rfl, rfl⟩⟩
end Go.Proofs.Ytkgeadhnagnloaa.H
