/- Chapter 26: the reference's union. -/
import Derived.Test.YtkgeadhnagnloaaHdP
set_option linter.unusedSimpArgs false
set_option linter.unusedVariables false
namespace Go.Proofs.Ytkgeadhnagnloaa.H
theorem withP_len (p : Pt) : ∀ l : List Pt, (withP l p).length ≤ l.length + 1
  | [] => by simp [withP]
  | x :: l => by
    have := withP_len p l
    simp only [withP]
    split
    · simpa using this
    · split <;> simp
theorem withP_ne (p : Pt) : ∀ l : List Pt, withP l p ≠ []
  | [] => by simp [withP]
  | x :: l => by
    simp only [withP]
    split
    · simp
    · split <;> simp
theorem unP_len (a b : List Pt) : (unP a b).length ≤ a.length + b.length := by
  have h : ∀ (b l : List Pt), (b.foldl withP l).length ≤ l.length + b.length := by
    intro b
    induction b with
    | nil => intro l; simp
    | cons p b ih =>
      intro l
      rw [List.foldl_cons, List.length_cons]
      have := ih (withP l p)
      have := withP_len p l
      omega
  have h1 := h b (a.foldl withP [])
  have h2 := h a []
  simp only [List.length_nil] at h2
  unfold unP; omega
/-- The end that a list's maker has: its own block, behind the list given up. -/
def OneL (T : Nat) (l : List Pt) (v : AV) (s' : St) : Prop := v = .own 1 0 l.length ∧ s' = [none, some (.cells T 2 (rowsA (pts l)))]
theorem IsL.one {P : Program} {f : FuncId} {vs : List AV} {b : Blk} {T : Nat} {l : List Pt} (h : ACalls P f vs [some b] (IsL T l)) : ACalls P f vs [some b] (OneL T l) :=
  h.ren fun v s' ⟨id, e, hs⟩ => by
    refine ⟨fun i => if i = 0 then 0 else id, .own 1 0 l.length, [none, some (.cells T 2 (rowsA (pts l)))], ?_, by simp, ?_, ?_, ?_, rfl, rfl⟩
    · intro i hi
      have : i = 0 := by simpa using hi
      simp [this]
    · intro i j ⟨b, hi⟩ ⟨c, hj⟩ hij
      match i, j, hi, hj with
      | 0, _, hi, _ => simp at hi
      | _, 0, _, hj => simp at hj
      | 1, 1, _, _ => exact absurd rfl hij
      | i + 2, _, hi, _ => simp at hi
      | 1, j + 2, _, hj => simp at hj
    · exact ⟨rfl, by rw [e]; simp [renA]⟩
    · intro i b hi
      match i, hi with
      | 0, hi => simp at hi
      | 1, hi =>
        simp only [List.getElem?_cons_succ, List.getElem?_cons_zero, Option.some.injEq] at hi
        subst hi
        exact ⟨belB_rowsA .., by rw [renB_rowsA]; simpa using hs⟩
      | i + 2, hi => simp at hi
theorem IsL.one0 {P : Program} {f : FuncId} {vs : List AV} {T : Nat} {l : List Pt} (h : ACalls P f vs [] (IsL T l)) : ACalls P f vs [] fun v s' => v = .own 0 0 l.length ∧ s' = [some (.cells T 2 (rowsA (pts l)))] :=
  h.ren fun v s' ⟨id, e, hs⟩ => by
    refine ⟨fun i => id, .own 0 0 l.length, [some (.cells T 2 (rowsA (pts l)))], fun i hi => by simp at hi, by simp, ?_, ?_, ?_, rfl, rfl⟩
    · intro i j ⟨b, hi⟩ ⟨c, hj⟩ hij
      match i, j, hi, hj with
      | 0, 0, _, _ => exact absurd rfl hij
      | i + 1, _, hi, _ => simp at hi
      | 0, j + 1, _, hj => simp at hj
    · exact ⟨rfl, by rw [e]; simp [renA]⟩
    · intro i b hi
      match i, hi with
      | 0, hi =>
        simp only [List.getElem?_cons_zero, Option.some.injEq] at hi
        subst hi
        exact ⟨belB_rowsA .., by rw [renB_rowsA]; exact hs⟩
      | i + 1, hi => simp at hi
theorem givenO {T k i n : Nat} {rows : List (List D)} {s : St} {vc : List AV} (hi : s[i]? = some (some (.cells T k (rowsA rows)))) (hb : belL 0 vc = true) : Given [i] s (.own i 0 n :: vc) [some (.cells T k (rowsA rows))] (.own 0 0 n :: vc) := by
  have hlt : i < s.length := (List.getElem?_eq_some_iff.1 hi).1
  refine ⟨rfl, by simpa using hlt, by simp, fun j b hj => ?_, ?_, ?_⟩
  · match j with
    | 0 =>
      simp only [List.getElem?_cons_zero, Option.some.injEq] at hj; subst hj
      exact ⟨belB_rowsA .., by rw [renB_rowsA]; exact hi⟩
    | j + 1 => simp at hj
  · simp only [belL, belA, List.length_singleton, Bool.and_eq_true]
    refine ⟨rfl, ?_⟩
    rw [belL_iff] at hb ⊢
    exact fun v hv => belA_mono (Nat.zero_le _) (hb v hv)
  · simp only [renL, renA, renL_bel0 _ hb, nmR]; simp
theorem backO {T k i : Nat} {rows : List (List D)} {s : St} (hi : i < s.length) : backS [i] s [none, some (.cells T k (rowsA rows))] = s.set i none ++ [some (.cells T k (rowsA rows))] := by
  unfold backS
  simp only [List.length_singleton, List.drop_one, List.tail_cons, List.map_cons, List.map_nil, renB_rowsA]
  congr 1
  refine List.ext_getElem? fun j => ?_
  rw [List.getElem?_map, List.getElem?_set]
  by_cases hj : j < s.length
  · rw [List.getElem?_range hj]
    by_cases e : i = j
    · subst e
      have : [i].idxOf? i = some 0 := by simp [List.idxOf?, List.findIdx?_cons]
      simp [this, hi]
    · have : [i].idxOf? j = none := by simp [List.idxOf?_eq_none_iff]; exact fun h => e (h ▸ rfl)
      simp [this, e, hj]
  · rw [List.getElem?_eq_none (by simp; omega)]
    by_cases e : i = j
    · omega
    · simp [e]; omega
theorem with_ok (l : List Pt) (hl : l.length ≤ 1000000) (p : Pt) {s : St} {i : Nat} (hi : s[i]? = some (some (.cells 29 2 (rowsA (pts l))))) {Q : AV → St → Prop}
    (hq : Q (.own s.length 0 (withP l p).length) (s.set i none ++ [some (.cells 29 2 (rowsA (pts (withP l p))))])) : ACalls Try.prog 49 [.own i 0 l.length, APt p] s Q :=
  ACalls.frame (IsL.one (with0_ok l hl p)) (givenO hi rfl) fun v s' ⟨e1, e2⟩ => by
    have hlt := (List.getElem?_eq_some_iff.1 hi).1
    subst e1 e2
    rw [backO hlt]
    simpa [renA, nmR] using hq
theorem with00_ok (p : Pt) : ACalls Try.prog 49 [.ful 0 [], APt p] [] (IsL 29 [p]) := by
  refine ACalls.of fn49 (by simp) ?_
  unfold c49
  repeat' (first | refine AW.seq' ?_ | with_reducible refine AW.blockS rfl ?_ | ((first | refine AW.ops ?_ | refine AW.draw ?_ | refine AW.skip ?_ | refine AW.ret ?_ | refine AW.exit ?_) <;> simp only [RS, LS, SY, ne_eq, isFl, floatV, constA, thenQ, blockQ, pack, intA, boolA, eqA, unA, nilcA, asI, asB, asS, loadA, idxA, lenA, slcA, AV.flat, AV.one, zA1, storeA, toD, srcOf, copyA, ↓reduceIte, reduceCtorEq, List.replicate, Nat.reduceBEq, Nat.reduceAdd, Nat.reduceMul, Nat.reduceSub, Nat.reduceLeDiff, Nat.reduceLT, Int.reduceToNat, Nat.reduceEqDiff, Int.reduceEq]) | refine AW.condT rfl ?_ | refine AW.condF rfl ?_ | ((first | refine GI.of (fun h => ?_) (fun h => ?_) (by first | exact Classical.em _ | exact (Classical.em _).symm | grind) | refine GD.of (fun h => ?_) (fun h => ?_) (by first | exact Classical.em _ | exact (Classical.em _).symm | grind)) <;> simp only [RS, LS, SY, ne_eq, isFl, floatV, constA, thenQ, blockQ, pack, intA, boolA, eqA, unA, nilcA, asI, asB, asS, loadA, idxA, lenA, slcA, AV.flat, AV.one, zA1, storeA, toD, srcOf, copyA, ↓reduceIte, reduceCtorEq, List.replicate, Nat.reduceBEq, Nat.reduceAdd, Nat.reduceMul, Nat.reduceSub, Nat.reduceLeDiff, Nat.reduceLT, Int.reduceToNat, Nat.reduceEqDiff, Int.reduceEq, h]) | (refine AW.condP rfl (fun h => ?_) (fun h => ?_) <;> try simp only [Bool.and_eq_true, decide_eq_true_eq, Bool.not_eq_true', decide_eq_false_iff_not, Bool.not_eq_false', Bool.not_eq_true, Bool.not_eq_false] at h) | refine And.intro (by omega) ?_ | fail)
  refine AW.block ?_
  refine AW.loopA (α := Nat) (fun k => 1 - k) (fun k => [(5, AI .i64 0), (0, .ful 0 []), (3, .ptr 0 0 0)]) (fun _ => [some (.cells 29 2 [[AI .i64 p.1, AI .i64 p.2]])]) (fun k => True) 0 trivial [0] ⟨rfl, by decide, rfl, by simp [NT, belA, belL, tget, renA, renL, nmL], ⟨⟨rfl, rfl⟩, trivial⟩⟩ ?_
  intro k _
  unfold c49_0
  have h0 : ¬ (0 : Int) < ((0 : Nat) : Int) := by simp
  repeat' (first | refine AW.seq' ?_ | with_reducible refine AW.blockS rfl ?_ | ((first | refine AW.ops ?_ | refine AW.draw ?_ | refine AW.skip ?_ | refine AW.ret ?_ | refine AW.exit ?_) <;> simp (disch := omega) only [RS, LS, SY, ne_eq, isFl, floatV, constA, thenQ, blockQ, pack, intA, boolA, eqA, unA, nilcA, asI, asB, asS, loadA, idxA, lenA, slcA, AV.flat, AV.one, zA1, storeA, toD, srcOf, copyA, ↓reduceIte, reduceCtorEq, List.replicate, Nat.reduceBEq, Nat.reduceAdd, Nat.reduceMul, Nat.reduceSub, Nat.reduceLeDiff, Nat.reduceLT, Int.reduceToNat, Nat.reduceEqDiff, Int.reduceEq, wrap_id, h0]) | refine AW.condT rfl ?_ | refine AW.condF rfl ?_ | ((first | refine GI.of (fun h => ?_) (fun h => ?_) (by first | exact Classical.em _ | exact (Classical.em _).symm | grind) | refine GD.of (fun h => ?_) (fun h => ?_) (by first | exact Classical.em _ | exact (Classical.em _).symm | grind)) <;> simp (disch := omega) only [RS, LS, SY, ne_eq, isFl, floatV, constA, thenQ, blockQ, pack, intA, boolA, eqA, unA, nilcA, asI, asB, asS, loadA, idxA, lenA, slcA, AV.flat, AV.one, zA1, storeA, toD, srcOf, copyA, ↓reduceIte, reduceCtorEq, List.replicate, Nat.reduceBEq, Nat.reduceAdd, Nat.reduceMul, Nat.reduceSub, Nat.reduceLeDiff, Nat.reduceLT, Int.reduceToNat, Nat.reduceEqDiff, Int.reduceEq, wrap_id, h0, h]) | (refine AW.condP rfl (fun h => ?_) (fun h => ?_) <;> try simp only [Bool.and_eq_true, decide_eq_true_eq, Bool.not_eq_true', decide_eq_false_iff_not, Bool.not_eq_false', Bool.not_eq_true, Bool.not_eq_false] at h) | refine And.intro (by omega) ?_ | fail)
  exact ⟨_, rfl, rfl⟩
theorem with_nil (p : Pt) {s : St} {Q : AV → St → Prop} (hq : Q (.own s.length 0 1) (s ++ [some (.cells 29 2 (rowsA (pts [p])))])) : ACalls Try.prog 49 [.ful 0 [], APt p] s Q :=
  ACalls.frame (ft := []) (IsL.one0 (with00_ok p)) (given_nil rfl) fun v s' ⟨e1, e2⟩ => by
    subst e1 e2
    have : backS [] s [some (.cells 29 2 (rowsA (pts [p])))] = s ++ [some (.cells 29 2 (rowsA (pts [p])))] := by
      unfold backS
      simp only [List.length_nil, List.drop_zero, List.map_cons, List.map_nil, renB_rowsA]
      congr 1
      refine List.ext_getElem? fun j => ?_
      rw [List.getElem?_map]
      by_cases hj : j < s.length
      · rw [List.getElem?_range hj]; simp [hj]
      · rw [List.getElem?_eq_none (by simp; omega), List.getElem?_eq_none (by omega)]; rfl
    rw [this]
    simpa [renA, nmR] using hq
/-- A list that grows from nothing. -/
def oV (l : List Pt) : AV := match l with
  | [] => .ful 0 []
  | p :: l => .own 0 0 (p :: l).length
def oS (l : List Pt) : St := match l with
  | [] => []
  | p :: l => [some (.cells 29 2 (rowsA (pts (p :: l))))]
theorem oV_nil : oV [] = .ful 0 [] := rfl
theorem oS_nil : oS [] = [] := rfl
theorem oV_cons (p : Pt) (l : List Pt) : oV (p :: l) = .own 0 0 (p :: l).length := rfl
theorem oS_cons (p : Pt) (l : List Pt) : oS (p :: l) = [some (.cells 29 2 (rowsA (pts (p :: l))))] := rfl
theorem oFn {P : Program} {f : FuncId} {vs : List AV} {l : List Pt} (h : ACalls P f vs [] fun v s' => v = oV l ∧ s' = oS l) : Fn P f vs (LP l) := by
  unfold Fn
  cases l with
  | nil => exact h.endW fun v s' ⟨e1, e2⟩ => ⟨LP [], by rw [e1]; exact .nil 0 2, rfl, e2⟩
  | cons p l =>
    have h1 : ACalls P f vs [] fun v s' => v = LP (p :: l) := h.freeze fun v s' ⟨e1, e2⟩ => by
      subst e1 e2
      refine .inr ⟨0, 29, 2, pts (p :: l), rfl, by simp [oV, fitA], ?_⟩
      simp [oV, frzA, List.take_of_length_le]
    exact h1.take fun v s' e => ⟨by rw [e]; rfl, fun i b hi => by simp at hi, e, by simp⟩
def idsO (l : List Pt) : List Nat := match l with
  | [] => []
  | _ :: _ => [0]
theorem nrmO {T T' : Tm} (l : List Pt) (h : NT (oS l).length (nmL (idsO l)) T T') : Nrm (idsO l) 0 T (oS l) T' (oS l) := by
  cases l with
  | nil => exact ⟨rfl, by decide, rfl, h, trivial⟩
  | cons p l => exact ⟨rfl, by simp [idsO], rfl, h, ⟨⟨belB_rowsA .., by rw [renB_rowsA]; rfl⟩, trivial⟩⟩
set_option maxHeartbeats 2000000 in
theorem runion_ok (a b : List Pt) (ha : a.length ≤ 100000) (hb : b.length ≤ 100000) : Fn Try.prog 19 [LP a, LP b] (LP (unP a b)) := by
  refine oFn (ACalls.of fn19 (by simp) ?_)
  unfold c19
  let U : Nat → List Pt := fun k => if k = 0 then [] else if k = 1 then a.foldl withP [] else unP a b
  have hU : ∀ k, (U k).length ≤ 200000 := fun k => by
    have h1 := unP_len a b
    have h2 := unP_len a []
    simp only [unP, List.foldl_nil, List.length_nil] at h1 h2
    simp only [U]
    split
    · simp
    · split
      · omega
      · simp only [unP]; omega
  repeat' (first | refine AW.seq' ?_ | with_reducible refine AW.blockS rfl ?_ | ((first | refine AW.ops ?_ | refine AW.draw ?_ | refine AW.skip ?_ | refine AW.ret ?_ | refine AW.exit ?_) <;> simp only [RS, LS, SY, ne_eq, isFl, floatV, constA, thenQ, blockQ, pack, intA, boolA, eqA, unA, nilcA, asI, asB, asS, loadA, idxA, lenA, slcA, AV.flat, AV.one, zA1, storeA, toD, srcOf, copyA, ↓reduceIte, reduceCtorEq, List.replicate, Nat.reduceBEq, Nat.reduceAdd, Nat.reduceMul, Nat.reduceSub, Nat.reduceLeDiff, Nat.reduceLT, Int.reduceToNat, Nat.reduceEqDiff, Int.reduceEq]) | refine AW.condT rfl ?_ | refine AW.condF rfl ?_ | ((first | refine GI.of (fun h => ?_) (fun h => ?_) (by first | exact Classical.em _ | exact (Classical.em _).symm | grind) | refine GD.of (fun h => ?_) (fun h => ?_) (by first | exact Classical.em _ | exact (Classical.em _).symm | grind)) <;> simp only [RS, LS, SY, ne_eq, isFl, floatV, constA, thenQ, blockQ, pack, intA, boolA, eqA, unA, nilcA, asI, asB, asS, loadA, idxA, lenA, slcA, AV.flat, AV.one, zA1, storeA, toD, srcOf, copyA, ↓reduceIte, reduceCtorEq, List.replicate, Nat.reduceBEq, Nat.reduceAdd, Nat.reduceMul, Nat.reduceSub, Nat.reduceLeDiff, Nat.reduceLT, Int.reduceToNat, Nat.reduceEqDiff, Int.reduceEq, h]) | (refine AW.condP rfl (fun h => ?_) (fun h => ?_) <;> try simp only [Bool.and_eq_true, decide_eq_true_eq, Bool.not_eq_true', decide_eq_false_iff_not, Bool.not_eq_false', Bool.not_eq_true, Bool.not_eq_false] at h) | refine And.intro (by omega) ?_ | fail)
  refine AW.block ?_
  refine AW.loopA (α := Nat) (fun k => 2 - k) (fun k => [(13, AI .i64 k), (12, .agg [LP a, LP b]), (5, oV (U k))]) (fun k => oS (U k)) (fun k => k ≤ 2) 0 (by omega) [] ⟨rfl, by decide, rfl, by simp [NT, belA, belL, tget, renA, renL, U, oV], trivial⟩ ?_
  intro k hk
  unfold c19_1
  by_cases h2 : k < 2
  · have hc : (k : Int) < 2 := by omega
    obtain ⟨c, hc1, hc2, hc3⟩ : ∃ c : List Pt, [LP a, LP b].getD k default = LP c ∧ c.length ≤ 100000 ∧ U (k + 1) = c.foldl withP (U k) := by
      match k, h2 with
      | 0, _ => exact ⟨a, rfl, ha, rfl⟩
      | 1, _ => exact ⟨b, rfl, hb, rfl⟩
    repeat' (first | refine AW.seq' ?_ | with_reducible refine AW.blockS rfl ?_ | ((first | refine AW.ops ?_ | refine AW.draw ?_ | refine AW.skip ?_ | refine AW.ret ?_ | refine AW.exit ?_) <;> simp only [RS, LS, SY, ne_eq, isFl, floatV, constA, thenQ, blockQ, pack, intA, boolA, eqA, unA, nilcA, asI, asB, asS, loadA, idxA, lenA, slcA, AV.flat, AV.one, zA1, storeA, toD, srcOf, copyA, ↓reduceIte, reduceCtorEq, List.replicate, Nat.reduceBEq, Nat.reduceAdd, Nat.reduceMul, Nat.reduceSub, Nat.reduceLeDiff, Nat.reduceLT, Int.reduceToNat, Nat.reduceEqDiff, Int.reduceEq, hc, hc1]) | refine AW.condT rfl ?_ | refine AW.condF rfl ?_ | ((first | refine GI.of (fun h => ?_) (fun h => ?_) (by first | exact Classical.em _ | exact (Classical.em _).symm | grind) | refine GD.of (fun h => ?_) (fun h => ?_) (by first | exact Classical.em _ | exact (Classical.em _).symm | grind)) <;> simp only [RS, LS, SY, ne_eq, isFl, floatV, constA, thenQ, blockQ, pack, intA, boolA, eqA, unA, nilcA, asI, asB, asS, loadA, idxA, lenA, slcA, AV.flat, AV.one, zA1, storeA, toD, srcOf, copyA, ↓reduceIte, reduceCtorEq, List.replicate, Nat.reduceBEq, Nat.reduceAdd, Nat.reduceMul, Nat.reduceSub, Nat.reduceLeDiff, Nat.reduceLT, Int.reduceToNat, Nat.reduceEqDiff, Int.reduceEq, hc, hc1, h]) | (refine AW.condP rfl (fun h => ?_) (fun h => ?_) <;> try simp only [Bool.and_eq_true, decide_eq_true_eq, Bool.not_eq_true', decide_eq_false_iff_not, Bool.not_eq_false', Bool.not_eq_true, Bool.not_eq_false] at h) | refine And.intro (by omega) ?_ | fail)
    refine AW.range (α := List Pt) c.length (by omega) (by decide) (fun _ l => [(5, oV l), (16, LP c), (12, .agg [LP a, LP b]), (13, AI .i64 k)]) (fun _ l => oS l) (fun i l => l = (c.take i).foldl withP (U k) ∧ l.length ≤ 200000 + i) (U k) ⟨by simp, by have := hU k; omega⟩ (idsO (U k)) (nrmO (U k) ?_) (by simp) ?_ ?_
    · cases U k with
      | nil => simp [NT, belA, belL, tget, renA, renL, oV, nmL, idsO, oS]
      | cons p l => simp [NT, belA, belL, tget, renA, renL, oV, nmL, idsO, oS]
    · intro i l hi ⟨hl, hlen⟩
      unfold c19_0
      have hst : (List.take (i + 1) c).foldl withP (U k) = withP l c[i] := by
        rw [List.take_succ_eq_append_getElem hi, List.foldl_append, ← hl]; rfl
      have hle := withP_len c[i] l
      cases l with
      | nil =>
        rw [oV_nil, oS_nil]
        repeat' (first | refine AW.seq' ?_ | with_reducible refine AW.blockS rfl ?_ | ((first | refine AW.ops ?_ | refine AW.draw ?_ | refine AW.skip ?_ | refine AW.ret ?_ | refine AW.exit ?_ |  refine with_nil c[i] ?_) <;> simp only [RS, LS, SY, ne_eq, isFl, floatV, constA, thenQ, blockQ, pack, intA, boolA, eqA, unA, nilcA, asI, asB, asS, loadA, idxA, lenA, slcA, AV.flat, AV.one, zA1, storeA, toD, srcOf, copyA, ↓reduceIte, reduceCtorEq, List.replicate, Nat.reduceBEq, Nat.reduceAdd, Nat.reduceMul, Nat.reduceSub, Nat.reduceLeDiff, Nat.reduceLT, Int.reduceToNat, Nat.reduceEqDiff, Int.reduceEq, getD_map_lt hi]) | refine AW.condT rfl ?_ | refine AW.condF rfl ?_ | ((first | refine GI.of (fun h => ?_) (fun h => ?_) (by first | exact Classical.em _ | exact (Classical.em _).symm | grind) | refine GD.of (fun h => ?_) (fun h => ?_) (by first | exact Classical.em _ | exact (Classical.em _).symm | grind)) <;> simp only [RS, LS, SY, ne_eq, isFl, floatV, constA, thenQ, blockQ, pack, intA, boolA, eqA, unA, nilcA, asI, asB, asS, loadA, idxA, lenA, slcA, AV.flat, AV.one, zA1, storeA, toD, srcOf, copyA, ↓reduceIte, reduceCtorEq, List.replicate, Nat.reduceBEq, Nat.reduceAdd, Nat.reduceMul, Nat.reduceSub, Nat.reduceLeDiff, Nat.reduceLT, Int.reduceToNat, Nat.reduceEqDiff, Int.reduceEq, getD_map_lt hi, h]) | (refine AW.condP rfl (fun h => ?_) (fun h => ?_) <;> try simp only [Bool.and_eq_true, decide_eq_true_eq, Bool.not_eq_true', decide_eq_false_iff_not, Bool.not_eq_false', Bool.not_eq_true, Bool.not_eq_false] at h) | refine And.intro (by omega) ?_ | fail)
        refine ⟨[c[i]], [1], ⟨by rw [hst]; rfl, by simp; omega⟩, rfl, by decide, rfl, ?_, ⟨⟨rfl, rfl⟩, trivial⟩⟩
        simp [NT, belA, belL, tget, renA, renL, nmL, oV_nil, oS_nil, oV_cons, oS_cons]
      | cons p l =>
        rw [oV_cons, oS_cons]
        obtain ⟨q, m, e⟩ := List.exists_cons_of_ne_nil (withP_ne c[i] (p :: l))
        rw [e] at hst hle
        repeat' (first | refine AW.seq' ?_ | with_reducible refine AW.blockS rfl ?_ | ((first | refine AW.ops ?_ | refine AW.draw ?_ | refine AW.skip ?_ | refine AW.ret ?_ | refine AW.exit ?_ |  (refine with_ok (p :: l) (by omega) c[i] rfl ?_; simp only [e])) <;> simp only [RS, LS, SY, ne_eq, isFl, floatV, constA, thenQ, blockQ, pack, intA, boolA, eqA, unA, nilcA, asI, asB, asS, loadA, idxA, lenA, slcA, AV.flat, AV.one, zA1, storeA, toD, srcOf, copyA, ↓reduceIte, reduceCtorEq, List.replicate, Nat.reduceBEq, Nat.reduceAdd, Nat.reduceMul, Nat.reduceSub, Nat.reduceLeDiff, Nat.reduceLT, Int.reduceToNat, Nat.reduceEqDiff, Int.reduceEq, getD_map_lt hi, e]) | refine AW.condT rfl ?_ | refine AW.condF rfl ?_ | ((first | refine GI.of (fun h => ?_) (fun h => ?_) (by first | exact Classical.em _ | exact (Classical.em _).symm | grind) | refine GD.of (fun h => ?_) (fun h => ?_) (by first | exact Classical.em _ | exact (Classical.em _).symm | grind)) <;> simp only [RS, LS, SY, ne_eq, isFl, floatV, constA, thenQ, blockQ, pack, intA, boolA, eqA, unA, nilcA, asI, asB, asS, loadA, idxA, lenA, slcA, AV.flat, AV.one, zA1, storeA, toD, srcOf, copyA, ↓reduceIte, reduceCtorEq, List.replicate, Nat.reduceBEq, Nat.reduceAdd, Nat.reduceMul, Nat.reduceSub, Nat.reduceLeDiff, Nat.reduceLT, Int.reduceToNat, Nat.reduceEqDiff, Int.reduceEq, getD_map_lt hi, e, h]) | (refine AW.condP rfl (fun h => ?_) (fun h => ?_) <;> try simp only [Bool.and_eq_true, decide_eq_true_eq, Bool.not_eq_true', decide_eq_false_iff_not, Bool.not_eq_false', Bool.not_eq_true, Bool.not_eq_false] at h) | refine And.intro (by omega) ?_ | fail)
        refine ⟨q :: m, [2], ⟨by rw [hst], by omega⟩, rfl, by decide, rfl, ?_, ⟨⟨belB_rowsA _ _ _ (pts (q :: m)), by first | rfl | (rw [renB_rowsA]; rfl)⟩, trivial⟩⟩
        simp [NT, belA, belL, tget, renA, renL, nmL, oV_nil, oS_nil, oV_cons, oS_cons]
    · intro l ⟨hl, hlen⟩
      rw [List.take_length, ← hc3] at hl
      subst hl
      have hw : IntKind.i64.wrap ((k : Int) + 1) = (k + 1 : Nat) := by rw [wrap_id (by omega) (by omega)]; omega
      simp only [RS, LS, SY, ne_eq, isFl, floatV, constA, thenQ, blockQ, pack, intA, boolA, eqA, unA, nilcA, asI, asB, asS, loadA, idxA, lenA, slcA, AV.flat, AV.one, zA1, storeA, toD, srcOf, copyA, ↓reduceIte, reduceCtorEq, List.replicate, Nat.reduceBEq, Nat.reduceAdd, Nat.reduceMul, Nat.reduceSub, Nat.reduceLeDiff, Nat.reduceLT, Int.reduceToNat, Nat.reduceEqDiff, Int.reduceEq]
      repeat' (first | refine AW.seq' ?_ | with_reducible refine AW.blockS rfl ?_ | ((first | refine AW.ops ?_ | refine AW.draw ?_ | refine AW.skip ?_ | refine AW.ret ?_ | refine AW.exit ?_) <;> simp only [RS, LS, SY, ne_eq, isFl, floatV, constA, thenQ, blockQ, pack, intA, boolA, eqA, unA, nilcA, asI, asB, asS, loadA, idxA, lenA, slcA, AV.flat, AV.one, zA1, storeA, toD, srcOf, copyA, ↓reduceIte, reduceCtorEq, List.replicate, Nat.reduceBEq, Nat.reduceAdd, Nat.reduceMul, Nat.reduceSub, Nat.reduceLeDiff, Nat.reduceLT, Int.reduceToNat, Nat.reduceEqDiff, Int.reduceEq, hw]) | refine AW.condT rfl ?_ | refine AW.condF rfl ?_ | ((first | refine GI.of (fun h => ?_) (fun h => ?_) (by first | exact Classical.em _ | exact (Classical.em _).symm | grind) | refine GD.of (fun h => ?_) (fun h => ?_) (by first | exact Classical.em _ | exact (Classical.em _).symm | grind)) <;> simp only [RS, LS, SY, ne_eq, isFl, floatV, constA, thenQ, blockQ, pack, intA, boolA, eqA, unA, nilcA, asI, asB, asS, loadA, idxA, lenA, slcA, AV.flat, AV.one, zA1, storeA, toD, srcOf, copyA, ↓reduceIte, reduceCtorEq, List.replicate, Nat.reduceBEq, Nat.reduceAdd, Nat.reduceMul, Nat.reduceSub, Nat.reduceLeDiff, Nat.reduceLT, Int.reduceToNat, Nat.reduceEqDiff, Int.reduceEq, hw, h]) | (refine AW.condP rfl (fun h => ?_) (fun h => ?_) <;> try simp only [Bool.and_eq_true, decide_eq_true_eq, Bool.not_eq_true', decide_eq_false_iff_not, Bool.not_eq_false', Bool.not_eq_true, Bool.not_eq_false] at h) | refine And.intro (by omega) ?_ | fail)
      refine ⟨k + 1, idsO (U (k + 1)), by omega, by omega, nrmO (U (k + 1)) ?_⟩
      cases U (k + 1) with
      | nil => simp [NT, belA, belL, tget, renA, renL, oV, nmL, idsO, oS]
      | cons p l => simp [NT, belA, belL, tget, renA, renL, oV, nmL, idsO, oS]
  · have hc : ¬ (k : Int) < 2 := by omega
    have hk2 : k = 2 := by omega
    subst hk2
    repeat' (first | refine AW.seq' ?_ | with_reducible refine AW.blockS rfl ?_ | ((first | refine AW.ops ?_ | refine AW.draw ?_ | refine AW.skip ?_ | refine AW.ret ?_ | refine AW.exit ?_) <;> simp only [RS, LS, SY, ne_eq, isFl, floatV, constA, thenQ, blockQ, pack, intA, boolA, eqA, unA, nilcA, asI, asB, asS, loadA, idxA, lenA, slcA, AV.flat, AV.one, zA1, storeA, toD, srcOf, copyA, ↓reduceIte, reduceCtorEq, List.replicate, Nat.reduceBEq, Nat.reduceAdd, Nat.reduceMul, Nat.reduceSub, Nat.reduceLeDiff, Nat.reduceLT, Int.reduceToNat, Nat.reduceEqDiff, Int.reduceEq, hc]) | refine AW.condT rfl ?_ | refine AW.condF rfl ?_ | ((first | refine GI.of (fun h => ?_) (fun h => ?_) (by first | exact Classical.em _ | exact (Classical.em _).symm | grind) | refine GD.of (fun h => ?_) (fun h => ?_) (by first | exact Classical.em _ | exact (Classical.em _).symm | grind)) <;> simp only [RS, LS, SY, ne_eq, isFl, floatV, constA, thenQ, blockQ, pack, intA, boolA, eqA, unA, nilcA, asI, asB, asS, loadA, idxA, lenA, slcA, AV.flat, AV.one, zA1, storeA, toD, srcOf, copyA, ↓reduceIte, reduceCtorEq, List.replicate, Nat.reduceBEq, Nat.reduceAdd, Nat.reduceMul, Nat.reduceSub, Nat.reduceLeDiff, Nat.reduceLT, Int.reduceToNat, Nat.reduceEqDiff, Int.reduceEq, hc, h]) | (refine AW.condP rfl (fun h => ?_) (fun h => ?_) <;> try simp only [Bool.and_eq_true, decide_eq_true_eq, Bool.not_eq_true', decide_eq_false_iff_not, Bool.not_eq_false', Bool.not_eq_true, Bool.not_eq_false] at h) | refine And.intro (by omega) ?_ | fail)
    exact ⟨rfl, rfl⟩
end Go.Proofs.Ytkgeadhnagnloaa.H
