/- Chapter 26: what falls, in the reference. -/
import Derived.Test.YtkgeadhnagnloaaHdV
import Derived.Test.YtkgeadhnagnloaaHrA
set_option linter.unusedSimpArgs false
set_option linter.unusedVariables false
namespace Go.Proofs.Ytkgeadhnagnloaa.H
set_option maxHeartbeats 2000000 in
theorem runion_own (a b : List Pt) (ha : a.length ≤ 100000) (hb : b.length ≤ 100000) : ACalls Try.prog 19 [LP a, LP b] [] (fun v s' => v = oV (unP a b) ∧ s' = oS (unP a b)) := by
  refine ACalls.of fn19 (by simp) ?_
  unfold c19
  let U : Nat → List Pt := fun k => if k = 0 then [] else if k = 1 then a.foldl withP [] else unP a b
  have hU : ∀ k, (U k).length ≤ 200000 := fun k => by
    have h1 := unP_len a b
    have h2 := unP_len a []
    simp only [unP, List.foldl_nil, List.length_nil] at h1 h2
    simp only [U]
    split
    · simp
    · split
      · omega
      · simp only [unP]; omega
  repeat' (first | refine AW.seq' ?_ | with_reducible refine AW.blockS rfl ?_ | ((first | refine AW.ops ?_ | refine AW.draw ?_ | refine AW.skip ?_ | refine AW.ret ?_ | refine AW.exit ?_) <;> simp only [RS, LS, SY, ne_eq, isFl, floatV, constA, thenQ, blockQ, pack, intA, boolA, eqA, unA, nilcA, asI, asB, asS, loadA, idxA, lenA, slcA, AV.flat, AV.one, zA1, storeA, toD, srcOf, copyA, ↓reduceIte, reduceCtorEq, List.replicate, Nat.reduceBEq, Nat.reduceAdd, Nat.reduceMul, Nat.reduceSub, Nat.reduceLeDiff, Nat.reduceLT, Int.reduceToNat, Nat.reduceEqDiff, Int.reduceEq]) | refine AW.condT rfl ?_ | refine AW.condF rfl ?_ | refine And.intro (by omega) ?_ | fail)
  refine AW.block ?_
  refine AW.loopA (α := Nat) (fun k => 2 - k) (fun k => [(13, AI .i64 k), (12, .agg [LP a, LP b]), (5, oV (U k))]) (fun k => oS (U k)) (fun k => k ≤ 2) 0 (by omega) [] ⟨rfl, by decide, rfl, by simp [NT, belA, belL, tget, renA, renL, U, oV], trivial⟩ ?_
  intro k hk
  unfold c19_1
  by_cases h2 : k < 2
  · have hc : (k : Int) < 2 := by omega
    obtain ⟨c, hc1, hc2, hc3⟩ : ∃ c : List Pt, [LP a, LP b].getD k default = LP c ∧ c.length ≤ 100000 ∧ U (k + 1) = c.foldl withP (U k) := by
      match k, h2 with
      | 0, _ => exact ⟨a, rfl, ha, rfl⟩
      | 1, _ => exact ⟨b, rfl, hb, rfl⟩
    repeat' (first | refine AW.seq' ?_ | with_reducible refine AW.blockS rfl ?_ | ((first | refine AW.ops ?_ | refine AW.draw ?_ | refine AW.skip ?_ | refine AW.ret ?_ | refine AW.exit ?_) <;> simp only [RS, LS, SY, ne_eq, isFl, floatV, constA, thenQ, blockQ, pack, intA, boolA, eqA, unA, nilcA, asI, asB, asS, loadA, idxA, lenA, slcA, AV.flat, AV.one, zA1, storeA, toD, srcOf, copyA, ↓reduceIte, reduceCtorEq, List.replicate, Nat.reduceBEq, Nat.reduceAdd, Nat.reduceMul, Nat.reduceSub, Nat.reduceLeDiff, Nat.reduceLT, Int.reduceToNat, Nat.reduceEqDiff, Int.reduceEq, hc, hc1]) | refine AW.condT rfl ?_ | refine AW.condF rfl ?_ | refine And.intro (by omega) ?_ | fail)
    refine AW.range (α := List Pt) c.length (by omega) (by decide) (fun _ l => [(5, oV l), (16, LP c), (12, .agg [LP a, LP b]), (13, AI .i64 k)]) (fun _ l => oS l) (fun i l => l = (c.take i).foldl withP (U k) ∧ l.length ≤ 200000 + i) (U k) ⟨by simp, by have := hU k; omega⟩ (idsO (U k)) (nrmO (U k) ?_) (by simp) ?_ ?_
    · cases U k with
      | nil => simp [NT, belA, belL, tget, renA, renL, oV, nmL, idsO, oS]
      | cons p l => simp [NT, belA, belL, tget, renA, renL, oV, nmL, idsO, oS]
    · intro i l hi ⟨hl, hlen⟩
      unfold c19_0
      have hst : (List.take (i + 1) c).foldl withP (U k) = withP l c[i] := by
        rw [List.take_succ_eq_append_getElem hi, List.foldl_append, ← hl]; rfl
      have hle := withP_len c[i] l
      cases l with
      | nil =>
        rw [oV_nil, oS_nil]
        repeat' (first | refine AW.seq' ?_ | with_reducible refine AW.blockS rfl ?_ | ((first | refine AW.ops ?_ | refine AW.draw ?_ | refine AW.skip ?_ | refine AW.ret ?_ | refine AW.exit ?_ |  refine with_nil c[i] ?_) <;> simp only [RS, LS, SY, ne_eq, isFl, floatV, constA, thenQ, blockQ, pack, intA, boolA, eqA, unA, nilcA, asI, asB, asS, loadA, idxA, lenA, slcA, AV.flat, AV.one, zA1, storeA, toD, srcOf, copyA, ↓reduceIte, reduceCtorEq, List.replicate, Nat.reduceBEq, Nat.reduceAdd, Nat.reduceMul, Nat.reduceSub, Nat.reduceLeDiff, Nat.reduceLT, Int.reduceToNat, Nat.reduceEqDiff, Int.reduceEq, getD_map_lt hi]) | refine AW.condT rfl ?_ | refine AW.condF rfl ?_ | refine And.intro (by omega) ?_ | fail)
        refine ⟨[c[i]], [1], ⟨by rw [hst]; rfl, by simp; omega⟩, rfl, by decide, rfl, ?_, ⟨⟨rfl, rfl⟩, trivial⟩⟩
        simp [NT, belA, belL, tget, renA, renL, nmL, oV_nil, oS_nil, oV_cons, oS_cons]
      | cons p l =>
        rw [oV_cons, oS_cons]
        obtain ⟨q, m, e⟩ := List.exists_cons_of_ne_nil (withP_ne c[i] (p :: l))
        rw [e] at hst hle
        repeat' (first | refine AW.seq' ?_ | with_reducible refine AW.blockS rfl ?_ | ((first | refine AW.ops ?_ | refine AW.draw ?_ | refine AW.skip ?_ | refine AW.ret ?_ | refine AW.exit ?_ |  (refine with_ok (p :: l) (by omega) c[i] rfl ?_; simp only [e])) <;> simp only [RS, LS, SY, ne_eq, isFl, floatV, constA, thenQ, blockQ, pack, intA, boolA, eqA, unA, nilcA, asI, asB, asS, loadA, idxA, lenA, slcA, AV.flat, AV.one, zA1, storeA, toD, srcOf, copyA, ↓reduceIte, reduceCtorEq, List.replicate, Nat.reduceBEq, Nat.reduceAdd, Nat.reduceMul, Nat.reduceSub, Nat.reduceLeDiff, Nat.reduceLT, Int.reduceToNat, Nat.reduceEqDiff, Int.reduceEq, getD_map_lt hi, e]) | refine AW.condT rfl ?_ | refine AW.condF rfl ?_ | refine And.intro (by omega) ?_ | fail)
        refine ⟨q :: m, [2], ⟨by rw [hst], by omega⟩, rfl, by decide, rfl, ?_, ⟨⟨belB_rowsA _ _ _ (pts (q :: m)), by first | rfl | (rw [renB_rowsA]; rfl)⟩, trivial⟩⟩
        simp [NT, belA, belL, tget, renA, renL, nmL, oV_nil, oS_nil, oV_cons, oS_cons]
    · intro l ⟨hl, hlen⟩
      rw [List.take_length, ← hc3] at hl
      subst hl
      have hw : IntKind.i64.wrap ((k : Int) + 1) = (k + 1 : Nat) := by rw [wrap_id (by omega) (by omega)]; omega
      simp only [RS, LS, SY, ne_eq, isFl, floatV, constA, thenQ, blockQ, pack, intA, boolA, eqA, unA, nilcA, asI, asB, asS, loadA, idxA, lenA, slcA, AV.flat, AV.one, zA1, storeA, toD, srcOf, copyA, ↓reduceIte, reduceCtorEq, List.replicate, Nat.reduceBEq, Nat.reduceAdd, Nat.reduceMul, Nat.reduceSub, Nat.reduceLeDiff, Nat.reduceLT, Int.reduceToNat, Nat.reduceEqDiff, Int.reduceEq]
      repeat' (first | refine AW.seq' ?_ | with_reducible refine AW.blockS rfl ?_ | ((first | refine AW.ops ?_ | refine AW.draw ?_ | refine AW.skip ?_ | refine AW.ret ?_ | refine AW.exit ?_) <;> simp only [RS, LS, SY, ne_eq, isFl, floatV, constA, thenQ, blockQ, pack, intA, boolA, eqA, unA, nilcA, asI, asB, asS, loadA, idxA, lenA, slcA, AV.flat, AV.one, zA1, storeA, toD, srcOf, copyA, ↓reduceIte, reduceCtorEq, List.replicate, Nat.reduceBEq, Nat.reduceAdd, Nat.reduceMul, Nat.reduceSub, Nat.reduceLeDiff, Nat.reduceLT, Int.reduceToNat, Nat.reduceEqDiff, Int.reduceEq, hw]) | refine AW.condT rfl ?_ | refine AW.condF rfl ?_ | refine And.intro (by omega) ?_ | fail)
      refine ⟨k + 1, idsO (U (k + 1)), by omega, by omega, nrmO (U (k + 1)) ?_⟩
      cases U (k + 1) with
      | nil => simp [NT, belA, belL, tget, renA, renL, oV, nmL, idsO, oS]
      | cons p l => simp [NT, belA, belL, tget, renA, renL, oV, nmL, idsO, oS]
  · have hc : ¬ (k : Int) < 2 := by omega
    have hk2 : k = 2 := by omega
    subst hk2
    repeat' (first | refine AW.seq' ?_ | with_reducible refine AW.blockS rfl ?_ | ((first | refine AW.ops ?_ | refine AW.draw ?_ | refine AW.skip ?_ | refine AW.ret ?_ | refine AW.exit ?_) <;> simp only [RS, LS, SY, ne_eq, isFl, floatV, constA, thenQ, blockQ, pack, intA, boolA, eqA, unA, nilcA, asI, asB, asS, loadA, idxA, lenA, slcA, AV.flat, AV.one, zA1, storeA, toD, srcOf, copyA, ↓reduceIte, reduceCtorEq, List.replicate, Nat.reduceBEq, Nat.reduceAdd, Nat.reduceMul, Nat.reduceSub, Nat.reduceLeDiff, Nat.reduceLT, Int.reduceToNat, Nat.reduceEqDiff, Int.reduceEq, hc]) | refine AW.condT rfl ?_ | refine AW.condF rfl ?_ | refine And.intro (by omega) ?_ | fail)
    exact ⟨rfl, rfl⟩
theorem unP_nil : unP [] [] = [] := rfl
theorem unP_ne {B : List Pt} (h : B ≠ []) : unP B [] ≠ [] := by
  obtain ⟨p, l, rfl⟩ := List.exists_cons_of_ne_nil h
  intro e
  have : p ∈ unP (p :: l) [] := by rw [mem_unP]; simp
  rw [e] at this; simp at this
theorem runion_new {B : List Pt} (h : B ≠ []) (hB : B.length ≤ 100000) : FnNew Try.prog 19 [LP B, .ful 0 []] 29 2 (pts (unP B [])) :=
  ACalls.weaken ((runion_own B [] hB (by simp)).mono fun v s' ⟨h1, h2⟩ => by
    have hpos := List.length_pos_iff.2 (unP_ne h)
    rw [h1, h2, oV_pos hpos, oS_pos hpos, List.length_map]
    exact ⟨rfl, rfl⟩) (.cons (.same _) (.cons (.nil _ _) .nil))
theorem fallP_nil (ls : List Ln) : fallP ls [] = [] := by
  have : ∀ q, q ∉ fallP ls [] := fun q hq => by
    rw [mem_fallP] at hq
    induction hq with
    | base h => simp at h
    | step _ _ ih => exact ih
  exact List.eq_nil_iff_forall_not_mem.2 this
theorem bor_own {l : List Pt} {s : St} {id T : Nat} {vs : List AV} (hid : s[id]? = some (some (.cells T 2 (rowsA (pts l))))) (h : Bor s vs vs) : Bor s (.own id 0 l.length :: vs) (LP l :: vs) := by
  have := Bor.own (off := 0) (len := l.length) hid (by rw [List.length_map]; omega) h
  rw [List.drop_zero, List.take_of_length_le (by rw [List.length_map]; exact Nat.le_refl _)] at this
  exact this
theorem rhas_own {l : List Pt} {s : St} {id T : Nat} {p : Pt} {Q : AV → St → Prop} (hid : s[id]? = some (some (.cells T 2 (rowsA (pts l))))) (hl : l.length ≤ 4611686018427387904) (hq : Q (AB (hasP l p)) s) : ACalls Try.prog 16 [.own id 0 l.length, APt p] s Q :=
  Fn.lend (rhas_ok l hl p) (bor_own hid (.same rfl .nil)) rfl hq
set_option maxHeartbeats 4000000 in
theorem rfalls0_ok (ps : List Pt) (ls : List Ln) (gs : List Gr) (hp : ps.length ≤ 1000000) (hl : ls.length ≤ 1000000) (hg : gs.length ≤ 1000000) (hgl : ∀ g ∈ gs, g.2.length ≤ 1000000) (B : List Pt) (hB : B.length ≤ 100000) (hB0 : B ≠ []) (hc : checkP ps ls gs = 0) : ACalls Try.prog 26 [ADs ps ls (grs gs), LP B] [] (IsO (fallP ls B)) := by
  refine ACalls.of fn26 (by simp) ?_
  unfold c26
  have hls : ls.length ≤ 60 := by
    unfold checkP at hc
    split at hc
    · cases hc
    · omega
  have hck := rcheck_ok ps ls gs hp hl hg hgl
  rw [hc] at hck
  have hBl : (pts (unP B [])).length = (unP B []).length := List.length_map ..
  repeat' (first | refine AW.seq' ?_ | with_reducible refine AW.blockS rfl ?_ | ((first | refine AW.ops ?_ | refine AW.draw ?_ | refine AW.skip ?_ | refine AW.ret ?_ | refine AW.exit ?_ | refine Fn.call (hck) rfl rfl ?_ |  (refine FnNew.call (runion_new hB0 hB) rfl ?_)) <;> simp only [RS, LS, SY, ne_eq, isFl, floatV, constA, thenQ, blockQ, pack, intA, boolA, eqA, unA, nilcA, asI, asB, asS, loadA, idxA, lenA, slcA, AV.flat, AV.one, zA1, storeA, toD, srcOf, copyA, ↓reduceIte, reduceCtorEq, List.replicate, Nat.reduceBEq, Nat.reduceAdd, Nat.reduceMul, Nat.reduceSub, Nat.reduceLeDiff, Nat.reduceLT, Int.reduceToNat, Nat.reduceEqDiff, Int.reduceEq, hBl]) | refine AW.condT rfl ?_ | refine AW.condF rfl ?_ | refine And.intro (by omega) ?_ | fail)
  let C := B.length + ls.length
  refine AW.block ?_
  refine AW.loopA (α := List Pt × Bool) (fun a => 2 * (C - a.1.length) + (if a.2 then 1 else 0)) (fun a => [(2, .ptr 0 0 0), (5, .own 1 0 a.1.length), (6, AB a.2)]) (fun a => [some (.cells 27 3 [[LP ps, LN ls, LG gs]]), some (.cells 29 2 (rowsA (pts a.1)))])
    (fun a => FlR ls B a.1 ∧ (a.2 = false → ∀ x ∈ ls, x.1 ∈ a.1 → x.2 ∈ a.1)) (unP B [], true) ⟨flr0 ls B, fun h => by cases h⟩ [0, 1] ⟨rfl, by decide, rfl, by simp [NT, belA, belL, tget, renA, renL, nmL], ⟨⟨rfl, rfl⟩, ⟨⟨belB_rowsA _ _ _ (pts (unP B [])), by rw [renB_rowsA]; rfl⟩, trivial⟩⟩⟩ ?_
  rintro ⟨l, more⟩ ⟨hF, hM⟩
  simp only at hF hM ⊢
  unfold c26_1
  have hlen := hF.len
  have hl1 : l.length ≤ 1000000 := by omega
  cases more with
  | false =>
    repeat' (first | refine AW.seq' ?_ | with_reducible refine AW.blockS rfl ?_ | ((first | refine AW.ops ?_ | refine AW.draw ?_ | refine AW.skip ?_ | refine AW.ret ?_ | refine AW.exit ?_) <;> simp only [RS, LS, SY, ne_eq, isFl, floatV, constA, thenQ, blockQ, pack, intA, boolA, eqA, unA, nilcA, asI, asB, asS, loadA, idxA, lenA, slcA, AV.flat, AV.one, zA1, storeA, toD, srcOf, copyA, ↓reduceIte, reduceCtorEq, List.replicate, Nat.reduceBEq, Nat.reduceAdd, Nat.reduceMul, Nat.reduceSub, Nat.reduceLeDiff, Nat.reduceLT, Int.reduceToNat, Nat.reduceEqDiff, Int.reduceEq]) | refine AW.condT rfl ?_ | refine AW.condF rfl ?_ | refine And.intro (by omega) ?_ | fail)
    refine .inr ⟨1, [], ?_, ?_⟩
    · rw [← hF.fin (hM rfl)]
    · rw [← hF.fin (hM rfl), List.append_nil]; rfl
  | true =>
    repeat' (first | refine AW.seq' ?_ | with_reducible refine AW.blockS rfl ?_ | ((first | refine AW.ops ?_ | refine AW.draw ?_ | refine AW.skip ?_ | refine AW.ret ?_ | refine AW.exit ?_) <;> simp only [RS, LS, SY, ne_eq, isFl, floatV, constA, thenQ, blockQ, pack, intA, boolA, eqA, unA, nilcA, asI, asB, asS, loadA, idxA, lenA, slcA, AV.flat, AV.one, zA1, storeA, toD, srcOf, copyA, ↓reduceIte, reduceCtorEq, List.replicate, Nat.reduceBEq, Nat.reduceAdd, Nat.reduceMul, Nat.reduceSub, Nat.reduceLeDiff, Nat.reduceLT, Int.reduceToNat, Nat.reduceEqDiff, Int.reduceEq]) | refine AW.condT rfl ?_ | refine AW.condF rfl ?_ | refine And.intro (by omega) ?_ | fail)
    refine AW.range (α := List Pt × Bool) ls.length (by omega) (by decide) (fun _ a => [(17, LN ls), (2, .ptr 0 0 0), (5, .own 1 0 a.1.length), (6, AB a.2)]) (fun _ a => [some (.cells 27 3 [[LP ps, LN ls, LG gs]]), some (.cells 29 2 (rowsA (pts a.1)))])
      (fun i a => FlR ls B a.1 ∧ (a.2 = false → a.1 = l ∧ ∀ x ∈ ls.take i, x.1 ∈ a.1 → x.2 ∈ a.1) ∧ (a.2 = true → l.length < a.1.length)) (l, false) ⟨hF, fun _ => ⟨rfl, fun x hx => by simp at hx⟩, fun h => (by cases h)⟩ [0, 1] ⟨rfl, by decide, rfl, by simp [NT, belA, belL, tget, renA, renL, nmL], ⟨⟨rfl, rfl⟩, ⟨⟨belB_rowsA _ _ _ (pts l), by rw [renB_rowsA]; rfl⟩, trivial⟩⟩⟩ (by simp) ?_ ?_
    · rintro i ⟨m, b⟩ hi ⟨hG, hb1, hb2⟩
      simp only at hG hb1 hb2 ⊢
      unfold c26_0
      have hr := getD_lns hi
      simp only [lnR] at hr
      have hml := hG.len
      have hm1 : m.length ≤ 1000000 := by omega
      repeat' (first | refine AW.seq' ?_ | with_reducible refine AW.blockS rfl ?_ | ((first | refine AW.ops ?_ | refine AW.draw ?_ | refine AW.skip ?_ | refine AW.ret ?_ | refine AW.exit ?_ |  refine rhas_own rfl (by omega) ?_ |  refine with_ok m hm1 ls[i].2 rfl ?_) <;> simp only [RS, LS, SY, ne_eq, isFl, floatV, constA, thenQ, blockQ, pack, intA, boolA, eqA, unA, nilcA, asI, asB, asS, loadA, idxA, lenA, slcA, AV.flat, AV.one, zA1, storeA, toD, srcOf, copyA, ↓reduceIte, reduceCtorEq, List.replicate, Nat.reduceBEq, Nat.reduceAdd, Nat.reduceMul, Nat.reduceSub, Nat.reduceLeDiff, Nat.reduceLT, Int.reduceToNat, Nat.reduceEqDiff, Int.reduceEq, hr]) | refine AW.condT rfl ?_ | refine AW.condF rfl ?_ | ((first | refine GI.of (fun h => ?_) (fun h => ?_) (by first | exact Classical.em _ | exact (Classical.em _).symm | grind) | refine GD.of (fun h => ?_) (fun h => ?_) (by first | exact Classical.em _ | exact (Classical.em _).symm | grind)) <;> simp only [RS, LS, SY, ne_eq, isFl, floatV, constA, thenQ, blockQ, pack, intA, boolA, eqA, unA, nilcA, asI, asB, asS, loadA, idxA, lenA, slcA, AV.flat, AV.one, zA1, storeA, toD, srcOf, copyA, ↓reduceIte, reduceCtorEq, List.replicate, Nat.reduceBEq, Nat.reduceAdd, Nat.reduceMul, Nat.reduceSub, Nat.reduceLeDiff, Nat.reduceLT, Int.reduceToNat, Nat.reduceEqDiff, Int.reduceEq, hr, h]) | (refine AW.condP rfl (fun h => ?_) (fun h => ?_) <;> try simp only [Bool.and_eq_true, decide_eq_true_eq, Bool.not_eq_true', decide_eq_false_iff_not, Bool.not_eq_false', Bool.not_eq_true, Bool.not_eq_false] at h) | refine And.intro (by omega) ?_ | fail)
      · have h1 : ls[i].1 ∈ m := by simpa [hasP] using ‹hasP m ls[i].fst = true›
        have h2 : ls[i].2 ∉ m := by simpa [hasP] using h
        have h3 := withP_len1 hG.asc h2
        have h4 : l.length ≤ m.length := by
          cases b with
          | true => have := hb2 rfl; omega
          | false => rw [(hb1 rfl).1]; exact Nat.le_refl _
        exact ⟨(withP m ls[i].2, true), [0, 3], ⟨hG.add (List.getElem_mem hi) h1, fun h => (by cases h), fun _ => (by simp only; omega)⟩, rfl, by decide, rfl, by simp [NT, belA, belL, tget, renA, renL, nmL], ⟨⟨rfl, rfl⟩, ⟨⟨belB_rowsA _ _ _ (pts (withP m ls[i].2)), by rw [renB_rowsA]; rfl⟩, trivial⟩⟩⟩
      · have h2 : ls[i].2 ∈ m := by simpa [hasP] using h
        refine ⟨(m, b), [0, 1], ⟨hG, fun hb => ⟨(hb1 hb).1, fun x hx hx1 => ?_⟩, hb2⟩, rfl, by decide, rfl, by simp [NT, belA, belL, tget, renA, renL, nmL], ⟨⟨rfl, rfl⟩, ⟨⟨belB_rowsA _ _ _ (pts m), by rw [renB_rowsA]; rfl⟩, trivial⟩⟩⟩
        rcases (mem_take_succ hi).1 hx with hx | rfl
        · exact (hb1 hb).2 x hx hx1
        · exact h2
      · have h1 : ls[i].1 ∉ m := by simpa [hasP] using h
        refine ⟨(m, b), [0, 1], ⟨hG, fun hb => ⟨(hb1 hb).1, fun x hx hx1 => ?_⟩, hb2⟩, rfl, by decide, rfl, by simp [NT, belA, belL, tget, renA, renL, nmL], ⟨⟨rfl, rfl⟩, ⟨⟨belB_rowsA _ _ _ (pts m), by rw [renB_rowsA]; rfl⟩, trivial⟩⟩⟩
        rcases (mem_take_succ hi).1 hx with hx | rfl
        · exact (hb1 hb).2 x hx hx1
        · exact absurd hx1 h1
    · rintro ⟨m, b⟩ ⟨hG, hb1, hb2⟩
      simp only [RS, LS, SY, ne_eq, isFl, floatV, constA, thenQ, blockQ, pack, intA, boolA, eqA, unA, nilcA, asI, asB, asS, loadA, idxA, lenA, slcA, AV.flat, AV.one, zA1, storeA, toD, srcOf, copyA, ↓reduceIte, reduceCtorEq, List.replicate, Nat.reduceBEq, Nat.reduceAdd, Nat.reduceMul, Nat.reduceSub, Nat.reduceLeDiff, Nat.reduceLT, Int.reduceToNat, Nat.reduceEqDiff, Int.reduceEq]
      refine ⟨(m, b), [0, 1], ⟨hG, fun h => ?_⟩, ?_, rfl, by decide, rfl, by simp [NT, belA, belL, tget, tset, renA, renL, nmL], ⟨⟨rfl, rfl⟩, ⟨⟨belB_rowsA _ _ _ (pts m), by rw [renB_rowsA]; rfl⟩, trivial⟩⟩⟩
      · have := (hb1 h).2
        rwa [List.take_length] at this
      · have := hG.len
        cases b with
        | true =>
          have hb := hb2 rfl
          simp only at hb this
          simp; omega
        | false =>
          have hb := (hb1 rfl).1
          simp only at hb
          subst hb; simp
theorem rfalls_ok (ps : List Pt) (ls : List Ln) (gs : List Gr) (hp : ps.length ≤ 1000000) (hl : ls.length ≤ 1000000) (hg : gs.length ≤ 1000000) (hgl : ∀ g ∈ gs, g.2.length ≤ 1000000) (B : List Pt) (hB : B.length ≤ 100000) : Fn Try.prog 26 [ADs ps ls (grs gs), LP B] (LP (fallsP ps ls gs B)) := by
  have hck := rcheck_ok ps ls gs hp hl hg hgl
  by_cases hB0 : B = []
  · subst hB0
    have e : fallsP ps ls gs [] = [] := by
      unfold fallsP
      rw [fallP_nil, unP_nil]; split <;> rfl
    rw [e]
    refine Fn.of fn26 (by simp) rfl ?_
    unfold c26
    have hu := runion_ok [] [] (by simp) (by simp)
    rw [unP_nil] at hu
    by_cases hc : checkP ps ls gs = 0
    · rw [hc] at hck
      repeat' (first | refine AW.seq' ?_ | with_reducible refine AW.blockS rfl ?_ | ((first | refine AW.ops ?_ | refine AW.draw ?_ | refine AW.skip ?_ | refine AW.ret ?_ | refine AW.exit ?_ | refine Fn.call (hck) rfl rfl ?_ |  refine Fn.callW hu (.cons (.same _) (.cons (.nil _ _) .nil)) rfl rfl ?_) <;> simp only [RS, LS, SY, ne_eq, isFl, floatV, constA, thenQ, blockQ, pack, intA, boolA, eqA, unA, nilcA, asI, asB, asS, loadA, idxA, lenA, slcA, AV.flat, AV.one, zA1, storeA, toD, srcOf, copyA, ↓reduceIte, reduceCtorEq, List.replicate, Nat.reduceBEq, Nat.reduceAdd, Nat.reduceMul, Nat.reduceSub, Nat.reduceLeDiff, Nat.reduceLT, Int.reduceToNat, Nat.reduceEqDiff, Int.reduceEq]) | refine AW.condT rfl ?_ | refine AW.condF rfl ?_ | refine And.intro (by omega) ?_ | fail)
      refine AW.block ?_
      refine AW.loopA (α := Bool) (fun a => if a then 1 else 0) (fun a => [(2, .ptr 0 0 0), (5, LP []), (6, AB a)]) (fun a => [some (.cells 27 3 [[LP ps, LN ls, LG gs]])]) (fun a => True) true trivial [0] ⟨rfl, by decide, rfl, by simp [NT, belA, belL, tget, renA, renL, nmL], ⟨⟨rfl, rfl⟩, trivial⟩⟩ ?_
      intro more _
      unfold c26_1
      cases more with
      | false => repeat' (first | refine AW.seq' ?_ | with_reducible refine AW.blockS rfl ?_ | ((first | refine AW.ops ?_ | refine AW.draw ?_ | refine AW.skip ?_ | refine AW.ret ?_ | refine AW.exit ?_) <;> simp only [RS, LS, SY, ne_eq, isFl, floatV, constA, thenQ, blockQ, pack, intA, boolA, eqA, unA, nilcA, asI, asB, asS, loadA, idxA, lenA, slcA, AV.flat, AV.one, zA1, storeA, toD, srcOf, copyA, ↓reduceIte, reduceCtorEq, List.replicate, Nat.reduceBEq, Nat.reduceAdd, Nat.reduceMul, Nat.reduceSub, Nat.reduceLeDiff, Nat.reduceLT, Int.reduceToNat, Nat.reduceEqDiff, Int.reduceEq]) | refine AW.condT rfl ?_ | refine AW.condF rfl ?_ | refine And.intro (by omega) ?_ | fail)
      | true =>
        repeat' (first | refine AW.seq' ?_ | with_reducible refine AW.blockS rfl ?_ | ((first | refine AW.ops ?_ | refine AW.draw ?_ | refine AW.skip ?_ | refine AW.ret ?_ | refine AW.exit ?_) <;> simp only [RS, LS, SY, ne_eq, isFl, floatV, constA, thenQ, blockQ, pack, intA, boolA, eqA, unA, nilcA, asI, asB, asS, loadA, idxA, lenA, slcA, AV.flat, AV.one, zA1, storeA, toD, srcOf, copyA, ↓reduceIte, reduceCtorEq, List.replicate, Nat.reduceBEq, Nat.reduceAdd, Nat.reduceMul, Nat.reduceSub, Nat.reduceLeDiff, Nat.reduceLT, Int.reduceToNat, Nat.reduceEqDiff, Int.reduceEq]) | refine AW.condT rfl ?_ | refine AW.condF rfl ?_ | refine And.intro (by omega) ?_ | fail)
        refine AW.range (α := Unit) ls.length (by omega) (by decide) (fun _ a => [(17, LN ls), (2, .ptr 0 0 0), (5, LP []), (6, AB false)]) (fun _ a => [some (.cells 27 3 [[LP ps, LN ls, LG gs]])]) (fun i a => True) () trivial [0] ⟨rfl, by decide, rfl, by simp [NT, belA, belL, tget, renA, renL, nmL], ⟨⟨rfl, rfl⟩, trivial⟩⟩ (by simp) ?_ ?_
        · intro i _ hi _
          unfold c26_0
          have hr := getD_lns hi
          simp only [lnR] at hr
          have hh : ∀ p, hasP [] p = false := fun p => by simp [hasP]
          repeat' (first | refine AW.seq' ?_ | with_reducible refine AW.blockS rfl ?_ | ((first | refine AW.ops ?_ | refine AW.draw ?_ | refine AW.skip ?_ | refine AW.ret ?_ | refine AW.exit ?_ | refine Fn.call (rhas_ok [] (by simp) _) rfl rfl ?_) <;> simp only [RS, LS, SY, ne_eq, isFl, floatV, constA, thenQ, blockQ, pack, intA, boolA, eqA, unA, nilcA, asI, asB, asS, loadA, idxA, lenA, slcA, AV.flat, AV.one, zA1, storeA, toD, srcOf, copyA, ↓reduceIte, reduceCtorEq, List.replicate, Nat.reduceBEq, Nat.reduceAdd, Nat.reduceMul, Nat.reduceSub, Nat.reduceLeDiff, Nat.reduceLT, Int.reduceToNat, Nat.reduceEqDiff, Int.reduceEq, hr, hh]) | refine AW.condT rfl ?_ | refine AW.condF rfl ?_ | refine And.intro (by omega) ?_ | fail)
          exact ⟨(), [0], rfl, by decide, rfl, by simp [NT, belA, belL, tget, renA, renL, nmL], ⟨⟨rfl, rfl⟩, trivial⟩⟩
        · intro _ _
          simp only [RS, LS, SY, ne_eq, isFl, floatV, constA, thenQ, blockQ, pack, intA, boolA, eqA, unA, nilcA, asI, asB, asS, loadA, idxA, lenA, slcA, AV.flat, AV.one, zA1, storeA, toD, srcOf, copyA, ↓reduceIte, reduceCtorEq, List.replicate, Nat.reduceBEq, Nat.reduceAdd, Nat.reduceMul, Nat.reduceSub, Nat.reduceLeDiff, Nat.reduceLT, Int.reduceToNat, Nat.reduceEqDiff, Int.reduceEq]
          refine ⟨false, [0], by simp, rfl, by decide, rfl, by simp [NT, belA, belL, tget, tset, renA, renL, nmL], ⟨⟨rfl, rfl⟩, trivial⟩⟩
    · repeat' (first | refine AW.seq' ?_ | with_reducible refine AW.blockS rfl ?_ | ((first | refine AW.ops ?_ | refine AW.draw ?_ | refine AW.skip ?_ | refine AW.ret ?_ | refine AW.exit ?_ | refine Fn.call (hck) rfl rfl ?_ |  refine Fn.callW hu (.cons (.same _) (.cons (.nil _ _) .nil)) rfl rfl ?_) <;> simp only [RS, LS, SY, ne_eq, isFl, floatV, constA, thenQ, blockQ, pack, intA, boolA, eqA, unA, nilcA, asI, asB, asS, loadA, idxA, lenA, slcA, AV.flat, AV.one, zA1, storeA, toD, srcOf, copyA, ↓reduceIte, reduceCtorEq, List.replicate, Nat.reduceBEq, Nat.reduceAdd, Nat.reduceMul, Nat.reduceSub, Nat.reduceLeDiff, Nat.reduceLT, Int.reduceToNat, Nat.reduceEqDiff, Int.reduceEq, hc]) | refine AW.condT rfl ?_ | refine AW.condF rfl ?_ | refine And.intro (by omega) ?_ | fail)
  · by_cases hc : checkP ps ls gs = 0
    · rw [fallsP, if_pos hc]
      exact IsO.fn (rfalls0_ok ps ls gs hp hl hg hgl B hB hB0 hc)
    · rw [fallsP, if_neg hc]
      refine Fn.of fn26 (by simp) rfl ?_
      unfold c26
      repeat' (first | refine AW.seq' ?_ | with_reducible refine AW.blockS rfl ?_ | ((first | refine AW.ops ?_ | refine AW.draw ?_ | refine AW.skip ?_ | refine AW.ret ?_ | refine AW.exit ?_ | refine Fn.call (hck) rfl rfl ?_ |  refine Fn.callW (runion_ok B [] hB (by simp)) (.cons (.same _) (.cons (.nil _ _) .nil)) rfl rfl ?_) <;> simp only [RS, LS, SY, ne_eq, isFl, floatV, constA, thenQ, blockQ, pack, intA, boolA, eqA, unA, nilcA, asI, asB, asS, loadA, idxA, lenA, slcA, AV.flat, AV.one, zA1, storeA, toD, srcOf, copyA, ↓reduceIte, reduceCtorEq, List.replicate, Nat.reduceBEq, Nat.reduceAdd, Nat.reduceMul, Nat.reduceSub, Nat.reduceLeDiff, Nat.reduceLT, Int.reduceToNat, Nat.reduceEqDiff, Int.reduceEq, hc]) | refine AW.condT rfl ?_ | refine AW.condF rfl ?_ | refine And.intro (by omega) ?_ | fail)
end Go.Proofs.Ytkgeadhnagnloaa.H
