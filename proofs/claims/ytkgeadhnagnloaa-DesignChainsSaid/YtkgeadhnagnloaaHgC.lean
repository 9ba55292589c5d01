/- Chapter 26: the law of chains. -/
import Derived.Test.YtkgeadhnagnloaaHgA
set_option linter.unusedSimpArgs false
set_option linter.unusedVariables false
namespace Go.Proofs.Ytkgeadhnagnloaa.H
theorem chn_nodup {ls : List Ln} {t p : Pt} {n : Nat} (h : Dst ls t p n) : (chnP ls t n p).Nodup := by
  rw [List.nodup_iff_pairwise_ne, List.pairwise_iff_getElem]
  intro i j hi hj hij e
  have h1 := chnP_dst h i hi
  have h2 := chnP_dst h j hj
  rw [e] at h1
  have := h1.uniq h2
  rw [chnP_len] at hi hj
  omega
theorem un_len {l : List Pt} (h : l.Nodup) : (unP l []).length = l.length := by
  have h1 := nodup_len h (m := unP l []) fun x hx => by simpa [mem_unP] using hx
  have h2 := unP_len l []
  simp only [List.length_nil] at h2
  omega
theorem chn_first {ls : List Ln} {t p : Pt} {n : Nat} : ∃ h : 0 < (chnP ls t n p).length, (chnP ls t n p)[0] = p := by
  have h := chnP_head ls t n p
  have hl : 0 < (chnP ls t n p).length := by rw [chnP_len]; omega
  refine ⟨hl, ?_⟩
  rw [List.head?_eq_getElem?, List.getElem?_eq_getElem hl] at h
  simpa using h
theorem chn_last {ls : List Ln} {t p : Pt} {n : Nat} (h : Dst ls t p n) : ∃ hl : n < (chnP ls t n p).length, (chnP ls t n p)[n] = t := by
  have hl : n < (chnP ls t n p).length := by rw [chnP_len]; omega
  refine ⟨hl, ?_⟩
  have := (chnP_dst h n hl).1
  rw [Nat.sub_self] at this
  exact this.zero
theorem chn_prov {ps : List Pt} {ls : List Ln} {gs : List Gr} (hc : checkP ps ls gs = 0) {t p : Pt} {n : Nat} (hp : p ∈ ps) (h : Dst ls t p n) : provP ps ls gs (chnP ls t n p) = true := by
  obtain ⟨h1, h2⟩ := chn_first (ls := ls) (t := t) (p := p) (n := n)
  rw [provP, hasH_pos h1, h2, hc, show hasP ps p = true from decide_eq_true hp, lkB, ascB_iff.2 fun i hi => decide_eq_true (chnP_link h i hi)]
  rfl
theorem nxt_cha {ps : List Pt} {ls : List Ln} {gs : List Gr} (hc : checkP ps ls gs = 0) {p q : Pt} (hp : p ∈ ps) (hq : q ∈ ps) : (chaP ps ls gs p q = ([], false) ∧ hasP (fallP ls [p]) q = false) ∨
    ∃ c n, chaP ps ls gs p q = (c, true) ∧ hasP (fallP ls [p]) q = true ∧ c.length = n + 1 ∧ (∃ h : 0 < c.length, c[0] = p) ∧ (∃ h : n < c.length, c[n] = q) ∧ provP ps ls gs c = true ∧ (unP c []).length = c.length ∧ n < ps.length := by
  cases hd : dstP ls q p with
  | none =>
    left
    refine ⟨by rw [chaP, if_pos ⟨hc, hp, hq⟩, hd], decide_eq_false fun h => ?_⟩
    obtain ⟨n, hw⟩ := way_rch.2 (mem_fallP.1 h)
    exact dstP_none.1 hd n hw
  | some n =>
    right
    have hD := dstP_some.1 hd
    exact ⟨chnP ls q n p, n, by rw [chaP, if_pos ⟨hc, hp, hq⟩, hd], decide_eq_true (mem_fallP.2 (way_rch.1 ⟨n, hD.1⟩)), chnP_len .., chn_first, chn_last hD, chn_prov hc hp hD, un_len (chn_nodup hD), dst_lt hp (fun x hx => (check_link hc hx).2) hD⟩
set_option maxRecDepth 100000 in
set_option maxHeartbeats 8000000 in
theorem law6_ok (t : List Int) : ACalls Try.prog 6 [LI t] [] fun v _ => v = AB true := by
  refine ACalls.of fn6 (by simp) ?_
  unfold c6
  have hL : (t.take 600).length ≤ 600 := by rw [List.length_take]; omega
  repeat' (first | refine AW.seq' ?_ | with_reducible refine AW.blockS rfl ?_ | ((first | refine AW.ops ?_ | refine AW.draw ?_ | refine AW.skip ?_ | refine AW.ret ?_ | refine AW.exit ?_ | refine Fn.call (sane_ok) rfl rfl ?_ |  refine new_call t ?_ |  (refine SFn.call (design_ok hL 7 (by omega)) rfl rfl (by omega) (fun v p hp hv hb => ?_); obtain ⟨ps, ls, gs, rfl, hc, h1, h2, h3, h4⟩ := hv)) <;> simp only [RS, LS, SY, ne_eq, isFl, floatV, constA, thenQ, blockQ, pack, intA, boolA, eqA, unA, nilcA, asI, asB, asS, loadA, idxA, lenA, slcA, AV.flat, AV.one, zA1, storeA, toD, srcOf, copyA, ↓reduceIte, reduceCtorEq, List.replicate, Nat.reduceBEq, Nat.reduceAdd, Nat.reduceMul, Nat.reduceSub, Nat.reduceLeDiff, Nat.reduceLT, Int.reduceToNat, Nat.reduceEqDiff, Int.reduceEq]) | refine AW.condT rfl ?_ | refine AW.condF rfl ?_ | ((first | refine GI.of (fun h => ?_) (fun h => ?_) (by first | exact Classical.em _ | exact (Classical.em _).symm | grind) | refine GD.of (fun h => ?_) (fun h => ?_) (by first | exact Classical.em _ | exact (Classical.em _).symm | grind)) <;> simp only [RS, LS, SY, ne_eq, isFl, floatV, constA, thenQ, blockQ, pack, intA, boolA, eqA, unA, nilcA, asI, asB, asS, loadA, idxA, lenA, slcA, AV.flat, AV.one, zA1, storeA, toD, srcOf, copyA, ↓reduceIte, reduceCtorEq, List.replicate, Nat.reduceBEq, Nat.reduceAdd, Nat.reduceMul, Nat.reduceSub, Nat.reduceLeDiff, Nat.reduceLT, Int.reduceToNat, Nat.reduceEqDiff, Int.reduceEq, h]) | (refine AW.condP rfl (fun h => ?_) (fun h => ?_) <;> try simp only [Bool.and_eq_true, decide_eq_true_eq, Bool.not_eq_true', decide_eq_false_iff_not, Bool.not_eq_false', Bool.not_eq_true, Bool.not_eq_false] at h) | refine And.intro (by omega) ?_ | fail)
  have hgl : ∀ g ∈ gs, g.2.length ≤ 1000000 := fun g hg => Nat.le_trans (h4 g hg) (by omega)
  have hF := fun B hB => falls_ok ps ls gs (by omega) (by omega) (by omega) hgl B hB
  simp only [fallsP, if_pos hc] at hF
  refine AW.range (α := Unit) ps.length (by omega) (by decide) (fun _ _ => [(21, LP ps), (4, .ptr 0 0 0)]) (fun _ _ => [BX ps ls gs]) (fun _ _ => True) () trivial [1] ⟨rfl, by decide, rfl, by simp [NT, belA, belL, tget, renA, renL, nmL], ⟨⟨rfl, rfl⟩, trivial⟩⟩ (by simp) ?_ ?_
  · intro i _ hi _
    unfold c6_1
    have hFp := hF [ps[i]] (by simp)
    have hfl := fallP_len ls [ps[i]]
    rw [List.length_singleton] at hfl
    have hpi := List.getElem_mem hi
    have hgd := getD_map_lt (f := ptR) (d := []) hi
    generalize ps[i] = p at hpi hFp hfl hgd
    repeat' (first | refine AW.seq' ?_ | with_reducible refine AW.blockS rfl ?_ | ((first | refine AW.ops ?_ | refine AW.draw ?_ | refine AW.skip ?_ | refine AW.ret ?_ | refine AW.exit ?_ |  refine Fn.callW hFp (.cons (.same _) (.cons (.ful _ _) .nil)) rfl rfl ?_) <;> simp only [RS, LS, SY, ne_eq, isFl, floatV, constA, thenQ, blockQ, pack, intA, boolA, eqA, unA, nilcA, asI, asB, asS, loadA, idxA, lenA, slcA, AV.flat, AV.one, zA1, storeA, toD, srcOf, copyA, ↓reduceIte, reduceCtorEq, List.replicate, Nat.reduceBEq, Nat.reduceAdd, Nat.reduceMul, Nat.reduceSub, Nat.reduceLeDiff, Nat.reduceLT, Int.reduceToNat, Nat.reduceEqDiff, Int.reduceEq, hgd]) | refine AW.condT rfl ?_ | refine AW.condF rfl ?_ | ((first | refine GI.of (fun h => ?_) (fun h => ?_) (by first | exact Classical.em _ | exact (Classical.em _).symm | grind) | refine GD.of (fun h => ?_) (fun h => ?_) (by first | exact Classical.em _ | exact (Classical.em _).symm | grind)) <;> simp only [RS, LS, SY, ne_eq, isFl, floatV, constA, thenQ, blockQ, pack, intA, boolA, eqA, unA, nilcA, asI, asB, asS, loadA, idxA, lenA, slcA, AV.flat, AV.one, zA1, storeA, toD, srcOf, copyA, ↓reduceIte, reduceCtorEq, List.replicate, Nat.reduceBEq, Nat.reduceAdd, Nat.reduceMul, Nat.reduceSub, Nat.reduceLeDiff, Nat.reduceLT, Int.reduceToNat, Nat.reduceEqDiff, Int.reduceEq, hgd, h]) | (refine AW.condP rfl (fun h => ?_) (fun h => ?_) <;> try simp only [Bool.and_eq_true, decide_eq_true_eq, Bool.not_eq_true', decide_eq_false_iff_not, Bool.not_eq_false', Bool.not_eq_true, Bool.not_eq_false] at h) | refine And.intro (by omega) ?_ | fail)
    refine AW.range (α := Unit) ps.length (by omega) (by decide) (fun _ _ => [(32, LP ps), (4, .ptr 0 0 0), (6, .ptr 1 0 0), (7, LP (fallP ls [p])), (23, AI .i64 i), (22, AI .i64 ps.length), (21, LP ps)]) (fun _ _ => [BX ps ls gs, some (.cells 29 2 [[AI .i64 p.1, AI .i64 p.2]])]) (fun _ _ => True) () trivial [0, 1] ⟨rfl, by decide, rfl, by simp [NT, belA, belL, tget, renA, renL, nmL], ⟨⟨rfl, rfl⟩, ⟨⟨rfl, rfl⟩, trivial⟩⟩⟩ (by simp) ?_ ?_
    · intro j _ hj _
      unfold c6_0
      have hqj := List.getElem_mem hj
      have hgq := getD_map_lt (f := ptR) (d := []) hj
      generalize ps[j] = q at hqj hgq
      have hcha := chain_ok ps ls gs (by omega) (by omega) (by omega) hgl p q
      have hha := has_ok (fallP ls [p]) (by omega) q
      rcases nxt_cha hc hpi hqj with ⟨e1, e2⟩ | ⟨c, n, e1, e2, e3, ⟨e4, e5⟩, ⟨e6, e7⟩, e8, e9, e10⟩
      · rw [e1] at hcha
        rw [e2] at hha
        repeat' (first | refine AW.seq' ?_ | with_reducible refine AW.blockS rfl ?_ | ((first | refine AW.ops ?_ | refine AW.draw ?_ | refine AW.skip ?_ | refine AW.ret ?_ | refine AW.exit ?_ | refine Fn.call (hcha) rfl rfl ?_ | refine Fn.call (hha) rfl rfl ?_) <;> simp only [RS, LS, SY, ne_eq, isFl, floatV, constA, thenQ, blockQ, pack, intA, boolA, eqA, unA, nilcA, asI, asB, asS, loadA, idxA, lenA, slcA, AV.flat, AV.one, zA1, storeA, toD, srcOf, copyA, ↓reduceIte, reduceCtorEq, List.replicate, Nat.reduceBEq, Nat.reduceAdd, Nat.reduceMul, Nat.reduceSub, Nat.reduceLeDiff, Nat.reduceLT, Int.reduceToNat, Nat.reduceEqDiff, Int.reduceEq, hgq]) | refine AW.condT rfl ?_ | refine AW.condF rfl ?_ | ((first | refine GI.of (fun h => ?_) (fun h => ?_) (by first | exact Classical.em _ | exact (Classical.em _).symm | grind) | refine GD.of (fun h => ?_) (fun h => ?_) (by first | exact Classical.em _ | exact (Classical.em _).symm | grind)) <;> simp only [RS, LS, SY, ne_eq, isFl, floatV, constA, thenQ, blockQ, pack, intA, boolA, eqA, unA, nilcA, asI, asB, asS, loadA, idxA, lenA, slcA, AV.flat, AV.one, zA1, storeA, toD, srcOf, copyA, ↓reduceIte, reduceCtorEq, List.replicate, Nat.reduceBEq, Nat.reduceAdd, Nat.reduceMul, Nat.reduceSub, Nat.reduceLeDiff, Nat.reduceLT, Int.reduceToNat, Nat.reduceEqDiff, Int.reduceEq, hgq, h]) | (refine AW.condP rfl (fun h => ?_) (fun h => ?_) <;> try simp only [Bool.and_eq_true, decide_eq_true_eq, Bool.not_eq_true', decide_eq_false_iff_not, Bool.not_eq_false', Bool.not_eq_true, Bool.not_eq_false] at h) | refine And.intro (by omega) ?_ | fail)
        exact ⟨(), [0, 1], rfl, by decide, rfl, by simp [NT, belA, belL, tget, renA, renL, nmL], ⟨⟨rfl, rfl⟩, ⟨⟨rfl, rfl⟩, trivial⟩⟩⟩
      · rw [e1] at hcha
        rw [e2] at hha
        have hpr := proves_ok ps ls gs (by omega) (by omega) (by omega) hgl c (by omega)
        rw [e8] at hpr
        have hun := union_ok c [] (by omega) (by simp)
        have k0 : ¬ (c.length : Int) = 0 := by omega
        have k1 : (0 : Int) < c.length := by omega
        have k2 : ((c.length : Int) - 1).toNat = n := by omega
        have g0 : (pts c).getD 0 [] = ptR p := by rw [getD_map_lt e4, e5]
        have gn : (pts c).getD n [] = ptR q := by rw [getD_map_lt e6, e7]
        have hul : (pts (unP c [])).length = c.length := by rw [List.length_map, e9]
        repeat' (first | refine AW.seq' ?_ | with_reducible refine AW.blockS rfl ?_ | ((first | refine AW.ops ?_ | refine AW.draw ?_ | refine AW.skip ?_ | refine AW.ret ?_ | refine AW.exit ?_ | refine Fn.call (hcha) rfl rfl ?_ | refine Fn.call (hha) rfl rfl ?_ | refine Fn.call (hpr) rfl rfl ?_ |  refine Fn.callW hun (.cons (.same _) (.cons (.nil _ _) .nil)) rfl rfl ?_) <;> simp (disch := omega) only [RS, LS, SY, ne_eq, isFl, floatV, constA, thenQ, blockQ, pack, intA, boolA, eqA, unA, nilcA, asI, asB, asS, loadA, idxA, lenA, slcA, AV.flat, AV.one, zA1, storeA, toD, srcOf, copyA, ↓reduceIte, reduceCtorEq, List.replicate, Nat.reduceBEq, Nat.reduceAdd, Nat.reduceMul, Nat.reduceSub, Nat.reduceLeDiff, Nat.reduceLT, Int.reduceToNat, Nat.reduceEqDiff, Int.reduceEq, wrap_id, hgq, k0, k1, k2, g0, gn, hul, pt_eq, decide_true, Bool.not_true]) | refine AW.condT rfl ?_ | refine AW.condF rfl ?_ | ((first | refine GI.of (fun h => ?_) (fun h => ?_) (by first | exact Classical.em _ | exact (Classical.em _).symm | grind) | refine GD.of (fun h => ?_) (fun h => ?_) (by first | exact Classical.em _ | exact (Classical.em _).symm | grind)) <;> simp (disch := omega) only [RS, LS, SY, ne_eq, isFl, floatV, constA, thenQ, blockQ, pack, intA, boolA, eqA, unA, nilcA, asI, asB, asS, loadA, idxA, lenA, slcA, AV.flat, AV.one, zA1, storeA, toD, srcOf, copyA, ↓reduceIte, reduceCtorEq, List.replicate, Nat.reduceBEq, Nat.reduceAdd, Nat.reduceMul, Nat.reduceSub, Nat.reduceLeDiff, Nat.reduceLT, Int.reduceToNat, Nat.reduceEqDiff, Int.reduceEq, wrap_id, hgq, k0, k1, k2, g0, gn, hul, pt_eq, decide_true, Bool.not_true, h]) | (refine AW.condP rfl (fun h => ?_) (fun h => ?_) <;> try simp only [Bool.and_eq_true, decide_eq_true_eq, Bool.not_eq_true', decide_eq_false_iff_not, Bool.not_eq_false', Bool.not_eq_true, Bool.not_eq_false] at h) | refine And.intro (by omega) ?_ | fail)
        exact ⟨(), [0, 1], rfl, by decide, rfl, by simp [NT, belA, belL, tget, renA, renL, nmL], ⟨⟨rfl, rfl⟩, ⟨⟨rfl, rfl⟩, trivial⟩⟩⟩
    · intro _ _
      simp only [RS, LS, SY, ne_eq, isFl, floatV, constA, thenQ, blockQ, pack, intA, boolA, eqA, unA, nilcA, asI, asB, asS, loadA, idxA, lenA, slcA, AV.flat, AV.one, zA1, storeA, toD, srcOf, copyA, ↓reduceIte, reduceCtorEq, List.replicate, Nat.reduceBEq, Nat.reduceAdd, Nat.reduceMul, Nat.reduceSub, Nat.reduceLeDiff, Nat.reduceLT, Int.reduceToNat, Nat.reduceEqDiff, Int.reduceEq]
      exact ⟨(), [0], rfl, by decide, rfl, by simp [NT, belA, belL, tget, tset, renA, renL, nmL], ⟨⟨rfl, rfl⟩, trivial⟩⟩
  intro _ _
  simp only [RS, LS, SY, ne_eq, isFl, floatV, constA, thenQ, blockQ, pack, intA, boolA, eqA, unA, nilcA, asI, asB, asS, loadA, idxA, lenA, slcA, AV.flat, AV.one, zA1, storeA, toD, srcOf, copyA, ↓reduceIte, reduceCtorEq, List.replicate, Nat.reduceBEq, Nat.reduceAdd, Nat.reduceMul, Nat.reduceSub, Nat.reduceLeDiff, Nat.reduceLT, Int.reduceToNat, Nat.reduceEqDiff, Int.reduceEq]
  repeat' (first | refine AW.seq' ?_ | with_reducible refine AW.blockS rfl ?_ | ((first | refine AW.ops ?_ | refine AW.draw ?_ | refine AW.skip ?_ | refine AW.ret ?_ | refine AW.exit ?_ | refine Fn.call (sane_ok) rfl rfl ?_) <;> simp only [RS, LS, SY, ne_eq, isFl, floatV, constA, thenQ, blockQ, pack, intA, boolA, eqA, unA, nilcA, asI, asB, asS, loadA, idxA, lenA, slcA, AV.flat, AV.one, zA1, storeA, toD, srcOf, copyA, ↓reduceIte, reduceCtorEq, List.replicate, Nat.reduceBEq, Nat.reduceAdd, Nat.reduceMul, Nat.reduceSub, Nat.reduceLeDiff, Nat.reduceLT, Int.reduceToNat, Nat.reduceEqDiff, Int.reduceEq]) | refine AW.condT rfl ?_ | refine AW.condF rfl ?_ | ((first | refine GI.of (fun h => ?_) (fun h => ?_) (by first | exact Classical.em _ | exact (Classical.em _).symm | grind) | refine GD.of (fun h => ?_) (fun h => ?_) (by first | exact Classical.em _ | exact (Classical.em _).symm | grind)) <;> simp only [RS, LS, SY, ne_eq, isFl, floatV, constA, thenQ, blockQ, pack, intA, boolA, eqA, unA, nilcA, asI, asB, asS, loadA, idxA, lenA, slcA, AV.flat, AV.one, zA1, storeA, toD, srcOf, copyA, ↓reduceIte, reduceCtorEq, List.replicate, Nat.reduceBEq, Nat.reduceAdd, Nat.reduceMul, Nat.reduceSub, Nat.reduceLeDiff, Nat.reduceLT, Int.reduceToNat, Nat.reduceEqDiff, Int.reduceEq, h]) | (refine AW.condP rfl (fun h => ?_) (fun h => ?_) <;> try simp only [Bool.and_eq_true, decide_eq_true_eq, Bool.not_eq_true', decide_eq_false_iff_not, Bool.not_eq_false', Bool.not_eq_true, Bool.not_eq_false] at h) | refine And.intro (by omega) ?_ | fail)
end Go.Proofs.Ytkgeadhnagnloaa.H
