/- Chapter 26: the laws of growing and of designs without links. -/
import Derived.Test.YtkgeadhnagnloaaHgA
set_option linter.unusedSimpArgs false
set_option linter.unusedVariables false
namespace Go.Proofs.Ytkgeadhnagnloaa.H
theorem rch_un {ls : List Ln} {a b : List Pt} {q : Pt} : Rch ls (unP a b) q ↔ Rch ls a q ∨ Rch ls b q := by
  constructor
  · intro h
    induction h with
    | base h =>
      rw [mem_unP] at h
      exact h.imp .base .base
    | step hx _ ih => exact ih.imp (.step hx) (.step hx)
  · rintro (h | h)
    · exact Rch.trans (fun p hp => .base (mem_unP.2 (.inl hp))) h
    · exact Rch.trans (fun p hp => .base (mem_unP.2 (.inr hp))) h
theorem fall_un (ls : List Ln) (a b : List Pt) : fallP ls (unP a b) = unP (fallP ls a) (fallP ls b) :=
  asc_uniq (asc_fallP _ _) (asc_unP _ _) fun x => by rw [mem_fallP, mem_unP, mem_fallP, mem_fallP, rch_un]
set_option maxHeartbeats 8000000 in
theorem law5_ok (t : List Int) : ACalls Try.prog 5 [LI t] [] fun v _ => v = AB true := by
  refine ACalls.of fn5 (by simp) ?_
  unfold c5
  have hL : (t.take 600).length ≤ 600 := by rw [List.length_take]; omega
  repeat' (first | refine AW.seq' ?_ | with_reducible refine AW.blockS rfl ?_ | ((first | refine AW.ops ?_ | refine AW.draw ?_ | refine AW.skip ?_ | refine AW.ret ?_ | refine AW.exit ?_ | refine Fn.call (sane_ok) rfl rfl ?_ |  refine new_call t ?_ |  (refine SFn.call (design_ok hL 8 (by omega)) rfl rfl (by omega) (fun v p hp hv hb => ?_); obtain ⟨ps, ls, gs, rfl, hc, h1, h2, h3, h4⟩ := hv; have hF := fun B hB => falls_ok ps ls gs (by omega) (by omega) (by omega) (fun g hg => Nat.le_trans (h4 g hg) (by omega)) B hB; simp only [fallsP, if_pos hc] at hF)) <;> simp only [RS, LS, SY, ne_eq, isFl, floatV, constA, thenQ, blockQ, pack, intA, boolA, eqA, unA, nilcA, asI, asB, asS, loadA, idxA, lenA, slcA, AV.flat, AV.one, zA1, storeA, toD, srcOf, copyA, ↓reduceIte, reduceCtorEq, List.replicate, Nat.reduceBEq, Nat.reduceAdd, Nat.reduceMul, Nat.reduceSub, Nat.reduceLeDiff, Nat.reduceLT, Int.reduceToNat, Nat.reduceEqDiff, Int.reduceEq]) | refine AW.condT rfl ?_ | refine AW.condF rfl ?_ | ((first | refine GI.of (fun h => ?_) (fun h => ?_) (by first | exact Classical.em _ | exact (Classical.em _).symm | grind) | refine GD.of (fun h => ?_) (fun h => ?_) (by first | exact Classical.em _ | exact (Classical.em _).symm | grind)) <;> simp only [RS, LS, SY, ne_eq, isFl, floatV, constA, thenQ, blockQ, pack, intA, boolA, eqA, unA, nilcA, asI, asB, asS, loadA, idxA, lenA, slcA, AV.flat, AV.one, zA1, storeA, toD, srcOf, copyA, ↓reduceIte, reduceCtorEq, List.replicate, Nat.reduceBEq, Nat.reduceAdd, Nat.reduceMul, Nat.reduceSub, Nat.reduceLeDiff, Nat.reduceLT, Int.reduceToNat, Nat.reduceEqDiff, Int.reduceEq, h]) | (refine AW.condP rfl (fun h => ?_) (fun h => ?_) <;> try simp only [Bool.and_eq_true, decide_eq_true_eq, Bool.not_eq_true', decide_eq_false_iff_not, Bool.not_eq_false', Bool.not_eq_true, Bool.not_eq_false] at h) | refine And.intro (by omega) ?_ | fail)
  have hP := parts_ok hL 3 (by omega)
  refine SFn.call hP.frozen rfl rfl (by assumption) (fun v p hp hv hb => ?_)
  obtain ⟨_, ⟨a, rfl, ha3, hav⟩, rfl⟩ := hv
  simp only [RS, LS, SY, ne_eq, isFl, floatV, constA, thenQ, blockQ, pack, intA, boolA, eqA, unA, nilcA, asI, asB, asS, loadA, idxA, lenA, slcA, AV.flat, AV.one, zA1, storeA, toD, srcOf, copyA, ↓reduceIte, reduceCtorEq, List.replicate, Nat.reduceBEq, Nat.reduceAdd, Nat.reduceMul, Nat.reduceSub, Nat.reduceLeDiff, Nat.reduceLT, Int.reduceToNat, Nat.reduceEqDiff, Int.reduceEq]
  refine SFn.call hP.frozen rfl rfl (by assumption) (fun v p hp hv hb => ?_)
  obtain ⟨_, ⟨b, rfl, hb3, hbv⟩, rfl⟩ := hv
  simp only [RS, LS, SY, ne_eq, isFl, floatV, constA, thenQ, blockQ, pack, intA, boolA, eqA, unA, nilcA, asI, asB, asS, loadA, idxA, lenA, slcA, AV.flat, AV.one, zA1, storeA, toD, srcOf, copyA, ↓reduceIte, reduceCtorEq, List.replicate, Nat.reduceBEq, Nat.reduceAdd, Nat.reduceMul, Nat.reduceSub, Nat.reduceLeDiff, Nat.reduceLT, Int.reduceToNat, Nat.reduceEqDiff, Int.reduceEq]
  have hFa := hF a (by omega)
  have hFb := hF b (by omega)
  have la := fallP_len ls a
  have lb := fallP_len ls b
  have hu := union_ok a b (by omega) (by omega)
  have lu := unP_len a b
  have hFu := hF (unP a b) (by omega)
  rw [fall_un] at hFu
  have hux := union_ok (fallP ls a) (fallP ls b) (by omega) (by omega)
  have luu := unP_len (fallP ls a) (fallP ls b)
  have hsm := rsame_ok (unP (fallP ls a) (fallP ls b)) (unP (fallP ls a) (fallP ls b)) (by omega) (by omega)
  rw [decide_eq_true rfl] at hsm
  repeat' (first | refine AW.seq' ?_ | with_reducible refine AW.blockS rfl ?_ | ((first | refine AW.ops ?_ | refine AW.draw ?_ | refine AW.skip ?_ | refine AW.ret ?_ | refine AW.exit ?_ | refine Fn.call (hFa) rfl rfl ?_ | refine Fn.call (hFb) rfl rfl ?_ | refine Fn.call (hu) rfl rfl ?_ | refine Fn.call (hFu) rfl rfl ?_ | refine Fn.call (hux) rfl rfl ?_ | refine Fn.call (hsm) rfl rfl ?_ | refine Fn.call (sane_ok) rfl rfl ?_) <;> simp only [RS, LS, SY, ne_eq, isFl, floatV, constA, thenQ, blockQ, pack, intA, boolA, eqA, unA, nilcA, asI, asB, asS, loadA, idxA, lenA, slcA, AV.flat, AV.one, zA1, storeA, toD, srcOf, copyA, ↓reduceIte, reduceCtorEq, List.replicate, Nat.reduceBEq, Nat.reduceAdd, Nat.reduceMul, Nat.reduceSub, Nat.reduceLeDiff, Nat.reduceLT, Int.reduceToNat, Nat.reduceEqDiff, Int.reduceEq]) | refine AW.condT rfl ?_ | refine AW.condF rfl ?_ | ((first | refine GI.of (fun h => ?_) (fun h => ?_) (by first | exact Classical.em _ | exact (Classical.em _).symm | grind) | refine GD.of (fun h => ?_) (fun h => ?_) (by first | exact Classical.em _ | exact (Classical.em _).symm | grind)) <;> simp only [RS, LS, SY, ne_eq, isFl, floatV, constA, thenQ, blockQ, pack, intA, boolA, eqA, unA, nilcA, asI, asB, asS, loadA, idxA, lenA, slcA, AV.flat, AV.one, zA1, storeA, toD, srcOf, copyA, ↓reduceIte, reduceCtorEq, List.replicate, Nat.reduceBEq, Nat.reduceAdd, Nat.reduceMul, Nat.reduceSub, Nat.reduceLeDiff, Nat.reduceLT, Int.reduceToNat, Nat.reduceEqDiff, Int.reduceEq, h]) | (refine AW.condP rfl (fun h => ?_) (fun h => ?_) <;> try simp only [Bool.and_eq_true, decide_eq_true_eq, Bool.not_eq_true', decide_eq_false_iff_not, Bool.not_eq_false', Bool.not_eq_true, Bool.not_eq_false] at h) | refine And.intro (by omega) ?_ | fail)
/-! ### Without links -/
theorem check_nolinks {ps : List Pt} {ls : List Ln} {gs : List Gr} (h : checkP ps ls gs = 0) : checkP ps [] gs = 0 := by
  obtain ⟨h1, h2, h3⟩ := check_len h
  obtain ⟨g1, g2, g3⟩ := check_zero h
  rw [checkP, if_neg (by simp only [List.length_nil]; omega), g1, g3]
  rfl
theorem fall_nolinks (B : List Pt) : fallP [] B = unP B [] :=
  (fallP_is (asc_unP _ _) fun q => ⟨fun h => .base (by simpa [mem_unP] using h), fun h => by
    cases h with
    | base h => simpa [mem_unP] using h
    | step hx _ => simp at hx⟩).symm
theorem fall_one (p : Pt) : fallP [] [p] = [p] := by rw [fall_nolinks]; rfl
theorem meet_one (p : Pt) (g : List Pt) : meetB [p] g = hasP g p := by
  rw [meetB, hasP, Bool.eq_iff_iff, List.any_eq_true]
  simp [hasP]
theorem com_nolinks {ps : List Pt} {gs : List Gr} (h : checkP ps [] gs = 0) (h2 : 2 ≤ gs.length) {p : Pt} (hp : p ∈ ps) : hasP (comP ps [] gs 0 1) p = (hasP (gs[0]'(by omega)).2 p && hasP (gs[1]'(by omega)).2 p) := by
  rw [comP, if_pos ⟨h, by omega, by omega, by omega, by omega, by omega⟩]
  rw [Int.toNat_zero, show (1 : Int).toNat = 1 from rfl, getD_gr (by omega), getD_gr (by omega), hasP, Bool.eq_iff_iff, decide_eq_true_eq, List.mem_filter, fall_one, meet_one, meet_one]
  simp [hp]
set_option maxHeartbeats 8000000 in
theorem law8_ok (t : List Int) : ACalls Try.prog 8 [LI t] [] fun v _ => v = AB true := by
  refine ACalls.of fn8 (by simp) ?_
  unfold c8
  have hL : (t.take 600).length ≤ 600 := by rw [List.length_take]; omega
  repeat' (first | refine AW.seq' ?_ | with_reducible refine AW.blockS rfl ?_ | ((first | refine AW.ops ?_ | refine AW.draw ?_ | refine AW.skip ?_ | refine AW.ret ?_ | refine AW.exit ?_ | refine Fn.call (sane_ok) rfl rfl ?_ |  refine new_call t ?_ |  (refine SFn.call (design_ok hL 8 (by omega)) rfl rfl (by omega) (fun v p hp hv hb => ?_); obtain ⟨ps, ls, gs, rfl, hc0, h1, h2, h3, h4⟩ := hv)) <;> simp only [RS, LS, SY, ne_eq, isFl, floatV, constA, thenQ, blockQ, pack, intA, boolA, eqA, unA, nilcA, asI, asB, asS, loadA, idxA, lenA, slcA, AV.flat, AV.one, zA1, storeA, toD, srcOf, copyA, ↓reduceIte, reduceCtorEq, List.replicate, Nat.reduceBEq, Nat.reduceAdd, Nat.reduceMul, Nat.reduceSub, Nat.reduceLeDiff, Nat.reduceLT, Int.reduceToNat, Nat.reduceEqDiff, Int.reduceEq]) | refine AW.condT rfl ?_ | refine AW.condF rfl ?_ | ((first | refine GI.of (fun h => ?_) (fun h => ?_) (by first | exact Classical.em _ | exact (Classical.em _).symm | grind) | refine GD.of (fun h => ?_) (fun h => ?_) (by first | exact Classical.em _ | exact (Classical.em _).symm | grind)) <;> simp only [RS, LS, SY, ne_eq, isFl, floatV, constA, thenQ, blockQ, pack, intA, boolA, eqA, unA, nilcA, asI, asB, asS, loadA, idxA, lenA, slcA, AV.flat, AV.one, zA1, storeA, toD, srcOf, copyA, ↓reduceIte, reduceCtorEq, List.replicate, Nat.reduceBEq, Nat.reduceAdd, Nat.reduceMul, Nat.reduceSub, Nat.reduceLeDiff, Nat.reduceLT, Int.reduceToNat, Nat.reduceEqDiff, Int.reduceEq, h]) | (refine AW.condP rfl (fun h => ?_) (fun h => ?_) <;> try simp only [Bool.and_eq_true, decide_eq_true_eq, Bool.not_eq_true', decide_eq_false_iff_not, Bool.not_eq_false', Bool.not_eq_true, Bool.not_eq_false] at h) | refine And.intro (by omega) ?_ | fail)
  have hc := check_nolinks hc0
  have hgl : ∀ g ∈ gs, g.2.length ≤ 1000000 := fun g hg => Nat.le_trans (h4 g hg) (by omega)
  have hF := fun B hB => falls_ok ps [] gs (by omega) (by simp) (by omega) hgl B hB
  simp only [fallsP, if_pos hc, fall_nolinks] at hF
  have hCm := common_ok ps [] gs (by omega) (by simp) (by omega) hgl 0 1
  have hW : ∀ (l : List AV), WkL (.agg [LP ps, .ful 0 [], LG gs] :: l) (ADs ps [] (grs gs) :: l) := fun l => .cons (.agg (.cons (.same _) (.cons (.nil _ _) (.cons (.same _) .nil)))) (.refl l)
  refine SFn.call (parts_ok hL 4 (by omega)).frozen rfl rfl (by assumption) (fun v p hp hv hb => ?_)
  obtain ⟨_, ⟨l, rfl, hl4, hlv⟩, rfl⟩ := hv
  simp only [RS, LS, SY, ne_eq, isFl, floatV, constA, thenQ, blockQ, pack, intA, boolA, eqA, unA, nilcA, asI, asB, asS, loadA, idxA, lenA, slcA, AV.flat, AV.one, zA1, storeA, toD, srcOf, copyA, ↓reduceIte, reduceCtorEq, List.replicate, Nat.reduceBEq, Nat.reduceAdd, Nat.reduceMul, Nat.reduceSub, Nat.reduceLeDiff, Nat.reduceLT, Int.reduceToNat, Nat.reduceEqDiff, Int.reduceEq]
  have hFl := hF l (by omega)
  have hu := union_ok l [] (by omega) (by simp)
  have lu := unP_len l []
  simp only [List.length_nil] at lu
  have hsm := rsame_ok (unP l []) (unP l []) (by omega) (by omega)
  rw [decide_eq_true rfl] at hsm
  repeat' (first | refine AW.seq' ?_ | with_reducible refine AW.blockS rfl ?_ | ((first | refine AW.ops ?_ | refine AW.draw ?_ | refine AW.skip ?_ | refine AW.ret ?_ | refine AW.exit ?_ |  refine Fn.callW hFl (hW _) rfl rfl ?_ |  refine Fn.callW hu (.cons (.same _) (.cons (.nil _ _) .nil)) rfl rfl ?_ | refine Fn.call (hsm) rfl rfl ?_ | refine Fn.call (sane_ok) rfl rfl ?_) <;> simp only [RS, LS, SY, ne_eq, isFl, floatV, constA, thenQ, blockQ, pack, intA, boolA, eqA, unA, nilcA, asI, asB, asS, loadA, idxA, lenA, slcA, AV.flat, AV.one, zA1, storeA, toD, srcOf, copyA, ↓reduceIte, reduceCtorEq, List.replicate, Nat.reduceBEq, Nat.reduceAdd, Nat.reduceMul, Nat.reduceSub, Nat.reduceLeDiff, Nat.reduceLT, Int.reduceToNat, Nat.reduceEqDiff, Int.reduceEq]) | refine AW.condT rfl ?_ | refine AW.condF rfl ?_ | ((first | refine GI.of (fun h => ?_) (fun h => ?_) (by first | exact Classical.em _ | exact (Classical.em _).symm | grind) | refine GD.of (fun h => ?_) (fun h => ?_) (by first | exact Classical.em _ | exact (Classical.em _).symm | grind)) <;> simp only [RS, LS, SY, ne_eq, isFl, floatV, constA, thenQ, blockQ, pack, intA, boolA, eqA, unA, nilcA, asI, asB, asS, loadA, idxA, lenA, slcA, AV.flat, AV.one, zA1, storeA, toD, srcOf, copyA, ↓reduceIte, reduceCtorEq, List.replicate, Nat.reduceBEq, Nat.reduceAdd, Nat.reduceMul, Nat.reduceSub, Nat.reduceLeDiff, Nat.reduceLT, Int.reduceToNat, Nat.reduceEqDiff, Int.reduceEq, h]) | (refine AW.condP rfl (fun h => ?_) (fun h => ?_) <;> try simp only [Bool.and_eq_true, decide_eq_true_eq, Bool.not_eq_true', decide_eq_false_iff_not, Bool.not_eq_false', Bool.not_eq_true, Bool.not_eq_false] at h) | refine And.intro (by omega) ?_ | fail)
  have hg2 : 2 ≤ gs.length := by omega
  have hcl := List.length_filter_le (fun p => meetB (fallP [] [p]) (gs.getD (0 : Int).toNat default).2 && meetB (fallP [] [p]) (gs.getD (1 : Int).toNat default).2) ps
  have hcl2 : (comP ps [] gs 0 1).length ≤ 8 := by
    unfold comP
    split
    · omega
    · simp
  refine AW.range (α := Unit) ps.length (by omega) (by decide) (fun _ _ => [(33, LP ps), (4, .ptr 0 0 0)]) (fun _ _ => [some (.cells 27 3 [[LP ps, .ful 0 [], LG gs]])]) (fun _ _ => True) () trivial [1] ⟨rfl, by decide, rfl, by simp [NT, belA, belL, tget, renA, renL, nmL], ⟨⟨rfl, rfl⟩, trivial⟩⟩ (by simp) ?_ ?_
  · intro i _ hi _
    unfold c8_0
    have hm := com_nolinks hc hg2 (List.getElem_mem hi)
    have h0 := has_ok (gs[0]'(by omega)).2 (Nat.le_trans (hgl _ (List.getElem_mem (by omega))) (by omega)) ps[i]
    have h1' := has_ok (gs[1]'(by omega)).2 (Nat.le_trans (hgl _ (List.getElem_mem (by omega))) (by omega)) ps[i]
    have hc1 := has_ok (comP ps [] gs 0 1) (by omega) ps[i]
    rw [hm] at hc1
    have hr0 := getD_grs (l := gs) (i := 0) (by omega)
    have hr1 := getD_grs (l := gs) (i := 1) (by omega)
    have i0 : (0 : Int) < gs.length := by omega
    have i1 : (1 : Int) < gs.length := by omega
    cases b0 : hasP (gs[0]'(by omega)).2 ps[i]
    · rw [b0] at h0 hc1
      repeat' (first | refine AW.seq' ?_ | with_reducible refine AW.blockS rfl ?_ | ((first | refine AW.ops ?_ | refine AW.draw ?_ | refine AW.skip ?_ | refine AW.ret ?_ | refine AW.exit ?_ | refine Fn.call (h0) rfl rfl ?_ | refine Fn.call (h1') rfl rfl ?_ |  refine Fn.callW hCm (hW _) rfl rfl ?_ | refine Fn.call (hc1) rfl rfl ?_) <;> simp only [RS, LS, SY, ne_eq, isFl, floatV, constA, thenQ, blockQ, pack, intA, boolA, eqA, unA, nilcA, asI, asB, asS, loadA, idxA, lenA, slcA, AV.flat, AV.one, zA1, storeA, toD, srcOf, copyA, ↓reduceIte, reduceCtorEq, List.replicate, Nat.reduceBEq, Nat.reduceAdd, Nat.reduceMul, Nat.reduceSub, Nat.reduceLeDiff, Nat.reduceLT, Int.reduceToNat, Nat.reduceEqDiff, Int.reduceEq, getD_map_lt hi, hr0, hr1, i0, i1, Bool.false_and]) | refine AW.condT rfl ?_ | refine AW.condF rfl ?_ | ((first | refine GI.of (fun h => ?_) (fun h => ?_) (by first | exact Classical.em _ | exact (Classical.em _).symm | grind) | refine GD.of (fun h => ?_) (fun h => ?_) (by first | exact Classical.em _ | exact (Classical.em _).symm | grind)) <;> simp only [RS, LS, SY, ne_eq, isFl, floatV, constA, thenQ, blockQ, pack, intA, boolA, eqA, unA, nilcA, asI, asB, asS, loadA, idxA, lenA, slcA, AV.flat, AV.one, zA1, storeA, toD, srcOf, copyA, ↓reduceIte, reduceCtorEq, List.replicate, Nat.reduceBEq, Nat.reduceAdd, Nat.reduceMul, Nat.reduceSub, Nat.reduceLeDiff, Nat.reduceLT, Int.reduceToNat, Nat.reduceEqDiff, Int.reduceEq, getD_map_lt hi, hr0, hr1, i0, i1, Bool.false_and, h]) | (refine AW.condP rfl (fun h => ?_) (fun h => ?_) <;> try simp only [Bool.and_eq_true, decide_eq_true_eq, Bool.not_eq_true', decide_eq_false_iff_not, Bool.not_eq_false', Bool.not_eq_true, Bool.not_eq_false] at h) | refine And.intro (by omega) ?_ | fail)
      exact ⟨(), [0], rfl, by decide, rfl, by simp [NT, belA, belL, tget, renA, renL, nmL], ⟨⟨rfl, rfl⟩, trivial⟩⟩
    · rw [b0, Bool.true_and] at hc1
      rw [b0] at h0
      repeat' (first | refine AW.seq' ?_ | with_reducible refine AW.blockS rfl ?_ | ((first | refine AW.ops ?_ | refine AW.draw ?_ | refine AW.skip ?_ | refine AW.ret ?_ | refine AW.exit ?_ | refine Fn.call (h0) rfl rfl ?_ | refine Fn.call (h1') rfl rfl ?_ |  refine Fn.callW hCm (hW _) rfl rfl ?_ | refine Fn.call (hc1) rfl rfl ?_) <;> simp only [RS, LS, SY, ne_eq, isFl, floatV, constA, thenQ, blockQ, pack, intA, boolA, eqA, unA, nilcA, asI, asB, asS, loadA, idxA, lenA, slcA, AV.flat, AV.one, zA1, storeA, toD, srcOf, copyA, ↓reduceIte, reduceCtorEq, List.replicate, Nat.reduceBEq, Nat.reduceAdd, Nat.reduceMul, Nat.reduceSub, Nat.reduceLeDiff, Nat.reduceLT, Int.reduceToNat, Nat.reduceEqDiff, Int.reduceEq, getD_map_lt hi, hr0, hr1, i0, i1]) | refine AW.condT rfl ?_ | refine AW.condF rfl ?_ | ((first | refine GI.of (fun h => ?_) (fun h => ?_) (by first | exact Classical.em _ | exact (Classical.em _).symm | grind) | refine GD.of (fun h => ?_) (fun h => ?_) (by first | exact Classical.em _ | exact (Classical.em _).symm | grind)) <;> simp only [RS, LS, SY, ne_eq, isFl, floatV, constA, thenQ, blockQ, pack, intA, boolA, eqA, unA, nilcA, asI, asB, asS, loadA, idxA, lenA, slcA, AV.flat, AV.one, zA1, storeA, toD, srcOf, copyA, ↓reduceIte, reduceCtorEq, List.replicate, Nat.reduceBEq, Nat.reduceAdd, Nat.reduceMul, Nat.reduceSub, Nat.reduceLeDiff, Nat.reduceLT, Int.reduceToNat, Nat.reduceEqDiff, Int.reduceEq, getD_map_lt hi, hr0, hr1, i0, i1, h]) | (refine AW.condP rfl (fun h => ?_) (fun h => ?_) <;> try simp only [Bool.and_eq_true, decide_eq_true_eq, Bool.not_eq_true', decide_eq_false_iff_not, Bool.not_eq_false', Bool.not_eq_true, Bool.not_eq_false] at h) | refine And.intro (by omega) ?_ | fail)
      exact ⟨(), [0], rfl, by decide, rfl, by simp [NT, belA, belL, tget, renA, renL, nmL], ⟨⟨rfl, rfl⟩, trivial⟩⟩
  intro _ _
  simp only [RS, LS, SY, ne_eq, isFl, floatV, constA, thenQ, blockQ, pack, intA, boolA, eqA, unA, nilcA, asI, asB, asS, loadA, idxA, lenA, slcA, AV.flat, AV.one, zA1, storeA, toD, srcOf, copyA, ↓reduceIte, reduceCtorEq, List.replicate, Nat.reduceBEq, Nat.reduceAdd, Nat.reduceMul, Nat.reduceSub, Nat.reduceLeDiff, Nat.reduceLT, Int.reduceToNat, Nat.reduceEqDiff, Int.reduceEq]
  repeat' (first | refine AW.seq' ?_ | with_reducible refine AW.blockS rfl ?_ | ((first | refine AW.ops ?_ | refine AW.draw ?_ | refine AW.skip ?_ | refine AW.ret ?_ | refine AW.exit ?_ | refine Fn.call (sane_ok) rfl rfl ?_) <;> simp only [RS, LS, SY, ne_eq, isFl, floatV, constA, thenQ, blockQ, pack, intA, boolA, eqA, unA, nilcA, asI, asB, asS, loadA, idxA, lenA, slcA, AV.flat, AV.one, zA1, storeA, toD, srcOf, copyA, ↓reduceIte, reduceCtorEq, List.replicate, Nat.reduceBEq, Nat.reduceAdd, Nat.reduceMul, Nat.reduceSub, Nat.reduceLeDiff, Nat.reduceLT, Int.reduceToNat, Nat.reduceEqDiff, Int.reduceEq]) | refine AW.condT rfl ?_ | refine AW.condF rfl ?_ | ((first | refine GI.of (fun h => ?_) (fun h => ?_) (by first | exact Classical.em _ | exact (Classical.em _).symm | grind) | refine GD.of (fun h => ?_) (fun h => ?_) (by first | exact Classical.em _ | exact (Classical.em _).symm | grind)) <;> simp only [RS, LS, SY, ne_eq, isFl, floatV, constA, thenQ, blockQ, pack, intA, boolA, eqA, unA, nilcA, asI, asB, asS, loadA, idxA, lenA, slcA, AV.flat, AV.one, zA1, storeA, toD, srcOf, copyA, ↓reduceIte, reduceCtorEq, List.replicate, Nat.reduceBEq, Nat.reduceAdd, Nat.reduceMul, Nat.reduceSub, Nat.reduceLeDiff, Nat.reduceLT, Int.reduceToNat, Nat.reduceEqDiff, Int.reduceEq, h]) | (refine AW.condP rfl (fun h => ?_) (fun h => ?_) <;> try simp only [Bool.and_eq_true, decide_eq_true_eq, Bool.not_eq_true', decide_eq_false_iff_not, Bool.not_eq_false', Bool.not_eq_true, Bool.not_eq_false] at h) | refine And.intro (by omega) ?_ | fail)
end Go.Proofs.Ytkgeadhnagnloaa.H
