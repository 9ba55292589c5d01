/- Chapter 26: the example of the chapter. -/
import Derived.Test.YtkgeadhnagnloaaHeF
set_option linter.unusedSimpArgs false
set_option linter.unusedVariables false
namespace Go.Proofs.Ytkgeadhnagnloaa.H
theorem fallP_calc {ls : List Ln} {B l : List Pt} (h1 : AscP l) (hB : ∀ p ∈ B, p ∈ l) (hcl : ∀ x ∈ ls, x.1 ∈ l → x.2 ∈ l) (hr : ∀ p ∈ l, Rch ls B p) : fallP ls B = l :=
  (fallP_is h1 fun q => ⟨hr q, fun hq => by
    induction hq with
    | base hp => exact hB _ hp
    | step hx _ ih => exact hcl _ hx ih⟩).symm
def ps0 : List Pt := [(1, 0), (1, 1), (9, 1)]
def ls0 : List Ln := [((9, 1), (1, 0)), ((9, 1), (1, 1))]
def gs0 : List Gr := [(⟨#[112, 111, 114, 116]⟩, [(1, 0)]), (⟨#[115, 116, 97, 114, 98, 111, 97, 114, 100]⟩, [(1, 1)])]
theorem ck0 : checkP ps0 ls0 gs0 = 0 := by kernel_rfl
theorem f0c : fallP ls0 [(9, 1)] = ps0 := fallP_calc (by unfold AscP; decide) (by decide) (by decide) fun p hp => by
  have hb : Rch ls0 [(9, 1)] (9, 1) := .base (by decide)
  simp only [ps0, List.mem_cons, List.not_mem_nil, or_false] at hp
  rcases hp with rfl | rfl | rfl
  · exact Rch.step (x := ((9, 1), (1, 0))) (by decide) hb
  · exact Rch.step (x := ((9, 1), (1, 1))) (by decide) hb
  · exact hb
theorem f0a : fallP ls0 [(1, 0)] = [(1, 0)] := fallP_calc (by unfold AscP; decide) (by decide) (by decide) fun p hp => .base hp
theorem f0b : fallP ls0 [(1, 1)] = [(1, 1)] := fallP_calc (by unfold AscP; decide) (by decide) (by decide) fun p hp => .base hp
theorem com01 : comP ps0 ls0 gs0 0 1 = [(9, 1)] := by
  rw [comP, if_pos ⟨ck0, by decide, by decide, by decide, by decide, by decide⟩]
  simp only [ps0, List.filter, f0a, f0b, f0c]
  kernel_rfl
theorem com10 : comP ps0 ls0 gs0 1 0 = [(9, 1)] := by
  rw [comP, if_pos ⟨ck0, by decide, by decide, by decide, by decide, by decide⟩]
  simp only [ps0, List.filter, f0a, f0b, f0c]
  kernel_rfl
theorem ind0 : indP ps0 ls0 gs0 = false := indP_f fun h => by
  have := h.2 1 0 (by decide) (by decide)
  rw [show ((1 : Nat) : Int) = 1 from rfl, show ((0 : Nat) : Int) = 0 from rfl, com10] at this
  cases this
theorem dst0 : Dst ls0 (1, 1) (9, 1) 1 := by
  refine ⟨Way.step (x := ((9, 1), (1, 1))) (by decide) .here, fun m hm => ?_⟩
  cases m with
  | zero => have := hm.zero; cases this
  | succ m => omega
theorem nxt0 : nxtP ls0 (1, 1) 0 (9, 1) = (1, 1) := (nxtP_ok dst0).1.1.zero
theorem cha0 : chaP ps0 ls0 gs0 (9, 1) (1, 1) = ([(9, 1), (1, 1)], true) := by
  rw [chaP, if_pos ⟨ck0, by decide, by decide⟩, dstP_some.2 dst0]
  simp only [chnP, nxt0]
theorem prov0 : provP ps0 ls0 gs0 [(9, 1), (1, 1)] = true := by kernel_rfl
theorem two_ok : Fn Try.prog 35 [] (ADs ps0 ls0 (grs gs0)) := by
  unfold Fn
  refine ACalls.take (Q := fun v s' => v = ADs ps0 ls0 (grs gs0)) (ACalls.endW (Q := fun v s' => v = .agg [.ful 2 (pts ps0), .ful 4 (lns ls0), .ful 2 (grs gs0)]) (ACalls.of fn35 (by simp) ?_) fun v s' e => ?_) fun v s' e => ⟨by rw [e]; rfl, fun i b hi => by simp at hi, e, by simp⟩
  · unfold c35
    repeat' (first | refine AW.seq' ?_ | with_reducible refine AW.blockS rfl ?_ | ((first | refine AW.ops ?_ | refine AW.draw ?_ | refine AW.skip ?_ | refine AW.ret ?_ | refine AW.exit ?_) <;> simp only [RS, LS, SY, ne_eq, isFl, floatV, constA, thenQ, blockQ, pack, intA, boolA, eqA, unA, nilcA, asI, asB, asS, loadA, idxA, lenA, slcA, AV.flat, AV.one, zA1, storeA, toD, srcOf, copyA, ↓reduceIte, reduceCtorEq, List.replicate, Nat.reduceBEq, Nat.reduceAdd, Nat.reduceMul, Nat.reduceSub, Nat.reduceLeDiff, Nat.reduceLT, Int.reduceToNat, Nat.reduceEqDiff, Int.reduceEq]) | refine AW.condT rfl ?_ | refine AW.condF rfl ?_ | ((first | refine GI.of (fun h => ?_) (fun h => ?_) (by first | exact Classical.em _ | exact (Classical.em _).symm | grind) | refine GD.of (fun h => ?_) (fun h => ?_) (by first | exact Classical.em _ | exact (Classical.em _).symm | grind)) <;> simp only [RS, LS, SY, ne_eq, isFl, floatV, constA, thenQ, blockQ, pack, intA, boolA, eqA, unA, nilcA, asI, asB, asS, loadA, idxA, lenA, slcA, AV.flat, AV.one, zA1, storeA, toD, srcOf, copyA, ↓reduceIte, reduceCtorEq, List.replicate, Nat.reduceBEq, Nat.reduceAdd, Nat.reduceMul, Nat.reduceSub, Nat.reduceLeDiff, Nat.reduceLT, Int.reduceToNat, Nat.reduceEqDiff, Int.reduceEq, h]) | (refine AW.condP rfl (fun h => ?_) (fun h => ?_) <;> try simp only [Bool.and_eq_true, decide_eq_true_eq, Bool.not_eq_true', decide_eq_false_iff_not, Bool.not_eq_false', Bool.not_eq_true, Bool.not_eq_false] at h) | refine And.intro (by omega) ?_ | fail)
    rfl
  · subst e
    exact ⟨_, .agg (.cons (.ful _ _) (.cons (.ful _ _) (.cons (.ful _ _) .nil))), rfl⟩
set_option maxHeartbeats 4000000 in
theorem sane_ok : Fn Try.prog 9 [] (AB true) := by
  refine Fn.of fn9 (by simp) rfl ?_
  unfold c9
  have h33 := common_ok ps0 ls0 gs0 (by decide) (by decide) (by decide) (by decide) 0 1
  rw [com01] at h33
  have h30 := chain_ok ps0 ls0 gs0 (by decide) (by decide) (by decide) (by decide) (9, 1) (1, 1)
  rw [cha0] at h30
  have h21 := check_ok ps0 ls0 gs0 (by decide) (by decide) (by decide) (by decide)
  rw [ck0] at h21
  have h23 := indep_ok ps0 ls0 gs0 (by decide) (by decide) (by decide) (by decide)
  rw [ind0] at h23
  have h17 := rsame_ok [(9, 1)] [(9, 1)] (by decide) (by decide)
  have h17b := rsame_ok [(9, 1), (1, 1)] [(9, 1), (1, 1)] (by decide) (by decide)
  have h27 := proves_ok ps0 ls0 gs0 (by decide) (by decide) (by decide) (by decide) [(9, 1), (1, 1)] (by decide)
  rw [prov0] at h27
  have h25 := falls_ok ps0 ls0 gs0 (by decide) (by decide) (by decide) (by decide) [(9, 1)] (by decide)
  rw [fallsP, if_pos ck0, f0c] at h25
  have h25b := falls_ok ps0 ls0 gs0 (by decide) (by decide) (by decide) (by decide) [(1, 0)] (by decide)
  rw [fallsP, if_pos ck0, f0a] at h25b
  have h15 := has_ok [(1, 0)] (by decide) (1, 1)
  rw [show hasP [(1, 0)] (1, 1) = false from rfl] at h15
  have e1 : (pts ps0).length = 3 := rfl
  have e2 : (pts ps0).getD 2 [] = [dI 9, dI 1] := rfl
  have e3 : (pts ps0).getD 1 [] = [dI 1, dI 1] := rfl
  have e4 : List.take ((3 : Int).toNat - (2 : Int).toNat) (List.drop (2 : Int).toNat (pts ps0)) = pts [(9, 1)] := rfl
  have e5 : List.take 1 (pts ps0) = pts [(1, 0)] := rfl
  repeat' (first | refine AW.seq' ?_ | with_reducible refine AW.blockS rfl ?_ | ((first | refine AW.ops ?_ | refine AW.draw ?_ | refine AW.skip ?_ | refine AW.ret ?_ | refine AW.exit ?_ | refine Fn.call (two_ok) rfl rfl ?_ | refine Fn.call (h33) rfl rfl ?_ | refine Fn.call (h30) rfl rfl ?_ | refine Fn.call (h21) rfl rfl ?_ | refine Fn.call (h23) rfl rfl ?_ | refine Fn.call (h17) rfl rfl ?_ |  refine Fn.callW h17b (.cons (.same _) (.cons (.ful _ _) .nil)) rfl rfl ?_ | refine Fn.call (h27) rfl rfl ?_ | refine Fn.call (h25) rfl rfl ?_ | refine Fn.call (h25b) rfl rfl ?_ | refine Fn.call (h15) rfl rfl ?_) <;> simp only [RS, LS, SY, ne_eq, isFl, floatV, constA, thenQ, blockQ, pack, intA, boolA, eqA, unA, nilcA, asI, asB, asS, loadA, idxA, lenA, slcA, AV.flat, AV.one, zA1, storeA, toD, srcOf, copyA, ↓reduceIte, reduceCtorEq, List.replicate, Nat.reduceBEq, Nat.reduceAdd, Nat.reduceMul, Nat.reduceSub, Nat.reduceLeDiff, Nat.reduceLT, Int.reduceToNat, Nat.reduceEqDiff, Int.reduceEq, e1, e2, e3, e4, e5]) | refine AW.condT rfl ?_ | refine AW.condF rfl ?_ | ((first | refine GI.of (fun h => ?_) (fun h => ?_) (by first | exact Classical.em _ | exact (Classical.em _).symm | grind) | refine GD.of (fun h => ?_) (fun h => ?_) (by first | exact Classical.em _ | exact (Classical.em _).symm | grind)) <;> simp only [RS, LS, SY, ne_eq, isFl, floatV, constA, thenQ, blockQ, pack, intA, boolA, eqA, unA, nilcA, asI, asB, asS, loadA, idxA, lenA, slcA, AV.flat, AV.one, zA1, storeA, toD, srcOf, copyA, ↓reduceIte, reduceCtorEq, List.replicate, Nat.reduceBEq, Nat.reduceAdd, Nat.reduceMul, Nat.reduceSub, Nat.reduceLeDiff, Nat.reduceLT, Int.reduceToNat, Nat.reduceEqDiff, Int.reduceEq, e1, e2, e3, e4, e5, h]) | (refine AW.condP rfl (fun h => ?_) (fun h => ?_) <;> try simp only [Bool.and_eq_true, decide_eq_true_eq, Bool.not_eq_true', decide_eq_false_iff_not, Bool.not_eq_false', Bool.not_eq_true, Bool.not_eq_false] at h) | refine And.intro (by omega) ?_ | fail)
  exact absurd rfl h
end Go.Proofs.Ytkgeadhnagnloaa.H
