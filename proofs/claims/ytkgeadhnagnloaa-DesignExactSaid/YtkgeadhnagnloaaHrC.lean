/- Chapter 26: chains that prove, in the reference. -/
import Derived.Test.YtkgeadhnagnloaaHdX
import Derived.Test.YtkgeadhnagnloaaHrA
set_option linter.unusedSimpArgs false
set_option linter.unusedVariables false
namespace Go.Proofs.Ytkgeadhnagnloaa.H
set_option maxHeartbeats 2000000 in
theorem rproves_ok (ps : List Pt) (ls : List Ln) (gs : List Gr) (hp : ps.length ≤ 1000000) (hl : ls.length ≤ 1000000) (hg : gs.length ≤ 1000000) (hgl : ∀ g ∈ gs, g.2.length ≤ 1000000) (c : List Pt) (hcl : c.length ≤ 1000000) : Fn Try.prog 28 [ADs ps ls (grs gs), LP c] (AB (provP ps ls gs c)) := by
  have hck := rcheck_ok ps ls gs hp hl hg hgl
  refine Fn.of fn28 (by simp) rfl ?_
  unfold c28
  by_cases hc : checkP ps ls gs = 0
  · by_cases h0 : c.length = 0
    · have e : provP ps ls gs c = false := by
        obtain rfl := List.eq_nil_of_length_eq_zero h0
        simp [provP, hasH]
      have h0' : (c.length : Int) = 0 := by omega
      rw [e]
      repeat' (first | refine AW.seq' ?_ | with_reducible refine AW.blockS rfl ?_ | ((first | refine AW.ops ?_ | refine AW.draw ?_ | refine AW.skip ?_ | refine AW.ret ?_ | refine AW.exit ?_ | refine Fn.call (hck) rfl rfl ?_) <;> simp only [RS, LS, SY, ne_eq, isFl, floatV, constA, thenQ, blockQ, pack, intA, boolA, eqA, unA, nilcA, asI, asB, asS, loadA, idxA, lenA, slcA, AV.flat, AV.one, zA1, storeA, toD, srcOf, copyA, ↓reduceIte, reduceCtorEq, List.replicate, Nat.reduceBEq, Nat.reduceAdd, Nat.reduceMul, Nat.reduceSub, Nat.reduceLeDiff, Nat.reduceLT, Int.reduceToNat, Nat.reduceEqDiff, Int.reduceEq, hc, h0']) | refine AW.condT rfl ?_ | refine AW.condF rfl ?_ | refine And.intro (by omega) ?_ | fail)
    · have hpos : 0 < c.length := by omega
      have hposI : (0 : Int) < c.length := by omega
      have h0' : ¬ (c.length : Int) = 0 := by omega
      cases hh : hasP ps c[0] with
      | false =>
        have e : provP ps ls gs c = false := by rw [provP, hasH_pos hpos, hh]; simp
        rw [e]
        repeat' (first | refine AW.seq' ?_ | with_reducible refine AW.blockS rfl ?_ | ((first | refine AW.ops ?_ | refine AW.draw ?_ | refine AW.skip ?_ | refine AW.ret ?_ | refine AW.exit ?_ | refine Fn.call (hck) rfl rfl ?_ | refine Fn.call (rhas_ok ps (by omega) _) rfl rfl ?_) <;> simp only [RS, LS, SY, ne_eq, isFl, floatV, constA, thenQ, blockQ, pack, intA, boolA, eqA, unA, nilcA, asI, asB, asS, loadA, idxA, lenA, slcA, AV.flat, AV.one, zA1, storeA, toD, srcOf, copyA, ↓reduceIte, reduceCtorEq, List.replicate, Nat.reduceBEq, Nat.reduceAdd, Nat.reduceMul, Nat.reduceSub, Nat.reduceLeDiff, Nat.reduceLT, Int.reduceToNat, Nat.reduceEqDiff, Int.reduceEq, hc, h0', hposI, getD_map_lt hpos, hh]) | refine AW.condT rfl ?_ | refine AW.condF rfl ?_ | refine And.intro (by omega) ?_ | fail)
      | true =>
        have e : provP ps ls gs c = lkB ls c := by rw [provP, hasH_pos hpos, hh, hc]; simp
        rw [e]
        repeat' (first | refine AW.seq' ?_ | with_reducible refine AW.blockS rfl ?_ | ((first | refine AW.ops ?_ | refine AW.draw ?_ | refine AW.skip ?_ | refine AW.ret ?_ | refine AW.exit ?_ | refine Fn.call (hck) rfl rfl ?_ | refine Fn.call (rhas_ok ps (by omega) _) rfl rfl ?_) <;> simp only [RS, LS, SY, ne_eq, isFl, floatV, constA, thenQ, blockQ, pack, intA, boolA, eqA, unA, nilcA, asI, asB, asS, loadA, idxA, lenA, slcA, AV.flat, AV.one, zA1, storeA, toD, srcOf, copyA, ↓reduceIte, reduceCtorEq, List.replicate, Nat.reduceBEq, Nat.reduceAdd, Nat.reduceMul, Nat.reduceSub, Nat.reduceLeDiff, Nat.reduceLT, Int.reduceToNat, Nat.reduceEqDiff, Int.reduceEq, hc, h0', hposI, getD_map_lt hpos, hh]) | refine AW.condT rfl ?_ | refine AW.condF rfl ?_ | refine And.intro (by omega) ?_ | fail)
        refine AW.block ?_
        refine AW.loopA (α := Nat) (fun i => c.length + 1 - i) (fun i => [(5, AI .i64 i), (1, LP c), (2, .ptr 0 0 0)]) (fun _ => [some (.cells 27 3 [[LP ps, LN ls, LG gs]])]) (fun i => 1 ≤ i ∧ i ≤ c.length + 1 ∧ ∀ (j : Nat) (h : j + 1 < c.length), j + 1 < i → hasL ls (c[j], c[j + 1]) = true) 1 ⟨Nat.le_refl _, by omega, fun j h hj => by omega⟩ [0] ⟨rfl, by decide, rfl, by simp [NT, belA, belL, tget, renA, renL, nmL], ⟨⟨rfl, rfl⟩, trivial⟩⟩ ?_
        intro i ⟨h1, h2, h3⟩
        unfold c28_1
        by_cases hi : i < c.length
        · have hi1 : i - 1 < c.length := by omega
          have e1 : ((i : Int) - 1).toNat = i - 1 := by omega
          have e2 : i - 1 + 1 = i := by omega
          have hci : (i : Int) < c.length := by omega
          repeat' (first | refine AW.seq' ?_ | with_reducible refine AW.blockS rfl ?_ | ((first | refine AW.ops ?_ | refine AW.draw ?_ | refine AW.skip ?_ | refine AW.ret ?_ | refine AW.exit ?_) <;> simp (disch := omega) only [RS, LS, SY, ne_eq, isFl, floatV, constA, thenQ, blockQ, pack, intA, boolA, eqA, unA, nilcA, asI, asB, asS, loadA, idxA, lenA, slcA, AV.flat, AV.one, zA1, storeA, toD, srcOf, copyA, ↓reduceIte, reduceCtorEq, List.replicate, Nat.reduceBEq, Nat.reduceAdd, Nat.reduceMul, Nat.reduceSub, Nat.reduceLeDiff, Nat.reduceLT, Int.reduceToNat, Nat.reduceEqDiff, Int.reduceEq, wrap_id, hci, e1, getD_map_lt hi, getD_map_lt hi1]) | refine AW.condT rfl ?_ | refine AW.condF rfl ?_ | refine And.intro (by omega) ?_ | fail)
          refine AW.range (α := Bool) ls.length (by omega) (by decide) (fun _ b => [(33, LN ls), (5, AI .i64 i), (1, LP c), (2, .ptr 0 0 0), (6, AB b)]) (fun _ _ => [some (.cells 27 3 [[LP ps, LN ls, LG gs]])]) (fun k b => b = (ls.take k).any fun x => decide (x = (c[i - 1], c[i]))) false (by simp) [0] ⟨rfl, by decide, rfl, by simp [NT, belA, belL, tget, renA, renL, nmL], ⟨⟨rfl, rfl⟩, trivial⟩⟩ (by simp) ?_ ?_
          · intro k b hk hb
            unfold c28_0
            have hr := getD_lns hk
            simp only [lnR] at hr
            cases b
            · repeat' (first | refine AW.seq' ?_ | with_reducible refine AW.blockS rfl ?_ | ((first | refine AW.ops ?_ | refine AW.draw ?_ | refine AW.skip ?_ | refine AW.ret ?_ | refine AW.exit ?_) <;> simp (disch := omega) only [RS, LS, SY, ne_eq, isFl, floatV, constA, thenQ, blockQ, pack, intA, boolA, eqA, unA, nilcA, asI, asB, asS, loadA, idxA, lenA, slcA, AV.flat, AV.one, zA1, storeA, toD, srcOf, copyA, ↓reduceIte, reduceCtorEq, List.replicate, Nat.reduceBEq, Nat.reduceAdd, Nat.reduceMul, Nat.reduceSub, Nat.reduceLeDiff, Nat.reduceLT, Int.reduceToNat, Nat.reduceEqDiff, Int.reduceEq, wrap_id, hr, hci, e1, getD_map_lt hi, getD_map_lt hi1, pt_eq]) | refine AW.condT rfl ?_ | refine AW.condF rfl ?_ | ((first | refine GI.of (fun h => ?_) (fun h => ?_) (by first | exact Classical.em _ | exact (Classical.em _).symm | grind) | refine GD.of (fun h => ?_) (fun h => ?_) (by first | exact Classical.em _ | exact (Classical.em _).symm | grind)) <;> simp (disch := omega) only [RS, LS, SY, ne_eq, isFl, floatV, constA, thenQ, blockQ, pack, intA, boolA, eqA, unA, nilcA, asI, asB, asS, loadA, idxA, lenA, slcA, AV.flat, AV.one, zA1, storeA, toD, srcOf, copyA, ↓reduceIte, reduceCtorEq, List.replicate, Nat.reduceBEq, Nat.reduceAdd, Nat.reduceMul, Nat.reduceSub, Nat.reduceLeDiff, Nat.reduceLT, Int.reduceToNat, Nat.reduceEqDiff, Int.reduceEq, wrap_id, hr, hci, e1, getD_map_lt hi, getD_map_lt hi1, pt_eq, h]) | refine And.intro (by omega) ?_ | fail)
              · exact ⟨decide (ls[k].2 = c[i]), [0], by rw [any_take_succ hk, ← hb, Bool.false_or, ← ln_eq, decide_eq_true h, Bool.true_and], rfl, by decide, rfl, by simp [NT, belA, belL, tget, renA, renL, nmL], ⟨⟨rfl, rfl⟩, trivial⟩⟩
              · exact ⟨false, [0], by rw [any_take_succ hk, ← hb, Bool.false_or, ← ln_eq, decide_eq_false h, Bool.false_and], rfl, by decide, rfl, by simp [NT, belA, belL, tget, renA, renL, nmL], ⟨⟨rfl, rfl⟩, trivial⟩⟩
            · repeat' (first | refine AW.seq' ?_ | with_reducible refine AW.blockS rfl ?_ | ((first | refine AW.ops ?_ | refine AW.draw ?_ | refine AW.skip ?_ | refine AW.ret ?_ | refine AW.exit ?_) <;> simp (disch := omega) only [RS, LS, SY, ne_eq, isFl, floatV, constA, thenQ, blockQ, pack, intA, boolA, eqA, unA, nilcA, asI, asB, asS, loadA, idxA, lenA, slcA, AV.flat, AV.one, zA1, storeA, toD, srcOf, copyA, ↓reduceIte, reduceCtorEq, List.replicate, Nat.reduceBEq, Nat.reduceAdd, Nat.reduceMul, Nat.reduceSub, Nat.reduceLeDiff, Nat.reduceLT, Int.reduceToNat, Nat.reduceEqDiff, Int.reduceEq, wrap_id, hr, hci, e1, getD_map_lt hi, getD_map_lt hi1, pt_eq]) | refine AW.condT rfl ?_ | refine AW.condF rfl ?_ | refine And.intro (by omega) ?_ | fail)
              exact ⟨true, [0], by rw [any_take_succ hk, ← hb, Bool.true_or], rfl, by decide, rfl, by simp [NT, belA, belL, tget, renA, renL, nmL], ⟨⟨rfl, rfl⟩, trivial⟩⟩
          · intro b hb
            rw [List.take_length] at hb
            have hbb : b = hasL ls (c[i - 1], c[i]) := by
              rw [hb, hasL, Bool.eq_iff_iff, List.any_eq_true]; simp
            clear hb
            cases b
            · simp only [RS, LS, SY, ne_eq, isFl, floatV, constA, thenQ, blockQ, pack, intA, boolA, eqA, unA, nilcA, asI, asB, asS, loadA, idxA, lenA, slcA, AV.flat, AV.one, zA1, storeA, toD, srcOf, copyA, ↓reduceIte, reduceCtorEq, List.replicate, Nat.reduceBEq, Nat.reduceAdd, Nat.reduceMul, Nat.reduceSub, Nat.reduceLeDiff, Nat.reduceLT, Int.reduceToNat, Nat.reduceEqDiff, Int.reduceEq]
              repeat' (first | refine AW.seq' ?_ | with_reducible refine AW.blockS rfl ?_ | ((first | refine AW.ops ?_ | refine AW.draw ?_ | refine AW.skip ?_ | refine AW.ret ?_ | refine AW.exit ?_) <;> simp (disch := omega) only [RS, LS, SY, ne_eq, isFl, floatV, constA, thenQ, blockQ, pack, intA, boolA, eqA, unA, nilcA, asI, asB, asS, loadA, idxA, lenA, slcA, AV.flat, AV.one, zA1, storeA, toD, srcOf, copyA, ↓reduceIte, reduceCtorEq, List.replicate, Nat.reduceBEq, Nat.reduceAdd, Nat.reduceMul, Nat.reduceSub, Nat.reduceLeDiff, Nat.reduceLT, Int.reduceToNat, Nat.reduceEqDiff, Int.reduceEq, wrap_id]) | refine AW.condT rfl ?_ | refine AW.condF rfl ?_ | refine And.intro (by omega) ?_ | fail)
              rw [lkB, ascB_not (i := i - 1) (by omega) (by simpa only [e2] using hbb.symm)]
            · simp only [RS, LS, SY, ne_eq, isFl, floatV, constA, thenQ, blockQ, pack, intA, boolA, eqA, unA, nilcA, asI, asB, asS, loadA, idxA, lenA, slcA, AV.flat, AV.one, zA1, storeA, toD, srcOf, copyA, ↓reduceIte, reduceCtorEq, List.replicate, Nat.reduceBEq, Nat.reduceAdd, Nat.reduceMul, Nat.reduceSub, Nat.reduceLeDiff, Nat.reduceLT, Int.reduceToNat, Nat.reduceEqDiff, Int.reduceEq]
              repeat' (first | refine AW.seq' ?_ | with_reducible refine AW.blockS rfl ?_ | ((first | refine AW.ops ?_ | refine AW.draw ?_ | refine AW.skip ?_ | refine AW.ret ?_ | refine AW.exit ?_) <;> simp (disch := omega) only [RS, LS, SY, ne_eq, isFl, floatV, constA, thenQ, blockQ, pack, intA, boolA, eqA, unA, nilcA, asI, asB, asS, loadA, idxA, lenA, slcA, AV.flat, AV.one, zA1, storeA, toD, srcOf, copyA, ↓reduceIte, reduceCtorEq, List.replicate, Nat.reduceBEq, Nat.reduceAdd, Nat.reduceMul, Nat.reduceSub, Nat.reduceLeDiff, Nat.reduceLT, Int.reduceToNat, Nat.reduceEqDiff, Int.reduceEq, wrap_id]) | refine AW.condT rfl ?_ | refine AW.condF rfl ?_ | refine And.intro (by omega) ?_ | fail)
              refine ⟨i + 1, [0], ⟨by omega, by omega, fun j hj hj' => ?_⟩, by omega, rfl, by decide, rfl, by simp [NT, belA, belL, tget, tset, renA, renL, nmL], ⟨⟨rfl, rfl⟩, trivial⟩⟩
              by_cases e : j + 1 = i
              · subst e; simpa using hbb.symm
              · exact h3 j hj (by omega)
        · have hci : ¬ (i : Int) < c.length := by omega
          repeat' (first | refine AW.seq' ?_ | with_reducible refine AW.blockS rfl ?_ | ((first | refine AW.ops ?_ | refine AW.draw ?_ | refine AW.skip ?_ | refine AW.ret ?_ | refine AW.exit ?_) <;> simp only [RS, LS, SY, ne_eq, isFl, floatV, constA, thenQ, blockQ, pack, intA, boolA, eqA, unA, nilcA, asI, asB, asS, loadA, idxA, lenA, slcA, AV.flat, AV.one, zA1, storeA, toD, srcOf, copyA, ↓reduceIte, reduceCtorEq, List.replicate, Nat.reduceBEq, Nat.reduceAdd, Nat.reduceMul, Nat.reduceSub, Nat.reduceLeDiff, Nat.reduceLT, Int.reduceToNat, Nat.reduceEqDiff, Int.reduceEq, hci]) | refine AW.condT rfl ?_ | refine AW.condF rfl ?_ | refine And.intro (by omega) ?_ | fail)
          rw [lkB, ascB_iff.2 fun j hj => h3 j hj (by omega)]
  · have e : provP ps ls gs c = false := by simp [provP, hc]
    rw [e]
    repeat' (first | refine AW.seq' ?_ | with_reducible refine AW.blockS rfl ?_ | ((first | refine AW.ops ?_ | refine AW.draw ?_ | refine AW.skip ?_ | refine AW.ret ?_ | refine AW.exit ?_ | refine Fn.call (hck) rfl rfl ?_) <;> simp only [RS, LS, SY, ne_eq, isFl, floatV, constA, thenQ, blockQ, pack, intA, boolA, eqA, unA, nilcA, asI, asB, asS, loadA, idxA, lenA, slcA, AV.flat, AV.one, zA1, storeA, toD, srcOf, copyA, ↓reduceIte, reduceCtorEq, List.replicate, Nat.reduceBEq, Nat.reduceAdd, Nat.reduceMul, Nat.reduceSub, Nat.reduceLeDiff, Nat.reduceLT, Int.reduceToNat, Nat.reduceEqDiff, Int.reduceEq, hc]) | refine AW.condT rfl ?_ | refine AW.condF rfl ?_ | refine And.intro (by omega) ?_ | fail)
end Go.Proofs.Ytkgeadhnagnloaa.H
