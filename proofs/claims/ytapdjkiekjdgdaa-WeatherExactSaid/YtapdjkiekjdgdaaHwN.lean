/- Chapter 22: the law's outer loops. -/
import Derived.Test.YtapdjkiekjdgdaaHwM
set_option linter.unusedSimpArgs false
set_option linter.unusedVariables false
namespace Go.Proofs.Ytapdjkiekjdgdaa.H
theorem loop2 (d : LD) (hd : d.ok) (x : HD) (hx : x.ok) (p : Nat) (z0 z1 z2 : Int) {big : List AV} (hb : belL 0 big = true) {ii : Nat} {T : Tm} {s : St} {Q : Fl → Tm → St → Prop}
    (hN : Nrm [0, 1, 2, 3, 4, 5, 6] 0 T s ((89, AI .i64 0) :: (88, .agg [AI .i64 z0, AI .i64 z1, AI .i64 z2]) :: (16, .ptr 6 0 0) :: (74, .agg big) :: (75, AI .i64 ii) :: d.B) (d.SH p x))
    (he : Q .normal (tset 90 (AB false) ((89, AI .i64 3) :: (88, .agg [AI .i64 z0, AI .i64 z1, AI .i64 z2]) :: (16, .ptr 6 0 0) :: (74, .agg big) :: (75, AI .i64 ii) :: d.B)) (d.SH p x)) : AW Try.prog 182 0 (.block 2 (.loop c6_2)) T s Q := by
  unfold c6_2
  refine AW.arr (α := Unit) 3 (by decide) (by decide) (fun _ _ => (88, .agg [AI .i64 z0, AI .i64 z1, AI .i64 z2]) :: (16, .ptr 6 0 0) :: (74, .agg big) :: (75, AI .i64 ii) :: d.B) (fun _ _ => d.SH p x) (fun _ _ => True) () trivial [0, 1, 2, 3, 4, 5, 6] hN (by simp) ?_ (fun _ _ => he)
  intro i _ hi _
  have hcut : ∃ y : Int, [AI .i64 z0, AI .i64 z1, AI .i64 z2].getD i default = AI .i64 y := by
    match i with
    | 0 => exact ⟨_, rfl⟩
    | 1 => exact ⟨_, rfl⟩
    | 2 => exact ⟨_, rfl⟩
    | i + 3 => omega
  obtain ⟨y, hw⟩ := hcut
  refine AW.block (AW.seq' (AW.ops ?_))
  simp only [RS, LS, ne_eq, gate, isFl, floatV, allP, evK, evF, opd, opdL, opdP, optI, constA, tget, tset, tput, argT, thenQ, blockQ, rangeQ, callQ, RetQ, resL, resV, pack, binA, binbA, binsA, shfA, intA, boolA, eqlA, eqA, eqAs, unA, pickA, convA, nilcA, asI, asB, asS, cut, cutA, cutD, cellsOf, loadA, iaddrA, idxA, sidxA, lenA, lensA, mmA, mmL, mmF, slcA, slcsA, fillA, setA, AV.flat, AV.one, zeroA, zA1, boxA, storeA, putRow, bsliceA, toD, toDs, chunk, mksliceA, appendA, srcOf, copyA, Fl.ex, ↓reduceIte, reduceCtorEq, List.replicate, Nat.reduceBEq, Nat.reduceAdd, Nat.reduceMul, Nat.reduceSub, Nat.reduceLeDiff, Nat.reduceLT, Int.reduceToNat, Nat.reduceEqDiff, Int.reduceEq, hw]
  refine ⟨⟨by omega, Int.ofNat_lt.2 hi, hi⟩, AW.seq' (AW.seq' (AW.ops ?_))⟩
  simp only [RS, LS, ne_eq, gate, isFl, floatV, allP, evK, evF, opd, opdL, opdP, optI, constA, tget, tset, tput, argT, thenQ, blockQ, rangeQ, callQ, RetQ, resL, resV, pack, binA, binbA, binsA, shfA, intA, boolA, eqlA, eqA, eqAs, unA, pickA, convA, nilcA, asI, asB, asS, cut, cutA, cutD, cellsOf, loadA, iaddrA, idxA, sidxA, lenA, lensA, mmA, mmL, mmF, slcA, slcsA, fillA, setA, AV.flat, AV.one, zeroA, zA1, boxA, storeA, putRow, bsliceA, toD, toDs, chunk, mksliceA, appendA, srcOf, copyA, Fl.ex, ↓reduceIte, reduceCtorEq, List.replicate, Nat.reduceBEq, Nat.reduceAdd, Nat.reduceMul, Nat.reduceSub, Nat.reduceLeDiff, Nat.reduceLT, Int.reduceToNat, Nat.reduceEqDiff, Int.reduceEq]
  refine loop0 d hd x hx p y hb (z := [AI .i64 z0, AI .i64 z1, AI .i64 z2]) rfl (ii := ii) (jj := i) ⟨rfl, by decide, rfl, ?_, nsX⟩ ?_
  · simp [NT, belA, belL, tget, renA, renL, nmL, belL_mono (Nat.zero_le _) hb, renL_bel0 _ hb]
  simp only [RS, LS, ne_eq, gate, isFl, floatV, allP, evK, evF, opd, opdL, opdP, optI, constA, tget, tset, tput, argT, thenQ, blockQ, rangeQ, callQ, RetQ, resL, resV, pack, binA, binbA, binsA, shfA, intA, boolA, eqlA, eqA, eqAs, unA, pickA, convA, nilcA, asI, asB, asS, cut, cutA, cutD, cellsOf, loadA, iaddrA, idxA, sidxA, lenA, lensA, mmA, mmL, mmF, slcA, slcsA, fillA, setA, AV.flat, AV.one, zeroA, zA1, boxA, storeA, putRow, bsliceA, toD, toDs, chunk, mksliceA, appendA, srcOf, copyA, Fl.ex, ↓reduceIte, reduceCtorEq, List.replicate, Nat.reduceBEq, Nat.reduceAdd, Nat.reduceMul, Nat.reduceSub, Nat.reduceLeDiff, Nat.reduceLT, Int.reduceToNat, Nat.reduceEqDiff, Int.reduceEq]
  refine AW.seq' (AW.ops ?_)
  simp only [RS, LS, ne_eq, gate, isFl, floatV, allP, evK, evF, opd, opdL, opdP, optI, constA, tget, tset, tput, argT, thenQ, blockQ, rangeQ, callQ, RetQ, resL, resV, pack, binA, binbA, binsA, shfA, intA, boolA, eqlA, eqA, eqAs, unA, pickA, convA, nilcA, asI, asB, asS, cut, cutA, cutD, cellsOf, loadA, iaddrA, idxA, sidxA, lenA, lensA, mmA, mmL, mmF, slcA, slcsA, fillA, setA, AV.flat, AV.one, zeroA, zA1, boxA, storeA, putRow, bsliceA, toD, toDs, chunk, mksliceA, appendA, srcOf, copyA, Fl.ex, ↓reduceIte, reduceCtorEq, List.replicate, Nat.reduceBEq, Nat.reduceAdd, Nat.reduceMul, Nat.reduceSub, Nat.reduceLeDiff, Nat.reduceLT, Int.reduceToNat, Nat.reduceEqDiff, Int.reduceEq]
  refine loop1 d hd x hx p y hb (z := [AI .i64 z0, AI .i64 z1, AI .i64 z2]) rfl (ii := ii) (jj := i) ⟨rfl, by decide, rfl, ?_, nsX⟩ ?_
  · simp [NT, belA, belL, tget, renA, renL, nmL, belL_mono (Nat.zero_le _) hb, renL_bel0 _ hb]
  simp only [RS, LS, ne_eq, gate, isFl, floatV, allP, evK, evF, opd, opdL, opdP, optI, constA, tget, tset, tput, argT, thenQ, blockQ, rangeQ, callQ, RetQ, resL, resV, pack, binA, binbA, binsA, shfA, intA, boolA, eqlA, eqA, eqAs, unA, pickA, convA, nilcA, asI, asB, asS, cut, cutA, cutD, cellsOf, loadA, iaddrA, idxA, sidxA, lenA, lensA, mmA, mmL, mmF, slcA, slcsA, fillA, setA, AV.flat, AV.one, zeroA, zA1, boxA, storeA, putRow, bsliceA, toD, toDs, chunk, mksliceA, appendA, srcOf, copyA, Fl.ex, ↓reduceIte, reduceCtorEq, List.replicate, Nat.reduceBEq, Nat.reduceAdd, Nat.reduceMul, Nat.reduceSub, Nat.reduceLeDiff, Nat.reduceLT, Int.reduceToNat, Nat.reduceEqDiff, Int.reduceEq, rangeNQ]
  refine ⟨(), [0, 1, 2, 3, 4, 5, 6], rfl, by decide, rfl, ?_, nsX⟩
  simp [NT, belA, belL, tget, renA, renL, nmL, belL_mono (Nat.zero_le _) hb, renL_bel0 _ hb]
theorem loop3 (d : LD) (hd : d.ok) (x : HD) (hx : x.ok) (p : Nat) (z0 z1 z2 : Int) {big : List AV} (hb : belL 0 big = true) {ii : Nat} {T : Tm} {s : St} {Q : Fl → Tm → St → Prop}
    (hN : Nrm [0, 1, 2, 3, 4, 5, 6] 0 T s ((154, AI .i64 0) :: (153, .agg [AI .i64 z0, AI .i64 z1, AI .i64 z2]) :: (16, .ptr 6 0 0) :: (74, .agg big) :: (75, AI .i64 ii) :: d.B) (d.SH p x))
    (he : Q .normal (tset 155 (AB false) ((154, AI .i64 3) :: (153, .agg [AI .i64 z0, AI .i64 z1, AI .i64 z2]) :: (16, .ptr 6 0 0) :: (74, .agg big) :: (75, AI .i64 ii) :: d.B)) (d.SH p x)) : AW Try.prog 182 0 (.block 8 (.loop c6_3)) T s Q := by
  unfold c6_3
  refine AW.arr (α := Unit) 3 (by decide) (by decide) (fun _ _ => (153, .agg [AI .i64 z0, AI .i64 z1, AI .i64 z2]) :: (16, .ptr 6 0 0) :: (74, .agg big) :: (75, AI .i64 ii) :: d.B) (fun _ _ => d.SH p x) (fun _ _ => True) () trivial [0, 1, 2, 3, 4, 5, 6] hN (by simp) ?_ (fun _ _ => he)
  intro i _ hi _
  have hcut : ∃ y : Int, [AI .i64 z0, AI .i64 z1, AI .i64 z2].getD i default = AI .i64 y := by
    match i with
    | 0 => exact ⟨_, rfl⟩
    | 1 => exact ⟨_, rfl⟩
    | 2 => exact ⟨_, rfl⟩
    | i + 3 => omega
  obtain ⟨y, hw⟩ := hcut
  have hl : x.a.length ≤ 30 := hx.1
  have hl' : d.c.length ≤ 30 := hd.abc.2.2
  refine AW.block (AW.seq' (AW.ops ?_))
  simp only [RS, LS, ne_eq, gate, isFl, floatV, allP, evK, evF, opd, opdL, opdP, optI, constA, tget, tset, tput, argT, thenQ, blockQ, rangeQ, callQ, RetQ, resL, resV, pack, binA, binbA, binsA, shfA, intA, boolA, eqlA, eqA, eqAs, unA, pickA, convA, nilcA, asI, asB, asS, cut, cutA, cutD, cellsOf, loadA, iaddrA, idxA, sidxA, lenA, lensA, mmA, mmL, mmF, slcA, slcsA, fillA, setA, AV.flat, AV.one, zeroA, zA1, boxA, storeA, putRow, bsliceA, toD, toDs, chunk, mksliceA, appendA, srcOf, copyA, Fl.ex, ↓reduceIte, reduceCtorEq, List.replicate, Nat.reduceBEq, Nat.reduceAdd, Nat.reduceMul, Nat.reduceSub, Nat.reduceLeDiff, Nat.reduceLT, Int.reduceToNat, Nat.reduceEqDiff, Int.reduceEq, hw]
  refine ⟨⟨by omega, Int.ofNat_lt.2 hi, hi⟩, AW.seq' (AW.draw ?_)⟩
  simp only [RS, LS, ne_eq, gate, isFl, floatV, allP, evK, evF, opd, opdL, opdP, optI, constA, tget, tset, tput, argT, thenQ, blockQ, rangeQ, callQ, RetQ, resL, resV, pack, binA, binbA, binsA, shfA, intA, boolA, eqlA, eqA, eqAs, unA, pickA, convA, nilcA, asI, asB, asS, cut, cutA, cutD, cellsOf, loadA, iaddrA, idxA, sidxA, lenA, lensA, mmA, mmL, mmF, slcA, slcsA, fillA, setA, AV.flat, AV.one, zeroA, zA1, boxA, storeA, putRow, bsliceA, toD, toDs, chunk, mksliceA, appendA, srcOf, copyA, Fl.ex, ↓reduceIte, reduceCtorEq, List.replicate, Nat.reduceBEq, Nat.reduceAdd, Nat.reduceMul, Nat.reduceSub, Nat.reduceLeDiff, Nat.reduceLT, Int.reduceToNat, Nat.reduceEqDiff, Int.reduceEq]
  refine Fn.call (factor_ok x.a (by omega) y) rfl rfl ?_
  simp only [RS, LS, ne_eq, gate, isFl, floatV, allP, evK, evF, opd, opdL, opdP, optI, constA, tget, tset, tput, argT, thenQ, blockQ, rangeQ, callQ, RetQ, resL, resV, pack, binA, binbA, binsA, shfA, intA, boolA, eqlA, eqA, eqAs, unA, pickA, convA, nilcA, asI, asB, asS, cut, cutA, cutD, cellsOf, loadA, iaddrA, idxA, sidxA, lenA, lensA, mmA, mmL, mmF, slcA, slcsA, fillA, setA, AV.flat, AV.one, zeroA, zA1, boxA, storeA, putRow, bsliceA, toD, toDs, chunk, mksliceA, appendA, srcOf, copyA, Fl.ex, ↓reduceIte, reduceCtorEq, List.replicate, Nat.reduceBEq, Nat.reduceAdd, Nat.reduceMul, Nat.reduceSub, Nat.reduceLeDiff, Nat.reduceLT, Int.reduceToNat, Nat.reduceEqDiff, Int.reduceEq]
  refine Fn.call (rfactor_ok x.a (by omega) y) rfl rfl ?_
  simp only [RS, LS, ne_eq, gate, isFl, floatV, allP, evK, evF, opd, opdL, opdP, optI, constA, tget, tset, tput, argT, thenQ, blockQ, rangeQ, callQ, RetQ, resL, resV, pack, binA, binbA, binsA, shfA, intA, boolA, eqlA, eqA, eqAs, unA, pickA, convA, nilcA, asI, asB, asS, cut, cutA, cutD, cellsOf, loadA, iaddrA, idxA, sidxA, lenA, lensA, mmA, mmL, mmF, slcA, slcsA, fillA, setA, AV.flat, AV.one, zeroA, zA1, boxA, storeA, putRow, bsliceA, toD, toDs, chunk, mksliceA, appendA, srcOf, copyA, Fl.ex, ↓reduceIte, reduceCtorEq, List.replicate, Nat.reduceBEq, Nat.reduceAdd, Nat.reduceMul, Nat.reduceSub, Nat.reduceLeDiff, Nat.reduceLT, Int.reduceToNat, Nat.reduceEqDiff, Int.reduceEq]
  refine Fn.call (factor_ok d.c (by omega) y) rfl rfl ?_
  simp only [RS, LS, ne_eq, gate, isFl, floatV, allP, evK, evF, opd, opdL, opdP, optI, constA, tget, tset, tput, argT, thenQ, blockQ, rangeQ, callQ, RetQ, resL, resV, pack, binA, binbA, binsA, shfA, intA, boolA, eqlA, eqA, eqAs, unA, pickA, convA, nilcA, asI, asB, asS, cut, cutA, cutD, cellsOf, loadA, iaddrA, idxA, sidxA, lenA, lensA, mmA, mmL, mmF, slcA, slcsA, fillA, setA, AV.flat, AV.one, zeroA, zA1, boxA, storeA, putRow, bsliceA, toD, toDs, chunk, mksliceA, appendA, srcOf, copyA, Fl.ex, ↓reduceIte, reduceCtorEq, List.replicate, Nat.reduceBEq, Nat.reduceAdd, Nat.reduceMul, Nat.reduceSub, Nat.reduceLeDiff, Nat.reduceLT, Int.reduceToNat, Nat.reduceEqDiff, Int.reduceEq]
  refine Fn.call (rfactor_ok d.c (by omega) y) rfl rfl ?_
  simp only [RS, LS, ne_eq, gate, isFl, floatV, allP, evK, evF, opd, opdL, opdP, optI, constA, tget, tset, tput, argT, thenQ, blockQ, rangeQ, callQ, RetQ, resL, resV, pack, binA, binbA, binsA, shfA, intA, boolA, eqlA, eqA, eqAs, unA, pickA, convA, nilcA, asI, asB, asS, cut, cutA, cutD, cellsOf, loadA, iaddrA, idxA, sidxA, lenA, lensA, mmA, mmL, mmF, slcA, slcsA, fillA, setA, AV.flat, AV.one, zeroA, zA1, boxA, storeA, putRow, bsliceA, toD, toDs, chunk, mksliceA, appendA, srcOf, copyA, Fl.ex, ↓reduceIte, reduceCtorEq, List.replicate, Nat.reduceBEq, Nat.reduceAdd, Nat.reduceMul, Nat.reduceSub, Nat.reduceLeDiff, Nat.reduceLT, Int.reduceToNat, Nat.reduceEqDiff, Int.reduceEq]
  refine AW.cond rfl rfl (fun h => by cases h) (fun _ => AW.skip ?_)
  simp only [RS, LS, ne_eq, gate, isFl, floatV, allP, evK, evF, opd, opdL, opdP, optI, constA, tget, tset, tput, argT, thenQ, blockQ, rangeQ, callQ, RetQ, resL, resV, pack, binA, binbA, binsA, shfA, intA, boolA, eqlA, eqA, eqAs, unA, pickA, convA, nilcA, asI, asB, asS, cut, cutA, cutD, cellsOf, loadA, iaddrA, idxA, sidxA, lenA, lensA, mmA, mmL, mmF, slcA, slcsA, fillA, setA, AV.flat, AV.one, zeroA, zA1, boxA, storeA, putRow, bsliceA, toD, toDs, chunk, mksliceA, appendA, srcOf, copyA, Fl.ex, ↓reduceIte, reduceCtorEq, List.replicate, Nat.reduceBEq, Nat.reduceAdd, Nat.reduceMul, Nat.reduceSub, Nat.reduceLeDiff, Nat.reduceLT, Int.reduceToNat, Nat.reduceEqDiff, Int.reduceEq, rangeNQ]
  refine ⟨(), [0, 1, 2, 3, 4, 5, 6], rfl, by decide, rfl, ?_, nsX⟩
  simp [NT, belA, belL, tget, renA, renL, nmL, belL_mono (Nat.zero_le _) hb, renL_bel0 _ hb]
end Go.Proofs.Ytapdjkiekjdgdaa.H
