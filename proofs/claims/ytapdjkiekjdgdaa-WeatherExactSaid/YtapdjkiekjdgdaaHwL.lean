/- Chapter 22: the example. -/
import Derived.Test.YtapdjkiekjdgdaaHxD
import Derived.Test.YtapdjkiekjdgdaaHwK
set_option linter.unusedSimpArgs false
set_option linter.unusedVariables false
namespace Go.Proofs.Ytapdjkiekjdgdaa.H
def z12 : List Int := List.replicate 12 0
def y12 : List Int := z12.set 1 300
theorem sane_ok : Fn Try.prog 9 [] (AB true) := by
  refine Fn.of fn9 (by simp) rfl ?_
  unfold c9
  refine AW.seq' (AW.ops ?_)
  simp only [RS, LS, ne_eq, gate, isFl, floatV, allP, evK, evF, opd, opdL, opdP, optI, constA, tget, tset, tput, argT, thenQ, blockQ, rangeQ, callQ, RetQ, resL, resV, pack, binA, binbA, binsA, shfA, intA, boolA, eqlA, eqA, eqAs, unA, pickA, convA, nilcA, asI, asB, asS, cut, cutA, cutD, cellsOf, loadA, iaddrA, idxA, sidxA, lenA, lensA, mmA, mmL, mmF, slcA, slcsA, fillA, setA, AV.flat, AV.one, zeroA, zA1, boxA, storeA, putRow, bsliceA, toD, toDs, chunk, mksliceA, appendA, srcOf, copyA, Fl.ex, ↓reduceIte, reduceCtorEq, List.replicate, Nat.reduceBEq, Nat.reduceAdd, Nat.reduceMul, Nat.reduceSub, Nat.reduceLeDiff, Nat.reduceLT, Int.reduceToNat, Nat.reduceEqDiff, Int.reduceEq]
  refine AW.seq' (AW.draw ?_)
  simp only [RS, LS, ne_eq, gate, isFl, floatV, allP, evK, evF, opd, opdL, opdP, optI, constA, tget, tset, tput, argT, thenQ, blockQ, rangeQ, callQ, RetQ, resL, resV, pack, binA, binbA, binsA, shfA, intA, boolA, eqlA, eqA, eqAs, unA, pickA, convA, nilcA, asI, asB, asS, cut, cutA, cutD, cellsOf, loadA, iaddrA, idxA, sidxA, lenA, lensA, mmA, mmL, mmF, slcA, slcsA, fillA, setA, AV.flat, AV.one, zeroA, zA1, boxA, storeA, putRow, bsliceA, toD, toDs, chunk, mksliceA, appendA, srcOf, copyA, Fl.ex, ↓reduceIte, reduceCtorEq, List.replicate, Nat.reduceBEq, Nat.reduceAdd, Nat.reduceMul, Nat.reduceSub, Nat.reduceLeDiff, Nat.reduceLT, Int.reduceToNat, Nat.reduceEqDiff, Int.reduceEq]
  refine AW.seq' (AW.ops ?_)
  simp only [RS, LS, ne_eq, gate, isFl, floatV, allP, evK, evF, opd, opdL, opdP, optI, constA, tget, tset, tput, argT, thenQ, blockQ, rangeQ, callQ, RetQ, resL, resV, pack, binA, binbA, binsA, shfA, intA, boolA, eqlA, eqA, eqAs, unA, pickA, convA, nilcA, asI, asB, asS, cut, cutA, cutD, cellsOf, loadA, iaddrA, idxA, sidxA, lenA, lensA, mmA, mmL, mmF, slcA, slcsA, fillA, setA, AV.flat, AV.one, zeroA, zA1, boxA, storeA, putRow, bsliceA, toD, toDs, chunk, mksliceA, appendA, srcOf, copyA, Fl.ex, ↓reduceIte, reduceCtorEq, List.replicate, Nat.reduceBEq, Nat.reduceAdd, Nat.reduceMul, Nat.reduceSub, Nat.reduceLeDiff, Nat.reduceLT, Int.reduceToNat, Nat.reduceEqDiff, Int.reduceEq]
  refine ⟨⟨by decide, by decide⟩, ?_⟩
  have hz : rowsA (ints z12) = [[AI .i64 0], [AI .i64 0], [AI .i64 0], [AI .i64 0], [AI .i64 0], [AI .i64 0], [AI .i64 0], [AI .i64 0], [AI .i64 0], [AI .i64 0], [AI .i64 0], [AI .i64 0]] := rfl
  have fz : ∀ (l : List Int) (h : l.length = 12), (((ints l).drop 0).take 12) = ints l := fun l h => by rw [List.drop_zero, List.take_of_length_le (by simp [h])]
  refine AW.freezeB (id := 0) (t := 3) (k := 1) (rows := ints y12) ?_ (T' := [(0, AB false), (1, .ptr 3 0 0)]) (s' := [none, some (.cells 3 1 (rowsA (ints z12))), some (.cells 3 1 (rowsA (ints z12))), some (.cells 27 3 [[LI y12, .own 1 0 12, .own 2 0 12]])]) ?_ ?_ ?_ ?_
  · rfl
  rotate_left
  · rfl
  · intro i v' h
    rcases i with _ | _ | i <;> simp [tget] at h <;> subst h <;> exact ⟨_, rfl, rfl, trivial⟩
  · intro i b' h
    rcases i with _ | _ | _ | _ | i <;> simp at h <;> subst h
    · exact ⟨by decide, _, rfl, rfl, by simp [fitB, fitL, fitA, rowsA, z12]⟩
    · exact ⟨by decide, _, rfl, rfl, by simp [fitB, fitL, fitA, rowsA, z12]⟩
    · exact ⟨by decide, _, rfl, rfl, by simp [fitB, fitL, fitA, y12, z12]⟩
  refine AW.freezeB (id := 1) (t := 3) (k := 1) (rows := ints z12) ?_ (T' := [(0, AB false), (1, .ptr 3 0 0)]) (s' := [none, none, some (.cells 3 1 (rowsA (ints z12))), some (.cells 27 3 [[LI y12, LI z12, .own 2 0 12]])]) ?_ ?_ ?_ ?_
  · rfl
  rotate_left
  · rfl
  · intro i v' h
    rcases i with _ | _ | i <;> simp [tget] at h <;> subst h <;> exact ⟨_, rfl, rfl, trivial⟩
  · intro i b' h
    rcases i with _ | _ | _ | _ | i <;> simp at h <;> subst h
    · exact ⟨by decide, _, rfl, rfl, by simp [fitB, fitL, fitA, rowsA, z12]⟩
    · exact ⟨by decide, _, rfl, rfl, by simp [fitB, fitL, fitA, y12, z12]⟩
  refine AW.freezeB (id := 2) (t := 3) (k := 1) (rows := ints z12) ?_ (T' := [(0, AB false), (1, .ptr 3 0 0)]) (s' := [none, none, none, some (.cells 27 3 [[LI y12, LI z12, LI z12]])]) ?_ ?_ ?_ ?_
  · rfl
  rotate_left
  · rfl
  · intro i v' h
    rcases i with _ | _ | i <;> simp [tget] at h <;> subst h <;> exact ⟨_, rfl, rfl, trivial⟩
  · intro i b' h
    rcases i with _ | _ | _ | _ | i <;> simp at h <;> subst h
    exact ⟨by decide, _, rfl, rfl, by simp [fitB, fitL, fitA, y12, z12]⟩
  have ly : y12.length = 12 := rfl
  have lz : z12.length = 12 := rfl
  have v1 : facP y12 150 = 150 := by decide
  have v2 : facP y12 450 = 150 := by decide
  have v3 : loadP y12 z12 z12 150 1000 0 = [150, 0, 0] := by decide
  have v4 : loadP y12 z12 z12 0 1000 3300 = [300, 0, 0] := by decide
  refine AW.seq' (AW.ops ?_)
  simp only [RS, LS, ne_eq, gate, isFl, floatV, allP, evK, evF, opd, opdL, opdP, optI, constA, tget, tset, tput, argT, thenQ, blockQ, rangeQ, callQ, RetQ, resL, resV, pack, binA, binbA, binsA, shfA, intA, boolA, eqlA, eqA, eqAs, unA, pickA, convA, nilcA, asI, asB, asS, cut, cutA, cutD, cellsOf, loadA, iaddrA, idxA, sidxA, lenA, lensA, mmA, mmL, mmF, slcA, slcsA, fillA, setA, AV.flat, AV.one, zeroA, zA1, boxA, storeA, putRow, bsliceA, toD, toDs, chunk, mksliceA, appendA, srcOf, copyA, Fl.ex, ↓reduceIte, reduceCtorEq, List.replicate, Nat.reduceBEq, Nat.reduceAdd, Nat.reduceMul, Nat.reduceSub, Nat.reduceLeDiff, Nat.reduceLT, Int.reduceToNat, Nat.reduceEqDiff, Int.reduceEq]
  refine Fn.call (factor_ok y12 (by rw [ly]; decide) 150) rfl rfl ?_
  rw [v1]
  simp only [RS, LS, ne_eq, gate, isFl, floatV, allP, evK, evF, opd, opdL, opdP, optI, constA, tget, tset, tput, argT, thenQ, blockQ, rangeQ, callQ, RetQ, resL, resV, pack, binA, binbA, binsA, shfA, intA, boolA, eqlA, eqA, eqAs, unA, pickA, convA, nilcA, asI, asB, asS, cut, cutA, cutD, cellsOf, loadA, iaddrA, idxA, sidxA, lenA, lensA, mmA, mmL, mmF, slcA, slcsA, fillA, setA, AV.flat, AV.one, zeroA, zA1, boxA, storeA, putRow, bsliceA, toD, toDs, chunk, mksliceA, appendA, srcOf, copyA, Fl.ex, ↓reduceIte, reduceCtorEq, List.replicate, Nat.reduceBEq, Nat.reduceAdd, Nat.reduceMul, Nat.reduceSub, Nat.reduceLeDiff, Nat.reduceLT, Int.reduceToNat, Nat.reduceEqDiff, Int.reduceEq]
  refine Fn.call (factor_ok y12 (by rw [ly]; decide) 450) rfl rfl ?_
  rw [v2]
  simp only [RS, LS, ne_eq, gate, isFl, floatV, allP, evK, evF, opd, opdL, opdP, optI, constA, tget, tset, tput, argT, thenQ, blockQ, rangeQ, callQ, RetQ, resL, resV, pack, binA, binbA, binsA, shfA, intA, boolA, eqlA, eqA, eqAs, unA, pickA, convA, nilcA, asI, asB, asS, cut, cutA, cutD, cellsOf, loadA, iaddrA, idxA, sidxA, lenA, lensA, mmA, mmL, mmF, slcA, slcsA, fillA, setA, AV.flat, AV.one, zeroA, zA1, boxA, storeA, putRow, bsliceA, toD, toDs, chunk, mksliceA, appendA, srcOf, copyA, Fl.ex, ↓reduceIte, reduceCtorEq, List.replicate, Nat.reduceBEq, Nat.reduceAdd, Nat.reduceMul, Nat.reduceSub, Nat.reduceLeDiff, Nat.reduceLT, Int.reduceToNat, Nat.reduceEqDiff, Int.reduceEq]
  refine Fn.call (wload_ok y12 z12 z12 ⟨by rw [ly]; decide, by rw [lz]; decide, by rw [lz]; decide⟩ 150 1000 0) rfl (by rw [v3]; rfl) ?_
  rw [v3]
  simp only [RS, LS, ne_eq, gate, isFl, floatV, allP, evK, evF, opd, opdL, opdP, optI, constA, tget, tset, tput, argT, thenQ, blockQ, rangeQ, callQ, RetQ, resL, resV, pack, binA, binbA, binsA, shfA, intA, boolA, eqlA, eqA, eqAs, unA, pickA, convA, nilcA, asI, asB, asS, cut, cutA, cutD, cellsOf, loadA, iaddrA, idxA, sidxA, lenA, lensA, mmA, mmL, mmF, slcA, slcsA, fillA, setA, AV.flat, AV.one, zeroA, zA1, boxA, storeA, putRow, bsliceA, toD, toDs, chunk, mksliceA, appendA, srcOf, copyA, Fl.ex, ↓reduceIte, reduceCtorEq, List.replicate, Nat.reduceBEq, Nat.reduceAdd, Nat.reduceMul, Nat.reduceSub, Nat.reduceLeDiff, Nat.reduceLT, Int.reduceToNat, Nat.reduceEqDiff, Int.reduceEq, eqA, eqAs]
  refine Fn.call (wload_ok y12 z12 z12 ⟨by rw [ly]; decide, by rw [lz]; decide, by rw [lz]; decide⟩ 0 1000 3300) rfl (by rw [v4]; rfl) ?_
  rw [v4]
  simp only [RS, LS, ne_eq, gate, isFl, floatV, allP, evK, evF, opd, opdL, opdP, optI, constA, tget, tset, tput, argT, thenQ, blockQ, rangeQ, callQ, RetQ, resL, resV, pack, binA, binbA, binsA, shfA, intA, boolA, eqlA, eqA, eqAs, unA, pickA, convA, nilcA, asI, asB, asS, cut, cutA, cutD, cellsOf, loadA, iaddrA, idxA, sidxA, lenA, lensA, mmA, mmL, mmF, slcA, slcsA, fillA, setA, AV.flat, AV.one, zeroA, zA1, boxA, storeA, putRow, bsliceA, toD, toDs, chunk, mksliceA, appendA, srcOf, copyA, Fl.ex, ↓reduceIte, reduceCtorEq, List.replicate, Nat.reduceBEq, Nat.reduceAdd, Nat.reduceMul, Nat.reduceSub, Nat.reduceLeDiff, Nat.reduceLT, Int.reduceToNat, Nat.reduceEqDiff, Int.reduceEq, eqA, eqAs]
  refine AW.ret ?_
  simp only [RS, LS, ne_eq, gate, isFl, floatV, allP, evK, evF, opd, opdL, opdP, optI, constA, tget, tset, tput, argT, thenQ, blockQ, rangeQ, callQ, RetQ, resL, resV, pack, binA, binbA, binsA, shfA, intA, boolA, eqlA, eqA, eqAs, unA, pickA, convA, nilcA, asI, asB, asS, cut, cutA, cutD, cellsOf, loadA, iaddrA, idxA, sidxA, lenA, lensA, mmA, mmL, mmF, slcA, slcsA, fillA, setA, AV.flat, AV.one, zeroA, zA1, boxA, storeA, putRow, bsliceA, toD, toDs, chunk, mksliceA, appendA, srcOf, copyA, Fl.ex, ↓reduceIte, reduceCtorEq, List.replicate, Nat.reduceBEq, Nat.reduceAdd, Nat.reduceMul, Nat.reduceSub, Nat.reduceLeDiff, Nat.reduceLT, Int.reduceToNat, Nat.reduceEqDiff, Int.reduceEq]
end Go.Proofs.Ytapdjkiekjdgdaa.H
