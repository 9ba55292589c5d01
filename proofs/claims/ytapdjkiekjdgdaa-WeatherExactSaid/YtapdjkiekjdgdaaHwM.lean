/- Chapter 22: the law. -/
import Derived.Test.YtapdjkiekjdgdaaHwL
set_option linter.unusedSimpArgs false
set_option linter.unusedVariables false
namespace Go.Proofs.Ytapdjkiekjdgdaa.H
theorem totF3 (x : HD) (w : WD) (y : Int) : ∃ p q r, totF x w y = [p, q, r] := by
  unfold totF sumP; split
  · exact ⟨_, _, _, rfl⟩
  · exact ⟨_, _, _, rfl⟩
abbrev HD.cells (x : HD) : List AV := [LI x.a, LI x.b, LI x.c, LI x.d, LI x.e, LI x.f, LI x.g, LI x.h, LI x.i, AI .i64 x.m, AI .i64 x.n, AI .i64 x.p, AI .i64 x.q]
abbrev WD.cells (x : WD) : List AV := [AI .i64 x.a, AI .i64 x.b, AI .i64 x.c, AI .i64 x.d, AI .i64 x.e, AI .i64 x.f]
/-- What the law keeps: a list, a curve, a flow, a hull, two weathers, two numbers. -/
structure LD where
  t : List Int
  a : List Int
  b : List Int
  c : List Int
  fx : Int
  fv : Int
  hd : Int
  an : Int
  h : HD
  w : WD
  o : WD
abbrev LD.B (d : LD) : Tm := [(3, AI .i64 d.hd), (4, AI .i64 d.an), (6, .ptr 0 0 0), (7, .ptr 1 0 0), (10, AB false), (11, .ptr 2 0 0), (13, .ptr 4 0 0), (14, .ptr 5 0 0)]
abbrev LD.S (d : LD) (p : Nat) : St := [some (.cells 27 3 [[LI d.a, LI d.b, LI d.c]]), some (.cells 33 2 [[AI .i64 d.fx, AI .i64 d.fv]]), SrcS 65 d.t p, some (.cells 45 13 [d.h.cells]), some (.cells 48 6 [d.w.cells]), some (.cells 48 6 [d.o.cells])]
structure LD.ok (d : LD) : Prop where
  t : d.t.length ≤ 600
  abc : d.a.length ≤ 30 ∧ d.b.length ≤ 30 ∧ d.c.length ≤ 30
  h : d.h.ok
abbrev LD.SH (d : LD) (p : Nat) (x : HD) : St := [some (.cells 27 3 [[LI d.a, LI d.b, LI d.c]]), some (.cells 33 2 [[AI .i64 d.fx, AI .i64 d.fv]]), SrcS 65 d.t p, some (.cells 45 13 [d.h.cells]), some (.cells 48 6 [d.w.cells]), some (.cells 48 6 [d.o.cells]), some (.cells 45 13 [x.cells])]
theorem nsL {d : LD} {p n : Nat} {rest : St} : NS n (nmL [0, 1, 2, 3, 4, 5]) (some (.cells 27 3 [[LI d.a, LI d.b, LI d.c]]) :: some (.cells 33 2 [[AI .i64 d.fx, AI .i64 d.fv]]) :: SrcS 65 d.t p :: some (.cells 45 13 [d.h.cells]) :: some (.cells 48 6 [d.w.cells]) :: some (.cells 48 6 [d.o.cells]) :: rest) 0 (d.S p) :=
  ⟨⟨rfl, rfl⟩, ⟨rfl, rfl⟩, ⟨rfl, rfl⟩, ⟨rfl, rfl⟩, ⟨rfl, rfl⟩, ⟨rfl, rfl⟩, trivial⟩
theorem nsX {d : LD} {p n : Nat} {x : HD} {rest : St} : NS n (nmL [0, 1, 2, 3, 4, 5, 6]) (some (.cells 27 3 [[LI d.a, LI d.b, LI d.c]]) :: some (.cells 33 2 [[AI .i64 d.fx, AI .i64 d.fv]]) :: SrcS 65 d.t p :: some (.cells 45 13 [d.h.cells]) :: some (.cells 48 6 [d.w.cells]) :: some (.cells 48 6 [d.o.cells]) :: some (.cells 45 13 [x.cells]) :: rest) 0 (d.SH p x) :=
  ⟨⟨rfl, rfl⟩, ⟨rfl, rfl⟩, ⟨rfl, rfl⟩, ⟨rfl, rfl⟩, ⟨rfl, rfl⟩, ⟨rfl, rfl⟩, ⟨rfl, rfl⟩, trivial⟩
abbrev LD.L2 (d : LD) (big : List AV) (i j : Nat) (z : List AV) : Tm := (88, .agg z) :: (89, AI .i64 j) :: (16, .ptr 6 0 0) :: (74, .agg big) :: (75, AI .i64 i) :: d.B
/-- The loop over weathers. -/
theorem loop0 (d : LD) (hd : d.ok) (x : HD) (hx : x.ok) (p : Nat) (y : Int) {big z : List AV} (hb : belL 0 big = true) (hz : belL 0 z = true) {ii jj : Nat} {T : Tm} {s : St} {Q : Fl → Tm → St → Prop}
    (hN : Nrm [0, 1, 2, 3, 4, 5, 6] 0 T s ((95, AI .i64 0) :: (94, .agg (d.w.cells ++ d.o.cells)) :: (18, AI .i64 y) :: d.L2 big ii jj z) (d.SH p x))
    (he : Q .normal (tset 96 (AB false) ((95, AI .i64 2) :: (94, .agg (d.w.cells ++ d.o.cells)) :: (18, AI .i64 y) :: d.L2 big ii jj z)) (d.SH p x)) : AW Try.prog 182 0 (.block 4 (.loop c6_0)) T s Q := by
  unfold c6_0
  refine AW.arr (α := Unit) 2 (by decide) (by decide) (fun _ _ => (94, .agg (d.w.cells ++ d.o.cells)) :: (18, AI .i64 y) :: d.L2 big ii jj z) (fun _ _ => d.SH p x) (fun _ _ => True) () trivial [0, 1, 2, 3, 4, 5, 6] hN (by simp) ?_ (fun _ _ => he)
  intro i _ hi _
  have hcut : ∃ w : WD, List.take 6 (List.drop (i * 6) (d.w.cells ++ d.o.cells)) = w.cells := by
    match i with
    | 0 => exact ⟨d.w, rfl⟩
    | 1 => exact ⟨d.o, rfl⟩
    | i + 2 => omega
  obtain ⟨w, hw⟩ := hcut
  simp only [List.cons_append, List.nil_append] at hw
  have g : i * 6 + 6 ≤ 12 := by omega
  obtain ⟨t1, t2, t3, ht⟩ := totF3 x w y
  refine AW.block (AW.seq' (AW.ops ?_))
  simp only [RS, LS, ne_eq, gate, isFl, floatV, allP, evK, evF, opd, opdL, opdP, optI, constA, tget, tset, tput, argT, thenQ, blockQ, rangeQ, callQ, RetQ, resL, resV, pack, binA, binbA, binsA, shfA, intA, boolA, eqlA, eqA, eqAs, unA, pickA, convA, nilcA, asI, asB, asS, cut, cutA, cutD, cellsOf, loadA, iaddrA, idxA, sidxA, lenA, lensA, mmA, mmL, mmF, slcA, slcsA, fillA, setA, AV.flat, AV.one, zeroA, zA1, boxA, storeA, putRow, bsliceA, toD, toDs, chunk, mksliceA, appendA, srcOf, copyA, Fl.ex, ↓reduceIte, reduceCtorEq, List.replicate, Nat.reduceBEq, Nat.reduceAdd, Nat.reduceMul, Nat.reduceSub, Nat.reduceLeDiff, Nat.reduceLT, Int.reduceToNat, Nat.reduceEqDiff, Int.reduceEq, hw, g]
  refine ⟨⟨by omega, Int.ofNat_lt.2 hi⟩, AW.seq' (AW.ops ?_)⟩
  simp only [RS, LS, ne_eq, gate, isFl, floatV, allP, evK, evF, opd, opdL, opdP, optI, constA, tget, tset, tput, argT, thenQ, blockQ, rangeQ, callQ, RetQ, resL, resV, pack, binA, binbA, binsA, shfA, intA, boolA, eqlA, eqA, eqAs, unA, pickA, convA, nilcA, asI, asB, asS, cut, cutA, cutD, cellsOf, loadA, iaddrA, idxA, sidxA, lenA, lensA, mmA, mmL, mmF, slcA, slcsA, fillA, setA, AV.flat, AV.one, zeroA, zA1, boxA, storeA, putRow, bsliceA, toD, toDs, chunk, mksliceA, appendA, srcOf, copyA, Fl.ex, ↓reduceIte, reduceCtorEq, List.replicate, Nat.reduceBEq, Nat.reduceAdd, Nat.reduceMul, Nat.reduceSub, Nat.reduceLeDiff, Nat.reduceLT, Int.reduceToNat, Nat.reduceEqDiff, Int.reduceEq]
  refine Fn.call (total_ok x hx w y) rfl (by rw [totA, ht]; rfl) ?_
  simp only [RS, LS, ne_eq, gate, isFl, floatV, allP, evK, evF, opd, opdL, opdP, optI, constA, tget, tset, tput, argT, thenQ, blockQ, rangeQ, callQ, RetQ, resL, resV, pack, binA, binbA, binsA, shfA, intA, boolA, eqlA, eqA, eqAs, unA, pickA, convA, nilcA, asI, asB, asS, cut, cutA, cutD, cellsOf, loadA, iaddrA, idxA, sidxA, lenA, lensA, mmA, mmL, mmF, slcA, slcsA, fillA, setA, AV.flat, AV.one, zeroA, zA1, boxA, storeA, putRow, bsliceA, toD, toDs, chunk, mksliceA, appendA, srcOf, copyA, Fl.ex, ↓reduceIte, reduceCtorEq, List.replicate, Nat.reduceBEq, Nat.reduceAdd, Nat.reduceMul, Nat.reduceSub, Nat.reduceLeDiff, Nat.reduceLT, Int.reduceToNat, Nat.reduceEqDiff, Int.reduceEq, totA, ht]
  refine AW.seq' (AW.ops ?_)
  simp only [RS, LS, ne_eq, gate, isFl, floatV, allP, evK, evF, opd, opdL, opdP, optI, constA, tget, tset, tput, argT, thenQ, blockQ, rangeQ, callQ, RetQ, resL, resV, pack, binA, binbA, binsA, shfA, intA, boolA, eqlA, eqA, eqAs, unA, pickA, convA, nilcA, asI, asB, asS, cut, cutA, cutD, cellsOf, loadA, iaddrA, idxA, sidxA, lenA, lensA, mmA, mmL, mmF, slcA, slcsA, fillA, setA, AV.flat, AV.one, zeroA, zA1, boxA, storeA, putRow, bsliceA, toD, toDs, chunk, mksliceA, appendA, srcOf, copyA, Fl.ex, ↓reduceIte, reduceCtorEq, List.replicate, Nat.reduceBEq, Nat.reduceAdd, Nat.reduceMul, Nat.reduceSub, Nat.reduceLeDiff, Nat.reduceLT, Int.reduceToNat, Nat.reduceEqDiff, Int.reduceEq]
  refine Fn.call (rtotal_ok x hx w y) rfl (by rw [totA, ht]; rfl) ?_
  simp only [RS, LS, ne_eq, gate, isFl, floatV, allP, evK, evF, opd, opdL, opdP, optI, constA, tget, tset, tput, argT, thenQ, blockQ, rangeQ, callQ, RetQ, resL, resV, pack, binA, binbA, binsA, shfA, intA, boolA, eqlA, eqA, eqAs, unA, pickA, convA, nilcA, asI, asB, asS, cut, cutA, cutD, cellsOf, loadA, iaddrA, idxA, sidxA, lenA, lensA, mmA, mmL, mmF, slcA, slcsA, fillA, setA, AV.flat, AV.one, zeroA, zA1, boxA, storeA, putRow, bsliceA, toD, toDs, chunk, mksliceA, appendA, srcOf, copyA, Fl.ex, ↓reduceIte, reduceCtorEq, List.replicate, Nat.reduceBEq, Nat.reduceAdd, Nat.reduceMul, Nat.reduceSub, Nat.reduceLeDiff, Nat.reduceLT, Int.reduceToNat, Nat.reduceEqDiff, Int.reduceEq, totA, ht]
  refine AW.seq' (AW.draw ?_)
  simp only [RS, LS, ne_eq, gate, isFl, floatV, allP, evK, evF, opd, opdL, opdP, optI, constA, tget, tset, tput, argT, thenQ, blockQ, rangeQ, callQ, RetQ, resL, resV, pack, binA, binbA, binsA, shfA, intA, boolA, eqlA, eqA, eqAs, unA, pickA, convA, nilcA, asI, asB, asS, cut, cutA, cutD, cellsOf, loadA, iaddrA, idxA, sidxA, lenA, lensA, mmA, mmL, mmF, slcA, slcsA, fillA, setA, AV.flat, AV.one, zeroA, zA1, boxA, storeA, putRow, bsliceA, toD, toDs, chunk, mksliceA, appendA, srcOf, copyA, Fl.ex, ↓reduceIte, reduceCtorEq, List.replicate, Nat.reduceBEq, Nat.reduceAdd, Nat.reduceMul, Nat.reduceSub, Nat.reduceLeDiff, Nat.reduceLT, Int.reduceToNat, Nat.reduceEqDiff, Int.reduceEq]
  refine Fn.call (valid_ok w.a w.b w.c w.d w.e w.f) rfl rfl ?_
  simp only [RS, LS, ne_eq, gate, isFl, floatV, allP, evK, evF, opd, opdL, opdP, optI, constA, tget, tset, tput, argT, thenQ, blockQ, rangeQ, callQ, RetQ, resL, resV, pack, binA, binbA, binsA, shfA, intA, boolA, eqlA, eqA, eqAs, unA, pickA, convA, nilcA, asI, asB, asS, cut, cutA, cutD, cellsOf, loadA, iaddrA, idxA, sidxA, lenA, lensA, mmA, mmL, mmF, slcA, slcsA, fillA, setA, AV.flat, AV.one, zeroA, zA1, boxA, storeA, putRow, bsliceA, toD, toDs, chunk, mksliceA, appendA, srcOf, copyA, Fl.ex, ↓reduceIte, reduceCtorEq, List.replicate, Nat.reduceBEq, Nat.reduceAdd, Nat.reduceMul, Nat.reduceSub, Nat.reduceLeDiff, Nat.reduceLT, Int.reduceToNat, Nat.reduceEqDiff, Int.reduceEq]
  refine Fn.call (rvalid_ok w.a w.b w.c w.d w.e w.f) rfl rfl ?_
  simp only [RS, LS, ne_eq, gate, isFl, floatV, allP, evK, evF, opd, opdL, opdP, optI, constA, tget, tset, tput, argT, thenQ, blockQ, rangeQ, callQ, RetQ, resL, resV, pack, binA, binbA, binsA, shfA, intA, boolA, eqlA, eqA, eqAs, unA, pickA, convA, nilcA, asI, asB, asS, cut, cutA, cutD, cellsOf, loadA, iaddrA, idxA, sidxA, lenA, lensA, mmA, mmL, mmF, slcA, slcsA, fillA, setA, AV.flat, AV.one, zeroA, zA1, boxA, storeA, putRow, bsliceA, toD, toDs, chunk, mksliceA, appendA, srcOf, copyA, Fl.ex, ↓reduceIte, reduceCtorEq, List.replicate, Nat.reduceBEq, Nat.reduceAdd, Nat.reduceMul, Nat.reduceSub, Nat.reduceLeDiff, Nat.reduceLT, Int.reduceToNat, Nat.reduceEqDiff, Int.reduceEq]
  refine AW.cond rfl rfl (fun h => by cases h) (fun _ => AW.skip ?_)
  simp only [RS, LS, ne_eq, gate, isFl, floatV, allP, evK, evF, opd, opdL, opdP, optI, constA, tget, tset, tput, argT, thenQ, blockQ, rangeQ, callQ, RetQ, resL, resV, pack, binA, binbA, binsA, shfA, intA, boolA, eqlA, eqA, eqAs, unA, pickA, convA, nilcA, asI, asB, asS, cut, cutA, cutD, cellsOf, loadA, iaddrA, idxA, sidxA, lenA, lensA, mmA, mmL, mmF, slcA, slcsA, fillA, setA, AV.flat, AV.one, zeroA, zA1, boxA, storeA, putRow, bsliceA, toD, toDs, chunk, mksliceA, appendA, srcOf, copyA, Fl.ex, ↓reduceIte, reduceCtorEq, List.replicate, Nat.reduceBEq, Nat.reduceAdd, Nat.reduceMul, Nat.reduceSub, Nat.reduceLeDiff, Nat.reduceLT, Int.reduceToNat, Nat.reduceEqDiff, Int.reduceEq, rangeNQ]
  refine ⟨(), [0, 1, 2, 3, 4, 5, 6], rfl, by decide, rfl, ?_, nsX⟩
  simp [NT, belA, belL, tget, renA, renL, nmL, belL_mono (Nat.zero_le _) hb, renL_bel0 _ hb, belL_mono (Nat.zero_le _) hz, renL_bel0 _ hz]
/-- The loop over flows. -/
theorem loop1 (d : LD) (hd : d.ok) (x : HD) (hx : x.ok) (p : Nat) (y : Int) {big z : List AV} (hb : belL 0 big = true) (hz : belL 0 z = true) {ii jj : Nat} {T : Tm} {s : St} {Q : Fl → Tm → St → Prop}
    (hN : Nrm [0, 1, 2, 3, 4, 5, 6] 0 T s ((132, AI .i64 0) :: (131, .agg [AI .i64 d.fx, AI .i64 d.fv, AI .i64 d.w.a, AI .i64 d.w.b]) :: (18, AI .i64 y) :: d.L2 big ii jj z) (d.SH p x))
    (he : Q .normal (tset 133 (AB false) ((132, AI .i64 2) :: (131, .agg [AI .i64 d.fx, AI .i64 d.fv, AI .i64 d.w.a, AI .i64 d.w.b]) :: (18, AI .i64 y) :: d.L2 big ii jj z)) (d.SH p x)) : AW Try.prog 182 0 (.block 6 (.loop c6_1)) T s Q := by
  unfold c6_1
  refine AW.arr (α := Unit) 2 (by decide) (by decide) (fun _ _ => (131, .agg [AI .i64 d.fx, AI .i64 d.fv, AI .i64 d.w.a, AI .i64 d.w.b]) :: (18, AI .i64 y) :: d.L2 big ii jj z) (fun _ _ => d.SH p x) (fun _ _ => True) () trivial [0, 1, 2, 3, 4, 5, 6] hN (by simp) ?_ (fun _ _ => he)
  intro i _ hi _
  have hcut : ∃ u v : Int, List.take 2 (List.drop (i * 2) [AI .i64 d.fx, AI .i64 d.fv, AI .i64 d.w.a, AI .i64 d.w.b]) = [AI .i64 u, AI .i64 v] := by
    match i with
    | 0 => exact ⟨_, _, rfl⟩
    | 1 => exact ⟨_, _, rfl⟩
    | i + 2 => omega
  obtain ⟨u, v, hw⟩ := hcut
  have g : i * 2 + 2 ≤ 4 := by omega
  obtain ⟨t1, t2, t3, ht, -⟩ := loadP_sm x.a x.b x.c u v y
  have hl : x.a.length ≤ 30 ∧ x.b.length ≤ 30 ∧ x.c.length ≤ 30 := ⟨hx.1, hx.2.1, hx.2.2.1⟩
  refine AW.block (AW.seq' (AW.ops ?_))
  simp only [RS, LS, ne_eq, gate, isFl, floatV, allP, evK, evF, opd, opdL, opdP, optI, constA, tget, tset, tput, argT, thenQ, blockQ, rangeQ, callQ, RetQ, resL, resV, pack, binA, binbA, binsA, shfA, intA, boolA, eqlA, eqA, eqAs, unA, pickA, convA, nilcA, asI, asB, asS, cut, cutA, cutD, cellsOf, loadA, iaddrA, idxA, sidxA, lenA, lensA, mmA, mmL, mmF, slcA, slcsA, fillA, setA, AV.flat, AV.one, zeroA, zA1, boxA, storeA, putRow, bsliceA, toD, toDs, chunk, mksliceA, appendA, srcOf, copyA, Fl.ex, ↓reduceIte, reduceCtorEq, List.replicate, Nat.reduceBEq, Nat.reduceAdd, Nat.reduceMul, Nat.reduceSub, Nat.reduceLeDiff, Nat.reduceLT, Int.reduceToNat, Nat.reduceEqDiff, Int.reduceEq, hw, g]
  refine ⟨⟨by omega, Int.ofNat_lt.2 hi⟩, AW.seq' (AW.draw ?_)⟩
  simp only [RS, LS, ne_eq, gate, isFl, floatV, allP, evK, evF, opd, opdL, opdP, optI, constA, tget, tset, tput, argT, thenQ, blockQ, rangeQ, callQ, RetQ, resL, resV, pack, binA, binbA, binsA, shfA, intA, boolA, eqlA, eqA, eqAs, unA, pickA, convA, nilcA, asI, asB, asS, cut, cutA, cutD, cellsOf, loadA, iaddrA, idxA, sidxA, lenA, lensA, mmA, mmL, mmF, slcA, slcsA, fillA, setA, AV.flat, AV.one, zeroA, zA1, boxA, storeA, putRow, bsliceA, toD, toDs, chunk, mksliceA, appendA, srcOf, copyA, Fl.ex, ↓reduceIte, reduceCtorEq, List.replicate, Nat.reduceBEq, Nat.reduceAdd, Nat.reduceMul, Nat.reduceSub, Nat.reduceLeDiff, Nat.reduceLT, Int.reduceToNat, Nat.reduceEqDiff, Int.reduceEq]
  refine Fn.call (wload_ok x.a x.b x.c hl u v y) rfl (by rw [ht]; rfl) ?_
  simp only [RS, LS, ne_eq, gate, isFl, floatV, allP, evK, evF, opd, opdL, opdP, optI, constA, tget, tset, tput, argT, thenQ, blockQ, rangeQ, callQ, RetQ, resL, resV, pack, binA, binbA, binsA, shfA, intA, boolA, eqlA, eqA, eqAs, unA, pickA, convA, nilcA, asI, asB, asS, cut, cutA, cutD, cellsOf, loadA, iaddrA, idxA, sidxA, lenA, lensA, mmA, mmL, mmF, slcA, slcsA, fillA, setA, AV.flat, AV.one, zeroA, zA1, boxA, storeA, putRow, bsliceA, toD, toDs, chunk, mksliceA, appendA, srcOf, copyA, Fl.ex, ↓reduceIte, reduceCtorEq, List.replicate, Nat.reduceBEq, Nat.reduceAdd, Nat.reduceMul, Nat.reduceSub, Nat.reduceLeDiff, Nat.reduceLT, Int.reduceToNat, Nat.reduceEqDiff, Int.reduceEq, ht]
  refine Fn.call (rload_ok x.a x.b x.c hl u v y) rfl (by rw [ht]; rfl) ?_
  simp only [RS, LS, ne_eq, gate, isFl, floatV, allP, evK, evF, opd, opdL, opdP, optI, constA, tget, tset, tput, argT, thenQ, blockQ, rangeQ, callQ, RetQ, resL, resV, pack, binA, binbA, binsA, shfA, intA, boolA, eqlA, eqA, eqAs, unA, pickA, convA, nilcA, asI, asB, asS, cut, cutA, cutD, cellsOf, loadA, iaddrA, idxA, sidxA, lenA, lensA, mmA, mmL, mmF, slcA, slcsA, fillA, setA, AV.flat, AV.one, zeroA, zA1, boxA, storeA, putRow, bsliceA, toD, toDs, chunk, mksliceA, appendA, srcOf, copyA, Fl.ex, ↓reduceIte, reduceCtorEq, List.replicate, Nat.reduceBEq, Nat.reduceAdd, Nat.reduceMul, Nat.reduceSub, Nat.reduceLeDiff, Nat.reduceLT, Int.reduceToNat, Nat.reduceEqDiff, Int.reduceEq, ht]
  refine AW.cond rfl rfl (fun h => by cases h) (fun _ => AW.skip ?_)
  simp only [RS, LS, ne_eq, gate, isFl, floatV, allP, evK, evF, opd, opdL, opdP, optI, constA, tget, tset, tput, argT, thenQ, blockQ, rangeQ, callQ, RetQ, resL, resV, pack, binA, binbA, binsA, shfA, intA, boolA, eqlA, eqA, eqAs, unA, pickA, convA, nilcA, asI, asB, asS, cut, cutA, cutD, cellsOf, loadA, iaddrA, idxA, sidxA, lenA, lensA, mmA, mmL, mmF, slcA, slcsA, fillA, setA, AV.flat, AV.one, zeroA, zA1, boxA, storeA, putRow, bsliceA, toD, toDs, chunk, mksliceA, appendA, srcOf, copyA, Fl.ex, ↓reduceIte, reduceCtorEq, List.replicate, Nat.reduceBEq, Nat.reduceAdd, Nat.reduceMul, Nat.reduceSub, Nat.reduceLeDiff, Nat.reduceLT, Int.reduceToNat, Nat.reduceEqDiff, Int.reduceEq, rangeNQ]
  refine ⟨(), [0, 1, 2, 3, 4, 5, 6], rfl, by decide, rfl, ?_, nsX⟩
  simp [NT, belA, belL, tget, renA, renL, nmL, belL_mono (Nat.zero_le _) hb, renL_bel0 _ hb, belL_mono (Nat.zero_le _) hz, renL_bel0 _ hz]
end Go.Proofs.Ytapdjkiekjdgdaa.H
