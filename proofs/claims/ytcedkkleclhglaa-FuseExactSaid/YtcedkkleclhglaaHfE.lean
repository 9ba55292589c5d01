/- Chapter 9: the law of exactness. -/
import Derived.Test.YtcedkkleclhglaaHfC
import Derived.Test.YtcedkkleclhglaaHfD
import Derived.Test.YtcedkkleclhglaaHyB
set_option linter.unusedSimpArgs false
set_option linter.unusedVariables false
namespace Go.Proofs.Ytcedkkleclhglaa.H
theorem dec_fxs {x : D} (h : okD (.sl [.int .i64, .int .i64, .int .i64, .int .i64]) x) : ∃ l : List Fx, x = .lst 4 (fxs l) ∧ l.length ≤ 9223372036854775807 := by
  obtain ⟨rows, rfl, hl, h⟩ := okD_sl h
  obtain ⟨l, rfl⟩ := map_of (f := fxR) (l := rows) fun r hr => by
    obtain ⟨d1, e1, rfl, k1, m1⟩ := okDs_cons (h r hr)
    obtain ⟨d2, e2, rfl, k2, m2⟩ := okDs_cons m1
    obtain ⟨d3, e3, rfl, k3, m3⟩ := okDs_cons m2
    obtain ⟨d4, e4, rfl, k4, m4⟩ := okDs_cons m3
    obtain rfl := okDs_nil m4
    obtain ⟨z1, rfl, _⟩ := okD_int k1
    obtain ⟨z2, rfl, _⟩ := okD_int k2
    obtain ⟨z3, rfl, _⟩ := okD_int k3
    obtain ⟨z4, rfl, _⟩ := okD_int k4
    exact ⟨⟨z1, z2, z3, z4⟩, rfl⟩
  exact ⟨l, rfl, by simpa using hl⟩
theorem fsane_ok : Fn Try.prog 9 [] (AB true) := by
  refine Fn.of fn9 (by simp) rfl ?_
  unfold c9
  have h := fuse_ok [⟨0, 0, 0, 10⟩, ⟨0, 10, 0, 10⟩] (by simp)
  rw [show fuseV [⟨0, 0, 0, 10⟩, ⟨0, 10, 0, 10⟩] = .tup [AP 5 0, AI .i64 15, AI .i64 0] by kernel_rfl] at h
  have g := grow_ok 5 10 3
  rw [show growP 5 10 3 = (35, 0) by kernel_rfl] at g
  have k := weight_ok 0
  rw [show wtP 0 = 0 by kernel_rfl] at k
  repeat' (first | refine AW.seq' ?_ | with_reducible refine AW.blockS rfl ?_ | ((first | refine AW.ops ?_ | refine AW.draw ?_ | refine AW.skip ?_ | refine AW.ret ?_ | refine AW.exit ?_ |  refine Fn.callW h (.cons (.ful _ _) .nil) rfl rfl ?_ | refine Fn.call (g) rfl rfl ?_ | refine Fn.call (k) rfl rfl ?_) <;> simp only [RS, LS, decide_eq_true_eq, Bool.not_eq_true', decide_eq_false_iff_not, Bool.not_eq_false', ne_eq, gate, isFl, floatV, allP, evK, evF, opd, opdL, opdP, optI, constA, tget, tset, tput, argT, thenQ, blockQ, rangeQ, callQ, RetQ, resL, resV, pack, binA, binbA, binsA, shfA, intA, boolA, eqlA, eqA, eqAs, unA, pickA, convA, nilcA, asI, asB, asS, cut, cutA, cutD, cellsOf, loadA, iaddrA, idxA, sidxA, lenA, lensA, mmA, mmL, mmF, slcA, slcsA, fillA, setA, AV.flat, AV.one, zeroA, zA1, boxA, storeA, putRow, bsliceA, toD, toDs, chunk, mksliceA, appendA, srcOf, copyA, Fl.ex, ↓reduceIte, reduceCtorEq, List.replicate, Nat.reduceBEq, Nat.reduceAdd, Nat.reduceMul, Nat.reduceSub, Nat.reduceLeDiff, Nat.reduceLT, Int.reduceToNat, Nat.reduceEqDiff, Int.reduceEq]) | refine AW.condT rfl ?_ | refine AW.condF rfl ?_ | ((first | refine GI.of (fun h => ?_) (fun h => ?_) (by first | exact Classical.em _ | exact (Classical.em _).symm | grind) | refine GD.of (fun h => ?_) (fun h => ?_) (by first | exact Classical.em _ | exact (Classical.em _).symm | grind)) <;> simp only [RS, LS, decide_eq_true_eq, Bool.not_eq_true', decide_eq_false_iff_not, Bool.not_eq_false', ne_eq, gate, isFl, floatV, allP, evK, evF, opd, opdL, opdP, optI, constA, tget, tset, tput, argT, thenQ, blockQ, rangeQ, callQ, RetQ, resL, resV, pack, binA, binbA, binsA, shfA, intA, boolA, eqlA, eqA, eqAs, unA, pickA, convA, nilcA, asI, asB, asS, cut, cutA, cutD, cellsOf, loadA, iaddrA, idxA, sidxA, lenA, lensA, mmA, mmL, mmF, slcA, slcsA, fillA, setA, AV.flat, AV.one, zeroA, zA1, boxA, storeA, putRow, bsliceA, toD, toDs, chunk, mksliceA, appendA, srcOf, copyA, Fl.ex, ↓reduceIte, reduceCtorEq, List.replicate, Nat.reduceBEq, Nat.reduceAdd, Nat.reduceMul, Nat.reduceSub, Nat.reduceLeDiff, Nat.reduceLT, Int.reduceToNat, Nat.reduceEqDiff, Int.reduceEq, h]) | (refine AW.condP rfl (fun h => ?_) (fun h => ?_) <;> simp only [decide_eq_true_eq, Bool.not_eq_true', decide_eq_false_iff_not, Bool.not_eq_false', Bool.not_eq_true, Bool.not_eq_false] at h) | refine And.intro (by omega) ?_ | fail)
theorem fuse_ex (l : List Fx) (hl : l.length ≤ 1000000) : ∃ x y b e, Fn Try.prog 12 [.d (.lst 4 (fxs l))] (.tup [AP x y, AI .i64 b, AI .i64 e]) ∧ Fn Try.prog 17 [.d (.lst 4 (fxs l))] (.tup [AP x y, AI .i64 b, AI .i64 e]) := by
  have h := fuse_ok l hl
  have g := rfuse_ok l hl
  unfold fuseV at h g
  split at h
  · rename_i hc; rw [if_pos hc] at g; exact ⟨_, _, _, _, h, g⟩
  · rename_i hc; rw [if_neg hc] at g; exact ⟨_, _, _, _, h, g⟩
theorem common_ex (l : List Fx) (hl : l.length ≤ 1000000) : ∃ x y u v b, Fn Try.prog 18 [.d (.lst 4 (fxs l))] (.tup [AP x y, AP u v, AB b]) ∧ Fn Try.prog 19 [.d (.lst 4 (fxs l))] (.tup [AP x y, AP u v, AB b]) := by
  have h := common_ok l hl
  have g := rcommon_ok l hl
  unfold comV at h g
  split at h
  · rename_i hc; rw [if_pos hc] at g; exact ⟨_, _, _, _, _, h, g⟩
  · rename_i hc; rw [if_neg hc] at g; exact ⟨_, _, _, _, _, h, g⟩
theorem hull_ex (l : List Fx) (hl : l.length ≤ 1000000) : ∃ x y u v b, Fn Try.prog 20 [.d (.lst 4 (fxs l))] (.tup [AP x y, AP u v, AB b]) ∧ Fn Try.prog 21 [.d (.lst 4 (fxs l))] (.tup [AP x y, AP u v, AB b]) := by
  have h := hull_ok l hl
  have g := rhull_ok l hl
  unfold hulV at h g
  split at h
  · rename_i hc; rw [if_pos hc] at g; exact ⟨_, _, _, _, _, h, g⟩
  · rename_i hc; rw [if_neg hc] at g; exact ⟨_, _, _, _, _, h, g⟩
abbrev LF (l : List Fx) : AV := .d (.lst 4 (fxs l))
set_option maxRecDepth 100000 in
set_option maxHeartbeats 4000000 in
theorem floop0 {L : List Int} (hL : L.length ≤ 600) (p : Nat) (l0 l1 l2 : List Fx) (h0 : l0.length ≤ 1000000) (h1 : l1.length ≤ 1000000) (h2 : l2.length ≤ 1000000) (a b c : Int) {T : Tm} {s : St} {Q : Fl → Tm → St → Prop}
    (hN : Nrm [0] 0 T s ((62, AI .i64 0) :: [(61, .agg [LF l0, LF l1, LF l2]), (11, .ptr 0 0 0), (2, AI .i64 a), (3, AI .i64 b), (4, AI .i64 c)]) [SrcS SRC L p])
    (he : Q .normal (tset 63 (AB false) ((62, AI .i64 3) :: [(61, .agg [LF l0, LF l1, LF l2]), (11, .ptr 0 0 0), (2, AI .i64 a), (3, AI .i64 b), (4, AI .i64 c)])) [SrcS SRC L p]) : AW Try.prog 203 0 (.block 0 (.loop c5_0)) T s Q := by
  unfold c5_0
  refine AW.arr (α := Unit) 3 (by decide) (by decide) (fun _ _ => [(61, .agg [LF l0, LF l1, LF l2]), (11, .ptr 0 0 0), (2, AI .i64 a), (3, AI .i64 b), (4, AI .i64 c)]) (fun _ _ => [SrcS SRC L p]) (fun _ _ => True) () trivial [0] hN (by simp) ?_ (fun _ _ => he)
  intro i _ hi _
  obtain ⟨l, hl, hw⟩ : ∃ l : List Fx, l.length ≤ 1000000 ∧ [LF l0, LF l1, LF l2].getD i default = LF l := by
    match i with
    | 0 => exact ⟨_, h0, rfl⟩
    | 1 => exact ⟨_, h1, rfl⟩
    | 2 => exact ⟨_, h2, rfl⟩
    | i + 3 => omega
  obtain ⟨x, y, n, e, f1, f2⟩ := fuse_ex l hl
  obtain ⟨x1, y1, u1, v1, b1, g1, g2⟩ := common_ex l hl
  obtain ⟨x2, y2, u2, v2, b2, k1, k2⟩ := hull_ex l hl
  have hii : (i : Int) < 3 := by omega
  repeat' (first | refine AW.seq' ?_ | with_reducible refine AW.blockS rfl ?_ | ((first | refine AW.ops ?_ | refine AW.draw ?_ | refine AW.skip ?_ | refine AW.ret ?_ | refine AW.exit ?_ | refine Fn.call (f1) rfl rfl ?_ | refine Fn.call (f2) rfl rfl ?_ | refine Fn.call (g1) rfl rfl ?_ | refine Fn.call (g2) rfl rfl ?_ | refine Fn.call (k1) rfl rfl ?_ | refine Fn.call (k2) rfl rfl ?_) <;> simp only [RS, LS, decide_eq_true_eq, Bool.not_eq_true', decide_eq_false_iff_not, Bool.not_eq_false', ne_eq, gate, isFl, floatV, allP, evK, evF, opd, opdL, opdP, optI, constA, tget, tset, tput, argT, thenQ, blockQ, rangeQ, callQ, RetQ, resL, resV, pack, binA, binbA, binsA, shfA, intA, boolA, eqlA, eqA, eqAs, unA, pickA, convA, nilcA, asI, asB, asS, cut, cutA, cutD, cellsOf, loadA, iaddrA, idxA, sidxA, lenA, lensA, mmA, mmL, mmF, slcA, slcsA, fillA, setA, AV.flat, AV.one, zeroA, zA1, boxA, storeA, putRow, bsliceA, toD, toDs, chunk, mksliceA, appendA, srcOf, copyA, Fl.ex, ↓reduceIte, reduceCtorEq, List.replicate, Nat.reduceBEq, Nat.reduceAdd, Nat.reduceMul, Nat.reduceSub, Nat.reduceLeDiff, Nat.reduceLT, Int.reduceToNat, Nat.reduceEqDiff, Int.reduceEq, hw, hii, hi, rangeNQ]) | refine AW.condT rfl ?_ | refine AW.condF rfl ?_ | ((first | refine GI.of (fun h => ?_) (fun h => ?_) (by first | exact Classical.em _ | exact (Classical.em _).symm | grind) | refine GD.of (fun h => ?_) (fun h => ?_) (by first | exact Classical.em _ | exact (Classical.em _).symm | grind)) <;> simp only [RS, LS, decide_eq_true_eq, Bool.not_eq_true', decide_eq_false_iff_not, Bool.not_eq_false', ne_eq, gate, isFl, floatV, allP, evK, evF, opd, opdL, opdP, optI, constA, tget, tset, tput, argT, thenQ, blockQ, rangeQ, callQ, RetQ, resL, resV, pack, binA, binbA, binsA, shfA, intA, boolA, eqlA, eqA, eqAs, unA, pickA, convA, nilcA, asI, asB, asS, cut, cutA, cutD, cellsOf, loadA, iaddrA, idxA, sidxA, lenA, lensA, mmA, mmL, mmF, slcA, slcsA, fillA, setA, AV.flat, AV.one, zeroA, zA1, boxA, storeA, putRow, bsliceA, toD, toDs, chunk, mksliceA, appendA, srcOf, copyA, Fl.ex, ↓reduceIte, reduceCtorEq, List.replicate, Nat.reduceBEq, Nat.reduceAdd, Nat.reduceMul, Nat.reduceSub, Nat.reduceLeDiff, Nat.reduceLT, Int.reduceToNat, Nat.reduceEqDiff, Int.reduceEq, hw, hii, hi, rangeNQ, h]) | (refine AW.condP rfl (fun h => ?_) (fun h => ?_) <;> simp only [decide_eq_true_eq, Bool.not_eq_true', decide_eq_false_iff_not, Bool.not_eq_false', Bool.not_eq_true, Bool.not_eq_false] at h) | refine And.intro (by omega) ?_ | fail)
  refine ⟨(), [0], rfl, by decide, rfl, ?_, ⟨⟨rfl, rfl⟩, trivial⟩⟩
  simp [NT, belA, belL, tget, renA, renL, nmL]
theorem grow_le {k b c : Int} (h : (growP k b c).2 = 0) : ¬ (growP k b c).1 < k := by
  unfold growP at h ⊢
  split at h
  · simp at h
  · rename_i hn
    have := grow_bound (b := b) (c := c) (by omega) (by omega) (by omega) (by omega)
    rw [if_neg hn]
    simp only
    omega
set_option maxRecDepth 100000 in
set_option maxHeartbeats 4000000 in
theorem floop1 {L : List Int} (hL : L.length ≤ 600) (p : Nat) (hp : p ≤ L.length) (k0 k1 k2 k3 b c : Int) {T : Tm} {s : St} {Q : Fl → Tm → St → Prop}
    (hN : Nrm [0] 0 T s ((151, AI .i64 0) :: [(150, .agg [AI .i64 k0, AI .i64 k1, AI .i64 k2, AI .i64 k3]), (11, .ptr 0 0 0), (3, AI .i64 b), (4, AI .i64 c)]) [SrcS SRC L p])
    (he : ∀ p, Q .normal (tset 152 (AB false) ((151, AI .i64 4) :: [(150, .agg [AI .i64 k0, AI .i64 k1, AI .i64 k2, AI .i64 k3]), (11, .ptr 0 0 0), (3, AI .i64 b), (4, AI .i64 c)])) [SrcS SRC L p]) : AW Try.prog 203 0 (.block 2 (.loop c5_1)) T s Q := by
  unfold c5_1
  refine AW.arr (α := Nat) 4 (by decide) (by decide) (fun _ _ => [(150, .agg [AI .i64 k0, AI .i64 k1, AI .i64 k2, AI .i64 k3]), (11, .ptr 0 0 0), (3, AI .i64 b), (4, AI .i64 c)]) (fun _ p => [SrcS SRC L p]) (fun _ p => p ≤ L.length) p hp [0] hN (by simp) ?_ (fun p _ => he p)
  intro i p hi hp
  obtain ⟨k, hw⟩ : ∃ k : Int, [AI .i64 k0, AI .i64 k1, AI .i64 k2, AI .i64 k3].getD i default = AI .i64 k := by
    match i with
    | 0 => exact ⟨_, rfl⟩
    | 1 => exact ⟨_, rfl⟩
    | 2 => exact ⟨_, rfl⟩
    | 3 => exact ⟨_, rfl⟩
    | i + 4 => omega
  have hii : (i : Int) < 4 := by omega
  repeat' (first | refine AW.seq' ?_ | with_reducible refine AW.blockS rfl ?_ | ((first | refine AW.ops ?_ | refine AW.draw ?_ | refine AW.skip ?_ | refine AW.ret ?_ | refine AW.exit ?_ | refine Fn.call (grow_ok _ _ _) rfl rfl ?_ | refine Fn.call (rgrow_ok _ _ _) rfl rfl ?_ | refine Fn.call (weight_ok _) rfl rfl ?_ | refine Fn.call (rweight_ok _) rfl rfl ?_ |  (refine SFn.call (n_ok hL _ (by omega)) rfl rfl (by assumption) (fun v p hp hv hb => ?_); obtain ⟨z, z0, z1, rfl⟩ := hv)) <;> simp only [RS, LS, decide_eq_true_eq, Bool.not_eq_true', decide_eq_false_iff_not, Bool.not_eq_false', ne_eq, gate, isFl, floatV, allP, evK, evF, opd, opdL, opdP, optI, constA, tget, tset, tput, argT, thenQ, blockQ, rangeQ, callQ, RetQ, resL, resV, pack, binA, binbA, binsA, shfA, intA, boolA, eqlA, eqA, eqAs, unA, pickA, convA, nilcA, asI, asB, asS, cut, cutA, cutD, cellsOf, loadA, iaddrA, idxA, sidxA, lenA, lensA, mmA, mmL, mmF, slcA, slcsA, fillA, setA, AV.flat, AV.one, zeroA, zA1, boxA, storeA, putRow, bsliceA, toD, toDs, chunk, mksliceA, appendA, srcOf, copyA, Fl.ex, ↓reduceIte, reduceCtorEq, List.replicate, Nat.reduceBEq, Nat.reduceAdd, Nat.reduceMul, Nat.reduceSub, Nat.reduceLeDiff, Nat.reduceLT, Int.reduceToNat, Nat.reduceEqDiff, Int.reduceEq, hw, hii, hi, rangeNQ]) | refine AW.condT rfl ?_ | refine AW.condF rfl ?_ | ((first | refine GI.of (fun h => ?_) (fun h => ?_) (by first | exact Classical.em _ | exact (Classical.em _).symm | grind) | refine GD.of (fun h => ?_) (fun h => ?_) (by first | exact Classical.em _ | exact (Classical.em _).symm | grind)) <;> simp only [RS, LS, decide_eq_true_eq, Bool.not_eq_true', decide_eq_false_iff_not, Bool.not_eq_false', ne_eq, gate, isFl, floatV, allP, evK, evF, opd, opdL, opdP, optI, constA, tget, tset, tput, argT, thenQ, blockQ, rangeQ, callQ, RetQ, resL, resV, pack, binA, binbA, binsA, shfA, intA, boolA, eqlA, eqA, eqAs, unA, pickA, convA, nilcA, asI, asB, asS, cut, cutA, cutD, cellsOf, loadA, iaddrA, idxA, sidxA, lenA, lensA, mmA, mmL, mmF, slcA, slcsA, fillA, setA, AV.flat, AV.one, zeroA, zA1, boxA, storeA, putRow, bsliceA, toD, toDs, chunk, mksliceA, appendA, srcOf, copyA, Fl.ex, ↓reduceIte, reduceCtorEq, List.replicate, Nat.reduceBEq, Nat.reduceAdd, Nat.reduceMul, Nat.reduceSub, Nat.reduceLeDiff, Nat.reduceLT, Int.reduceToNat, Nat.reduceEqDiff, Int.reduceEq, hw, hii, hi, rangeNQ, h]) | (refine AW.condP rfl (fun h => ?_) (fun h => ?_) <;> simp only [decide_eq_true_eq, Bool.not_eq_true', decide_eq_false_iff_not, Bool.not_eq_false', Bool.not_eq_true, Bool.not_eq_false] at h) | refine And.intro (by omega) ?_ | fail)
  · exact absurd h (grow_le (by assumption))
  all_goals
    refine ⟨p, [0], hp, rfl, by decide, rfl, ?_, ⟨⟨rfl, rfl⟩, trivial⟩⟩
    simp [NT, belA, belL, tget, renA, renL, nmL]
set_option maxRecDepth 100000 in
set_option maxHeartbeats 4000000 in
/-- From the loops on. -/
theorem flaw1 {L : List Int} (hL : L.length ≤ 600) (p : Nat) (hp : p ≤ L.length) (l0 l1 l2 : List Fx) (h0 : l0.length ≤ 1000000) (h1 : l1.length ≤ 1000000) (h2 : l2.length ≤ 1000000) (a b c : Int) {T : Tm} {s : St}
    (hN : Nrm [0] 0 T s ((62, AI .i64 0) :: [(61, .agg [LF l0, LF l1, LF l2]), (11, .ptr 0 0 0), (2, AI .i64 a), (3, AI .i64 b), (4, AI .i64 c)]) [SrcS SRC L p]) :
    AW Try.prog 203 0 (.block 0 (.loop c5_0)) T s
    (thenQ
      (fun T s => AW Try.prog 203 0
        (.seq (.seq (.ops [.f (some 145) none (.mv (.tmp 2)), .f (some 146) none (.mv (.tmp 11)), .k (some 147) none (.call 13 [(.tmp 146), (.const (.int .i64 3000))]), .f (some 148) none (.mv (.tmp 11)), .k (some 149) none (.call 15 [(.tmp 148)]),
          .f (some 150) none (.build [(.int .i64 0), (.int .i64 0), (.int .i64 0), (.int .i64 0)] [(0, 1, (.tmp 145)), (1, 1, (.tmp 147)), (2, 1, (.tmp 149)), (3, 1, (.const (.int .i64 1)))]), .f (some 151) none (.mv (.const (.int .i64 0)))])
          (.block 2 (.loop c5_1)))
        (.seq (.ops [.k (some 202) none (.call 9 []), .k (some 10) none (.asg (.tmp 202))]) .ret)) T s
        (callQ [.tmp 10] fun v _ => v = AB true))
      (callQ [.tmp 10] fun v _ => v = AB true)) := by
  refine floop0 hL p l0 l1 l2 h0 h1 h2 a b c hN ?_
  repeat' (first | refine AW.seq' ?_ | with_reducible refine AW.blockS rfl ?_ | ((first | refine AW.ops ?_ | refine AW.draw ?_ | refine AW.skip ?_ | refine AW.ret ?_ | refine AW.exit ?_ |  (refine SFn.call (n_ok hL _ (by omega)) rfl rfl (by assumption) (fun v p hp hv hb => ?_); obtain ⟨z, z0, z1, rfl⟩ := hv) |  (refine SFn.call (odd_ok hL) rfl rfl (by assumption) (fun v p hp hv hb => ?_); obtain ⟨z', rfl⟩ := hv)) <;> simp only [RS, LS, decide_eq_true_eq, Bool.not_eq_true', decide_eq_false_iff_not, Bool.not_eq_false', ne_eq, gate, isFl, floatV, allP, evK, evF, opd, opdL, opdP, optI, constA, tget, tset, tput, argT, thenQ, blockQ, rangeQ, callQ, RetQ, resL, resV, pack, binA, binbA, binsA, shfA, intA, boolA, eqlA, eqA, eqAs, unA, pickA, convA, nilcA, asI, asB, asS, cut, cutA, cutD, cellsOf, loadA, iaddrA, idxA, sidxA, lenA, lensA, mmA, mmL, mmF, slcA, slcsA, fillA, setA, AV.flat, AV.one, zeroA, zA1, boxA, storeA, putRow, bsliceA, toD, toDs, chunk, mksliceA, appendA, srcOf, copyA, Fl.ex, ↓reduceIte, reduceCtorEq, List.replicate, Nat.reduceBEq, Nat.reduceAdd, Nat.reduceMul, Nat.reduceSub, Nat.reduceLeDiff, Nat.reduceLT, Int.reduceToNat, Nat.reduceEqDiff, Int.reduceEq]) | refine AW.condT rfl ?_ | refine AW.condF rfl ?_ | ((first | refine GI.of (fun h => ?_) (fun h => ?_) (by first | exact Classical.em _ | exact (Classical.em _).symm | grind) | refine GD.of (fun h => ?_) (fun h => ?_) (by first | exact Classical.em _ | exact (Classical.em _).symm | grind)) <;> simp only [RS, LS, decide_eq_true_eq, Bool.not_eq_true', decide_eq_false_iff_not, Bool.not_eq_false', ne_eq, gate, isFl, floatV, allP, evK, evF, opd, opdL, opdP, optI, constA, tget, tset, tput, argT, thenQ, blockQ, rangeQ, callQ, RetQ, resL, resV, pack, binA, binbA, binsA, shfA, intA, boolA, eqlA, eqA, eqAs, unA, pickA, convA, nilcA, asI, asB, asS, cut, cutA, cutD, cellsOf, loadA, iaddrA, idxA, sidxA, lenA, lensA, mmA, mmL, mmF, slcA, slcsA, fillA, setA, AV.flat, AV.one, zeroA, zA1, boxA, storeA, putRow, bsliceA, toD, toDs, chunk, mksliceA, appendA, srcOf, copyA, Fl.ex, ↓reduceIte, reduceCtorEq, List.replicate, Nat.reduceBEq, Nat.reduceAdd, Nat.reduceMul, Nat.reduceSub, Nat.reduceLeDiff, Nat.reduceLT, Int.reduceToNat, Nat.reduceEqDiff, Int.reduceEq, h]) | (refine AW.condP rfl (fun h => ?_) (fun h => ?_) <;> simp only [decide_eq_true_eq, Bool.not_eq_true', decide_eq_false_iff_not, Bool.not_eq_false', Bool.not_eq_true, Bool.not_eq_false] at h) | refine And.intro (by omega) ?_ | fail)
  refine floop1 hL p hp a z z' 1 b c ⟨rfl, by decide, rfl, by simp [NT, belA, belL, tget, renA, renL, nmL], ⟨⟨rfl, rfl⟩, trivial⟩⟩ fun p => ?_
  repeat' (first | refine AW.seq' ?_ | with_reducible refine AW.blockS rfl ?_ | ((first | refine AW.ops ?_ | refine AW.draw ?_ | refine AW.skip ?_ | refine AW.ret ?_ | refine AW.exit ?_ | refine Fn.call (fsane_ok) rfl rfl ?_) <;> simp only [RS, LS, decide_eq_true_eq, Bool.not_eq_true', decide_eq_false_iff_not, Bool.not_eq_false', ne_eq, gate, isFl, floatV, allP, evK, evF, opd, opdL, opdP, optI, constA, tget, tset, tput, argT, thenQ, blockQ, rangeQ, callQ, RetQ, resL, resV, pack, binA, binbA, binsA, shfA, intA, boolA, eqlA, eqA, eqAs, unA, pickA, convA, nilcA, asI, asB, asS, cut, cutA, cutD, cellsOf, loadA, iaddrA, idxA, sidxA, lenA, lensA, mmA, mmL, mmF, slcA, slcsA, fillA, setA, AV.flat, AV.one, zeroA, zA1, boxA, storeA, putRow, bsliceA, toD, toDs, chunk, mksliceA, appendA, srcOf, copyA, Fl.ex, ↓reduceIte, reduceCtorEq, List.replicate, Nat.reduceBEq, Nat.reduceAdd, Nat.reduceMul, Nat.reduceSub, Nat.reduceLeDiff, Nat.reduceLT, Int.reduceToNat, Nat.reduceEqDiff, Int.reduceEq]) | refine AW.condT rfl ?_ | refine AW.condF rfl ?_ | ((first | refine GI.of (fun h => ?_) (fun h => ?_) (by first | exact Classical.em _ | exact (Classical.em _).symm | grind) | refine GD.of (fun h => ?_) (fun h => ?_) (by first | exact Classical.em _ | exact (Classical.em _).symm | grind)) <;> simp only [RS, LS, decide_eq_true_eq, Bool.not_eq_true', decide_eq_false_iff_not, Bool.not_eq_false', ne_eq, gate, isFl, floatV, allP, evK, evF, opd, opdL, opdP, optI, constA, tget, tset, tput, argT, thenQ, blockQ, rangeQ, callQ, RetQ, resL, resV, pack, binA, binbA, binsA, shfA, intA, boolA, eqlA, eqA, eqAs, unA, pickA, convA, nilcA, asI, asB, asS, cut, cutA, cutD, cellsOf, loadA, iaddrA, idxA, sidxA, lenA, lensA, mmA, mmL, mmF, slcA, slcsA, fillA, setA, AV.flat, AV.one, zeroA, zA1, boxA, storeA, putRow, bsliceA, toD, toDs, chunk, mksliceA, appendA, srcOf, copyA, Fl.ex, ↓reduceIte, reduceCtorEq, List.replicate, Nat.reduceBEq, Nat.reduceAdd, Nat.reduceMul, Nat.reduceSub, Nat.reduceLeDiff, Nat.reduceLT, Int.reduceToNat, Nat.reduceEqDiff, Int.reduceEq, h]) | (refine AW.condP rfl (fun h => ?_) (fun h => ?_) <;> simp only [decide_eq_true_eq, Bool.not_eq_true', decide_eq_false_iff_not, Bool.not_eq_false', Bool.not_eq_true, Bool.not_eq_false] at h) | refine And.intro (by omega) ?_ | fail)
set_option maxRecDepth 100000 in
set_option maxHeartbeats 4000000 in
theorem law_walk (t : List Int) (raw : List Fx) (hraw : raw.length ≤ 9223372036854775807) (a b c : Int) : ACalls Try.prog 5 [LI t, LF raw, AI .i64 a, AI .i64 b, AI .i64 c] [] fun v _ => v = AB true := by
  refine ACalls.of fn5 (by simp) ?_
  unfold c5
  have hL : (t.take 600).length ≤ 600 := by rw [List.length_take]; omega
  repeat' (first | refine AW.seq' ?_ | with_reducible refine AW.blockS rfl ?_ | ((first | refine AW.ops ?_ | refine AW.draw ?_ | refine AW.skip ?_ | refine AW.ret ?_ | refine AW.exit ?_ | refine Fn.call (fsane_ok) rfl rfl ?_ |  refine new_call t ?_ |  refine SFnO.call (now_ok hL 3 (by omega)) rfl rfl (by omega) (fun p hp hV => ?_) (fun p rows hp hV => ?_) |  (refine SFn.call (odd_ok hL) rfl rfl (by assumption) (fun v p hp hv hb => ?_); obtain ⟨x, rfl⟩ := hv) |  (refine SFn.call (pick_ok hL [0, 1, 100000, 100001] (by simp) (by simp)) rfl rfl (by assumption) (fun v p hp hv hb => ?_); obtain ⟨z, z0, rfl⟩ := hv) |  (refine SFn.call (now_ok hL 8 (by omega)).frozen rfl rfl (by assumption) (fun v p hp hv hb => ?_); obtain ⟨_, ⟨-, l8, rfl, h8, -⟩, rfl⟩ := hv)) <;> simp only [RS, LS, decide_eq_true_eq, Bool.not_eq_true', decide_eq_false_iff_not, Bool.not_eq_false', ne_eq, gate, isFl, floatV, allP, evK, evF, opd, opdL, opdP, optI, constA, tget, tset, tput, argT, thenQ, blockQ, rangeQ, callQ, RetQ, resL, resV, pack, binA, binbA, binsA, shfA, intA, boolA, eqlA, eqA, eqAs, unA, pickA, convA, nilcA, asI, asB, asS, cut, cutA, cutD, cellsOf, loadA, iaddrA, idxA, sidxA, lenA, lensA, mmA, mmL, mmF, slcA, slcsA, fillA, setA, AV.flat, AV.one, zeroA, zA1, boxA, storeA, putRow, bsliceA, toD, toDs, chunk, mksliceA, appendA, srcOf, copyA, Fl.ex, ↓reduceIte, reduceCtorEq, List.replicate, Nat.reduceBEq, Nat.reduceAdd, Nat.reduceMul, Nat.reduceSub, Nat.reduceLeDiff, Nat.reduceLT, Int.reduceToNat, Nat.reduceEqDiff, Int.reduceEq]) | refine AW.condT rfl ?_ | refine AW.condF rfl ?_ | ((first | refine GI.of (fun h => ?_) (fun h => ?_) (by first | exact Classical.em _ | exact (Classical.em _).symm | grind) | refine GD.of (fun h => ?_) (fun h => ?_) (by first | exact Classical.em _ | exact (Classical.em _).symm | grind)) <;> simp only [RS, LS, decide_eq_true_eq, Bool.not_eq_true', decide_eq_false_iff_not, Bool.not_eq_false', ne_eq, gate, isFl, floatV, allP, evK, evF, opd, opdL, opdP, optI, constA, tget, tset, tput, argT, thenQ, blockQ, rangeQ, callQ, RetQ, resL, resV, pack, binA, binbA, binsA, shfA, intA, boolA, eqlA, eqA, eqAs, unA, pickA, convA, nilcA, asI, asB, asS, cut, cutA, cutD, cellsOf, loadA, iaddrA, idxA, sidxA, lenA, lensA, mmA, mmL, mmF, slcA, slcsA, fillA, setA, AV.flat, AV.one, zeroA, zA1, boxA, storeA, putRow, bsliceA, toD, toDs, chunk, mksliceA, appendA, srcOf, copyA, Fl.ex, ↓reduceIte, reduceCtorEq, List.replicate, Nat.reduceBEq, Nat.reduceAdd, Nat.reduceMul, Nat.reduceSub, Nat.reduceLeDiff, Nat.reduceLT, Int.reduceToNat, Nat.reduceEqDiff, Int.reduceEq, h]) | (refine AW.condP rfl (fun h => ?_) (fun h => ?_) <;> simp only [decide_eq_true_eq, Bool.not_eq_true', decide_eq_false_iff_not, Bool.not_eq_false', Bool.not_eq_true, Bool.not_eq_false] at h) | refine And.intro (by omega) ?_ | fail)
  · refine AW.frz (id := 1) (t := FIX) (k := 4) (rows := fxs [⟨0, x, 0, z⟩]) rfl ((62, AI .i64 0) :: [(61, .agg [LF l8, LF raw, LF [⟨0, x, 0, z⟩]]), (11, .ptr 0 0 0), (2, AI .i64 a), (3, AI .i64 b), (4, AI .i64 c)]) [SrcS SRC (t.take 600) p, none] ?_ ?_ rfl ?_
    · simp [FT, tget, frzA, frzL, fitA, fitL]
    · simp [FS, frzB, frzL, frzA, fitB, fitL, fitA]
    · exact flaw1 hL p hp l8 raw [⟨0, x, 0, z⟩] (by omega) (by omega) (by simp) a b c ⟨rfl, by decide, rfl, by simp [NT, belA, belL, tget, renA, renL, nmL], ⟨⟨rfl, rfl⟩, trivial⟩⟩
  · obtain ⟨h3, l3, rfl, -⟩ := hV
    have h3' : (l3.length : Int) ≤ 3 := by simpa using h3
    refine AW.frz (id := 2) (t := FIX) (k := 4) (rows := fxs (l3 ++ [⟨0, x, 0, z⟩])) (by simp [rowsA]) ((62, AI .i64 0) :: [(61, .agg [LF l8, LF raw, LF (l3 ++ [⟨0, x, 0, z⟩])]), (11, .ptr 0 0 0), (2, AI .i64 a), (3, AI .i64 b), (4, AI .i64 c)]) [SrcS SRC (t.take 600) p, none, none] ?_ ?_ rfl ?_
    · simp [FT, tget, frzA, frzL, fitA, fitL, List.take_of_length_le]
    · simp [FS, frzB, frzL, frzA, fitB, fitL, fitA]
    · exact flaw1 hL p hp l8 raw (l3 ++ [⟨0, x, 0, z⟩]) (by omega) (by omega) (by simp; omega) a b c ⟨rfl, by decide, rfl, by simp [NT, belA, belL, tget, renA, renL, nmL], ⟨⟨rfl, rfl⟩, trivial⟩⟩
end Go.Proofs.Ytcedkkleclhglaa.H
