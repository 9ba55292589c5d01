/- Chapter 10: a step of the estimate. -/
import Derived.Test.YtipanehdmhachaaGreatDoorHqC
import Derived.Test.YtipanehdmhachaaGreatDoorHqD
set_option linter.unusedSimpArgs false
set_option linter.unusedVariables false
set_option linter.unusedSectionVars false
namespace Go.Proofs.YtipanehdmhachaaGreatDoor.H
variable [DR]
theorem iidx_ok (l : List Int) (hl : l.length ≤ 4611686018427387904) (x : Int) : FnE Tryz.prog 37 [LI l, AI .i64 x] (fun v => ∃ z : Int, v = AI .i64 z ∧ (0 ≤ z ↔ x ∈ l)) := by
  refine FnE.of fn37 (by simp) ?_
  unfold c37
  repeat' (first | refine AW.seq' ?_ | with_reducible refine AW.blockS rfl ?_ | ((first | refine AW.ops ?_ | refine AW.draw ?_ | refine AW.skip ?_ | refine AW.ret ?_ | refine AW.exit ?_) <;> simp only [RS, LS, SY, ne_eq, isFl, floatV, constA, thenQ, blockQ, pack, intA, boolA, eqA, unA, nilcA, asI, asB, asS, loadA, idxA, lenA, slcA, AV.flat, AV.one, zA1, storeA, toD, srcOf, copyA, ↓reduceIte, reduceCtorEq, List.replicate, Nat.reduceBEq, Nat.reduceAdd, Nat.reduceMul, Nat.reduceSub, Nat.reduceLeDiff, Nat.reduceLT, Int.reduceToNat, Nat.reduceEqDiff, Int.reduceEq]) | refine AW.condT rfl ?_ | refine AW.condF rfl ?_ | ((first | (refine GI.of (fun h => ?_) (fun h => ?_) ?emm; case emm => first | exact Classical.em _ | exact (Classical.em _).symm | grind) | (refine GD.of (fun h => ?_) (fun h => ?_) ?emm; case emm => first | exact Classical.em _ | exact (Classical.em _).symm | grind)) <;> simp only [RS, LS, SY, ne_eq, isFl, floatV, constA, thenQ, blockQ, pack, intA, boolA, eqA, unA, nilcA, asI, asB, asS, loadA, idxA, lenA, slcA, AV.flat, AV.one, zA1, storeA, toD, srcOf, copyA, ↓reduceIte, reduceCtorEq, List.replicate, Nat.reduceBEq, Nat.reduceAdd, Nat.reduceMul, Nat.reduceSub, Nat.reduceLeDiff, Nat.reduceLT, Int.reduceToNat, Nat.reduceEqDiff, Int.reduceEq, h]) | (refine AW.condP rfl (fun h => ?_) (fun h => ?_) <;> try simp only [Bool.and_eq_true, decide_eq_true_eq, Bool.not_eq_true', decide_eq_false_iff_not, Bool.not_eq_false', Bool.not_eq_true, Bool.not_eq_false] at h) | refine And.intro (by omega) ?_ | fail)
  refine AW.range (α := Unit) l.length hl (by decide) (fun _ _ => [(0, LI l), (1, AI .i64 x)]) (fun _ _ => []) (fun i _ => x ∉ l.take i) () (by simp) [] ⟨rfl, by decide, rfl, by simp [NT, belA, tget, renA, nmL], trivial⟩ (by simp) ?_ ?_
  · intro i _ hi hJ
    unfold c37_0
    repeat' (first | refine AW.seq' ?_ | with_reducible refine AW.blockS rfl ?_ | ((first | refine AW.ops ?_ | refine AW.draw ?_ | refine AW.skip ?_ | refine AW.ret ?_ | refine AW.exit ?_) <;> simp only [RS, LS, SY, ne_eq, isFl, floatV, constA, thenQ, blockQ, pack, intA, boolA, eqA, unA, nilcA, asI, asB, asS, loadA, idxA, lenA, slcA, AV.flat, AV.one, zA1, storeA, toD, srcOf, copyA, ↓reduceIte, reduceCtorEq, List.replicate, Nat.reduceBEq, Nat.reduceAdd, Nat.reduceMul, Nat.reduceSub, Nat.reduceLeDiff, Nat.reduceLT, Int.reduceToNat, Nat.reduceEqDiff, Int.reduceEq, getD_map_lt hi]) | refine AW.condT rfl ?_ | refine AW.condF rfl ?_ | ((first | (refine GI.of (fun h => ?_) (fun h => ?_) ?emm; case emm => first | exact Classical.em _ | exact (Classical.em _).symm | grind) | (refine GD.of (fun h => ?_) (fun h => ?_) ?emm; case emm => first | exact Classical.em _ | exact (Classical.em _).symm | grind)) <;> simp only [RS, LS, SY, ne_eq, isFl, floatV, constA, thenQ, blockQ, pack, intA, boolA, eqA, unA, nilcA, asI, asB, asS, loadA, idxA, lenA, slcA, AV.flat, AV.one, zA1, storeA, toD, srcOf, copyA, ↓reduceIte, reduceCtorEq, List.replicate, Nat.reduceBEq, Nat.reduceAdd, Nat.reduceMul, Nat.reduceSub, Nat.reduceLeDiff, Nat.reduceLT, Int.reduceToNat, Nat.reduceEqDiff, Int.reduceEq, getD_map_lt hi, h]) | (refine AW.condP rfl (fun h => ?_) (fun h => ?_) <;> try simp only [Bool.and_eq_true, decide_eq_true_eq, Bool.not_eq_true', decide_eq_false_iff_not, Bool.not_eq_false', Bool.not_eq_true, Bool.not_eq_false] at h) | refine And.intro (by omega) ?_ | fail)
    · refine ⟨⟨_, rfl, ?_⟩, rfl⟩
      rw [h]; simp [List.getElem_mem hi]
    · refine ⟨(), [], ?_, rfl, by decide, rfl, by simp [NT, belA, tget, renA, nmL], trivial⟩
      rw [List.take_succ_eq_append_getElem hi, List.mem_append, List.mem_singleton]
      rintro (g | g)
      · exact hJ g
      · exact h g
  · intro _ hJ
    rw [List.take_length] at hJ
    simp only [RS, LS, SY, ne_eq, isFl, floatV, constA, thenQ, blockQ, pack, intA, boolA, eqA, unA, nilcA, asI, asB, asS, loadA, idxA, lenA, slcA, AV.flat, AV.one, zA1, storeA, toD, srcOf, copyA, ↓reduceIte, reduceCtorEq, List.replicate, Nat.reduceBEq, Nat.reduceAdd, Nat.reduceMul, Nat.reduceSub, Nat.reduceLeDiff, Nat.reduceLT, Int.reduceToNat, Nat.reduceEqDiff, Int.reduceEq]
    repeat' (first | refine AW.seq' ?_ | with_reducible refine AW.blockS rfl ?_ | ((first | refine AW.ops ?_ | refine AW.draw ?_ | refine AW.skip ?_ | refine AW.ret ?_ | refine AW.exit ?_) <;> simp only [RS, LS, SY, ne_eq, isFl, floatV, constA, thenQ, blockQ, pack, intA, boolA, eqA, unA, nilcA, asI, asB, asS, loadA, idxA, lenA, slcA, AV.flat, AV.one, zA1, storeA, toD, srcOf, copyA, ↓reduceIte, reduceCtorEq, List.replicate, Nat.reduceBEq, Nat.reduceAdd, Nat.reduceMul, Nat.reduceSub, Nat.reduceLeDiff, Nat.reduceLT, Int.reduceToNat, Nat.reduceEqDiff, Int.reduceEq]) | refine AW.condT rfl ?_ | refine AW.condF rfl ?_ | ((first | (refine GI.of (fun h => ?_) (fun h => ?_) ?emm; case emm => first | exact Classical.em _ | exact (Classical.em _).symm | grind) | (refine GD.of (fun h => ?_) (fun h => ?_) ?emm; case emm => first | exact Classical.em _ | exact (Classical.em _).symm | grind)) <;> simp only [RS, LS, SY, ne_eq, isFl, floatV, constA, thenQ, blockQ, pack, intA, boolA, eqA, unA, nilcA, asI, asB, asS, loadA, idxA, lenA, slcA, AV.flat, AV.one, zA1, storeA, toD, srcOf, copyA, ↓reduceIte, reduceCtorEq, List.replicate, Nat.reduceBEq, Nat.reduceAdd, Nat.reduceMul, Nat.reduceSub, Nat.reduceLeDiff, Nat.reduceLT, Int.reduceToNat, Nat.reduceEqDiff, Int.reduceEq, h]) | (refine AW.condP rfl (fun h => ?_) (fun h => ?_) <;> try simp only [Bool.and_eq_true, decide_eq_true_eq, Bool.not_eq_true', decide_eq_false_iff_not, Bool.not_eq_false', Bool.not_eq_true, Bool.not_eq_false] at h) | refine And.intro (by omega) ?_ | fail)
    exact ⟨⟨_, rfl, by simp [hJ]⟩, rfl⟩
theorem icontains_ok (l : List Int) (hl : l.length ≤ 4611686018427387904) (x : Int) : Fn Tryz.prog 17 [LI l, AI .i64 x] (AB (decide (x ∈ l))) := by
  refine Fn.of fn17 (by simp) rfl ?_
  unfold c17
  repeat' (first | refine AW.seq' ?_ | with_reducible refine AW.blockS rfl ?_ | ((first | refine AW.ops ?_ | refine AW.draw ?_ | refine AW.skip ?_ | refine AW.ret ?_ | refine AW.exit ?_ |  (refine FnE.call (iidx_ok l hl x) rfl (fun v hv hb => ?_); obtain ⟨z, rfl, hz⟩ := hv)) <;> simp only [RS, LS, SY, ne_eq, isFl, floatV, constA, thenQ, blockQ, pack, intA, boolA, eqA, unA, nilcA, asI, asB, asS, loadA, idxA, lenA, slcA, AV.flat, AV.one, zA1, storeA, toD, srcOf, copyA, ↓reduceIte, reduceCtorEq, List.replicate, Nat.reduceBEq, Nat.reduceAdd, Nat.reduceMul, Nat.reduceSub, Nat.reduceLeDiff, Nat.reduceLT, Int.reduceToNat, Nat.reduceEqDiff, Int.reduceEq]) | refine AW.condT rfl ?_ | refine AW.condF rfl ?_ | ((first | (refine GI.of (fun h => ?_) (fun h => ?_) ?emm; case emm => first | exact Classical.em _ | exact (Classical.em _).symm | grind) | (refine GD.of (fun h => ?_) (fun h => ?_) ?emm; case emm => first | exact Classical.em _ | exact (Classical.em _).symm | grind)) <;> simp only [RS, LS, SY, ne_eq, isFl, floatV, constA, thenQ, blockQ, pack, intA, boolA, eqA, unA, nilcA, asI, asB, asS, loadA, idxA, lenA, slcA, AV.flat, AV.one, zA1, storeA, toD, srcOf, copyA, ↓reduceIte, reduceCtorEq, List.replicate, Nat.reduceBEq, Nat.reduceAdd, Nat.reduceMul, Nat.reduceSub, Nat.reduceLeDiff, Nat.reduceLT, Int.reduceToNat, Nat.reduceEqDiff, Int.reduceEq, h]) | (refine AW.condP rfl (fun h => ?_) (fun h => ?_) <;> try simp only [Bool.and_eq_true, decide_eq_true_eq, Bool.not_eq_true', decide_eq_false_iff_not, Bool.not_eq_false', Bool.not_eq_true, Bool.not_eq_false] at h) | refine And.intro (by omega) ?_ | fail)
  simp only [hz]
def goodP (S : List Nat) (m : List Int) : List Nat := S.filter fun i => decide ((i : Int) ∈ m)
def nextG (time : Int) (F : List Fx) : Es := if chkF F = 0 then ⟨meanX F, meanY F, boundP F, time, 1⟩ else ⟨0, 0, 0, time, 1⟩
def nextP (e : Es) (time speed : Int) (ts : List Tk) (S : List Nat) (m : List Int) : Es :=
  if m ≠ [] then nextG time (fixS ts time speed (goodP S m)) else if e.s ≠ 0 then ⟨e.x, e.y, (growP e.b speed (time - e.t)).1, time, 2⟩ else ⟨0, 0, 0, time, 0⟩
theorem goodP_succ {S : List Nat} {m : List Int} {i : Nat} (hi : i < S.length) : goodP (S.take (i + 1)) m = goodP (S.take i) m ++ if decide ((S[i] : Int) ∈ m) then [S[i]] else [] := by
  unfold goodP
  rw [List.take_succ_eq_append_getElem hi, List.filter_append]
  simp only [List.filter_cons, List.filter_nil]
theorem goodP_len (S : List Nat) (m : List Int) : (goodP S m).length ≤ S.length := List.length_filter_le ..
set_option maxHeartbeats 8000000 in
theorem step0 {l : List Rf} {speed : Int} {ts : List Tk} {e : Es} {time : Int} (h : ChkOK l speed ts e time) (fs : List Sg) (hfs : fs.length ≤ 1000000) :
    ACalls Tryz.prog 9 [LR l, AI .i64 speed, LT ts, AE e, AI .i64 time, LSg fs] [] fun v s' =>
      v = .tup [LT (takeP l ts time fs), AE (nextP e time speed (takeP l ts time fs) (selP (takeP l ts time fs) time speed l.length) (voteS l (takeP l ts time fs) time speed (selP (takeP l ts time fs) time speed l.length)).m), AVt (voteS l (takeP l ts time fs) time speed (selP (takeP l ts time fs) time speed l.length)), AI .i64 0] := by
  refine ACalls.of fn9 (by simp) ?_
  unfold c9
  have q1 := check_ok h
  have q2 := take_ok l ts time fs h.cfg.1 h.len hfs
  have htl := takeP_len l ts time fs
  generalize takeP l ts time fs = out at q2 htl
  have q3 := votes_ok (speed := speed) h.cfg (htl.trans h.len) h.tm
  have hSl := selP_len out time speed l.length
  have h8 := h.cfg.1
  generalize selP out time speed l.length = S at q3 hSl
  have hvl : (voteS l out time speed S).m.length ≤ 8 := by
    show (memS S _).length ≤ 8
    rw [memS_len]
    exact (dec_len _ _).1
  generalize voteS l out time speed S = v at q3 hvl
  obtain ⟨m, cs, tie⟩ := v
  simp only at hvl
  have hil : (idxS S).length = S.length := by simp [idxS]
  have hfl : (fixS out time speed S).length = S.length := by simp [fixS]
  cases hm : m with
  | nil =>
    subst hm
    have h0 : ¬ (0 : Int) < ((0 : Nat) : Int) := by omega
    by_cases hs : e.s = 0
    · have en : nextP e time speed out S [] = ⟨0, 0, 0, time, 0⟩ := by unfold nextP; rw [if_neg (by simp), if_neg (by simp [hs])]
      rw [en]
      obtain ⟨ex, ey, eb, et, es⟩ := e
      simp only at hs
      subst hs
      repeat' (first | refine AW.seq' ?_ | with_reducible refine AW.blockS rfl ?_ | ((first | refine AW.ops ?_ | refine AW.draw ?_ | refine AW.skip ?_ | refine AW.ret ?_ | refine AW.exit ?_ | refine Fn.call (q1) rfl rfl ?_ | refine Fn.call (q2) rfl rfl ?_ | refine Fn.call (q3) rfl rfl ?_) <;> simp only [RS, LS, SY, ne_eq, isFl, floatV, constA, thenQ, blockQ, pack, intA, boolA, eqA, unA, nilcA, asI, asB, asS, loadA, idxA, lenA, slcA, AV.flat, AV.one, zA1, storeA, toD, srcOf, copyA, ↓reduceIte, reduceCtorEq, List.replicate, Nat.reduceBEq, Nat.reduceAdd, Nat.reduceMul, Nat.reduceSub, Nat.reduceLeDiff, Nat.reduceLT, Int.reduceToNat, Nat.reduceEqDiff, Int.reduceEq, h0]) | refine AW.condT rfl ?_ | refine AW.condF rfl ?_ | ((first | (refine GI.of (fun h => ?_) (fun h => ?_) ?emm; case emm => first | exact Classical.em _ | exact (Classical.em _).symm | grind) | (refine GD.of (fun h => ?_) (fun h => ?_) ?emm; case emm => first | exact Classical.em _ | exact (Classical.em _).symm | grind)) <;> simp only [RS, LS, SY, ne_eq, isFl, floatV, constA, thenQ, blockQ, pack, intA, boolA, eqA, unA, nilcA, asI, asB, asS, loadA, idxA, lenA, slcA, AV.flat, AV.one, zA1, storeA, toD, srcOf, copyA, ↓reduceIte, reduceCtorEq, List.replicate, Nat.reduceBEq, Nat.reduceAdd, Nat.reduceMul, Nat.reduceSub, Nat.reduceLeDiff, Nat.reduceLT, Int.reduceToNat, Nat.reduceEqDiff, Int.reduceEq, h0, h]) | (refine AW.condP rfl (fun h => ?_) (fun h => ?_) <;> try simp only [Bool.and_eq_true, decide_eq_true_eq, Bool.not_eq_true', decide_eq_false_iff_not, Bool.not_eq_false', Bool.not_eq_true, Bool.not_eq_false] at h) | refine And.intro (by omega) ?_ | fail)
    · have q4 := grow_ok e.b speed (time - e.t)
      have en : nextP e time speed out S [] = ⟨e.x, e.y, (growP e.b speed (time - e.t)).1, time, 2⟩ := by unfold nextP; rw [if_neg (by simp), if_pos hs]
      rw [en]
      have het := h.et
      have htm := h.tm
      simp only [timesP, decide_eq_true_eq] at htm
      generalize growP e.b speed (time - e.t) = g at q4
      repeat' (first | refine AW.seq' ?_ | with_reducible refine AW.blockS rfl ?_ | ((first | refine AW.ops ?_ | refine AW.draw ?_ | refine AW.skip ?_ | refine AW.ret ?_ | refine AW.exit ?_ | refine Fn.call (q1) rfl rfl ?_ | refine Fn.call (q2) rfl rfl ?_ | refine Fn.call (q3) rfl rfl ?_ | refine Fn.call (q4) rfl rfl ?_) <;> simp (disch := omega) only [RS, LS, SY, ne_eq, isFl, floatV, constA, thenQ, blockQ, pack, intA, boolA, eqA, unA, nilcA, asI, asB, asS, loadA, idxA, lenA, slcA, AV.flat, AV.one, zA1, storeA, toD, srcOf, copyA, ↓reduceIte, reduceCtorEq, List.replicate, Nat.reduceBEq, Nat.reduceAdd, Nat.reduceMul, Nat.reduceSub, Nat.reduceLeDiff, Nat.reduceLT, Int.reduceToNat, Nat.reduceEqDiff, Int.reduceEq, wrap_id, hs, h0]) | refine AW.condT rfl ?_ | refine AW.condF rfl ?_ | ((first | (refine GI.of (fun h => ?_) (fun h => ?_) ?emm; case emm => first | exact Classical.em _ | exact (Classical.em _).symm | grind) | (refine GD.of (fun h => ?_) (fun h => ?_) ?emm; case emm => first | exact Classical.em _ | exact (Classical.em _).symm | grind)) <;> simp (disch := omega) only [RS, LS, SY, ne_eq, isFl, floatV, constA, thenQ, blockQ, pack, intA, boolA, eqA, unA, nilcA, asI, asB, asS, loadA, idxA, lenA, slcA, AV.flat, AV.one, zA1, storeA, toD, srcOf, copyA, ↓reduceIte, reduceCtorEq, List.replicate, Nat.reduceBEq, Nat.reduceAdd, Nat.reduceMul, Nat.reduceSub, Nat.reduceLeDiff, Nat.reduceLT, Int.reduceToNat, Nat.reduceEqDiff, Int.reduceEq, wrap_id, hs, h0, h]) | (refine AW.condP rfl (fun h => ?_) (fun h => ?_) <;> try simp only [Bool.and_eq_true, decide_eq_true_eq, Bool.not_eq_true', decide_eq_false_iff_not, Bool.not_eq_false', Bool.not_eq_true, Bool.not_eq_false] at h) | refine And.intro (by omega) ?_ | fail)
  | cons y m' =>
    have hm0 : m ≠ [] := by rw [hm]; simp
    rw [← hm]
    have en : nextP e time speed out S m = nextG time (fixS out time speed (goodP S m)) := by unfold nextP; rw [if_pos hm0]
    rw [en]
    have hpos : (0 : Int) < (m.length : Int) := by have := List.length_pos_iff.2 hm0; omega
    repeat' (first | refine AW.seq' ?_ | with_reducible refine AW.blockS rfl ?_ | ((first | refine AW.ops ?_ | refine AW.draw ?_ | refine AW.skip ?_ | refine AW.ret ?_ | refine AW.exit ?_ | refine Fn.call (q1) rfl rfl ?_ | refine Fn.call (q2) rfl rfl ?_ | refine Fn.call (q3) rfl rfl ?_) <;> simp only [RS, LS, SY, ne_eq, isFl, floatV, constA, thenQ, blockQ, pack, intA, boolA, eqA, unA, nilcA, asI, asB, asS, loadA, idxA, lenA, slcA, AV.flat, AV.one, zA1, storeA, toD, srcOf, copyA, ↓reduceIte, reduceCtorEq, List.replicate, Nat.reduceBEq, Nat.reduceAdd, Nat.reduceMul, Nat.reduceSub, Nat.reduceLeDiff, Nat.reduceLT, Int.reduceToNat, Nat.reduceEqDiff, Int.reduceEq, hpos]) | refine AW.condT rfl ?_ | refine AW.condF rfl ?_ | ((first | (refine GI.of (fun h => ?_) (fun h => ?_) ?emm; case emm => first | exact Classical.em _ | exact (Classical.em _).symm | grind) | (refine GD.of (fun h => ?_) (fun h => ?_) ?emm; case emm => first | exact Classical.em _ | exact (Classical.em _).symm | grind)) <;> simp only [RS, LS, SY, ne_eq, isFl, floatV, constA, thenQ, blockQ, pack, intA, boolA, eqA, unA, nilcA, asI, asB, asS, loadA, idxA, lenA, slcA, AV.flat, AV.one, zA1, storeA, toD, srcOf, copyA, ↓reduceIte, reduceCtorEq, List.replicate, Nat.reduceBEq, Nat.reduceAdd, Nat.reduceMul, Nat.reduceSub, Nat.reduceLeDiff, Nat.reduceLT, Int.reduceToNat, Nat.reduceEqDiff, Int.reduceEq, hpos, h]) | (refine AW.condP rfl (fun h => ?_) (fun h => ?_) <;> try simp only [Bool.and_eq_true, decide_eq_true_eq, Bool.not_eq_true', decide_eq_false_iff_not, Bool.not_eq_false', Bool.not_eq_true, Bool.not_eq_false] at h) | refine And.intro (by omega) ?_ | fail)
    rw [hfl]
    refine AW.cut2 (M := fun T s => ∃ rl, Nrm rl 0 T s [(13, .ptr 0 0 0), (14, .ptr 1 0 0), (18, .ptr 2 0 0), (21, .ptr 3 0 0), (17, LT out), (22, gVg 4 (goodP S m))] [some (.cells 35 5 [[AI .i64 0, AI .i64 0, AI .i64 0, AI .i64 0, AI .i64 0]]), some (.cells 43 3 [[.ful 0 [], .ful 0 [], AB false]]), some (.cells 43 3 [[LI m, LI cs, AB tie]]), some (.cells 35 5 [[AI .i64 0, AI .i64 0, AI .i64 0, AI .i64 time, AI .i64 0]]), gBg 58 4 (nR out time speed) (goodP S m)]) ?_ (fun T s ⟨rl, hN⟩ => AW.nrm rl hN ?_)
    · refine AW.range (α := List Nat) S.length (by omega) (by decide) (fun _ Q => (57, LF (fixS out time speed S)) :: (19, LI (idxS S)) :: [(13, .ptr 0 0 0), (14, .ptr 1 0 0), (18, .ptr 2 0 0), (21, .ptr 3 0 0), (17, LT out), (22, gVg 4 Q)]) (fun _ Q => [some (.cells 35 5 [[AI .i64 0, AI .i64 0, AI .i64 0, AI .i64 0, AI .i64 0]]), some (.cells 43 3 [[.ful 0 [], .ful 0 [], AB false]]), some (.cells 43 3 [[LI m, LI cs, AB tie]]), some (.cells 35 5 [[AI .i64 0, AI .i64 0, AI .i64 0, AI .i64 time, AI .i64 0]]), gBg 58 4 (nR out time speed) Q]) (fun i Q => Q = goodP (S.take i) m) [] rfl [1, 2, 3, 4, 5] ⟨rfl, by decide, rfl, by simp [NT, belA, belL, tget, renA, renL, nmL, gVg_nil], ⟨⟨rfl, rfl⟩, ⟨⟨rfl, rfl⟩, ⟨⟨rfl, rfl⟩, ⟨⟨rfl, rfl⟩, trivial⟩⟩⟩⟩⟩ (by simp) ?_ ?_
      · intro i Q hi hJ
        unfold c9_0
        have hsu := goodP_succ (m := m) hi
        rw [← hJ] at hsu
        have hQl : Q.length ≤ 8 := by rw [hJ]; have := goodP_len (S.take i) m; rw [List.length_take] at this; omega
        clear hJ
        have hfi : i < (fixS out time speed S).length := by omega
        have hii : i < (idxS S).length := by omega
        have g1 : (fxs (fixS out time speed S)).getD i [] = fxR (nowR out time speed S[i]) := by rw [getD_map_lt hfi]; simp [fixS]
        have g2 : (ints (idxS S)).getD i [] = [dI (S[i] : Int)] := by rw [getD_map_lt hii]; simp [idxS]
        have qc := icontains_ok m (by omega) (S[i] : Int)
        generalize S[i] = z at g1 g2 qc hsu
        have hnr : nR out time speed z = fxR (nowR out time speed z) := rfl
        cases hb : decide ((z : Int) ∈ m)
        · rw [hb] at qc hsu
          simp only [Bool.false_eq_true, if_false, List.append_nil] at hsu
          repeat' (first | refine AW.seq' ?_ | with_reducible refine AW.blockS rfl ?_ | ((first | refine AW.ops ?_ | refine AW.draw ?_ | refine AW.skip ?_ | refine AW.ret ?_ | refine AW.exit ?_ | refine Fn.call (qc) rfl rfl ?_) <;> simp only [RS, LS, SY, ne_eq, isFl, floatV, constA, thenQ, blockQ, pack, intA, boolA, eqA, unA, nilcA, asI, asB, asS, loadA, idxA, lenA, slcA, AV.flat, AV.one, zA1, storeA, toD, srcOf, copyA, ↓reduceIte, reduceCtorEq, List.replicate, Nat.reduceBEq, Nat.reduceAdd, Nat.reduceMul, Nat.reduceSub, Nat.reduceLeDiff, Nat.reduceLT, Int.reduceToNat, Nat.reduceEqDiff, Int.reduceEq, g1, g2, hfl, hil]) | refine AW.condT rfl ?_ | refine AW.condF rfl ?_ | ((first | (refine GI.of (fun h => ?_) (fun h => ?_) ?emm; case emm => first | exact Classical.em _ | exact (Classical.em _).symm | grind) | (refine GD.of (fun h => ?_) (fun h => ?_) ?emm; case emm => first | exact Classical.em _ | exact (Classical.em _).symm | grind)) <;> simp only [RS, LS, SY, ne_eq, isFl, floatV, constA, thenQ, blockQ, pack, intA, boolA, eqA, unA, nilcA, asI, asB, asS, loadA, idxA, lenA, slcA, AV.flat, AV.one, zA1, storeA, toD, srcOf, copyA, ↓reduceIte, reduceCtorEq, List.replicate, Nat.reduceBEq, Nat.reduceAdd, Nat.reduceMul, Nat.reduceSub, Nat.reduceLeDiff, Nat.reduceLT, Int.reduceToNat, Nat.reduceEqDiff, Int.reduceEq, g1, g2, hfl, hil, h]) | (refine AW.condP rfl (fun h => ?_) (fun h => ?_) <;> try simp only [Bool.and_eq_true, decide_eq_true_eq, Bool.not_eq_true', decide_eq_false_iff_not, Bool.not_eq_false', Bool.not_eq_true, Bool.not_eq_false] at h) | refine And.intro (by omega) ?_ | fail)
          exact ⟨Q, [0, 1, 2, 3, 4], hsu.symm, rfl, by decide, rfl, by simp [NT, belA, belL, tget, renA, renL, nmL, renA_gVg, belA_gVg], ⟨⟨rfl, rfl⟩, ⟨⟨rfl, rfl⟩, ⟨⟨rfl, rfl⟩, ⟨⟨rfl, rfl⟩, NS.g rfl trivial⟩⟩⟩⟩⟩
        · rw [hb] at qc hsu
          simp only [if_true] at hsu
          cases Q with
          | nil =>
            simp only [gVg_nil, gBg_nil]
            repeat' (first | refine AW.seq' ?_ | with_reducible refine AW.blockS rfl ?_ | ((first | refine AW.ops ?_ | refine AW.draw ?_ | refine AW.skip ?_ | refine AW.ret ?_ | refine AW.exit ?_ | refine Fn.call (qc) rfl rfl ?_) <;> simp only [RS, LS, SY, ne_eq, isFl, floatV, constA, thenQ, blockQ, pack, intA, boolA, eqA, unA, nilcA, asI, asB, asS, loadA, idxA, lenA, slcA, AV.flat, AV.one, zA1, storeA, toD, srcOf, copyA, ↓reduceIte, reduceCtorEq, List.replicate, Nat.reduceBEq, Nat.reduceAdd, Nat.reduceMul, Nat.reduceSub, Nat.reduceLeDiff, Nat.reduceLT, Int.reduceToNat, Nat.reduceEqDiff, Int.reduceEq, g1, g2, hfl, hil]) | refine AW.condT rfl ?_ | refine AW.condF rfl ?_ | ((first | (refine GI.of (fun h => ?_) (fun h => ?_) ?emm; case emm => first | exact Classical.em _ | exact (Classical.em _).symm | grind) | (refine GD.of (fun h => ?_) (fun h => ?_) ?emm; case emm => first | exact Classical.em _ | exact (Classical.em _).symm | grind)) <;> simp only [RS, LS, SY, ne_eq, isFl, floatV, constA, thenQ, blockQ, pack, intA, boolA, eqA, unA, nilcA, asI, asB, asS, loadA, idxA, lenA, slcA, AV.flat, AV.one, zA1, storeA, toD, srcOf, copyA, ↓reduceIte, reduceCtorEq, List.replicate, Nat.reduceBEq, Nat.reduceAdd, Nat.reduceMul, Nat.reduceSub, Nat.reduceLeDiff, Nat.reduceLT, Int.reduceToNat, Nat.reduceEqDiff, Int.reduceEq, g1, g2, hfl, hil, h]) | (refine AW.condP rfl (fun h => ?_) (fun h => ?_) <;> try simp only [Bool.and_eq_true, decide_eq_true_eq, Bool.not_eq_true', decide_eq_false_iff_not, Bool.not_eq_false', Bool.not_eq_true, Bool.not_eq_false] at h) | refine And.intro (by omega) ?_ | fail)
            exact ⟨[z], [0, 1, 2, 3, 6], hsu.symm, rfl, by decide, rfl, by simp [NT, belA, belL, tget, renA, renL, nmL, renA_gVg, belA_gVg, gVg_cons], ⟨⟨rfl, rfl⟩, ⟨⟨rfl, rfl⟩, ⟨⟨rfl, rfl⟩, ⟨⟨rfl, rfl⟩, ⟨⟨rfl, rfl⟩, trivial⟩⟩⟩⟩⟩⟩
          | cons x Q =>
            simp only [gVg_cons, gBg_cons]
            have hQ2 : Q.length + 1 ≤ 8 := hQl
            have t3 : List.take Q.length (List.map (nR out time speed) Q) = List.map (nR out time speed) Q := List.take_of_length_le (by simp)
            repeat' (first | refine AW.seq' ?_ | with_reducible refine AW.blockS rfl ?_ | ((first | refine AW.ops ?_ | refine AW.draw ?_ | refine AW.skip ?_ | refine AW.ret ?_ | refine AW.exit ?_ | refine Fn.call (qc) rfl rfl ?_) <;> simp (disch := omega) only [RS, LS, SY, ne_eq, isFl, floatV, constA, thenQ, blockQ, pack, intA, boolA, eqA, unA, nilcA, asI, asB, asS, loadA, idxA, lenA, slcA, AV.flat, AV.one, zA1, storeA, toD, srcOf, copyA, ↓reduceIte, reduceCtorEq, List.replicate, Nat.reduceBEq, Nat.reduceAdd, Nat.reduceMul, Nat.reduceSub, Nat.reduceLeDiff, Nat.reduceLT, Int.reduceToNat, Nat.reduceEqDiff, Int.reduceEq, wrap_id, g1, g2, hfl, hil, t3]) | refine AW.condT rfl ?_ | refine AW.condF rfl ?_ | ((first | (refine GI.of (fun h => ?_) (fun h => ?_) ?emm; case emm => first | exact Classical.em _ | exact (Classical.em _).symm | grind) | (refine GD.of (fun h => ?_) (fun h => ?_) ?emm; case emm => first | exact Classical.em _ | exact (Classical.em _).symm | grind)) <;> simp (disch := omega) only [RS, LS, SY, ne_eq, isFl, floatV, constA, thenQ, blockQ, pack, intA, boolA, eqA, unA, nilcA, asI, asB, asS, loadA, idxA, lenA, slcA, AV.flat, AV.one, zA1, storeA, toD, srcOf, copyA, ↓reduceIte, reduceCtorEq, List.replicate, Nat.reduceBEq, Nat.reduceAdd, Nat.reduceMul, Nat.reduceSub, Nat.reduceLeDiff, Nat.reduceLT, Int.reduceToNat, Nat.reduceEqDiff, Int.reduceEq, wrap_id, g1, g2, hfl, hil, t3, h]) | (refine AW.condP rfl (fun h => ?_) (fun h => ?_) <;> try simp only [Bool.and_eq_true, decide_eq_true_eq, Bool.not_eq_true', decide_eq_false_iff_not, Bool.not_eq_false', Bool.not_eq_true, Bool.not_eq_false] at h) | refine And.intro (by omega) ?_ | fail)
            have e3 : gBg 58 4 (nR out time speed) (x :: Q ++ [z]) = some (.cells 58 4 ((fxR (nowR out time speed x)).map .d :: (rowsA (List.map (nR out time speed) Q) ++ [(fxR (nowR out time speed z)).map .d]))) := by
              rw [List.cons_append, gBg_cons, List.map_cons, List.map_append]; simp [rowsA]
            exact ⟨x :: Q ++ [z], [0, 1, 2, 3, 6], hsu.symm, rfl, by decide, rfl, by simp [NT, belA, belL, tget, renA, renL, nmL, renA_gVg, belA_gVg, gVg_cons], ⟨⟨rfl, rfl⟩, ⟨⟨rfl, rfl⟩, ⟨⟨rfl, rfl⟩, ⟨⟨rfl, rfl⟩, NS.g (by rw [e3]; rfl) trivial⟩⟩⟩⟩⟩
      · intro Q hJ
        rw [List.take_length] at hJ
        subst hJ
        simp only [RS, LS, SY, ne_eq, isFl, floatV, constA, thenQ, blockQ, pack, intA, boolA, eqA, unA, nilcA, asI, asB, asS, loadA, idxA, lenA, slcA, AV.flat, AV.one, zA1, storeA, toD, srcOf, copyA, ↓reduceIte, reduceCtorEq, List.replicate, Nat.reduceBEq, Nat.reduceAdd, Nat.reduceMul, Nat.reduceSub, Nat.reduceLeDiff, Nat.reduceLT, Int.reduceToNat, Nat.reduceEqDiff, Int.reduceEq]
        exact ⟨[0, 1, 2, 3, 4], rfl, by decide, rfl, by simp [NT, belA, belL, tget, renA, renL, nmL, renA_gVg, belA_gVg], ⟨⟨rfl, rfl⟩, ⟨⟨rfl, rfl⟩, ⟨⟨rfl, rfl⟩, ⟨⟨rfl, rfl⟩, NS.g rfl trivial⟩⟩⟩⟩⟩
    · have hQ8 : (goodP S m).length ≤ 8 := by have := goodP_len S m; omega
      generalize goodP S m = Q at hQ8
      refine AW.frzX (id := 4) (mem := Q) (t := 58) (k := 4) (f := nR out time speed) rfl [(13, .ptr 0 0 0), (14, .ptr 1 0 0), (18, .ptr 2 0 0), (21, .ptr 3 0 0), (17, LT out), (22, LF (fixS out time speed Q))] [some (.cells 35 5 [[AI .i64 0, AI .i64 0, AI .i64 0, AI .i64 0, AI .i64 0]]), some (.cells 43 3 [[.ful 0 [], .ful 0 [], AB false]]), some (.cells 43 3 [[LI m, LI cs, AB tie]]), some (.cells 35 5 [[AI .i64 0, AI .i64 0, AI .i64 0, AI .i64 time, AI .i64 0]]), none] ⟨.inl ⟨rfl, .ptr⟩, .inl ⟨rfl, .ptr⟩, .inl ⟨rfl, .ptr⟩, .inl ⟨rfl, .ptr⟩, .inl ⟨rfl, .d⟩, .inr ⟨rfl, by rw [nR_fxs]⟩, trivial⟩ rfl ?_ ?_
      · intro i b hi hb
        match i, hi, hb with
        | 0, _, hb => simp at hb; subst hb; exact fun _ _ => ⟨rfl, by simp [fitB, fitL, fitA]⟩
        | 1, _, hb => simp at hb; subst hb; exact fun _ _ => ⟨rfl, by simp [fitB, fitL, fitA]⟩
        | 2, _, hb => simp at hb; subst hb; exact fun _ _ => ⟨rfl, by simp [fitB, fitL, fitA]⟩
        | 3, _, hb => simp at hb; subst hb; exact fun _ _ => ⟨rfl, by simp [fitB, fitL, fitA]⟩
        | 4, hi, _ => exact absurd rfl hi
        | i + 5, _, hb => simp at hb
      have hFl : (fixS out time speed Q).length ≤ 1000000 := by simp [fixS]; omega
      generalize fixS out time speed Q = F at hFl
      have qf := fuse_ok F hFl
      unfold fuseV at qf
      unfold nextG
      by_cases hc : chkF F = 0
      · rw [if_pos hc] at qf
        rw [if_pos hc]
        repeat' (first | refine AW.seq' ?_ | with_reducible refine AW.blockS rfl ?_ | ((first | refine AW.ops ?_ | refine AW.draw ?_ | refine AW.skip ?_ | refine AW.ret ?_ | refine AW.exit ?_ | refine Fn.call (qf) rfl rfl ?_) <;> simp only [RS, LS, SY, ne_eq, isFl, floatV, constA, thenQ, blockQ, pack, intA, boolA, eqA, unA, nilcA, asI, asB, asS, loadA, idxA, lenA, slcA, AV.flat, AV.one, zA1, storeA, toD, srcOf, copyA, ↓reduceIte, reduceCtorEq, List.replicate, Nat.reduceBEq, Nat.reduceAdd, Nat.reduceMul, Nat.reduceSub, Nat.reduceLeDiff, Nat.reduceLT, Int.reduceToNat, Nat.reduceEqDiff, Int.reduceEq]) | refine AW.condT rfl ?_ | refine AW.condF rfl ?_ | ((first | (refine GI.of (fun h => ?_) (fun h => ?_) ?emm; case emm => first | exact Classical.em _ | exact (Classical.em _).symm | grind) | (refine GD.of (fun h => ?_) (fun h => ?_) ?emm; case emm => first | exact Classical.em _ | exact (Classical.em _).symm | grind)) <;> simp only [RS, LS, SY, ne_eq, isFl, floatV, constA, thenQ, blockQ, pack, intA, boolA, eqA, unA, nilcA, asI, asB, asS, loadA, idxA, lenA, slcA, AV.flat, AV.one, zA1, storeA, toD, srcOf, copyA, ↓reduceIte, reduceCtorEq, List.replicate, Nat.reduceBEq, Nat.reduceAdd, Nat.reduceMul, Nat.reduceSub, Nat.reduceLeDiff, Nat.reduceLT, Int.reduceToNat, Nat.reduceEqDiff, Int.reduceEq, h]) | (refine AW.condP rfl (fun h => ?_) (fun h => ?_) <;> try simp only [Bool.and_eq_true, decide_eq_true_eq, Bool.not_eq_true', decide_eq_false_iff_not, Bool.not_eq_false', Bool.not_eq_true, Bool.not_eq_false] at h) | refine And.intro (by omega) ?_ | fail)
      · rw [if_neg hc] at qf
        rw [if_neg hc]
        repeat' (first | refine AW.seq' ?_ | with_reducible refine AW.blockS rfl ?_ | ((first | refine AW.ops ?_ | refine AW.draw ?_ | refine AW.skip ?_ | refine AW.ret ?_ | refine AW.exit ?_ | refine Fn.call (qf) rfl rfl ?_) <;> simp only [RS, LS, SY, ne_eq, isFl, floatV, constA, thenQ, blockQ, pack, intA, boolA, eqA, unA, nilcA, asI, asB, asS, loadA, idxA, lenA, slcA, AV.flat, AV.one, zA1, storeA, toD, srcOf, copyA, ↓reduceIte, reduceCtorEq, List.replicate, Nat.reduceBEq, Nat.reduceAdd, Nat.reduceMul, Nat.reduceSub, Nat.reduceLeDiff, Nat.reduceLT, Int.reduceToNat, Nat.reduceEqDiff, Int.reduceEq]) | refine AW.condT rfl ?_ | refine AW.condF rfl ?_ | ((first | (refine GI.of (fun h => ?_) (fun h => ?_) ?emm; case emm => first | exact Classical.em _ | exact (Classical.em _).symm | grind) | (refine GD.of (fun h => ?_) (fun h => ?_) ?emm; case emm => first | exact Classical.em _ | exact (Classical.em _).symm | grind)) <;> simp only [RS, LS, SY, ne_eq, isFl, floatV, constA, thenQ, blockQ, pack, intA, boolA, eqA, unA, nilcA, asI, asB, asS, loadA, idxA, lenA, slcA, AV.flat, AV.one, zA1, storeA, toD, srcOf, copyA, ↓reduceIte, reduceCtorEq, List.replicate, Nat.reduceBEq, Nat.reduceAdd, Nat.reduceMul, Nat.reduceSub, Nat.reduceLeDiff, Nat.reduceLT, Int.reduceToNat, Nat.reduceEqDiff, Int.reduceEq, h]) | (refine AW.condP rfl (fun h => ?_) (fun h => ?_) <;> try simp only [Bool.and_eq_true, decide_eq_true_eq, Bool.not_eq_true', decide_eq_false_iff_not, Bool.not_eq_false', Bool.not_eq_true, Bool.not_eq_false] at h) | refine And.intro (by omega) ?_ | fail)
/-- The estimate behind a step, of the tracks behind it. -/
def stepEs (l : List Rf) (speed : Int) (out : List Tk) (e : Es) (time : Int) : Es := nextP e time speed out (selP out time speed l.length) (voteS l out time speed (selP out time speed l.length)).m
def stepVt (l : List Rf) (speed : Int) (out : List Tk) (time : Int) : Vt := voteS l out time speed (selP out time speed l.length)
theorem estep_ok {l : List Rf} {speed : Int} {ts : List Tk} {e : Es} {time : Int} (h : ChkOK l speed ts e time) (fs : List Sg) (hfs : fs.length ≤ 1000000) :
    Fn Tryz.prog 9 [LR l, AI .i64 speed, LT ts, AE e, AI .i64 time, LSg fs] (.tup [LT (takeP l ts time fs), AE (stepEs l speed (takeP l ts time fs) e time), AVt (stepVt l speed (takeP l ts time fs) time), AI .i64 0]) :=
  (step0 h fs hfs).take fun v s' e => ⟨by rw [e]; rfl, fun i b hi => by simp at hi, e, by simp⟩
def holdsP (e : Es) (x y : Int) : Bool := decide (e.s ≠ 0) && okP x y && okP e.x e.y && decide (boxP x y e.x e.y ≤ e.b)
theorem holds_ok (e : Es) (x y : Int) : Fn Tryz.prog 10 [AE e, AP x y] (AB (holdsP e x y)) := by
  refine Fn.of fn10 (by simp) rfl ?_
  unfold c10
  have q := fbox_ok x y e.x e.y
  have hb : (boxE x y e.x e.y = 0) ↔ (okP x y = true ∧ okP e.x e.y = true) := by
    unfold boxE
    cases okP x y <;> cases okP e.x e.y <;> simp
  repeat' (first | refine AW.seq' ?_ | with_reducible refine AW.blockS rfl ?_ | ((first | refine AW.ops ?_ | refine AW.draw ?_ | refine AW.skip ?_ | refine AW.ret ?_ | refine AW.exit ?_ | refine Fn.call (q) rfl rfl ?_) <;> simp only [RS, LS, SY, ne_eq, isFl, floatV, constA, thenQ, blockQ, pack, intA, boolA, eqA, unA, nilcA, asI, asB, asS, loadA, idxA, lenA, slcA, AV.flat, AV.one, zA1, storeA, toD, srcOf, copyA, ↓reduceIte, reduceCtorEq, List.replicate, Nat.reduceBEq, Nat.reduceAdd, Nat.reduceMul, Nat.reduceSub, Nat.reduceLeDiff, Nat.reduceLT, Int.reduceToNat, Nat.reduceEqDiff, Int.reduceEq]) | refine AW.condT rfl ?_ | refine AW.condF rfl ?_ | ((first | (refine GI.of (fun h => ?_) (fun h => ?_) ?emm; case emm => first | exact Classical.em _ | exact (Classical.em _).symm | grind) | (refine GD.of (fun h => ?_) (fun h => ?_) ?emm; case emm => first | exact Classical.em _ | exact (Classical.em _).symm | grind)) <;> simp only [RS, LS, SY, ne_eq, isFl, floatV, constA, thenQ, blockQ, pack, intA, boolA, eqA, unA, nilcA, asI, asB, asS, loadA, idxA, lenA, slcA, AV.flat, AV.one, zA1, storeA, toD, srcOf, copyA, ↓reduceIte, reduceCtorEq, List.replicate, Nat.reduceBEq, Nat.reduceAdd, Nat.reduceMul, Nat.reduceSub, Nat.reduceLeDiff, Nat.reduceLT, Int.reduceToNat, Nat.reduceEqDiff, Int.reduceEq, h]) | (refine AW.condP rfl (fun h => ?_) (fun h => ?_) <;> try simp only [Bool.and_eq_true, decide_eq_true_eq, Bool.not_eq_true', decide_eq_false_iff_not, Bool.not_eq_false', Bool.not_eq_true, Bool.not_eq_false] at h) | refine And.intro (by omega) ?_ | fail)
  all_goals
    clear q
    simp only [holdsP]
    first
      | (simp_all; done)
      | (simp_all [hb]; done)
      | trace_state
end Go.Proofs.YtipanehdmhachaaGreatDoor.H
