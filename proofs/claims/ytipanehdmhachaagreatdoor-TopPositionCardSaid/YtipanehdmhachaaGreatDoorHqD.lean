/- Chapter 10: the vote of the tracks that may be used. -/
import Derived.Test.YtipanehdmhachaaGreatDoorHqB
import Derived.Test.YtipanehdmhachaaGreatDoorHkC
import Derived.Test.YtipanehdmhachaaGreatDoorHvM
import Derived.Test.YtipanehdmhachaaGreatDoorHvV
set_option linter.unusedSimpArgs false
set_option linter.unusedVariables false
set_option linter.unusedSectionVars false
namespace Go.Proofs.YtipanehdmhachaaGreatDoor.H
variable [DR]
def cauR (l : List Rf) (i : Nat) : Int := (l.getD i ⟨0, 0, 0, 0⟩).c
def nowR (ts : List Tk) (time speed : Int) (i : Nat) : Fx := nowF (ts.getD i tk0) time speed
/-- The tracks that may be used. -/
def selP (ts : List Tk) (time speed : Int) (n : Nat) : List Nat := (List.range n).filter fun i => nowB (ts.getD i tk0) time speed
def cauS (l : List Rf) (S : List Nat) : List Int := S.map (cauR l)
def fixS (ts : List Tk) (time speed : Int) (S : List Nat) : List Fx := S.map (nowR ts time speed)
def idxS (S : List Nat) : List Int := S.map Int.ofNat
def memS (S : List Nat) (m : List Int) : List Int := m.map fun k => (idxS S).getD k.toNat 0
def voteS (l : List Rf) (ts : List Tk) (time speed : Int) (S : List Nat) : Vt :=
  let v := decP (cauS l S) (fixS ts time speed S)
  ⟨memS S v.m, v.c, v.t⟩
def memT (S : List Nat) (m : List Int) (i : Nat) : List Int := memS S (m.take i) ++ m.drop i
theorem memT_zero (S : List Nat) (m : List Int) : memT S m 0 = m := by simp [memT, memS]
theorem memT_all (S : List Nat) (m : List Int) : memT S m m.length = memS S m := by simp [memT]
theorem memT_len (S : List Nat) (m : List Int) (i : Nat) : (memT S m i).length = m.length := by
  simp [memT, memS]; omega
theorem memS_len (S : List Nat) (m : List Int) : (memS S m).length = m.length := by simp [memS]
theorem memT_get (S : List Nat) {m : List Int} {i : Nat} (hi : i < m.length) : (memT S m i)[i]? = some m[i] := by
  unfold memT
  rw [List.getElem?_append_right (by rw [memS_len, List.length_take]; omega), memS_len, List.length_take, List.getElem?_drop, List.getElem?_eq_getElem (by omega)]
  congr 2
  omega
theorem memT_succ (S : List Nat) {m : List Int} {i : Nat} (hi : i < m.length) : memT S m (i + 1) = (memT S m i).set i ((idxS S).getD m[i].toNat 0) := by
  unfold memT
  have hl : (memS S (m.take i)).length = i := by rw [memS_len, List.length_take]; omega
  rw [List.set_append_right _ _ (by omega), hl, Nat.sub_self, List.drop_eq_getElem_cons hi, List.set_cons_zero, List.take_succ_eq_append_getElem hi]
  simp only [memS, List.map_append, List.map_cons, List.map_nil, List.append_assoc, List.singleton_append]
theorem selP_succ (ts : List Tk) (time speed : Int) (n : Nat) : selP ts time speed (n + 1) = selP ts time speed n ++ if nowB (ts.getD n tk0) time speed then [n] else [] := by
  unfold selP
  rw [List.range_succ, List.filter_append]
  congr 1
  simp only [List.filter_cons, List.filter_nil]
theorem selP_len (ts : List Tk) (time speed : Int) (n : Nat) : (selP ts time speed n).length ≤ n := by
  unfold selP
  have := List.length_filter_le (fun i => nowB (ts.getD i tk0) time speed) (List.range n)
  rwa [List.length_range] at this
abbrev iR (i : Nat) : List D := [dI (i : Int)]
abbrev cR (l : List Rf) (i : Nat) : List D := [dI (cauR l i)]
abbrev nR (ts : List Tk) (time speed : Int) (i : Nat) : List D := fxR (nowR ts time speed i)
theorem own_callD {P : Program} {f : FuncId} {vs : List AV} {m cs : List Int} {s : St} {Q : AV → St → Prop} (h : ACalls P f vs [] fun v s' => v = .tup [.agg [.own 0 0 m.length, LI cs, AB false], .d (.v (.int .i64 0))] ∧ s' = [some (.cells 3 1 (rowsA (ints m)))]) (hb : belL 0 vs = true)
    (hq : Q (.tup [.agg [.own s.length 0 m.length, LI cs, AB false], .d (.v (.int .i64 0))]) (s ++ [some (.cells 3 1 (rowsA (ints m)))])) : ACalls P f vs s Q :=
  ACalls.frame (ft := []) h (given_nil hb) fun v s' ⟨e1, e2⟩ => by
    subst e1 e2
    rw [backS0]
    simp only [List.map_cons, List.map_nil, Option.map_some, renB_rowsA]
    exact hq
theorem dec_mem {c : List Int} {l : List Fx} {v : Int} (h : v ∈ (decP c l).m) : 0 ≤ v ∧ v < l.length := by
  unfold decP at h
  split at h
  · unfold voteP at h
    split at h
    · simp at h
    · obtain ⟨k, -, -, hk⟩ := (setsP_mem ..).1 (bestP_best (sets_ne c l)).1
      simp only at h
      rw [hk] at h
      obtain ⟨i, h1, -, rfl⟩ := (bitL_mem ..).1 h
      omega
  · simp at h
theorem dec_t {c : List Int} {l : List Fx} (h : (decP c l).m ≠ []) : (decP c l).t = false := by
  unfold decP at h ⊢
  split
  · rename_i h1
    rw [if_pos h1] at h
    unfold voteP at h ⊢
    split
    · rename_i h2
      rw [if_pos h2] at h; exact absurd rfl h
    · rfl
  · rfl
theorem iR_ints (S : List Nat) : S.map iR = ints (idxS S) := by simp [idxS, ints]
theorem cR_ints (l : List Rf) (S : List Nat) : S.map (cR l) = ints (cauS l S) := by simp [cauS, ints]
theorem nR_fxs (ts : List Tk) (time speed : Int) (S : List Nat) : S.map (nR ts time speed) = fxs (fixS ts time speed S) := by simp [fixS]
abbrev VtS (l : List Rf) (ts : List Tk) (time speed : Int) (S : List Nat) : St := [some (.cells 43 3 [[.ful 0 [], .ful 0 [], AB false]]), gBg 3 1 iR S, gBg 3 1 (cR l) S, gBg 58 4 (nR ts time speed) S]
set_option maxHeartbeats 8000000 in
theorem votes0 (l : List Rf) (ts : List Tk) (time speed : Int) (hc : CfgOK l) (hts : ts.length = l.length) (ht : timesP time speed = true) :
    ACalls Tryz.prog 16 [LR l, LT ts, AI .i64 time, AI .i64 speed] [] fun v s' => ∃ r, WkL r [AVt (voteS l ts time speed (selP ts time speed l.length)), LI (idxS (selP ts time speed l.length)), LF (fixS ts time speed (selP ts time speed l.length))] ∧ v = .tup r := by
  refine ACalls.of fn16 (by simp) ?_
  unfold c16
  have h8 := hc.1
  have q1 := config_ok hc
  have q2 := times_ok time speed
  rw [ht] at q2
  have hmn : (min (ts.length : Int) l.length).toNat = l.length := by omega
  have hts' : ((ts.length : Nat) : Int) = l.length := by omega
  repeat' (first | refine AW.seq' ?_ | with_reducible refine AW.blockS rfl ?_ | ((first | refine AW.ops ?_ | refine AW.draw ?_ | refine AW.skip ?_ | refine AW.ret ?_ | refine AW.exit ?_ | refine Fn.call (q1) rfl rfl ?_ | refine Fn.call (q2) rfl rfl ?_) <;> simp only [RS, LS, SY, ne_eq, isFl, floatV, constA, thenQ, blockQ, pack, intA, boolA, eqA, unA, nilcA, asI, asB, asS, loadA, idxA, lenA, slcA, AV.flat, AV.one, zA1, storeA, toD, srcOf, copyA, ↓reduceIte, reduceCtorEq, List.replicate, Nat.reduceBEq, Nat.reduceAdd, Nat.reduceMul, Nat.reduceSub, Nat.reduceLeDiff, Nat.reduceLT, Int.reduceToNat, Nat.reduceEqDiff, Int.reduceEq, hts']) | refine AW.condT rfl ?_ | refine AW.condF rfl ?_ | ((first | (refine GI.of (fun h => ?_) (fun h => ?_) ?emm; case emm => first | exact Classical.em _ | exact (Classical.em _).symm | grind) | (refine GD.of (fun h => ?_) (fun h => ?_) ?emm; case emm => first | exact Classical.em _ | exact (Classical.em _).symm | grind)) <;> simp only [RS, LS, SY, ne_eq, isFl, floatV, constA, thenQ, blockQ, pack, intA, boolA, eqA, unA, nilcA, asI, asB, asS, loadA, idxA, lenA, slcA, AV.flat, AV.one, zA1, storeA, toD, srcOf, copyA, ↓reduceIte, reduceCtorEq, List.replicate, Nat.reduceBEq, Nat.reduceAdd, Nat.reduceMul, Nat.reduceSub, Nat.reduceLeDiff, Nat.reduceLT, Int.reduceToNat, Nat.reduceEqDiff, Int.reduceEq, hts', h]) | (refine AW.condP rfl (fun h => ?_) (fun h => ?_) <;> try simp only [Bool.and_eq_true, decide_eq_true_eq, Bool.not_eq_true', decide_eq_false_iff_not, Bool.not_eq_false', Bool.not_eq_true, Bool.not_eq_false] at h) | refine And.intro (by omega) ?_ | fail)
  have etk : List.take ((min (l.length : Int) l.length).toNat - 0) (tks ts) = tks ts := List.take_of_length_le (by rw [List.length_map]; omega)
  rw [etk, List.length_map, hts]
  refine AW.cut2 (M := fun T s => ∃ rl, Nrm rl 0 T s [(8, .ptr 0 0 0), (11, gVg 1 (selP ts time speed l.length)), (12, gVg 2 (selP ts time speed l.length)), (13, gVg 3 (selP ts time speed l.length))] (VtS l ts time speed (selP ts time speed l.length))) ?_ (fun T s ⟨rl, hN⟩ => AW.nrm rl hN ?_)
  · refine AW.range (α := List Nat) l.length (by omega) (by decide) (fun _ S => [(38, LT ts), (0, LR l), (2, AI .i64 time), (3, AI .i64 speed), (8, .ptr 0 0 0), (11, gVg 1 S), (12, gVg 2 S), (13, gVg 3 S)]) (fun _ S => VtS l ts time speed S) (fun i S => S = selP ts time speed i) [] rfl [0, 1, 2, 3] ⟨rfl, by decide, rfl, by simp [NT, belA, belL, tget, renA, renL, nmL, gVg_nil], ⟨⟨rfl, rfl⟩, trivial⟩⟩ (by simp) ?_ ?_
    · intro i S hi hJ
      unfold c16_0
      have hsu := selP_succ ts time speed i
      rw [← hJ] at hsu
      have hSl : S.length ≤ 8 := by rw [hJ]; have := selP_len ts time speed i; omega
      clear hJ
      have hi2 : i < ts.length := by omega
      have g1 : (tks ts).getD i [] = tkR ts[i] := getD_map_lt hi2
      have g2 : (rfs l).getD i [] = rfR l[i] := getD_map_lt hi
      have qn := enow_ok ts[i] time speed ht
      have hg : ts.getD i tk0 = ts[i] := by simp [List.getD, hi2]
      have hcr : cR l i = [dI l[i].c] := by simp [cauR, List.getD, hi]
      have hnr : nR ts time speed i = fxR (nowF ts[i] time speed) := by unfold nR nowR; rw [hg]
      rw [hg] at hsu
      generalize nowF ts[i] time speed = F at qn hnr
      cases hb : nowB ts[i] time speed
      · rw [hb] at qn hsu
        simp only [Bool.false_eq_true, if_false, List.append_nil] at hsu
        repeat' (first | refine AW.seq' ?_ | with_reducible refine AW.blockS rfl ?_ | ((first | refine AW.ops ?_ | refine AW.draw ?_ | refine AW.skip ?_ | refine AW.ret ?_ | refine AW.exit ?_ | refine Fn.call (qn) rfl rfl ?_) <;> simp only [RS, LS, SY, ne_eq, isFl, floatV, constA, thenQ, blockQ, pack, intA, boolA, eqA, unA, nilcA, asI, asB, asS, loadA, idxA, lenA, slcA, AV.flat, AV.one, zA1, storeA, toD, srcOf, copyA, ↓reduceIte, reduceCtorEq, List.replicate, Nat.reduceBEq, Nat.reduceAdd, Nat.reduceMul, Nat.reduceSub, Nat.reduceLeDiff, Nat.reduceLT, Int.reduceToNat, Nat.reduceEqDiff, Int.reduceEq, g1, g2]) | refine AW.condT rfl ?_ | refine AW.condF rfl ?_ | ((first | (refine GI.of (fun h => ?_) (fun h => ?_) ?emm; case emm => first | exact Classical.em _ | exact (Classical.em _).symm | grind) | (refine GD.of (fun h => ?_) (fun h => ?_) ?emm; case emm => first | exact Classical.em _ | exact (Classical.em _).symm | grind)) <;> simp only [RS, LS, SY, ne_eq, isFl, floatV, constA, thenQ, blockQ, pack, intA, boolA, eqA, unA, nilcA, asI, asB, asS, loadA, idxA, lenA, slcA, AV.flat, AV.one, zA1, storeA, toD, srcOf, copyA, ↓reduceIte, reduceCtorEq, List.replicate, Nat.reduceBEq, Nat.reduceAdd, Nat.reduceMul, Nat.reduceSub, Nat.reduceLeDiff, Nat.reduceLT, Int.reduceToNat, Nat.reduceEqDiff, Int.reduceEq, g1, g2, h]) | (refine AW.condP rfl (fun h => ?_) (fun h => ?_) <;> try simp only [Bool.and_eq_true, decide_eq_true_eq, Bool.not_eq_true', decide_eq_false_iff_not, Bool.not_eq_false', Bool.not_eq_true, Bool.not_eq_false] at h) | refine And.intro (by omega) ?_ | fail)
        exact ⟨S, [0, 1, 2, 3], hsu.symm, rfl, by decide, rfl, by simp [NT, belA, belL, tget, renA, renL, nmL, renA_gVg, belA_gVg], ⟨⟨rfl, rfl⟩, NS.g rfl (NS.g rfl (NS.g rfl trivial))⟩⟩
      · rw [hb] at qn hsu
        simp only [if_true] at hsu
        cases S with
        | nil =>
          simp only [VtS, gVg_nil, gBg_nil]
          repeat' (first | refine AW.seq' ?_ | with_reducible refine AW.blockS rfl ?_ | ((first | refine AW.ops ?_ | refine AW.draw ?_ | refine AW.skip ?_ | refine AW.ret ?_ | refine AW.exit ?_ | refine Fn.call (qn) rfl rfl ?_) <;> simp only [RS, LS, SY, ne_eq, isFl, floatV, constA, thenQ, blockQ, pack, intA, boolA, eqA, unA, nilcA, asI, asB, asS, loadA, idxA, lenA, slcA, AV.flat, AV.one, zA1, storeA, toD, srcOf, copyA, ↓reduceIte, reduceCtorEq, List.replicate, Nat.reduceBEq, Nat.reduceAdd, Nat.reduceMul, Nat.reduceSub, Nat.reduceLeDiff, Nat.reduceLT, Int.reduceToNat, Nat.reduceEqDiff, Int.reduceEq, g1, g2]) | refine AW.condT rfl ?_ | refine AW.condF rfl ?_ | ((first | (refine GI.of (fun h => ?_) (fun h => ?_) ?emm; case emm => first | exact Classical.em _ | exact (Classical.em _).symm | grind) | (refine GD.of (fun h => ?_) (fun h => ?_) ?emm; case emm => first | exact Classical.em _ | exact (Classical.em _).symm | grind)) <;> simp only [RS, LS, SY, ne_eq, isFl, floatV, constA, thenQ, blockQ, pack, intA, boolA, eqA, unA, nilcA, asI, asB, asS, loadA, idxA, lenA, slcA, AV.flat, AV.one, zA1, storeA, toD, srcOf, copyA, ↓reduceIte, reduceCtorEq, List.replicate, Nat.reduceBEq, Nat.reduceAdd, Nat.reduceMul, Nat.reduceSub, Nat.reduceLeDiff, Nat.reduceLT, Int.reduceToNat, Nat.reduceEqDiff, Int.reduceEq, g1, g2, h]) | (refine AW.condP rfl (fun h => ?_) (fun h => ?_) <;> try simp only [Bool.and_eq_true, decide_eq_true_eq, Bool.not_eq_true', decide_eq_false_iff_not, Bool.not_eq_false', Bool.not_eq_true, Bool.not_eq_false] at h) | refine And.intro (by omega) ?_ | fail)
          have e2 : gBg 3 1 (cR l) [i] = some (.cells 3 1 [[AI .i64 l[i].c]]) := by rw [gBg_cons, List.map_cons, hcr]; rfl
          have e3 : gBg 58 4 (nR ts time speed) [i] = some (.cells 58 4 [[AI .i64 F.t, AI .i64 F.x, AI .i64 F.y, AI .i64 F.e]]) := by rw [gBg_cons, List.map_cons, hnr]; rfl
          exact ⟨[i], [0, 6, 7, 8], hsu.symm, rfl, by decide, rfl, by simp [NT, belA, belL, tget, renA, renL, nmL, gVg_cons], ⟨⟨rfl, rfl⟩, NS.g rfl (NS.g (by rw [e2]; rfl) (NS.g (by rw [e3]; rfl) trivial))⟩⟩
        | cons x S =>
          simp only [VtS, gVg_cons, gBg_cons]
          have hS2 : S.length + 1 ≤ 8 := hSl
          have t1 : List.take S.length (List.map iR S) = List.map iR S := List.take_of_length_le (by simp)
          have t2 : List.take S.length (List.map (cR l) S) = List.map (cR l) S := List.take_of_length_le (by simp)
          have t3 : List.take S.length (List.map (nR ts time speed) S) = List.map (nR ts time speed) S := List.take_of_length_le (by simp)
          repeat' (first | refine AW.seq' ?_ | with_reducible refine AW.blockS rfl ?_ | ((first | refine AW.ops ?_ | refine AW.draw ?_ | refine AW.skip ?_ | refine AW.ret ?_ | refine AW.exit ?_ | refine Fn.call (qn) rfl rfl ?_) <;> simp (disch := omega) only [RS, LS, SY, ne_eq, isFl, floatV, constA, thenQ, blockQ, pack, intA, boolA, eqA, unA, nilcA, asI, asB, asS, loadA, idxA, lenA, slcA, AV.flat, AV.one, zA1, storeA, toD, srcOf, copyA, ↓reduceIte, reduceCtorEq, List.replicate, Nat.reduceBEq, Nat.reduceAdd, Nat.reduceMul, Nat.reduceSub, Nat.reduceLeDiff, Nat.reduceLT, Int.reduceToNat, Nat.reduceEqDiff, Int.reduceEq, wrap_id, g1, g2, t1, t2, t3]) | refine AW.condT rfl ?_ | refine AW.condF rfl ?_ | ((first | (refine GI.of (fun h => ?_) (fun h => ?_) ?emm; case emm => first | exact Classical.em _ | exact (Classical.em _).symm | grind) | (refine GD.of (fun h => ?_) (fun h => ?_) ?emm; case emm => first | exact Classical.em _ | exact (Classical.em _).symm | grind)) <;> simp (disch := omega) only [RS, LS, SY, ne_eq, isFl, floatV, constA, thenQ, blockQ, pack, intA, boolA, eqA, unA, nilcA, asI, asB, asS, loadA, idxA, lenA, slcA, AV.flat, AV.one, zA1, storeA, toD, srcOf, copyA, ↓reduceIte, reduceCtorEq, List.replicate, Nat.reduceBEq, Nat.reduceAdd, Nat.reduceMul, Nat.reduceSub, Nat.reduceLeDiff, Nat.reduceLT, Int.reduceToNat, Nat.reduceEqDiff, Int.reduceEq, wrap_id, g1, g2, t1, t2, t3, h]) | (refine AW.condP rfl (fun h => ?_) (fun h => ?_) <;> try simp only [Bool.and_eq_true, decide_eq_true_eq, Bool.not_eq_true', decide_eq_false_iff_not, Bool.not_eq_false', Bool.not_eq_true, Bool.not_eq_false] at h) | refine And.intro (by omega) ?_ | fail)
          have e1 : gBg 3 1 iR (x :: S ++ [i]) = some (.cells 3 1 ([AI .i64 x] :: (rowsA (List.map iR S) ++ [[AI .i64 i]]))) := by
            rw [List.cons_append, gBg_cons, List.map_cons, List.map_append]; simp [rowsA]
          have e2 : gBg 3 1 (cR l) (x :: S ++ [i]) = some (.cells 3 1 ([AI .i64 (cauR l x)] :: (rowsA (List.map (cR l) S) ++ [[AI .i64 l[i].c]]))) := by
            rw [List.cons_append, gBg_cons, List.map_cons, List.map_append, List.map_cons, hcr]; simp [rowsA]
          have e3 : gBg 58 4 (nR ts time speed) (x :: S ++ [i]) = some (.cells 58 4 ((fxR (nowR ts time speed x)).map .d :: (rowsA (List.map (nR ts time speed) S) ++ [[AI .i64 F.t, AI .i64 F.x, AI .i64 F.y, AI .i64 F.e]]))) := by
            rw [List.cons_append, gBg_cons, List.map_cons, List.map_append, List.map_cons, hnr]; simp [rowsA]
          exact ⟨x :: S ++ [i], [0, 6, 7, 8], hsu.symm, rfl, by decide, rfl, by simp [NT, belA, belL, tget, renA, renL, nmL, gVg_cons], ⟨⟨rfl, rfl⟩, NS.g (by rw [e1]; rfl) (NS.g (by rw [e2]; rfl) (NS.g (by rw [e3]; rfl) trivial))⟩⟩
    · intro S hJ
      subst hJ
      simp only [RS, LS, SY, ne_eq, isFl, floatV, constA, thenQ, blockQ, pack, intA, boolA, eqA, unA, nilcA, asI, asB, asS, loadA, idxA, lenA, slcA, AV.flat, AV.one, zA1, storeA, toD, srcOf, copyA, ↓reduceIte, reduceCtorEq, List.replicate, Nat.reduceBEq, Nat.reduceAdd, Nat.reduceMul, Nat.reduceSub, Nat.reduceLeDiff, Nat.reduceLT, Int.reduceToNat, Nat.reduceEqDiff, Int.reduceEq]
      exact ⟨[0, 1, 2, 3], rfl, by decide, rfl, by simp [NT, belA, belL, tget, renA, renL, nmL, renA_gVg, belA_gVg], ⟨⟨rfl, rfl⟩, NS.g rfl (NS.g rfl (NS.g rfl trivial))⟩⟩
  · have hSl : (selP ts time speed l.length).length ≤ 8 := by have := selP_len ts time speed l.length; omega
    generalize selP ts time speed l.length = S at hSl
    refine AW.frzX (id := 1) (mem := S) (t := 3) (k := 1) (f := iR) rfl [(8, .ptr 0 0 0), (11, LI (idxS S)), (12, gVg 2 S), (13, gVg 3 S)] [some (.cells 43 3 [[.ful 0 [], .ful 0 [], AB false]]), none, gBg 3 1 (cR l) S, gBg 58 4 (nR ts time speed) S] ⟨.inl ⟨rfl, .ptr⟩, .inr ⟨rfl, by rw [iR_ints]⟩, .inl ⟨rfl, .g (by decide)⟩, .inl ⟨rfl, .g (by decide)⟩, trivial⟩ rfl ?_ ?_
    · intro i b hi hb
      match i, hi, hb with
      | 0, _, hb => simp at hb; subst hb; exact fun _ _ => ⟨rfl, by simp [fitB, fitL, fitA]⟩
      | 1, hi, _ => exact absurd rfl hi
      | 2, _, hb => exact FrB.g (by simpa using hb)
      | 3, _, hb => exact FrB.g (by simpa using hb)
      | i + 4, _, hb => simp at hb
    refine AW.frzX (id := 2) (mem := S) (t := 3) (k := 1) (f := cR l) rfl [(8, .ptr 0 0 0), (11, LI (idxS S)), (12, LI (cauS l S)), (13, gVg 3 S)] [some (.cells 43 3 [[.ful 0 [], .ful 0 [], AB false]]), none, none, gBg 58 4 (nR ts time speed) S] ⟨.inl ⟨rfl, .ptr⟩, .inl ⟨rfl, .d⟩, .inr ⟨rfl, by rw [cR_ints]⟩, .inl ⟨rfl, .g (by decide)⟩, trivial⟩ rfl ?_ ?_
    · intro i b hi hb
      match i, hi, hb with
      | 0, _, hb => simp at hb; subst hb; exact fun _ _ => ⟨rfl, by simp [fitB, fitL, fitA]⟩
      | 1, _, hb => simp at hb
      | 2, hi, _ => exact absurd rfl hi
      | 3, _, hb => exact FrB.g (by simpa using hb)
      | i + 4, _, hb => simp at hb
    refine AW.frzX (id := 3) (mem := S) (t := 58) (k := 4) (f := nR ts time speed) rfl [(8, .ptr 0 0 0), (11, LI (idxS S)), (12, LI (cauS l S)), (13, LF (fixS ts time speed S))] [some (.cells 43 3 [[.ful 0 [], .ful 0 [], AB false]]), none, none, none] ⟨.inl ⟨rfl, .ptr⟩, .inl ⟨rfl, .d⟩, .inl ⟨rfl, .d⟩, .inr ⟨rfl, by rw [nR_fxs]⟩, trivial⟩ rfl ?_ ?_
    · intro i b hi hb
      match i, hi, hb with
      | 0, _, hb => simp at hb; subst hb; exact fun _ _ => ⟨rfl, by simp [fitB, fitL, fitA]⟩
      | 1, _, hb => simp at hb
      | 2, _, hb => simp at hb
      | 3, hi, _ => exact absurd rfl hi
      | i + 4, _, hb => simp at hb
    have hcl : (cauS l S).length = S.length := by simp [cauS]
    have hfl : (fixS ts time speed S).length = S.length := by simp [fixS]
    have hdl := (dec_len (cauS l S) (fixS ts time speed S)).1
    have hdm : ∀ v ∈ (decP (cauS l S) (fixS ts time speed S)).m, 0 ≤ v ∧ v < (idxS S).length := fun v hv => by
      have := dec_mem hv
      rw [hfl] at this
      simpa [idxS] using this
    have hdt := dec_t (c := cauS l S) (l := fixS ts time speed S)
    have hd1 := decide_ok (cauS l S) (fixS ts time speed S) (by omega) (by omega)
    have hvs : voteS l ts time speed S = ⟨memS S (decP (cauS l S) (fixS ts time speed S)).m, (decP (cauS l S) (fixS ts time speed S)).c, (decP (cauS l S) (fixS ts time speed S)).t⟩ := rfl
    rw [hvs]
    have hdk : ∀ m cs, decP (cauS l S) (fixS ts time speed S) = ⟨m, cs, false⟩ → m ≠ [] → _ := fun m cs h1 h2 => decide_keep (cauS l S) (fixS ts time speed S) h1 h2 ⟨by omega, by omega⟩
    generalize decP (cauS l S) (fixS ts time speed S) = v at hdl hdm hdt hd1 hdk
    obtain ⟨m, cs, tie⟩ := v
    simp only at hdl hdm hdt
    generalize decE (cauS l S) (fixS ts time speed S) = de at hd1
    cases hm : m with
    | nil =>
      subst hm
      repeat' (first | refine AW.seq' ?_ | with_reducible refine AW.blockS rfl ?_ | ((first | refine AW.ops ?_ | refine AW.draw ?_ | refine AW.skip ?_ | refine AW.ret ?_ | refine AW.exit ?_ | refine Fn.call (hd1) rfl rfl ?_) <;> simp only [RS, LS, SY, ne_eq, isFl, floatV, constA, thenQ, blockQ, pack, intA, boolA, eqA, unA, nilcA, asI, asB, asS, loadA, idxA, lenA, slcA, AV.flat, AV.one, zA1, storeA, toD, srcOf, copyA, ↓reduceIte, reduceCtorEq, List.replicate, Nat.reduceBEq, Nat.reduceAdd, Nat.reduceMul, Nat.reduceSub, Nat.reduceLeDiff, Nat.reduceLT, Int.reduceToNat, Nat.reduceEqDiff, Int.reduceEq]) | refine AW.condT rfl ?_ | refine AW.condF rfl ?_ | ((first | (refine GI.of (fun h => ?_) (fun h => ?_) ?emm; case emm => first | exact Classical.em _ | exact (Classical.em _).symm | grind) | (refine GD.of (fun h => ?_) (fun h => ?_) ?emm; case emm => first | exact Classical.em _ | exact (Classical.em _).symm | grind)) <;> simp only [RS, LS, SY, ne_eq, isFl, floatV, constA, thenQ, blockQ, pack, intA, boolA, eqA, unA, nilcA, asI, asB, asS, loadA, idxA, lenA, slcA, AV.flat, AV.one, zA1, storeA, toD, srcOf, copyA, ↓reduceIte, reduceCtorEq, List.replicate, Nat.reduceBEq, Nat.reduceAdd, Nat.reduceMul, Nat.reduceSub, Nat.reduceLeDiff, Nat.reduceLT, Int.reduceToNat, Nat.reduceEqDiff, Int.reduceEq, h]) | (refine AW.condP rfl (fun h => ?_) (fun h => ?_) <;> try simp only [Bool.and_eq_true, decide_eq_true_eq, Bool.not_eq_true', decide_eq_false_iff_not, Bool.not_eq_false', Bool.not_eq_true, Bool.not_eq_false] at h) | refine And.intro (by omega) ?_ | fail)
      refine AW.cut2 (M := fun T s => ∃ rl, Nrm rl 0 T s [(8, .ptr 0 0 0), (11, LI (idxS S)), (13, LF (fixS ts time speed S)), (18, .ptr 1 0 0)] [some (.cells 43 3 [[.ful 0 [], .ful 0 [], AB false]]), some (.cells 43 3 [[LI [], LI cs, AB tie]])]) ?_ (fun T s ⟨rl, hN⟩ => AW.nrm rl hN ?_)
      · refine AW.range (α := Unit) 0 (by omega) (by decide) (fun _ _ => [(8, .ptr 0 0 0), (11, LI (idxS S)), (13, LF (fixS ts time speed S)), (18, .ptr 1 0 0)]) (fun _ _ => [some (.cells 43 3 [[.ful 0 [], .ful 0 [], AB false]]), some (.cells 43 3 [[LI [], LI cs, AB tie]])]) (fun i _ => True) () trivial [0, 4] ⟨rfl, by decide, rfl, by simp [NT, belA, belL, tget, renA, renL, nmL], ⟨⟨rfl, rfl⟩, ⟨⟨rfl, rfl⟩, trivial⟩⟩⟩ (by simp) (fun i _ hi => by omega) ?_
        intro _ _
        simp only [RS, LS, SY, ne_eq, isFl, floatV, constA, thenQ, blockQ, pack, intA, boolA, eqA, unA, nilcA, asI, asB, asS, loadA, idxA, lenA, slcA, AV.flat, AV.one, zA1, storeA, toD, srcOf, copyA, ↓reduceIte, reduceCtorEq, List.replicate, Nat.reduceBEq, Nat.reduceAdd, Nat.reduceMul, Nat.reduceSub, Nat.reduceLeDiff, Nat.reduceLT, Int.reduceToNat, Nat.reduceEqDiff, Int.reduceEq]
        exact ⟨[0, 1], rfl, by decide, rfl, by simp [NT, belA, belL, tget, renA, renL, nmL], ⟨⟨rfl, rfl⟩, ⟨⟨rfl, rfl⟩, trivial⟩⟩⟩
      · repeat' (first | refine AW.seq' ?_ | with_reducible refine AW.blockS rfl ?_ | ((first | refine AW.ops ?_ | refine AW.draw ?_ | refine AW.skip ?_ | refine AW.ret ?_ | refine AW.exit ?_) <;> simp only [RS, LS, SY, ne_eq, isFl, floatV, constA, thenQ, blockQ, pack, intA, boolA, eqA, unA, nilcA, asI, asB, asS, loadA, idxA, lenA, slcA, AV.flat, AV.one, zA1, storeA, toD, srcOf, copyA, ↓reduceIte, reduceCtorEq, List.replicate, Nat.reduceBEq, Nat.reduceAdd, Nat.reduceMul, Nat.reduceSub, Nat.reduceLeDiff, Nat.reduceLT, Int.reduceToNat, Nat.reduceEqDiff, Int.reduceEq]) | refine AW.condT rfl ?_ | refine AW.condF rfl ?_ | ((first | (refine GI.of (fun h => ?_) (fun h => ?_) ?emm; case emm => first | exact Classical.em _ | exact (Classical.em _).symm | grind) | (refine GD.of (fun h => ?_) (fun h => ?_) ?emm; case emm => first | exact Classical.em _ | exact (Classical.em _).symm | grind)) <;> simp only [RS, LS, SY, ne_eq, isFl, floatV, constA, thenQ, blockQ, pack, intA, boolA, eqA, unA, nilcA, asI, asB, asS, loadA, idxA, lenA, slcA, AV.flat, AV.one, zA1, storeA, toD, srcOf, copyA, ↓reduceIte, reduceCtorEq, List.replicate, Nat.reduceBEq, Nat.reduceAdd, Nat.reduceMul, Nat.reduceSub, Nat.reduceLeDiff, Nat.reduceLT, Int.reduceToNat, Nat.reduceEqDiff, Int.reduceEq, h]) | (refine AW.condP rfl (fun h => ?_) (fun h => ?_) <;> try simp only [Bool.and_eq_true, decide_eq_true_eq, Bool.not_eq_true', decide_eq_false_iff_not, Bool.not_eq_false', Bool.not_eq_true, Bool.not_eq_false] at h) | refine And.intro (by omega) ?_ | fail)
        exact ⟨_, WkL.refl _, rfl⟩
    | cons y m' =>
      have hm0 : m ≠ [] := by rw [hm]; simp
      rw [← hm]
      obtain rfl := hdt hm0
      have hk := hdk m cs rfl hm0
      repeat' (first | refine AW.seq' ?_ | with_reducible refine AW.blockS rfl ?_ | ((first | refine AW.ops ?_ | refine AW.draw ?_ | refine AW.skip ?_ | refine AW.ret ?_ | refine AW.exit ?_ |  refine own_callD hk rfl ?_) <;> simp only [RS, LS, SY, ne_eq, isFl, floatV, constA, thenQ, blockQ, pack, intA, boolA, eqA, unA, nilcA, asI, asB, asS, loadA, idxA, lenA, slcA, AV.flat, AV.one, zA1, storeA, toD, srcOf, copyA, ↓reduceIte, reduceCtorEq, List.replicate, Nat.reduceBEq, Nat.reduceAdd, Nat.reduceMul, Nat.reduceSub, Nat.reduceLeDiff, Nat.reduceLT, Int.reduceToNat, Nat.reduceEqDiff, Int.reduceEq]) | refine AW.condT rfl ?_ | refine AW.condF rfl ?_ | ((first | (refine GI.of (fun h => ?_) (fun h => ?_) ?emm; case emm => first | exact Classical.em _ | exact (Classical.em _).symm | grind) | (refine GD.of (fun h => ?_) (fun h => ?_) ?emm; case emm => first | exact Classical.em _ | exact (Classical.em _).symm | grind)) <;> simp only [RS, LS, SY, ne_eq, isFl, floatV, constA, thenQ, blockQ, pack, intA, boolA, eqA, unA, nilcA, asI, asB, asS, loadA, idxA, lenA, slcA, AV.flat, AV.one, zA1, storeA, toD, srcOf, copyA, ↓reduceIte, reduceCtorEq, List.replicate, Nat.reduceBEq, Nat.reduceAdd, Nat.reduceMul, Nat.reduceSub, Nat.reduceLeDiff, Nat.reduceLT, Int.reduceToNat, Nat.reduceEqDiff, Int.reduceEq, h]) | (refine AW.condP rfl (fun h => ?_) (fun h => ?_) <;> try simp only [Bool.and_eq_true, decide_eq_true_eq, Bool.not_eq_true', decide_eq_false_iff_not, Bool.not_eq_false', Bool.not_eq_true, Bool.not_eq_false] at h) | refine And.intro (by omega) ?_ | fail)
      refine AW.cut2 (M := fun T s => ∃ rl, Nrm rl 0 T s [(8, .ptr 0 0 0), (11, LI (idxS S)), (13, LF (fixS ts time speed S)), (18, .ptr 2 0 0)] [some (.cells 43 3 [[.ful 0 [], .ful 0 [], AB false]]), some (.cells 3 1 (rowsA (ints (memS S m)))), some (.cells 43 3 [[.own 1 0 m.length, LI cs, AB false]])]) ?_ (fun T s ⟨rl, hN⟩ => AW.nrm rl hN ?_)
      · refine AW.range (α := Unit) m.length (by omega) (by decide) (fun _ _ => [(77, .own 1 0 m.length), (8, .ptr 0 0 0), (11, LI (idxS S)), (13, LF (fixS ts time speed S)), (18, .ptr 2 0 0)]) (fun i _ => [some (.cells 43 3 [[.ful 0 [], .ful 0 [], AB false]]), some (.cells 3 1 (rowsA (ints (memT S m i)))), some (.cells 43 3 [[.own 1 0 m.length, LI cs, AB false]])]) (fun i _ => True) () trivial [0, 4, 5] ⟨rfl, by decide, rfl, by simp [NT, belA, belL, tget, renA, renL, nmL], ⟨⟨rfl, rfl⟩, ⟨⟨belB_rowsA .., by rw [renB_rowsA, memT_zero]; rfl⟩, ⟨⟨rfl, rfl⟩, trivial⟩⟩⟩⟩ (by simp) ?_ ?_
        · intro i _ hi _
          unfold c16_1
          have hb := hdm m[i] (List.getElem_mem hi)
          have hge := memT_get S hi
          have hsu := memT_succ S hi
          have hle := memT_len S m i
          have g1 := rowsA_get (cur := memT S m i) (l := m) hi hge rfl
          have g3 : (rowsA (ints (memT S m i))).length = m.length := by rw [rowsA_len, List.length_map, hle]
          generalize m[i] = z at hb g1 hsu
          have hz : z.toNat < (idxS S).length := by omega
          have g2 : (ints (idxS S)).getD z.toNat [] = [dI (idxS S)[z.toNat]] := getD_map_lt hz
          have hgd : (idxS S).getD z.toNat 0 = (idxS S)[z.toNat] := by simp [List.getD, hz]
          rw [hgd] at hsu
          generalize memT S m i = cur at g1 g3 hsu
          repeat' (first | refine AW.seq' ?_ | with_reducible refine AW.blockS rfl ?_ | ((first | refine AW.ops ?_ | refine AW.draw ?_ | refine AW.skip ?_ | refine AW.ret ?_ | refine AW.exit ?_) <;> simp only [RS, LS, SY, ne_eq, isFl, floatV, constA, thenQ, blockQ, pack, intA, boolA, eqA, unA, nilcA, asI, asB, asS, loadA, idxA, lenA, slcA, AV.flat, AV.one, zA1, storeA, toD, srcOf, copyA, ↓reduceIte, reduceCtorEq, List.replicate, Nat.reduceBEq, Nat.reduceAdd, Nat.reduceMul, Nat.reduceSub, Nat.reduceLeDiff, Nat.reduceLT, Int.reduceToNat, Nat.reduceEqDiff, Int.reduceEq, g1, g2, g3]) | refine AW.condT rfl ?_ | refine AW.condF rfl ?_ | ((first | (refine GI.of (fun h => ?_) (fun h => ?_) ?emm; case emm => first | exact Classical.em _ | exact (Classical.em _).symm | grind) | (refine GD.of (fun h => ?_) (fun h => ?_) ?emm; case emm => first | exact Classical.em _ | exact (Classical.em _).symm | grind)) <;> simp only [RS, LS, SY, ne_eq, isFl, floatV, constA, thenQ, blockQ, pack, intA, boolA, eqA, unA, nilcA, asI, asB, asS, loadA, idxA, lenA, slcA, AV.flat, AV.one, zA1, storeA, toD, srcOf, copyA, ↓reduceIte, reduceCtorEq, List.replicate, Nat.reduceBEq, Nat.reduceAdd, Nat.reduceMul, Nat.reduceSub, Nat.reduceLeDiff, Nat.reduceLT, Int.reduceToNat, Nat.reduceEqDiff, Int.reduceEq, g1, g2, g3, h]) | (refine AW.condP rfl (fun h => ?_) (fun h => ?_) <;> try simp only [Bool.and_eq_true, decide_eq_true_eq, Bool.not_eq_true', decide_eq_false_iff_not, Bool.not_eq_false', Bool.not_eq_true, Bool.not_eq_false] at h) | refine And.intro (by omega) ?_ | fail)
          have e : (rowsA (ints cur)).set i [AI .i64 (idxS S)[z.toNat]] = rowsA (ints (memT S m (i + 1))) := by rw [hsu]; simp [rowsA, List.map_set]
          exact ⟨(), [0, 1, 2], rfl, by decide, rfl, by simp [NT, belA, belL, tget, renA, renL, nmL], ⟨⟨rfl, rfl⟩, ⟨⟨belB_rowsA .., by rw [renB_rowsA, ← e]; rfl⟩, ⟨⟨rfl, rfl⟩, trivial⟩⟩⟩⟩
        · intro _ _
          simp only [RS, LS, SY, ne_eq, isFl, floatV, constA, thenQ, blockQ, pack, intA, boolA, eqA, unA, nilcA, asI, asB, asS, loadA, idxA, lenA, slcA, AV.flat, AV.one, zA1, storeA, toD, srcOf, copyA, ↓reduceIte, reduceCtorEq, List.replicate, Nat.reduceBEq, Nat.reduceAdd, Nat.reduceMul, Nat.reduceSub, Nat.reduceLeDiff, Nat.reduceLT, Int.reduceToNat, Nat.reduceEqDiff, Int.reduceEq]
          exact ⟨[0, 1, 2], rfl, by decide, rfl, by simp [NT, belA, belL, tget, renA, renL, nmL], ⟨⟨rfl, rfl⟩, ⟨⟨belB_rowsA .., by rw [renB_rowsA, memT_all]; rfl⟩, ⟨⟨rfl, rfl⟩, trivial⟩⟩⟩⟩
      · refine AW.frz (id := 1) (t := 3) (k := 1) (rows := ints (memS S m)) rfl [(8, .ptr 0 0 0), (11, LI (idxS S)), (13, LF (fixS ts time speed S)), (18, .ptr 2 0 0)] [some (.cells 43 3 [[.ful 0 [], .ful 0 [], AB false]]), none, some (.cells 43 3 [[LI (memS S m), LI cs, AB false]])] ?_ ?_ rfl ?_
        · exact ⟨⟨_, rfl, rfl, trivial⟩, ⟨_, rfl, rfl, trivial⟩, ⟨_, rfl, rfl, trivial⟩, ⟨_, rfl, rfl, trivial⟩, trivial⟩
        · have hml : (ints (memS S m)).length = m.length := by simp [memS]
          have e : List.take m.length (List.drop 0 (ints (memS S m))) = ints (memS S m) := by rw [List.drop_zero]; exact List.take_of_length_le (by omega)
          refine ⟨⟨by decide, _, rfl, rfl, by simp [fitB, fitL, fitA]⟩, ⟨by decide, _, rfl, ?_, by simp [fitB, fitL, fitA, memS]⟩, trivial⟩
          simp only [frzB, List.map_cons, List.map_nil, frzL, frzA, if_true, e]
        · repeat' (first | refine AW.seq' ?_ | with_reducible refine AW.blockS rfl ?_ | ((first | refine AW.ops ?_ | refine AW.draw ?_ | refine AW.skip ?_ | refine AW.ret ?_ | refine AW.exit ?_) <;> simp only [RS, LS, SY, ne_eq, isFl, floatV, constA, thenQ, blockQ, pack, intA, boolA, eqA, unA, nilcA, asI, asB, asS, loadA, idxA, lenA, slcA, AV.flat, AV.one, zA1, storeA, toD, srcOf, copyA, ↓reduceIte, reduceCtorEq, List.replicate, Nat.reduceBEq, Nat.reduceAdd, Nat.reduceMul, Nat.reduceSub, Nat.reduceLeDiff, Nat.reduceLT, Int.reduceToNat, Nat.reduceEqDiff, Int.reduceEq]) | refine AW.condT rfl ?_ | refine AW.condF rfl ?_ | ((first | (refine GI.of (fun h => ?_) (fun h => ?_) ?emm; case emm => first | exact Classical.em _ | exact (Classical.em _).symm | grind) | (refine GD.of (fun h => ?_) (fun h => ?_) ?emm; case emm => first | exact Classical.em _ | exact (Classical.em _).symm | grind)) <;> simp only [RS, LS, SY, ne_eq, isFl, floatV, constA, thenQ, blockQ, pack, intA, boolA, eqA, unA, nilcA, asI, asB, asS, loadA, idxA, lenA, slcA, AV.flat, AV.one, zA1, storeA, toD, srcOf, copyA, ↓reduceIte, reduceCtorEq, List.replicate, Nat.reduceBEq, Nat.reduceAdd, Nat.reduceMul, Nat.reduceSub, Nat.reduceLeDiff, Nat.reduceLT, Int.reduceToNat, Nat.reduceEqDiff, Int.reduceEq, h]) | (refine AW.condP rfl (fun h => ?_) (fun h => ?_) <;> try simp only [Bool.and_eq_true, decide_eq_true_eq, Bool.not_eq_true', decide_eq_false_iff_not, Bool.not_eq_false', Bool.not_eq_true, Bool.not_eq_false] at h) | refine And.intro (by omega) ?_ | fail)
          exact ⟨_, WkL.refl _, rfl⟩
theorem votes_ok {l : List Rf} {ts : List Tk} {time speed : Int} (hc : CfgOK l) (hts : ts.length = l.length) (ht : timesP time speed = true) :
    Fn Tryz.prog 16 [LR l, LT ts, AI .i64 time, AI .i64 speed] (.tup [AVt (voteS l ts time speed (selP ts time speed l.length)), LI (idxS (selP ts time speed l.length)), LF (fixS ts time speed (selP ts time speed l.length))]) := by
  have h1 := (votes0 l ts time speed hc hts ht).endT (Q' := fun v s' => v = .tup [AVt (voteS l ts time speed (selP ts time speed l.length)), LI (idxS (selP ts time speed l.length)), LF (fixS ts time speed (selP ts time speed l.length))]) fun v s' ⟨r, h1, h2⟩ => ⟨r, _, h2, h1, rfl⟩
  exact h1.take fun v s' e => ⟨by rw [e]; rfl, fun i b hi => by simp at hi, e, by simp⟩
end Go.Proofs.YtipanehdmhachaaGreatDoor.H
