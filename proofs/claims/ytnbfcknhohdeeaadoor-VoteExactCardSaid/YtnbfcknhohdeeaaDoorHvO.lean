/- Chapter 8: the law VoteOrder. -/
import Derived.Test.YtnbfcknhohdeeaaDoorHvM
import Derived.Test.YtnbfcknhohdeeaaDoorHvV
import Derived.Test.YtnbfcknhohdeeaaDoorHvX
set_option linter.unusedSimpArgs false
set_option linter.unusedVariables false
namespace Go.Proofs.YtnbfcknhohdeeaaDoor.H
theorem okC_of {c : List Int} {l : List Fx} (hc : ∀ x ∈ c, 0 ≤ x ∧ x < 8) (hl : ∀ f ∈ l, agP f f = true) : okC c l = true := by
  unfold okC
  rw [List.all_eq_true]
  rintro ⟨x, f⟩ h
  have h1 := hc x (List.of_mem_zip h).1
  have h2 := hl f (List.of_mem_zip h).2
  simp [h1.1, h1.2, h2]
theorem dec_of {c : List Int} {l : List Fx} (hcl : c.length = l.length) (h8 : l.length ≤ 8) (hc : ∀ x ∈ c, 0 ≤ x ∧ x < 8) (hl : ∀ f ∈ l, agP f f = true) : decE c l = 0 ∧ decP c l = voteP c l := by
  have h : decE c l = 0 := by unfold decE; rw [if_neg (by omega), if_neg (by omega), if_pos (okC_of hc hl)]
  exact ⟨h, by unfold decP; rw [if_pos h]⟩
theorem dec_fn {c : List Int} {l : List Fx} (hcl : c.length = l.length) (h8 : l.length ≤ 8) (hc : ∀ x ∈ c, 0 ≤ x ∧ x < 8) (hl : ∀ f ∈ l, agP f f = true) : Fn Tryd.prog 20 [LI c, LF l] (.tup [AVt (voteP c l), AI .i64 0]) := by
  have h := decide_ok c l (by omega) (by omega)
  rw [(dec_of hcl h8 hc hl).1, (dec_of hcl h8 hc hl).2] at h
  exact h
theorem rev_take {α : Type} {l : List α} {j : Nat} (h : j < l.length) : l.reverse.take (j + 1) = l.reverse.take j ++ [l[l.length - 1 - j]] := by
  rw [List.take_succ_eq_append_getElem (by simpa using h), List.getElem_reverse]
def FrL (id : Nat) : Nat → St → Prop
  | _, [] => True
  | i, none :: l => FrL id (i + 1) l
  | i, some b :: l => (i = id ∨ FrB id b) ∧ FrL id (i + 1) l
theorem FrL_get {id : Nat} : ∀ {s : St} {m i : Nat} {b : Blk}, FrL id m s → s[i]? = some (some b) → m + i = id ∨ FrB id b
  | none :: l, m, 0, b, h, hb => by simp at hb
  | some c :: l, m, 0, b, h, hb => by simp at hb; subst hb; exact h.1
  | none :: l, m, i + 1, b, h, hb => by
    have := FrL_get (m := m + 1) (i := i) h (by simpa using hb)
    rwa [Nat.add_assoc, Nat.add_comm 1 i] at this
  | some c :: l, m, i + 1, b, h, hb => by
    have := FrL_get (m := m + 1) (i := i) h.2 (by simpa using hb)
    rwa [Nat.add_assoc, Nat.add_comm 1 i] at this
theorem FrL.all {id : Nat} {s : St} (h : FrL id 0 s) : ∀ (i : Nat) b, i ≠ id → s[i]? = some (some b) → FrB id b := fun i b hi hb => by
  rcases FrL_get h hb with e | e
  · exact absurd (by omega) hi
  · exact e
theorem frL_own {id i k n : Nat} {rows : List (List D)} {l : List AV} (hn : n = rows.length) (hl : frzL id k rows l = l) : frzL id k rows (.own id 0 n :: l) = .d (.lst k rows) :: l := by
  simp only [frzL, frzA, if_true, hl, List.drop_zero]
  rw [List.take_of_length_le (by omega)]
set_option maxRecDepth 8000 in
set_option maxHeartbeats 8000000 in
theorem law5_ok (t : List Int) : ACalls Tryd.prog 5 [LI t] [] fun v _ => v = AB true := by
  refine ACalls.of fn5 (by simp) ?_
  unfold c5
  have hL : (t.take 600).length ≤ 600 := by rw [List.length_take]; omega
  generalize hS : t.take 600 = L at hL
  repeat' (first | refine AW.seq' ?_ | with_reducible refine AW.blockS rfl ?_ | ((first | refine AW.ops ?_ | refine AW.draw ?_ | refine AW.skip ?_ | refine AW.ret ?_ | refine AW.exit ?_ |  (refine new_call t ?_; simp only [hS]) |  (refine SFn.call (SFnO.frozen (now_ok hL 5 (by omega))) rfl rfl (by omega) (fun v p hp hv hb => ?_); obtain ⟨_, ⟨l, rfl, hl, hlv⟩, rfl⟩ := hv) |  (refine SFn.call (SFnO.frozen (causes_ok hL l.length (by omega))) rfl rfl (by omega) (fun v p hp hv hb => ?_); obtain ⟨_, ⟨k, rfl, hk, hk4⟩, rfl⟩ := hv)) <;> simp (disch := omega) only [RS, LS, SY, ne_eq, isFl, floatV, constA, thenQ, blockQ, pack, intA, boolA, eqA, unA, nilcA, asI, asB, asS, loadA, idxA, lenA, slcA, AV.flat, AV.one, zA1, storeA, toD, srcOf, copyA, ↓reduceIte, reduceCtorEq, List.replicate, Nat.reduceBEq, Nat.reduceAdd, Nat.reduceMul, Nat.reduceSub, Nat.reduceLeDiff, Nat.reduceLT, Int.reduceToNat, Nat.reduceEqDiff, Int.reduceEq, wrap_id, hS]) | refine AW.condT rfl ?_ | refine AW.condF rfl ?_ | ((first | (refine GI.of (fun h => ?_) (fun h => ?_) ?emm; case emm => first | exact Classical.em _ | exact (Classical.em _).symm | grind) | (refine GD.of (fun h => ?_) (fun h => ?_) ?emm; case emm => first | exact Classical.em _ | exact (Classical.em _).symm | grind)) <;> simp (disch := omega) only [RS, LS, SY, ne_eq, isFl, floatV, constA, thenQ, blockQ, pack, intA, boolA, eqA, unA, nilcA, asI, asB, asS, loadA, idxA, lenA, slcA, AV.flat, AV.one, zA1, storeA, toD, srcOf, copyA, ↓reduceIte, reduceCtorEq, List.replicate, Nat.reduceBEq, Nat.reduceAdd, Nat.reduceMul, Nat.reduceSub, Nat.reduceLeDiff, Nat.reduceLT, Int.reduceToNat, Nat.reduceEqDiff, Int.reduceEq, wrap_id, hS, h]) | (refine AW.condP rfl (fun h => ?_) (fun h => ?_) <;> try simp only [Bool.and_eq_true, decide_eq_true_eq, Bool.not_eq_true', decide_eq_false_iff_not, Bool.not_eq_false', Bool.not_eq_true, Bool.not_eq_false] at h) | refine And.intro (by omega) ?_ | fail)
  rename_i p hp
  refine AW.cut2 (M := fun T s => ∃ rl, Nrm rl 0 T s [(3, .ptr 0 0 0), (4, LF l), (5, LI k), (6, gVg 1 l.reverse), (7, gVg 2 k.reverse)] [SrcS SRC L p, gBg 26 4 fxR l.reverse, gBg 3 1 inR1 k.reverse]) ?_ (fun T s ⟨rl, hN⟩ => AW.nrm rl hN ?_)
  · refine AW.block ?_
    refine AW.loopA (α := Nat) (fun j => l.length - j) (fun j => [(3, .ptr 0 0 0), (4, LF l), (5, LI k), (6, gVg 1 (l.reverse.take j)), (7, gVg 2 (k.reverse.take j)), (8, AI .i64 ((l.length : Int) - 1 - j))]) (fun j => [SrcS SRC L p, gBg 26 4 fxR (l.reverse.take j), gBg 3 1 inR1 (k.reverse.take j)]) (fun j => j ≤ l.length) 0 (Nat.zero_le _) [0, 1, 2] ⟨rfl, by decide, rfl, by simp [NT, belA, belL, tget, renA, renL, nmL, gVg], ⟨⟨rfl, rfl⟩, trivial⟩⟩ ?_
    intro j hj
    unfold c5_0
    by_cases hlt : j < l.length
    · have hc : (0 : Int) ≤ (l.length : Int) - 1 - j := by omega
      have e1 : ((l.length : Int) - 1 - j).toNat = l.length - 1 - j := by omega
      have i1 : l.length - 1 - j < l.length := by omega
      have i2 : l.length - 1 - j < k.length := by omega
      have t1 := rev_take hlt
      have t2 := rev_take (l := k) (j := j) (by omega)
      simp only [hk] at t2
      have n1 : (l.reverse.take j).length = j := by simp; omega
      have n2 : (k.reverse.take j).length = j := by simp; omega
      have e2 : (l.length : Int) - 1 - j - 1 = (l.length : Int) - 1 - ((j + 1 : Nat) : Int) := by omega
      generalize l.reverse.take j = A at *
      generalize k.reverse.take j = B at *
      cases A with
      | nil =>
        simp only [List.length_nil] at n1
        subst n1
        obtain rfl : B = [] := List.length_eq_zero_iff.1 n2
        rw [gVg_nil, gBg_nil, gVg_nil, gBg_nil]
        repeat' (first | refine AW.seq' ?_ | with_reducible refine AW.blockS rfl ?_ | ((first | refine AW.ops ?_ | refine AW.draw ?_ | refine AW.skip ?_ | refine AW.ret ?_ | refine AW.exit ?_) <;> simp (disch := omega) only [RS, LS, SY, ne_eq, isFl, floatV, constA, thenQ, blockQ, pack, intA, boolA, eqA, unA, nilcA, asI, asB, asS, loadA, idxA, lenA, slcA, AV.flat, AV.one, zA1, storeA, toD, srcOf, copyA, ↓reduceIte, reduceCtorEq, List.replicate, Nat.reduceBEq, Nat.reduceAdd, Nat.reduceMul, Nat.reduceSub, Nat.reduceLeDiff, Nat.reduceLT, Int.reduceToNat, Nat.reduceEqDiff, Int.reduceEq, wrap_id, hc, e1, getD_map_lt i1, getD_map_lt i2]) | refine AW.condT rfl ?_ | refine AW.condF rfl ?_ | ((first | (refine GI.of (fun h => ?_) (fun h => ?_) ?emm; case emm => first | exact Classical.em _ | exact (Classical.em _).symm | grind) | (refine GD.of (fun h => ?_) (fun h => ?_) ?emm; case emm => first | exact Classical.em _ | exact (Classical.em _).symm | grind)) <;> simp (disch := omega) only [RS, LS, SY, ne_eq, isFl, floatV, constA, thenQ, blockQ, pack, intA, boolA, eqA, unA, nilcA, asI, asB, asS, loadA, idxA, lenA, slcA, AV.flat, AV.one, zA1, storeA, toD, srcOf, copyA, ↓reduceIte, reduceCtorEq, List.replicate, Nat.reduceBEq, Nat.reduceAdd, Nat.reduceMul, Nat.reduceSub, Nat.reduceLeDiff, Nat.reduceLT, Int.reduceToNat, Nat.reduceEqDiff, Int.reduceEq, wrap_id, hc, e1, getD_map_lt i1, getD_map_lt i2, h]) | (refine AW.condP rfl (fun h => ?_) (fun h => ?_) <;> try simp only [Bool.and_eq_true, decide_eq_true_eq, Bool.not_eq_true', decide_eq_false_iff_not, Bool.not_eq_false', Bool.not_eq_true, Bool.not_eq_false] at h) | refine And.intro (by omega) ?_ | fail)
        exact ⟨0 + 1, [0, 3, 4], hlt, by omega, rfl, by decide, rfl, by simp [NT, belA, belL, tget, renA, renL, nmL, t1, t2, gVg_cons], by rw [t1, t2]; exact ⟨⟨rfl, rfl⟩, ⟨⟨rfl, rfl⟩, ⟨⟨rfl, rfl⟩, trivial⟩⟩⟩⟩
      | cons a A =>
        cases B with
        | nil => simp only [List.length_nil, List.length_cons] at n1 n2; omega
        | cons b B =>
          rw [gVg_cons, gBg_cons, gVg_cons, gBg_cons]
          have htk1 : List.take A.length (List.map fxR A) = List.map fxR A := List.take_of_length_le (by simp)
          have htk2 : List.take B.length (List.map inR1 B) = List.map inR1 B := List.take_of_length_le (by simp)
          have hA : A.length + 1 = j := n1
          have hB : B.length + 1 = j := n2
          repeat' (first | refine AW.seq' ?_ | with_reducible refine AW.blockS rfl ?_ | ((first | refine AW.ops ?_ | refine AW.draw ?_ | refine AW.skip ?_ | refine AW.ret ?_ | refine AW.exit ?_) <;> simp (disch := omega) only [RS, LS, SY, ne_eq, isFl, floatV, constA, thenQ, blockQ, pack, intA, boolA, eqA, unA, nilcA, asI, asB, asS, loadA, idxA, lenA, slcA, AV.flat, AV.one, zA1, storeA, toD, srcOf, copyA, ↓reduceIte, reduceCtorEq, List.replicate, Nat.reduceBEq, Nat.reduceAdd, Nat.reduceMul, Nat.reduceSub, Nat.reduceLeDiff, Nat.reduceLT, Int.reduceToNat, Nat.reduceEqDiff, Int.reduceEq, wrap_id, hc, e1, getD_map_lt i1, getD_map_lt i2, htk1, htk2]) | refine AW.condT rfl ?_ | refine AW.condF rfl ?_ | ((first | (refine GI.of (fun h => ?_) (fun h => ?_) ?emm; case emm => first | exact Classical.em _ | exact (Classical.em _).symm | grind) | (refine GD.of (fun h => ?_) (fun h => ?_) ?emm; case emm => first | exact Classical.em _ | exact (Classical.em _).symm | grind)) <;> simp (disch := omega) only [RS, LS, SY, ne_eq, isFl, floatV, constA, thenQ, blockQ, pack, intA, boolA, eqA, unA, nilcA, asI, asB, asS, loadA, idxA, lenA, slcA, AV.flat, AV.one, zA1, storeA, toD, srcOf, copyA, ↓reduceIte, reduceCtorEq, List.replicate, Nat.reduceBEq, Nat.reduceAdd, Nat.reduceMul, Nat.reduceSub, Nat.reduceLeDiff, Nat.reduceLT, Int.reduceToNat, Nat.reduceEqDiff, Int.reduceEq, wrap_id, hc, e1, getD_map_lt i1, getD_map_lt i2, htk1, htk2, h]) | (refine AW.condP rfl (fun h => ?_) (fun h => ?_) <;> try simp only [Bool.and_eq_true, decide_eq_true_eq, Bool.not_eq_true', decide_eq_false_iff_not, Bool.not_eq_false', Bool.not_eq_true, Bool.not_eq_false] at h) | refine And.intro (by omega) ?_ | fail)
          generalize l[l.length - 1 - j] = x1 at t1
          generalize k[l.length - 1 - j] = y1 at t2
          have t1' : List.take (j + 1) l.reverse = a :: (A ++ [x1]) := t1
          have t2' : List.take (j + 1) k.reverse = b :: (B ++ [y1]) := t2
          have ea : rowsA (fxs (a :: (A ++ [x1]))) = [AV.d (dI a.t), AV.d (dI a.x), AV.d (dI a.y), AV.d (dI a.e)] :: (rowsA (List.map fxR A) ++ [[AV.d (dI x1.t), AV.d (dI x1.x), AV.d (dI x1.y), AV.d (dI x1.e)]]) := by simp [rowsA]
          have eb : rowsA (ints (b :: (B ++ [y1]))) = [AV.d (dI b)] :: (rowsA (List.map inR1 B) ++ [[AV.d (dI y1)]]) := by simp [rowsA, ints]
          exact ⟨j + 1, [0, 3, 4], hlt, by omega, rfl, by decide, rfl, by simp [NT, belA, belL, tget, renA, renL, nmL, t1', t2', gVg_cons, e2], by rw [t1', t2']; exact ⟨⟨rfl, rfl⟩, ⟨⟨belB_rowsA _ _ _ (fxs (a :: (A ++ [x1]))), by rw [renB_rowsA, ea]; rfl⟩, ⟨⟨belB_rowsA _ _ _ (ints (b :: (B ++ [y1]))), by rw [renB_rowsA, eb]; rfl⟩, trivial⟩⟩⟩⟩
    · have hjl : j = l.length := by omega
      have hA : l.reverse.take j = l.reverse := List.take_of_length_le (by simp; omega)
      have hB : k.reverse.take j = k.reverse := List.take_of_length_le (by simp; omega)
      rw [hA, hB]
      have hc : ¬ (0 : Int) ≤ (l.length : Int) - 1 - j := by omega
      repeat' (first | refine AW.seq' ?_ | with_reducible refine AW.blockS rfl ?_ | ((first | refine AW.ops ?_ | refine AW.draw ?_ | refine AW.skip ?_ | refine AW.ret ?_ | refine AW.exit ?_) <;> simp only [RS, LS, SY, ne_eq, isFl, floatV, constA, thenQ, blockQ, pack, intA, boolA, eqA, unA, nilcA, asI, asB, asS, loadA, idxA, lenA, slcA, AV.flat, AV.one, zA1, storeA, toD, srcOf, copyA, ↓reduceIte, reduceCtorEq, List.replicate, Nat.reduceBEq, Nat.reduceAdd, Nat.reduceMul, Nat.reduceSub, Nat.reduceLeDiff, Nat.reduceLT, Int.reduceToNat, Nat.reduceEqDiff, Int.reduceEq, hc]) | refine AW.condT rfl ?_ | refine AW.condF rfl ?_ | ((first | (refine GI.of (fun h => ?_) (fun h => ?_) ?emm; case emm => first | exact Classical.em _ | exact (Classical.em _).symm | grind) | (refine GD.of (fun h => ?_) (fun h => ?_) ?emm; case emm => first | exact Classical.em _ | exact (Classical.em _).symm | grind)) <;> simp only [RS, LS, SY, ne_eq, isFl, floatV, constA, thenQ, blockQ, pack, intA, boolA, eqA, unA, nilcA, asI, asB, asS, loadA, idxA, lenA, slcA, AV.flat, AV.one, zA1, storeA, toD, srcOf, copyA, ↓reduceIte, reduceCtorEq, List.replicate, Nat.reduceBEq, Nat.reduceAdd, Nat.reduceMul, Nat.reduceSub, Nat.reduceLeDiff, Nat.reduceLT, Int.reduceToNat, Nat.reduceEqDiff, Int.reduceEq, hc, h]) | (refine AW.condP rfl (fun h => ?_) (fun h => ?_) <;> try simp only [Bool.and_eq_true, decide_eq_true_eq, Bool.not_eq_true', decide_eq_false_iff_not, Bool.not_eq_false', Bool.not_eq_true, Bool.not_eq_false] at h) | refine And.intro (by omega) ?_ | fail)
      exact ⟨[0, 1, 2], rfl, by decide, rfl, by simp [NT, belA, belL, tget, renA, renL, nmL, renA_gVg, belA_gVg], ⟨⟨rfl, rfl⟩, NS.g rfl (NS.g rfl trivial)⟩⟩
  · refine AW.frzX (id := 1) (t := 26) (k := 4) (f := fxR) (mem := l.reverse) rfl [(3, .ptr 0 0 0), (4, LF l), (5, LI k), (6, LF l.reverse), (7, gVg 2 k.reverse)] [SrcS SRC L p, none, gBg 3 1 inR1 k.reverse] ⟨.inl ⟨rfl, .ptr⟩, .inl ⟨rfl, .d⟩, .inl ⟨rfl, .d⟩, .inr ⟨rfl, rfl⟩, .inl ⟨rfl, .g (by decide)⟩, trivial⟩ rfl ?_ ?_
    · intro i b hi hb
      match i, hi, hb with
      | 0, _, hb => simp at hb; subst hb; exact fun _ _ => ⟨rfl, by simp [fitB, fitL, fitA]⟩
      | 1, hi, _ => exact absurd rfl hi
      | 2, _, hb => exact FrB.g (by simpa using hb)
      | i + 3, _, hb => simp at hb
    refine AW.frzI (id := 2) (mem := k.reverse) rfl [(3, .ptr 0 0 0), (4, LF l), (5, LI k), (6, LF l.reverse), (7, LI k.reverse)] [SrcS SRC L p, none, none] ⟨.inl ⟨rfl, .ptr⟩, .inl ⟨rfl, .d⟩, .inl ⟨rfl, .d⟩, .inl ⟨rfl, .d⟩, .inr ⟨rfl, rfl⟩, trivial⟩ rfl ?_ ?_
    · intro i b hi hb
      match i, hi, hb with
      | 0, _, hb => simp at hb; subst hb; exact fun _ _ => ⟨rfl, by simp [fitB, fitL, fitA]⟩
      | 1, _, hb => simp at hb
      | 2, hi, _ => exact absurd rfl hi
      | i + 3, _, hb => simp at hb
    have hk8 : ∀ x ∈ k, 0 ≤ x ∧ x < 8 := fun x hx => by have := hk4 x hx; omega
    have hla : ∀ f ∈ l, agP f f = true := fun f hf => (hlv f hf).agree
    have d1 := dec_fn hk (by omega) hk8 hla
    have d2 := dec_fn (c := k.reverse) (l := l.reverse) (by simpa using hk) (by simp; omega) (fun x hx => hk8 x (by simpa using hx)) (fun x hx => hla x (by simpa using hx))
    have hrev := vote_rev hk
    have hvl := dec_len k l
    rw [(dec_of hk (by omega) hk8 hla).2] at hvl
    have hdup := fun i hi => @vote_dup k l hk hla i hi
    generalize voteP k.reverse l.reverse = w at d2 hrev
    generalize voteP k l = v at d1 hrev hvl hdup
    obtain ⟨wm, wc, wt⟩ := w
    obtain ⟨vm, vc, vt⟩ := v
    simp only at hrev hvl
    obtain ⟨rfl, rfl⟩ := hrev
    have hi1 := ints_ok vc vc (by omega) (by omega)
    rw [decide_eq_true rfl] at hi1
    cases vt
    all_goals
      repeat' (first | refine AW.seq' ?_ | with_reducible refine AW.blockS rfl ?_ | ((first | refine AW.ops ?_ | refine AW.draw ?_ | refine AW.skip ?_ | refine AW.ret ?_ | refine AW.exit ?_ | refine Fn.call (d1) rfl rfl ?_ | refine Fn.call (d2) rfl rfl ?_ | refine Fn.call (hi1) rfl rfl ?_ | refine Fn.call (sane_ok) rfl rfl ?_) <;> simp (disch := omega) only [RS, LS, SY, ne_eq, isFl, floatV, constA, thenQ, blockQ, pack, intA, boolA, eqA, unA, nilcA, asI, asB, asS, loadA, idxA, lenA, slcA, AV.flat, AV.one, zA1, storeA, toD, srcOf, copyA, ↓reduceIte, reduceCtorEq, List.replicate, Nat.reduceBEq, Nat.reduceAdd, Nat.reduceMul, Nat.reduceSub, Nat.reduceLeDiff, Nat.reduceLT, Int.reduceToNat, Nat.reduceEqDiff, Int.reduceEq, wrap_id]) | refine AW.condT rfl ?_ | refine AW.condF rfl ?_ | ((first | (refine GI.of (fun h => ?_) (fun h => ?_) ?emm; case emm => first | exact Classical.em _ | exact (Classical.em _).symm | grind) | (refine GD.of (fun h => ?_) (fun h => ?_) ?emm; case emm => first | exact Classical.em _ | exact (Classical.em _).symm | grind)) <;> simp (disch := omega) only [RS, LS, SY, ne_eq, isFl, floatV, constA, thenQ, blockQ, pack, intA, boolA, eqA, unA, nilcA, asI, asB, asS, loadA, idxA, lenA, slcA, AV.flat, AV.one, zA1, storeA, toD, srcOf, copyA, ↓reduceIte, reduceCtorEq, List.replicate, Nat.reduceBEq, Nat.reduceAdd, Nat.reduceMul, Nat.reduceSub, Nat.reduceLeDiff, Nat.reduceLT, Int.reduceToNat, Nat.reduceEqDiff, Int.reduceEq, wrap_id, h]) | (refine AW.condP rfl (fun h => ?_) (fun h => ?_) <;> try simp only [Bool.and_eq_true, decide_eq_true_eq, Bool.not_eq_true', decide_eq_false_iff_not, Bool.not_eq_false', Bool.not_eq_true, Bool.not_eq_false] at h) | refine And.intro (by omega) ?_ | fail)
      obtain ⟨l0, lr, rfl⟩ : ∃ l0 lr, l = l0 :: lr := List.exists_cons_of_ne_nil (by rintro rfl; exact h rfl)
      obtain ⟨k0, kr, rfl⟩ : ∃ k0 kr, k = k0 :: kr := List.exists_cons_of_ne_nil (by rintro rfl; simp at hk)
      have hkr : kr.length = lr.length := by simpa using hk
      have hlr : lr.length ≤ 4 := by simpa using hl
      refine SFn.call (n_ok hL ((l0 :: lr).length : Int) (by simp only [List.length_cons]; omega)) rfl rfl (by omega) (fun v p hp hv hb => ?_)
      obtain ⟨z, z0, z1, rfl⟩ := hv
      have hz1 : z.toNat < (l0 :: lr).length := by simp only [List.length_cons] at z1 ⊢; omega
      have hz2 : z.toNat < (k0 :: kr).length := by simp only [List.length_cons] at z1 ⊢; omega
      have hz3 : 0 ≤ z ∧ z < ((lr.length + 1 : Nat) : Int) := by simp only [List.length_cons] at z1 ⊢; omega
      have hz4 : 0 ≤ z ∧ z < ((kr.length + 1 : Nat) : Int) := by simp only [List.length_cons] at z1 ⊢; omega
      have hd := hdup z.toNat hz1
      have hkz : ([dI k0] :: List.map (fun z => [dI z]) kr).getD z.toNat [] = [dI (k0 :: kr)[z.toNat]] := getD_map_lt (f := fun z => [dI z]) (l := k0 :: kr) hz2
      have hlz : (fxR l0 :: List.map fxR lr).getD z.toNat [] = fxR (l0 :: lr)[z.toNat] := getD_map_lt (f := fxR) (l := l0 :: lr) hz1
      have hkm := hk4 _ (List.getElem_mem hz2)
      have hlm := hla _ (List.getElem_mem hz1)
      generalize (k0 :: kr)[z.toNat] = kz at hd hkz hkm
      generalize (l0 :: lr)[z.toNat] = lz at hd hlz hlm
      have d3 := dec_fn (c := k0 :: (kr ++ [kz])) (l := l0 :: (lr ++ [lz])) (by simp [hkr]) (by simp; omega) (fun x hx => by
        simp only [List.mem_cons, List.mem_append, List.not_mem_nil, or_false] at hx
        rcases hx with rfl | hx | rfl
        · exact hk8 _ (by simp)
        · exact hk8 _ (by simp [hx])
        · omega) (fun x hx => by
        simp only [List.mem_cons, List.mem_append, List.not_mem_nil, or_false] at hx
        rcases hx with rfl | hx | rfl
        · exact hla _ (by simp)
        · exact hla _ (by simp [hx])
        · exact hlm)
      have hd' : (voteP (k0 :: (kr ++ [kz])) (l0 :: (lr ++ [lz]))).t = _ ∧ (voteP (k0 :: (kr ++ [kz])) (l0 :: (lr ++ [lz]))).c = vc := hd
      generalize voteP (k0 :: (kr ++ [kz])) (l0 :: (lr ++ [lz])) = u at d3 hd'
      obtain ⟨um, uc, ut⟩ := u
      simp only at hd'
      obtain ⟨rfl, hd2⟩ := hd'
      subst hd2
      have htk1 : List.take kr.length (List.map (fun z => [dI z]) kr) = List.map (fun z => [dI z]) kr := List.take_of_length_le (by simp)
      have htk2 : List.take lr.length (List.map fxR lr) = List.map fxR lr := List.take_of_length_le (by simp)
      simp only [RS, LS, SY, ne_eq, isFl, floatV, constA, thenQ, blockQ, pack, intA, boolA, eqA, unA, nilcA, asI, asB, asS, loadA, idxA, lenA, slcA, AV.flat, AV.one, zA1, storeA, toD, srcOf, copyA, ↓reduceIte, reduceCtorEq, List.replicate, Nat.reduceBEq, Nat.reduceAdd, Nat.reduceMul, Nat.reduceSub, Nat.reduceLeDiff, Nat.reduceLT, Int.reduceToNat, Nat.reduceEqDiff, Int.reduceEq]
      repeat' (first | refine AW.seq' ?_ | with_reducible refine AW.blockS rfl ?_ | ((first | refine AW.ops ?_ | refine AW.draw ?_ | refine AW.skip ?_ | refine AW.ret ?_ | refine AW.exit ?_) <;> simp (disch := omega) only [RS, LS, SY, ne_eq, isFl, floatV, constA, thenQ, blockQ, pack, intA, boolA, eqA, unA, nilcA, asI, asB, asS, loadA, idxA, lenA, slcA, AV.flat, AV.one, zA1, storeA, toD, srcOf, copyA, ↓reduceIte, reduceCtorEq, List.replicate, Nat.reduceBEq, Nat.reduceAdd, Nat.reduceMul, Nat.reduceSub, Nat.reduceLeDiff, Nat.reduceLT, Int.reduceToNat, Nat.reduceEqDiff, Int.reduceEq, wrap_id, hkz, hlz, htk1, htk2]) | refine AW.condT rfl ?_ | refine AW.condF rfl ?_ | ((first | (refine GI.of (fun h => ?_) (fun h => ?_) ?emm; case emm => first | exact Classical.em _ | exact (Classical.em _).symm | grind) | (refine GD.of (fun h => ?_) (fun h => ?_) ?emm; case emm => first | exact Classical.em _ | exact (Classical.em _).symm | grind)) <;> simp (disch := omega) only [RS, LS, SY, ne_eq, isFl, floatV, constA, thenQ, blockQ, pack, intA, boolA, eqA, unA, nilcA, asI, asB, asS, loadA, idxA, lenA, slcA, AV.flat, AV.one, zA1, storeA, toD, srcOf, copyA, ↓reduceIte, reduceCtorEq, List.replicate, Nat.reduceBEq, Nat.reduceAdd, Nat.reduceMul, Nat.reduceSub, Nat.reduceLeDiff, Nat.reduceLT, Int.reduceToNat, Nat.reduceEqDiff, Int.reduceEq, wrap_id, hkz, hlz, htk1, htk2, h]) | (refine AW.condP rfl (fun h => ?_) (fun h => ?_) <;> try simp only [Bool.and_eq_true, decide_eq_true_eq, Bool.not_eq_true', decide_eq_false_iff_not, Bool.not_eq_false', Bool.not_eq_true, Bool.not_eq_false] at h) | refine And.intro (by omega) ?_ | fail)
      refine ACalls.give (id := 6) (t := 3) (k := 1) (rows := ints (k0 :: (kr ++ [kz]))) (by simp [rowsA, ints]) (frL_own (i := 0) (by simp) rfl).symm (by simp [fitL, fitA]) rfl (FrL.all ?_) ?_
      · have ea : rowsA (fxs (l0 :: (lr ++ [lz]))) = [AV.d (dI l0.t), AV.d (dI l0.x), AV.d (dI l0.y), AV.d (dI l0.e)] :: (rowsA (List.map fxR lr) ++ [[AV.d (dI lz.t), AV.d (dI lz.x), AV.d (dI lz.y), AV.d (dI lz.e)]]) := by simp [rowsA]
        exact ⟨.inr fun _ _ => ⟨rfl, by simp [fitB, fitL, fitA]⟩, .inr fun _ _ => ⟨rfl, by simp [fitB, fitL, fitA]⟩, .inr fun _ _ => ⟨rfl, by simp [fitB, fitL, fitA]⟩, .inl rfl, .inr (by rw [← ea]; exact FrB.rows), trivial⟩
      · have ea : rowsA (fxs (l0 :: (lr ++ [lz]))) = [AV.d (dI l0.t), AV.d (dI l0.x), AV.d (dI l0.y), AV.d (dI l0.e)] :: (rowsA (List.map fxR lr) ++ [[AV.d (dI lz.t), AV.d (dI lz.x), AV.d (dI lz.y), AV.d (dI lz.e)]]) := by simp [rowsA]
        refine ACalls.give (id := 8) (t := 26) (k := 4) (rows := fxs (l0 :: (lr ++ [lz]))) (vs' := [LI (k0 :: (kr ++ [kz])), LF (l0 :: (lr ++ [lz]))]) (by rw [ea]; rfl) ?_ (by simp [fitL, fitA]) rfl (FrL.all ?_) ?_
        · simp only [frzL, frzA, if_true, List.drop_zero]
          rw [List.take_of_length_le (by simp)]
        · simp only [List.set]
          exact ⟨.inr fun _ _ => ⟨rfl, by simp [fitB, fitL, fitA]⟩, .inr fun _ _ => ⟨rfl, by simp [fitB, fitL, fitA]⟩, .inr fun _ _ => ⟨rfl, by simp [fitB, fitL, fitA]⟩, .inl rfl, trivial⟩
        · refine Fn.call d3 rfl rfl ?_
          simp only [RS, LS, SY, ne_eq, isFl, floatV, constA, thenQ, blockQ, pack, intA, boolA, eqA, unA, nilcA, asI, asB, asS, loadA, idxA, lenA, slcA, AV.flat, AV.one, zA1, storeA, toD, srcOf, copyA, ↓reduceIte, reduceCtorEq, List.replicate, Nat.reduceBEq, Nat.reduceAdd, Nat.reduceMul, Nat.reduceSub, Nat.reduceLeDiff, Nat.reduceLT, Int.reduceToNat, Nat.reduceEqDiff, Int.reduceEq, List.set]
          repeat' (first | refine AW.seq' ?_ | with_reducible refine AW.blockS rfl ?_ | ((first | refine AW.ops ?_ | refine AW.draw ?_ | refine AW.skip ?_ | refine AW.ret ?_ | refine AW.exit ?_ | refine Fn.call (hi1) rfl rfl ?_ | refine Fn.call (sane_ok) rfl rfl ?_) <;> simp only [RS, LS, SY, ne_eq, isFl, floatV, constA, thenQ, blockQ, pack, intA, boolA, eqA, unA, nilcA, asI, asB, asS, loadA, idxA, lenA, slcA, AV.flat, AV.one, zA1, storeA, toD, srcOf, copyA, ↓reduceIte, reduceCtorEq, List.replicate, Nat.reduceBEq, Nat.reduceAdd, Nat.reduceMul, Nat.reduceSub, Nat.reduceLeDiff, Nat.reduceLT, Int.reduceToNat, Nat.reduceEqDiff, Int.reduceEq]) | refine AW.condT rfl ?_ | refine AW.condF rfl ?_ | ((first | (refine GI.of (fun h => ?_) (fun h => ?_) ?emm; case emm => first | exact Classical.em _ | exact (Classical.em _).symm | grind) | (refine GD.of (fun h => ?_) (fun h => ?_) ?emm; case emm => first | exact Classical.em _ | exact (Classical.em _).symm | grind)) <;> simp only [RS, LS, SY, ne_eq, isFl, floatV, constA, thenQ, blockQ, pack, intA, boolA, eqA, unA, nilcA, asI, asB, asS, loadA, idxA, lenA, slcA, AV.flat, AV.one, zA1, storeA, toD, srcOf, copyA, ↓reduceIte, reduceCtorEq, List.replicate, Nat.reduceBEq, Nat.reduceAdd, Nat.reduceMul, Nat.reduceSub, Nat.reduceLeDiff, Nat.reduceLT, Int.reduceToNat, Nat.reduceEqDiff, Int.reduceEq, h]) | (refine AW.condP rfl (fun h => ?_) (fun h => ?_) <;> try simp only [Bool.and_eq_true, decide_eq_true_eq, Bool.not_eq_true', decide_eq_false_iff_not, Bool.not_eq_false', Bool.not_eq_true, Bool.not_eq_false] at h) | refine And.intro (by omega) ?_ | fail)
end Go.Proofs.YtnbfcknhohdeeaaDoor.H
