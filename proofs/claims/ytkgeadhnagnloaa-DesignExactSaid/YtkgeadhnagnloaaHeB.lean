/- Chapter 26: chains in the program. -/
import Derived.Test.YtkgeadhnagnloaaHeA
set_option linter.unusedSimpArgs false
set_option linter.unusedVariables false
namespace Go.Proofs.Ytkgeadhnagnloaa.H
theorem IsM.one {P : Program} {f : FuncId} {vs : List AV} {ls : List Ln} {t : Pt} (h : ACalls P f vs [] (IsM ls t)) : ACalls P f vs [] fun v s' => ∃ m, ((∀ p, lkP m p = dstP ls t p) ∧ ∀ x ∈ m, x.2 ≤ ls.length + 1) ∧ v = .mp 0 ∧ s' = [some (.mp (mpN m))] :=
  h.ren fun v s' ⟨id, m, e, hs, h1, h2⟩ => by
    refine ⟨fun i => id, .mp 0, [some (.mp (mpN m))], fun i hi => by simp at hi, by simp, ?_, ?_, ?_, m, ⟨h1, h2⟩, rfl, rfl⟩
    · intro i j ⟨b, hi⟩ ⟨c, hj⟩ hij
      match i, j, hi, hj with
      | 0, 0, _, _ => exact absurd rfl hij
      | i + 1, _, hi, _ => simp at hi
      | 0, j + 1, _, hj => simp at hj
    · exact ⟨rfl, by rw [e]; simp [renA]⟩
    · intro i b hi
      match i, hi with
      | 0, hi =>
        simp only [List.getElem?_cons_zero, Option.some.injEq] at hi
        subst hi
        exact ⟨rfl, hs⟩
      | i + 1, hi => simp at hi
theorem dist_call {ps : List Pt} {ls : List Ln} {gs : List Gr} (hl : ls.length ≤ 1000000) {t : Pt} {s : St} {Q : AV → St → Prop} (hq : ∀ m, (∀ p, lkP m p = dstP ls t p) → (∀ x ∈ m, x.2 ≤ ls.length + 1) → Q (.mp s.length) (s ++ [some (.mp (mpN m))])) : ACalls Try.prog 58 [ADs ps ls (grs gs), APt t] s Q :=
  ACalls.frame (ft := []) (IsM.one (dist0_ok ps ls gs hl t)) (given_nil rfl) fun v s' ⟨m, ⟨h1, h2⟩, e1, e2⟩ => by
    subst e1 e2
    have : backS [] s [some (.mp (mpN m))] = s ++ [some (.mp (mpN m))] := by
      unfold backS
      simp only [List.length_nil, List.drop_zero, List.map_cons, List.map_nil]
      congr 1
      refine List.ext_getElem? fun j => ?_
      rw [List.getElem?_map]
      by_cases hj : j < s.length
      · rw [List.getElem?_range hj]; simp [hj]
      · rw [List.getElem?_eq_none (by simp; omega), List.getElem?_eq_none (by omega)]; rfl
    rw [this]
    simpa [renA, nmR] using hq m h1 h2
/-! ### Pairs of a list and a bool -/
theorem ACalls.endT {P : Program} {f : FuncId} {vs : List AV} {s : St} {Q Q' : AV → St → Prop} (h : ACalls P f vs s Q) (hq : ∀ v s', Q v s' → Q' v s' ∨ ∃ l m, v = .tup l ∧ WkL l m ∧ Q' (.tup m) s') : ACalls P f vs s Q' := by
  intro w K β us hz hr
  refine (h w K β us hz hr).mono fun e w' ⟨v, s', K', β', u, e1, q, hz', hR, hx⟩ => ?_
  rcases hq v s' q with hq' | ⟨l, m, rfl, hw, hq'⟩
  · exact ⟨v, s', K', β', u, e1, hq', hz', hR, hx⟩
  · refine ⟨.tup m, s', K', β', u, e1, hq', hz', ?_, hx⟩
    simp only [R] at hR ⊢
    obtain ⟨us, h1, h2⟩ := hR
    exact ⟨us, h1, RL_wk hw h2⟩
def IsO2 (l : List Pt) (b : Bool) (v : AV) (s' : St) : Prop := ∃ u, v = .tup [u, AB b] ∧ (IsO l u s' ∨ u = .ful 2 (pts l))
theorem IsO2.fn {P : Program} {f : FuncId} {vs : List AV} {l : List Pt} {b : Bool} (h : ACalls P f vs [] (IsO2 l b)) : Fn P f vs (.tup [LP l, AB b]) := by
  unfold Fn
  have h1 : ACalls P f vs [] fun v _ => v = .tup [LP l, AB b] := by
    refine ACalls.freeze (ACalls.endT (Q' := fun v s' => v = .tup [LP l, AB b] ∨ ∃ id z, v = .tup [.own id 0 l.length, AB b] ∧ s'[id]? = some (some (.cells 29 2 (rowsA (pts (l ++ z)))))) h fun v s' hv => ?_) fun v s' hv => ?_
    · obtain ⟨u, rfl, hu⟩ := hv
      rcases hu with (⟨rfl, k, rfl⟩ | ⟨id, z, rfl, hs⟩) | rfl
      · exact .inr ⟨_, [LP [], AB b], rfl, .cons (.nil k 2) (.cons (.same _) .nil), .inl rfl⟩
      · exact .inl (.inr ⟨id, z, rfl, hs⟩)
      · exact .inr ⟨_, [LP l, AB b], rfl, .cons (.ful _ _) (.cons (.same _) .nil), .inl rfl⟩
    · rcases hv with hv | ⟨id, z, rfl, hs⟩
      · exact .inl hv
      · refine .inr ⟨id, 29, 2, pts (l ++ z), hs, by simp [fitA, fitL], ?_⟩
        simp [frzA, frzL]
  exact h1.take fun v s' e => ⟨by rw [e]; rfl, fun i b hi => by simp at hi, e, by simp⟩
/-! ### Chains -/
/-- What Chain answers. -/
noncomputable def chaP (ps : List Pt) (ls : List Ln) (gs : List Gr) (p t : Pt) : List Pt × Bool :=
  if checkP ps ls gs = 0 ∧ p ∈ ps ∧ t ∈ ps then match dstP ls t p with
    | some n => (chnP ls t n p, true)
    | none => ([], false)
  else ([], false)
theorem nxtP_at {ls : List Ln} {t p : Pt} {n i : Nat} (hi : i < ls.length) (hn : ∀ x ∈ ls.take i, ¬ (x.1 = p ∧ dstP ls t x.2 = some n)) (h : ls[i].1 = p ∧ dstP ls t ls[i].2 = some n) : nxtP ls t n p = ls[i].2 := by
  have e : ls.find? (fun x => decide (x.1 = p ∧ dstP ls t x.2 = some n)) = some ls[i] := by
    have hls : ls = ls.take i ++ ls[i] :: ls.drop (i + 1) := by rw [← List.drop_eq_getElem_cons hi, List.take_append_drop]
    rw [List.find?_eq_some_iff_append]
    exact ⟨by simpa using h, ls.take i, ls.drop (i + 1), hls, fun a ha => by have := hn a ha; simp only [Bool.not_eq_true', decide_eq_false_iff_not]; exact this⟩
  unfold nxtP
  rw [e]
/-- The list so far: as it begins, or of its own. -/
def oQ (b : Bool) (l : List Pt) : AV := if b then .own 3 0 l.length else .ful 2 (pts l)
theorem oQ_t (l : List Pt) : oQ true l = .own 3 0 l.length := rfl
theorem oQ_f (l : List Pt) : oQ false l = .ful 2 (pts l) := rfl
set_option maxHeartbeats 8000000 in
/-- The links are searched for the next part. -/
theorem chain_in {ps : List Pt} {ls : List Ln} {gs : List Gr} (hl : ls.length ≤ 1000000) {t at_ : Pt} {m : List (Pt × Nat)} {r : Nat} {b : Bool} {l : List Pt} (hm : ∀ p, lkP m p = dstP ls t p) (hD : Dst ls t at_ (r + 1)) (hr : r ≤ 1000001) {T : Tm} {s : St} {Q : Fl → Tm → St → Prop} {rl : List Nat}
    (hN : Nrm rl 0 T s [(55, AI .i64 0), (54, AI .i64 ls.length), (53, LN ls), (3, .ptr 0 0 0), (8, .mp 1), (9, AI .i64 (r + 1 : Nat)), (11, oQ b l), (12, .ptr 2 0 0)] [BX ps ls gs, some (.mp (mpN m)), some (.cells 29 2 [[AI .i64 at_.1, AI .i64 at_.2]]), qB b l])
    (hQ : ∀ T s rl, Nrm rl 0 T s [(3, .ptr 0 0 0), (8, .mp 1), (9, AI .i64 (r + 1 : Nat)), (11, oQ b l), (12, .ptr 2 0 0)] [BX ps ls gs, some (.mp (mpN m)), some (.cells 29 2 [[AI .i64 (nxtP ls t r at_).1, AI .i64 (nxtP ls t r at_).2]]), qB b l] → Q .normal T s) : AW Try.prog 88 0 (rangeC 2 55 54 56 81 c30_0) T s Q := by
  refine AW.range (α := Unit) ls.length (by omega) (by decide) (fun _ _ => [(53, LN ls), (3, .ptr 0 0 0), (8, .mp 1), (9, AI .i64 (r + 1 : Nat)), (11, oQ b l), (12, .ptr 2 0 0)]) (fun _ _ => [BX ps ls gs, some (.mp (mpN m)), some (.cells 29 2 [[AI .i64 at_.1, AI .i64 at_.2]]), qB b l]) (fun i _ => ∀ x ∈ ls.take i, ¬ (x.1 = at_ ∧ dstP ls t x.2 = some r)) () (fun x hx => by simp at hx) rl hN (by simp) ?_ ?_
  · intro i _ hi hJ
    unfold c30_0
    have hr2 := getD_lns hi
    simp only [lnR] at hr2
    have hstep : ¬ (ls[i].1 = at_ ∧ dstP ls t ls[i].2 = some r) → ∀ x ∈ ls.take (i + 1), ¬ (x.1 = at_ ∧ dstP ls t x.2 = some r) := fun h x hx => by
      rcases (mem_take_succ hi).1 hx with hx | rfl
      · exact hJ x hx
      · exact h
    have hyes := fun h => nxtP_at hi hJ h
    have hlk := hm ls[i].2
    have hNsk : ∀ (T : Tm) (s' : St), NT 4 (nmL [0, 1, 2, 3]) T ((55, AI .i64 i) :: (54, AI .i64 ls.length) :: [(53, LN ls), (3, .ptr 0 0 0), (8, .mp 1), (9, AI .i64 (r + 1 : Nat)), (11, oQ b l), (12, .ptr 2 0 0)]) → ¬ (ls[i].1 = at_ ∧ dstP ls t ls[i].2 = some r) → ∃ (a' : Unit) (rl : List Nat), (∀ x ∈ ls.take (i + 1), ¬ (x.1 = at_ ∧ dstP ls t x.2 = some r)) ∧ Nrm rl 0 T ([BX ps ls gs, some (.mp (mpN m)), some (.cells 29 2 [[AI .i64 at_.1, AI .i64 at_.2]]), qB b l] ++ s') ((55, AI .i64 i) :: (54, AI .i64 ls.length) :: [(53, LN ls), (3, .ptr 0 0 0), (8, .mp 1), (9, AI .i64 (r + 1 : Nat)), (11, oQ b l), (12, .ptr 2 0 0)]) [BX ps ls gs, some (.mp (mpN m)), some (.cells 29 2 [[AI .i64 at_.1, AI .i64 at_.2]]), qB b l] := fun T s' hT h => by
      refine ⟨(), [0, 1, 2, 3], hstep h, rfl, by decide, rfl, hT, ⟨⟨rfl, rfl⟩, ⟨⟨rfl, rfl⟩, ⟨⟨rfl, rfl⟩, ?_⟩⟩⟩⟩
      cases b
      · trivial
      · exact ⟨⟨belB_rowsA _ _ _ (pts l), by rw [renB_rowsA]; rfl⟩, trivial⟩
    have hq1 : belA 4 (oQ b l) = true := by cases b <;> rfl
    have hq2 : renA (nmL [0, 1, 2, 3]) (oQ b l) = oQ b l := by cases b <;> rfl
    cases hdx : dstP ls t ls[i].2 with
    | none =>
      rw [hdx] at hlk
      repeat' (first | refine AW.seq' ?_ | with_reducible refine AW.blockS rfl ?_ | ((first | refine AW.ops ?_ | refine AW.draw ?_ | refine AW.skip ?_ | refine AW.ret ?_ | refine AW.exit ?_ |  refine mgetNk rfl ?_) <;> simp (disch := omega) only [RS, LS, SY, ne_eq, isFl, floatV, constA, thenQ, blockQ, pack, intA, boolA, eqA, unA, nilcA, asI, asB, asS, loadA, idxA, lenA, slcA, AV.flat, AV.one, zA1, storeA, toD, srcOf, copyA, ↓reduceIte, reduceCtorEq, List.replicate, Nat.reduceBEq, Nat.reduceAdd, Nat.reduceMul, Nat.reduceSub, Nat.reduceLeDiff, Nat.reduceLT, Int.reduceToNat, Nat.reduceEqDiff, Int.reduceEq, wrap_id, hr2, hlk, pt_eq, Option.isSome_none, Option.getD_none]) | refine AW.condT rfl ?_ | refine AW.condF rfl ?_ | ((first | refine GI.of (fun h => ?_) (fun h => ?_) (by first | exact Classical.em _ | exact (Classical.em _).symm | grind) | refine GD.of (fun h => ?_) (fun h => ?_) (by first | exact Classical.em _ | exact (Classical.em _).symm | grind)) <;> simp (disch := omega) only [RS, LS, SY, ne_eq, isFl, floatV, constA, thenQ, blockQ, pack, intA, boolA, eqA, unA, nilcA, asI, asB, asS, loadA, idxA, lenA, slcA, AV.flat, AV.one, zA1, storeA, toD, srcOf, copyA, ↓reduceIte, reduceCtorEq, List.replicate, Nat.reduceBEq, Nat.reduceAdd, Nat.reduceMul, Nat.reduceSub, Nat.reduceLeDiff, Nat.reduceLT, Int.reduceToNat, Nat.reduceEqDiff, Int.reduceEq, wrap_id, hr2, hlk, pt_eq, Option.isSome_none, Option.getD_none, h]) | (refine AW.condP rfl (fun h => ?_) (fun h => ?_) <;> try simp only [Bool.and_eq_true, decide_eq_true_eq, Bool.not_eq_true', decide_eq_false_iff_not, Bool.not_eq_false', Bool.not_eq_true, Bool.not_eq_false] at h) | refine And.intro (by omega) ?_ | fail)
      all_goals exact hNsk _ [_] (by simp [NT, belA, belL, tget, renA, renL, nmL, hq1, hq2]) (fun hh => by rw [hdx] at hh; cases hh.2)
    | some v =>
      rw [hdx] at hlk
      repeat' (first | refine AW.seq' ?_ | with_reducible refine AW.blockS rfl ?_ | ((first | refine AW.ops ?_ | refine AW.draw ?_ | refine AW.skip ?_ | refine AW.ret ?_ | refine AW.exit ?_ |  refine mgetNk rfl ?_) <;> simp (disch := omega) only [RS, LS, SY, ne_eq, isFl, floatV, constA, thenQ, blockQ, pack, intA, boolA, eqA, unA, nilcA, asI, asB, asS, loadA, idxA, lenA, slcA, AV.flat, AV.one, zA1, storeA, toD, srcOf, copyA, ↓reduceIte, reduceCtorEq, List.replicate, Nat.reduceBEq, Nat.reduceAdd, Nat.reduceMul, Nat.reduceSub, Nat.reduceLeDiff, Nat.reduceLT, Int.reduceToNat, Nat.reduceEqDiff, Int.reduceEq, wrap_id, hr2, hlk, pt_eq, Option.isSome_some, Option.getD_some]) | refine AW.condT rfl ?_ | refine AW.condF rfl ?_ | ((first | refine GI.of (fun h => ?_) (fun h => ?_) (by first | exact Classical.em _ | exact (Classical.em _).symm | grind) | refine GD.of (fun h => ?_) (fun h => ?_) (by first | exact Classical.em _ | exact (Classical.em _).symm | grind)) <;> simp (disch := omega) only [RS, LS, SY, ne_eq, isFl, floatV, constA, thenQ, blockQ, pack, intA, boolA, eqA, unA, nilcA, asI, asB, asS, loadA, idxA, lenA, slcA, AV.flat, AV.one, zA1, storeA, toD, srcOf, copyA, ↓reduceIte, reduceCtorEq, List.replicate, Nat.reduceBEq, Nat.reduceAdd, Nat.reduceMul, Nat.reduceSub, Nat.reduceLeDiff, Nat.reduceLT, Int.reduceToNat, Nat.reduceEqDiff, Int.reduceEq, wrap_id, hr2, hlk, pt_eq, Option.isSome_some, Option.getD_some, h]) | (refine AW.condP rfl (fun h => ?_) (fun h => ?_) <;> try simp only [Bool.and_eq_true, decide_eq_true_eq, Bool.not_eq_true', decide_eq_false_iff_not, Bool.not_eq_false', Bool.not_eq_true, Bool.not_eq_false] at h) | refine And.intro (by omega) ?_ | fail)
      · have hvr : v = r := by omega
        rw [hyes ⟨by assumption, by rw [hdx, hvr]⟩] at hQ
        refine hQ _ _ [0, 1, 2, 3] ⟨rfl, by decide, rfl, by simp [NT, belA, belL, tget, renA, renL, nmL, hq1, hq2], ⟨⟨rfl, rfl⟩, ⟨⟨rfl, rfl⟩, ⟨⟨rfl, rfl⟩, ?_⟩⟩⟩⟩
        cases b
        · trivial
        · exact ⟨⟨belB_rowsA _ _ _ (pts l), by rw [renB_rowsA]; rfl⟩, trivial⟩
      · exact hNsk _ [_] (by simp [NT, belA, belL, tget, renA, renL, nmL, hq1, hq2]) (fun hh => by
          rw [hdx] at hh
          have := hh.2
          simp only [Option.some.injEq] at this
          omega)
      · exact hNsk _ [_] (by simp [NT, belA, belL, tget, renA, renL, nmL, hq1, hq2]) (fun hh => absurd hh.1 (by assumption))
  · intro _ hJ
    exfalso
    rw [List.take_length] at hJ
    obtain ⟨x, hx, h1, h2⟩ := hD.succ
    exact hJ x hx ⟨h1, dstP_some.2 h2⟩
set_option maxHeartbeats 8000000 in
theorem chain0_ok (ps : List Pt) (ls : List Ln) (gs : List Gr) (hp : ps.length ≤ 1000000) (hl : ls.length ≤ 1000000) (hg : gs.length ≤ 1000000) (hgl : ∀ g ∈ gs, g.2.length ≤ 1000000) (p t : Pt) : ACalls Try.prog 30 [ADs ps ls (grs gs), APt p, APt t] [] (IsO2 (chaP ps ls gs p t).1 (chaP ps ls gs p t).2) := by
  have hck := check_ok ps ls gs hp hl hg hgl
  refine ACalls.of fn30 (by simp) ?_
  unfold c30
  by_cases hV : checkP ps ls gs = 0 ∧ p ∈ ps ∧ t ∈ ps
  · have hV' := hV
    obtain ⟨hc, hpp, htp⟩ := hV
    have hp1 : hasP ps p = true := decide_eq_true hpp
    have hp2 : hasP ps t = true := decide_eq_true htp
    cases hd : dstP ls t p with
    | none =>
      have e : chaP ps ls gs p t = ([], false) := by rw [chaP, if_pos hV', hd]
      rw [e]
      repeat' (first | refine AW.seq' ?_ | with_reducible refine AW.blockS rfl ?_ | ((first | refine AW.ops ?_ | refine AW.draw ?_ | refine AW.skip ?_ | refine AW.ret ?_ | refine AW.exit ?_ | refine Fn.call (hck) rfl rfl ?_ | refine Fn.call (has_ok ps (by omega) _) rfl rfl ?_ |  (refine dist_call hl (fun m hm hmb => ?_); have hmp := hm p; rw [hd] at hmp) |  (refine mgetNk rfl ?_; rw [hmp])) <;> simp only [RS, LS, SY, ne_eq, isFl, floatV, constA, thenQ, blockQ, pack, intA, boolA, eqA, unA, nilcA, asI, asB, asS, loadA, idxA, lenA, slcA, AV.flat, AV.one, zA1, storeA, toD, srcOf, copyA, ↓reduceIte, reduceCtorEq, List.replicate, Nat.reduceBEq, Nat.reduceAdd, Nat.reduceMul, Nat.reduceSub, Nat.reduceLeDiff, Nat.reduceLT, Int.reduceToNat, Nat.reduceEqDiff, Int.reduceEq, hc, hp1, hp2]) | refine AW.condT rfl ?_ | refine AW.condF rfl ?_ | ((first | refine GI.of (fun h => ?_) (fun h => ?_) (by first | exact Classical.em _ | exact (Classical.em _).symm | grind) | refine GD.of (fun h => ?_) (fun h => ?_) (by first | exact Classical.em _ | exact (Classical.em _).symm | grind)) <;> simp only [RS, LS, SY, ne_eq, isFl, floatV, constA, thenQ, blockQ, pack, intA, boolA, eqA, unA, nilcA, asI, asB, asS, loadA, idxA, lenA, slcA, AV.flat, AV.one, zA1, storeA, toD, srcOf, copyA, ↓reduceIte, reduceCtorEq, List.replicate, Nat.reduceBEq, Nat.reduceAdd, Nat.reduceMul, Nat.reduceSub, Nat.reduceLeDiff, Nat.reduceLT, Int.reduceToNat, Nat.reduceEqDiff, Int.reduceEq, hc, hp1, hp2, h]) | (refine AW.condP rfl (fun h => ?_) (fun h => ?_) <;> try simp only [Bool.and_eq_true, decide_eq_true_eq, Bool.not_eq_true', decide_eq_false_iff_not, Bool.not_eq_false', Bool.not_eq_true, Bool.not_eq_false] at h) | refine And.intro (by omega) ?_ | fail)
      all_goals first
        | exact ⟨_, rfl, .inl (.inl ⟨rfl, _, rfl⟩)⟩
    | some n =>
      have e : chaP ps ls gs p t = (chnP ls t n p, true) := by rw [chaP, if_pos hV', hd]
      rw [e]
      repeat' (first | refine AW.seq' ?_ | with_reducible refine AW.blockS rfl ?_ | ((first | refine AW.ops ?_ | refine AW.draw ?_ | refine AW.skip ?_ | refine AW.ret ?_ | refine AW.exit ?_ | refine Fn.call (hck) rfl rfl ?_ | refine Fn.call (has_ok ps (by omega) _) rfl rfl ?_ |  (refine dist_call hl (fun m hm hmb => ?_); have hmp := hm p; rw [hd] at hmp) |  (refine mgetNk rfl ?_; rw [hmp])) <;> simp only [RS, LS, SY, ne_eq, isFl, floatV, constA, thenQ, blockQ, pack, intA, boolA, eqA, unA, nilcA, asI, asB, asS, loadA, idxA, lenA, slcA, AV.flat, AV.one, zA1, storeA, toD, srcOf, copyA, ↓reduceIte, reduceCtorEq, List.replicate, Nat.reduceBEq, Nat.reduceAdd, Nat.reduceMul, Nat.reduceSub, Nat.reduceLeDiff, Nat.reduceLT, Int.reduceToNat, Nat.reduceEqDiff, Int.reduceEq, hc, hp1, hp2, Option.getD_some]) | refine AW.condT rfl ?_ | refine AW.condF rfl ?_ | ((first | refine GI.of (fun h => ?_) (fun h => ?_) (by first | exact Classical.em _ | exact (Classical.em _).symm | grind) | refine GD.of (fun h => ?_) (fun h => ?_) (by first | exact Classical.em _ | exact (Classical.em _).symm | grind)) <;> simp only [RS, LS, SY, ne_eq, isFl, floatV, constA, thenQ, blockQ, pack, intA, boolA, eqA, unA, nilcA, asI, asB, asS, loadA, idxA, lenA, slcA, AV.flat, AV.one, zA1, storeA, toD, srcOf, copyA, ↓reduceIte, reduceCtorEq, List.replicate, Nat.reduceBEq, Nat.reduceAdd, Nat.reduceMul, Nat.reduceSub, Nat.reduceLeDiff, Nat.reduceLT, Int.reduceToNat, Nat.reduceEqDiff, Int.reduceEq, hc, hp1, hp2, Option.getD_some, h]) | (refine AW.condP rfl (fun h => ?_) (fun h => ?_) <;> try simp only [Bool.and_eq_true, decide_eq_true_eq, Bool.not_eq_true', decide_eq_false_iff_not, Bool.not_eq_false', Bool.not_eq_true, Bool.not_eq_false] at h) | refine And.intro (by omega) ?_ | fail)
      have hpsl : n ≤ 1000001 := by
        have := hmb (p, n) (lkP_some hmp)
        simp only at this
        omega
      refine AW.block ?_
      refine AW.loopA (α := Nat × Pt × Bool × List Pt) (fun a => a.1) (fun a => [(3, .ptr 0 0 0), (8, .mp 1), (9, AI .i64 a.1), (11, oQ a.2.2.1 a.2.2.2), (12, .ptr 2 0 0)]) (fun a => [BX ps ls gs, some (.mp (mpN m)), some (.cells 29 2 [[AI .i64 a.2.1.1, AI .i64 a.2.1.2]]), qB a.2.2.1 a.2.2.2])
        (fun a => a.1 ≤ n ∧ Dst ls t a.2.1 a.1 ∧ a.2.2.2 ++ (chnP ls t a.1 a.2.1).drop 1 = chnP ls t n p) (n, p, false, [p]) ⟨Nat.le_refl _, dstP_some.1 hd, ?_⟩ [0, 3, 4, 5] ⟨rfl, by decide, rfl, by simp [NT, belA, belL, tget, renA, renL, nmL, oQ_f], ⟨⟨rfl, rfl⟩, ⟨⟨rfl, rfl⟩, ⟨⟨rfl, rfl⟩, trivial⟩⟩⟩⟩ ?_
      · cases n <;> rfl
      rintro ⟨r, at_, b, l⟩ ⟨hrn, hD, hl'⟩
      simp only at hrn hD hl' ⊢
      have hll : l.length ≤ 1000002 := by
        have := congrArg List.length hl'
        rw [List.length_append, chnP_len] at this
        omega
      unfold c30_1
      cases r with
      | zero =>
        have hfin : l = chnP ls t n p := by rw [← hl']; simp [chnP]
        have h0 : ¬ (0 : Int) < ((0 : Nat) : Int) := by decide
        cases b
        · rw [oQ_f, qB_f]
          repeat' (first | refine AW.seq' ?_ | with_reducible refine AW.blockS rfl ?_ | ((first | refine AW.ops ?_ | refine AW.draw ?_ | refine AW.skip ?_ | refine AW.ret ?_ | refine AW.exit ?_) <;> simp only [RS, LS, SY, ne_eq, isFl, floatV, constA, thenQ, blockQ, pack, intA, boolA, eqA, unA, nilcA, asI, asB, asS, loadA, idxA, lenA, slcA, AV.flat, AV.one, zA1, storeA, toD, srcOf, copyA, ↓reduceIte, reduceCtorEq, List.replicate, Nat.reduceBEq, Nat.reduceAdd, Nat.reduceMul, Nat.reduceSub, Nat.reduceLeDiff, Nat.reduceLT, Int.reduceToNat, Nat.reduceEqDiff, Int.reduceEq, h0]) | refine AW.condT rfl ?_ | refine AW.condF rfl ?_ | ((first | refine GI.of (fun h => ?_) (fun h => ?_) (by first | exact Classical.em _ | exact (Classical.em _).symm | grind) | refine GD.of (fun h => ?_) (fun h => ?_) (by first | exact Classical.em _ | exact (Classical.em _).symm | grind)) <;> simp only [RS, LS, SY, ne_eq, isFl, floatV, constA, thenQ, blockQ, pack, intA, boolA, eqA, unA, nilcA, asI, asB, asS, loadA, idxA, lenA, slcA, AV.flat, AV.one, zA1, storeA, toD, srcOf, copyA, ↓reduceIte, reduceCtorEq, List.replicate, Nat.reduceBEq, Nat.reduceAdd, Nat.reduceMul, Nat.reduceSub, Nat.reduceLeDiff, Nat.reduceLT, Int.reduceToNat, Nat.reduceEqDiff, Int.reduceEq, h0, h]) | (refine AW.condP rfl (fun h => ?_) (fun h => ?_) <;> try simp only [Bool.and_eq_true, decide_eq_true_eq, Bool.not_eq_true', decide_eq_false_iff_not, Bool.not_eq_false', Bool.not_eq_true, Bool.not_eq_false] at h) | refine And.intro (by omega) ?_ | fail)
          exact ⟨_, rfl, .inr (by rw [hfin])⟩
        · rw [oQ_t, qB_t]
          repeat' (first | refine AW.seq' ?_ | with_reducible refine AW.blockS rfl ?_ | ((first | refine AW.ops ?_ | refine AW.draw ?_ | refine AW.skip ?_ | refine AW.ret ?_ | refine AW.exit ?_) <;> simp only [RS, LS, SY, ne_eq, isFl, floatV, constA, thenQ, blockQ, pack, intA, boolA, eqA, unA, nilcA, asI, asB, asS, loadA, idxA, lenA, slcA, AV.flat, AV.one, zA1, storeA, toD, srcOf, copyA, ↓reduceIte, reduceCtorEq, List.replicate, Nat.reduceBEq, Nat.reduceAdd, Nat.reduceMul, Nat.reduceSub, Nat.reduceLeDiff, Nat.reduceLT, Int.reduceToNat, Nat.reduceEqDiff, Int.reduceEq, h0]) | refine AW.condT rfl ?_ | refine AW.condF rfl ?_ | ((first | refine GI.of (fun h => ?_) (fun h => ?_) (by first | exact Classical.em _ | exact (Classical.em _).symm | grind) | refine GD.of (fun h => ?_) (fun h => ?_) (by first | exact Classical.em _ | exact (Classical.em _).symm | grind)) <;> simp only [RS, LS, SY, ne_eq, isFl, floatV, constA, thenQ, blockQ, pack, intA, boolA, eqA, unA, nilcA, asI, asB, asS, loadA, idxA, lenA, slcA, AV.flat, AV.one, zA1, storeA, toD, srcOf, copyA, ↓reduceIte, reduceCtorEq, List.replicate, Nat.reduceBEq, Nat.reduceAdd, Nat.reduceMul, Nat.reduceSub, Nat.reduceLeDiff, Nat.reduceLT, Int.reduceToNat, Nat.reduceEqDiff, Int.reduceEq, h0, h]) | (refine AW.condP rfl (fun h => ?_) (fun h => ?_) <;> try simp only [Bool.and_eq_true, decide_eq_true_eq, Bool.not_eq_true', decide_eq_false_iff_not, Bool.not_eq_false', Bool.not_eq_true, Bool.not_eq_false] at h) | refine And.intro (by omega) ?_ | fail)
          refine ⟨_, rfl, .inl (.inr ⟨3, [], by rw [hfin], by rw [List.append_nil, hfin]; rfl⟩)⟩
      | succ r =>
        have h0 : (0 : Int) < ((r + 1 : Nat) : Int) := by omega
        obtain ⟨hD1, hlk⟩ := nxtP_ok hD
        have hl2 : (l ++ [nxtP ls t r at_]) ++ (chnP ls t r (nxtP ls t r at_)).drop 1 = chnP ls t n p := by
          rw [← hl']
          have : (chnP ls t (r + 1) at_).drop 1 = nxtP ls t r at_ :: (chnP ls t r (nxtP ls t r at_)).drop 1 := by
            cases r <;> rfl
          rw [this]; simp
        have e1 : rowsA (pts (l ++ [nxtP ls t r at_])) = rowsA (pts l) ++ [[AI .i64 (nxtP ls t r at_).1, AI .i64 (nxtP ls t r at_).2]] := by simp only [rowsA, List.map_append]; rfl
        have hr64 : (r : Int) ≤ 1000001 := by omega
        cases b
        · rw [oQ_f, qB_f]
          repeat' (first | refine AW.seq' ?_ | with_reducible refine AW.blockS rfl ?_ | ((first | refine AW.ops ?_ | refine AW.draw ?_ | refine AW.skip ?_ | refine AW.ret ?_ | refine AW.exit ?_) <;> simp only [RS, LS, SY, ne_eq, isFl, floatV, constA, thenQ, blockQ, pack, intA, boolA, eqA, unA, nilcA, asI, asB, asS, loadA, idxA, lenA, slcA, AV.flat, AV.one, zA1, storeA, toD, srcOf, copyA, ↓reduceIte, reduceCtorEq, List.replicate, Nat.reduceBEq, Nat.reduceAdd, Nat.reduceMul, Nat.reduceSub, Nat.reduceLeDiff, Nat.reduceLT, Int.reduceToNat, Nat.reduceEqDiff, Int.reduceEq, h0]) | refine AW.condT rfl ?_ | refine AW.condF rfl ?_ | ((first | refine GI.of (fun h => ?_) (fun h => ?_) (by first | exact Classical.em _ | exact (Classical.em _).symm | grind) | refine GD.of (fun h => ?_) (fun h => ?_) (by first | exact Classical.em _ | exact (Classical.em _).symm | grind)) <;> simp only [RS, LS, SY, ne_eq, isFl, floatV, constA, thenQ, blockQ, pack, intA, boolA, eqA, unA, nilcA, asI, asB, asS, loadA, idxA, lenA, slcA, AV.flat, AV.one, zA1, storeA, toD, srcOf, copyA, ↓reduceIte, reduceCtorEq, List.replicate, Nat.reduceBEq, Nat.reduceAdd, Nat.reduceMul, Nat.reduceSub, Nat.reduceLeDiff, Nat.reduceLT, Int.reduceToNat, Nat.reduceEqDiff, Int.reduceEq, h0, h]) | (refine AW.condP rfl (fun h => ?_) (fun h => ?_) <;> try simp only [Bool.and_eq_true, decide_eq_true_eq, Bool.not_eq_true', decide_eq_false_iff_not, Bool.not_eq_false', Bool.not_eq_true, Bool.not_eq_false] at h) | refine And.intro (by omega) ?_ | fail)
          refine chain_in (b := false) (l := l) hl hm hD (by omega) (rl := [0, 1, 2, 3]) ⟨rfl, by decide, rfl, by simp [NT, belA, belL, tget, renA, renL, nmL, oQ_f], ⟨⟨rfl, rfl⟩, ⟨⟨rfl, rfl⟩, ⟨⟨rfl, rfl⟩, trivial⟩⟩⟩⟩ fun T s rl hN => ?_
          refine AW.nrm rl hN ?_
          generalize nxtP ls t r at_ = at2 at *
          repeat' (first | refine AW.seq' ?_ | with_reducible refine AW.blockS rfl ?_ | ((first | refine AW.ops ?_ | refine AW.draw ?_ | refine AW.skip ?_ | refine AW.ret ?_ | refine AW.exit ?_) <;> simp (disch := omega) only [RS, LS, SY, ne_eq, isFl, floatV, constA, thenQ, blockQ, pack, intA, boolA, eqA, unA, nilcA, asI, asB, asS, loadA, idxA, lenA, slcA, AV.flat, AV.one, zA1, storeA, toD, srcOf, copyA, ↓reduceIte, reduceCtorEq, List.replicate, Nat.reduceBEq, Nat.reduceAdd, Nat.reduceMul, Nat.reduceSub, Nat.reduceLeDiff, Nat.reduceLT, Int.reduceToNat, Nat.reduceEqDiff, Int.reduceEq, wrap_id, oQ_f, qB_f]) | refine AW.condT rfl ?_ | refine AW.condF rfl ?_ | ((first | refine GI.of (fun h => ?_) (fun h => ?_) (by first | exact Classical.em _ | exact (Classical.em _).symm | grind) | refine GD.of (fun h => ?_) (fun h => ?_) (by first | exact Classical.em _ | exact (Classical.em _).symm | grind)) <;> simp (disch := omega) only [RS, LS, SY, ne_eq, isFl, floatV, constA, thenQ, blockQ, pack, intA, boolA, eqA, unA, nilcA, asI, asB, asS, loadA, idxA, lenA, slcA, AV.flat, AV.one, zA1, storeA, toD, srcOf, copyA, ↓reduceIte, reduceCtorEq, List.replicate, Nat.reduceBEq, Nat.reduceAdd, Nat.reduceMul, Nat.reduceSub, Nat.reduceLeDiff, Nat.reduceLT, Int.reduceToNat, Nat.reduceEqDiff, Int.reduceEq, wrap_id, oQ_f, qB_f, h]) | (refine AW.condP rfl (fun h => ?_) (fun h => ?_) <;> try simp only [Bool.and_eq_true, decide_eq_true_eq, Bool.not_eq_true', decide_eq_false_iff_not, Bool.not_eq_false', Bool.not_eq_true, Bool.not_eq_false] at h) | refine And.intro (by omega) ?_ | fail)
          exact ⟨(r, at2, true, l ++ [at2]), [0, 1, 5, 4], ⟨by simp only; omega, hD1, hl2⟩, by simp only; omega, rfl, by decide, rfl, by simp [NT, belA, belL, tget, renA, renL, nmL, oQ_t], ⟨⟨rfl, rfl⟩, ⟨⟨rfl, rfl⟩, ⟨⟨rfl, rfl⟩, ⟨⟨belB_rowsA _ _ _ (pts (l ++ [at2])), by rw [renB_rowsA, e1]; rfl⟩, trivial⟩⟩⟩⟩⟩
        · rw [oQ_t, qB_t]
          repeat' (first | refine AW.seq' ?_ | with_reducible refine AW.blockS rfl ?_ | ((first | refine AW.ops ?_ | refine AW.draw ?_ | refine AW.skip ?_ | refine AW.ret ?_ | refine AW.exit ?_) <;> simp only [RS, LS, SY, ne_eq, isFl, floatV, constA, thenQ, blockQ, pack, intA, boolA, eqA, unA, nilcA, asI, asB, asS, loadA, idxA, lenA, slcA, AV.flat, AV.one, zA1, storeA, toD, srcOf, copyA, ↓reduceIte, reduceCtorEq, List.replicate, Nat.reduceBEq, Nat.reduceAdd, Nat.reduceMul, Nat.reduceSub, Nat.reduceLeDiff, Nat.reduceLT, Int.reduceToNat, Nat.reduceEqDiff, Int.reduceEq, h0]) | refine AW.condT rfl ?_ | refine AW.condF rfl ?_ | ((first | refine GI.of (fun h => ?_) (fun h => ?_) (by first | exact Classical.em _ | exact (Classical.em _).symm | grind) | refine GD.of (fun h => ?_) (fun h => ?_) (by first | exact Classical.em _ | exact (Classical.em _).symm | grind)) <;> simp only [RS, LS, SY, ne_eq, isFl, floatV, constA, thenQ, blockQ, pack, intA, boolA, eqA, unA, nilcA, asI, asB, asS, loadA, idxA, lenA, slcA, AV.flat, AV.one, zA1, storeA, toD, srcOf, copyA, ↓reduceIte, reduceCtorEq, List.replicate, Nat.reduceBEq, Nat.reduceAdd, Nat.reduceMul, Nat.reduceSub, Nat.reduceLeDiff, Nat.reduceLT, Int.reduceToNat, Nat.reduceEqDiff, Int.reduceEq, h0, h]) | (refine AW.condP rfl (fun h => ?_) (fun h => ?_) <;> try simp only [Bool.and_eq_true, decide_eq_true_eq, Bool.not_eq_true', decide_eq_false_iff_not, Bool.not_eq_false', Bool.not_eq_true, Bool.not_eq_false] at h) | refine And.intro (by omega) ?_ | fail)
          refine chain_in (b := true) (l := l) hl hm hD (by omega) (rl := [0, 1, 2, 3]) ⟨rfl, by decide, rfl, by simp [NT, belA, belL, tget, renA, renL, nmL, oQ_t], ⟨⟨rfl, rfl⟩, ⟨⟨rfl, rfl⟩, ⟨⟨rfl, rfl⟩, ⟨⟨belB_rowsA _ _ _ (pts l), by rw [renB_rowsA]; rfl⟩, trivial⟩⟩⟩⟩⟩ fun T s rl hN => ?_
          refine AW.nrm rl hN ?_
          generalize nxtP ls t r at_ = at2 at *
          have htk : List.take l.length (pts l) = pts l := List.take_of_length_le (by simp)
          repeat' (first | refine AW.seq' ?_ | with_reducible refine AW.blockS rfl ?_ | ((first | refine AW.ops ?_ | refine AW.draw ?_ | refine AW.skip ?_ | refine AW.ret ?_ | refine AW.exit ?_) <;> simp (disch := omega) only [RS, LS, SY, ne_eq, isFl, floatV, constA, thenQ, blockQ, pack, intA, boolA, eqA, unA, nilcA, asI, asB, asS, loadA, idxA, lenA, slcA, AV.flat, AV.one, zA1, storeA, toD, srcOf, copyA, ↓reduceIte, reduceCtorEq, List.replicate, Nat.reduceBEq, Nat.reduceAdd, Nat.reduceMul, Nat.reduceSub, Nat.reduceLeDiff, Nat.reduceLT, Int.reduceToNat, Nat.reduceEqDiff, Int.reduceEq, wrap_id, oQ_t, qB_t, htk]) | refine AW.condT rfl ?_ | refine AW.condF rfl ?_ | ((first | refine GI.of (fun h => ?_) (fun h => ?_) (by first | exact Classical.em _ | exact (Classical.em _).symm | grind) | refine GD.of (fun h => ?_) (fun h => ?_) (by first | exact Classical.em _ | exact (Classical.em _).symm | grind)) <;> simp (disch := omega) only [RS, LS, SY, ne_eq, isFl, floatV, constA, thenQ, blockQ, pack, intA, boolA, eqA, unA, nilcA, asI, asB, asS, loadA, idxA, lenA, slcA, AV.flat, AV.one, zA1, storeA, toD, srcOf, copyA, ↓reduceIte, reduceCtorEq, List.replicate, Nat.reduceBEq, Nat.reduceAdd, Nat.reduceMul, Nat.reduceSub, Nat.reduceLeDiff, Nat.reduceLT, Int.reduceToNat, Nat.reduceEqDiff, Int.reduceEq, wrap_id, oQ_t, qB_t, htk, h]) | (refine AW.condP rfl (fun h => ?_) (fun h => ?_) <;> try simp only [Bool.and_eq_true, decide_eq_true_eq, Bool.not_eq_true', decide_eq_false_iff_not, Bool.not_eq_false', Bool.not_eq_true, Bool.not_eq_false] at h) | refine And.intro (by omega) ?_ | fail)
          exact ⟨(r, at2, true, l ++ [at2]), [0, 1, 5, 4], ⟨by simp only; omega, hD1, hl2⟩, by simp only; omega, rfl, by decide, rfl, by simp [NT, belA, belL, tget, renA, renL, nmL, oQ_t], ⟨⟨rfl, rfl⟩, ⟨⟨rfl, rfl⟩, ⟨⟨rfl, rfl⟩, ⟨⟨belB_rowsA _ _ _ (pts (l ++ [at2])), by rw [renB_rowsA, e1]; rfl⟩, trivial⟩⟩⟩⟩⟩
  · have e : chaP ps ls gs p t = ([], false) := by rw [chaP, if_neg hV]
    rw [e]
    by_cases hc : checkP ps ls gs = 0
    · by_cases hpp : p ∈ ps
      · have hp1 : hasP ps p = true := decide_eq_true hpp
        have hp2 : hasP ps t = false := decide_eq_false fun h => hV ⟨hc, hpp, h⟩
        repeat' (first | refine AW.seq' ?_ | with_reducible refine AW.blockS rfl ?_ | ((first | refine AW.ops ?_ | refine AW.draw ?_ | refine AW.skip ?_ | refine AW.ret ?_ | refine AW.exit ?_ | refine Fn.call (hck) rfl rfl ?_ | refine Fn.call (has_ok ps (by omega) _) rfl rfl ?_) <;> simp only [RS, LS, SY, ne_eq, isFl, floatV, constA, thenQ, blockQ, pack, intA, boolA, eqA, unA, nilcA, asI, asB, asS, loadA, idxA, lenA, slcA, AV.flat, AV.one, zA1, storeA, toD, srcOf, copyA, ↓reduceIte, reduceCtorEq, List.replicate, Nat.reduceBEq, Nat.reduceAdd, Nat.reduceMul, Nat.reduceSub, Nat.reduceLeDiff, Nat.reduceLT, Int.reduceToNat, Nat.reduceEqDiff, Int.reduceEq, hc, hp1, hp2]) | refine AW.condT rfl ?_ | refine AW.condF rfl ?_ | ((first | refine GI.of (fun h => ?_) (fun h => ?_) (by first | exact Classical.em _ | exact (Classical.em _).symm | grind) | refine GD.of (fun h => ?_) (fun h => ?_) (by first | exact Classical.em _ | exact (Classical.em _).symm | grind)) <;> simp only [RS, LS, SY, ne_eq, isFl, floatV, constA, thenQ, blockQ, pack, intA, boolA, eqA, unA, nilcA, asI, asB, asS, loadA, idxA, lenA, slcA, AV.flat, AV.one, zA1, storeA, toD, srcOf, copyA, ↓reduceIte, reduceCtorEq, List.replicate, Nat.reduceBEq, Nat.reduceAdd, Nat.reduceMul, Nat.reduceSub, Nat.reduceLeDiff, Nat.reduceLT, Int.reduceToNat, Nat.reduceEqDiff, Int.reduceEq, hc, hp1, hp2, h]) | (refine AW.condP rfl (fun h => ?_) (fun h => ?_) <;> try simp only [Bool.and_eq_true, decide_eq_true_eq, Bool.not_eq_true', decide_eq_false_iff_not, Bool.not_eq_false', Bool.not_eq_true, Bool.not_eq_false] at h) | refine And.intro (by omega) ?_ | fail)
        exact ⟨_, rfl, .inl (.inl ⟨rfl, _, rfl⟩)⟩
      · have hp1 : hasP ps p = false := decide_eq_false hpp
        repeat' (first | refine AW.seq' ?_ | with_reducible refine AW.blockS rfl ?_ | ((first | refine AW.ops ?_ | refine AW.draw ?_ | refine AW.skip ?_ | refine AW.ret ?_ | refine AW.exit ?_ | refine Fn.call (hck) rfl rfl ?_ | refine Fn.call (has_ok ps (by omega) _) rfl rfl ?_) <;> simp only [RS, LS, SY, ne_eq, isFl, floatV, constA, thenQ, blockQ, pack, intA, boolA, eqA, unA, nilcA, asI, asB, asS, loadA, idxA, lenA, slcA, AV.flat, AV.one, zA1, storeA, toD, srcOf, copyA, ↓reduceIte, reduceCtorEq, List.replicate, Nat.reduceBEq, Nat.reduceAdd, Nat.reduceMul, Nat.reduceSub, Nat.reduceLeDiff, Nat.reduceLT, Int.reduceToNat, Nat.reduceEqDiff, Int.reduceEq, hc, hp1]) | refine AW.condT rfl ?_ | refine AW.condF rfl ?_ | ((first | refine GI.of (fun h => ?_) (fun h => ?_) (by first | exact Classical.em _ | exact (Classical.em _).symm | grind) | refine GD.of (fun h => ?_) (fun h => ?_) (by first | exact Classical.em _ | exact (Classical.em _).symm | grind)) <;> simp only [RS, LS, SY, ne_eq, isFl, floatV, constA, thenQ, blockQ, pack, intA, boolA, eqA, unA, nilcA, asI, asB, asS, loadA, idxA, lenA, slcA, AV.flat, AV.one, zA1, storeA, toD, srcOf, copyA, ↓reduceIte, reduceCtorEq, List.replicate, Nat.reduceBEq, Nat.reduceAdd, Nat.reduceMul, Nat.reduceSub, Nat.reduceLeDiff, Nat.reduceLT, Int.reduceToNat, Nat.reduceEqDiff, Int.reduceEq, hc, hp1, h]) | (refine AW.condP rfl (fun h => ?_) (fun h => ?_) <;> try simp only [Bool.and_eq_true, decide_eq_true_eq, Bool.not_eq_true', decide_eq_false_iff_not, Bool.not_eq_false', Bool.not_eq_true, Bool.not_eq_false] at h) | refine And.intro (by omega) ?_ | fail)
        exact ⟨_, rfl, .inl (.inl ⟨rfl, _, rfl⟩)⟩
    · repeat' (first | refine AW.seq' ?_ | with_reducible refine AW.blockS rfl ?_ | ((first | refine AW.ops ?_ | refine AW.draw ?_ | refine AW.skip ?_ | refine AW.ret ?_ | refine AW.exit ?_ | refine Fn.call (hck) rfl rfl ?_) <;> simp only [RS, LS, SY, ne_eq, isFl, floatV, constA, thenQ, blockQ, pack, intA, boolA, eqA, unA, nilcA, asI, asB, asS, loadA, idxA, lenA, slcA, AV.flat, AV.one, zA1, storeA, toD, srcOf, copyA, ↓reduceIte, reduceCtorEq, List.replicate, Nat.reduceBEq, Nat.reduceAdd, Nat.reduceMul, Nat.reduceSub, Nat.reduceLeDiff, Nat.reduceLT, Int.reduceToNat, Nat.reduceEqDiff, Int.reduceEq, hc]) | refine AW.condT rfl ?_ | refine AW.condF rfl ?_ | ((first | refine GI.of (fun h => ?_) (fun h => ?_) (by first | exact Classical.em _ | exact (Classical.em _).symm | grind) | refine GD.of (fun h => ?_) (fun h => ?_) (by first | exact Classical.em _ | exact (Classical.em _).symm | grind)) <;> simp only [RS, LS, SY, ne_eq, isFl, floatV, constA, thenQ, blockQ, pack, intA, boolA, eqA, unA, nilcA, asI, asB, asS, loadA, idxA, lenA, slcA, AV.flat, AV.one, zA1, storeA, toD, srcOf, copyA, ↓reduceIte, reduceCtorEq, List.replicate, Nat.reduceBEq, Nat.reduceAdd, Nat.reduceMul, Nat.reduceSub, Nat.reduceLeDiff, Nat.reduceLT, Int.reduceToNat, Nat.reduceEqDiff, Int.reduceEq, hc, h]) | (refine AW.condP rfl (fun h => ?_) (fun h => ?_) <;> try simp only [Bool.and_eq_true, decide_eq_true_eq, Bool.not_eq_true', decide_eq_false_iff_not, Bool.not_eq_false', Bool.not_eq_true, Bool.not_eq_false] at h) | refine And.intro (by omega) ?_ | fail)
      exact ⟨_, rfl, .inl (.inl ⟨rfl, _, rfl⟩)⟩
theorem chain_ok (ps : List Pt) (ls : List Ln) (gs : List Gr) (hp : ps.length ≤ 1000000) (hl : ls.length ≤ 1000000) (hg : gs.length ≤ 1000000) (hgl : ∀ g ∈ gs, g.2.length ≤ 1000000) (p t : Pt) : Fn Try.prog 30 [ADs ps ls (grs gs), APt p, APt t] (.tup [LP (chaP ps ls gs p t).1, AB (chaP ps ls gs p t).2]) :=
  IsO2.fn (chain0_ok ps ls gs hp hl hg hgl p t)
end Go.Proofs.Ytkgeadhnagnloaa.H
