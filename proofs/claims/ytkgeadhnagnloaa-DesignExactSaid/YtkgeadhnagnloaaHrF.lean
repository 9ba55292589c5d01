/- Chapter 26: chains in the reference. -/
import Derived.Test.YtkgeadhnagnloaaHrE
import Derived.Test.YtkgeadhnagnloaaHrA
set_option linter.unusedSimpArgs false
set_option linter.unusedVariables false
namespace Go.Proofs.Ytkgeadhnagnloaa.H
def oR (b : Bool) (l : List Pt) : AV := if b then .own 1 0 l.length else .ful 2 (pts l)
theorem oR_t (l : List Pt) : oR true l = .own 1 0 l.length := rfl
theorem oR_f (l : List Pt) : oR false l = .ful 2 (pts l) := rfl
theorem stO_get {ls : List Ln} {t : Pt} {ps : List Pt} {i : Nat} (h : i < ps.length) : (ints (stO ls t ps)).getD i [] = [dI (dI' ls t ps[i])] := by simp [stO, h]
theorem stO_len {ls : List Ln} {t : Pt} {ps : List Pt} : (ints (stO ls t ps)).length = ps.length := by simp [stO]
theorem dI'_some {ls : List Ln} {t p : Pt} {n : Nat} (h : dstP ls t p = some n) : dI' ls t p = n := by rw [dI', h]
theorem dI'_none {ls : List Ln} {t p : Pt} (h : dstP ls t p = none) : dI' ls t p = -1 := by rw [dI', h]
set_option maxHeartbeats 8000000 in
theorem rchain_in {ps : List Pt} {ls : List Ln} {gs : List Gr} (hc : checkP ps ls gs = 0) {t at_ : Pt} {u : Nat} (hu : u < ps.length) (hue : ps[u] = at_) {r : Nat} {b : Bool} {l : List Pt} (hD : Dst ls t at_ (r + 1)) (hr : r ≤ 1000001) {T : Tm} {s : St} {Q : Fl → Tm → St → Prop} {rl : List Nat}
    (hN : Nrm rl 0 T s [(53, AI .i64 0), (52, AI .i64 ls.length), (51, LN ls), (3, .ptr 0 0 0), (8, LI (stO ls t ps)), (9, AI .i64 u), (10, oR b l)] [BX ps ls gs, qB b l])
    (hQ : ∀ T s rl (u' : Nat) (hu' : u' < ps.length), ps[u'] = nxtP ls t r at_ → Nrm rl 0 T s [(3, .ptr 0 0 0), (8, LI (stO ls t ps)), (9, AI .i64 u'), (10, oR b l)] [BX ps ls gs, qB b l] → Q .normal T s) : AW Try.prog 93 0 (rangeC 2 53 52 54 83 c31_0) T s Q := by
  obtain ⟨hps, hls, hgs⟩ := check_len hc
  refine AW.range (α := Unit) ls.length (by omega) (by decide) (fun _ _ => [(51, LN ls), (3, .ptr 0 0 0), (8, LI (stO ls t ps)), (9, AI .i64 u), (10, oR b l)]) (fun _ _ => [BX ps ls gs, qB b l]) (fun i _ => ∀ x ∈ ls.take i, ¬ (x.1 = at_ ∧ dstP ls t x.2 = some r)) () (fun x hx => by simp at hx) rl hN (by simp) ?_ ?_
  · intro i _ hi hJ
    unfold c31_0
    have hr2 := getD_lns hi
    simp only [lnR] at hr2
    have hstep : ¬ (ls[i].1 = at_ ∧ dstP ls t ls[i].2 = some r) → ∀ x ∈ ls.take (i + 1), ¬ (x.1 = at_ ∧ dstP ls t x.2 = some r) := fun h x hx => by
      rcases (mem_take_succ hi).1 hx with hx | rfl
      · exact hJ x hx
      · exact h
    have hyes := fun h => nxtP_at hi hJ h
    obtain ⟨hx1, hx2⟩ := check_link hc (List.getElem_mem hi)
    obtain ⟨g, hg, hgl, hge⟩ := plcP_in hx2
    have hP2 := place_ok ps (by omega) ls[i].2
    rw [hg] at hP2
    have hui : (u : Int) < ps.length := by omega
    have hgi : (g : Int) < ps.length := by omega
    have hsu := stO_get (ls := ls) (t := t) hu
    have hsg := stO_get (ls := ls) (t := t) hgl
    rw [hue, dI'_some (dstP_some.2 hD)] at hsu
    rw [hge] at hsg
    have hpu := getD_map_lt (f := ptR) (d := []) hu
    rw [hue] at hpu
    have hsl := stO_len (ls := ls) (t := t) (ps := ps)
    have hq1 : belA 2 (oR b l) = true := by cases b <;> rfl
    have hq2 : renA (nmL [0, 1]) (oR b l) = oR b l := by cases b <;> rfl
    have hNsk : ∀ (T : Tm) (s' : St), NT 2 (nmL [0, 1]) T ((53, AI .i64 i) :: (52, AI .i64 ls.length) :: [(51, LN ls), (3, .ptr 0 0 0), (8, LI (stO ls t ps)), (9, AI .i64 u), (10, oR b l)]) → ¬ (ls[i].1 = at_ ∧ dstP ls t ls[i].2 = some r) → ∃ (a' : Unit) (rl : List Nat), (∀ x ∈ ls.take (i + 1), ¬ (x.1 = at_ ∧ dstP ls t x.2 = some r)) ∧ Nrm rl 0 T ([BX ps ls gs, qB b l] ++ s') ((53, AI .i64 i) :: (52, AI .i64 ls.length) :: [(51, LN ls), (3, .ptr 0 0 0), (8, LI (stO ls t ps)), (9, AI .i64 u), (10, oR b l)]) [BX ps ls gs, qB b l] := fun T s' hT h => by
      refine ⟨(), [0, 1], hstep h, rfl, by decide, rfl, hT, ⟨⟨rfl, rfl⟩, ?_⟩⟩
      cases b
      · trivial
      · exact ⟨⟨belB_rowsA _ _ _ (pts l), by rw [renB_rowsA]; rfl⟩, trivial⟩
    cases hdx : dstP ls t ls[i].2 with
    | none =>
      rw [dI'_none hdx] at hsg
      repeat' (first | refine AW.seq' ?_ | with_reducible refine AW.blockS rfl ?_ | ((first | refine AW.ops ?_ | refine AW.draw ?_ | refine AW.skip ?_ | refine AW.ret ?_ | refine AW.exit ?_ | refine Fn.call (hP2) rfl rfl ?_) <;> simp (disch := omega) only [RS, LS, SY, ne_eq, isFl, floatV, constA, thenQ, blockQ, pack, intA, boolA, eqA, unA, nilcA, asI, asB, asS, loadA, idxA, lenA, slcA, AV.flat, AV.one, zA1, storeA, toD, srcOf, copyA, ↓reduceIte, reduceCtorEq, List.replicate, Nat.reduceBEq, Nat.reduceAdd, Nat.reduceMul, Nat.reduceSub, Nat.reduceLeDiff, Nat.reduceLT, Int.reduceToNat, Nat.reduceEqDiff, Int.reduceEq, wrap_id, hr2, hui, hgi, hsu, hsg, hpu, hsl, pt_eq]) | refine AW.condT rfl ?_ | refine AW.condF rfl ?_ | ((first | refine GI.of (fun h => ?_) (fun h => ?_) (by first | exact Classical.em _ | exact (Classical.em _).symm | grind) | refine GD.of (fun h => ?_) (fun h => ?_) (by first | exact Classical.em _ | exact (Classical.em _).symm | grind)) <;> simp (disch := omega) only [RS, LS, SY, ne_eq, isFl, floatV, constA, thenQ, blockQ, pack, intA, boolA, eqA, unA, nilcA, asI, asB, asS, loadA, idxA, lenA, slcA, AV.flat, AV.one, zA1, storeA, toD, srcOf, copyA, ↓reduceIte, reduceCtorEq, List.replicate, Nat.reduceBEq, Nat.reduceAdd, Nat.reduceMul, Nat.reduceSub, Nat.reduceLeDiff, Nat.reduceLT, Int.reduceToNat, Nat.reduceEqDiff, Int.reduceEq, wrap_id, hr2, hui, hgi, hsu, hsg, hpu, hsl, pt_eq, h]) | (refine AW.condP rfl (fun h => ?_) (fun h => ?_) <;> try simp only [Bool.and_eq_true, decide_eq_true_eq, Bool.not_eq_true', decide_eq_false_iff_not, Bool.not_eq_false', Bool.not_eq_true, Bool.not_eq_false] at h) | refine And.intro (by omega) ?_ | fail)
      · exfalso; omega
      all_goals exact hNsk _ [_] (by simp [NT, belA, belL, tget, renA, renL, nmL, hq1, hq2]) (fun hh => by rw [hdx] at hh; cases hh.2)
    | some v =>
      rw [dI'_some hdx] at hsg
      repeat' (first | refine AW.seq' ?_ | with_reducible refine AW.blockS rfl ?_ | ((first | refine AW.ops ?_ | refine AW.draw ?_ | refine AW.skip ?_ | refine AW.ret ?_ | refine AW.exit ?_ | refine Fn.call (hP2) rfl rfl ?_) <;> simp (disch := omega) only [RS, LS, SY, ne_eq, isFl, floatV, constA, thenQ, blockQ, pack, intA, boolA, eqA, unA, nilcA, asI, asB, asS, loadA, idxA, lenA, slcA, AV.flat, AV.one, zA1, storeA, toD, srcOf, copyA, ↓reduceIte, reduceCtorEq, List.replicate, Nat.reduceBEq, Nat.reduceAdd, Nat.reduceMul, Nat.reduceSub, Nat.reduceLeDiff, Nat.reduceLT, Int.reduceToNat, Nat.reduceEqDiff, Int.reduceEq, wrap_id, hr2, hui, hgi, hsu, hsg, hpu, hsl, pt_eq]) | refine AW.condT rfl ?_ | refine AW.condF rfl ?_ | ((first | refine GI.of (fun h => ?_) (fun h => ?_) (by first | exact Classical.em _ | exact (Classical.em _).symm | grind) | refine GD.of (fun h => ?_) (fun h => ?_) (by first | exact Classical.em _ | exact (Classical.em _).symm | grind)) <;> simp (disch := omega) only [RS, LS, SY, ne_eq, isFl, floatV, constA, thenQ, blockQ, pack, intA, boolA, eqA, unA, nilcA, asI, asB, asS, loadA, idxA, lenA, slcA, AV.flat, AV.one, zA1, storeA, toD, srcOf, copyA, ↓reduceIte, reduceCtorEq, List.replicate, Nat.reduceBEq, Nat.reduceAdd, Nat.reduceMul, Nat.reduceSub, Nat.reduceLeDiff, Nat.reduceLT, Int.reduceToNat, Nat.reduceEqDiff, Int.reduceEq, wrap_id, hr2, hui, hgi, hsu, hsg, hpu, hsl, pt_eq, h]) | (refine AW.condP rfl (fun h => ?_) (fun h => ?_) <;> try simp only [Bool.and_eq_true, decide_eq_true_eq, Bool.not_eq_true', decide_eq_false_iff_not, Bool.not_eq_false', Bool.not_eq_true, Bool.not_eq_false] at h) | refine And.intro (by omega) ?_ | fail)
      · have hvr : v = r := by omega
        refine hQ _ _ [0, 1] g hgl (by rw [hge, hyes ⟨by assumption, by rw [hdx, hvr]⟩]) ⟨rfl, by decide, rfl, by simp [NT, belA, belL, tget, renA, renL, nmL, hq1, hq2], ⟨⟨rfl, rfl⟩, ?_⟩⟩
        cases b
        · trivial
        · exact ⟨⟨belB_rowsA _ _ _ (pts l), by rw [renB_rowsA]; rfl⟩, trivial⟩
      · exact hNsk _ [_] (by simp [NT, belA, belL, tget, renA, renL, nmL, hq1, hq2]) (fun hh => by
          rw [hdx] at hh
          have := hh.2
          simp only [Option.some.injEq] at this
          omega)
      · exact hNsk _ [_] (by simp [NT, belA, belL, tget, renA, renL, nmL, hq1, hq2]) (fun hh => absurd hh.1 (by assumption))
  · intro _ hJ
    exfalso
    rw [List.take_length] at hJ
    obtain ⟨x, hx, h1, h2⟩ := hD.succ
    exact hJ x hx ⟨h1, dstP_some.2 h2⟩
set_option maxHeartbeats 8000000 in
theorem rchain0_ok (ps : List Pt) (ls : List Ln) (gs : List Gr) (hp : ps.length ≤ 1000000) (hl : ls.length ≤ 1000000) (hg : gs.length ≤ 1000000) (hgl : ∀ g ∈ gs, g.2.length ≤ 1000000) (p t : Pt) : ACalls Try.prog 31 [ADs ps ls (grs gs), APt p, APt t] [] (IsO2 (chaP ps ls gs p t).1 (chaP ps ls gs p t).2) := by
  have hck := rcheck_ok ps ls gs hp hl hg hgl
  refine ACalls.of fn31 (by simp) ?_
  unfold c31
  by_cases hV : checkP ps ls gs = 0 ∧ p ∈ ps ∧ t ∈ ps
  · have hV' := hV
    obtain ⟨hc, hpp, htp⟩ := hV
    have hp1 : hasP ps p = true := decide_eq_true hpp
    have hp2 : hasP ps t = true := decide_eq_true htp
    obtain ⟨hps, hls, hgs⟩ := check_len hc
    obtain ⟨u, hu, hul, hue⟩ := plcP_in hpp
    have hP := place_ok ps (by omega) p
    rw [hu] at hP
    have hS := steps_ok ps ls gs t hc
    have hui : (u : Int) < ps.length := by omega
    have hsl := stO_len (ls := ls) (t := t) (ps := ps)
    have hsu := stO_get (ls := ls) (t := t) hul
    rw [hue] at hsu
    cases hd : dstP ls t p with
    | none =>
      have e : chaP ps ls gs p t = ([], false) := by rw [chaP, if_pos hV', hd]
      rw [e]
      rw [dI'_none hd] at hsu
      repeat' (first | refine AW.seq' ?_ | with_reducible refine AW.blockS rfl ?_ | ((first | refine AW.ops ?_ | refine AW.draw ?_ | refine AW.skip ?_ | refine AW.ret ?_ | refine AW.exit ?_ | refine Fn.call (hck) rfl rfl ?_ | refine Fn.call (rhas_ok ps (by omega) _) rfl rfl ?_ | refine Fn.call (hS) rfl rfl ?_ | refine Fn.call (hP) rfl rfl ?_) <;> simp only [RS, LS, SY, ne_eq, isFl, floatV, constA, thenQ, blockQ, pack, intA, boolA, eqA, unA, nilcA, asI, asB, asS, loadA, idxA, lenA, slcA, AV.flat, AV.one, zA1, storeA, toD, srcOf, copyA, ↓reduceIte, reduceCtorEq, List.replicate, Nat.reduceBEq, Nat.reduceAdd, Nat.reduceMul, Nat.reduceSub, Nat.reduceLeDiff, Nat.reduceLT, Int.reduceToNat, Nat.reduceEqDiff, Int.reduceEq, hc, hp1, hp2, hui, hsl, hsu]) | refine AW.condT rfl ?_ | refine AW.condF rfl ?_ | refine And.intro (by omega) ?_ | fail)
      all_goals first
        | exact ⟨_, rfl, .inl (.inl ⟨rfl, _, rfl⟩)⟩
    | some n =>
      have e : chaP ps ls gs p t = (chnP ls t n p, true) := by rw [chaP, if_pos hV', hd]
      rw [e]
      rw [dI'_some hd] at hsu
      have hn0 : ¬ (n : Int) < 0 := by omega
      have hD0 := dstP_some.1 hd
      have hpsl := dst_lt hpp (fun x hx => (check_link hc hx).2) hD0
      repeat' (first | refine AW.seq' ?_ | with_reducible refine AW.blockS rfl ?_ | ((first | refine AW.ops ?_ | refine AW.draw ?_ | refine AW.skip ?_ | refine AW.ret ?_ | refine AW.exit ?_ | refine Fn.call (hck) rfl rfl ?_ | refine Fn.call (rhas_ok ps (by omega) _) rfl rfl ?_ | refine Fn.call (hS) rfl rfl ?_ | refine Fn.call (hP) rfl rfl ?_) <;> simp only [RS, LS, SY, ne_eq, isFl, floatV, constA, thenQ, blockQ, pack, intA, boolA, eqA, unA, nilcA, asI, asB, asS, loadA, idxA, lenA, slcA, AV.flat, AV.one, zA1, storeA, toD, srcOf, copyA, ↓reduceIte, reduceCtorEq, List.replicate, Nat.reduceBEq, Nat.reduceAdd, Nat.reduceMul, Nat.reduceSub, Nat.reduceLeDiff, Nat.reduceLT, Int.reduceToNat, Nat.reduceEqDiff, Int.reduceEq, hc, hp1, hp2, hui, hsl, hsu, hn0]) | refine AW.condT rfl ?_ | refine AW.condF rfl ?_ | refine And.intro (by omega) ?_ | fail)
      refine AW.block ?_
      refine AW.loopA (α := Nat × Nat × Bool × List Pt) (fun a => a.1) (fun a => [(3, .ptr 0 0 0), (8, LI (stO ls t ps)), (9, AI .i64 a.2.1), (10, oR a.2.2.1 a.2.2.2)]) (fun a => [BX ps ls gs, qB a.2.2.1 a.2.2.2])
        (fun a => a.1 ≤ n ∧ ∃ h : a.2.1 < ps.length, Dst ls t ps[a.2.1] a.1 ∧ a.2.2.2 ++ (chnP ls t a.1 ps[a.2.1]).drop 1 = chnP ls t n p) (n, u, false, [p]) ⟨Nat.le_refl _, hul, by simp only [hue]; exact hD0, ?_⟩ [0, 3] ⟨rfl, by decide, rfl, by simp [NT, belA, belL, tget, renA, renL, nmL, oR_f], ⟨⟨rfl, rfl⟩, trivial⟩⟩ ?_
      · simp only [hue]
        cases n <;> rfl
      rintro ⟨r, v, b, l⟩ ⟨hrn, hvl, hD, hl'⟩
      simp only at hrn hvl hD hl' ⊢
      generalize hat : ps[v] = at_ at hD hl'
      have hll : l.length ≤ 1000002 := by
        have := congrArg List.length hl'
        rw [List.length_append, chnP_len] at this
        omega
      have hvi : (v : Int) < ps.length := by omega
      have hsv := stO_get (ls := ls) (t := t) hvl
      rw [hat, dI'_some (dstP_some.2 hD)] at hsv
      unfold c31_1
      cases r with
      | zero =>
        have hfin : l = chnP ls t n p := by rw [← hl']; simp [chnP]
        have h0 : ¬ (0 : Int) < ((0 : Nat) : Int) := by decide
        cases b
        · rw [oR_f, qB_f]
          repeat' (first | refine AW.seq' ?_ | with_reducible refine AW.blockS rfl ?_ | ((first | refine AW.ops ?_ | refine AW.draw ?_ | refine AW.skip ?_ | refine AW.ret ?_ | refine AW.exit ?_) <;> simp only [RS, LS, SY, ne_eq, isFl, floatV, constA, thenQ, blockQ, pack, intA, boolA, eqA, unA, nilcA, asI, asB, asS, loadA, idxA, lenA, slcA, AV.flat, AV.one, zA1, storeA, toD, srcOf, copyA, ↓reduceIte, reduceCtorEq, List.replicate, Nat.reduceBEq, Nat.reduceAdd, Nat.reduceMul, Nat.reduceSub, Nat.reduceLeDiff, Nat.reduceLT, Int.reduceToNat, Nat.reduceEqDiff, Int.reduceEq, h0, hvi, hsl, hsv]) | refine AW.condT rfl ?_ | refine AW.condF rfl ?_ | refine And.intro (by omega) ?_ | fail)
          exact ⟨_, rfl, .inr (by rw [hfin])⟩
        · rw [oR_t, qB_t]
          repeat' (first | refine AW.seq' ?_ | with_reducible refine AW.blockS rfl ?_ | ((first | refine AW.ops ?_ | refine AW.draw ?_ | refine AW.skip ?_ | refine AW.ret ?_ | refine AW.exit ?_) <;> simp only [RS, LS, SY, ne_eq, isFl, floatV, constA, thenQ, blockQ, pack, intA, boolA, eqA, unA, nilcA, asI, asB, asS, loadA, idxA, lenA, slcA, AV.flat, AV.one, zA1, storeA, toD, srcOf, copyA, ↓reduceIte, reduceCtorEq, List.replicate, Nat.reduceBEq, Nat.reduceAdd, Nat.reduceMul, Nat.reduceSub, Nat.reduceLeDiff, Nat.reduceLT, Int.reduceToNat, Nat.reduceEqDiff, Int.reduceEq, h0, hvi, hsl, hsv]) | refine AW.condT rfl ?_ | refine AW.condF rfl ?_ | refine And.intro (by omega) ?_ | fail)
          refine ⟨_, rfl, .inl (.inr ⟨1, [], by rw [hfin], by rw [List.append_nil, hfin]; rfl⟩)⟩
      | succ r =>
        have h0 : (0 : Int) < ((r + 1 : Nat) : Int) := by omega
        obtain ⟨hD1, hlk⟩ := nxtP_ok hD
        have hl2 : (l ++ [nxtP ls t r at_]) ++ (chnP ls t r (nxtP ls t r at_)).drop 1 = chnP ls t n p := by
          rw [← hl']
          have : (chnP ls t (r + 1) at_).drop 1 = nxtP ls t r at_ :: (chnP ls t r (nxtP ls t r at_)).drop 1 := by
            cases r <;> rfl
          rw [this]; simp
        have e1 : rowsA (pts (l ++ [nxtP ls t r at_])) = rowsA (pts l) ++ [[AI .i64 (nxtP ls t r at_).1, AI .i64 (nxtP ls t r at_).2]] := by simp only [rowsA, List.map_append]; rfl
        cases b
        · rw [oR_f, qB_f]
          repeat' (first | refine AW.seq' ?_ | with_reducible refine AW.blockS rfl ?_ | ((first | refine AW.ops ?_ | refine AW.draw ?_ | refine AW.skip ?_ | refine AW.ret ?_ | refine AW.exit ?_) <;> simp only [RS, LS, SY, ne_eq, isFl, floatV, constA, thenQ, blockQ, pack, intA, boolA, eqA, unA, nilcA, asI, asB, asS, loadA, idxA, lenA, slcA, AV.flat, AV.one, zA1, storeA, toD, srcOf, copyA, ↓reduceIte, reduceCtorEq, List.replicate, Nat.reduceBEq, Nat.reduceAdd, Nat.reduceMul, Nat.reduceSub, Nat.reduceLeDiff, Nat.reduceLT, Int.reduceToNat, Nat.reduceEqDiff, Int.reduceEq, h0, hvi, hsl, hsv]) | refine AW.condT rfl ?_ | refine AW.condF rfl ?_ | refine And.intro (by omega) ?_ | fail)
          refine rchain_in (b := false) (l := l) hc hvl hat hD (by omega) (rl := [0, 1]) ⟨rfl, by decide, rfl, by simp [NT, belA, belL, tget, renA, renL, nmL, oR_f], ⟨⟨rfl, rfl⟩, trivial⟩⟩ fun T s rl u' hu' hu'e hN => ?_
          refine AW.nrm rl hN ?_
          have hpu := getD_map_lt (f := ptR) (d := []) hu'
          rw [hu'e] at hpu
          have hui' : (u' : Int) < ps.length := by omega
          generalize nxtP ls t r at_ = at2 at *
          repeat' (first | refine AW.seq' ?_ | with_reducible refine AW.blockS rfl ?_ | ((first | refine AW.ops ?_ | refine AW.draw ?_ | refine AW.skip ?_ | refine AW.ret ?_ | refine AW.exit ?_) <;> simp (disch := omega) only [RS, LS, SY, ne_eq, isFl, floatV, constA, thenQ, blockQ, pack, intA, boolA, eqA, unA, nilcA, asI, asB, asS, loadA, idxA, lenA, slcA, AV.flat, AV.one, zA1, storeA, toD, srcOf, copyA, ↓reduceIte, reduceCtorEq, List.replicate, Nat.reduceBEq, Nat.reduceAdd, Nat.reduceMul, Nat.reduceSub, Nat.reduceLeDiff, Nat.reduceLT, Int.reduceToNat, Nat.reduceEqDiff, Int.reduceEq, wrap_id, oR_f, qB_f, hpu, hui']) | refine AW.condT rfl ?_ | refine AW.condF rfl ?_ | refine And.intro (by omega) ?_ | fail)
          exact ⟨(r, u', true, l ++ [at2]), [0, 2], ⟨by simp only; omega, hu', by simp only [hu'e]; exact hD1, by simp only [hu'e]; exact hl2⟩, by simp only; omega, rfl, by decide, rfl, by simp [NT, belA, belL, tget, renA, renL, nmL, oR_t], ⟨⟨rfl, rfl⟩, ⟨⟨belB_rowsA _ _ _ (pts (l ++ [at2])), by rw [renB_rowsA, e1]; rfl⟩, trivial⟩⟩⟩
        · rw [oR_t, qB_t]
          repeat' (first | refine AW.seq' ?_ | with_reducible refine AW.blockS rfl ?_ | ((first | refine AW.ops ?_ | refine AW.draw ?_ | refine AW.skip ?_ | refine AW.ret ?_ | refine AW.exit ?_) <;> simp only [RS, LS, SY, ne_eq, isFl, floatV, constA, thenQ, blockQ, pack, intA, boolA, eqA, unA, nilcA, asI, asB, asS, loadA, idxA, lenA, slcA, AV.flat, AV.one, zA1, storeA, toD, srcOf, copyA, ↓reduceIte, reduceCtorEq, List.replicate, Nat.reduceBEq, Nat.reduceAdd, Nat.reduceMul, Nat.reduceSub, Nat.reduceLeDiff, Nat.reduceLT, Int.reduceToNat, Nat.reduceEqDiff, Int.reduceEq, h0, hvi, hsl, hsv]) | refine AW.condT rfl ?_ | refine AW.condF rfl ?_ | refine And.intro (by omega) ?_ | fail)
          refine rchain_in (b := true) (l := l) hc hvl hat hD (by omega) (rl := [0, 1]) ⟨rfl, by decide, rfl, by simp [NT, belA, belL, tget, renA, renL, nmL, oR_t], ⟨⟨rfl, rfl⟩, ⟨⟨belB_rowsA _ _ _ (pts l), by rw [renB_rowsA]; rfl⟩, trivial⟩⟩⟩ fun T s rl u' hu' hu'e hN => ?_
          refine AW.nrm rl hN ?_
          have hpu := getD_map_lt (f := ptR) (d := []) hu'
          rw [hu'e] at hpu
          have hui' : (u' : Int) < ps.length := by omega
          generalize nxtP ls t r at_ = at2 at *
          have htk : List.take l.length (pts l) = pts l := List.take_of_length_le (by simp)
          repeat' (first | refine AW.seq' ?_ | with_reducible refine AW.blockS rfl ?_ | ((first | refine AW.ops ?_ | refine AW.draw ?_ | refine AW.skip ?_ | refine AW.ret ?_ | refine AW.exit ?_) <;> simp (disch := omega) only [RS, LS, SY, ne_eq, isFl, floatV, constA, thenQ, blockQ, pack, intA, boolA, eqA, unA, nilcA, asI, asB, asS, loadA, idxA, lenA, slcA, AV.flat, AV.one, zA1, storeA, toD, srcOf, copyA, ↓reduceIte, reduceCtorEq, List.replicate, Nat.reduceBEq, Nat.reduceAdd, Nat.reduceMul, Nat.reduceSub, Nat.reduceLeDiff, Nat.reduceLT, Int.reduceToNat, Nat.reduceEqDiff, Int.reduceEq, wrap_id, oR_t, qB_t, hpu, hui', htk]) | refine AW.condT rfl ?_ | refine AW.condF rfl ?_ | refine And.intro (by omega) ?_ | fail)
          exact ⟨(r, u', true, l ++ [at2]), [0, 2], ⟨by simp only; omega, hu', by simp only [hu'e]; exact hD1, by simp only [hu'e]; exact hl2⟩, by simp only; omega, rfl, by decide, rfl, by simp [NT, belA, belL, tget, renA, renL, nmL, oR_t], ⟨⟨rfl, rfl⟩, ⟨⟨belB_rowsA _ _ _ (pts (l ++ [at2])), by rw [renB_rowsA, e1]; rfl⟩, trivial⟩⟩⟩
  · have e : chaP ps ls gs p t = ([], false) := by rw [chaP, if_neg hV]
    rw [e]
    by_cases hc : checkP ps ls gs = 0
    · by_cases hpp : p ∈ ps
      · have hp1 : hasP ps p = true := decide_eq_true hpp
        have hp2 : hasP ps t = false := decide_eq_false fun h => hV ⟨hc, hpp, h⟩
        repeat' (first | refine AW.seq' ?_ | with_reducible refine AW.blockS rfl ?_ | ((first | refine AW.ops ?_ | refine AW.draw ?_ | refine AW.skip ?_ | refine AW.ret ?_ | refine AW.exit ?_ | refine Fn.call (hck) rfl rfl ?_ | refine Fn.call (rhas_ok ps (by omega) _) rfl rfl ?_) <;> simp only [RS, LS, SY, ne_eq, isFl, floatV, constA, thenQ, blockQ, pack, intA, boolA, eqA, unA, nilcA, asI, asB, asS, loadA, idxA, lenA, slcA, AV.flat, AV.one, zA1, storeA, toD, srcOf, copyA, ↓reduceIte, reduceCtorEq, List.replicate, Nat.reduceBEq, Nat.reduceAdd, Nat.reduceMul, Nat.reduceSub, Nat.reduceLeDiff, Nat.reduceLT, Int.reduceToNat, Nat.reduceEqDiff, Int.reduceEq, hc, hp1, hp2]) | refine AW.condT rfl ?_ | refine AW.condF rfl ?_ | refine And.intro (by omega) ?_ | fail)
        exact ⟨_, rfl, .inl (.inl ⟨rfl, _, rfl⟩)⟩
      · have hp1 : hasP ps p = false := decide_eq_false hpp
        repeat' (first | refine AW.seq' ?_ | with_reducible refine AW.blockS rfl ?_ | ((first | refine AW.ops ?_ | refine AW.draw ?_ | refine AW.skip ?_ | refine AW.ret ?_ | refine AW.exit ?_ | refine Fn.call (hck) rfl rfl ?_ | refine Fn.call (rhas_ok ps (by omega) _) rfl rfl ?_) <;> simp only [RS, LS, SY, ne_eq, isFl, floatV, constA, thenQ, blockQ, pack, intA, boolA, eqA, unA, nilcA, asI, asB, asS, loadA, idxA, lenA, slcA, AV.flat, AV.one, zA1, storeA, toD, srcOf, copyA, ↓reduceIte, reduceCtorEq, List.replicate, Nat.reduceBEq, Nat.reduceAdd, Nat.reduceMul, Nat.reduceSub, Nat.reduceLeDiff, Nat.reduceLT, Int.reduceToNat, Nat.reduceEqDiff, Int.reduceEq, hc, hp1]) | refine AW.condT rfl ?_ | refine AW.condF rfl ?_ | refine And.intro (by omega) ?_ | fail)
        exact ⟨_, rfl, .inl (.inl ⟨rfl, _, rfl⟩)⟩
    · repeat' (first | refine AW.seq' ?_ | with_reducible refine AW.blockS rfl ?_ | ((first | refine AW.ops ?_ | refine AW.draw ?_ | refine AW.skip ?_ | refine AW.ret ?_ | refine AW.exit ?_ | refine Fn.call (hck) rfl rfl ?_) <;> simp only [RS, LS, SY, ne_eq, isFl, floatV, constA, thenQ, blockQ, pack, intA, boolA, eqA, unA, nilcA, asI, asB, asS, loadA, idxA, lenA, slcA, AV.flat, AV.one, zA1, storeA, toD, srcOf, copyA, ↓reduceIte, reduceCtorEq, List.replicate, Nat.reduceBEq, Nat.reduceAdd, Nat.reduceMul, Nat.reduceSub, Nat.reduceLeDiff, Nat.reduceLT, Int.reduceToNat, Nat.reduceEqDiff, Int.reduceEq, hc]) | refine AW.condT rfl ?_ | refine AW.condF rfl ?_ | refine And.intro (by omega) ?_ | fail)
      exact ⟨_, rfl, .inl (.inl ⟨rfl, _, rfl⟩)⟩
theorem rchain_ok (ps : List Pt) (ls : List Ln) (gs : List Gr) (hp : ps.length ≤ 1000000) (hl : ls.length ≤ 1000000) (hg : gs.length ≤ 1000000) (hgl : ∀ g ∈ gs, g.2.length ≤ 1000000) (p t : Pt) : Fn Try.prog 31 [ADs ps ls (grs gs), APt p, APt t] (.tup [LP (chaP ps ls gs p t).1, AB (chaP ps ls gs p t).2]) :=
  IsO2.fn (rchain0_ok ps ls gs hp hl hg hgl p t)
end Go.Proofs.Ytkgeadhnagnloaa.H
