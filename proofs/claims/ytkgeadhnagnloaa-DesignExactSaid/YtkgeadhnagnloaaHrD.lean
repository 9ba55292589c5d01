/- Chapter 26: common causes in the reference. -/
import Derived.Test.YtkgeadhnagnloaaHdZ
import Derived.Test.YtkgeadhnagnloaaHrB
set_option linter.unusedSimpArgs false
set_option linter.unusedVariables false
namespace Go.Proofs.Ytkgeadhnagnloaa.H
set_option maxHeartbeats 4000000 in
theorem rcommon_ok (ps : List Pt) (ls : List Ln) (gs : List Gr) (hp : ps.length ≤ 1000000) (hl : ls.length ≤ 1000000) (hg : gs.length ≤ 1000000) (hgl : ∀ g ∈ gs, g.2.length ≤ 1000000) (a b : Int) : Fn Try.prog 34 [ADs ps ls (grs gs), AI .i64 a, AI .i64 b] (LP (comP ps ls gs a b)) := by
  have hck := rcheck_ok ps ls gs hp hl hg hgl
  refine IsO.fn (ACalls.of fn34 (by simp) ?_)
  unfold c34
  by_cases hV : checkP ps ls gs = 0 ∧ 0 ≤ a ∧ a < gs.length ∧ 0 ≤ b ∧ b < gs.length ∧ a ≠ b
  · obtain ⟨hc, ha0, ha1, hb0, hb1, hab⟩ := hV
    have e : comP ps ls gs a b = ps.filter (fun p => meetB (fallP ls [p]) (gs.getD a.toNat default).2 && meetB (fallP ls [p]) (gs.getD b.toNat default).2) := by rw [comP, if_pos ⟨hc, ha0, ha1, hb0, hb1, hab⟩]
    rw [e]
    obtain ⟨a, rfl⟩ := Int.eq_ofNat_of_zero_le ha0
    obtain ⟨b, rfl⟩ := Int.eq_ofNat_of_zero_le hb0
    have ha : a < gs.length := by omega
    have hb : b < gs.length := by omega
    rw [Int.toNat_natCast, Int.toNat_natCast, getD_gr ha, getD_gr hb]
    have c1 : ¬ (a : Int) < 0 := by omega
    have c2 : ¬ (gs.length : Int) ≤ a := by omega
    have c3 : ¬ (b : Int) < 0 := by omega
    have c4 : ¬ (gs.length : Int) ≤ b := by omega
    have c5 : ¬ (a : Int) = b := hab
    obtain ⟨hps, hls, hgs⟩ := check_len hc
    generalize hq : (fun p => meetB (fallP ls [p]) gs[a].2 && meetB (fallP ls [p]) gs[b].2) = q
    repeat' (first | refine AW.seq' ?_ | with_reducible refine AW.blockS rfl ?_ | ((first | refine AW.ops ?_ | refine AW.draw ?_ | refine AW.skip ?_ | refine AW.ret ?_ | refine AW.exit ?_ | refine Fn.call (hck) rfl rfl ?_) <;> simp only [RS, LS, SY, ne_eq, isFl, floatV, constA, thenQ, blockQ, pack, intA, boolA, eqA, unA, nilcA, asI, asB, asS, loadA, idxA, lenA, slcA, AV.flat, AV.one, zA1, storeA, toD, srcOf, copyA, ↓reduceIte, reduceCtorEq, List.replicate, Nat.reduceBEq, Nat.reduceAdd, Nat.reduceMul, Nat.reduceSub, Nat.reduceLeDiff, Nat.reduceLT, Int.reduceToNat, Nat.reduceEqDiff, Int.reduceEq, hc, c1, c2, c3, c4, c5]) | refine AW.condT rfl ?_ | refine AW.condF rfl ?_ | refine And.intro (by omega) ?_ | fail)
    refine AW.range (α := List Pt) ps.length (by omega) (by decide) (fun _ l => [(42, LP ps), (3, .ptr 0 0 0), (1, AI .i64 a), (2, AI .i64 b), (8, gV 1 l)]) (fun _ l => [BX ps ls gs, gB l]) (fun i l => l = (ps.take i).filter q) [] (by simp) [0, 1] ⟨rfl, by decide, rfl, by simp [NT, belA, belL, tget, renA, renL, nmL, gV], ⟨⟨rfl, rfl⟩, trivial⟩⟩ (by simp) ?_ ?_
    · intro i out hi hJ
      unfold c34_0
      have hF := rfalls_ok ps ls gs hp hl hg hgl [ps[i]] (by simp)
      rw [fallsP, if_pos hc] at hF
      have hfl := fallP_len ls [ps[i]]
      rw [List.length_singleton] at hfl
      have hac : (a : Int) < gs.length := by omega
      have hbc : (b : Int) < gs.length := by omega
      have hga := getD_grs ha
      have hgb := getD_grs hb
      have hma := rmeets_ok (fallP ls [ps[i]]) gs[a].2 (by omega) (hgl _ (List.getElem_mem ha))
      have hmb := rmeets_ok (fallP ls [ps[i]]) gs[b].2 (by omega) (hgl _ (List.getElem_mem hb))
      have hst : (ps.take (i + 1)).filter q = if q ps[i] then out ++ [ps[i]] else out := by
        rw [List.take_succ_eq_append_getElem hi, List.filter_append, ← hJ]
        by_cases hqp : q ps[i] = true <;> simp [hqp]
      have hqi : q ps[i] = (meetB (fallP ls [ps[i]]) gs[a].2 && meetB (fallP ls [ps[i]]) gs[b].2) := by rw [← hq]
      cases out with
      | nil =>
        rw [gV_nil, gB_nil]
        repeat' (first | refine AW.seq' ?_ | with_reducible refine AW.blockS rfl ?_ | ((first | refine AW.ops ?_ | refine AW.draw ?_ | refine AW.skip ?_ | refine AW.ret ?_ | refine AW.exit ?_ |  refine Fn.callW hF (.cons (.same _) (.cons (.ful _ _) .nil)) rfl rfl ?_ | refine Fn.call (hma) rfl rfl ?_ | refine Fn.call (hmb) rfl rfl ?_) <;> simp only [RS, LS, SY, ne_eq, isFl, floatV, constA, thenQ, blockQ, pack, intA, boolA, eqA, unA, nilcA, asI, asB, asS, loadA, idxA, lenA, slcA, AV.flat, AV.one, zA1, storeA, toD, srcOf, copyA, ↓reduceIte, reduceCtorEq, List.replicate, Nat.reduceBEq, Nat.reduceAdd, Nat.reduceMul, Nat.reduceSub, Nat.reduceLeDiff, Nat.reduceLT, Int.reduceToNat, Nat.reduceEqDiff, Int.reduceEq, getD_map_lt hi, hac, hbc, hga, hgb]) | refine AW.condT rfl ?_ | refine AW.condF rfl ?_ | ((first | refine GI.of (fun h => ?_) (fun h => ?_) (by first | exact Classical.em _ | exact (Classical.em _).symm | grind) | refine GD.of (fun h => ?_) (fun h => ?_) (by first | exact Classical.em _ | exact (Classical.em _).symm | grind)) <;> simp only [RS, LS, SY, ne_eq, isFl, floatV, constA, thenQ, blockQ, pack, intA, boolA, eqA, unA, nilcA, asI, asB, asS, loadA, idxA, lenA, slcA, AV.flat, AV.one, zA1, storeA, toD, srcOf, copyA, ↓reduceIte, reduceCtorEq, List.replicate, Nat.reduceBEq, Nat.reduceAdd, Nat.reduceMul, Nat.reduceSub, Nat.reduceLeDiff, Nat.reduceLT, Int.reduceToNat, Nat.reduceEqDiff, Int.reduceEq, getD_map_lt hi, hac, hbc, hga, hgb, h]) | (refine AW.condP rfl (fun h => ?_) (fun h => ?_) <;> try simp only [Bool.and_eq_true, decide_eq_true_eq, Bool.not_eq_true', decide_eq_false_iff_not, Bool.not_eq_false', Bool.not_eq_true, Bool.not_eq_false] at h) | refine And.intro (by omega) ?_ | fail)
        all_goals first
          | exact ⟨[ps[i]], [0, 3], by rw [hst, hqi]; grind, rfl, by decide, rfl, by simp [NT, belA, belL, tget, renA, renL, nmL, gV_cons], ⟨⟨rfl, rfl⟩, ⟨⟨rfl, rfl⟩, trivial⟩⟩⟩
          | exact ⟨[], [0, 1], by rw [hst, hqi]; grind, rfl, by decide, rfl, by simp [NT, belA, belL, tget, renA, renL, nmL, gV_nil], ⟨⟨rfl, rfl⟩, trivial⟩⟩
      | cons x out =>
        rw [gV_cons, gB_cons]
        have htk : List.take out.length (List.map ptR out) = List.map ptR out := List.take_of_length_le (by simp)
        have hol : out.length + 1 ≤ 40 := by
          have := congrArg List.length hJ
          rw [List.length_cons] at this
          have h2 := List.length_filter_le q (ps.take i)
          rw [List.length_take] at h2
          omega
        have e : rowsA (pts (x :: (out ++ [ps[i]]))) = [AV.d (dI x.fst), AV.d (dI x.snd)] :: (rowsA (List.map ptR out) ++ [[AV.d (dI ps[i].fst), AV.d (dI ps[i].snd)]]) := by simp [rowsA]
        repeat' (first | refine AW.seq' ?_ | with_reducible refine AW.blockS rfl ?_ | ((first | refine AW.ops ?_ | refine AW.draw ?_ | refine AW.skip ?_ | refine AW.ret ?_ | refine AW.exit ?_ |  refine Fn.callW hF (.cons (.same _) (.cons (.ful _ _) .nil)) rfl rfl ?_ | refine Fn.call (hma) rfl rfl ?_ | refine Fn.call (hmb) rfl rfl ?_) <;> simp only [RS, LS, SY, ne_eq, isFl, floatV, constA, thenQ, blockQ, pack, intA, boolA, eqA, unA, nilcA, asI, asB, asS, loadA, idxA, lenA, slcA, AV.flat, AV.one, zA1, storeA, toD, srcOf, copyA, ↓reduceIte, reduceCtorEq, List.replicate, Nat.reduceBEq, Nat.reduceAdd, Nat.reduceMul, Nat.reduceSub, Nat.reduceLeDiff, Nat.reduceLT, Int.reduceToNat, Nat.reduceEqDiff, Int.reduceEq, getD_map_lt hi, hac, hbc, hga, hgb, htk]) | refine AW.condT rfl ?_ | refine AW.condF rfl ?_ | ((first | refine GI.of (fun h => ?_) (fun h => ?_) (by first | exact Classical.em _ | exact (Classical.em _).symm | grind) | refine GD.of (fun h => ?_) (fun h => ?_) (by first | exact Classical.em _ | exact (Classical.em _).symm | grind)) <;> simp only [RS, LS, SY, ne_eq, isFl, floatV, constA, thenQ, blockQ, pack, intA, boolA, eqA, unA, nilcA, asI, asB, asS, loadA, idxA, lenA, slcA, AV.flat, AV.one, zA1, storeA, toD, srcOf, copyA, ↓reduceIte, reduceCtorEq, List.replicate, Nat.reduceBEq, Nat.reduceAdd, Nat.reduceMul, Nat.reduceSub, Nat.reduceLeDiff, Nat.reduceLT, Int.reduceToNat, Nat.reduceEqDiff, Int.reduceEq, getD_map_lt hi, hac, hbc, hga, hgb, htk, h]) | (refine AW.condP rfl (fun h => ?_) (fun h => ?_) <;> try simp only [Bool.and_eq_true, decide_eq_true_eq, Bool.not_eq_true', decide_eq_false_iff_not, Bool.not_eq_false', Bool.not_eq_true, Bool.not_eq_false] at h) | refine And.intro (by omega) ?_ | fail)
        all_goals first
          | exact ⟨x :: (out ++ [ps[i]]), [0, 3], by rw [hst, hqi]; grind, rfl, by decide, rfl, by simp [NT, belA, belL, tget, renA, renL, nmL, gV_cons], ⟨⟨rfl, rfl⟩, ⟨⟨belB_rowsA _ _ _ (pts (x :: (out ++ [ps[i]]))), by rw [renB_rowsA, e]; rfl⟩, trivial⟩⟩⟩
          | exact ⟨x :: out, [0, 1], by rw [hst, hqi]; grind, rfl, by decide, rfl, by simp [NT, belA, belL, tget, renA, renL, nmL, gV_cons], ⟨⟨rfl, rfl⟩, ⟨⟨belB_rowsA _ _ _ (pts (x :: out)), by rw [renB_rowsA]; rfl⟩, trivial⟩⟩⟩
    · intro out hJ
      rw [List.take_length] at hJ
      rw [← hJ]
      cases out with
      | nil =>
        simp only [gV_nil, gB_nil, RS, LS, SY, ne_eq, isFl, floatV, constA, thenQ, blockQ, pack, intA, boolA, eqA, unA, nilcA, asI, asB, asS, loadA, idxA, lenA, slcA, AV.flat, AV.one, zA1, storeA, toD, srcOf, copyA, ↓reduceIte, reduceCtorEq, List.replicate, Nat.reduceBEq, Nat.reduceAdd, Nat.reduceMul, Nat.reduceSub, Nat.reduceLeDiff, Nat.reduceLT, Int.reduceToNat, Nat.reduceEqDiff, Int.reduceEq]
        repeat' (first | refine AW.seq' ?_ | with_reducible refine AW.blockS rfl ?_ | ((first | refine AW.ops ?_ | refine AW.draw ?_ | refine AW.skip ?_ | refine AW.ret ?_ | refine AW.exit ?_) <;> simp only [RS, LS, SY, ne_eq, isFl, floatV, constA, thenQ, blockQ, pack, intA, boolA, eqA, unA, nilcA, asI, asB, asS, loadA, idxA, lenA, slcA, AV.flat, AV.one, zA1, storeA, toD, srcOf, copyA, ↓reduceIte, reduceCtorEq, List.replicate, Nat.reduceBEq, Nat.reduceAdd, Nat.reduceMul, Nat.reduceSub, Nat.reduceLeDiff, Nat.reduceLT, Int.reduceToNat, Nat.reduceEqDiff, Int.reduceEq]) | refine AW.condT rfl ?_ | refine AW.condF rfl ?_ | refine And.intro (by omega) ?_ | fail)
        exact .inl ⟨rfl, _, rfl⟩
      | cons x out =>
        simp only [gV_cons, gB_cons, RS, LS, SY, ne_eq, isFl, floatV, constA, thenQ, blockQ, pack, intA, boolA, eqA, unA, nilcA, asI, asB, asS, loadA, idxA, lenA, slcA, AV.flat, AV.one, zA1, storeA, toD, srcOf, copyA, ↓reduceIte, reduceCtorEq, List.replicate, Nat.reduceBEq, Nat.reduceAdd, Nat.reduceMul, Nat.reduceSub, Nat.reduceLeDiff, Nat.reduceLT, Int.reduceToNat, Nat.reduceEqDiff, Int.reduceEq]
        repeat' (first | refine AW.seq' ?_ | with_reducible refine AW.blockS rfl ?_ | ((first | refine AW.ops ?_ | refine AW.draw ?_ | refine AW.skip ?_ | refine AW.ret ?_ | refine AW.exit ?_) <;> simp only [RS, LS, SY, ne_eq, isFl, floatV, constA, thenQ, blockQ, pack, intA, boolA, eqA, unA, nilcA, asI, asB, asS, loadA, idxA, lenA, slcA, AV.flat, AV.one, zA1, storeA, toD, srcOf, copyA, ↓reduceIte, reduceCtorEq, List.replicate, Nat.reduceBEq, Nat.reduceAdd, Nat.reduceMul, Nat.reduceSub, Nat.reduceLeDiff, Nat.reduceLT, Int.reduceToNat, Nat.reduceEqDiff, Int.reduceEq]) | refine AW.condT rfl ?_ | refine AW.condF rfl ?_ | refine And.intro (by omega) ?_ | fail)
        refine .inr ⟨1, [], rfl, ?_⟩
        rw [List.append_nil]; rfl
  · have e : comP ps ls gs a b = [] := by rw [comP, if_neg hV]
    rw [e]
    repeat' (first | refine AW.seq' ?_ | with_reducible refine AW.blockS rfl ?_ | ((first | refine AW.ops ?_ | refine AW.draw ?_ | refine AW.skip ?_ | refine AW.ret ?_ | refine AW.exit ?_ | refine Fn.call (hck) rfl rfl ?_) <;> simp only [RS, LS, SY, ne_eq, isFl, floatV, constA, thenQ, blockQ, pack, intA, boolA, eqA, unA, nilcA, asI, asB, asS, loadA, idxA, lenA, slcA, AV.flat, AV.one, zA1, storeA, toD, srcOf, copyA, ↓reduceIte, reduceCtorEq, List.replicate, Nat.reduceBEq, Nat.reduceAdd, Nat.reduceMul, Nat.reduceSub, Nat.reduceLeDiff, Nat.reduceLT, Int.reduceToNat, Nat.reduceEqDiff, Int.reduceEq]) | refine AW.condT rfl ?_ | refine AW.condF rfl ?_ | ((first | refine GI.of (fun h => ?_) (fun h => ?_) (by first | exact Classical.em _ | exact (Classical.em _).symm | grind) | refine GD.of (fun h => ?_) (fun h => ?_) (by first | exact Classical.em _ | exact (Classical.em _).symm | grind)) <;> simp only [RS, LS, SY, ne_eq, isFl, floatV, constA, thenQ, blockQ, pack, intA, boolA, eqA, unA, nilcA, asI, asB, asS, loadA, idxA, lenA, slcA, AV.flat, AV.one, zA1, storeA, toD, srcOf, copyA, ↓reduceIte, reduceCtorEq, List.replicate, Nat.reduceBEq, Nat.reduceAdd, Nat.reduceMul, Nat.reduceSub, Nat.reduceLeDiff, Nat.reduceLT, Int.reduceToNat, Nat.reduceEqDiff, Int.reduceEq, h]) | (refine AW.condP rfl (fun h => ?_) (fun h => ?_) <;> try simp only [Bool.and_eq_true, decide_eq_true_eq, Bool.not_eq_true', decide_eq_false_iff_not, Bool.not_eq_false', Bool.not_eq_true, Bool.not_eq_false] at h) | refine And.intro (by omega) ?_ | fail)
    all_goals first
      | exact .inl ⟨rfl, _, rfl⟩
      | (exfalso; omega)
      | (exfalso; grind)
set_option maxHeartbeats 2000000 in
theorem rindep_ok (ps : List Pt) (ls : List Ln) (gs : List Gr) (hp : ps.length ≤ 1000000) (hl : ls.length ≤ 1000000) (hg : gs.length ≤ 1000000) (hgl : ∀ g ∈ gs, g.2.length ≤ 1000000) : Fn Try.prog 24 [ADs ps ls (grs gs)] (AB (indP ps ls gs)) := by
  have hck := rcheck_ok ps ls gs hp hl hg hgl
  refine Fn.of fn24 (by simp) rfl ?_
  unfold c24
  by_cases hc : checkP ps ls gs = 0
  · repeat' (first | refine AW.seq' ?_ | with_reducible refine AW.blockS rfl ?_ | ((first | refine AW.ops ?_ | refine AW.draw ?_ | refine AW.skip ?_ | refine AW.ret ?_ | refine AW.exit ?_ | refine Fn.call (hck) rfl rfl ?_) <;> simp only [RS, LS, SY, ne_eq, isFl, floatV, constA, thenQ, blockQ, pack, intA, boolA, eqA, unA, nilcA, asI, asB, asS, loadA, idxA, lenA, slcA, AV.flat, AV.one, zA1, storeA, toD, srcOf, copyA, ↓reduceIte, reduceCtorEq, List.replicate, Nat.reduceBEq, Nat.reduceAdd, Nat.reduceMul, Nat.reduceSub, Nat.reduceLeDiff, Nat.reduceLT, Int.reduceToNat, Nat.reduceEqDiff, Int.reduceEq, hc]) | refine AW.condT rfl ?_ | refine AW.condF rfl ?_ | refine And.intro (by omega) ?_ | fail)
    refine AW.range (α := Unit) gs.length (by omega) (by decide) (fun _ _ => [(1, .ptr 0 0 0)]) (fun _ _ => [BX ps ls gs]) (fun i _ => ∀ a b : Nat, a < i → b < a → (comP ps ls gs a b).length = 0) () (fun a b h => by omega) [0] ⟨rfl, by decide, rfl, by simp [NT, belA, belL, tget, renA, renL, nmL], ⟨⟨rfl, rfl⟩, trivial⟩⟩ (by simp) ?_ ?_
    · intro i _ hi hJ
      unfold c24_1
      repeat' (first | refine AW.seq' ?_ | with_reducible refine AW.blockS rfl ?_ | ((first | refine AW.ops ?_ | refine AW.draw ?_ | refine AW.skip ?_ | refine AW.ret ?_ | refine AW.exit ?_) <;> simp only [RS, LS, SY, ne_eq, isFl, floatV, constA, thenQ, blockQ, pack, intA, boolA, eqA, unA, nilcA, asI, asB, asS, loadA, idxA, lenA, slcA, AV.flat, AV.one, zA1, storeA, toD, srcOf, copyA, ↓reduceIte, reduceCtorEq, List.replicate, Nat.reduceBEq, Nat.reduceAdd, Nat.reduceMul, Nat.reduceSub, Nat.reduceLeDiff, Nat.reduceLT, Int.reduceToNat, Nat.reduceEqDiff, Int.reduceEq]) | refine AW.condT rfl ?_ | refine AW.condF rfl ?_ | refine And.intro (by omega) ?_ | fail)
      refine AW.block ?_
      refine AW.loopA (α := Nat) (fun k => i + 1 - k) (fun k => [(4, AI .i64 k), (1, .ptr 0 0 0), (11, AI .i64 i), (10, AI .i64 gs.length), (3, AI .i64 i)]) (fun _ => [BX ps ls gs]) (fun k => k ≤ i ∧ ∀ b : Nat, b < k → (comP ps ls gs i b).length = 0) 0 ⟨Nat.zero_le _, fun b h => by omega⟩ [0] ⟨rfl, by decide, rfl, by simp [NT, belA, belL, tget, renA, renL, nmL], ⟨⟨rfl, rfl⟩, trivial⟩⟩ ?_
      intro k ⟨hki, hK⟩
      unfold c24_0
      by_cases hk : k < i
      · have hkc : (k : Int) < i := by omega
        have hC := rcommon_ok ps ls gs hp hl hg hgl i k
        have hCl : (pts (comP ps ls gs i k)).length = (comP ps ls gs i k).length := List.length_map ..
        repeat' (first | refine AW.seq' ?_ | with_reducible refine AW.blockS rfl ?_ | ((first | refine AW.ops ?_ | refine AW.draw ?_ | refine AW.skip ?_ | refine AW.ret ?_ | refine AW.exit ?_ | refine Fn.call (hC) rfl rfl ?_) <;> simp (disch := omega) only [RS, LS, SY, ne_eq, isFl, floatV, constA, thenQ, blockQ, pack, intA, boolA, eqA, unA, nilcA, asI, asB, asS, loadA, idxA, lenA, slcA, AV.flat, AV.one, zA1, storeA, toD, srcOf, copyA, ↓reduceIte, reduceCtorEq, List.replicate, Nat.reduceBEq, Nat.reduceAdd, Nat.reduceMul, Nat.reduceSub, Nat.reduceLeDiff, Nat.reduceLT, Int.reduceToNat, Nat.reduceEqDiff, Int.reduceEq, wrap_id, hCl, hkc]) | refine AW.condT rfl ?_ | refine AW.condF rfl ?_ | (refine AW.condP rfl (fun h => ?_) (fun h => ?_) <;> try simp only [Bool.and_eq_true, decide_eq_true_eq, Bool.not_eq_true', decide_eq_false_iff_not, Bool.not_eq_false', Bool.not_eq_true, Bool.not_eq_false] at h) | refine And.intro (by omega) ?_ | fail)
        · rw [show indP ps ls gs = false from indP_f fun H => by have := H.2 i k hi hk; omega]
        · exact ⟨k + 1, [0], ⟨hk, fun b hb => by
            by_cases e : b = k
            · subst e; omega
            · exact hK b (by omega)⟩, by omega, rfl, by decide, rfl, by simp [NT, belA, belL, tget, renA, renL, nmL], ⟨⟨rfl, rfl⟩, trivial⟩⟩
      · have hkc : ¬ (k : Int) < i := by omega
        have hke : k = i := by omega
        subst hke
        repeat' (first | refine AW.seq' ?_ | with_reducible refine AW.blockS rfl ?_ | ((first | refine AW.ops ?_ | refine AW.draw ?_ | refine AW.skip ?_ | refine AW.ret ?_ | refine AW.exit ?_) <;> simp only [RS, LS, SY, ne_eq, isFl, floatV, constA, thenQ, blockQ, pack, intA, boolA, eqA, unA, nilcA, asI, asB, asS, loadA, idxA, lenA, slcA, AV.flat, AV.one, zA1, storeA, toD, srcOf, copyA, ↓reduceIte, reduceCtorEq, List.replicate, Nat.reduceBEq, Nat.reduceAdd, Nat.reduceMul, Nat.reduceSub, Nat.reduceLeDiff, Nat.reduceLT, Int.reduceToNat, Nat.reduceEqDiff, Int.reduceEq, hkc]) | refine AW.condT rfl ?_ | refine AW.condF rfl ?_ | refine And.intro (by omega) ?_ | fail)
        exact ⟨(), [0], fun a b ha hb => by
            by_cases e : a = k
            · subst e; exact hK b hb
            · exact hJ a b (by omega) hb, rfl, by decide, rfl, by simp [NT, belA, belL, tget, tset, renA, renL, nmL], ⟨⟨rfl, rfl⟩, trivial⟩⟩
    · intro _ hJ
      simp only [RS, LS, SY, ne_eq, isFl, floatV, constA, thenQ, blockQ, pack, intA, boolA, eqA, unA, nilcA, asI, asB, asS, loadA, idxA, lenA, slcA, AV.flat, AV.one, zA1, storeA, toD, srcOf, copyA, ↓reduceIte, reduceCtorEq, List.replicate, Nat.reduceBEq, Nat.reduceAdd, Nat.reduceMul, Nat.reduceSub, Nat.reduceLeDiff, Nat.reduceLT, Int.reduceToNat, Nat.reduceEqDiff, Int.reduceEq]
      repeat' (first | refine AW.seq' ?_ | with_reducible refine AW.blockS rfl ?_ | ((first | refine AW.ops ?_ | refine AW.draw ?_ | refine AW.skip ?_ | refine AW.ret ?_ | refine AW.exit ?_) <;> simp only [RS, LS, SY, ne_eq, isFl, floatV, constA, thenQ, blockQ, pack, intA, boolA, eqA, unA, nilcA, asI, asB, asS, loadA, idxA, lenA, slcA, AV.flat, AV.one, zA1, storeA, toD, srcOf, copyA, ↓reduceIte, reduceCtorEq, List.replicate, Nat.reduceBEq, Nat.reduceAdd, Nat.reduceMul, Nat.reduceSub, Nat.reduceLeDiff, Nat.reduceLT, Int.reduceToNat, Nat.reduceEqDiff, Int.reduceEq]) | refine AW.condT rfl ?_ | refine AW.condF rfl ?_ | refine And.intro (by omega) ?_ | fail)
      rw [show indP ps ls gs = true from indP_t ⟨hc, fun a b ha hb => hJ a b ha hb⟩]
  · have e : indP ps ls gs = false := indP_f fun H => hc H.1
    rw [e]
    repeat' (first | refine AW.seq' ?_ | with_reducible refine AW.blockS rfl ?_ | ((first | refine AW.ops ?_ | refine AW.draw ?_ | refine AW.skip ?_ | refine AW.ret ?_ | refine AW.exit ?_ | refine Fn.call (hck) rfl rfl ?_) <;> simp only [RS, LS, SY, ne_eq, isFl, floatV, constA, thenQ, blockQ, pack, intA, boolA, eqA, unA, nilcA, asI, asB, asS, loadA, idxA, lenA, slcA, AV.flat, AV.one, zA1, storeA, toD, srcOf, copyA, ↓reduceIte, reduceCtorEq, List.replicate, Nat.reduceBEq, Nat.reduceAdd, Nat.reduceMul, Nat.reduceSub, Nat.reduceLeDiff, Nat.reduceLT, Int.reduceToNat, Nat.reduceEqDiff, Int.reduceEq, hc]) | refine AW.condT rfl ?_ | refine AW.condF rfl ?_ | refine And.intro (by omega) ?_ | fail)
end Go.Proofs.Ytkgeadhnagnloaa.H
