/- Chapter 26: the law of common causes. -/
import Derived.Test.YtkgeadhnagnloaaHgA
set_option linter.unusedSimpArgs false
set_option linter.unusedVariables false
namespace Go.Proofs.Ytkgeadhnagnloaa.H
theorem com_symm (ps : List Pt) (ls : List Ln) (gs : List Gr) (a b : Int) : comP ps ls gs a b = comP ps ls gs b a := by
  unfold comP
  by_cases h : checkP ps ls gs = 0 ∧ 0 ≤ a ∧ a < gs.length ∧ 0 ≤ b ∧ b < gs.length ∧ a ≠ b
  · rw [if_pos h, if_pos ⟨h.1, h.2.2.2.1, h.2.2.2.2.1, h.2.1, h.2.2.1, fun e => h.2.2.2.2.2 e.symm⟩]
    congr 1
    funext p
    rw [Bool.and_comm]
  · rw [if_neg h, if_neg fun h' => h ⟨h'.1, h'.2.2.2.1, h'.2.2.2.2.1, h'.2.1, h'.2.2.1, fun e => h'.2.2.2.2.2 e.symm⟩]
theorem com_same (ps : List Pt) (ls : List Ln) (gs : List Gr) (a : Int) : comP ps ls gs a a = [] := by
  unfold comP
  rw [if_neg fun h => h.2.2.2.2.2 rfl]
theorem com_len {ps : List Pt} {ls : List Ln} {gs : List Gr} {a b : Int} : (comP ps ls gs a b).length ≤ ps.length := by
  unfold comP
  split
  · exact List.length_filter_le _ _
  · simp
theorem check_group {ps : List Pt} {ls : List Ln} {gs : List Gr} (h : checkP ps ls gs = 0) {i : Nat} (hi : i < gs.length) {p : Pt} (hp : p ∈ gs[i].2) : p ∈ ps := by
  have h3 := (check_zero h).2.2
  have := (of_decide_eq_true h3) i hi
  simp only [grOk, Bool.and_eq_true] at this
  exact of_decide_eq_true (List.all_eq_true.1 this.1.2 p hp)
theorem com_share {ps : List Pt} {ls : List Ln} {gs : List Gr} (hc : checkP ps ls gs = 0) {a b : Nat} (ha : a < gs.length) (hb : b < gs.length) (hab : a ≠ b) {p : Pt} (h1 : p ∈ gs[a].2) (h2 : p ∈ gs[b].2) : hasP (comP ps ls gs a b) p = true := by
  have hf : hasP (fallP ls [p]) p = true := decide_eq_true (mem_fallP.2 (.base (by simp)))
  rw [comP, if_pos ⟨hc, by omega, by omega, by omega, by omega, by omega⟩, Int.toNat_natCast, Int.toNat_natCast, getD_gr ha, getD_gr hb]
  refine decide_eq_true (List.mem_filter.2 ⟨check_group hc ha h1, ?_⟩)
  rw [Bool.and_eq_true]
  exact ⟨List.any_eq_true.2 ⟨p, h1, hf⟩, List.any_eq_true.2 ⟨p, h2, hf⟩⟩
/-- Whether all pairs so far are without common causes. -/
def FreeP (ps : List Pt) (ls : List Ln) (gs : List Gr) (i j : Nat) : Prop := ∀ a b : Nat, (a < i ∧ b < gs.length) ∨ (a = i ∧ b < j) → (comP ps ls gs a b).length = 0
theorem free_ind {ps : List Pt} {ls : List Ln} {gs : List Gr} (hc : checkP ps ls gs = 0) : FreeP ps ls gs gs.length 0 ↔ IndP ps ls gs := by
  constructor
  · exact fun h => ⟨hc, fun a b ha hb => h a b (.inl ⟨ha, by omega⟩)⟩
  · rintro ⟨_, h⟩ a b hab
    rcases hab with ⟨ha, hb⟩ | ⟨_, hb⟩
    · rcases Nat.lt_trichotomy a b with hlt | rfl | hlt
      · rw [com_symm]; exact h b a hb hlt
      · rw [com_same]; rfl
      · exact h a b ha hlt
    · omega
theorem free_step {ps : List Pt} {ls : List Ln} {gs : List Gr} {i j : Nat} : FreeP ps ls gs i (j + 1) ↔ FreeP ps ls gs i j ∧ (comP ps ls gs i j).length = 0 := by
  constructor
  · exact fun h => ⟨fun a b hab => h a b (hab.imp id fun ⟨h1, h2⟩ => ⟨h1, by omega⟩), h i j (.inr ⟨rfl, by omega⟩)⟩
  · rintro ⟨h, h0⟩ a b hab
    rcases hab with hab | ⟨rfl, hb⟩
    · exact h a b (.inl hab)
    · by_cases e : b = j
      · subst e; exact h0
      · exact h a b (.inr ⟨rfl, by omega⟩)
theorem free_row {ps : List Pt} {ls : List Ln} {gs : List Gr} {i : Nat} : FreeP ps ls gs (i + 1) 0 ↔ FreeP ps ls gs i gs.length := by
  constructor
  · exact fun h a b hab => h a b (hab.elim (fun ⟨h1, h2⟩ => .inl ⟨by omega, h2⟩) fun ⟨h1, h2⟩ => .inl ⟨by omega, h2⟩)
  · intro h a b hab
    rcases hab with ⟨ha, hb⟩ | ⟨_, hb⟩
    · by_cases e : a = i
      · exact h a b (.inr ⟨e, hb⟩)
      · exact h a b (.inl ⟨by omega, hb⟩)
    · omega
set_option maxRecDepth 100000 in
set_option maxHeartbeats 8000000 in
theorem law7_ok (t : List Int) : ACalls Try.prog 7 [LI t] [] fun v _ => v = AB true := by
  refine ACalls.of fn7 (by simp) ?_
  unfold c7
  have hL : (t.take 600).length ≤ 600 := by rw [List.length_take]; omega
  repeat' (first | refine AW.seq' ?_ | with_reducible refine AW.blockS rfl ?_ | ((first | refine AW.ops ?_ | refine AW.draw ?_ | refine AW.skip ?_ | refine AW.ret ?_ | refine AW.exit ?_ | refine Fn.call (sane_ok) rfl rfl ?_ |  refine new_call t ?_ |  (refine SFn.call (design_ok hL 7 (by omega)) rfl rfl (by omega) (fun v p hp hv hb => ?_); obtain ⟨ps, ls, gs, rfl, hc, h1, h2, h3, h4⟩ := hv)) <;> simp only [RS, LS, SY, ne_eq, isFl, floatV, constA, thenQ, blockQ, pack, intA, boolA, eqA, unA, nilcA, asI, asB, asS, loadA, idxA, lenA, slcA, AV.flat, AV.one, zA1, storeA, toD, srcOf, copyA, ↓reduceIte, reduceCtorEq, List.replicate, Nat.reduceBEq, Nat.reduceAdd, Nat.reduceMul, Nat.reduceSub, Nat.reduceLeDiff, Nat.reduceLT, Int.reduceToNat, Nat.reduceEqDiff, Int.reduceEq]) | refine AW.condT rfl ?_ | refine AW.condF rfl ?_ | ((first | refine GI.of (fun h => ?_) (fun h => ?_) (by first | exact Classical.em _ | exact (Classical.em _).symm | grind) | refine GD.of (fun h => ?_) (fun h => ?_) (by first | exact Classical.em _ | exact (Classical.em _).symm | grind)) <;> simp only [RS, LS, SY, ne_eq, isFl, floatV, constA, thenQ, blockQ, pack, intA, boolA, eqA, unA, nilcA, asI, asB, asS, loadA, idxA, lenA, slcA, AV.flat, AV.one, zA1, storeA, toD, srcOf, copyA, ↓reduceIte, reduceCtorEq, List.replicate, Nat.reduceBEq, Nat.reduceAdd, Nat.reduceMul, Nat.reduceSub, Nat.reduceLeDiff, Nat.reduceLT, Int.reduceToNat, Nat.reduceEqDiff, Int.reduceEq, h]) | (refine AW.condP rfl (fun h => ?_) (fun h => ?_) <;> try simp only [Bool.and_eq_true, decide_eq_true_eq, Bool.not_eq_true', decide_eq_false_iff_not, Bool.not_eq_false', Bool.not_eq_true, Bool.not_eq_false] at h) | refine And.intro (by omega) ?_ | fail)
  have hgl : ∀ g ∈ gs, g.2.length ≤ 1000000 := fun g hg => Nat.le_trans (h4 g hg) (by omega)
  have hCm := fun a b => common_ok ps ls gs (by omega) (by omega) (by omega) hgl a b
  refine AW.range (α := Bool) gs.length (by omega) (by decide) (fun _ f => [(4, .ptr 0 0 0), (5, AB f)]) (fun _ _ => [BX ps ls gs]) (fun i f => f = true ↔ FreeP ps ls gs i 0) true ⟨fun _ a b h => by omega, fun _ => rfl⟩ [1] ⟨rfl, by decide, rfl, by simp [NT, belA, belL, tget, renA, renL, nmL], ⟨⟨rfl, rfl⟩, trivial⟩⟩ (by simp) ?_ ?_
  · intro i f hi hf
    unfold c7_2
    repeat' (first | refine AW.seq' ?_ | with_reducible refine AW.blockS rfl ?_ | ((first | refine AW.ops ?_ | refine AW.draw ?_ | refine AW.skip ?_ | refine AW.ret ?_ | refine AW.exit ?_) <;> simp only [RS, LS, SY, ne_eq, isFl, floatV, constA, thenQ, blockQ, pack, intA, boolA, eqA, unA, nilcA, asI, asB, asS, loadA, idxA, lenA, slcA, AV.flat, AV.one, zA1, storeA, toD, srcOf, copyA, ↓reduceIte, reduceCtorEq, List.replicate, Nat.reduceBEq, Nat.reduceAdd, Nat.reduceMul, Nat.reduceSub, Nat.reduceLeDiff, Nat.reduceLT, Int.reduceToNat, Nat.reduceEqDiff, Int.reduceEq]) | refine AW.condT rfl ?_ | refine AW.condF rfl ?_ | ((first | refine GI.of (fun h => ?_) (fun h => ?_) (by first | exact Classical.em _ | exact (Classical.em _).symm | grind) | refine GD.of (fun h => ?_) (fun h => ?_) (by first | exact Classical.em _ | exact (Classical.em _).symm | grind)) <;> simp only [RS, LS, SY, ne_eq, isFl, floatV, constA, thenQ, blockQ, pack, intA, boolA, eqA, unA, nilcA, asI, asB, asS, loadA, idxA, lenA, slcA, AV.flat, AV.one, zA1, storeA, toD, srcOf, copyA, ↓reduceIte, reduceCtorEq, List.replicate, Nat.reduceBEq, Nat.reduceAdd, Nat.reduceMul, Nat.reduceSub, Nat.reduceLeDiff, Nat.reduceLT, Int.reduceToNat, Nat.reduceEqDiff, Int.reduceEq, h]) | (refine AW.condP rfl (fun h => ?_) (fun h => ?_) <;> try simp only [Bool.and_eq_true, decide_eq_true_eq, Bool.not_eq_true', decide_eq_false_iff_not, Bool.not_eq_false', Bool.not_eq_true, Bool.not_eq_false] at h) | refine And.intro (by omega) ?_ | fail)
    refine AW.range (α := Bool) gs.length (by omega) (by decide) (fun _ f => [(4, .ptr 0 0 0), (5, AB f), (6, AI .i64 i), (22, AI .i64 i), (21, AI .i64 gs.length)]) (fun _ _ => [BX ps ls gs]) (fun j f => f = true ↔ FreeP ps ls gs i j) f hf [0] ⟨rfl, by decide, rfl, by simp [NT, belA, belL, tget, renA, renL, nmL], ⟨⟨rfl, rfl⟩, trivial⟩⟩ (by simp) ?_ ?_
    · intro j f hj hf
      unfold c7_1
      have hC := hCm i j
      have hC2 := hCm j i
      rw [com_symm] at hC2
      have hcl := com_len (ps := ps) (ls := ls) (gs := gs) (a := i) (b := j)
      have hlm : (pts (comP ps ls gs i j)).length = (comP ps ls gs i j).length := List.length_map ..
      have hsm := rsame_ok (comP ps ls gs i j) (comP ps ls gs i j) (by omega) (by omega)
      rw [decide_eq_true rfl] at hsm
      have hcs : (i : Int) = j → ¬ (0 : Int) < (comP ps ls gs i j).length := fun e => by rw [e, com_same]; simp
      have hic : (i : Int) < gs.length := by omega
      have hjc : (j : Int) < gs.length := by omega
      have hgi := getD_grs hi
      have hgj := getD_grs hj
      have hli := hgl _ (List.getElem_mem hi)
      have hlj := hgl _ (List.getElem_mem hj)
      have hnext : (decide ((comP ps ls gs i j).length = 0) && f) = true ↔ FreeP ps ls gs i (j + 1) := by
        rw [free_step, Bool.and_eq_true, decide_eq_true_eq, hf]; exact And.comm
      have hin : ∀ {T : Tm} {s : St} {Q : Fl → Tm → St → Prop} {f' : Bool}, NT 1 (nmL [0]) T [(65, AI .i64 0), (64, AI .i64 gs[i].2.length), (63, LP gs[i].2), (6, AI .i64 i), (7, AI .i64 j), (8, LP (comP ps ls gs i j)), (4, .ptr 0 0 0), (5, AB f'), (28, AI .i64 j), (27, AI .i64 gs.length), (22, AI .i64 i), (21, AI .i64 gs.length)] → (∀ T s, NT 1 (nmL [0]) T [(28, AI .i64 j), (27, AI .i64 gs.length), (4, .ptr 0 0 0), (5, AB f'), (6, AI .i64 i), (22, AI .i64 i), (21, AI .i64 gs.length)] → Q .normal T (BX ps ls gs :: s)) → AW Try.prog 98 0 (rangeC 4 65 64 66 88 c7_0) T (BX ps ls gs :: s) Q := by
        intro T s Q f' hN hQ
        refine AW.range (α := Unit) gs[i].2.length (by omega) (by decide) (fun _ _ => [(63, LP gs[i].2), (6, AI .i64 i), (7, AI .i64 j), (8, LP (comP ps ls gs i j)), (4, .ptr 0 0 0), (5, AB f'), (28, AI .i64 j), (27, AI .i64 gs.length), (22, AI .i64 i), (21, AI .i64 gs.length)]) (fun _ _ => [BX ps ls gs]) (fun _ _ => True) () trivial [0] ⟨rfl, by decide, rfl, hN, ⟨⟨rfl, rfl⟩, trivial⟩⟩ (by simp) ?_ ?_
        · intro k _ hk _
          unfold c7_0
          have hgd := getD_map_lt (f := ptR) (d := []) hk
          have hpm := List.getElem_mem hk
          generalize gs[i].2[k] = p at hgd hpm
          by_cases hij : (i : Int) = j
          · have hij' : ¬ ((i : Int) ≠ j) := fun h => h hij
            repeat' (first | refine AW.seq' ?_ | with_reducible refine AW.blockS rfl ?_ | ((first | refine AW.ops ?_ | refine AW.draw ?_ | refine AW.skip ?_ | refine AW.ret ?_ | refine AW.exit ?_) <;> simp only [RS, LS, SY, ne_eq, isFl, floatV, constA, thenQ, blockQ, pack, intA, boolA, eqA, unA, nilcA, asI, asB, asS, loadA, idxA, lenA, slcA, AV.flat, AV.one, zA1, storeA, toD, srcOf, copyA, ↓reduceIte, reduceCtorEq, List.replicate, Nat.reduceBEq, Nat.reduceAdd, Nat.reduceMul, Nat.reduceSub, Nat.reduceLeDiff, Nat.reduceLT, Int.reduceToNat, Nat.reduceEqDiff, Int.reduceEq, hgd, hij]) | refine AW.condT rfl ?_ | refine AW.condF rfl ?_ | ((first | refine GI.of (fun h => ?_) (fun h => ?_) (by first | exact Classical.em _ | exact (Classical.em _).symm | grind) | refine GD.of (fun h => ?_) (fun h => ?_) (by first | exact Classical.em _ | exact (Classical.em _).symm | grind)) <;> simp only [RS, LS, SY, ne_eq, isFl, floatV, constA, thenQ, blockQ, pack, intA, boolA, eqA, unA, nilcA, asI, asB, asS, loadA, idxA, lenA, slcA, AV.flat, AV.one, zA1, storeA, toD, srcOf, copyA, ↓reduceIte, reduceCtorEq, List.replicate, Nat.reduceBEq, Nat.reduceAdd, Nat.reduceMul, Nat.reduceSub, Nat.reduceLeDiff, Nat.reduceLT, Int.reduceToNat, Nat.reduceEqDiff, Int.reduceEq, hgd, hij, h]) | (refine AW.condP rfl (fun h => ?_) (fun h => ?_) <;> try simp only [Bool.and_eq_true, decide_eq_true_eq, Bool.not_eq_true', decide_eq_false_iff_not, Bool.not_eq_false', Bool.not_eq_true, Bool.not_eq_false] at h) | refine And.intro (by omega) ?_ | fail)
            all_goals exact ⟨(), [0], rfl, by decide, rfl, by simp [NT, belA, belL, tget, renA, renL, nmL], ⟨⟨rfl, rfl⟩, trivial⟩⟩
          · have hb := has_ok gs[j].2 (by omega) p
            cases hbj : hasP gs[j].2 p
            · rw [hbj] at hb
              repeat' (first | refine AW.seq' ?_ | with_reducible refine AW.blockS rfl ?_ | ((first | refine AW.ops ?_ | refine AW.draw ?_ | refine AW.skip ?_ | refine AW.ret ?_ | refine AW.exit ?_ | refine Fn.call (hb) rfl rfl ?_) <;> simp only [RS, LS, SY, ne_eq, isFl, floatV, constA, thenQ, blockQ, pack, intA, boolA, eqA, unA, nilcA, asI, asB, asS, loadA, idxA, lenA, slcA, AV.flat, AV.one, zA1, storeA, toD, srcOf, copyA, ↓reduceIte, reduceCtorEq, List.replicate, Nat.reduceBEq, Nat.reduceAdd, Nat.reduceMul, Nat.reduceSub, Nat.reduceLeDiff, Nat.reduceLT, Int.reduceToNat, Nat.reduceEqDiff, Int.reduceEq, hgd, hij, hjc, hgj]) | refine AW.condT rfl ?_ | refine AW.condF rfl ?_ | ((first | refine GI.of (fun h => ?_) (fun h => ?_) (by first | exact Classical.em _ | exact (Classical.em _).symm | grind) | refine GD.of (fun h => ?_) (fun h => ?_) (by first | exact Classical.em _ | exact (Classical.em _).symm | grind)) <;> simp only [RS, LS, SY, ne_eq, isFl, floatV, constA, thenQ, blockQ, pack, intA, boolA, eqA, unA, nilcA, asI, asB, asS, loadA, idxA, lenA, slcA, AV.flat, AV.one, zA1, storeA, toD, srcOf, copyA, ↓reduceIte, reduceCtorEq, List.replicate, Nat.reduceBEq, Nat.reduceAdd, Nat.reduceMul, Nat.reduceSub, Nat.reduceLeDiff, Nat.reduceLT, Int.reduceToNat, Nat.reduceEqDiff, Int.reduceEq, hgd, hij, hjc, hgj, h]) | (refine AW.condP rfl (fun h => ?_) (fun h => ?_) <;> try simp only [Bool.and_eq_true, decide_eq_true_eq, Bool.not_eq_true', decide_eq_false_iff_not, Bool.not_eq_false', Bool.not_eq_true, Bool.not_eq_false] at h) | refine And.intro (by omega) ?_ | fail)
              all_goals exact ⟨(), [0], rfl, by decide, rfl, by simp [NT, belA, belL, tget, renA, renL, nmL], ⟨⟨rfl, rfl⟩, trivial⟩⟩
            · rw [hbj] at hb
              have hsh := com_share hc hi hj (fun e => hij (by rw [e])) hpm (of_decide_eq_true hbj)
              have hcp := has_ok (comP ps ls gs i j) (by omega) p
              rw [hsh] at hcp
              repeat' (first | refine AW.seq' ?_ | with_reducible refine AW.blockS rfl ?_ | ((first | refine AW.ops ?_ | refine AW.draw ?_ | refine AW.skip ?_ | refine AW.ret ?_ | refine AW.exit ?_ | refine Fn.call (hb) rfl rfl ?_ | refine Fn.call (hcp) rfl rfl ?_) <;> simp only [RS, LS, SY, ne_eq, isFl, floatV, constA, thenQ, blockQ, pack, intA, boolA, eqA, unA, nilcA, asI, asB, asS, loadA, idxA, lenA, slcA, AV.flat, AV.one, zA1, storeA, toD, srcOf, copyA, ↓reduceIte, reduceCtorEq, List.replicate, Nat.reduceBEq, Nat.reduceAdd, Nat.reduceMul, Nat.reduceSub, Nat.reduceLeDiff, Nat.reduceLT, Int.reduceToNat, Nat.reduceEqDiff, Int.reduceEq, hgd, hij, hjc, hgj]) | refine AW.condT rfl ?_ | refine AW.condF rfl ?_ | ((first | refine GI.of (fun h => ?_) (fun h => ?_) (by first | exact Classical.em _ | exact (Classical.em _).symm | grind) | refine GD.of (fun h => ?_) (fun h => ?_) (by first | exact Classical.em _ | exact (Classical.em _).symm | grind)) <;> simp only [RS, LS, SY, ne_eq, isFl, floatV, constA, thenQ, blockQ, pack, intA, boolA, eqA, unA, nilcA, asI, asB, asS, loadA, idxA, lenA, slcA, AV.flat, AV.one, zA1, storeA, toD, srcOf, copyA, ↓reduceIte, reduceCtorEq, List.replicate, Nat.reduceBEq, Nat.reduceAdd, Nat.reduceMul, Nat.reduceSub, Nat.reduceLeDiff, Nat.reduceLT, Int.reduceToNat, Nat.reduceEqDiff, Int.reduceEq, hgd, hij, hjc, hgj, h]) | (refine AW.condP rfl (fun h => ?_) (fun h => ?_) <;> try simp only [Bool.and_eq_true, decide_eq_true_eq, Bool.not_eq_true', decide_eq_false_iff_not, Bool.not_eq_false', Bool.not_eq_true, Bool.not_eq_false] at h) | refine And.intro (by omega) ?_ | fail)
              all_goals exact ⟨(), [0], rfl, by decide, rfl, by simp [NT, belA, belL, tget, renA, renL, nmL], ⟨⟨rfl, rfl⟩, trivial⟩⟩
        · intro _ _
          exact hQ _ [] (by simp [NT, belA, belL, tget, tset, renA, renL, nmL])
      by_cases hz : (comP ps ls gs i j).length = 0
      · have hz' : ((comP ps ls gs i j).length : Int) = 0 := by omega
        have hz2 : ¬ (0 : Int) < ((comP ps ls gs i j).length : Int) := by omega
        have hz3 : (((comP ps ls gs i j).length : Int) = 0) = True := eq_true hz'
        rw [hz, decide_eq_true rfl, Bool.true_and] at hnext
        by_cases hij : (i : Int) = j
        · have hd : ((i : Int) = (j : Int)) = True := eq_true hij
          cases f
          · repeat' (first | refine AW.seq' ?_ | with_reducible refine AW.blockS rfl ?_ | ((first | refine AW.ops ?_ | refine AW.draw ?_ | refine AW.skip ?_ | refine AW.ret ?_ | refine AW.exit ?_ | refine Fn.call (hC) rfl rfl ?_ | refine Fn.call (hC2) rfl rfl ?_ | refine Fn.call (hsm) rfl rfl ?_) <;> simp only [RS, LS, SY, ne_eq, isFl, floatV, constA, thenQ, blockQ, pack, intA, boolA, eqA, unA, nilcA, asI, asB, asS, loadA, idxA, lenA, slcA, AV.flat, AV.one, zA1, storeA, toD, srcOf, copyA, ↓reduceIte, reduceCtorEq, List.replicate, Nat.reduceBEq, Nat.reduceAdd, Nat.reduceMul, Nat.reduceSub, Nat.reduceLeDiff, Nat.reduceLT, Int.reduceToNat, Nat.reduceEqDiff, Int.reduceEq, hlm, hz3, hz2, hd, hic, hgi]) | refine AW.condT rfl ?_ | refine AW.condF rfl ?_ | ((first | refine GI.of (fun h => ?_) (fun h => ?_) (by first | exact Classical.em _ | exact (Classical.em _).symm | grind) | refine GD.of (fun h => ?_) (fun h => ?_) (by first | exact Classical.em _ | exact (Classical.em _).symm | grind)) <;> simp only [RS, LS, SY, ne_eq, isFl, floatV, constA, thenQ, blockQ, pack, intA, boolA, eqA, unA, nilcA, asI, asB, asS, loadA, idxA, lenA, slcA, AV.flat, AV.one, zA1, storeA, toD, srcOf, copyA, ↓reduceIte, reduceCtorEq, List.replicate, Nat.reduceBEq, Nat.reduceAdd, Nat.reduceMul, Nat.reduceSub, Nat.reduceLeDiff, Nat.reduceLT, Int.reduceToNat, Nat.reduceEqDiff, Int.reduceEq, hlm, hz3, hz2, hd, hic, hgi, h]) | (refine AW.condP rfl (fun h => ?_) (fun h => ?_) <;> try simp only [Bool.and_eq_true, decide_eq_true_eq, Bool.not_eq_true', decide_eq_false_iff_not, Bool.not_eq_false', Bool.not_eq_true, Bool.not_eq_false] at h) | refine And.intro (by omega) ?_ | fail)
            refine hin (f' := false) (by simp [NT, belA, belL, tget, renA, renL, nmL]) fun T s hT => ?_
            exact ⟨false, [0], hnext, rfl, by decide, rfl, hT, ⟨⟨rfl, rfl⟩, trivial⟩⟩
          · repeat' (first | refine AW.seq' ?_ | with_reducible refine AW.blockS rfl ?_ | ((first | refine AW.ops ?_ | refine AW.draw ?_ | refine AW.skip ?_ | refine AW.ret ?_ | refine AW.exit ?_ | refine Fn.call (hC) rfl rfl ?_ | refine Fn.call (hC2) rfl rfl ?_ | refine Fn.call (hsm) rfl rfl ?_) <;> simp only [RS, LS, SY, ne_eq, isFl, floatV, constA, thenQ, blockQ, pack, intA, boolA, eqA, unA, nilcA, asI, asB, asS, loadA, idxA, lenA, slcA, AV.flat, AV.one, zA1, storeA, toD, srcOf, copyA, ↓reduceIte, reduceCtorEq, List.replicate, Nat.reduceBEq, Nat.reduceAdd, Nat.reduceMul, Nat.reduceSub, Nat.reduceLeDiff, Nat.reduceLT, Int.reduceToNat, Nat.reduceEqDiff, Int.reduceEq, hlm, hz3, hz2, hd, hic, hgi]) | refine AW.condT rfl ?_ | refine AW.condF rfl ?_ | ((first | refine GI.of (fun h => ?_) (fun h => ?_) (by first | exact Classical.em _ | exact (Classical.em _).symm | grind) | refine GD.of (fun h => ?_) (fun h => ?_) (by first | exact Classical.em _ | exact (Classical.em _).symm | grind)) <;> simp only [RS, LS, SY, ne_eq, isFl, floatV, constA, thenQ, blockQ, pack, intA, boolA, eqA, unA, nilcA, asI, asB, asS, loadA, idxA, lenA, slcA, AV.flat, AV.one, zA1, storeA, toD, srcOf, copyA, ↓reduceIte, reduceCtorEq, List.replicate, Nat.reduceBEq, Nat.reduceAdd, Nat.reduceMul, Nat.reduceSub, Nat.reduceLeDiff, Nat.reduceLT, Int.reduceToNat, Nat.reduceEqDiff, Int.reduceEq, hlm, hz3, hz2, hd, hic, hgi, h]) | (refine AW.condP rfl (fun h => ?_) (fun h => ?_) <;> try simp only [Bool.and_eq_true, decide_eq_true_eq, Bool.not_eq_true', decide_eq_false_iff_not, Bool.not_eq_false', Bool.not_eq_true, Bool.not_eq_false] at h) | refine And.intro (by omega) ?_ | fail)
            refine hin (f' := true) (by simp [NT, belA, belL, tget, renA, renL, nmL]) fun T s hT => ?_
            exact ⟨true, [0], hnext, rfl, by decide, rfl, hT, ⟨⟨rfl, rfl⟩, trivial⟩⟩
        · have hd : ((i : Int) = (j : Int)) = False := eq_false hij
          cases f
          · repeat' (first | refine AW.seq' ?_ | with_reducible refine AW.blockS rfl ?_ | ((first | refine AW.ops ?_ | refine AW.draw ?_ | refine AW.skip ?_ | refine AW.ret ?_ | refine AW.exit ?_ | refine Fn.call (hC) rfl rfl ?_ | refine Fn.call (hC2) rfl rfl ?_ | refine Fn.call (hsm) rfl rfl ?_) <;> simp only [RS, LS, SY, ne_eq, isFl, floatV, constA, thenQ, blockQ, pack, intA, boolA, eqA, unA, nilcA, asI, asB, asS, loadA, idxA, lenA, slcA, AV.flat, AV.one, zA1, storeA, toD, srcOf, copyA, ↓reduceIte, reduceCtorEq, List.replicate, Nat.reduceBEq, Nat.reduceAdd, Nat.reduceMul, Nat.reduceSub, Nat.reduceLeDiff, Nat.reduceLT, Int.reduceToNat, Nat.reduceEqDiff, Int.reduceEq, hlm, hz3, hz2, hd, hic, hgi]) | refine AW.condT rfl ?_ | refine AW.condF rfl ?_ | ((first | refine GI.of (fun h => ?_) (fun h => ?_) (by first | exact Classical.em _ | exact (Classical.em _).symm | grind) | refine GD.of (fun h => ?_) (fun h => ?_) (by first | exact Classical.em _ | exact (Classical.em _).symm | grind)) <;> simp only [RS, LS, SY, ne_eq, isFl, floatV, constA, thenQ, blockQ, pack, intA, boolA, eqA, unA, nilcA, asI, asB, asS, loadA, idxA, lenA, slcA, AV.flat, AV.one, zA1, storeA, toD, srcOf, copyA, ↓reduceIte, reduceCtorEq, List.replicate, Nat.reduceBEq, Nat.reduceAdd, Nat.reduceMul, Nat.reduceSub, Nat.reduceLeDiff, Nat.reduceLT, Int.reduceToNat, Nat.reduceEqDiff, Int.reduceEq, hlm, hz3, hz2, hd, hic, hgi, h]) | (refine AW.condP rfl (fun h => ?_) (fun h => ?_) <;> try simp only [Bool.and_eq_true, decide_eq_true_eq, Bool.not_eq_true', decide_eq_false_iff_not, Bool.not_eq_false', Bool.not_eq_true, Bool.not_eq_false] at h) | refine And.intro (by omega) ?_ | fail)
            refine hin (f' := false) (by simp [NT, belA, belL, tget, renA, renL, nmL]) fun T s hT => ?_
            exact ⟨false, [0], hnext, rfl, by decide, rfl, hT, ⟨⟨rfl, rfl⟩, trivial⟩⟩
          · repeat' (first | refine AW.seq' ?_ | with_reducible refine AW.blockS rfl ?_ | ((first | refine AW.ops ?_ | refine AW.draw ?_ | refine AW.skip ?_ | refine AW.ret ?_ | refine AW.exit ?_ | refine Fn.call (hC) rfl rfl ?_ | refine Fn.call (hC2) rfl rfl ?_ | refine Fn.call (hsm) rfl rfl ?_) <;> simp only [RS, LS, SY, ne_eq, isFl, floatV, constA, thenQ, blockQ, pack, intA, boolA, eqA, unA, nilcA, asI, asB, asS, loadA, idxA, lenA, slcA, AV.flat, AV.one, zA1, storeA, toD, srcOf, copyA, ↓reduceIte, reduceCtorEq, List.replicate, Nat.reduceBEq, Nat.reduceAdd, Nat.reduceMul, Nat.reduceSub, Nat.reduceLeDiff, Nat.reduceLT, Int.reduceToNat, Nat.reduceEqDiff, Int.reduceEq, hlm, hz3, hz2, hd, hic, hgi]) | refine AW.condT rfl ?_ | refine AW.condF rfl ?_ | ((first | refine GI.of (fun h => ?_) (fun h => ?_) (by first | exact Classical.em _ | exact (Classical.em _).symm | grind) | refine GD.of (fun h => ?_) (fun h => ?_) (by first | exact Classical.em _ | exact (Classical.em _).symm | grind)) <;> simp only [RS, LS, SY, ne_eq, isFl, floatV, constA, thenQ, blockQ, pack, intA, boolA, eqA, unA, nilcA, asI, asB, asS, loadA, idxA, lenA, slcA, AV.flat, AV.one, zA1, storeA, toD, srcOf, copyA, ↓reduceIte, reduceCtorEq, List.replicate, Nat.reduceBEq, Nat.reduceAdd, Nat.reduceMul, Nat.reduceSub, Nat.reduceLeDiff, Nat.reduceLT, Int.reduceToNat, Nat.reduceEqDiff, Int.reduceEq, hlm, hz3, hz2, hd, hic, hgi, h]) | (refine AW.condP rfl (fun h => ?_) (fun h => ?_) <;> try simp only [Bool.and_eq_true, decide_eq_true_eq, Bool.not_eq_true', decide_eq_false_iff_not, Bool.not_eq_false', Bool.not_eq_true, Bool.not_eq_false] at h) | refine And.intro (by omega) ?_ | fail)
            refine hin (f' := true) (by simp [NT, belA, belL, tget, renA, renL, nmL]) fun T s hT => ?_
            exact ⟨true, [0], hnext, rfl, by decide, rfl, hT, ⟨⟨rfl, rfl⟩, trivial⟩⟩
      · have hz' : ¬ ((comP ps ls gs i j).length : Int) = 0 := by omega
        rw [decide_eq_false hz, Bool.false_and] at hnext
        have hij : ¬ (i : Int) = j := fun e => hcs e (by omega)
        have hd : ((i : Int) = (j : Int)) = False := eq_false hij
        cases f
        · repeat' (first | refine AW.seq' ?_ | with_reducible refine AW.blockS rfl ?_ | ((first | refine AW.ops ?_ | refine AW.draw ?_ | refine AW.skip ?_ | refine AW.ret ?_ | refine AW.exit ?_ | refine Fn.call (hC) rfl rfl ?_ | refine Fn.call (hC2) rfl rfl ?_ | refine Fn.call (hsm) rfl rfl ?_) <;> simp only [RS, LS, SY, ne_eq, isFl, floatV, constA, thenQ, blockQ, pack, intA, boolA, eqA, unA, nilcA, asI, asB, asS, loadA, idxA, lenA, slcA, AV.flat, AV.one, zA1, storeA, toD, srcOf, copyA, ↓reduceIte, reduceCtorEq, List.replicate, Nat.reduceBEq, Nat.reduceAdd, Nat.reduceMul, Nat.reduceSub, Nat.reduceLeDiff, Nat.reduceLT, Int.reduceToNat, Nat.reduceEqDiff, Int.reduceEq, hlm, hz', hd, hic, hgi]) | refine AW.condT rfl ?_ | refine AW.condF rfl ?_ | ((first | refine GI.of (fun h => ?_) (fun h => ?_) (by first | exact Classical.em _ | exact (Classical.em _).symm | grind) | refine GD.of (fun h => ?_) (fun h => ?_) (by first | exact Classical.em _ | exact (Classical.em _).symm | grind)) <;> simp only [RS, LS, SY, ne_eq, isFl, floatV, constA, thenQ, blockQ, pack, intA, boolA, eqA, unA, nilcA, asI, asB, asS, loadA, idxA, lenA, slcA, AV.flat, AV.one, zA1, storeA, toD, srcOf, copyA, ↓reduceIte, reduceCtorEq, List.replicate, Nat.reduceBEq, Nat.reduceAdd, Nat.reduceMul, Nat.reduceSub, Nat.reduceLeDiff, Nat.reduceLT, Int.reduceToNat, Nat.reduceEqDiff, Int.reduceEq, hlm, hz', hd, hic, hgi, h]) | (refine AW.condP rfl (fun h => ?_) (fun h => ?_) <;> try simp only [Bool.and_eq_true, decide_eq_true_eq, Bool.not_eq_true', decide_eq_false_iff_not, Bool.not_eq_false', Bool.not_eq_true, Bool.not_eq_false] at h) | refine And.intro (by omega) ?_ | fail)
          refine hin (f' := false) (by simp [NT, belA, belL, tget, renA, renL, nmL]) fun T s hT => ?_
          exact ⟨false, [0], hnext, rfl, by decide, rfl, hT, ⟨⟨rfl, rfl⟩, trivial⟩⟩
        · repeat' (first | refine AW.seq' ?_ | with_reducible refine AW.blockS rfl ?_ | ((first | refine AW.ops ?_ | refine AW.draw ?_ | refine AW.skip ?_ | refine AW.ret ?_ | refine AW.exit ?_ | refine Fn.call (hC) rfl rfl ?_ | refine Fn.call (hC2) rfl rfl ?_ | refine Fn.call (hsm) rfl rfl ?_) <;> simp only [RS, LS, SY, ne_eq, isFl, floatV, constA, thenQ, blockQ, pack, intA, boolA, eqA, unA, nilcA, asI, asB, asS, loadA, idxA, lenA, slcA, AV.flat, AV.one, zA1, storeA, toD, srcOf, copyA, ↓reduceIte, reduceCtorEq, List.replicate, Nat.reduceBEq, Nat.reduceAdd, Nat.reduceMul, Nat.reduceSub, Nat.reduceLeDiff, Nat.reduceLT, Int.reduceToNat, Nat.reduceEqDiff, Int.reduceEq, hlm, hz', hd, hic, hgi]) | refine AW.condT rfl ?_ | refine AW.condF rfl ?_ | ((first | refine GI.of (fun h => ?_) (fun h => ?_) (by first | exact Classical.em _ | exact (Classical.em _).symm | grind) | refine GD.of (fun h => ?_) (fun h => ?_) (by first | exact Classical.em _ | exact (Classical.em _).symm | grind)) <;> simp only [RS, LS, SY, ne_eq, isFl, floatV, constA, thenQ, blockQ, pack, intA, boolA, eqA, unA, nilcA, asI, asB, asS, loadA, idxA, lenA, slcA, AV.flat, AV.one, zA1, storeA, toD, srcOf, copyA, ↓reduceIte, reduceCtorEq, List.replicate, Nat.reduceBEq, Nat.reduceAdd, Nat.reduceMul, Nat.reduceSub, Nat.reduceLeDiff, Nat.reduceLT, Int.reduceToNat, Nat.reduceEqDiff, Int.reduceEq, hlm, hz', hd, hic, hgi, h]) | (refine AW.condP rfl (fun h => ?_) (fun h => ?_) <;> try simp only [Bool.and_eq_true, decide_eq_true_eq, Bool.not_eq_true', decide_eq_false_iff_not, Bool.not_eq_false', Bool.not_eq_true, Bool.not_eq_false] at h) | refine And.intro (by omega) ?_ | fail)
          refine hin (f' := false) (by simp [NT, belA, belL, tget, renA, renL, nmL]) fun T s hT => ?_
          exact ⟨false, [0], hnext, rfl, by decide, rfl, hT, ⟨⟨rfl, rfl⟩, trivial⟩⟩
    · intro f hf
      simp only [RS, LS, SY, ne_eq, isFl, floatV, constA, thenQ, blockQ, pack, intA, boolA, eqA, unA, nilcA, asI, asB, asS, loadA, idxA, lenA, slcA, AV.flat, AV.one, zA1, storeA, toD, srcOf, copyA, ↓reduceIte, reduceCtorEq, List.replicate, Nat.reduceBEq, Nat.reduceAdd, Nat.reduceMul, Nat.reduceSub, Nat.reduceLeDiff, Nat.reduceLT, Int.reduceToNat, Nat.reduceEqDiff, Int.reduceEq]
      exact ⟨f, [0], by rw [free_row]; exact hf, rfl, by decide, rfl, by simp [NT, belA, belL, tget, tset, renA, renL, nmL], ⟨⟨rfl, rfl⟩, trivial⟩⟩
  intro f hf
  have hf2 : indP ps ls gs = f := by
    rw [free_ind hc] at hf
    cases f
    · exact indP_f fun h => by have := hf.2 h; cases this
    · exact indP_t (hf.1 rfl)
  have hI := indep_ok ps ls gs (by omega) (by omega) (by omega) hgl
  rw [hf2] at hI
  simp only [RS, LS, SY, ne_eq, isFl, floatV, constA, thenQ, blockQ, pack, intA, boolA, eqA, unA, nilcA, asI, asB, asS, loadA, idxA, lenA, slcA, AV.flat, AV.one, zA1, storeA, toD, srcOf, copyA, ↓reduceIte, reduceCtorEq, List.replicate, Nat.reduceBEq, Nat.reduceAdd, Nat.reduceMul, Nat.reduceSub, Nat.reduceLeDiff, Nat.reduceLT, Int.reduceToNat, Nat.reduceEqDiff, Int.reduceEq]
  cases f
  · repeat' (first | refine AW.seq' ?_ | with_reducible refine AW.blockS rfl ?_ | ((first | refine AW.ops ?_ | refine AW.draw ?_ | refine AW.skip ?_ | refine AW.ret ?_ | refine AW.exit ?_ | refine Fn.call (hI) rfl rfl ?_ | refine Fn.call (sane_ok) rfl rfl ?_) <;> simp only [RS, LS, SY, ne_eq, isFl, floatV, constA, thenQ, blockQ, pack, intA, boolA, eqA, unA, nilcA, asI, asB, asS, loadA, idxA, lenA, slcA, AV.flat, AV.one, zA1, storeA, toD, srcOf, copyA, ↓reduceIte, reduceCtorEq, List.replicate, Nat.reduceBEq, Nat.reduceAdd, Nat.reduceMul, Nat.reduceSub, Nat.reduceLeDiff, Nat.reduceLT, Int.reduceToNat, Nat.reduceEqDiff, Int.reduceEq]) | refine AW.condT rfl ?_ | refine AW.condF rfl ?_ | ((first | refine GI.of (fun h => ?_) (fun h => ?_) (by first | exact Classical.em _ | exact (Classical.em _).symm | grind) | refine GD.of (fun h => ?_) (fun h => ?_) (by first | exact Classical.em _ | exact (Classical.em _).symm | grind)) <;> simp only [RS, LS, SY, ne_eq, isFl, floatV, constA, thenQ, blockQ, pack, intA, boolA, eqA, unA, nilcA, asI, asB, asS, loadA, idxA, lenA, slcA, AV.flat, AV.one, zA1, storeA, toD, srcOf, copyA, ↓reduceIte, reduceCtorEq, List.replicate, Nat.reduceBEq, Nat.reduceAdd, Nat.reduceMul, Nat.reduceSub, Nat.reduceLeDiff, Nat.reduceLT, Int.reduceToNat, Nat.reduceEqDiff, Int.reduceEq, h]) | (refine AW.condP rfl (fun h => ?_) (fun h => ?_) <;> try simp only [Bool.and_eq_true, decide_eq_true_eq, Bool.not_eq_true', decide_eq_false_iff_not, Bool.not_eq_false', Bool.not_eq_true, Bool.not_eq_false] at h) | refine And.intro (by omega) ?_ | fail)
  · repeat' (first | refine AW.seq' ?_ | with_reducible refine AW.blockS rfl ?_ | ((first | refine AW.ops ?_ | refine AW.draw ?_ | refine AW.skip ?_ | refine AW.ret ?_ | refine AW.exit ?_ | refine Fn.call (hI) rfl rfl ?_ | refine Fn.call (sane_ok) rfl rfl ?_) <;> simp only [RS, LS, SY, ne_eq, isFl, floatV, constA, thenQ, blockQ, pack, intA, boolA, eqA, unA, nilcA, asI, asB, asS, loadA, idxA, lenA, slcA, AV.flat, AV.one, zA1, storeA, toD, srcOf, copyA, ↓reduceIte, reduceCtorEq, List.replicate, Nat.reduceBEq, Nat.reduceAdd, Nat.reduceMul, Nat.reduceSub, Nat.reduceLeDiff, Nat.reduceLT, Int.reduceToNat, Nat.reduceEqDiff, Int.reduceEq]) | refine AW.condT rfl ?_ | refine AW.condF rfl ?_ | ((first | refine GI.of (fun h => ?_) (fun h => ?_) (by first | exact Classical.em _ | exact (Classical.em _).symm | grind) | refine GD.of (fun h => ?_) (fun h => ?_) (by first | exact Classical.em _ | exact (Classical.em _).symm | grind)) <;> simp only [RS, LS, SY, ne_eq, isFl, floatV, constA, thenQ, blockQ, pack, intA, boolA, eqA, unA, nilcA, asI, asB, asS, loadA, idxA, lenA, slcA, AV.flat, AV.one, zA1, storeA, toD, srcOf, copyA, ↓reduceIte, reduceCtorEq, List.replicate, Nat.reduceBEq, Nat.reduceAdd, Nat.reduceMul, Nat.reduceSub, Nat.reduceLeDiff, Nat.reduceLT, Int.reduceToNat, Nat.reduceEqDiff, Int.reduceEq, h]) | (refine AW.condP rfl (fun h => ?_) (fun h => ?_) <;> try simp only [Bool.and_eq_true, decide_eq_true_eq, Bool.not_eq_true', decide_eq_false_iff_not, Bool.not_eq_false', Bool.not_eq_true, Bool.not_eq_false] at h) | refine And.intro (by omega) ?_ | fail)
end Go.Proofs.Ytkgeadhnagnloaa.H
