/- Chapter 26: designs out of numbers. -/
import Derived.Test.YtkgeadhnagnloaaHeH
set_option linter.unusedSimpArgs false
set_option linter.unusedVariables false
namespace Go.Proofs.Ytkgeadhnagnloaa.H
/-! ### A part put into a full list of one -/
set_option maxHeartbeats 4000000 in
theorem with1_ok (q p : Pt) : ACalls Try.prog 49 [.ful 2 (pts [q]), APt p] [] (fun v s' => (v = .ful 2 (pts [q]) ∧ withP [q] p = [q]) ∨ IsL 29 (withP [q] p) v s') := by
  refine ACalls.of fn49 (by simp) ?_
  unfold c49
  repeat' (first | refine AW.seq' ?_ | with_reducible refine AW.blockS rfl ?_ | ((first | refine AW.ops ?_ | refine AW.draw ?_ | refine AW.skip ?_ | refine AW.ret ?_ | refine AW.exit ?_) <;> simp only [RS, LS, SY, ne_eq, isFl, floatV, constA, thenQ, blockQ, pack, intA, boolA, eqA, unA, nilcA, asI, asB, asS, loadA, idxA, lenA, slcA, AV.flat, AV.one, zA1, storeA, toD, srcOf, copyA, ↓reduceIte, reduceCtorEq, List.replicate, Nat.reduceBEq, Nat.reduceAdd, Nat.reduceMul, Nat.reduceSub, Nat.reduceLeDiff, Nat.reduceLT, Int.reduceToNat, Nat.reduceEqDiff, Int.reduceEq]) | refine AW.condT rfl ?_ | refine AW.condF rfl ?_ | ((first | refine GI.of (fun h => ?_) (fun h => ?_) (by first | exact Classical.em _ | exact (Classical.em _).symm | grind) | refine GD.of (fun h => ?_) (fun h => ?_) (by first | exact Classical.em _ | exact (Classical.em _).symm | grind)) <;> simp only [RS, LS, SY, ne_eq, isFl, floatV, constA, thenQ, blockQ, pack, intA, boolA, eqA, unA, nilcA, asI, asB, asS, loadA, idxA, lenA, slcA, AV.flat, AV.one, zA1, storeA, toD, srcOf, copyA, ↓reduceIte, reduceCtorEq, List.replicate, Nat.reduceBEq, Nat.reduceAdd, Nat.reduceMul, Nat.reduceSub, Nat.reduceLeDiff, Nat.reduceLT, Int.reduceToNat, Nat.reduceEqDiff, Int.reduceEq, h]) | (refine AW.condP rfl (fun h => ?_) (fun h => ?_) <;> try simp only [Bool.and_eq_true, decide_eq_true_eq, Bool.not_eq_true', decide_eq_false_iff_not, Bool.not_eq_false', Bool.not_eq_true, Bool.not_eq_false] at h) | refine And.intro (by omega) ?_ | fail)
  refine AW.block ?_
  refine AW.loopA (α := Nat) (fun k => 2 - k) (fun k => [(5, AI .i64 k), (0, .ful 2 (pts [q])), (3, .ptr 0 0 0)]) (fun _ => [some (.cells 29 2 [[AI .i64 p.1, AI .i64 p.2]])]) (fun k => k ≤ 1 ∧ (k = 1 → ltP q p = true)) 0 ⟨by omega, fun h => by omega⟩ [0] ⟨rfl, by decide, rfl, by simp [NT, belA, belL, tget, renA, renL, nmL], ⟨⟨rfl, rfl⟩, trivial⟩⟩ ?_
  intro k ⟨h1, h2⟩
  unfold c49_0
  rcases (by omega : k = 0 ∨ k = 1) with rfl | rfl
  · have hg : (pts [q]).getD 0 [] = ptR q := rfl
    have hl : (pts [q]).length = 1 := rfl
    have hc : ((0 : Nat) : Int) < ((1 : Nat) : Int) := by decide
    cases hlt : ltP q p
    · repeat' (first | refine AW.seq' ?_ | with_reducible refine AW.blockS rfl ?_ | ((first | refine AW.ops ?_ | refine AW.draw ?_ | refine AW.skip ?_ | refine AW.ret ?_ | refine AW.exit ?_ | refine Fn.call (less_ok _ _) rfl rfl ?_) <;> simp (disch := omega) only [RS, LS, SY, ne_eq, isFl, floatV, constA, thenQ, blockQ, pack, intA, boolA, eqA, unA, nilcA, asI, asB, asS, loadA, idxA, lenA, slcA, AV.flat, AV.one, zA1, storeA, toD, srcOf, copyA, ↓reduceIte, reduceCtorEq, List.replicate, Nat.reduceBEq, Nat.reduceAdd, Nat.reduceMul, Nat.reduceSub, Nat.reduceLeDiff, Nat.reduceLT, Int.reduceToNat, Nat.reduceEqDiff, Int.reduceEq, wrap_id, hc, hg, hl, hlt, pt_eq]) | refine AW.condT rfl ?_ | refine AW.condF rfl ?_ | ((first | refine GI.of (fun h => ?_) (fun h => ?_) (by first | exact Classical.em _ | exact (Classical.em _).symm | grind) | refine GD.of (fun h => ?_) (fun h => ?_) (by first | exact Classical.em _ | exact (Classical.em _).symm | grind)) <;> simp (disch := omega) only [RS, LS, SY, ne_eq, isFl, floatV, constA, thenQ, blockQ, pack, intA, boolA, eqA, unA, nilcA, asI, asB, asS, loadA, idxA, lenA, slcA, AV.flat, AV.one, zA1, storeA, toD, srcOf, copyA, ↓reduceIte, reduceCtorEq, List.replicate, Nat.reduceBEq, Nat.reduceAdd, Nat.reduceMul, Nat.reduceSub, Nat.reduceLeDiff, Nat.reduceLT, Int.reduceToNat, Nat.reduceEqDiff, Int.reduceEq, wrap_id, hc, hg, hl, hlt, pt_eq, h]) | (refine AW.condP rfl (fun h => ?_) (fun h => ?_) <;> try simp only [Bool.and_eq_true, decide_eq_true_eq, Bool.not_eq_true', decide_eq_false_iff_not, Bool.not_eq_false', Bool.not_eq_true, Bool.not_eq_false] at h) | refine And.intro (by omega) ?_ | fail)
      · exact .inl (by subst h; simp [withP, ltP_irr])
      · have e : withP [q] p = [p, q] := by simp [withP, hlt, h]
        exact .inr ⟨2, by rw [e]; rfl, by rw [e]; rfl⟩
    · repeat' (first | refine AW.seq' ?_ | with_reducible refine AW.blockS rfl ?_ | ((first | refine AW.ops ?_ | refine AW.draw ?_ | refine AW.skip ?_ | refine AW.ret ?_ | refine AW.exit ?_ | refine Fn.call (less_ok _ _) rfl rfl ?_) <;> simp (disch := omega) only [RS, LS, SY, ne_eq, isFl, floatV, constA, thenQ, blockQ, pack, intA, boolA, eqA, unA, nilcA, asI, asB, asS, loadA, idxA, lenA, slcA, AV.flat, AV.one, zA1, storeA, toD, srcOf, copyA, ↓reduceIte, reduceCtorEq, List.replicate, Nat.reduceBEq, Nat.reduceAdd, Nat.reduceMul, Nat.reduceSub, Nat.reduceLeDiff, Nat.reduceLT, Int.reduceToNat, Nat.reduceEqDiff, Int.reduceEq, wrap_id, hc, hg, hl, hlt]) | refine AW.condT rfl ?_ | refine AW.condF rfl ?_ | ((first | refine GI.of (fun h => ?_) (fun h => ?_) (by first | exact Classical.em _ | exact (Classical.em _).symm | grind) | refine GD.of (fun h => ?_) (fun h => ?_) (by first | exact Classical.em _ | exact (Classical.em _).symm | grind)) <;> simp (disch := omega) only [RS, LS, SY, ne_eq, isFl, floatV, constA, thenQ, blockQ, pack, intA, boolA, eqA, unA, nilcA, asI, asB, asS, loadA, idxA, lenA, slcA, AV.flat, AV.one, zA1, storeA, toD, srcOf, copyA, ↓reduceIte, reduceCtorEq, List.replicate, Nat.reduceBEq, Nat.reduceAdd, Nat.reduceMul, Nat.reduceSub, Nat.reduceLeDiff, Nat.reduceLT, Int.reduceToNat, Nat.reduceEqDiff, Int.reduceEq, wrap_id, hc, hg, hl, hlt, h]) | (refine AW.condP rfl (fun h => ?_) (fun h => ?_) <;> try simp only [Bool.and_eq_true, decide_eq_true_eq, Bool.not_eq_true', decide_eq_false_iff_not, Bool.not_eq_false', Bool.not_eq_true, Bool.not_eq_false] at h) | refine And.intro (by omega) ?_ | fail)
      exact ⟨1, [0], ⟨Nat.le_refl _, fun _ => trivial⟩, by omega, rfl, by decide, rfl, by simp [NT, belA, belL, tget, renA, renL, nmL], ⟨⟨rfl, rfl⟩, trivial⟩⟩
  · have hc : ¬ ((1 : Nat) : Int) < ((1 : Nat) : Int) := by decide
    have hl : (pts [q]).length = 1 := rfl
    have hlt := h2 rfl
    repeat' (first | refine AW.seq' ?_ | with_reducible refine AW.blockS rfl ?_ | ((first | refine AW.ops ?_ | refine AW.draw ?_ | refine AW.skip ?_ | refine AW.ret ?_ | refine AW.exit ?_) <;> simp (disch := omega) only [RS, LS, SY, ne_eq, isFl, floatV, constA, thenQ, blockQ, pack, intA, boolA, eqA, unA, nilcA, asI, asB, asS, loadA, idxA, lenA, slcA, AV.flat, AV.one, zA1, storeA, toD, srcOf, copyA, ↓reduceIte, reduceCtorEq, List.replicate, Nat.reduceBEq, Nat.reduceAdd, Nat.reduceMul, Nat.reduceSub, Nat.reduceLeDiff, Nat.reduceLT, Int.reduceToNat, Nat.reduceEqDiff, Int.reduceEq, wrap_id, hc, hl]) | refine AW.condT rfl ?_ | refine AW.condF rfl ?_ | ((first | refine GI.of (fun h => ?_) (fun h => ?_) (by first | exact Classical.em _ | exact (Classical.em _).symm | grind) | refine GD.of (fun h => ?_) (fun h => ?_) (by first | exact Classical.em _ | exact (Classical.em _).symm | grind)) <;> simp (disch := omega) only [RS, LS, SY, ne_eq, isFl, floatV, constA, thenQ, blockQ, pack, intA, boolA, eqA, unA, nilcA, asI, asB, asS, loadA, idxA, lenA, slcA, AV.flat, AV.one, zA1, storeA, toD, srcOf, copyA, ↓reduceIte, reduceCtorEq, List.replicate, Nat.reduceBEq, Nat.reduceAdd, Nat.reduceMul, Nat.reduceSub, Nat.reduceLeDiff, Nat.reduceLT, Int.reduceToNat, Nat.reduceEqDiff, Int.reduceEq, wrap_id, hc, hl, h]) | (refine AW.condP rfl (fun h => ?_) (fun h => ?_) <;> try simp only [Bool.and_eq_true, decide_eq_true_eq, Bool.not_eq_true', decide_eq_false_iff_not, Bool.not_eq_false', Bool.not_eq_true, Bool.not_eq_false] at h) | refine And.intro (by omega) ?_ | fail)
    have e : withP [q] p = [q, p] := by simp [withP, hlt]
    exact .inr ⟨1, by rw [e]; rfl, by rw [e]; rfl⟩
theorem with1_one (q p : Pt) : ACalls Try.prog 49 [.ful 2 (pts [q]), APt p] [] (fun v s' => (v = .ful 2 (pts [q]) ∧ withP [q] p = [q] ∧ s' = []) ∨ (v = .own 0 0 (withP [q] p).length ∧ s' = [some (.cells 29 2 (rowsA (pts (withP [q] p))))])) :=
  (with1_ok q p).ren fun v s' h => by
    rcases h with ⟨rfl, e⟩ | ⟨id, e, hs⟩
    · refine ⟨fun i => i, .ful 2 (pts [q]), [], fun i hi => by simp at hi, Nat.le_refl _, ?_, ⟨rfl, rfl⟩, ?_, .inl ⟨rfl, e, rfl⟩⟩
      · intro i j ⟨b, hi⟩; simp at hi
      · intro i b hi; simp at hi
    · refine ⟨fun i => id, .own 0 0 (withP [q] p).length, [some (.cells 29 2 (rowsA (pts (withP [q] p))))], fun i hi => by simp at hi, by simp, ?_, ?_, ?_, .inr ⟨rfl, rfl⟩⟩
      · intro i j ⟨b, hi⟩ ⟨c, hj⟩ hij
        match i, j, hi, hj with
        | 0, 0, _, _ => exact absurd rfl hij
        | i + 1, _, hi, _ => simp at hi
        | 0, j + 1, _, hj => simp at hj
      · exact ⟨rfl, by rw [e]; simp [renA]⟩
      · intro i b hi
        match i, hi with
        | 0, hi =>
          simp only [List.getElem?_cons_zero, Option.some.injEq] at hi
          subst hi
          exact ⟨belB_rowsA .., by rw [renB_rowsA]; exact hs⟩
        | i + 1, hi => simp at hi
theorem with1_call (q p : Pt) {s : St} {Q : AV → St → Prop} (hq1 : withP [q] p = [q] → Q (.ful 2 (pts [q])) s) (hq2 : Q (.own s.length 0 (withP [q] p).length) (s ++ [some (.cells 29 2 (rowsA (pts (withP [q] p))))])) : ACalls Try.prog 49 [.ful 2 (pts [q]), APt p] s Q :=
  ACalls.frame (ft := []) (with1_one q p) (given_nil rfl) fun v s' h => by
    rcases h with ⟨rfl, e, rfl⟩ | ⟨rfl, rfl⟩
    · have : backS [] s [] = s := by
        have := backS_nil s
        simpa using this
      rw [this]
      simpa [renA] using hq1 e
    · have : backS [] s [some (.cells 29 2 (rowsA (pts (withP [q] p))))] = s ++ [some (.cells 29 2 (rowsA (pts (withP [q] p))))] := by
        unfold backS
        simp only [List.length_nil, List.drop_zero, List.map_cons, List.map_nil, renB_rowsA]
        congr 1
        refine List.ext_getElem? fun j => ?_
        rw [List.getElem?_map]
        by_cases hj : j < s.length
        · rw [List.getElem?_range hj]; simp [hj]
        · rw [List.getElem?_eq_none (by simp; omega), List.getElem?_eq_none (by omega)]; rfl
      rw [this]
      simpa [renA, nmR] using hq2
/-! ### Groups -/
def nmG : List ByteArray := [⟨#[111, 110, 101]⟩, ⟨#[116, 119, 111]⟩, ⟨#[103, 45, 51]⟩, ⟨#[120]⟩]
theorem nm_ne0 : ((List.range 4).all fun a => (List.range 4).all fun b => a == b || !((nmG.getD a ⟨#[]⟩).toList == (nmG.getD b ⟨#[]⟩).toList)) = true := by kernel_rfl
theorem nm_word0 : ((List.range 4).all fun a => wordB (nmG.getD a ⟨#[]⟩)) = true := by kernel_rfl
theorem nm_ne {a b : Nat} (ha : a < 4) (hb : b < 4) (hab : a ≠ b) : ((nmG.getD a ⟨#[]⟩).toList == (nmG.getD b ⟨#[]⟩).toList) = false := by
  have := List.all_eq_true.1 (List.all_eq_true.1 nm_ne0 a (List.mem_range.2 ha)) b (List.mem_range.2 hb)
  simp only [Bool.or_eq_true, beq_iff_eq, Bool.not_eq_true'] at this
  rcases this with h | h
  · exact absurd h hab
  · exact h
theorem nm_word {a : Nat} (ha : a < 4) : wordB (nmG.getD a ⟨#[]⟩) = true := List.all_eq_true.1 nm_word0 a (List.mem_range.2 ha)
/-- The groups so far: names from the last on. -/
structure GrI (ps : List Pt) (gs : List Gr) (n r : Nat) : Prop where
  len : gs.length + r = n
  ok : ∀ (i : Nat) (h : i < gs.length), grOk ps gs i gs[i] = true
  nm : ∀ (i : Nat) (h : i < gs.length), gs[i].1 = nmG.getD (n - i) ⟨#[]⟩
  sz : ∀ g ∈ gs, g.2.length ≤ 8
theorem gr0 (ps : List Pt) (n : Nat) : GrI ps [] n n := ⟨by simp, fun i h => by simp at h, fun i h => by simp at h, fun g h => by simp at h⟩
/-- A group's parts. -/
structure PtI (ps m : List Pt) : Prop where
  asc : AscP m
  sub : ∀ p ∈ m, p ∈ ps
  ne : m ≠ []
theorem PtI.len {ps m : List Pt} (h : PtI ps m) : m.length ≤ ps.length := nodup_len (asc_nodup h.asc) h.sub
theorem PtI.add {ps m : List Pt} (h : PtI ps m) {p : Pt} (hp : p ∈ ps) : PtI ps (withP m p) :=
  ⟨asc_withP h.asc, fun q hq => by
    rw [mem_withP] at hq
    rcases hq with rfl | hq
    · first | exact hp | exact h.sub _ ‹_›
    · first | exact h.sub q hq | exact hp | (rw [hq]; exact hp), withP_ne _ _⟩
theorem GrI.add {ps : List Pt} (hv : ps.all vldP = true) (hps : ps.length ≤ 8) {gs : List Gr} {n r : Nat} (hn : n < 4) (h : GrI ps gs n (r + 1)) {m : List Pt} (hm : PtI ps m) : GrI ps (gs ++ [(nmG.getD (r + 1) ⟨#[]⟩, m)]) n r := by
  have hl := h.len
  refine ⟨by simp; omega, fun i hi => ?_, fun i hi => ?_, fun g hg => ?_⟩
  · by_cases hig : i < gs.length
    · have := h.ok i hig
      rw [List.getElem_append_left hig]
      simp only [grOk] at this ⊢
      rw [List.take_append_of_le_length (by omega)]
      exact this
    · have hie : i = gs.length := by simp at hi; omega
      subst hie
      rw [List.getElem_append_right (Nat.le_refl _)]
      simp only [Nat.sub_self, List.getElem_cons_zero, grOk]
      rw [List.take_append_of_le_length (Nat.le_refl _), List.take_length]
      have h1 : wordB (nmG.getD (r + 1) ⟨#[]⟩) = true := nm_word (by omega)
      have h2 : gs.any (sameN (nmG.getD (r + 1) ⟨#[]⟩, m)) = false := by
        cases ha : gs.any (sameN (nmG.getD (r + 1) ⟨#[]⟩, m))
        · rfl
        · obtain ⟨g, hg, hs⟩ := List.any_eq_true.1 ha
          obtain ⟨k, hk, rfl⟩ := List.getElem_of_mem hg
          have := h.nm k hk
          simp only [sameN, this] at hs
          rw [nm_ne (by omega) (by omega) (by omega)] at hs
          cases hs
      have h3 : m.all (hasP ps) = true := List.all_eq_true.2 fun p hp => decide_eq_true (hm.sub p hp)
      have h4 : sortedP m = true := by
        rw [sortedP, Bool.and_eq_true]
        exact ⟨List.all_eq_true.2 fun p hp => List.all_eq_true.1 hv p (hm.sub p hp), ascB_asc.2 hm.asc⟩
      have h5 : ¬ m.length = 0 := fun e => hm.ne (List.eq_nil_of_length_eq_zero e)
      rw [h1, h2, h3, h4, decide_eq_false h5]; rfl
  · by_cases hig : i < gs.length
    · rw [List.getElem_append_left hig]; exact h.nm i hig
    · have hie : i = gs.length := by simp at hi; omega
      subst hie
      rw [List.getElem_append_right (Nat.le_refl _)]
      simp only [Nat.sub_self, List.getElem_cons_zero]
      congr 1; omega
  · rcases List.mem_append.1 hg with hg | hg
    · exact h.sz g hg
    · simp only [List.mem_singleton] at hg
      subst hg
      have := hm.len
      simp only; omega
theorem GrI.fin {ps : List Pt} {gs : List Gr} {n r : Nat} (h : GrI ps gs n r) : groupsP ps gs = true := decide_eq_true h.ok
end Go.Proofs.Ytkgeadhnagnloaa.H
