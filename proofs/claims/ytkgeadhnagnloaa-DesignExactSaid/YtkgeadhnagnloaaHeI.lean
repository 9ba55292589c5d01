/- Chapter 26: groups out of numbers. -/
import Derived.Test.YtkgeadhnagnloaaHeG
set_option linter.unusedSimpArgs false
set_option linter.unusedVariables false
namespace Go.Proofs.Ytkgeadhnagnloaa.H
def VGr (ps : List Pt) (rows : List (List D)) : Prop := ∃ gs : List Gr, rows = grs gs ∧ groupsP ps gs = true ∧ gs.length ≤ 3 ∧ ∀ g ∈ gs, g.2.length ≤ 8
/-- A group's parts: as they begin, or a list of its own. -/
def pV (b : Bool) (m : List Pt) : AV := if b then .own 3 0 m.length else .ful 2 (pts m)
def pB (b : Bool) (m : List Pt) : Option Blk := if b then some (.cells 29 2 (rowsA (pts m))) else none
theorem pV_t (m : List Pt) : pV true m = .own 3 0 m.length := rfl
theorem pV_f (m : List Pt) : pV false m = .ful 2 (pts m) := rfl
theorem pB_t (m : List Pt) : pB true m = some (.cells 29 2 (rowsA (pts m))) := rfl
theorem pB_f (m : List Pt) : pB false m = none := rfl
set_option maxRecDepth 100000 in
set_option maxHeartbeats 8000000 in
/-- A group's parts are put together. -/
theorem grouped_in {L : List Int} (hL : L.length ≤ 600) {ps : List Pt} (hps : ps.length ≤ 8) {p : Nat} (hp : p ≤ L.length) {nm : ByteArray} {x : Pt} (hx : x ∈ ps) {G : Option Blk} (hG : ∀ b, G = some b → belB 4 b = true ∧ ∀ r, renB r b = b) {vg : AV} (hvg : belA 4 vg = true) (hvr : ∀ rl, nmL rl 1 = 1 → renA (nmL rl) vg = vg) {k : Nat} {T : Tm} {s : St} {Q : Fl → Tm → St → Prop} {rl : List Nat}
    (hN : Nrm rl 1 T s [(36, AI .i64 0), (35, AI .i64 ps.length), (34, LP ps), (0, .ptr 0 0 0), (1, LP ps), (5, vg), (6, AI .i64 k), (7, .ptr 2 0 0)] [SrcS SRC L p, G, some (.cells 32 2 [[.d (.v (.string nm)), .ful 2 (pts [x])]]), none])
    (hQ : ∀ T s rl p b m, p ≤ L.length → PtI ps m → Nrm rl 1 T s [(0, .ptr 0 0 0), (1, LP ps), (5, vg), (6, AI .i64 k), (7, .ptr 2 0 0)] [SrcS SRC L p, G, some (.cells 32 2 [[.d (.v (.string nm)), pV b m]]), pB b m] → Q .normal T s) : AW Try.prog 54 1 (rangeC 2 36 35 37 48 c37_0) T s Q := by
  refine AW.range (α := Nat × Bool × List Pt) ps.length (by omega) (by decide) (fun _ _ => [(34, LP ps), (0, .ptr 0 0 0), (1, LP ps), (5, vg), (6, AI .i64 k), (7, .ptr 2 0 0)]) (fun _ a => [SrcS SRC L a.1, G, some (.cells 32 2 [[.d (.v (.string nm)), pV a.2.1 a.2.2]]), pB a.2.1 a.2.2])
    (fun _ a => a.1 ≤ L.length ∧ PtI ps a.2.2 ∧ (a.2.1 = false → ∃ q, a.2.2 = [q])) (p, false, [x]) ⟨hp, ⟨by simp [AscP], fun q hq => by simp only [List.mem_singleton] at hq; rw [hq]; exact hx, by simp⟩, fun _ => ⟨x, rfl⟩⟩ rl hN (by simp) ?_ ?_
  · rintro i ⟨p, b, m⟩ hi ⟨hp, hm, hb⟩
    simp only at hp hm hb ⊢
    have hmem := List.getElem_mem hi
    have hgd := getD_map_lt (f := ptR) (d := []) hi
    generalize ps[i] = y at hmem hgd
    have hml := hm.len
    have hNG : ∀ (s' : St) (j : Nat) (l : St), NS 4 (nmL [0, 1, 2, j]) s' 2 l → s'[1]? = some G → NS 4 (nmL [0, 1, 2, j]) s' 1 (G :: l) := fun s' j l h h1 => by
      cases G with
      | none => exact h
      | some g => exact ⟨⟨(hG g rfl).1, by rw [(hG g rfl).2]; exact h1⟩, h⟩
    have hv5 := hvr [0, 1, 2, 5] rfl
    have hv3 := hvr [0, 1, 2, 3] rfl
    unfold c37_0
    cases b with
    | false =>
      obtain ⟨q, rfl⟩ := hb rfl
      rw [pV_f, pB_f]
      have hA := hm.add hmem
      repeat' (first | refine AW.seq' ?_ | with_reducible refine AW.blockS rfl ?_ | ((first | refine AW.ops ?_ | refine AW.draw ?_ | refine AW.skip ?_ | refine AW.ret ?_ | refine AW.exit ?_ |  (refine SFn.call (n_ok hL 4 (by omega)) rfl rfl (by assumption) (fun v p hp hv hb => ?_); obtain ⟨z, z0, z1, rfl⟩ := hv) |  (refine with1_call q y (fun he => ?_) ?_)) <;> simp only [RS, LS, SY, ne_eq, isFl, floatV, constA, thenQ, blockQ, pack, intA, boolA, eqA, unA, nilcA, asI, asB, asS, loadA, idxA, lenA, slcA, AV.flat, AV.one, zA1, storeA, toD, srcOf, copyA, ↓reduceIte, reduceCtorEq, List.replicate, Nat.reduceBEq, Nat.reduceAdd, Nat.reduceMul, Nat.reduceSub, Nat.reduceLeDiff, Nat.reduceLT, Int.reduceToNat, Nat.reduceEqDiff, Int.reduceEq, hgd]) | refine AW.condT rfl ?_ | refine AW.condF rfl ?_ | ((first | refine GI.of (fun h => ?_) (fun h => ?_) (by first | exact Classical.em _ | exact (Classical.em _).symm | grind) | refine GD.of (fun h => ?_) (fun h => ?_) (by first | exact Classical.em _ | exact (Classical.em _).symm | grind)) <;> simp only [RS, LS, SY, ne_eq, isFl, floatV, constA, thenQ, blockQ, pack, intA, boolA, eqA, unA, nilcA, asI, asB, asS, loadA, idxA, lenA, slcA, AV.flat, AV.one, zA1, storeA, toD, srcOf, copyA, ↓reduceIte, reduceCtorEq, List.replicate, Nat.reduceBEq, Nat.reduceAdd, Nat.reduceMul, Nat.reduceSub, Nat.reduceLeDiff, Nat.reduceLT, Int.reduceToNat, Nat.reduceEqDiff, Int.reduceEq, hgd, h]) | (refine AW.condP rfl (fun h => ?_) (fun h => ?_) <;> try simp only [Bool.and_eq_true, decide_eq_true_eq, Bool.not_eq_true', decide_eq_false_iff_not, Bool.not_eq_false', Bool.not_eq_true, Bool.not_eq_false] at h) | refine And.intro (by omega) ?_ | fail)
      · exact ⟨(p, false, [q]), [0, 1, 2, 3], ⟨hp, hm, fun _ => ⟨q, rfl⟩⟩, rfl, by decide, rfl, ⟨⟨rfl, rfl⟩, ⟨rfl, rfl⟩, ⟨rfl, rfl⟩, ⟨rfl, rfl⟩, ⟨rfl, rfl⟩, ⟨hvg, by rw [hv3]; rfl⟩, ⟨rfl, rfl⟩, ⟨rfl, rfl⟩, trivial⟩, ⟨⟨rfl, rfl⟩, hNG _ 3 _ ⟨⟨rfl, rfl⟩, trivial⟩ rfl⟩⟩
      · exact ⟨(p, true, withP [q] y), [0, 1, 2, 5], ⟨hp, hA, fun h => (by cases h)⟩, rfl, by decide, rfl, ⟨⟨rfl, rfl⟩, ⟨rfl, rfl⟩, ⟨rfl, rfl⟩, ⟨rfl, rfl⟩, ⟨rfl, rfl⟩, ⟨hvg, by rw [hv5]; rfl⟩, ⟨rfl, rfl⟩, ⟨rfl, rfl⟩, trivial⟩, ⟨⟨rfl, rfl⟩, hNG _ 5 _ ⟨⟨rfl, rfl⟩, ⟨⟨belB_rowsA _ _ _ (pts (withP [q] y)), by rw [renB_rowsA]; rfl⟩, trivial⟩⟩ rfl⟩⟩
      · exact ⟨(p, false, [q]), [0, 1, 2, 3], ⟨hp, hm, fun _ => ⟨q, rfl⟩⟩, rfl, by decide, rfl, ⟨⟨rfl, rfl⟩, ⟨rfl, rfl⟩, ⟨rfl, rfl⟩, ⟨rfl, rfl⟩, ⟨rfl, rfl⟩, ⟨hvg, by rw [hv3]; rfl⟩, ⟨rfl, rfl⟩, ⟨rfl, rfl⟩, trivial⟩, ⟨⟨rfl, rfl⟩, hNG _ 3 _ ⟨⟨rfl, rfl⟩, trivial⟩ rfl⟩⟩
    | true =>
      rw [pV_t, pB_t]
      have hA := hm.add hmem
      repeat' (first | refine AW.seq' ?_ | with_reducible refine AW.blockS rfl ?_ | ((first | refine AW.ops ?_ | refine AW.draw ?_ | refine AW.skip ?_ | refine AW.ret ?_ | refine AW.exit ?_ |  (refine SFn.call (n_ok hL 4 (by omega)) rfl rfl (by assumption) (fun v p hp hv hb => ?_); obtain ⟨z, z0, z1, rfl⟩ := hv) |  (refine with_ok m (by omega) y rfl ?_)) <;> simp only [RS, LS, SY, ne_eq, isFl, floatV, constA, thenQ, blockQ, pack, intA, boolA, eqA, unA, nilcA, asI, asB, asS, loadA, idxA, lenA, slcA, AV.flat, AV.one, zA1, storeA, toD, srcOf, copyA, ↓reduceIte, reduceCtorEq, List.replicate, Nat.reduceBEq, Nat.reduceAdd, Nat.reduceMul, Nat.reduceSub, Nat.reduceLeDiff, Nat.reduceLT, Int.reduceToNat, Nat.reduceEqDiff, Int.reduceEq, hgd]) | refine AW.condT rfl ?_ | refine AW.condF rfl ?_ | ((first | refine GI.of (fun h => ?_) (fun h => ?_) (by first | exact Classical.em _ | exact (Classical.em _).symm | grind) | refine GD.of (fun h => ?_) (fun h => ?_) (by first | exact Classical.em _ | exact (Classical.em _).symm | grind)) <;> simp only [RS, LS, SY, ne_eq, isFl, floatV, constA, thenQ, blockQ, pack, intA, boolA, eqA, unA, nilcA, asI, asB, asS, loadA, idxA, lenA, slcA, AV.flat, AV.one, zA1, storeA, toD, srcOf, copyA, ↓reduceIte, reduceCtorEq, List.replicate, Nat.reduceBEq, Nat.reduceAdd, Nat.reduceMul, Nat.reduceSub, Nat.reduceLeDiff, Nat.reduceLT, Int.reduceToNat, Nat.reduceEqDiff, Int.reduceEq, hgd, h]) | (refine AW.condP rfl (fun h => ?_) (fun h => ?_) <;> try simp only [Bool.and_eq_true, decide_eq_true_eq, Bool.not_eq_true', decide_eq_false_iff_not, Bool.not_eq_false', Bool.not_eq_true, Bool.not_eq_false] at h) | refine And.intro (by omega) ?_ | fail)
      · exact ⟨(p, true, withP m y), [0, 1, 2, 5], ⟨hp, hA, fun h => (by cases h)⟩, rfl, by decide, rfl, ⟨⟨rfl, rfl⟩, ⟨rfl, rfl⟩, ⟨rfl, rfl⟩, ⟨rfl, rfl⟩, ⟨rfl, rfl⟩, ⟨hvg, by rw [hv5]; rfl⟩, ⟨rfl, rfl⟩, ⟨rfl, rfl⟩, trivial⟩, ⟨⟨rfl, rfl⟩, hNG _ 5 _ ⟨⟨rfl, rfl⟩, ⟨⟨belB_rowsA _ _ _ (pts (withP m y)), by rw [renB_rowsA]; rfl⟩, trivial⟩⟩ rfl⟩⟩
      · exact ⟨(p, true, m), [0, 1, 2, 3], ⟨hp, hm, fun h => (by cases h)⟩, rfl, by decide, rfl, ⟨⟨rfl, rfl⟩, ⟨rfl, rfl⟩, ⟨rfl, rfl⟩, ⟨rfl, rfl⟩, ⟨rfl, rfl⟩, ⟨hvg, by rw [hv3]; rfl⟩, ⟨rfl, rfl⟩, ⟨rfl, rfl⟩, trivial⟩, ⟨⟨rfl, rfl⟩, hNG _ 3 _ ⟨⟨rfl, rfl⟩, ⟨⟨belB_rowsA _ _ _ (pts m), by rw [renB_rowsA]; rfl⟩, trivial⟩⟩ rfl⟩⟩
  · rintro ⟨p, b, m⟩ ⟨hp, hm, hb⟩
    simp only at hp hm hb ⊢
    have hv3 := hvr [0, 1, 2, 3] rfl
    have hNG : ∀ (s' : St) (l : St), NS 4 (nmL [0, 1, 2, 3]) s' 2 l → s'[1]? = some G → NS 4 (nmL [0, 1, 2, 3]) s' 1 (G :: l) := fun s' l h h1 => by
      cases G with
      | none => exact h
      | some g => exact ⟨⟨(hG g rfl).1, by rw [(hG g rfl).2]; exact h1⟩, h⟩
    refine hQ _ _ [0, 1, 2, 3] p b m hp hm ⟨rfl, by decide, rfl, ⟨⟨rfl, rfl⟩, ⟨rfl, rfl⟩, ⟨hvg, by rw [hv3]; rfl⟩, ⟨rfl, rfl⟩, ⟨rfl, rfl⟩, trivial⟩, ⟨⟨rfl, rfl⟩, hNG _ _ ?_ rfl⟩⟩
    cases b
    · exact ⟨⟨rfl, rfl⟩, trivial⟩
    · exact ⟨⟨rfl, rfl⟩, ⟨⟨belB_rowsA _ _ _ (pts m), by rw [renB_rowsA]; rfl⟩, trivial⟩⟩
theorem frzB_rowsA {id k T k' : Nat} {rows R : List (List D)} : frzB id k rows (.cells T k' (rowsA R)) = .cells T k' (rowsA R) := by
  simp only [frzB]
  congr 1
  unfold rowsA
  rw [List.map_map]
  refine List.map_congr_left fun r _ => ?_
  simp [Function.comp, frzL_map, frzA]
theorem fitB_rowsA {id n T k' : Nat} {R : List (List D)} : fitB id n (.cells T k' (rowsA R)) := by
  simp only [fitB]
  intro r hr
  unfold rowsA at hr
  obtain ⟨x, _, rfl⟩ := List.mem_map.1 hr
  rw [fitL_iff]
  intro v hv
  obtain ⟨d, _, rfl⟩ := List.mem_map.1 hv
  trivial
theorem gG_ok (gs : List Gr) : (∀ b, gBg 32 2 grR gs = some b → belB 4 b = true ∧ ∀ r, renB r b = b) ∧ belA 4 (gVg 1 gs) = true ∧ ∀ rl, nmL rl 1 = 1 → renA (nmL rl) (gVg 1 gs) = gVg 1 gs := by
  cases gs with
  | nil => exact ⟨fun b h => (by cases h), rfl, fun rl _ => rfl⟩
  | cons g gs =>
    refine ⟨fun b h => ?_, rfl, fun rl h => ?_⟩
    · simp only [gBg, Option.some.injEq] at h
      subst h
      exact ⟨belB_rowsA .., fun r => renB_rowsA ..⟩
    · simp only [gVg, renA, h]
/-- A group is added. -/
theorem group_add {L : List Int} {ps : List Pt} {p : Nat} {gs : List Gr} {nm : ByteArray} {m : List Pt} {pv : AV} (hpv : pv = LP m ∨ pv = .ful 2 (pts m)) (hgl : gs.length ≤ 3) {k : Nat} {Q : Fl → Tm → St → Prop}
    (hQ : ∀ T s rl, Nrm rl 1 T s [(0, .ptr 0 0 0), (1, LP ps), (6, AI .i64 k), (5, gVg 1 (gs ++ [(nm, m)]))] [SrcS SRC L p, gBg 32 2 grR (gs ++ [(nm, m)])] → Q .normal T s) :
    AW Try.prog 54 1 (.ops [.f (some 49) none (.mv (.tmp 5)), .f (some 50) none (.load (some 2) (.tmp 7)), .k (some 51) none (.bslice 32 2 1 [(.string ⟨#[]⟩), (.slice none 0 0)] [(0, 2, (.tmp 50))]), .k (some 52) none (.append 32 2 40 (.tmp 49) (.tmp 51)), .k (some 5) none (.asg (.tmp 52))])
      [(0, .ptr 0 0 0), (1, LP ps), (5, gVg 1 gs), (6, AI .i64 k), (7, .ptr 2 0 0)] [SrcS SRC L p, gBg 32 2 grR gs, some (.cells 32 2 [[.d (.v (.string nm)), pv]]), none] Q := by
  rcases hpv with rfl | rfl <;> cases gs with
  | nil =>
    rw [gVg_nil, gBg_nil]
    repeat' (first | refine AW.seq' ?_ | with_reducible refine AW.blockS rfl ?_ | ((first | refine AW.ops ?_ | refine AW.draw ?_ | refine AW.skip ?_ | refine AW.ret ?_ | refine AW.exit ?_) <;> simp only [RS, LS, SY, ne_eq, isFl, floatV, constA, thenQ, blockQ, pack, intA, boolA, eqA, unA, nilcA, asI, asB, asS, loadA, idxA, lenA, slcA, AV.flat, AV.one, zA1, storeA, toD, srcOf, copyA, ↓reduceIte, reduceCtorEq, List.replicate, Nat.reduceBEq, Nat.reduceAdd, Nat.reduceMul, Nat.reduceSub, Nat.reduceLeDiff, Nat.reduceLT, Int.reduceToNat, Nat.reduceEqDiff, Int.reduceEq]) | refine AW.condT rfl ?_ | refine AW.condF rfl ?_ | ((first | refine GI.of (fun h => ?_) (fun h => ?_) (by first | exact Classical.em _ | exact (Classical.em _).symm | grind) | refine GD.of (fun h => ?_) (fun h => ?_) (by first | exact Classical.em _ | exact (Classical.em _).symm | grind)) <;> simp only [RS, LS, SY, ne_eq, isFl, floatV, constA, thenQ, blockQ, pack, intA, boolA, eqA, unA, nilcA, asI, asB, asS, loadA, idxA, lenA, slcA, AV.flat, AV.one, zA1, storeA, toD, srcOf, copyA, ↓reduceIte, reduceCtorEq, List.replicate, Nat.reduceBEq, Nat.reduceAdd, Nat.reduceMul, Nat.reduceSub, Nat.reduceLeDiff, Nat.reduceLT, Int.reduceToNat, Nat.reduceEqDiff, Int.reduceEq, h]) | (refine AW.condP rfl (fun h => ?_) (fun h => ?_) <;> try simp only [Bool.and_eq_true, decide_eq_true_eq, Bool.not_eq_true', decide_eq_false_iff_not, Bool.not_eq_false', Bool.not_eq_true, Bool.not_eq_false] at h) | refine And.intro (by omega) ?_ | fail)
    exact hQ _ _ [0, 4] ⟨rfl, by decide, rfl, by simp [NT, belA, belL, tget, renA, renL, nmL, gVg], ⟨⟨rfl, rfl⟩, ⟨⟨rfl, rfl⟩, trivial⟩⟩⟩
  | cons g gs =>
    rw [List.cons_append] at hQ
    rw [gVg_cons, gBg_cons]
    have htk : List.take gs.length (List.map grR gs) = List.map grR gs := List.take_of_length_le (by simp)
    simp only [List.length_cons] at hgl
    repeat' (first | refine AW.seq' ?_ | with_reducible refine AW.blockS rfl ?_ | ((first | refine AW.ops ?_ | refine AW.draw ?_ | refine AW.skip ?_ | refine AW.ret ?_ | refine AW.exit ?_) <;> simp only [RS, LS, SY, ne_eq, isFl, floatV, constA, thenQ, blockQ, pack, intA, boolA, eqA, unA, nilcA, asI, asB, asS, loadA, idxA, lenA, slcA, AV.flat, AV.one, zA1, storeA, toD, srcOf, copyA, ↓reduceIte, reduceCtorEq, List.replicate, Nat.reduceBEq, Nat.reduceAdd, Nat.reduceMul, Nat.reduceSub, Nat.reduceLeDiff, Nat.reduceLT, Int.reduceToNat, Nat.reduceEqDiff, Int.reduceEq, htk]) | refine AW.condT rfl ?_ | refine AW.condF rfl ?_ | ((first | refine GI.of (fun h => ?_) (fun h => ?_) (by first | exact Classical.em _ | exact (Classical.em _).symm | grind) | refine GD.of (fun h => ?_) (fun h => ?_) (by first | exact Classical.em _ | exact (Classical.em _).symm | grind)) <;> simp only [RS, LS, SY, ne_eq, isFl, floatV, constA, thenQ, blockQ, pack, intA, boolA, eqA, unA, nilcA, asI, asB, asS, loadA, idxA, lenA, slcA, AV.flat, AV.one, zA1, storeA, toD, srcOf, copyA, ↓reduceIte, reduceCtorEq, List.replicate, Nat.reduceBEq, Nat.reduceAdd, Nat.reduceMul, Nat.reduceSub, Nat.reduceLeDiff, Nat.reduceLT, Int.reduceToNat, Nat.reduceEqDiff, Int.reduceEq, htk, h]) | (refine AW.condP rfl (fun h => ?_) (fun h => ?_) <;> try simp only [Bool.and_eq_true, decide_eq_true_eq, Bool.not_eq_true', decide_eq_false_iff_not, Bool.not_eq_false', Bool.not_eq_true, Bool.not_eq_false] at h) | refine And.intro (by omega) ?_ | fail)
    have e : rowsA (grs (g :: (gs ++ [(nm, m)]))) = List.map AV.d (grR g) :: (rowsA (List.map grR gs) ++ [[.d (.v (.string nm)), LP m]]) := by simp [rowsA, grR]
    exact hQ _ _ [0, 4] ⟨rfl, by decide, rfl, by simp [NT, belA, belL, tget, renA, renL, nmL, gVg], ⟨⟨rfl, rfl⟩, ⟨⟨belB_rowsA _ _ _ (grs (g :: (gs ++ [(nm, m)]))), by rw [renB_rowsA, e]; rfl⟩, trivial⟩⟩⟩
set_option maxRecDepth 100000 in
set_option maxHeartbeats 8000000 in
theorem grouped_ok {L : List Int} (hL : L.length ≤ 600) (ps : List Pt) (ha : AscP ps) (hv : ps.all vldP = true) (hps : ps.length ≤ 8) : SFnO Try.prog SRC L 37 [LP ps] 32 2 (VGr ps) := by
  intro p hp
  refine ACalls.of fn37 (by simp) ?_
  unfold c37
  repeat' (first | refine AW.seq' ?_ | with_reducible refine AW.blockS rfl ?_ | ((first | refine AW.ops ?_ | refine AW.draw ?_ | refine AW.skip ?_ | refine AW.ret ?_ | refine AW.exit ?_ |  (refine SFn.call (n_ok hL 4 (by omega)) rfl rfl (by assumption) (fun v p hp hv hb => ?_); obtain ⟨z, z0, z1, rfl⟩ := hv; obtain ⟨n, rfl⟩ := Int.eq_ofNat_of_zero_le z0)) <;> simp only [RS, LS, SY, ne_eq, isFl, floatV, constA, thenQ, blockQ, pack, intA, boolA, eqA, unA, nilcA, asI, asB, asS, loadA, idxA, lenA, slcA, AV.flat, AV.one, zA1, storeA, toD, srcOf, copyA, ↓reduceIte, reduceCtorEq, List.replicate, Nat.reduceBEq, Nat.reduceAdd, Nat.reduceMul, Nat.reduceSub, Nat.reduceLeDiff, Nat.reduceLT, Int.reduceToNat, Nat.reduceEqDiff, Int.reduceEq]) | refine AW.condT rfl ?_ | refine AW.condF rfl ?_ | ((first | refine GI.of (fun h => ?_) (fun h => ?_) (by first | exact Classical.em _ | exact (Classical.em _).symm | grind) | refine GD.of (fun h => ?_) (fun h => ?_) (by first | exact Classical.em _ | exact (Classical.em _).symm | grind)) <;> simp only [RS, LS, SY, ne_eq, isFl, floatV, constA, thenQ, blockQ, pack, intA, boolA, eqA, unA, nilcA, asI, asB, asS, loadA, idxA, lenA, slcA, AV.flat, AV.one, zA1, storeA, toD, srcOf, copyA, ↓reduceIte, reduceCtorEq, List.replicate, Nat.reduceBEq, Nat.reduceAdd, Nat.reduceMul, Nat.reduceSub, Nat.reduceLeDiff, Nat.reduceLT, Int.reduceToNat, Nat.reduceEqDiff, Int.reduceEq, h]) | (refine AW.condP rfl (fun h => ?_) (fun h => ?_) <;> try simp only [Bool.and_eq_true, decide_eq_true_eq, Bool.not_eq_true', decide_eq_false_iff_not, Bool.not_eq_false', Bool.not_eq_true, Bool.not_eq_false] at h) | refine And.intro (by omega) ?_ | fail)
  have hn : n < 4 := by omega
  refine AW.block ?_
  refine AW.loopA (α := Nat × Nat × List Gr) (fun a => a.1) (fun a => [(0, .ptr 0 0 0), (1, LP ps), (6, AI .i64 a.1), (5, gVg 1 a.2.2)]) (fun a => [SrcS SRC L a.2.1, gBg 32 2 grR a.2.2]) (fun a => a.2.1 ≤ L.length ∧ GrI ps a.2.2 n a.1) (n, p, []) ⟨hp, gr0 ps n⟩ [0, 1] ⟨rfl, by decide, rfl, by simp [NT, belA, belL, tget, renA, renL, nmL, gVg], ⟨⟨rfl, rfl⟩, trivial⟩⟩ ?_
  rintro ⟨r, p, gs⟩ ⟨hp, hI⟩
  simp only at hp hI ⊢
  have hgn := hI.len
  have hV : VGr ps (grs gs) := ⟨gs, rfl, hI.fin, by omega, hI.sz⟩
  unfold c37_1
  by_cases hgo : 0 < r ∧ 0 < ps.length
  · obtain ⟨hr0, hp0⟩ := hgo
    obtain ⟨r, rfl⟩ : ∃ k, r = k + 1 := ⟨r - 1, by omega⟩
    have c1 : (0 : Int) < ((r + 1 : Nat) : Int) := by omega
    have c2 : (0 : Int) < (ps.length : Int) := by omega
    have c3 : ((r + 1 : Nat) : Int) < 4 := by omega
    have hnm : ([[D.v (.string ⟨#[111, 110, 101]⟩)], [D.v (.string ⟨#[116, 119, 111]⟩)], [D.v (.string ⟨#[103, 45, 51]⟩)], [D.v (.string ⟨#[120]⟩)]] : List (List D)).getD (r + 1) [] = [.v (.string (nmG.getD (r + 1) ⟨#[]⟩))] := by
      rcases (by omega : r = 0 ∨ r = 1 ∨ r = 2) with rfl | rfl | rfl <;> rfl
    obtain ⟨g1, g2, g3⟩ := gG_ok gs
    repeat' (first | refine AW.seq' ?_ | with_reducible refine AW.blockS rfl ?_ | ((first | refine AW.ops ?_ | refine AW.draw ?_ | refine AW.skip ?_ | refine AW.ret ?_ | refine AW.exit ?_ |  (refine SFn.call (n_ok hL (ps.length : Int) (by omega)) rfl rfl (by assumption) (fun v p hp hv hb => ?_); obtain ⟨z, z0, z1, rfl⟩ := hv; obtain ⟨z, rfl⟩ := Int.eq_ofNat_of_zero_le z0)) <;> simp (disch := omega) only [RS, LS, SY, ne_eq, isFl, floatV, constA, thenQ, blockQ, pack, intA, boolA, eqA, unA, nilcA, asI, asB, asS, loadA, idxA, lenA, slcA, AV.flat, AV.one, zA1, storeA, toD, srcOf, copyA, ↓reduceIte, reduceCtorEq, List.replicate, Nat.reduceBEq, Nat.reduceAdd, Nat.reduceMul, Nat.reduceSub, Nat.reduceLeDiff, Nat.reduceLT, Int.reduceToNat, Nat.reduceEqDiff, Int.reduceEq, wrap_id, c1, c2, c3, hnm, @getD_map_lt _ _ ptR ps]) | refine AW.condT rfl ?_ | refine AW.condF rfl ?_ | ((first | refine GI.of (fun h => ?_) (fun h => ?_) (by first | exact Classical.em _ | exact (Classical.em _).symm | grind) | refine GD.of (fun h => ?_) (fun h => ?_) (by first | exact Classical.em _ | exact (Classical.em _).symm | grind)) <;> simp (disch := omega) only [RS, LS, SY, ne_eq, isFl, floatV, constA, thenQ, blockQ, pack, intA, boolA, eqA, unA, nilcA, asI, asB, asS, loadA, idxA, lenA, slcA, AV.flat, AV.one, zA1, storeA, toD, srcOf, copyA, ↓reduceIte, reduceCtorEq, List.replicate, Nat.reduceBEq, Nat.reduceAdd, Nat.reduceMul, Nat.reduceSub, Nat.reduceLeDiff, Nat.reduceLT, Int.reduceToNat, Nat.reduceEqDiff, Int.reduceEq, wrap_id, c1, c2, c3, hnm, @getD_map_lt _ _ ptR ps, h]) | (refine AW.condP rfl (fun h => ?_) (fun h => ?_) <;> try simp only [Bool.and_eq_true, decide_eq_true_eq, Bool.not_eq_true', decide_eq_false_iff_not, Bool.not_eq_false', Bool.not_eq_true, Bool.not_eq_false] at h) | refine And.intro (by omega) ?_ | fail)
    have hNG : ∀ (n : Nat) (rl : List Nat) (s' : St) (l : St), NS n (nmL rl) s' 2 l → s'[nmL rl 1]? = some (gBg 32 2 grR gs) → NS n (nmL rl) s' 1 (gBg 32 2 grR gs :: l) := fun n rl s' l h h1 => by
      cases gs with
      | nil => exact h
      | cons g gs => exact ⟨⟨belB_rowsA _ _ _ (grs (g :: gs)), by rw [renB_rowsA]; exact h1⟩, h⟩
    refine grouped_in (k := r + 1) (x := ps[z]) (vg := gVg 1 gs) (G := gBg 32 2 grR gs) (rl := [0, 1, 2, 3]) hL hps (by assumption) (List.getElem_mem (by omega)) g1 g2 g3 ⟨rfl, by decide, rfl, ⟨⟨rfl, rfl⟩, ⟨rfl, rfl⟩, ⟨rfl, rfl⟩, ⟨rfl, rfl⟩, ⟨rfl, rfl⟩, ⟨g2, by rw [g3 _ rfl]; rfl⟩, ⟨rfl, rfl⟩, ⟨rfl, rfl⟩, trivial⟩, ⟨⟨rfl, rfl⟩, hNG _ _ _ _ ⟨⟨rfl, rfl⟩, trivial⟩ rfl⟩⟩ ?_
    intro T s rl p b m hp hm hN
    refine AW.nrm rl hN ?_
    have hfin : ∀ {Q : Fl → Tm → St → Prop}, (∀ T s rl, Nrm rl 1 T s [(0, .ptr 0 0 0), (1, LP ps), (6, AI .i64 (r + 1 : Nat)), (5, gVg 1 (gs ++ [(nmG.getD (r + 1) ⟨#[]⟩, m)]))] [SrcS SRC L p, gBg 32 2 grR (gs ++ [(nmG.getD (r + 1) ⟨#[]⟩, m)])] → Q .normal T s) → AW Try.prog 54 1 (.ops [.f (some 49) none (.mv (.tmp 5)), .f (some 50) none (.load (some 2) (.tmp 7)), .k (some 51) none (.bslice 32 2 1 [(.string ⟨#[]⟩), (.slice none 0 0)] [(0, 2, (.tmp 50))]), .k (some 52) none (.append 32 2 40 (.tmp 49) (.tmp 51)), .k (some 5) none (.asg (.tmp 52))])
      [(0, .ptr 0 0 0), (1, LP ps), (5, gVg 1 gs), (6, AI .i64 (r + 1 : Nat)), (7, .ptr 2 0 0)] [SrcS SRC L p, gBg 32 2 grR gs, some (.cells 32 2 [[.d (.v (.string (nmG.getD (r + 1) ⟨#[]⟩))), pV b m]]), pB b m] Q := fun hQ => by
      cases b with
      | false => exact group_add (.inr rfl) (by omega) hQ
      | true =>
        have f1 : frzA 3 2 (pts m) (gVg 1 gs) = gVg 1 gs := by cases gs <;> simp [gVg, frzA]
        have f2 : ∀ n, fitA 3 n (gVg 1 gs) := fun n => by cases gs <;> simp [gVg, fitA]
        have f3 : ∀ n, n = 3 → gBg 32 2 grR gs = (gBg 32 2 grR gs).map (frzB n 2 (pts m)) ∧ ∀ g, gBg 32 2 grR gs = some g → fitB n (pts m).length g := fun n hn => by
          cases gs with
          | nil => exact ⟨rfl, fun g h => by cases h⟩
          | cons g gs => exact ⟨by rw [gBg_cons, Option.map_some, frzB_rowsA], fun g h => by rw [gBg_cons, Option.some.injEq] at h; subst h; exact fitB_rowsA⟩
        refine AW.frz (id := 3) (t := 29) (k := 2) (rows := pts m) rfl [(0, .ptr 0 0 0), (1, LP ps), (5, gVg 1 gs), (6, AI .i64 (r + 1 : Nat)), (7, .ptr 2 0 0)] [SrcS SRC L p, gBg 32 2 grR gs, some (.cells 32 2 [[.d (.v (.string (nmG.getD (r + 1) ⟨#[]⟩))), LP m]]), none] ?_ ?_ rfl (group_add (.inl rfl) (by omega) hQ)
        · simp [FT, tget, frzA, frzL, fitA, fitL, f1, f2]
        · cases gs with
          | nil => simp [FS, frzB, frzL, frzA, fitB, fitL, fitA, pV, pB, gBg, List.take_of_length_le]
          | cons g gs =>
            rw [gBg_cons]
            simp [FS, frzB, frzL, frzA, fitB, fitL, fitA, pV, pB, List.take_of_length_le]
            have h1 := frzB_rowsA (id := 3) (k := 2) (T := 32) (k' := 2) (rows := pts m) (R := grs (g :: gs))
            simp only [frzB, Blk.cells.injEq, true_and] at h1
            exact ⟨h1.symm, fitB_rowsA (T := 32) (k' := 2)⟩
    refine hfin fun T s rl hN => AW.nrm rl hN ?_
    have hI2 := hI.add hv hps hn hm
    have hr1 : ((r + 1 : Nat) : Int) - 1 = r := by omega
    generalize gs ++ [(nmG.getD (r + 1) ⟨#[]⟩, m)] = gs2 at hI2
    repeat' (first | refine AW.seq' ?_ | with_reducible refine AW.blockS rfl ?_ | ((first | refine AW.ops ?_ | refine AW.draw ?_ | refine AW.skip ?_ | refine AW.ret ?_ | refine AW.exit ?_) <;> simp (disch := omega) only [RS, LS, SY, ne_eq, isFl, floatV, constA, thenQ, blockQ, pack, intA, boolA, eqA, unA, nilcA, asI, asB, asS, loadA, idxA, lenA, slcA, AV.flat, AV.one, zA1, storeA, toD, srcOf, copyA, ↓reduceIte, reduceCtorEq, List.replicate, Nat.reduceBEq, Nat.reduceAdd, Nat.reduceMul, Nat.reduceSub, Nat.reduceLeDiff, Nat.reduceLT, Int.reduceToNat, Nat.reduceEqDiff, Int.reduceEq, wrap_id]) | refine AW.condT rfl ?_ | refine AW.condF rfl ?_ | ((first | refine GI.of (fun h => ?_) (fun h => ?_) (by first | exact Classical.em _ | exact (Classical.em _).symm | grind) | refine GD.of (fun h => ?_) (fun h => ?_) (by first | exact Classical.em _ | exact (Classical.em _).symm | grind)) <;> simp (disch := omega) only [RS, LS, SY, ne_eq, isFl, floatV, constA, thenQ, blockQ, pack, intA, boolA, eqA, unA, nilcA, asI, asB, asS, loadA, idxA, lenA, slcA, AV.flat, AV.one, zA1, storeA, toD, srcOf, copyA, ↓reduceIte, reduceCtorEq, List.replicate, Nat.reduceBEq, Nat.reduceAdd, Nat.reduceMul, Nat.reduceSub, Nat.reduceLeDiff, Nat.reduceLT, Int.reduceToNat, Nat.reduceEqDiff, Int.reduceEq, wrap_id, h]) | (refine AW.condP rfl (fun h => ?_) (fun h => ?_) <;> try simp only [Bool.and_eq_true, decide_eq_true_eq, Bool.not_eq_true', decide_eq_false_iff_not, Bool.not_eq_false', Bool.not_eq_true, Bool.not_eq_false] at h) | refine And.intro (by omega) ?_ | fail)
    refine ⟨(r, p, gs2), [0, 1], ⟨hp, hI2⟩, by simp only; omega, rfl, by decide, rfl, ⟨⟨rfl, rfl⟩, ⟨rfl, rfl⟩, ⟨rfl, by rw [hr1]; rfl⟩, ⟨by cases gs2 <;> rfl, by cases gs2 <;> rfl⟩, trivial⟩, ⟨⟨rfl, rfl⟩, ?_⟩⟩
    cases gs2 with
    | nil => trivial
    | cons g gs2 => exact ⟨⟨belB_rowsA _ _ _ (grs (g :: gs2)), by rw [renB_rowsA]; rfl⟩, trivial⟩
  · have hno : ¬ (0 : Int) < (r : Int) ∨ ((0 : Int) < (r : Int) ∧ ¬ (0 : Int) < (ps.length : Int)) := by omega
    cases gs with
    | nil =>
      rw [gVg_nil, gBg_nil]
      refine AW.nrm [0] (T' := [(1, LP ps), (6, AI .i64 r), (5, .ful 0 [])]) (s' := [SrcS SRC L p]) ⟨rfl, by decide, rfl, by simp [NT, belA, belL, tget, renA, renL, nmL], ⟨⟨rfl, rfl⟩, trivial⟩⟩ ?_
      rcases hno with hno | ⟨hno1, hno2⟩
      · repeat' (first | refine AW.seq' ?_ | with_reducible refine AW.blockS rfl ?_ | ((first | refine AW.ops ?_ | refine AW.draw ?_ | refine AW.skip ?_ | refine AW.ret ?_ | refine AW.exit ?_) <;> simp only [RS, LS, SY, ne_eq, isFl, floatV, constA, thenQ, blockQ, pack, intA, boolA, eqA, unA, nilcA, asI, asB, asS, loadA, idxA, lenA, slcA, AV.flat, AV.one, zA1, storeA, toD, srcOf, copyA, ↓reduceIte, reduceCtorEq, List.replicate, Nat.reduceBEq, Nat.reduceAdd, Nat.reduceMul, Nat.reduceSub, Nat.reduceLeDiff, Nat.reduceLT, Int.reduceToNat, Nat.reduceEqDiff, Int.reduceEq, hno]) | refine AW.condT rfl ?_ | refine AW.condF rfl ?_ | ((first | refine GI.of (fun h => ?_) (fun h => ?_) (by first | exact Classical.em _ | exact (Classical.em _).symm | grind) | refine GD.of (fun h => ?_) (fun h => ?_) (by first | exact Classical.em _ | exact (Classical.em _).symm | grind)) <;> simp only [RS, LS, SY, ne_eq, isFl, floatV, constA, thenQ, blockQ, pack, intA, boolA, eqA, unA, nilcA, asI, asB, asS, loadA, idxA, lenA, slcA, AV.flat, AV.one, zA1, storeA, toD, srcOf, copyA, ↓reduceIte, reduceCtorEq, List.replicate, Nat.reduceBEq, Nat.reduceAdd, Nat.reduceMul, Nat.reduceSub, Nat.reduceLeDiff, Nat.reduceLT, Int.reduceToNat, Nat.reduceEqDiff, Int.reduceEq, hno, h]) | (refine AW.condP rfl (fun h => ?_) (fun h => ?_) <;> try simp only [Bool.and_eq_true, decide_eq_true_eq, Bool.not_eq_true', decide_eq_false_iff_not, Bool.not_eq_false', Bool.not_eq_true, Bool.not_eq_false] at h) | refine And.intro (by omega) ?_ | fail)
        exact ⟨p, [], hp, hV, .inl ⟨rfl, rfl⟩⟩
      · repeat' (first | refine AW.seq' ?_ | with_reducible refine AW.blockS rfl ?_ | ((first | refine AW.ops ?_ | refine AW.draw ?_ | refine AW.skip ?_ | refine AW.ret ?_ | refine AW.exit ?_) <;> simp only [RS, LS, SY, ne_eq, isFl, floatV, constA, thenQ, blockQ, pack, intA, boolA, eqA, unA, nilcA, asI, asB, asS, loadA, idxA, lenA, slcA, AV.flat, AV.one, zA1, storeA, toD, srcOf, copyA, ↓reduceIte, reduceCtorEq, List.replicate, Nat.reduceBEq, Nat.reduceAdd, Nat.reduceMul, Nat.reduceSub, Nat.reduceLeDiff, Nat.reduceLT, Int.reduceToNat, Nat.reduceEqDiff, Int.reduceEq, hno1, hno2]) | refine AW.condT rfl ?_ | refine AW.condF rfl ?_ | ((first | refine GI.of (fun h => ?_) (fun h => ?_) (by first | exact Classical.em _ | exact (Classical.em _).symm | grind) | refine GD.of (fun h => ?_) (fun h => ?_) (by first | exact Classical.em _ | exact (Classical.em _).symm | grind)) <;> simp only [RS, LS, SY, ne_eq, isFl, floatV, constA, thenQ, blockQ, pack, intA, boolA, eqA, unA, nilcA, asI, asB, asS, loadA, idxA, lenA, slcA, AV.flat, AV.one, zA1, storeA, toD, srcOf, copyA, ↓reduceIte, reduceCtorEq, List.replicate, Nat.reduceBEq, Nat.reduceAdd, Nat.reduceMul, Nat.reduceSub, Nat.reduceLeDiff, Nat.reduceLT, Int.reduceToNat, Nat.reduceEqDiff, Int.reduceEq, hno1, hno2, h]) | (refine AW.condP rfl (fun h => ?_) (fun h => ?_) <;> try simp only [Bool.and_eq_true, decide_eq_true_eq, Bool.not_eq_true', decide_eq_false_iff_not, Bool.not_eq_false', Bool.not_eq_true, Bool.not_eq_false] at h) | refine And.intro (by omega) ?_ | fail)
        exact ⟨p, [], hp, hV, .inl ⟨rfl, rfl⟩⟩
    | cons g gs =>
      rw [gVg_cons, gBg_cons]
      rcases hno with hno | ⟨hno1, hno2⟩
      · repeat' (first | refine AW.seq' ?_ | with_reducible refine AW.blockS rfl ?_ | ((first | refine AW.ops ?_ | refine AW.draw ?_ | refine AW.skip ?_ | refine AW.ret ?_ | refine AW.exit ?_) <;> simp only [RS, LS, SY, ne_eq, isFl, floatV, constA, thenQ, blockQ, pack, intA, boolA, eqA, unA, nilcA, asI, asB, asS, loadA, idxA, lenA, slcA, AV.flat, AV.one, zA1, storeA, toD, srcOf, copyA, ↓reduceIte, reduceCtorEq, List.replicate, Nat.reduceBEq, Nat.reduceAdd, Nat.reduceMul, Nat.reduceSub, Nat.reduceLeDiff, Nat.reduceLT, Int.reduceToNat, Nat.reduceEqDiff, Int.reduceEq, hno]) | refine AW.condT rfl ?_ | refine AW.condF rfl ?_ | ((first | refine GI.of (fun h => ?_) (fun h => ?_) (by first | exact Classical.em _ | exact (Classical.em _).symm | grind) | refine GD.of (fun h => ?_) (fun h => ?_) (by first | exact Classical.em _ | exact (Classical.em _).symm | grind)) <;> simp only [RS, LS, SY, ne_eq, isFl, floatV, constA, thenQ, blockQ, pack, intA, boolA, eqA, unA, nilcA, asI, asB, asS, loadA, idxA, lenA, slcA, AV.flat, AV.one, zA1, storeA, toD, srcOf, copyA, ↓reduceIte, reduceCtorEq, List.replicate, Nat.reduceBEq, Nat.reduceAdd, Nat.reduceMul, Nat.reduceSub, Nat.reduceLeDiff, Nat.reduceLT, Int.reduceToNat, Nat.reduceEqDiff, Int.reduceEq, hno, h]) | (refine AW.condP rfl (fun h => ?_) (fun h => ?_) <;> try simp only [Bool.and_eq_true, decide_eq_true_eq, Bool.not_eq_true', decide_eq_false_iff_not, Bool.not_eq_false', Bool.not_eq_true, Bool.not_eq_false] at h) | refine And.intro (by omega) ?_ | fail)
        exact ⟨p, grs (g :: gs), hp, hV, .inr ⟨by rw [List.length_map]; rfl, rfl⟩⟩
      · repeat' (first | refine AW.seq' ?_ | with_reducible refine AW.blockS rfl ?_ | ((first | refine AW.ops ?_ | refine AW.draw ?_ | refine AW.skip ?_ | refine AW.ret ?_ | refine AW.exit ?_) <;> simp only [RS, LS, SY, ne_eq, isFl, floatV, constA, thenQ, blockQ, pack, intA, boolA, eqA, unA, nilcA, asI, asB, asS, loadA, idxA, lenA, slcA, AV.flat, AV.one, zA1, storeA, toD, srcOf, copyA, ↓reduceIte, reduceCtorEq, List.replicate, Nat.reduceBEq, Nat.reduceAdd, Nat.reduceMul, Nat.reduceSub, Nat.reduceLeDiff, Nat.reduceLT, Int.reduceToNat, Nat.reduceEqDiff, Int.reduceEq, hno1, hno2]) | refine AW.condT rfl ?_ | refine AW.condF rfl ?_ | ((first | refine GI.of (fun h => ?_) (fun h => ?_) (by first | exact Classical.em _ | exact (Classical.em _).symm | grind) | refine GD.of (fun h => ?_) (fun h => ?_) (by first | exact Classical.em _ | exact (Classical.em _).symm | grind)) <;> simp only [RS, LS, SY, ne_eq, isFl, floatV, constA, thenQ, blockQ, pack, intA, boolA, eqA, unA, nilcA, asI, asB, asS, loadA, idxA, lenA, slcA, AV.flat, AV.one, zA1, storeA, toD, srcOf, copyA, ↓reduceIte, reduceCtorEq, List.replicate, Nat.reduceBEq, Nat.reduceAdd, Nat.reduceMul, Nat.reduceSub, Nat.reduceLeDiff, Nat.reduceLT, Int.reduceToNat, Nat.reduceEqDiff, Int.reduceEq, hno1, hno2, h]) | (refine AW.condP rfl (fun h => ?_) (fun h => ?_) <;> try simp only [Bool.and_eq_true, decide_eq_true_eq, Bool.not_eq_true', decide_eq_false_iff_not, Bool.not_eq_false', Bool.not_eq_true, Bool.not_eq_false] at h) | refine And.intro (by omega) ?_ | fail)
        exact ⟨p, grs (g :: gs), hp, hV, .inr ⟨by rw [List.length_map]; rfl, rfl⟩⟩
/-! ### Designs -/
def VDs (v : AV) : Prop := ∃ ps ls gs, v = ADs ps ls (grs gs) ∧ checkP ps ls gs = 0 ∧ ps.length ≤ 8 ∧ ls.length ≤ 20 ∧ gs.length ≤ 3 ∧ ∀ g ∈ gs, g.2.length ≤ 8
set_option maxHeartbeats 4000000 in
theorem design_ok {L : List Int} (hL : L.length ≤ 600) (n : Nat) (hn : n ≤ 8) : SFn Try.prog SRC L 11 [AI .i64 n] VDs := by
  refine SFn.of fn11 (by simp) fun p hp => ?_
  unfold c11
  have hP := (parts_ok hL n (by omega)).frozen
  repeat' (first | refine AW.seq' ?_ | with_reducible refine AW.blockS rfl ?_ | ((first | refine AW.ops ?_ | refine AW.draw ?_ | refine AW.skip ?_ | refine AW.ret ?_ | refine AW.exit ?_ |  (refine SFn.call hP rfl rfl (by assumption) (fun v p hp hv hb => ?_); obtain ⟨_, ⟨l, rfl, hl, hlv⟩, rfl⟩ := hv) |  (refine Fn.callW (runion_ok l [] (by omega) (by simp)) (.cons (.same _) (.cons (.nil _ _) .nil)) rfl rfl ?_; have ha := asc_unP l []; have hv8 : (unP l []).all vldP = true := List.all_eq_true.2 (fun q hq => List.all_eq_true.1 hlv q (by simpa [mem_unP] using hq)); have hl8 : (unP l []).length ≤ 8 := Nat.le_trans (unP_len l []) (by simp only [List.length_nil]; omega); generalize unP l [] = ps at ha hv8 hl8) |  (refine SFn.call (linked_ok hL ps ha (by omega)).frozen rfl rfl (by assumption) (fun v p hp hv hb => ?_); obtain ⟨_, ⟨ls, rfl, hls, hlk⟩, rfl⟩ := hv) |  (refine SFn.call (grouped_ok hL ps ha hv8 hl8).frozen rfl rfl (by assumption) (fun v p hp hv hb => ?_); obtain ⟨_, ⟨gs, rfl, hgr, hg3, hg8⟩, rfl⟩ := hv)) <;> simp only [RS, LS, SY, ne_eq, isFl, floatV, constA, thenQ, blockQ, pack, intA, boolA, eqA, unA, nilcA, asI, asB, asS, loadA, idxA, lenA, slcA, AV.flat, AV.one, zA1, storeA, toD, srcOf, copyA, ↓reduceIte, reduceCtorEq, List.replicate, Nat.reduceBEq, Nat.reduceAdd, Nat.reduceMul, Nat.reduceSub, Nat.reduceLeDiff, Nat.reduceLT, Int.reduceToNat, Nat.reduceEqDiff, Int.reduceEq]) | refine AW.condT rfl ?_ | refine AW.condF rfl ?_ | ((first | refine GI.of (fun h => ?_) (fun h => ?_) (by first | exact Classical.em _ | exact (Classical.em _).symm | grind) | refine GD.of (fun h => ?_) (fun h => ?_) (by first | exact Classical.em _ | exact (Classical.em _).symm | grind)) <;> simp only [RS, LS, SY, ne_eq, isFl, floatV, constA, thenQ, blockQ, pack, intA, boolA, eqA, unA, nilcA, asI, asB, asS, loadA, idxA, lenA, slcA, AV.flat, AV.one, zA1, storeA, toD, srcOf, copyA, ↓reduceIte, reduceCtorEq, List.replicate, Nat.reduceBEq, Nat.reduceAdd, Nat.reduceMul, Nat.reduceSub, Nat.reduceLeDiff, Nat.reduceLT, Int.reduceToNat, Nat.reduceEqDiff, Int.reduceEq, h]) | (refine AW.condP rfl (fun h => ?_) (fun h => ?_) <;> try simp only [Bool.and_eq_true, decide_eq_true_eq, Bool.not_eq_true', decide_eq_false_iff_not, Bool.not_eq_false', Bool.not_eq_true, Bool.not_eq_false] at h) | refine And.intro (by omega) ?_ | fail)
  refine ⟨p, hp, rfl, .inl ⟨⟨ps, ls, gs, rfl, ?_, hl8, hls, hg3, hg8⟩, rfl⟩⟩
  have hso : sortedP ps = true := by rw [sortedP, Bool.and_eq_true]; exact ⟨hv8, ascB_asc.2 ha⟩
  rw [checkP, if_neg (by omega), hso, hlk, hgr]; rfl
end Go.Proofs.Ytkgeadhnagnloaa.H
