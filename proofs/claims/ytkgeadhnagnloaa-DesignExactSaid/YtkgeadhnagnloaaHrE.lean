/- Chapter 26: distances in the reference. -/
import Derived.Test.YtkgeadhnagnloaaHeB
import Derived.Test.YtkgeadhnagnloaaHdQ
set_option linter.unusedSimpArgs false
set_option linter.unusedVariables false
namespace Go.Proofs.Ytkgeadhnagnloaa.H
def plcP (l : List Pt) (p : Pt) : Int := if p ∈ l then (l.idxOf p : Nat) else -1
theorem plcP_in {l : List Pt} {p : Pt} (h : p ∈ l) : ∃ i : Nat, plcP l p = i ∧ ∃ hi : i < l.length, l[i] = p := by
  refine ⟨l.idxOf p, if_pos h, List.idxOf_lt_length_iff.2 h, ?_⟩
  exact List.getElem_idxOf _
theorem idx_of {l : List Pt} {p : Pt} {i : Nat} (hi : i < l.length) (he : l[i] = p) (hn : ∀ q ∈ l.take i, q ≠ p) : l.idxOf p = i := by
  have hp : p ∈ l := he ▸ List.getElem_mem hi
  have h1 : l.idxOf p < l.length := List.idxOf_lt_length_iff.2 hp
  have h2 : l[l.idxOf p] = p := List.getElem_idxOf _
  rcases Nat.lt_trichotomy (l.idxOf p) i with h | h | h
  · exact absurd h2 (hn _ (List.mem_take_iff_getElem.2 ⟨l.idxOf p, by omega, rfl⟩))
  · exact h
  · have := List.not_of_lt_findIdx (p := (· == p)) (xs := l) (i := i) h
    simp [he] at this
theorem place_ok (l : List Pt) (hl : l.length ≤ 4611686018427387904) (p : Pt) : Fn Try.prog 60 [LP l, APt p] (AI .i64 (plcP l p)) := by
  refine Fn.of fn60 (by simp) rfl ?_
  unfold c60
  repeat' (first | refine AW.seq' ?_ | with_reducible refine AW.blockS rfl ?_ | ((first | refine AW.ops ?_ | refine AW.draw ?_ | refine AW.skip ?_ | refine AW.ret ?_ | refine AW.exit ?_) <;> simp only [RS, LS, SY, ne_eq, isFl, floatV, constA, thenQ, blockQ, pack, intA, boolA, eqA, unA, nilcA, asI, asB, asS, loadA, idxA, lenA, slcA, AV.flat, AV.one, zA1, storeA, toD, srcOf, copyA, ↓reduceIte, reduceCtorEq, List.replicate, Nat.reduceBEq, Nat.reduceAdd, Nat.reduceMul, Nat.reduceSub, Nat.reduceLeDiff, Nat.reduceLT, Int.reduceToNat, Nat.reduceEqDiff, Int.reduceEq]) | refine AW.condT rfl ?_ | refine AW.condF rfl ?_ | refine And.intro (by omega) ?_ | fail)
  refine AW.range (α := Unit) l.length hl (by decide) (fun _ _ => [(7, LP l), (3, .ptr 0 0 0)]) (fun _ _ => [some (.cells 29 2 [[AI .i64 p.1, AI .i64 p.2]])]) (fun i _ => ∀ q ∈ l.take i, q ≠ p) () (by simp) [0] ⟨rfl, by decide, rfl, by simp [NT, belA, tget, renA, nmL], ⟨⟨rfl, rfl⟩, trivial⟩⟩ (by simp) ?_ ?_
  · intro i _ hi hJ
    unfold c60_0
    repeat' (first | refine AW.seq' ?_ | with_reducible refine AW.blockS rfl ?_ | ((first | refine AW.ops ?_ | refine AW.draw ?_ | refine AW.skip ?_ | refine AW.ret ?_ | refine AW.exit ?_) <;> simp only [RS, LS, SY, ne_eq, isFl, floatV, constA, thenQ, blockQ, pack, intA, boolA, eqA, unA, nilcA, asI, asB, asS, loadA, idxA, lenA, slcA, AV.flat, AV.one, zA1, storeA, toD, srcOf, copyA, ↓reduceIte, reduceCtorEq, List.replicate, Nat.reduceBEq, Nat.reduceAdd, Nat.reduceMul, Nat.reduceSub, Nat.reduceLeDiff, Nat.reduceLT, Int.reduceToNat, Nat.reduceEqDiff, Int.reduceEq, getD_map_lt hi, pt_eq]) | refine AW.condT rfl ?_ | refine AW.condF rfl ?_ | (refine AW.condP rfl (fun h => ?_) (fun h => ?_) <;> try simp only [Bool.and_eq_true, decide_eq_true_eq, Bool.not_eq_true', decide_eq_false_iff_not, Bool.not_eq_false', Bool.not_eq_true, Bool.not_eq_false] at h) | refine And.intro (by omega) ?_ | fail)
    · have hm : p ∈ l := h ▸ List.getElem_mem hi
      rw [plcP, if_pos hm, idx_of hi h hJ]
    · refine ⟨(), [0], fun q hq => ?_, rfl, by decide, rfl, by simp [NT, belA, tget, renA, nmL], ⟨⟨rfl, rfl⟩, trivial⟩⟩
      rcases (mem_take_succ hi).1 hq with hq | rfl
      · exact hJ q hq
      · exact h
  · intro _ hJ
    rw [List.take_length] at hJ
    simp only [RS, LS, SY, ne_eq, isFl, floatV, constA, thenQ, blockQ, pack, intA, boolA, eqA, unA, nilcA, asI, asB, asS, loadA, idxA, lenA, slcA, AV.flat, AV.one, zA1, storeA, toD, srcOf, copyA, ↓reduceIte, reduceCtorEq, List.replicate, Nat.reduceBEq, Nat.reduceAdd, Nat.reduceMul, Nat.reduceSub, Nat.reduceLeDiff, Nat.reduceLT, Int.reduceToNat, Nat.reduceEqDiff, Int.reduceEq]
    repeat' (first | refine AW.seq' ?_ | with_reducible refine AW.blockS rfl ?_ | ((first | refine AW.ops ?_ | refine AW.draw ?_ | refine AW.skip ?_ | refine AW.ret ?_ | refine AW.exit ?_) <;> simp only [RS, LS, SY, ne_eq, isFl, floatV, constA, thenQ, blockQ, pack, intA, boolA, eqA, unA, nilcA, asI, asB, asS, loadA, idxA, lenA, slcA, AV.flat, AV.one, zA1, storeA, toD, srcOf, copyA, ↓reduceIte, reduceCtorEq, List.replicate, Nat.reduceBEq, Nat.reduceAdd, Nat.reduceMul, Nat.reduceSub, Nat.reduceLeDiff, Nat.reduceLT, Int.reduceToNat, Nat.reduceEqDiff, Int.reduceEq]) | refine AW.condT rfl ?_ | refine AW.condF rfl ?_ | refine And.intro (by omega) ?_ | fail)
    rw [plcP, if_neg fun h => hJ p h rfl]
/-! ### Lists of ints of one's own -/
theorem rowsA_ints {o : List Int} {i : Nat} (h : i < o.length) : (rowsA (ints o)).getD i [] = [AI .i64 o[i]] := by simp [rowsA, h]
theorem rowsA_set {o : List Int} {i : Nat} {v : Int} : (rowsA (ints o)).set i [AI .i64 v] = rowsA (ints (o.set i v)) := by
  simp [rowsA, List.map_set]
theorem rowsI_len (o : List Int) : (rowsA (ints o)).length = o.length := by simp [rowsA]
theorem own_fn {P : Program} {f : FuncId} {vs : List AV} {T k : Nat} {rows : List (List D)} (h : ACalls P f vs [] fun v s' => ∃ id, v = .own id 0 rows.length ∧ s'[id]? = some (some (.cells T k (rowsA rows)))) : Fn P f vs (.d (.lst k rows)) := by
  unfold Fn
  have h1 : ACalls P f vs [] fun v _ => v = .d (.lst k rows) := ACalls.freeze h fun v s' ⟨id, hv, hs⟩ => by
    subst hv
    refine .inr ⟨id, T, k, rows, hs, by simp [fitA], ?_⟩
    simp [frzA]
  exact h1.take fun v s' e => ⟨by rw [e]; rfl, fun i b hi => by simp at hi, e, by simp⟩
set_option maxHeartbeats 8000000 in
theorem steps_link {ps : List Pt} {ls : List Ln} {gs : List Gr} (hc : checkP ps ls gs = 0) {t : Pt} {o : List Int} {r k : Nat} (hr : r ≤ 40) (hk : k < ls.length) (hJ : BfI ls t ps o r k) (hz : ∀ z ∈ o, z ≤ r * 61 + k) {Q : Fl → Tm → St → Prop}
    (hQ : ∀ (T : Tm) (o' : List Int) (b : List (Option Blk)), BfI ls t ps o' r (k + 1) → (∀ z ∈ o', z ≤ r * 61 + k + 1) → NT 2 (nmL [0, 1]) T [(42, AI .i64 k), (41, AI .i64 ls.length), (40, LN ls), (2, .ptr 0 0 0), (5, .own 1 0 ps.length), (37, AI .i64 r), (36, AI .i64 ps.length)] → Q .normal T (BX ps ls gs :: some (.cells 3 1 (rowsA (ints o'))) :: b)) :
    AW Try.prog 91 0 c59_1 [(42, AI .i64 k), (41, AI .i64 ls.length), (40, LN ls), (2, .ptr 0 0 0), (5, .own 1 0 ps.length), (37, AI .i64 r), (36, AI .i64 ps.length)] [BX ps ls gs, some (.cells 3 1 (rowsA (ints o)))] Q := by
  obtain ⟨hps, hls, hgs⟩ := check_len hc
  obtain ⟨hx1, hx2⟩ := check_link hc (List.getElem_mem hk)
  obtain ⟨f, hf, hfl, hfe⟩ := plcP_in hx1
  obtain ⟨g, hg, hgl, hge⟩ := plcP_in hx2
  have hP1 := place_ok ps (by omega) ls[k].1
  have hP2 := place_ok ps (by omega) ls[k].2
  rw [hf] at hP1
  rw [hg] at hP2
  have hol := hJ.b.len
  have hr2 := getD_lns hk
  simp only [lnR] at hr2
  have hfo : f < o.length := by omega
  have hgo : g < o.length := by omega
  have ha := rowsA_ints hfo
  have hb := rowsA_ints hgo
  have hfi : (f : Int) < ps.length := by omega
  have hgi : (g : Int) < ps.length := by omega
  have ea : o[f]? = some o[f] := List.getElem?_eq_getElem hfo
  have eb : o[g]? = some o[g] := List.getElem?_eq_getElem hgo
  have hnd : ∀ (i : Nat), ps[i]? = some ls[k].1 → i = f := fun i hi => by
    obtain ⟨h1, h2⟩ := List.getElem?_eq_some_iff.1 hi
    exact (List.getElem_inj (asc_nodup (check_asc hc))).1 (h2.trans hfe.symm)
  have hpf : ps[f]? = some ls[k].1 := by rw [List.getElem?_eq_getElem hfl, hfe]
  have hpg : ps[g]? = some ls[k].2 := by rw [List.getElem?_eq_getElem hgl, hge]
  have hza := hz _ (List.getElem_mem hfo)
  have hzb := hz _ (List.getElem_mem hgo)
  have hfr : f < (rowsA (ints o)).length := by rw [rowsI_len]; exact hfo
  have hgr : g < (rowsA (ints o)).length := by rw [rowsI_len]; exact hgo
  have hle : o.length = ps.length := hol
  have hskip : ∀ T b, (0 ≤ o[g] → 0 ≤ o[f] ∧ o[f] ≤ o[g] + 1) → NT 2 (nmL [0, 1]) T [(42, AI .i64 k), (41, AI .i64 ls.length), (40, LN ls), (2, .ptr 0 0 0), (5, .own 1 0 ps.length), (37, AI .i64 r), (36, AI .i64 ps.length)] → Q .normal T (BX ps ls gs :: some (.cells 3 1 (rowsA (ints o))) :: b) := fun T b h hT =>
    hQ T o b (hJ.skip hk hnd hpg ea eb h) (fun z hz' => by have := hz z hz'; omega) hT
  have hset : ∀ T b, 0 ≤ o[g] → (o[f] < 0 ∨ o[g] + 1 < o[f]) → NT 2 (nmL [0, 1]) T [(42, AI .i64 k), (41, AI .i64 ls.length), (40, LN ls), (2, .ptr 0 0 0), (5, .own 1 0 ps.length), (37, AI .i64 r), (36, AI .i64 ps.length)] → Q .normal T (BX ps ls gs :: some (.cells 3 1 (rowsA (ints (o.set f (o[g] + 1))))) :: b) := fun T b h1 h2 hT =>
    hQ T _ b (hJ.set hk hnd hpf hpg ea eb h1 h2) (fun z hz' => by
      rcases List.mem_or_eq_of_mem_set hz' with h | h
      · have := hz z h; omega
      · omega) hT
  unfold c59_1
  generalize o[f] = a at *
  generalize o[g] = b at *
  repeat' (first | refine AW.seq' ?_ | with_reducible refine AW.blockS rfl ?_ | ((first | refine AW.ops ?_ | refine AW.draw ?_ | refine AW.skip ?_ | refine AW.ret ?_ | refine AW.exit ?_ | refine Fn.call (hP1) rfl rfl ?_ | refine Fn.call (hP2) rfl rfl ?_) <;> simp (disch := omega) only [RS, LS, SY, ne_eq, isFl, floatV, constA, thenQ, blockQ, pack, intA, boolA, eqA, unA, nilcA, asI, asB, asS, loadA, idxA, lenA, slcA, AV.flat, AV.one, zA1, storeA, toD, srcOf, copyA, ↓reduceIte, reduceCtorEq, List.replicate, Nat.reduceBEq, Nat.reduceAdd, Nat.reduceMul, Nat.reduceSub, Nat.reduceLeDiff, Nat.reduceLT, Int.reduceToNat, Nat.reduceEqDiff, Int.reduceEq, wrap_id, hr2, ha, hb, hfi, hgi, hfr, hgr, rowsA_set]) | refine AW.condT rfl ?_ | refine AW.condF rfl ?_ | ((first | refine GI.of (fun h => ?_) (fun h => ?_) (by first | exact Classical.em _ | exact (Classical.em _).symm | grind) | refine GD.of (fun h => ?_) (fun h => ?_) (by first | exact Classical.em _ | exact (Classical.em _).symm | grind)) <;> simp (disch := omega) only [RS, LS, SY, ne_eq, isFl, floatV, constA, thenQ, blockQ, pack, intA, boolA, eqA, unA, nilcA, asI, asB, asS, loadA, idxA, lenA, slcA, AV.flat, AV.one, zA1, storeA, toD, srcOf, copyA, ↓reduceIte, reduceCtorEq, List.replicate, Nat.reduceBEq, Nat.reduceAdd, Nat.reduceMul, Nat.reduceSub, Nat.reduceLeDiff, Nat.reduceLT, Int.reduceToNat, Nat.reduceEqDiff, Int.reduceEq, wrap_id, hr2, ha, hb, hfi, hgi, hfr, hgr, rowsA_set, h]) | (refine AW.condP rfl (fun h => ?_) (fun h => ?_) <;> try simp only [Bool.and_eq_true, decide_eq_true_eq, Bool.not_eq_true', decide_eq_false_iff_not, Bool.not_eq_false', Bool.not_eq_true, Bool.not_eq_false] at h) | refine And.intro (by omega) ?_ | fail)
  · exact hset _ [_] (by assumption) (.inr (by assumption)) (by simp [NT, belA, belL, tget, renA, renL, nmL])
  · exact hskip _ [_] (fun _ => by omega) (by simp [NT, belA, belL, tget, renA, renL, nmL])
  · exact hset _ [_] (by assumption) (.inl (by assumption)) (by simp [NT, belA, belL, tget, renA, renL, nmL])
  · exact hskip _ [_] (fun h => absurd h (by assumption)) (by simp [NT, belA, belL, tget, renA, renL, nmL])
set_option maxHeartbeats 8000000 in
theorem steps_ok (ps : List Pt) (ls : List Ln) (gs : List Gr) (t : Pt) (hc : checkP ps ls gs = 0) : Fn Try.prog 59 [ADs ps ls (grs gs), APt t] (LI (stO ls t ps)) := by
  refine own_fn (T := 3) (ACalls.of fn59 (by simp) ?_)
  obtain ⟨hps, hls, hgs⟩ := check_len hc
  have hil : (ints (stO ls t ps)).length = ps.length := by simp [stO]
  rw [hil]
  unfold c59
  have hb8 : (8 : Int) * ps.length ≤ 281474976710656 := by omega
  repeat' (first | refine AW.seq' ?_ | with_reducible refine AW.blockS rfl ?_ | ((first | refine AW.ops ?_ | refine AW.draw ?_ | refine AW.skip ?_ | refine AW.ret ?_ | refine AW.exit ?_) <;> simp (disch := omega) only [RS, LS, SY, ne_eq, isFl, floatV, constA, thenQ, blockQ, pack, intA, boolA, eqA, unA, nilcA, asI, asB, asS, loadA, idxA, lenA, slcA, AV.flat, AV.one, zA1, storeA, toD, srcOf, copyA, ↓reduceIte, reduceCtorEq, List.replicate, Nat.reduceBEq, Nat.reduceAdd, Nat.reduceMul, Nat.reduceSub, Nat.reduceLeDiff, Nat.reduceLT, Int.reduceToNat, Nat.reduceEqDiff, Int.reduceEq, wrap_id, hb8]) | refine AW.condT rfl ?_ | refine AW.condF rfl ?_ | refine And.intro (by omega) ?_ | fail)
  refine AW.range (α := List Int) ps.length (by omega) (by decide) (fun _ _ => [(17, LP ps), (2, .ptr 0 0 0), (3, .ptr 1 0 0), (5, .own 2 0 ps.length)]) (fun _ o => [BX ps ls gs, some (.cells 29 2 [[AI .i64 t.1, AI .i64 t.2]]), some (.cells 3 1 (rowsA (ints o)))]) (fun i o => o.length = ps.length ∧ ∀ (j : Nat) (h : j < ps.length), j < i → o[j]? = some (if ps[j] = t then 0 else -1)) (List.replicate ps.length 0) ⟨by simp, fun j h hj => by omega⟩ [0, 1, 2] ⟨rfl, by decide, rfl, by simp [NT, belA, belL, tget, renA, renL, nmL], ⟨⟨rfl, rfl⟩, ⟨⟨rfl, rfl⟩, ⟨⟨belB_rowsA _ _ _ (ints _), ?_⟩, trivial⟩⟩⟩⟩ (by simp) ?_ ?_
  · rw [renB_rowsA]
    have : rowsA (ints (List.replicate ps.length 0)) = List.replicate ps.length [AI .i64 0] := by simp [rowsA]
    rw [this]; rfl
  · intro i o hi ⟨ho, hJ⟩
    have hio : i < o.length := by omega
    have hic : (i : Int) < ps.length := by omega
    have hir : i < (rowsA (ints o)).length := by rw [rowsI_len]; exact hio
    have hir2 : ∀ v : Int, i < (rowsA (ints (o.set i v))).length := fun v => by rw [rowsI_len, List.length_set]; exact hio
    have hio2 : ∀ v : Int, i < (o.set i v).length := fun v => by rw [List.length_set]; exact hio
    have hg := rowsA_ints hio
    have hg2 : ∀ v : Int, (rowsA (ints (o.set i v))).getD i [] = [AI .i64 v] := fun v => by rw [rowsA_ints (by rw [List.length_set]; exact hio)]; simp
    have hnew : ∀ v : Int, v = (if ps[i] = t then 0 else -1) → (o.set i v).length = ps.length ∧ ∀ (j : Nat) (h : j < ps.length), j < i + 1 → (o.set i v)[j]? = some (if ps[j] = t then 0 else -1) := fun v hv => by
      refine ⟨by rw [List.length_set]; exact ho, fun j h hj => ?_⟩
      rw [List.getElem?_set]
      by_cases e : i = j
      · subst e; rw [if_pos rfl, if_pos hio, hv]
      · rw [if_neg e]; exact hJ j h (by omega)
    unfold c59_0
    repeat' (first | refine AW.seq' ?_ | with_reducible refine AW.blockS rfl ?_ | ((first | refine AW.ops ?_ | refine AW.draw ?_ | refine AW.skip ?_ | refine AW.ret ?_ | refine AW.exit ?_) <;> simp only [RS, LS, SY, ne_eq, isFl, floatV, constA, thenQ, blockQ, pack, intA, boolA, eqA, unA, nilcA, asI, asB, asS, loadA, idxA, lenA, slcA, AV.flat, AV.one, zA1, storeA, toD, srcOf, copyA, ↓reduceIte, reduceCtorEq, List.replicate, Nat.reduceBEq, Nat.reduceAdd, Nat.reduceMul, Nat.reduceSub, Nat.reduceLeDiff, Nat.reduceLT, Int.reduceToNat, Nat.reduceEqDiff, Int.reduceEq, getD_map_lt hi, hic, hio, hio2, hir, hir2, hg, hg2, rowsA_set, List.set_set, pt_eq]) | refine AW.condT rfl ?_ | refine AW.condF rfl ?_ | (refine AW.condP rfl (fun h => ?_) (fun h => ?_) <;> try simp only [Bool.and_eq_true, decide_eq_true_eq, Bool.not_eq_true', decide_eq_false_iff_not, Bool.not_eq_false', Bool.not_eq_true, Bool.not_eq_false] at h) | refine And.intro (by omega) ?_ | fail)
    · refine ⟨o.set i 0, [0, 1, 2], hnew 0 (if_pos (by assumption)).symm, rfl, by decide, rfl, by simp [NT, belA, belL, tget, renA, renL, nmL], ⟨⟨rfl, rfl⟩, ⟨⟨rfl, rfl⟩, ⟨⟨belB_rowsA _ _ _ (ints _), by rw [renB_rowsA]; rfl⟩, trivial⟩⟩⟩⟩
    · refine ⟨o.set i (-1), [0, 1, 2], hnew (-1) (if_neg (by assumption)).symm, rfl, by decide, rfl, by simp [NT, belA, belL, tget, renA, renL, nmL], ⟨⟨rfl, rfl⟩, ⟨⟨rfl, rfl⟩, ⟨⟨belB_rowsA _ _ _ (ints _), by rw [renB_rowsA]; rfl⟩, trivial⟩⟩⟩⟩
  · intro o ⟨ho, hJ⟩
    have he : o = ps.map fun p => if p = t then 0 else -1 := by
      refine List.ext_getElem? fun j => ?_
      by_cases hj : j < ps.length
      · rw [hJ j hj hj, List.getElem?_map, List.getElem?_eq_getElem hj]; rfl
      · rw [List.getElem?_eq_none (by omega), List.getElem?_eq_none (by simp; omega)]
    simp only [RS, LS, SY, ne_eq, isFl, floatV, constA, thenQ, blockQ, pack, intA, boolA, eqA, unA, nilcA, asI, asB, asS, loadA, idxA, lenA, slcA, AV.flat, AV.one, zA1, storeA, toD, srcOf, copyA, ↓reduceIte, reduceCtorEq, List.replicate, Nat.reduceBEq, Nat.reduceAdd, Nat.reduceMul, Nat.reduceSub, Nat.reduceLeDiff, Nat.reduceLT, Int.reduceToNat, Nat.reduceEqDiff, Int.reduceEq]
    repeat' (first | refine AW.seq' ?_ | with_reducible refine AW.blockS rfl ?_ | ((first | refine AW.ops ?_ | refine AW.draw ?_ | refine AW.skip ?_ | refine AW.ret ?_ | refine AW.exit ?_) <;> simp only [RS, LS, SY, ne_eq, isFl, floatV, constA, thenQ, blockQ, pack, intA, boolA, eqA, unA, nilcA, asI, asB, asS, loadA, idxA, lenA, slcA, AV.flat, AV.one, zA1, storeA, toD, srcOf, copyA, ↓reduceIte, reduceCtorEq, List.replicate, Nat.reduceBEq, Nat.reduceAdd, Nat.reduceMul, Nat.reduceSub, Nat.reduceLeDiff, Nat.reduceLT, Int.reduceToNat, Nat.reduceEqDiff, Int.reduceEq]) | refine AW.condT rfl ?_ | refine AW.condF rfl ?_ | refine And.intro (by omega) ?_ | fail)
    refine AW.range (α := List Int) ps.length (by omega) (by decide) (fun _ _ => [(2, .ptr 0 0 0), (5, .own 1 0 ps.length)]) (fun _ o => [BX ps ls gs, some (.cells 3 1 (rowsA (ints o)))]) (fun r o => Bf ls t ps o r ∧ ∀ z ∈ o, z ≤ r * 61) o ⟨by rw [he]; exact bf0 ls t ps, ?_⟩ [0, 2] ⟨rfl, by decide, rfl, by simp [NT, belA, belL, tget, renA, renL, nmL], ⟨⟨rfl, rfl⟩, ⟨⟨belB_rowsA _ _ _ (ints _), by rw [renB_rowsA]; rfl⟩, trivial⟩⟩⟩ (by simp) ?_ ?_
    · intro z hz
      rw [he] at hz
      obtain ⟨p, _, rfl⟩ := List.mem_map.1 hz
      split <;> omega
    · intro r o hr ⟨hB, hz⟩
      unfold c59_2
      repeat' (first | refine AW.seq' ?_ | with_reducible refine AW.blockS rfl ?_ | ((first | refine AW.ops ?_ | refine AW.draw ?_ | refine AW.skip ?_ | refine AW.ret ?_ | refine AW.exit ?_) <;> simp only [RS, LS, SY, ne_eq, isFl, floatV, constA, thenQ, blockQ, pack, intA, boolA, eqA, unA, nilcA, asI, asB, asS, loadA, idxA, lenA, slcA, AV.flat, AV.one, zA1, storeA, toD, srcOf, copyA, ↓reduceIte, reduceCtorEq, List.replicate, Nat.reduceBEq, Nat.reduceAdd, Nat.reduceMul, Nat.reduceSub, Nat.reduceLeDiff, Nat.reduceLT, Int.reduceToNat, Nat.reduceEqDiff, Int.reduceEq]) | refine AW.condT rfl ?_ | refine AW.condF rfl ?_ | refine And.intro (by omega) ?_ | fail)
      refine AW.range (α := List Int) ls.length (by omega) (by decide) (fun _ _ => [(40, LN ls), (2, .ptr 0 0 0), (5, .own 1 0 ps.length), (37, AI .i64 r), (36, AI .i64 ps.length)]) (fun _ o => [BX ps ls gs, some (.cells 3 1 (rowsA (ints o)))]) (fun k o => BfI ls t ps o r k ∧ ∀ z ∈ o, z ≤ r * 61 + k) o ⟨⟨hB, fun l hl => by simp at hl⟩, fun z hz' => by have := hz z hz'; omega⟩ [0, 1] ⟨rfl, by decide, rfl, by simp [NT, belA, belL, tget, renA, renL, nmL], ⟨⟨rfl, rfl⟩, ⟨⟨belB_rowsA _ _ _ (ints _), by rw [renB_rowsA]; rfl⟩, trivial⟩⟩⟩ (by simp) ?_ ?_
      · intro k o hk ⟨hJ, hz⟩
        refine steps_link hc (by omega) hk hJ hz fun T o' b hJ' hz' hT => ?_
        refine ⟨o', [0, 1], ⟨hJ', fun z h => by have := hz' z h; omega⟩, rfl, by decide, rfl, hT, ⟨⟨rfl, rfl⟩, ⟨⟨belB_rowsA _ _ _ (ints o'), by rw [renB_rowsA]; rfl⟩, trivial⟩⟩⟩
      · intro o ⟨hJ, hz⟩
        simp only [RS, LS, SY, ne_eq, isFl, floatV, constA, thenQ, blockQ, pack, intA, boolA, eqA, unA, nilcA, asI, asB, asS, loadA, idxA, lenA, slcA, AV.flat, AV.one, zA1, storeA, toD, srcOf, copyA, ↓reduceIte, reduceCtorEq, List.replicate, Nat.reduceBEq, Nat.reduceAdd, Nat.reduceMul, Nat.reduceSub, Nat.reduceLeDiff, Nat.reduceLT, Int.reduceToNat, Nat.reduceEqDiff, Int.reduceEq]
        refine ⟨o, [0, 1], ⟨hJ.next, fun z h => by have := hz z h; omega⟩, rfl, by decide, rfl, by simp [NT, belA, belL, tget, tset, renA, renL, nmL], ⟨⟨rfl, rfl⟩, ⟨⟨belB_rowsA _ _ _ (ints o), by rw [renB_rowsA]; rfl⟩, trivial⟩⟩⟩
    · intro o ⟨hB, hz⟩
      have hfin := hB.fin fun x hx => (check_link hc hx).2
      simp only [RS, LS, SY, ne_eq, isFl, floatV, constA, thenQ, blockQ, pack, intA, boolA, eqA, unA, nilcA, asI, asB, asS, loadA, idxA, lenA, slcA, AV.flat, AV.one, zA1, storeA, toD, srcOf, copyA, ↓reduceIte, reduceCtorEq, List.replicate, Nat.reduceBEq, Nat.reduceAdd, Nat.reduceMul, Nat.reduceSub, Nat.reduceLeDiff, Nat.reduceLT, Int.reduceToNat, Nat.reduceEqDiff, Int.reduceEq]
      repeat' (first | refine AW.seq' ?_ | with_reducible refine AW.blockS rfl ?_ | ((first | refine AW.ops ?_ | refine AW.draw ?_ | refine AW.skip ?_ | refine AW.ret ?_ | refine AW.exit ?_) <;> simp only [RS, LS, SY, ne_eq, isFl, floatV, constA, thenQ, blockQ, pack, intA, boolA, eqA, unA, nilcA, asI, asB, asS, loadA, idxA, lenA, slcA, AV.flat, AV.one, zA1, storeA, toD, srcOf, copyA, ↓reduceIte, reduceCtorEq, List.replicate, Nat.reduceBEq, Nat.reduceAdd, Nat.reduceMul, Nat.reduceSub, Nat.reduceLeDiff, Nat.reduceLT, Int.reduceToNat, Nat.reduceEqDiff, Int.reduceEq]) | refine AW.condT rfl ?_ | refine AW.condF rfl ?_ | refine And.intro (by omega) ?_ | fail)
      exact ⟨1, rfl, by rw [← hfin]; rfl⟩
end Go.Proofs.Ytkgeadhnagnloaa.H
