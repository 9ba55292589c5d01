/- Chapter 26: distances and chains in the program. -/
import Derived.Test.YtkgeadhnagnloaaHdY
set_option linter.unusedSimpArgs false
set_option linter.unusedVariables false
namespace Go.Proofs.Ytkgeadhnagnloaa.H
/-! ### The map of distances -/
def nV (n : Nat) : Value := .int .i64 n
def mpN (m : List (Pt × Nat)) : List (Value × Value) := mpE nV m
theorem tyN : MapTy Try.prog 83 29 3 KP eqK (.int .i64 0) := mapTy (by kernel_rfl) fun w => by
  have h2 : ((Try.prog).info? 3).map (fun i => match i.zero with | some (.int .i64 0) => true | _ => false) = some true := by kernel_rfl
  cases hi : (Try.prog).info? 3 with
  | none => rw [hi] at h2; cases h2
  | some i =>
    rw [hi] at h2
    simp only [Option.map_some, Option.some.injEq] at h2
    split at h2
    · rename_i hb
      simp [zeroValue, typeInfo, hi, hb]
    · cases h2
theorem mpN_one (m : List (Pt × Nat)) : ∀ p ∈ mpN m, p.2.oneCell' = true := by
  intro p hp
  obtain ⟨x, _, rfl⟩ := List.mem_map.1 hp
  rfl
theorem mgetN {l : List Operand} {id : Nat} {p : Pt} {m : List (Pt × Nat)} {s : St} {Q : AV → St → Prop} (hid : s[id]? = some (some (.mp (mpN m)))) (hq : Q (AI .i64 (((lkP m p).getD 0 : Nat) : Int)) s) : AOp Try.prog (.mget 83 false) l [.mp id, APt p] s Q := by
  refine AOp.mget tyN (k := encK p) hid ⟨p, rfl⟩ mpE_key (fun c h => by cases h) (mpN_one m) rfl ?_
  have : (getV eqK (mpN m) (encK p)).getD (.int .i64 0) = .int .i64 (((lkP m p).getD 0 : Nat) : Int) := by
    rw [mpN, getV_mpE]
    cases lkP m p <;> rfl
  rw [this]
  exact hq
theorem mgetNk {l : List Operand} {id : Nat} {p : Pt} {m : List (Pt × Nat)} {s : St} {Q : AV → St → Prop} (hid : s[id]? = some (some (.mp (mpN m)))) (hq : Q (.tup [AI .i64 (((lkP m p).getD 0 : Nat) : Int), AB (lkP m p).isSome]) s) : AOp Try.prog (.mget 83 true) l [.mp id, APt p] s Q := by
  refine AOp.mget tyN (k := encK p) hid ⟨p, rfl⟩ mpE_key (fun c h => by cases h) (mpN_one m) rfl ?_
  have : (getV eqK (mpN m) (encK p)).getD (.int .i64 0) = .int .i64 (((lkP m p).getD 0 : Nat) : Int) := by
    rw [mpN, getV_mpE]
    cases lkP m p <;> rfl
  rw [this]
  have h2 : (getV eqK (mpN m) (encK p)).isSome = (lkP m p).isSome := by
    rw [mpN, getV_mpE]
    cases lkP m p <;> rfl
  rw [h2]
  exact hq
theorem msetN {l : List Operand} {id : Nat} {p : Pt} {m : List (Pt × Nat)} {n : Int} (k : Nat) (hk : n = k) {s : St} {Q : AV → St → Prop} (hid : s[id]? = some (some (.mp (mpN m)))) (hp : p ∉ m.map (·.1)) (hq : Q (.tup []) (s.set id (some (.mp (mpN (m ++ [(p, k)])))))) : AOp Try.prog (.mset 83) l [.mp id, APt p, AI .i64 n] s Q := by
  subst hk
  refine AOp.mset tyN (k := encK p) (v := nV k) hid ⟨p, rfl⟩ mpE_key (fun c h => by cases h) (fun c h => by cases h) ?_
  have := setV_new (f := nV) (a := k) hp
  rw [mpN, this]
  exact hq
theorem isSome_lk {m : List (Pt × Nat)} {p : Pt} : (lkP m p).isSome = decide (p ∈ m.map (·.1)) := by
  cases h : lkP m p with
  | none => simp only [Option.isSome_none]; exact (decide_eq_false (lkP_none.1 h)).symm
  | some n => simp only [Option.isSome_some]; exact (decide_eq_true (List.mem_map_of_mem (f := (·.1)) (lkP_some h))).symm
/-- The map, somewhere. -/
def IsM (ls : List Ln) (t : Pt) (v : AV) (s' : St) : Prop := ∃ id m, v = .mp id ∧ s'[id]? = some (some (.mp (mpN m))) ∧ (∀ p, lkP m p = dstP ls t p) ∧ (∀ x ∈ m, x.2 ≤ ls.length + 1)
/-- The queue: as it begins, or a list of its own. -/
def qV (b : Bool) (l : List Pt) (off : Nat) : AV := if b then .own 2 off (l.length - off) else .ful 2 (pts (l.drop off))
def qB (b : Bool) (l : List Pt) : Option Blk := if b then some (.cells 29 2 (rowsA (pts l))) else none
theorem qV_t (l : List Pt) (off : Nat) : qV true l off = .own 2 off (l.length - off) := rfl
theorem qV_f (l : List Pt) (off : Nat) : qV false l off = .ful 2 (pts (l.drop off)) := rfl
theorem qB_t (l : List Pt) : qB true l = some (.cells 29 2 (rowsA (pts l))) := rfl
theorem qB_f (l : List Pt) : qB false l = none := rfl
theorem drop_head {l M : List Pt} {off k : Nat} {q : Pt} (h : l.drop off = M.drop k) (hq : M[k]? = some q) : ∃ hl : off < l.length, l[off] = q := by
  have h1 : (l.drop off)[0]? = (M.drop k)[0]? := by rw [h]
  rw [List.getElem?_drop, List.getElem?_drop, Nat.add_zero, Nat.add_zero, hq] at h1
  obtain ⟨h2, h3⟩ := List.getElem?_eq_some_iff.1 h1
  exact ⟨h2, h3⟩
theorem drop_next {l M : List Pt} {off k : Nat} (h : l.drop off = M.drop k) : l.drop (off + 1) = M.drop (k + 1) := by
  rw [← List.drop_drop, ← List.drop_drop, h]
theorem drop_add {l : List Pt} {m : List (Pt × Nat)} {off k d : Nat} {p : Pt} (h : l.drop off = (m.map (·.1)).drop k) (hk : k < m.length) : (l.drop off ++ [p]).drop 0 = ((m ++ [(p, d)]).map (·.1)).drop k := by
  rw [List.drop_zero, List.map_append, List.drop_append_of_le_length (by rw [List.length_map]; omega), h]; rfl
def leI (m : List (Pt × Nat)) : Prop := ∀ (j : Nat) x, m[j]? = some x → x.2 ≤ j
theorem leI_add {m : List (Pt × Nat)} {k d : Nat} {q p : Pt} (h : leI m) (hk : m[k]? = some (q, d)) : leI (m ++ [(p, d + 1)]) := by
  intro j x hx
  rw [List.getElem?_append] at hx
  split at hx
  · exact h j x hx
  · obtain ⟨h1, h2⟩ := List.getElem?_eq_some_iff.1 hx
    simp at h1 h2
    subst h2
    have := h k _ hk
    have hkl := (List.getElem?_eq_some_iff.1 hk).1
    simp only at this ⊢
    omega
/-- One part's links. -/
def stepC : Cd := (.seq (.block 1 (.seq (.ops [.f (some 21) none (.faddr 1 (.tmp 2)), .f (some 22) none (.load none (.tmp 21)), .f (some 23) none (.len (.tmp 22)), .f (some 24) none (.mv (.const (.int .i64 0)))])
 (rangeC 2 24 23 25 59 c58_0)))
  (.ops [.f (some 19) none (.mv (.tmp 6)), .f (some 20) none (.slc 2 (.tmp 19) (some (.const (.int .i64 1))) none none), .k (some 6) none (.asg (.tmp 20))]))
set_option maxHeartbeats 8000000 in
theorem dist_step {ps : List Pt} {ls : List Ln} {gs : List Gr} (hl : ls.length ≤ 1000000) {t : Pt} {k : Nat} {m : List (Pt × Nat)} {b : Bool} {l : List Pt} {off : Nat} {q : Pt} {d : Nat} (hB : Bfs ls t m k) (hI : leI m) (ho : off ≤ l.length) (hd : l.drop off = (m.map (·.1)).drop k) (hqd : m[k]? = some (q, d)) {T : Tm} {s : St} {rl : List Nat} (hN : Nrm rl 0 T s [(2, .ptr 0 0 0), (5, .mp 1), (6, qV b l off)] [BX ps ls gs, some (.mp (mpN m)), qB b l]) :
    AW Try.prog 61 0 stepC T s (thenQ (fun T' s' => ∃ (m' : List (Pt × Nat)) (b' : Bool) (l' : List Pt) (off' : Nat) (rl : List Nat), Bfs ls t m' (k + 1) ∧ leI m' ∧ off' ≤ l'.length ∧ l'.drop off' = (m'.map (·.1)).drop (k + 1) ∧ Nrm rl 0 T' s' [(2, .ptr 0 0 0), (5, .mp 1), (6, qV b' l' off')] [BX ps ls gs, some (.mp (mpN m')), qB b' l']) (fun _ _ _ => False)) := by
  refine AW.nrm rl hN ?_
  unfold stepC
  have hdk := hI k _ hqd
  have hkm : k < m.length := (List.getElem?_eq_some_iff.1 hqd).1
  have hmll := hB.len
  simp only at hdk
  repeat' (first | refine AW.seq' ?_ | with_reducible refine AW.blockS rfl ?_ | ((first | refine AW.ops ?_ | refine AW.draw ?_ | refine AW.skip ?_ | refine AW.ret ?_ | refine AW.exit ?_) <;> simp only [RS, LS, SY, ne_eq, isFl, floatV, constA, thenQ, blockQ, pack, intA, boolA, eqA, unA, nilcA, asI, asB, asS, loadA, idxA, lenA, slcA, AV.flat, AV.one, zA1, storeA, toD, srcOf, copyA, ↓reduceIte, reduceCtorEq, List.replicate, Nat.reduceBEq, Nat.reduceAdd, Nat.reduceMul, Nat.reduceSub, Nat.reduceLeDiff, Nat.reduceLT, Int.reduceToNat, Nat.reduceEqDiff, Int.reduceEq]) | refine AW.condT rfl ?_ | refine AW.condF rfl ?_ | ((first | refine GI.of (fun h => ?_) (fun h => ?_) (by first | exact Classical.em _ | exact (Classical.em _).symm | grind) | refine GD.of (fun h => ?_) (fun h => ?_) (by first | exact Classical.em _ | exact (Classical.em _).symm | grind)) <;> simp only [RS, LS, SY, ne_eq, isFl, floatV, constA, thenQ, blockQ, pack, intA, boolA, eqA, unA, nilcA, asI, asB, asS, loadA, idxA, lenA, slcA, AV.flat, AV.one, zA1, storeA, toD, srcOf, copyA, ↓reduceIte, reduceCtorEq, List.replicate, Nat.reduceBEq, Nat.reduceAdd, Nat.reduceMul, Nat.reduceSub, Nat.reduceLeDiff, Nat.reduceLT, Int.reduceToNat, Nat.reduceEqDiff, Int.reduceEq, h]) | (refine AW.condP rfl (fun h => ?_) (fun h => ?_) <;> try simp only [Bool.and_eq_true, decide_eq_true_eq, Bool.not_eq_true', decide_eq_false_iff_not, Bool.not_eq_false', Bool.not_eq_true, Bool.not_eq_false] at h) | refine And.intro (by omega) ?_ | fail)
  refine AW.range (α := List (Pt × Nat) × Bool × List Pt × Nat) ls.length (by omega) (by decide) (fun _ a => [(22, LN ls), (2, .ptr 0 0 0), (5, .mp 1), (6, qV a.2.1 a.2.2.1 a.2.2.2)]) (fun _ a => [BX ps ls gs, some (.mp (mpN a.1)), qB a.2.1 a.2.2.1])
    (fun i a => BfsI ls t a.1 k q d i ∧ leI a.1 ∧ a.2.2.2 ≤ a.2.2.1.length ∧ a.2.2.1.drop a.2.2.2 = (a.1.map (·.1)).drop k) (m, b, l, off) ⟨⟨hB, hqd, fun x hx => by simp at hx⟩, hI, ho, hd⟩ [0, 1, 2] ⟨rfl, by decide, rfl, ?_, ⟨⟨rfl, rfl⟩, ⟨⟨rfl, rfl⟩, ?_⟩⟩⟩ (by simp) ?_ ?_
  · cases b <;> simp [NT, belA, belL, tget, renA, renL, nmL, qV_f, qV_t]
  · cases b
    · trivial
    · exact ⟨⟨belB_rowsA _ _ _ (pts l), by rw [renB_rowsA]; rfl⟩, trivial⟩
  · rintro i ⟨m, b, l, off⟩ hi ⟨hJ, hI, ho, hd⟩
    simp only at hJ hI ho hd ⊢
    have hr := getD_lns hi
    simp only [lnR] at hr
    have hqd := hJ.at_
    have hml := hJ.b.len
    obtain ⟨hol, hlq⟩ := drop_head (q := q) hd (by rw [List.getElem?_map, hqd]; rfl)
    have hlk : lkP m q = some d := lkP_mem hJ.b.nd (List.mem_of_getElem? hqd)
    have hls2 : l.length - off ≤ 1000001 := by
      have := congrArg List.length hd
      simp at this
      omega
    have hkl := (List.getElem?_eq_some_iff.1 hqd).1
    have he : rowsA (pts (l.drop off ++ [ls[i].1])) = rowsA (pts (List.drop off l)) ++ [[AV.d (dI ls[i].fst.fst), AV.d (dI ls[i].fst.snd)]] := by simp only [rowsA, List.map_append]; rfl
    unfold c58_0
    cases b
    · rw [qV_f, qB_f]
      have hg0 : (pts (l.drop off)).getD 0 [] = [dI q.1, dI q.2] := by rw [getD_map_lt (by simp; omega)]; simp [hlq]
      have hlf : (pts (l.drop off)).length = l.length - off := by simp
      have hc0 : (0 : Int) < ((l.length - off : Nat) : Int) := by omega
      repeat' (first | refine AW.seq' ?_ | with_reducible refine AW.blockS rfl ?_ | ((first | refine AW.ops ?_ | refine AW.draw ?_ | refine AW.skip ?_ | refine AW.ret ?_ | refine AW.exit ?_ |  refine mgetNk rfl ?_ |  refine mgetN rfl ?_ |  refine msetN (d + 1) (by omega) rfl (by assumption) ?_) <;> simp (disch := omega) only [RS, LS, SY, ne_eq, isFl, floatV, constA, thenQ, blockQ, pack, intA, boolA, eqA, unA, nilcA, asI, asB, asS, loadA, idxA, lenA, slcA, AV.flat, AV.one, zA1, storeA, toD, srcOf, copyA, ↓reduceIte, reduceCtorEq, List.replicate, Nat.reduceBEq, Nat.reduceAdd, Nat.reduceMul, Nat.reduceSub, Nat.reduceLeDiff, Nat.reduceLT, Int.reduceToNat, Nat.reduceEqDiff, Int.reduceEq, wrap_id, hr, hg0, hlf, hc0, hlk, isSome_lk, pt_eq, Option.getD_some]) | refine AW.condT rfl ?_ | refine AW.condF rfl ?_ | ((first | refine GI.of (fun h => ?_) (fun h => ?_) (by first | exact Classical.em _ | exact (Classical.em _).symm | grind) | refine GD.of (fun h => ?_) (fun h => ?_) (by first | exact Classical.em _ | exact (Classical.em _).symm | grind)) <;> simp (disch := omega) only [RS, LS, SY, ne_eq, isFl, floatV, constA, thenQ, blockQ, pack, intA, boolA, eqA, unA, nilcA, asI, asB, asS, loadA, idxA, lenA, slcA, AV.flat, AV.one, zA1, storeA, toD, srcOf, copyA, ↓reduceIte, reduceCtorEq, List.replicate, Nat.reduceBEq, Nat.reduceAdd, Nat.reduceMul, Nat.reduceSub, Nat.reduceLeDiff, Nat.reduceLT, Int.reduceToNat, Nat.reduceEqDiff, Int.reduceEq, wrap_id, hr, hg0, hlf, hc0, hlk, isSome_lk, pt_eq, Option.getD_some, h]) | (refine AW.condP rfl (fun h => ?_) (fun h => ?_) <;> try simp only [Bool.and_eq_true, decide_eq_true_eq, Bool.not_eq_true', decide_eq_false_iff_not, Bool.not_eq_false', Bool.not_eq_true, Bool.not_eq_false] at h) | refine And.intro (by omega) ?_ | fail)
      · refine ⟨(m ++ [(ls[i].1, d + 1)], true, l.drop off ++ [ls[i].1], 0), [0, 1, 4], ⟨hJ.add hi (by assumption) (by assumption), leI_add hI hqd, Nat.zero_le _, drop_add hd hkl⟩, rfl, by decide, rfl, by simp [NT, belA, belL, tget, renA, renL, nmL, qV_t], ⟨⟨rfl, rfl⟩, ⟨⟨rfl, rfl⟩, ⟨⟨belB_rowsA _ _ _ (pts (l.drop off ++ [ls[i].1])), ?_⟩, trivial⟩⟩⟩⟩
        rw [renB_rowsA, he]; rfl
      · exact ⟨(m, false, l, off), [0, 1, 2], ⟨hJ.skip hi fun e => (by first | exact Classical.not_not.1 (by assumption) | exact absurd e (by assumption)), hI, ho, hd⟩, rfl, by decide, rfl, by simp [NT, belA, belL, tget, renA, renL, nmL, qV_f], ⟨⟨rfl, rfl⟩, ⟨⟨rfl, rfl⟩, trivial⟩⟩⟩
      · exact ⟨(m, false, l, off), [0, 1, 2], ⟨hJ.skip hi fun e => (by first | exact Classical.not_not.1 (by assumption) | exact absurd e (by assumption)), hI, ho, hd⟩, rfl, by decide, rfl, by simp [NT, belA, belL, tget, renA, renL, nmL, qV_f], ⟨⟨rfl, rfl⟩, ⟨⟨rfl, rfl⟩, trivial⟩⟩⟩
    · rw [qV_t, qB_t]
      have hg0 := rowsA_pts hol
      rw [hlq] at hg0
      have hc0 : (0 : Int) < ((l.length - off : Nat) : Int) := by omega
      have hrt := rows_tail (l := l) (off := off) rfl
      repeat' (first | refine AW.seq' ?_ | with_reducible refine AW.blockS rfl ?_ | ((first | refine AW.ops ?_ | refine AW.draw ?_ | refine AW.skip ?_ | refine AW.ret ?_ | refine AW.exit ?_ |  refine mgetNk rfl ?_ |  refine mgetN rfl ?_ |  refine msetN (d + 1) (by omega) rfl (by assumption) ?_) <;> simp (disch := omega) only [RS, LS, SY, ne_eq, isFl, floatV, constA, thenQ, blockQ, pack, intA, boolA, eqA, unA, nilcA, asI, asB, asS, loadA, idxA, lenA, slcA, AV.flat, AV.one, zA1, storeA, toD, srcOf, copyA, ↓reduceIte, reduceCtorEq, List.replicate, Nat.reduceBEq, Nat.reduceAdd, Nat.reduceMul, Nat.reduceSub, Nat.reduceLeDiff, Nat.reduceLT, Int.reduceToNat, Nat.reduceEqDiff, Int.reduceEq, wrap_id, hr, hg0, hc0, hlk, hrt, isSome_lk, pt_eq, Option.getD_some]) | refine AW.condT rfl ?_ | refine AW.condF rfl ?_ | ((first | refine GI.of (fun h => ?_) (fun h => ?_) (by first | exact Classical.em _ | exact (Classical.em _).symm | grind) | refine GD.of (fun h => ?_) (fun h => ?_) (by first | exact Classical.em _ | exact (Classical.em _).symm | grind)) <;> simp (disch := omega) only [RS, LS, SY, ne_eq, isFl, floatV, constA, thenQ, blockQ, pack, intA, boolA, eqA, unA, nilcA, asI, asB, asS, loadA, idxA, lenA, slcA, AV.flat, AV.one, zA1, storeA, toD, srcOf, copyA, ↓reduceIte, reduceCtorEq, List.replicate, Nat.reduceBEq, Nat.reduceAdd, Nat.reduceMul, Nat.reduceSub, Nat.reduceLeDiff, Nat.reduceLT, Int.reduceToNat, Nat.reduceEqDiff, Int.reduceEq, wrap_id, hr, hg0, hc0, hlk, hrt, isSome_lk, pt_eq, Option.getD_some, h]) | (refine AW.condP rfl (fun h => ?_) (fun h => ?_) <;> try simp only [Bool.and_eq_true, decide_eq_true_eq, Bool.not_eq_true', decide_eq_false_iff_not, Bool.not_eq_false', Bool.not_eq_true, Bool.not_eq_false] at h) | refine And.intro (by omega) ?_ | fail)
      · refine ⟨(m ++ [(ls[i].1, d + 1)], true, l.drop off ++ [ls[i].1], 0), [0, 1, 4], ⟨hJ.add hi (by assumption) (by assumption), leI_add hI hqd, Nat.zero_le _, drop_add hd hkl⟩, rfl, by decide, rfl, by simp [NT, belA, belL, tget, renA, renL, nmL, qV_t], ⟨⟨rfl, rfl⟩, ⟨⟨rfl, rfl⟩, ⟨⟨belB_rowsA _ _ _ (pts (l.drop off ++ [ls[i].1])), ?_⟩, trivial⟩⟩⟩⟩
        rw [renB_rowsA, he]; rfl
      · exact ⟨(m, true, l, off), [0, 1, 2], ⟨hJ.skip hi fun e => (by first | exact Classical.not_not.1 (by assumption) | exact absurd e (by assumption)), hI, ho, hd⟩, rfl, by decide, rfl, by simp [NT, belA, belL, tget, renA, renL, nmL, qV_t], ⟨⟨rfl, rfl⟩, ⟨⟨rfl, rfl⟩, ⟨⟨belB_rowsA _ _ _ (pts l), by rw [renB_rowsA]; rfl⟩, trivial⟩⟩⟩⟩
      · exact ⟨(m, true, l, off), [0, 1, 2], ⟨hJ.skip hi fun e => (by first | exact Classical.not_not.1 (by assumption) | exact absurd e (by assumption)), hI, ho, hd⟩, rfl, by decide, rfl, by simp [NT, belA, belL, tget, renA, renL, nmL, qV_t], ⟨⟨rfl, rfl⟩, ⟨⟨rfl, rfl⟩, ⟨⟨belB_rowsA _ _ _ (pts l), by rw [renB_rowsA]; rfl⟩, trivial⟩⟩⟩⟩
  · rintro ⟨m, b, l, off⟩ ⟨hJ, hI, ho, hd⟩
    simp only at hJ hI ho hd ⊢
    obtain ⟨hol, hlq⟩ := drop_head (q := q) hd (by rw [List.getElem?_map, hJ.at_]; rfl)
    have hc1 : (1 : Int) ≤ ((l.length - off : Nat) : Int) := by omega
    simp only [RS, LS, SY, ne_eq, isFl, floatV, constA, thenQ, blockQ, pack, intA, boolA, eqA, unA, nilcA, asI, asB, asS, loadA, idxA, lenA, slcA, AV.flat, AV.one, zA1, storeA, toD, srcOf, copyA, ↓reduceIte, reduceCtorEq, List.replicate, Nat.reduceBEq, Nat.reduceAdd, Nat.reduceMul, Nat.reduceSub, Nat.reduceLeDiff, Nat.reduceLT, Int.reduceToNat, Nat.reduceEqDiff, Int.reduceEq]
    cases b
    · rw [qV_f, qB_f]
      have hlf : (pts (l.drop off)).length = l.length - off := by simp
      repeat' (first | refine AW.seq' ?_ | with_reducible refine AW.blockS rfl ?_ | ((first | refine AW.ops ?_ | refine AW.draw ?_ | refine AW.skip ?_ | refine AW.ret ?_ | refine AW.exit ?_) <;> simp only [RS, LS, SY, ne_eq, isFl, floatV, constA, thenQ, blockQ, pack, intA, boolA, eqA, unA, nilcA, asI, asB, asS, loadA, idxA, lenA, slcA, AV.flat, AV.one, zA1, storeA, toD, srcOf, copyA, ↓reduceIte, reduceCtorEq, List.replicate, Nat.reduceBEq, Nat.reduceAdd, Nat.reduceMul, Nat.reduceSub, Nat.reduceLeDiff, Nat.reduceLT, Int.reduceToNat, Nat.reduceEqDiff, Int.reduceEq, hlf, hc1]) | refine AW.condT rfl ?_ | refine AW.condF rfl ?_ | ((first | refine GI.of (fun h => ?_) (fun h => ?_) (by first | exact Classical.em _ | exact (Classical.em _).symm | grind) | refine GD.of (fun h => ?_) (fun h => ?_) (by first | exact Classical.em _ | exact (Classical.em _).symm | grind)) <;> simp only [RS, LS, SY, ne_eq, isFl, floatV, constA, thenQ, blockQ, pack, intA, boolA, eqA, unA, nilcA, asI, asB, asS, loadA, idxA, lenA, slcA, AV.flat, AV.one, zA1, storeA, toD, srcOf, copyA, ↓reduceIte, reduceCtorEq, List.replicate, Nat.reduceBEq, Nat.reduceAdd, Nat.reduceMul, Nat.reduceSub, Nat.reduceLeDiff, Nat.reduceLT, Int.reduceToNat, Nat.reduceEqDiff, Int.reduceEq, hlf, hc1, h]) | (refine AW.condP rfl (fun h => ?_) (fun h => ?_) <;> try simp only [Bool.and_eq_true, decide_eq_true_eq, Bool.not_eq_true', decide_eq_false_iff_not, Bool.not_eq_false', Bool.not_eq_true, Bool.not_eq_false] at h) | refine And.intro (by omega) ?_ | fail)
      exact ⟨m, false, l, off + 1, [0, 1, 2], hJ.next, hI, hol, drop_next hd, rfl, by decide, rfl, by simp [NT, belA, belL, tget, renA, renL, nmL, qV_f], ⟨⟨rfl, rfl⟩, ⟨⟨rfl, rfl⟩, trivial⟩⟩⟩
    · rw [qV_t, qB_t]
      repeat' (first | refine AW.seq' ?_ | with_reducible refine AW.blockS rfl ?_ | ((first | refine AW.ops ?_ | refine AW.draw ?_ | refine AW.skip ?_ | refine AW.ret ?_ | refine AW.exit ?_) <;> simp only [RS, LS, SY, ne_eq, isFl, floatV, constA, thenQ, blockQ, pack, intA, boolA, eqA, unA, nilcA, asI, asB, asS, loadA, idxA, lenA, slcA, AV.flat, AV.one, zA1, storeA, toD, srcOf, copyA, ↓reduceIte, reduceCtorEq, List.replicate, Nat.reduceBEq, Nat.reduceAdd, Nat.reduceMul, Nat.reduceSub, Nat.reduceLeDiff, Nat.reduceLT, Int.reduceToNat, Nat.reduceEqDiff, Int.reduceEq, hc1]) | refine AW.condT rfl ?_ | refine AW.condF rfl ?_ | ((first | refine GI.of (fun h => ?_) (fun h => ?_) (by first | exact Classical.em _ | exact (Classical.em _).symm | grind) | refine GD.of (fun h => ?_) (fun h => ?_) (by first | exact Classical.em _ | exact (Classical.em _).symm | grind)) <;> simp only [RS, LS, SY, ne_eq, isFl, floatV, constA, thenQ, blockQ, pack, intA, boolA, eqA, unA, nilcA, asI, asB, asS, loadA, idxA, lenA, slcA, AV.flat, AV.one, zA1, storeA, toD, srcOf, copyA, ↓reduceIte, reduceCtorEq, List.replicate, Nat.reduceBEq, Nat.reduceAdd, Nat.reduceMul, Nat.reduceSub, Nat.reduceLeDiff, Nat.reduceLT, Int.reduceToNat, Nat.reduceEqDiff, Int.reduceEq, hc1, h]) | (refine AW.condP rfl (fun h => ?_) (fun h => ?_) <;> try simp only [Bool.and_eq_true, decide_eq_true_eq, Bool.not_eq_true', decide_eq_false_iff_not, Bool.not_eq_false', Bool.not_eq_true, Bool.not_eq_false] at h) | refine And.intro (by omega) ?_ | fail)
      exact ⟨m, true, l, off + 1, [0, 1, 2], hJ.next, hI, hol, drop_next hd, rfl, by decide, rfl, by simp [NT, belA, belL, tget, renA, renL, nmL, qV_t, Nat.sub_sub], ⟨⟨rfl, rfl⟩, ⟨⟨rfl, rfl⟩, ⟨⟨belB_rowsA _ _ _ (pts l), by rw [renB_rowsA]; rfl⟩, trivial⟩⟩⟩⟩
set_option maxHeartbeats 8000000 in
theorem dist0_ok (ps : List Pt) (ls : List Ln) (gs : List Gr) (hl : ls.length ≤ 1000000) (t : Pt) : ACalls Try.prog 58 [ADs ps ls (grs gs), APt t] [] (IsM ls t) := by
  refine ACalls.of fn58 (by simp) ?_
  unfold c58
  repeat' (first | refine AW.seq' ?_ | with_reducible refine AW.blockS rfl ?_ | ((first | refine AW.ops ?_ | refine AW.draw ?_ | refine AW.skip ?_ | refine AW.ret ?_ | refine AW.exit ?_ |  refine AOp.mkmap ?_ |  refine msetN (m := []) 0 rfl rfl (by simp) ?_) <;> simp only [RS, LS, SY, ne_eq, isFl, floatV, constA, thenQ, blockQ, pack, intA, boolA, eqA, unA, nilcA, asI, asB, asS, loadA, idxA, lenA, slcA, AV.flat, AV.one, zA1, storeA, toD, srcOf, copyA, ↓reduceIte, reduceCtorEq, List.replicate, Nat.reduceBEq, Nat.reduceAdd, Nat.reduceMul, Nat.reduceSub, Nat.reduceLeDiff, Nat.reduceLT, Int.reduceToNat, Nat.reduceEqDiff, Int.reduceEq]) | refine AW.condT rfl ?_ | refine AW.condF rfl ?_ | ((first | refine GI.of (fun h => ?_) (fun h => ?_) (by first | exact Classical.em _ | exact (Classical.em _).symm | grind) | refine GD.of (fun h => ?_) (fun h => ?_) (by first | exact Classical.em _ | exact (Classical.em _).symm | grind)) <;> simp only [RS, LS, SY, ne_eq, isFl, floatV, constA, thenQ, blockQ, pack, intA, boolA, eqA, unA, nilcA, asI, asB, asS, loadA, idxA, lenA, slcA, AV.flat, AV.one, zA1, storeA, toD, srcOf, copyA, ↓reduceIte, reduceCtorEq, List.replicate, Nat.reduceBEq, Nat.reduceAdd, Nat.reduceMul, Nat.reduceSub, Nat.reduceLeDiff, Nat.reduceLT, Int.reduceToNat, Nat.reduceEqDiff, Int.reduceEq, h]) | (refine AW.condP rfl (fun h => ?_) (fun h => ?_) <;> try simp only [Bool.and_eq_true, decide_eq_true_eq, Bool.not_eq_true', decide_eq_false_iff_not, Bool.not_eq_false', Bool.not_eq_true, Bool.not_eq_false] at h) | refine And.intro (by omega) ?_ | fail)
  refine AW.block ?_
  refine AW.loopA (α := Nat × List (Pt × Nat) × Bool × List Pt × Nat) (fun a => ls.length + 1 - a.1) (fun a => [(2, .ptr 0 0 0), (5, .mp 1), (6, qV a.2.2.1 a.2.2.2.1 a.2.2.2.2)]) (fun a => [BX ps ls gs, some (.mp (mpN a.2.1)), qB a.2.2.1 a.2.2.2.1])
    (fun a => Bfs ls t a.2.1 a.1 ∧ leI a.2.1 ∧ a.2.2.2.2 ≤ a.2.2.2.1.length ∧ a.2.2.2.1.drop a.2.2.2.2 = (a.2.1.map (·.1)).drop a.1) (0, [(t, 0)], false, [t], 0) ⟨bfs0 ls t, ?_, Nat.zero_le _, rfl⟩ [0, 2, 1] ⟨rfl, by decide, rfl, by simp [NT, belA, belL, tget, renA, renL, nmL, qV_f], ⟨⟨rfl, rfl⟩, ⟨⟨rfl, rfl⟩, trivial⟩⟩⟩ ?_
  · intro j x hx
    have := List.mem_of_getElem? hx
    simp only [List.mem_singleton] at this
    subst this; exact Nat.zero_le _
  rintro ⟨k, m, b, l, off⟩ ⟨hB, hI, ho, hd⟩
  simp only at hB hI ho hd ⊢
  unfold c58_1
  have hml := hB.len
  have hdl : l.length - off = m.length - k := by
    have := congrArg List.length hd
    simpa using this
  by_cases hk : k < m.length
  · obtain ⟨q, d, hqd⟩ : ∃ q d, m[k]? = some (q, d) := ⟨m[k].1, m[k].2, List.getElem?_eq_getElem hk⟩
    have hdk := hI k _ hqd
    simp only at hdk
    have hc0 : (0 : Int) < ((l.length - off : Nat) : Int) := by omega
    have hlf : (pts (l.drop off)).length = l.length - off := by simp
    have main : ∀ {T : Tm} {s : St} {Q : Fl → Tm → St → Prop}, Nrm [0, 1, 2] 0 T s [(2, .ptr 0 0 0), (5, .mp 1), (6, qV b l off)] [BX ps ls gs, some (.mp (mpN m)), qB b l] → (∀ T s, (∃ (m' : List (Pt × Nat)) (b' : Bool) (l' : List Pt) (off' : Nat) (rl : List Nat), Bfs ls t m' (k + 1) ∧ leI m' ∧ off' ≤ l'.length ∧ l'.drop off' = (m'.map (·.1)).drop (k + 1) ∧ Nrm rl 0 T s [(2, .ptr 0 0 0), (5, .mp 1), (6, qV b' l' off')] [BX ps ls gs, some (.mp (mpN m')), qB b' l']) → Q .normal T s) → AW Try.prog 61 0 stepC T s Q := fun hN hQ => AW.mono (dist_step hl hB hI ho hd hqd hN) fun fl T s h => by
      cases fl with
      | normal => exact hQ T s h
      | ret => exact h.elim
      | exit j => exact h.elim
    have fin : ∀ (T : Tm) (s : St), (∃ (m' : List (Pt × Nat)) (b' : Bool) (l' : List Pt) (off' : Nat) (rl : List Nat), Bfs ls t m' (k + 1) ∧ leI m' ∧ off' ≤ l'.length ∧ l'.drop off' = (m'.map (·.1)).drop (k + 1) ∧ Nrm rl 0 T s [(2, .ptr 0 0 0), (5, .mp 1), (6, qV b' l' off')] [BX ps ls gs, some (.mp (mpN m')), qB b' l']) → ∃ (a' : Nat × List (Pt × Nat) × Bool × List Pt × Nat) (rl : List Nat), (Bfs ls t a'.2.1 a'.1 ∧ leI a'.2.1 ∧ a'.2.2.2.2 ≤ a'.2.2.2.1.length ∧ a'.2.2.2.1.drop a'.2.2.2.2 = (a'.2.1.map (·.1)).drop a'.1) ∧ ls.length + 1 - a'.1 < ls.length + 1 - k ∧ Nrm rl 0 T s [(2, .ptr 0 0 0), (5, .mp 1), (6, qV a'.2.2.1 a'.2.2.2.1 a'.2.2.2.2)] [BX ps ls gs, some (.mp (mpN a'.2.1)), qB a'.2.2.1 a'.2.2.2.1] := fun T s ⟨m', b', l', off', rl, h1, h2, h3, h4, h5⟩ => ⟨(k + 1, m', b', l', off'), rl, ⟨h1, h2, h3, h4⟩, by simp only; omega, h5⟩
    refine AW.seq (M := fun T s => Nrm [0, 1, 2] 0 T s [(2, .ptr 0 0 0), (5, .mp 1), (6, qV b l off)] [BX ps ls gs, some (.mp (mpN m)), qB b l]) ?_ (fun T s hN => main hN fin)
    clear main fin
    cases b
    · rw [qV_f, qB_f]
      repeat' (first | refine AW.seq' ?_ | with_reducible refine AW.blockS rfl ?_ | ((first | refine AW.ops ?_ | refine AW.draw ?_ | refine AW.skip ?_ | refine AW.ret ?_ | refine AW.exit ?_) <;> simp only [RS, LS, SY, ne_eq, isFl, floatV, constA, thenQ, blockQ, pack, intA, boolA, eqA, unA, nilcA, asI, asB, asS, loadA, idxA, lenA, slcA, AV.flat, AV.one, zA1, storeA, toD, srcOf, copyA, ↓reduceIte, reduceCtorEq, List.replicate, Nat.reduceBEq, Nat.reduceAdd, Nat.reduceMul, Nat.reduceSub, Nat.reduceLeDiff, Nat.reduceLT, Int.reduceToNat, Nat.reduceEqDiff, Int.reduceEq, hlf, hc0]) | refine AW.condT rfl ?_ | refine AW.condF rfl ?_ | ((first | refine GI.of (fun h => ?_) (fun h => ?_) (by first | exact Classical.em _ | exact (Classical.em _).symm | grind) | refine GD.of (fun h => ?_) (fun h => ?_) (by first | exact Classical.em _ | exact (Classical.em _).symm | grind)) <;> simp only [RS, LS, SY, ne_eq, isFl, floatV, constA, thenQ, blockQ, pack, intA, boolA, eqA, unA, nilcA, asI, asB, asS, loadA, idxA, lenA, slcA, AV.flat, AV.one, zA1, storeA, toD, srcOf, copyA, ↓reduceIte, reduceCtorEq, List.replicate, Nat.reduceBEq, Nat.reduceAdd, Nat.reduceMul, Nat.reduceSub, Nat.reduceLeDiff, Nat.reduceLT, Int.reduceToNat, Nat.reduceEqDiff, Int.reduceEq, hlf, hc0, h]) | (refine AW.condP rfl (fun h => ?_) (fun h => ?_) <;> try simp only [Bool.and_eq_true, decide_eq_true_eq, Bool.not_eq_true', decide_eq_false_iff_not, Bool.not_eq_false', Bool.not_eq_true, Bool.not_eq_false] at h) | refine And.intro (by omega) ?_ | fail)
      exact ⟨rfl, by decide, rfl, by simp [NT, belA, belL, tget, renA, renL, nmL], ⟨⟨rfl, rfl⟩, ⟨⟨rfl, rfl⟩, trivial⟩⟩⟩
    · rw [qV_t, qB_t]
      repeat' (first | refine AW.seq' ?_ | with_reducible refine AW.blockS rfl ?_ | ((first | refine AW.ops ?_ | refine AW.draw ?_ | refine AW.skip ?_ | refine AW.ret ?_ | refine AW.exit ?_) <;> simp only [RS, LS, SY, ne_eq, isFl, floatV, constA, thenQ, blockQ, pack, intA, boolA, eqA, unA, nilcA, asI, asB, asS, loadA, idxA, lenA, slcA, AV.flat, AV.one, zA1, storeA, toD, srcOf, copyA, ↓reduceIte, reduceCtorEq, List.replicate, Nat.reduceBEq, Nat.reduceAdd, Nat.reduceMul, Nat.reduceSub, Nat.reduceLeDiff, Nat.reduceLT, Int.reduceToNat, Nat.reduceEqDiff, Int.reduceEq, hc0]) | refine AW.condT rfl ?_ | refine AW.condF rfl ?_ | ((first | refine GI.of (fun h => ?_) (fun h => ?_) (by first | exact Classical.em _ | exact (Classical.em _).symm | grind) | refine GD.of (fun h => ?_) (fun h => ?_) (by first | exact Classical.em _ | exact (Classical.em _).symm | grind)) <;> simp only [RS, LS, SY, ne_eq, isFl, floatV, constA, thenQ, blockQ, pack, intA, boolA, eqA, unA, nilcA, asI, asB, asS, loadA, idxA, lenA, slcA, AV.flat, AV.one, zA1, storeA, toD, srcOf, copyA, ↓reduceIte, reduceCtorEq, List.replicate, Nat.reduceBEq, Nat.reduceAdd, Nat.reduceMul, Nat.reduceSub, Nat.reduceLeDiff, Nat.reduceLT, Int.reduceToNat, Nat.reduceEqDiff, Int.reduceEq, hc0, h]) | (refine AW.condP rfl (fun h => ?_) (fun h => ?_) <;> try simp only [Bool.and_eq_true, decide_eq_true_eq, Bool.not_eq_true', decide_eq_false_iff_not, Bool.not_eq_false', Bool.not_eq_true, Bool.not_eq_false] at h) | refine And.intro (by omega) ?_ | fail)
      exact ⟨rfl, by decide, rfl, by simp [NT, belA, belL, tget, renA, renL, nmL], ⟨⟨rfl, rfl⟩, ⟨⟨rfl, rfl⟩, ⟨⟨belB_rowsA _ _ _ (pts l), by rw [renB_rowsA]; rfl⟩, trivial⟩⟩⟩⟩
  · have hc0 : ¬ (0 : Int) < ((l.length - off : Nat) : Int) := by omega
    have hkm : k = m.length := by have := hB.le; omega
    subst hkm
    have hfin : IsM ls t (.mp 1) [BX ps ls gs, some (.mp (mpN m)), qB b l] := ⟨1, m, rfl, rfl, hB.fin, fun x hx => by
      obtain ⟨j, hj, rfl⟩ := List.getElem_of_mem hx
      have := hI j _ (List.getElem?_eq_getElem hj)
      omega⟩
    cases b
    · have hlf : (pts (l.drop off)).length = l.length - off := by simp
      rw [qB_f] at hfin
      rw [qV_f, qB_f]
      repeat' (first | refine AW.seq' ?_ | with_reducible refine AW.blockS rfl ?_ | ((first | refine AW.ops ?_ | refine AW.draw ?_ | refine AW.skip ?_ | refine AW.ret ?_ | refine AW.exit ?_) <;> simp only [RS, LS, SY, ne_eq, isFl, floatV, constA, thenQ, blockQ, pack, intA, boolA, eqA, unA, nilcA, asI, asB, asS, loadA, idxA, lenA, slcA, AV.flat, AV.one, zA1, storeA, toD, srcOf, copyA, ↓reduceIte, reduceCtorEq, List.replicate, Nat.reduceBEq, Nat.reduceAdd, Nat.reduceMul, Nat.reduceSub, Nat.reduceLeDiff, Nat.reduceLT, Int.reduceToNat, Nat.reduceEqDiff, Int.reduceEq, hlf, hc0]) | refine AW.condT rfl ?_ | refine AW.condF rfl ?_ | ((first | refine GI.of (fun h => ?_) (fun h => ?_) (by first | exact Classical.em _ | exact (Classical.em _).symm | grind) | refine GD.of (fun h => ?_) (fun h => ?_) (by first | exact Classical.em _ | exact (Classical.em _).symm | grind)) <;> simp only [RS, LS, SY, ne_eq, isFl, floatV, constA, thenQ, blockQ, pack, intA, boolA, eqA, unA, nilcA, asI, asB, asS, loadA, idxA, lenA, slcA, AV.flat, AV.one, zA1, storeA, toD, srcOf, copyA, ↓reduceIte, reduceCtorEq, List.replicate, Nat.reduceBEq, Nat.reduceAdd, Nat.reduceMul, Nat.reduceSub, Nat.reduceLeDiff, Nat.reduceLT, Int.reduceToNat, Nat.reduceEqDiff, Int.reduceEq, hlf, hc0, h]) | (refine AW.condP rfl (fun h => ?_) (fun h => ?_) <;> try simp only [Bool.and_eq_true, decide_eq_true_eq, Bool.not_eq_true', decide_eq_false_iff_not, Bool.not_eq_false', Bool.not_eq_true, Bool.not_eq_false] at h) | refine And.intro (by omega) ?_ | fail)
      all_goals exact hfin
    · rw [qB_t] at hfin
      rw [qV_t, qB_t]
      repeat' (first | refine AW.seq' ?_ | with_reducible refine AW.blockS rfl ?_ | ((first | refine AW.ops ?_ | refine AW.draw ?_ | refine AW.skip ?_ | refine AW.ret ?_ | refine AW.exit ?_) <;> simp only [RS, LS, SY, ne_eq, isFl, floatV, constA, thenQ, blockQ, pack, intA, boolA, eqA, unA, nilcA, asI, asB, asS, loadA, idxA, lenA, slcA, AV.flat, AV.one, zA1, storeA, toD, srcOf, copyA, ↓reduceIte, reduceCtorEq, List.replicate, Nat.reduceBEq, Nat.reduceAdd, Nat.reduceMul, Nat.reduceSub, Nat.reduceLeDiff, Nat.reduceLT, Int.reduceToNat, Nat.reduceEqDiff, Int.reduceEq, hc0]) | refine AW.condT rfl ?_ | refine AW.condF rfl ?_ | ((first | refine GI.of (fun h => ?_) (fun h => ?_) (by first | exact Classical.em _ | exact (Classical.em _).symm | grind) | refine GD.of (fun h => ?_) (fun h => ?_) (by first | exact Classical.em _ | exact (Classical.em _).symm | grind)) <;> simp only [RS, LS, SY, ne_eq, isFl, floatV, constA, thenQ, blockQ, pack, intA, boolA, eqA, unA, nilcA, asI, asB, asS, loadA, idxA, lenA, slcA, AV.flat, AV.one, zA1, storeA, toD, srcOf, copyA, ↓reduceIte, reduceCtorEq, List.replicate, Nat.reduceBEq, Nat.reduceAdd, Nat.reduceMul, Nat.reduceSub, Nat.reduceLeDiff, Nat.reduceLT, Int.reduceToNat, Nat.reduceEqDiff, Int.reduceEq, hc0, h]) | (refine AW.condP rfl (fun h => ?_) (fun h => ?_) <;> try simp only [Bool.and_eq_true, decide_eq_true_eq, Bool.not_eq_true', decide_eq_false_iff_not, Bool.not_eq_false', Bool.not_eq_true, Bool.not_eq_false] at h) | refine And.intro (by omega) ?_ | fail)
      all_goals exact hfin
end Go.Proofs.Ytkgeadhnagnloaa.H
