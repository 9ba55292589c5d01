/- All sets of references that agree; the members of one of them stay a list of our own. -/
import Derived.Test.YtipanehdmhachaaGreatDoorHkA
import Derived.Test.YtipanehdmhachaaGreatDoorHvI
set_option linter.unusedSimpArgs false
set_option linter.unusedVariables false
set_option linter.unusedSectionVars false
namespace Go.Proofs.YtipanehdmhachaaGreatDoor.H
variable [DR]
/-- A set's row, if the list of these members is our own. -/
def rowK (id : Nat) (m : List Int) (x : VS) : List AV := if x.1 = m then [.own id 0 m.length, LI x.2] else [LI x.1, LI x.2]
def aBg {α : Type} (T k : Nat) (f : α → List AV) (l : List α) : Option Blk := match l with
  | [] => none
  | p :: l => some (.cells T k ((p :: l).map f))
section
variable {α : Type} {T k : Nat} {f : α → List AV}
theorem aBg_nil : aBg T k f [] = none := rfl
theorem aBg_cons (p : α) (l : List α) : aBg T k f (p :: l) = some (.cells T k ((p :: l).map f)) := rfl
end
theorem rowK_ne {id : Nat} {m : List Int} {x : VS} (h : x.1 ≠ m) : rowK id m x = [LI x.1, LI x.2] := if_neg h
theorem rowK_eq {id : Nat} {m : List Int} {x : VS} (h : x.1 = m) : rowK id m x = [.own id 0 m.length, LI x.2] := if_pos h
theorem rowK_bel {id n : Nat} {m : List Int} {x : VS} (h : id < n) : belL n (rowK id m x) = true := by
  unfold rowK; split
  · simp [belL, belA, h]
  · rfl
theorem rowK_ren {id : Nat} {m : List Int} {x : VS} (r : Nat → Nat) : renL r (rowK id m x) = rowK (r id) m x := by
  unfold rowK; split <;> rfl
theorem belB_K {id n T k : Nat} {m : List Int} {S : List VS} (h : id < n) : belB n (.cells T k (S.map (rowK id m))) = true := by
  simp only [belB, List.all_eq_true]
  intro r hr
  obtain ⟨x, _, rfl⟩ := List.mem_map.1 hr
  exact rowK_bel h
theorem renB_K {id T k : Nat} {m : List Int} {S : List VS} (r : Nat → Nat) : renB r (.cells T k (S.map (rowK id m))) = .cells T k (S.map (rowK (r id) m)) := by
  simp only [renB, List.map_map]
  congr 1
  exact List.map_congr_left fun x _ => rowK_ren r
theorem NS.k {T k n i id : Nat} {m : List Int} {S : List VS} {r : Nat → Nat} {s l : St} (hid : id < n) (h : s[r i]? = some (aBg T k (rowK (r id) m) S)) (t : NS n r s (i + 1) l) : NS n r s i (aBg T k (rowK id m) S :: l) := by
  cases S with
  | nil => rw [aBg_nil]; exact t
  | cons x S => exact ⟨⟨belB_K hid, by rw [h, aBg_cons, renB_K]⟩, t⟩
theorem rowK_fr {id j : Nat} {m : List Int} {x : VS} (h : id ≠ j) (k : Nat) (R : List (List D)) : frzL j k R (rowK id m x) = rowK id m x ∧ fitL j R.length (rowK id m x) := by
  unfold rowK; split
  · refine ⟨by simp [frzL, frzA, h], by simp [fitL, fitA]; exact fun e => absurd e h⟩
  · exact ⟨rfl, by simp [fitL, fitA]⟩
theorem FrB.k {T k id j : Nat} {m : List Int} {S : List VS} {b : Blk} (hij : id ≠ j) (h : aBg T k (rowK id m) S = some b) : FrB j b := by
  cases S with
  | nil => cases h
  | cons x S =>
    rw [aBg_cons, Option.some.injEq] at h; subst h
    refine fun k' R => ⟨?_, ?_⟩
    · simp only [frzB]
      congr 1
      rw [List.map_map]
      exact List.map_congr_left fun x _ => (rowK_fr hij k' R).1.symm
    · simp only [fitB]
      intro r hr
      obtain ⟨x, _, rfl⟩ := List.mem_map.1 hr
      exact (rowK_fr hij k' R).2
theorem setsT_mem {c : List Int} {l : List Fx} {k : Nat} {x : VS} (h : x ∈ setsT c l k) : ∃ j, j < k ∧ x = setP c l.length j := by
  unfold setsT at h
  obtain ⟨j, hj, rfl⟩ := List.mem_map.1 h
  exact ⟨j, List.mem_range.1 (List.mem_filter.1 hj).1, rfl⟩
theorem setsT_ne {c : List Int} {l : List Fx} {ks k : Nat} (hks : ks < 2 ^ l.length) (h : k ≤ ks) {x : VS} (hx : x ∈ setsT c l k) : x.1 ≠ bitL l.length ks := by
  obtain ⟨j, hj, rfl⟩ := setsT_mem hx
  intro e
  have := bits_inj (n := l.length) (k := j) (k' := ks) (by omega) hks e
  omega
theorem map_rowK {id id' : Nat} {m : List Int} {S : List VS} (h : ∀ x ∈ S, x.1 ≠ m) : S.map (rowK id m) = S.map (rowK id' m) :=
  List.map_congr_left fun x hx => by rw [rowK_ne (h x hx), rowK_ne (h x hx)]
theorem pick_ne {c m : List Int} {i : Int} (hi : i ∈ m) (h0 : 0 ≤ i) (h1 : i < c.length) : pickP c m ≠ [] := by
  have h : c[i.toNat]'(by omega) ∈ pickP c m := by
    unfold pickP
    rw [List.mem_filterMap]
    exact ⟨i, hi, by rw [if_pos h0, List.getElem?_eq_getElem (by omega)]⟩
  exact List.ne_nil_of_mem h
def keepM (ks k : Nat) (m : List Int) : List Int := if k ≤ ks then [] else m
theorem keep_lt {ks k : Nat} {m : List Int} (h : k ≠ ks) : keepM ks (k + 1) m = keepM ks k m := by
  unfold keepM
  by_cases h1 : k ≤ ks
  · rw [if_pos h1, if_pos (by omega)]
  · rw [if_neg h1, if_neg (by omega)]
set_option maxHeartbeats 16000000 in
theorem sets_keep (c : List Int) (l : List Fx) (hc : c.length = l.length) (hl : l.length ≤ 8) {ks : Nat} {m : List Int} (hks : ks < 2 ^ l.length) (hm : bitL l.length ks = m) (hm0 : m ≠ []) (hcm : clqP l m = true) :
    ACalls Tryz.prog 64 [LI c, LF l] [] fun v s' => v = gVg 0 (setsP c l) ∧ s' = [aBg 130 2 (rowK 1 m) (setsP c l), gBg 3 1 inR1 m] := by
  refine ACalls.of fn64 (by simp) ?_
  unfold c64
  repeat' (first | refine AW.seq' ?_ | with_reducible refine AW.blockS rfl ?_ | ((first | refine AW.ops ?_ | refine AW.draw ?_ | refine AW.skip ?_ | refine AW.ret ?_ | refine AW.exit ?_) <;> simp only [RS, LS, SY, ne_eq, isFl, floatV, constA, thenQ, blockQ, pack, intA, boolA, eqA, unA, nilcA, asI, asB, asS, loadA, idxA, lenA, slcA, AV.flat, AV.one, zA1, storeA, toD, srcOf, copyA, ↓reduceIte, reduceCtorEq, List.replicate, Nat.reduceBEq, Nat.reduceAdd, Nat.reduceMul, Nat.reduceSub, Nat.reduceLeDiff, Nat.reduceLT, Int.reduceToNat, Nat.reduceEqDiff, Int.reduceEq]) | refine AW.condT rfl ?_ | refine AW.condF rfl ?_ | ((first | (refine GI.of (fun h => ?_) (fun h => ?_) ?emm; case emm => first | exact Classical.em _ | exact (Classical.em _).symm | grind) | (refine GD.of (fun h => ?_) (fun h => ?_) ?emm; case emm => first | exact Classical.em _ | exact (Classical.em _).symm | grind)) <;> simp only [RS, LS, SY, ne_eq, isFl, floatV, constA, thenQ, blockQ, pack, intA, boolA, eqA, unA, nilcA, asI, asB, asS, loadA, idxA, lenA, slcA, AV.flat, AV.one, zA1, storeA, toD, srcOf, copyA, ↓reduceIte, reduceCtorEq, List.replicate, Nat.reduceBEq, Nat.reduceAdd, Nat.reduceMul, Nat.reduceSub, Nat.reduceLeDiff, Nat.reduceLT, Int.reduceToNat, Nat.reduceEqDiff, Int.reduceEq, h]) | (refine AW.condP rfl (fun h => ?_) (fun h => ?_) <;> try simp only [Bool.and_eq_true, decide_eq_true_eq, Bool.not_eq_true', decide_eq_false_iff_not, Bool.not_eq_false', Bool.not_eq_true, Bool.not_eq_false] at h) | refine And.intro (by omega) ?_ | fail)
  refine AW.block ?_
  have hp8 : 2 ^ l.length ≤ 256 := Nat.pow_le_pow_right (n := 2) (by omega) hl
  refine AW.loopA (α := Nat) (fun k => 2 ^ l.length + 1 - k) (fun k => [(0, LI c), (1, LF l), (6, AI .u64 k), (5, gVg 0 (setsT c l k))]) (fun k => [aBg 130 2 (rowK 1 m) (setsT c l k), gBg 3 1 inR1 (keepM ks k m)]) (fun k => k ≤ 2 ^ l.length) 0 (Nat.zero_le _) [0, 1] ⟨rfl, by decide, rfl, by simp [NT, belA, belL, tget, renA, renL, nmL, setsT, gVg], by simp [keepM, setsT, aBg, gBg, NS]⟩ ?_
  intro k hk
  unfold c64_1
  have hsl := setsT_len c l k
  have hss := setsT_succ c l k
  have hse : setsT c l (2 ^ l.length) = setsP c l := rfl
  have hkp : k ≠ ks → keepM ks (k + 1) m = keepM ks k m := fun h => keep_lt h
  have hk0 : k = ks → keepM ks k m = [] ∧ keepM ks (k + 1) m = m := fun h => by subst h; exact ⟨if_pos (Nat.le_refl _), if_neg (by omega)⟩
  have hke2 : keepM ks (2 ^ l.length) m = m := by unfold keepM; rw [if_neg (by omega)]
  have hne2 : k ≤ ks → ∀ x ∈ setsT c l k, x.1 ≠ m := fun h x hx => by rw [← hm]; exact setsT_ne hks h hx
  generalize hS : setsT c l k = S at hsl hss hne2
  have hsh := shl_eq hl
  by_cases hlt : k < 2 ^ l.length
  · have hlt' : (k : Int) < ((2 ^ l.length : Nat) : Int) := Int.ofNat_lt.2 hlt
    have hk6 : k < 256 := Nat.lt_of_lt_of_le hlt hp8
    have hb8 : bitL 8 k = bitL l.length k := bitL_eq hlt hl
    generalize hKM : keepM ks k m = KM at hkp hk0
    repeat' (first | refine AW.seq' ?_ | with_reducible refine AW.blockS rfl ?_ | ((first | refine AW.ops ?_ | refine AW.draw ?_ | refine AW.skip ?_ | refine AW.ret ?_ | refine AW.exit ?_) <;> simp only [RS, LS, SY, ne_eq, isFl, floatV, constA, thenQ, blockQ, pack, intA, boolA, eqA, unA, nilcA, asI, asB, asS, loadA, idxA, lenA, slcA, AV.flat, AV.one, zA1, storeA, toD, srcOf, copyA, ↓reduceIte, reduceCtorEq, List.replicate, Nat.reduceBEq, Nat.reduceAdd, Nat.reduceMul, Nat.reduceSub, Nat.reduceLeDiff, Nat.reduceLT, Int.reduceToNat, Nat.reduceEqDiff, Int.reduceEq, hsh, hlt']) | refine AW.condT rfl ?_ | refine AW.condF rfl ?_ | ((first | (refine GI.of (fun h => ?_) (fun h => ?_) ?emm; case emm => first | exact Classical.em _ | exact (Classical.em _).symm | grind) | (refine GD.of (fun h => ?_) (fun h => ?_) ?emm; case emm => first | exact Classical.em _ | exact (Classical.em _).symm | grind)) <;> simp only [RS, LS, SY, ne_eq, isFl, floatV, constA, thenQ, blockQ, pack, intA, boolA, eqA, unA, nilcA, asI, asB, asS, loadA, idxA, lenA, slcA, AV.flat, AV.one, zA1, storeA, toD, srcOf, copyA, ↓reduceIte, reduceCtorEq, List.replicate, Nat.reduceBEq, Nat.reduceAdd, Nat.reduceMul, Nat.reduceSub, Nat.reduceLeDiff, Nat.reduceLT, Int.reduceToNat, Nat.reduceEqDiff, Int.reduceEq, hsh, hlt', h]) | (refine AW.condP rfl (fun h => ?_) (fun h => ?_) <;> try simp only [Bool.and_eq_true, decide_eq_true_eq, Bool.not_eq_true', decide_eq_false_iff_not, Bool.not_eq_false', Bool.not_eq_true, Bool.not_eq_false] at h) | refine And.intro (by omega) ?_ | fail)
    refine AW.cut2 (M := fun T s => ∃ rl, Nrm rl 0 T s [(0, LI c), (1, LF l), (6, AI .u64 k), (5, gVg 0 S), (7, gVg 2 (bitL 8 k))] [aBg 130 2 (rowK 1 m) S, gBg 3 1 inR1 KM, gBg 3 1 inR1 (bitL 8 k)]) ?_ (fun T s ⟨rl, hN⟩ => AW.nrm rl hN ?_)
    · refine AW.block ?_
      refine AW.loopA (α := Nat × List Int) (fun a => a.1) (fun a => [(0, LI c), (1, LF l), (6, AI .u64 k), (5, gVg 0 S), (8, AI .u64 a.1), (7, gVg 2 a.2)]) (fun a => [aBg 130 2 (rowK 1 m) S, gBg 3 1 inR1 KM, gBg 3 1 inR1 a.2]) (fun a => a.1 < 256 ∧ a.2 ++ bitL 8 a.1 = bitL 8 k) (k, []) ⟨hk6, rfl⟩ [0, 1, 2] ⟨rfl, by decide, rfl, by simp [NT, belA, belL, tget, renA, renL, nmL, gVg_nil, renA_gVg, belA_gVg], NS.k (by simp) rfl (NS.g rfl trivial)⟩ ?_
      rintro ⟨r, mem⟩ ⟨h1, h2⟩
      simp only at h1 h2 ⊢
      unfold c64_0
      by_cases h0 : r = 0
      · subst h0
        rw [bit_zero, List.append_nil] at h2
        subst h2
        have hz : ((0 : Nat) : Int) = 0 := rfl
        repeat' (first | refine AW.seq' ?_ | with_reducible refine AW.blockS rfl ?_ | ((first | refine AW.ops ?_ | refine AW.draw ?_ | refine AW.skip ?_ | refine AW.ret ?_ | refine AW.exit ?_) <;> simp only [RS, LS, SY, ne_eq, isFl, floatV, constA, thenQ, blockQ, pack, intA, boolA, eqA, unA, nilcA, asI, asB, asS, loadA, idxA, lenA, slcA, AV.flat, AV.one, zA1, storeA, toD, srcOf, copyA, ↓reduceIte, reduceCtorEq, List.replicate, Nat.reduceBEq, Nat.reduceAdd, Nat.reduceMul, Nat.reduceSub, Nat.reduceLeDiff, Nat.reduceLT, Int.reduceToNat, Nat.reduceEqDiff, Int.reduceEq, hz]) | refine AW.condT rfl ?_ | refine AW.condF rfl ?_ | ((first | (refine GI.of (fun h => ?_) (fun h => ?_) ?emm; case emm => first | exact Classical.em _ | exact (Classical.em _).symm | grind) | (refine GD.of (fun h => ?_) (fun h => ?_) ?emm; case emm => first | exact Classical.em _ | exact (Classical.em _).symm | grind)) <;> simp only [RS, LS, SY, ne_eq, isFl, floatV, constA, thenQ, blockQ, pack, intA, boolA, eqA, unA, nilcA, asI, asB, asS, loadA, idxA, lenA, slcA, AV.flat, AV.one, zA1, storeA, toD, srcOf, copyA, ↓reduceIte, reduceCtorEq, List.replicate, Nat.reduceBEq, Nat.reduceAdd, Nat.reduceMul, Nat.reduceSub, Nat.reduceLeDiff, Nat.reduceLT, Int.reduceToNat, Nat.reduceEqDiff, Int.reduceEq, hz, h]) | (refine AW.condP rfl (fun h => ?_) (fun h => ?_) <;> try simp only [Bool.and_eq_true, decide_eq_true_eq, Bool.not_eq_true', decide_eq_false_iff_not, Bool.not_eq_false', Bool.not_eq_true, Bool.not_eq_false] at h) | refine And.intro (by omega) ?_ | fail)
        exact ⟨[0, 1, 2], rfl, by decide, rfl, by simp [NT, belA, belL, tget, renA, renL, nmL, renA_gVg, belA_gVg], NS.k (by simp) rfl (NS.g rfl (NS.g rfl trivial))⟩
      · have hr0 : ¬ (r : Int) = 0 := by omega
        obtain ⟨b1, b2, b3⟩ := bit_step (by omega) h1
        have ht := tz_ok r (by omega) h1
        rw [b1] at h2
        generalize tzF r = z at ht h2 b1
        generalize hq : r &&& (r - 1) = q at b1 b2 b3 h2
        have hml : mem.length ≤ 8 := by
          have := congrArg List.length h2
          rw [List.length_append] at this
          have := bit_len 8 k
          omega
        cases mem with
        | nil =>
          rw [gVg_nil, gBg_nil]
          repeat' (first | refine AW.seq' ?_ | with_reducible refine AW.blockS rfl ?_ | ((first | refine AW.ops ?_ | refine AW.draw ?_ | refine AW.skip ?_ | refine AW.ret ?_ | refine AW.exit ?_ | refine Fn.call (ht) rfl rfl ?_) <;> simp only [RS, LS, SY, ne_eq, isFl, floatV, constA, thenQ, blockQ, pack, intA, boolA, eqA, unA, nilcA, asI, asB, asS, loadA, idxA, lenA, slcA, AV.flat, AV.one, zA1, storeA, toD, srcOf, copyA, ↓reduceIte, reduceCtorEq, List.replicate, Nat.reduceBEq, Nat.reduceAdd, Nat.reduceMul, Nat.reduceSub, Nat.reduceLeDiff, Nat.reduceLT, Int.reduceToNat, Nat.reduceEqDiff, Int.reduceEq, hr0, b3]) | refine AW.condT rfl ?_ | refine AW.condF rfl ?_ | ((first | (refine GI.of (fun h => ?_) (fun h => ?_) ?emm; case emm => first | exact Classical.em _ | exact (Classical.em _).symm | grind) | (refine GD.of (fun h => ?_) (fun h => ?_) ?emm; case emm => first | exact Classical.em _ | exact (Classical.em _).symm | grind)) <;> simp only [RS, LS, SY, ne_eq, isFl, floatV, constA, thenQ, blockQ, pack, intA, boolA, eqA, unA, nilcA, asI, asB, asS, loadA, idxA, lenA, slcA, AV.flat, AV.one, zA1, storeA, toD, srcOf, copyA, ↓reduceIte, reduceCtorEq, List.replicate, Nat.reduceBEq, Nat.reduceAdd, Nat.reduceMul, Nat.reduceSub, Nat.reduceLeDiff, Nat.reduceLT, Int.reduceToNat, Nat.reduceEqDiff, Int.reduceEq, hr0, b3, h]) | (refine AW.condP rfl (fun h => ?_) (fun h => ?_) <;> try simp only [Bool.and_eq_true, decide_eq_true_eq, Bool.not_eq_true', decide_eq_false_iff_not, Bool.not_eq_false', Bool.not_eq_true, Bool.not_eq_false] at h) | refine And.intro (by omega) ?_ | fail)
          exact ⟨(q, [(z : Int)]), [0, 1, 3], ⟨by simp only; omega, h2⟩, b2, rfl, by decide, rfl, by simp [NT, belA, belL, tget, renA, renL, nmL, renA_gVg, belA_gVg, gVg_cons], NS.k (by simp) rfl (NS.g rfl ⟨⟨rfl, rfl⟩, trivial⟩)⟩
        | cons x mem =>
          rw [gVg_cons, gBg_cons]
          have htk : List.take mem.length (List.map inR1 mem) = List.map inR1 mem := List.take_of_length_le (by simp)
          have hm2 : mem.length + 1 ≤ 8 := hml
          repeat' (first | refine AW.seq' ?_ | with_reducible refine AW.blockS rfl ?_ | ((first | refine AW.ops ?_ | refine AW.draw ?_ | refine AW.skip ?_ | refine AW.ret ?_ | refine AW.exit ?_ | refine Fn.call (ht) rfl rfl ?_) <;> simp (disch := omega) only [RS, LS, SY, ne_eq, isFl, floatV, constA, thenQ, blockQ, pack, intA, boolA, eqA, unA, nilcA, asI, asB, asS, loadA, idxA, lenA, slcA, AV.flat, AV.one, zA1, storeA, toD, srcOf, copyA, ↓reduceIte, reduceCtorEq, List.replicate, Nat.reduceBEq, Nat.reduceAdd, Nat.reduceMul, Nat.reduceSub, Nat.reduceLeDiff, Nat.reduceLT, Int.reduceToNat, Nat.reduceEqDiff, Int.reduceEq, wrap_id, hr0, b3, htk]) | refine AW.condT rfl ?_ | refine AW.condF rfl ?_ | ((first | (refine GI.of (fun h => ?_) (fun h => ?_) ?emm; case emm => first | exact Classical.em _ | exact (Classical.em _).symm | grind) | (refine GD.of (fun h => ?_) (fun h => ?_) ?emm; case emm => first | exact Classical.em _ | exact (Classical.em _).symm | grind)) <;> simp (disch := omega) only [RS, LS, SY, ne_eq, isFl, floatV, constA, thenQ, blockQ, pack, intA, boolA, eqA, unA, nilcA, asI, asB, asS, loadA, idxA, lenA, slcA, AV.flat, AV.one, zA1, storeA, toD, srcOf, copyA, ↓reduceIte, reduceCtorEq, List.replicate, Nat.reduceBEq, Nat.reduceAdd, Nat.reduceMul, Nat.reduceSub, Nat.reduceLeDiff, Nat.reduceLT, Int.reduceToNat, Nat.reduceEqDiff, Int.reduceEq, wrap_id, hr0, b3, htk, h]) | (refine AW.condP rfl (fun h => ?_) (fun h => ?_) <;> try simp only [Bool.and_eq_true, decide_eq_true_eq, Bool.not_eq_true', decide_eq_false_iff_not, Bool.not_eq_false', Bool.not_eq_true, Bool.not_eq_false] at h) | refine And.intro (by omega) ?_ | fail)
          have e : rowsA (ints (x :: (mem ++ [(z : Int)]))) = [AV.d (dI x)] :: (rowsA (List.map inR1 mem) ++ [[AV.d (dI (z : Int))]]) := by simp [rowsA, ints]
          exact ⟨(q, x :: (mem ++ [(z : Int)])), [0, 1, 3], ⟨by simp only; omega, by simpa using h2⟩, b2, rfl, by decide, rfl, by simp [NT, belA, belL, tget, renA, renL, nmL, renA_gVg, belA_gVg, gVg_cons], NS.k (by simp) rfl (NS.g rfl ⟨⟨belB_rowsA _ _ _ (ints (x :: (mem ++ [(z : Int)]))), by rw [renB_rowsA, e]; rfl⟩, trivial⟩)⟩
    · have hinc := inc_eq hk6
      have hbl := bit_len l.length k
      by_cases hkk : k = ks
      · subst hkk
        rw [hb8, hm]
        rw [hm] at hbl
        obtain ⟨e1, e2⟩ := hk0 rfl
        subst e1
        have hne := hne2 (Nat.le_refl _)
        have hq := clique_ok l m (by omega) (by omega)
        rw [hcm] at hq
        have hpn : pickP c m ≠ [] := by
          obtain ⟨y, m', hy⟩ := List.exists_cons_of_ne_nil hm0
          have hy2 : y ∈ bitL l.length k := by rw [hm, hy]; exact List.mem_cons_self ..
          obtain ⟨i, h1, h2, h3⟩ := (bitL_mem ..).1 hy2
          exact pick_ne (i := y) (by rw [hy]; exact List.mem_cons_self ..) (by omega) (by omega)
        have hcs := causes_own c m (by omega) (by omega) hpn
        have hsp : setP c l.length k = (m, cauP c m) := by unfold setP; rw [hm]
        rw [hsp, hm, hcm] at hss
        simp only [if_true] at hss
        have hdt : ((ints m).drop 0).take m.length = ints m := by rw [List.drop_zero]; exact List.take_of_length_le (by simp)
        have hq' : Fn Tryz.prog 88 [LF l, .d (.lst 1 (((ints m).drop 0).take m.length))] (AB true) := by rw [hdt]; exact hq
        have hil : (ints m).length = m.length := by simp
        have hcs' : ACalls Tryz.prog 89 [LI c, .d (.lst 1 (((ints m).drop 0).take m.length))] [] fun v s' => ∃ t rows', v = .own 0 0 (ints (cauP c m)).length ∧ s' = [some (.cells t 1 (rowsA rows'))] ∧ rows'.take (ints (cauP c m)).length = ints (cauP c m) ∧ scL (rowsA rows').flatten = true := by rw [hdt]; exact hcs
        clear hcs
        generalize cauP c m = cs at hcs' hss
        obtain ⟨y, m', rfl⟩ := List.exists_cons_of_ne_nil hm0
        rw [gVg_cons, gBg_cons]
        cases S with
        | nil =>
          rw [gVg_nil, aBg_nil, gBg_nil]
          repeat' (first | refine AW.seq' ?_ | with_reducible refine AW.blockS rfl ?_ | ((first | refine AW.ops ?_ | refine AW.draw ?_ | refine AW.skip ?_ | refine AW.ret ?_ | refine AW.exit ?_ |  (refine Fn.lend hq' (.same rfl (.own rfl (by simp) .nil)) rfl ?_) |  (refine ACalls.lendF hcs' (.same rfl (.own rfl (by simp) .nil)) ?_)) <;> simp only [RS, LS, SY, ne_eq, isFl, floatV, constA, thenQ, blockQ, pack, intA, boolA, eqA, unA, nilcA, asI, asB, asS, loadA, idxA, lenA, slcA, AV.flat, AV.one, zA1, storeA, toD, srcOf, copyA, ↓reduceIte, reduceCtorEq, List.replicate, Nat.reduceBEq, Nat.reduceAdd, Nat.reduceMul, Nat.reduceSub, Nat.reduceLeDiff, Nat.reduceLT, Int.reduceToNat, Nat.reduceEqDiff, Int.reduceEq, hinc]) | refine AW.condT rfl ?_ | refine AW.condF rfl ?_ | ((first | (refine GI.of (fun h => ?_) (fun h => ?_) ?emm; case emm => first | exact Classical.em _ | exact (Classical.em _).symm | grind) | (refine GD.of (fun h => ?_) (fun h => ?_) ?emm; case emm => first | exact Classical.em _ | exact (Classical.em _).symm | grind)) <;> simp only [RS, LS, SY, ne_eq, isFl, floatV, constA, thenQ, blockQ, pack, intA, boolA, eqA, unA, nilcA, asI, asB, asS, loadA, idxA, lenA, slcA, AV.flat, AV.one, zA1, storeA, toD, srcOf, copyA, ↓reduceIte, reduceCtorEq, List.replicate, Nat.reduceBEq, Nat.reduceAdd, Nat.reduceMul, Nat.reduceSub, Nat.reduceLeDiff, Nat.reduceLT, Int.reduceToNat, Nat.reduceEqDiff, Int.reduceEq, hinc, h]) | (refine AW.condP rfl (fun h => ?_) (fun h => ?_) <;> try simp only [Bool.and_eq_true, decide_eq_true_eq, Bool.not_eq_true', decide_eq_false_iff_not, Bool.not_eq_false', Bool.not_eq_true, Bool.not_eq_false] at h) | refine And.intro (by omega) ?_ | fail)
          have e : aBg 130 2 (rowK 2 (y :: m')) ([] ++ [(y :: m', cs)]) = some (.cells 130 2 [[.own 2 0 (m'.length + 1), LI cs]]) := by simp [aBg, rowK_eq]
          exact ⟨k + 1, [4, 2], hlt, by omega, rfl, by decide, rfl, by simp [NT, belA, belL, tget, renA, renL, nmL, hss, gVg_cons], by rw [hss, e2]; exact NS.k (by simp) (by rw [show rowK (nmL [4, 2] 1) (y :: m') = rowK 2 (y :: m') from rfl, e]; rfl) (NS.g rfl trivial)⟩
        | cons x S =>
          rw [gVg_cons, aBg_cons, gBg_nil]
          have htk : List.take S.length (List.map (rowK 1 (y :: m')) S) = List.map (rowK 1 (y :: m')) S := List.take_of_length_le (by simp)
          have hS2 : S.length + 1 ≤ 256 := by simp only [List.length_cons] at hsl; omega
          repeat' (first | refine AW.seq' ?_ | with_reducible refine AW.blockS rfl ?_ | ((first | refine AW.ops ?_ | refine AW.draw ?_ | refine AW.skip ?_ | refine AW.ret ?_ | refine AW.exit ?_ |  (refine Fn.lend hq' (.same rfl (.own rfl (by simp) .nil)) rfl ?_) |  (refine ACalls.lendF hcs' (.same rfl (.own rfl (by simp) .nil)) ?_)) <;> simp (disch := omega) only [RS, LS, SY, ne_eq, isFl, floatV, constA, thenQ, blockQ, pack, intA, boolA, eqA, unA, nilcA, asI, asB, asS, loadA, idxA, lenA, slcA, AV.flat, AV.one, zA1, storeA, toD, srcOf, copyA, ↓reduceIte, reduceCtorEq, List.replicate, Nat.reduceBEq, Nat.reduceAdd, Nat.reduceMul, Nat.reduceSub, Nat.reduceLeDiff, Nat.reduceLT, Int.reduceToNat, Nat.reduceEqDiff, Int.reduceEq, wrap_id, hinc, htk]) | refine AW.condT rfl ?_ | refine AW.condF rfl ?_ | ((first | (refine GI.of (fun h => ?_) (fun h => ?_) ?emm; case emm => first | exact Classical.em _ | exact (Classical.em _).symm | grind) | (refine GD.of (fun h => ?_) (fun h => ?_) ?emm; case emm => first | exact Classical.em _ | exact (Classical.em _).symm | grind)) <;> simp (disch := omega) only [RS, LS, SY, ne_eq, isFl, floatV, constA, thenQ, blockQ, pack, intA, boolA, eqA, unA, nilcA, asI, asB, asS, loadA, idxA, lenA, slcA, AV.flat, AV.one, zA1, storeA, toD, srcOf, copyA, ↓reduceIte, reduceCtorEq, List.replicate, Nat.reduceBEq, Nat.reduceAdd, Nat.reduceMul, Nat.reduceSub, Nat.reduceLeDiff, Nat.reduceLT, Int.reduceToNat, Nat.reduceEqDiff, Int.reduceEq, wrap_id, hinc, htk, h]) | (refine AW.condP rfl (fun h => ?_) (fun h => ?_) <;> try simp only [Bool.and_eq_true, decide_eq_true_eq, Bool.not_eq_true', decide_eq_false_iff_not, Bool.not_eq_false', Bool.not_eq_true, Bool.not_eq_false] at h) | refine And.intro (by omega) ?_ | fail)
          have e0 : (x :: S).map (rowK 2 (y :: m')) = (x :: S).map (rowK 1 (y :: m')) := map_rowK hne
          have e : aBg 130 2 (rowK 2 (y :: m')) (x :: S ++ [(y :: m', cs)]) = some (.cells 130 2 (rowK 1 (y :: m') x :: (S.map (rowK 1 (y :: m')) ++ [[.own 2 0 (m'.length + 1), LI cs]]))) := by
            show some (Blk.cells _ 2 ((x :: S ++ [(y :: m', cs)]).map (rowK 2 (y :: m')))) = _
            rw [List.map_append, e0]; simp [rowK_eq]
          exact ⟨k + 1, [4, 2], hlt, by omega, rfl, by decide, rfl, by simp [NT, belA, belL, tget, renA, renL, nmL, hss, gVg_cons], by rw [hss, e2]; exact NS.k (by simp) (by rw [show rowK (nmL [4, 2] 1) (y :: m') = rowK 2 (y :: m') from rfl, e]; rfl) (NS.g rfl trivial)⟩
      · refine AW.frzI (id := 2) (mem := bitL 8 k) rfl [(0, LI c), (1, LF l), (6, AI .u64 k), (5, gVg 0 S), (7, LI (bitL 8 k))] [aBg 130 2 (rowK 1 m) S, gBg 3 1 inR1 KM, none] ⟨.inl ⟨rfl, .d⟩, .inl ⟨rfl, .d⟩, .inl ⟨rfl, .d⟩, .inl ⟨rfl, .g (by decide)⟩, .inr ⟨rfl, rfl⟩, trivial⟩ rfl ?_ ?_
        · intro i b hi hb
          match i, hi, hb with
          | 0, _, hb => exact FrB.k (id := 1) (by decide) (by simpa using hb)
          | 1, _, hb => exact FrB.g (by simpa using hb)
          | 2, hi, _ => exact absurd rfl hi
          | i + 3, _, hb => simp at hb
        · rw [hb8]
          have hkp' := hkp hkk
          have hbm : bitL l.length k ≠ m := fun e => hkk (bits_inj hlt hks (e.trans hm.symm))
          have hq := clique_ok l (bitL l.length k) (by omega) (by omega)
          have hcs := causesP_ok c (bitL l.length k) (by omega) (by omega)
          have hsp : setP c l.length k = (bitL l.length k, cauP c (bitL l.length k)) := rfl
          rw [hsp] at hss
          generalize cauP c (bitL l.length k) = cs at hcs hss
          generalize bitL l.length k = bs at hq hcs hss hbm
          cases hcl : clqP l bs
          · rw [hcl] at hq hss
            simp only [Bool.false_eq_true, if_false, List.append_nil] at hss
            repeat' (first | refine AW.seq' ?_ | with_reducible refine AW.blockS rfl ?_ | ((first | refine AW.ops ?_ | refine AW.draw ?_ | refine AW.skip ?_ | refine AW.ret ?_ | refine AW.exit ?_ | refine Fn.call (hq) rfl rfl ?_) <;> simp only [RS, LS, SY, ne_eq, isFl, floatV, constA, thenQ, blockQ, pack, intA, boolA, eqA, unA, nilcA, asI, asB, asS, loadA, idxA, lenA, slcA, AV.flat, AV.one, zA1, storeA, toD, srcOf, copyA, ↓reduceIte, reduceCtorEq, List.replicate, Nat.reduceBEq, Nat.reduceAdd, Nat.reduceMul, Nat.reduceSub, Nat.reduceLeDiff, Nat.reduceLT, Int.reduceToNat, Nat.reduceEqDiff, Int.reduceEq, hinc]) | refine AW.condT rfl ?_ | refine AW.condF rfl ?_ | ((first | (refine GI.of (fun h => ?_) (fun h => ?_) ?emm; case emm => first | exact Classical.em _ | exact (Classical.em _).symm | grind) | (refine GD.of (fun h => ?_) (fun h => ?_) ?emm; case emm => first | exact Classical.em _ | exact (Classical.em _).symm | grind)) <;> simp only [RS, LS, SY, ne_eq, isFl, floatV, constA, thenQ, blockQ, pack, intA, boolA, eqA, unA, nilcA, asI, asB, asS, loadA, idxA, lenA, slcA, AV.flat, AV.one, zA1, storeA, toD, srcOf, copyA, ↓reduceIte, reduceCtorEq, List.replicate, Nat.reduceBEq, Nat.reduceAdd, Nat.reduceMul, Nat.reduceSub, Nat.reduceLeDiff, Nat.reduceLT, Int.reduceToNat, Nat.reduceEqDiff, Int.reduceEq, hinc, h]) | (refine AW.condP rfl (fun h => ?_) (fun h => ?_) <;> try simp only [Bool.and_eq_true, decide_eq_true_eq, Bool.not_eq_true', decide_eq_false_iff_not, Bool.not_eq_false', Bool.not_eq_true, Bool.not_eq_false] at h) | refine And.intro (by omega) ?_ | fail)
            exact ⟨k + 1, [0, 1], hlt, by omega, rfl, by decide, rfl, by simp [NT, belA, belL, tget, renA, renL, nmL, renA_gVg, belA_gVg, hss], by rw [hss, hkp']; exact NS.k (by simp) rfl (NS.g rfl trivial)⟩
          · rw [hcl] at hq hss
            simp only [if_true] at hss
            have hrk : rowK 1 m (bs, cs) = [LI bs, LI cs] := rowK_ne hbm
            cases S with
            | nil =>
              rw [gVg_nil, aBg_nil]
              repeat' (first | refine AW.seq' ?_ | with_reducible refine AW.blockS rfl ?_ | ((first | refine AW.ops ?_ | refine AW.draw ?_ | refine AW.skip ?_ | refine AW.ret ?_ | refine AW.exit ?_ | refine Fn.call (hq) rfl rfl ?_ | refine Fn.call (hcs) rfl rfl ?_) <;> simp only [RS, LS, SY, ne_eq, isFl, floatV, constA, thenQ, blockQ, pack, intA, boolA, eqA, unA, nilcA, asI, asB, asS, loadA, idxA, lenA, slcA, AV.flat, AV.one, zA1, storeA, toD, srcOf, copyA, ↓reduceIte, reduceCtorEq, List.replicate, Nat.reduceBEq, Nat.reduceAdd, Nat.reduceMul, Nat.reduceSub, Nat.reduceLeDiff, Nat.reduceLT, Int.reduceToNat, Nat.reduceEqDiff, Int.reduceEq, hinc]) | refine AW.condT rfl ?_ | refine AW.condF rfl ?_ | ((first | (refine GI.of (fun h => ?_) (fun h => ?_) ?emm; case emm => first | exact Classical.em _ | exact (Classical.em _).symm | grind) | (refine GD.of (fun h => ?_) (fun h => ?_) ?emm; case emm => first | exact Classical.em _ | exact (Classical.em _).symm | grind)) <;> simp only [RS, LS, SY, ne_eq, isFl, floatV, constA, thenQ, blockQ, pack, intA, boolA, eqA, unA, nilcA, asI, asB, asS, loadA, idxA, lenA, slcA, AV.flat, AV.one, zA1, storeA, toD, srcOf, copyA, ↓reduceIte, reduceCtorEq, List.replicate, Nat.reduceBEq, Nat.reduceAdd, Nat.reduceMul, Nat.reduceSub, Nat.reduceLeDiff, Nat.reduceLT, Int.reduceToNat, Nat.reduceEqDiff, Int.reduceEq, hinc, h]) | (refine AW.condP rfl (fun h => ?_) (fun h => ?_) <;> try simp only [Bool.and_eq_true, decide_eq_true_eq, Bool.not_eq_true', decide_eq_false_iff_not, Bool.not_eq_false', Bool.not_eq_true, Bool.not_eq_false] at h) | refine And.intro (by omega) ?_ | fail)
              have e : aBg 130 2 (rowK 1 m) ([] ++ [(bs, cs)]) = some (.cells 130 2 [[LI bs, LI cs]]) := by simp [aBg, hrk]
              exact ⟨k + 1, [3, 1], hlt, by omega, rfl, by decide, rfl, by simp [NT, belA, belL, tget, renA, renL, nmL, hss, gVg_cons], by rw [hss, hkp']; exact NS.k (by simp) (by rw [show rowK (nmL [3, 1] 1) m = rowK 1 m from rfl, e]; rfl) (NS.g rfl trivial)⟩
            | cons x S =>
              rw [gVg_cons, aBg_cons]
              have htk : List.take S.length (List.map (rowK 1 m) S) = List.map (rowK 1 m) S := List.take_of_length_le (by simp)
              have hS2 : S.length + 1 ≤ 256 := by simp only [List.length_cons] at hsl; omega
              repeat' (first | refine AW.seq' ?_ | with_reducible refine AW.blockS rfl ?_ | ((first | refine AW.ops ?_ | refine AW.draw ?_ | refine AW.skip ?_ | refine AW.ret ?_ | refine AW.exit ?_ | refine Fn.call (hq) rfl rfl ?_ | refine Fn.call (hcs) rfl rfl ?_) <;> simp (disch := omega) only [RS, LS, SY, ne_eq, isFl, floatV, constA, thenQ, blockQ, pack, intA, boolA, eqA, unA, nilcA, asI, asB, asS, loadA, idxA, lenA, slcA, AV.flat, AV.one, zA1, storeA, toD, srcOf, copyA, ↓reduceIte, reduceCtorEq, List.replicate, Nat.reduceBEq, Nat.reduceAdd, Nat.reduceMul, Nat.reduceSub, Nat.reduceLeDiff, Nat.reduceLT, Int.reduceToNat, Nat.reduceEqDiff, Int.reduceEq, wrap_id, hinc, htk]) | refine AW.condT rfl ?_ | refine AW.condF rfl ?_ | ((first | (refine GI.of (fun h => ?_) (fun h => ?_) ?emm; case emm => first | exact Classical.em _ | exact (Classical.em _).symm | grind) | (refine GD.of (fun h => ?_) (fun h => ?_) ?emm; case emm => first | exact Classical.em _ | exact (Classical.em _).symm | grind)) <;> simp (disch := omega) only [RS, LS, SY, ne_eq, isFl, floatV, constA, thenQ, blockQ, pack, intA, boolA, eqA, unA, nilcA, asI, asB, asS, loadA, idxA, lenA, slcA, AV.flat, AV.one, zA1, storeA, toD, srcOf, copyA, ↓reduceIte, reduceCtorEq, List.replicate, Nat.reduceBEq, Nat.reduceAdd, Nat.reduceMul, Nat.reduceSub, Nat.reduceLeDiff, Nat.reduceLT, Int.reduceToNat, Nat.reduceEqDiff, Int.reduceEq, wrap_id, hinc, htk, h]) | (refine AW.condP rfl (fun h => ?_) (fun h => ?_) <;> try simp only [Bool.and_eq_true, decide_eq_true_eq, Bool.not_eq_true', decide_eq_false_iff_not, Bool.not_eq_false', Bool.not_eq_true, Bool.not_eq_false] at h) | refine And.intro (by omega) ?_ | fail)
              have e : aBg 130 2 (rowK 1 m) (x :: S ++ [(bs, cs)]) = some (.cells 130 2 (rowK 1 m x :: (S.map (rowK 1 m) ++ [[LI bs, LI cs]]))) := by simp [aBg, hrk]
              exact ⟨k + 1, [3, 1], hlt, by omega, rfl, by decide, rfl, by simp [NT, belA, belL, tget, renA, renL, nmL, hss, gVg_cons], by rw [hss, hkp']; exact NS.k (by simp) (by rw [show rowK (nmL [3, 1] 1) m = rowK 1 m from rfl, e]; rfl) (NS.g rfl trivial)⟩
  · have hke : k = 2 ^ l.length := by omega
    have hlt' : ¬ (k : Int) < ((2 ^ l.length : Nat) : Int) := fun h => hlt (Int.ofNat_lt.1 h)
    rw [hke, hse] at hS
    subst hS
    rw [hke, hke2]
    rw [hke] at hlt'
    repeat' (first | refine AW.seq' ?_ | with_reducible refine AW.blockS rfl ?_ | ((first | refine AW.ops ?_ | refine AW.draw ?_ | refine AW.skip ?_ | refine AW.ret ?_ | refine AW.exit ?_) <;> simp only [RS, LS, SY, ne_eq, isFl, floatV, constA, thenQ, blockQ, pack, intA, boolA, eqA, unA, nilcA, asI, asB, asS, loadA, idxA, lenA, slcA, AV.flat, AV.one, zA1, storeA, toD, srcOf, copyA, ↓reduceIte, reduceCtorEq, List.replicate, Nat.reduceBEq, Nat.reduceAdd, Nat.reduceMul, Nat.reduceSub, Nat.reduceLeDiff, Nat.reduceLT, Int.reduceToNat, Nat.reduceEqDiff, Int.reduceEq, hsh, hlt']) | refine AW.condT rfl ?_ | refine AW.condF rfl ?_ | ((first | (refine GI.of (fun h => ?_) (fun h => ?_) ?emm; case emm => first | exact Classical.em _ | exact (Classical.em _).symm | grind) | (refine GD.of (fun h => ?_) (fun h => ?_) ?emm; case emm => first | exact Classical.em _ | exact (Classical.em _).symm | grind)) <;> simp only [RS, LS, SY, ne_eq, isFl, floatV, constA, thenQ, blockQ, pack, intA, boolA, eqA, unA, nilcA, asI, asB, asS, loadA, idxA, lenA, slcA, AV.flat, AV.one, zA1, storeA, toD, srcOf, copyA, ↓reduceIte, reduceCtorEq, List.replicate, Nat.reduceBEq, Nat.reduceAdd, Nat.reduceMul, Nat.reduceSub, Nat.reduceLeDiff, Nat.reduceLT, Int.reduceToNat, Nat.reduceEqDiff, Int.reduceEq, hsh, hlt', h]) | (refine AW.condP rfl (fun h => ?_) (fun h => ?_) <;> try simp only [Bool.and_eq_true, decide_eq_true_eq, Bool.not_eq_true', decide_eq_false_iff_not, Bool.not_eq_false', Bool.not_eq_true, Bool.not_eq_false] at h) | refine And.intro (by omega) ?_ | fail)
end Go.Proofs.YtipanehdmhachaaGreatDoor.H
