/- Chapter 8: all sets of references that agree. -/
import Derived.Test.YtipanehdmhachaaGreatDoorHvG
import Derived.Test.YtipanehdmhachaaGreatDoorHvT
import Derived.Test.YtipanehdmhachaaGreatDoorHvE
import Derived.Test.YtipanehdmhachaaGreatDoorHvA
set_option linter.unusedSimpArgs false
set_option linter.unusedVariables false
set_option linter.unusedSectionVars false
namespace Go.Proofs.YtipanehdmhachaaGreatDoor.H
variable [DR]
/-- The bits, one by one. -/
theorem bit_all : (List.range 256).all (fun x => x == 0 || (decide (bitL 8 x = (tzF x : Int) :: bitL 8 (x &&& (x - 1))) && decide (x &&& (x - 1) < x) && decide (IntKind.u64.wrap ↑(BitVec.ofInt IntKind.u64.bits (x : Int) &&& BitVec.ofInt IntKind.u64.bits (IntKind.u64.wrap ((x : Int) - 1))).toNat = ((x &&& (x - 1) : Nat) : Int)))) = true := by kernel_rfl
theorem bit_step {x : Nat} (h0 : 0 < x) (h1 : x < 256) : bitL 8 x = (tzF x : Int) :: bitL 8 (x &&& (x - 1)) ∧ x &&& (x - 1) < x ∧ IntKind.u64.wrap ↑(BitVec.ofInt IntKind.u64.bits (x : Int) &&& BitVec.ofInt IntKind.u64.bits (IntKind.u64.wrap ((x : Int) - 1))).toNat = ((x &&& (x - 1) : Nat) : Int) := by
  have h := List.all_eq_true.1 bit_all x (List.mem_range.2 h1)
  have hx : (x == 0) = false := by simp; omega
  rw [hx, Bool.false_or] at h
  simp only [Bool.and_eq_true, decide_eq_true_eq] at h
  exact ⟨h.1.1, h.1.2, h.2⟩
theorem bit_zero : bitL 8 0 = [] := by kernel_rfl
theorem bit_len (n k : Nat) : (bitL n k).length ≤ n := by
  unfold bitL
  rw [List.length_map]
  have := List.length_filter_le (fun i => k.testBit i) (List.range n)
  rwa [List.length_range] at this
def setsT (c : List Int) (l : List Fx) (k : Nat) : List VS := ((List.range k).filter fun k => clqP l (bitL l.length k)).map (setP c l.length)
theorem setsT_succ (c : List Int) (l : List Fx) (k : Nat) : setsT c l (k + 1) = setsT c l k ++ if clqP l (bitL l.length k) then [setP c l.length k] else [] := by
  unfold setsT
  rw [List.range_succ, List.filter_append, List.map_append]
  congr 1
  cases h : clqP l (bitL l.length k) <;> simp [h]
theorem setsT_len (c : List Int) (l : List Fx) (k : Nat) : (setsT c l k).length ≤ k := by
  unfold setsT
  rw [List.length_map]
  have := List.length_filter_le (fun k => clqP l (bitL l.length k)) (List.range k)
  rwa [List.length_range] at this
abbrev setR (x : VS) : List D := [.lst 1 (ints x.1), .lst 1 (ints x.2)]
theorem shl_eq {n : Nat} (h : n ≤ 8) : IntKind.u64.wrap (1 * 2 ^ min n IntKind.u64.bits) = ((2 ^ n : Nat) : Int) := (by decide : ∀ n, n < 9 → IntKind.u64.wrap (1 * 2 ^ min n IntKind.u64.bits) = ((2 ^ n : Nat) : Int)) n (by omega)
theorem inc_all : (List.range 256).all (fun x => decide (IntKind.u64.wrap ((x : Int) + 1) = ((x + 1 : Nat) : Int))) = true := by kernel_rfl
theorem inc_eq {x : Nat} (h : x < 256) : IntKind.u64.wrap ((x : Int) + 1) = ((x + 1 : Nat) : Int) := of_decide_eq_true (List.all_eq_true.1 inc_all x (List.mem_range.2 h))
set_option maxHeartbeats 8000000 in
theorem sets_ok (c : List Int) (l : List Fx) (hc : c.length ≤ 4611686018427387904) (hl : l.length ≤ 8) : ACalls Tryz.prog 64 [LI c, LF l] [] fun v s' => v = gVg 0 (setsP c l) ∧ s' = [gBg 130 2 setR (setsP c l)] := by
  refine ACalls.of fn64 (by simp) ?_
  unfold c64
  repeat' (first | refine AW.seq' ?_ | with_reducible refine AW.blockS rfl ?_ | ((first | refine AW.ops ?_ | refine AW.draw ?_ | refine AW.skip ?_ | refine AW.ret ?_ | refine AW.exit ?_) <;> simp only [RS, LS, SY, ne_eq, isFl, floatV, constA, thenQ, blockQ, pack, intA, boolA, eqA, unA, nilcA, asI, asB, asS, loadA, idxA, lenA, slcA, AV.flat, AV.one, zA1, storeA, toD, srcOf, copyA, ↓reduceIte, reduceCtorEq, List.replicate, Nat.reduceBEq, Nat.reduceAdd, Nat.reduceMul, Nat.reduceSub, Nat.reduceLeDiff, Nat.reduceLT, Int.reduceToNat, Nat.reduceEqDiff, Int.reduceEq]) | refine AW.condT rfl ?_ | refine AW.condF rfl ?_ | ((first | (refine GI.of (fun h => ?_) (fun h => ?_) ?emm; case emm => first | exact Classical.em _ | exact (Classical.em _).symm | grind) | (refine GD.of (fun h => ?_) (fun h => ?_) ?emm; case emm => first | exact Classical.em _ | exact (Classical.em _).symm | grind)) <;> simp only [RS, LS, SY, ne_eq, isFl, floatV, constA, thenQ, blockQ, pack, intA, boolA, eqA, unA, nilcA, asI, asB, asS, loadA, idxA, lenA, slcA, AV.flat, AV.one, zA1, storeA, toD, srcOf, copyA, ↓reduceIte, reduceCtorEq, List.replicate, Nat.reduceBEq, Nat.reduceAdd, Nat.reduceMul, Nat.reduceSub, Nat.reduceLeDiff, Nat.reduceLT, Int.reduceToNat, Nat.reduceEqDiff, Int.reduceEq, h]) | (refine AW.condP rfl (fun h => ?_) (fun h => ?_) <;> try simp only [Bool.and_eq_true, decide_eq_true_eq, Bool.not_eq_true', decide_eq_false_iff_not, Bool.not_eq_false', Bool.not_eq_true, Bool.not_eq_false] at h) | refine And.intro (by omega) ?_ | fail)
  refine AW.block ?_
  have hp8 : 2 ^ l.length ≤ 256 := Nat.pow_le_pow_right (n := 2) (by omega) hl
  refine AW.loopA (α := Nat) (fun k => 2 ^ l.length + 1 - k) (fun k => [(0, LI c), (1, LF l), (6, AI .u64 k), (5, gVg 0 (setsT c l k))]) (fun k => [gBg 130 2 setR (setsT c l k)]) (fun k => k ≤ 2 ^ l.length) 0 (Nat.zero_le _) [0] ⟨rfl, by decide, rfl, by simp [NT, belA, belL, tget, renA, renL, nmL, setsT, gVg], trivial⟩ ?_
  intro k hk
  unfold c64_1
  have hsl := setsT_len c l k
  have hss := setsT_succ c l k
  have hse : setsT c l (2 ^ l.length) = setsP c l := rfl
  generalize hS : setsT c l k = S at hsl hss
  have hsh := shl_eq hl
  by_cases hlt : k < 2 ^ l.length
  · have hlt' : (k : Int) < ((2 ^ l.length : Nat) : Int) := Int.ofNat_lt.2 hlt
    have hk6 : k < 256 := Nat.lt_of_lt_of_le hlt hp8
    have hb8 : bitL 8 k = bitL l.length k := bitL_eq hlt hl
    repeat' (first | refine AW.seq' ?_ | with_reducible refine AW.blockS rfl ?_ | ((first | refine AW.ops ?_ | refine AW.draw ?_ | refine AW.skip ?_ | refine AW.ret ?_ | refine AW.exit ?_) <;> simp only [RS, LS, SY, ne_eq, isFl, floatV, constA, thenQ, blockQ, pack, intA, boolA, eqA, unA, nilcA, asI, asB, asS, loadA, idxA, lenA, slcA, AV.flat, AV.one, zA1, storeA, toD, srcOf, copyA, ↓reduceIte, reduceCtorEq, List.replicate, Nat.reduceBEq, Nat.reduceAdd, Nat.reduceMul, Nat.reduceSub, Nat.reduceLeDiff, Nat.reduceLT, Int.reduceToNat, Nat.reduceEqDiff, Int.reduceEq, hsh, hlt']) | refine AW.condT rfl ?_ | refine AW.condF rfl ?_ | ((first | (refine GI.of (fun h => ?_) (fun h => ?_) ?emm; case emm => first | exact Classical.em _ | exact (Classical.em _).symm | grind) | (refine GD.of (fun h => ?_) (fun h => ?_) ?emm; case emm => first | exact Classical.em _ | exact (Classical.em _).symm | grind)) <;> simp only [RS, LS, SY, ne_eq, isFl, floatV, constA, thenQ, blockQ, pack, intA, boolA, eqA, unA, nilcA, asI, asB, asS, loadA, idxA, lenA, slcA, AV.flat, AV.one, zA1, storeA, toD, srcOf, copyA, ↓reduceIte, reduceCtorEq, List.replicate, Nat.reduceBEq, Nat.reduceAdd, Nat.reduceMul, Nat.reduceSub, Nat.reduceLeDiff, Nat.reduceLT, Int.reduceToNat, Nat.reduceEqDiff, Int.reduceEq, hsh, hlt', h]) | (refine AW.condP rfl (fun h => ?_) (fun h => ?_) <;> try simp only [Bool.and_eq_true, decide_eq_true_eq, Bool.not_eq_true', decide_eq_false_iff_not, Bool.not_eq_false', Bool.not_eq_true, Bool.not_eq_false] at h) | refine And.intro (by omega) ?_ | fail)
    refine AW.cut2 (M := fun T s => ∃ rl, Nrm rl 0 T s [(0, LI c), (1, LF l), (6, AI .u64 k), (5, gVg 0 S), (7, gVg 1 (bitL 8 k))] [gBg 130 2 setR S, gBg 3 1 inR1 (bitL 8 k)]) ?_ (fun T s ⟨rl, hN⟩ => AW.nrm rl hN ?_)
    · refine AW.block ?_
      refine AW.loopA (α := Nat × List Int) (fun a => a.1) (fun a => [(0, LI c), (1, LF l), (6, AI .u64 k), (5, gVg 0 S), (8, AI .u64 a.1), (7, gVg 1 a.2)]) (fun a => [gBg 130 2 setR S, gBg 3 1 inR1 a.2]) (fun a => a.1 < 256 ∧ a.2 ++ bitL 8 a.1 = bitL 8 k) (k, []) ⟨hk6, rfl⟩ [0, 1] ⟨rfl, by decide, rfl, by simp [NT, belA, belL, tget, renA, renL, nmL, gVg_nil, renA_gVg, belA_gVg], NS.g rfl trivial⟩ ?_
      rintro ⟨r, mem⟩ ⟨h1, h2⟩
      simp only at h1 h2 ⊢
      unfold c64_0
      by_cases h0 : r = 0
      · subst h0
        rw [bit_zero, List.append_nil] at h2
        subst h2
        have hz : ((0 : Nat) : Int) = 0 := rfl
        repeat' (first | refine AW.seq' ?_ | with_reducible refine AW.blockS rfl ?_ | ((first | refine AW.ops ?_ | refine AW.draw ?_ | refine AW.skip ?_ | refine AW.ret ?_ | refine AW.exit ?_) <;> simp only [RS, LS, SY, ne_eq, isFl, floatV, constA, thenQ, blockQ, pack, intA, boolA, eqA, unA, nilcA, asI, asB, asS, loadA, idxA, lenA, slcA, AV.flat, AV.one, zA1, storeA, toD, srcOf, copyA, ↓reduceIte, reduceCtorEq, List.replicate, Nat.reduceBEq, Nat.reduceAdd, Nat.reduceMul, Nat.reduceSub, Nat.reduceLeDiff, Nat.reduceLT, Int.reduceToNat, Nat.reduceEqDiff, Int.reduceEq, hz]) | refine AW.condT rfl ?_ | refine AW.condF rfl ?_ | ((first | (refine GI.of (fun h => ?_) (fun h => ?_) ?emm; case emm => first | exact Classical.em _ | exact (Classical.em _).symm | grind) | (refine GD.of (fun h => ?_) (fun h => ?_) ?emm; case emm => first | exact Classical.em _ | exact (Classical.em _).symm | grind)) <;> simp only [RS, LS, SY, ne_eq, isFl, floatV, constA, thenQ, blockQ, pack, intA, boolA, eqA, unA, nilcA, asI, asB, asS, loadA, idxA, lenA, slcA, AV.flat, AV.one, zA1, storeA, toD, srcOf, copyA, ↓reduceIte, reduceCtorEq, List.replicate, Nat.reduceBEq, Nat.reduceAdd, Nat.reduceMul, Nat.reduceSub, Nat.reduceLeDiff, Nat.reduceLT, Int.reduceToNat, Nat.reduceEqDiff, Int.reduceEq, hz, h]) | (refine AW.condP rfl (fun h => ?_) (fun h => ?_) <;> try simp only [Bool.and_eq_true, decide_eq_true_eq, Bool.not_eq_true', decide_eq_false_iff_not, Bool.not_eq_false', Bool.not_eq_true, Bool.not_eq_false] at h) | refine And.intro (by omega) ?_ | fail)
        exact ⟨[0, 1], rfl, by decide, rfl, by simp [NT, belA, belL, tget, renA, renL, nmL, renA_gVg, belA_gVg], NS.g rfl (NS.g rfl trivial)⟩
      · have hr0 : ¬ (r : Int) = 0 := by omega
        obtain ⟨b1, b2, b3⟩ := bit_step (by omega) h1
        have ht := tz_ok r (by omega) h1
        rw [b1] at h2
        generalize tzF r = z at ht h2 b1
        generalize hq : r &&& (r - 1) = q at b1 b2 b3 h2
        have hml : mem.length ≤ 8 := by
          have := congrArg List.length h2
          rw [List.length_append] at this
          have := bit_len 8 k
          omega
        cases mem with
        | nil =>
          rw [gVg_nil, gBg_nil]
          repeat' (first | refine AW.seq' ?_ | with_reducible refine AW.blockS rfl ?_ | ((first | refine AW.ops ?_ | refine AW.draw ?_ | refine AW.skip ?_ | refine AW.ret ?_ | refine AW.exit ?_ | refine Fn.call (ht) rfl rfl ?_) <;> simp only [RS, LS, SY, ne_eq, isFl, floatV, constA, thenQ, blockQ, pack, intA, boolA, eqA, unA, nilcA, asI, asB, asS, loadA, idxA, lenA, slcA, AV.flat, AV.one, zA1, storeA, toD, srcOf, copyA, ↓reduceIte, reduceCtorEq, List.replicate, Nat.reduceBEq, Nat.reduceAdd, Nat.reduceMul, Nat.reduceSub, Nat.reduceLeDiff, Nat.reduceLT, Int.reduceToNat, Nat.reduceEqDiff, Int.reduceEq, hr0, b3]) | refine AW.condT rfl ?_ | refine AW.condF rfl ?_ | ((first | (refine GI.of (fun h => ?_) (fun h => ?_) ?emm; case emm => first | exact Classical.em _ | exact (Classical.em _).symm | grind) | (refine GD.of (fun h => ?_) (fun h => ?_) ?emm; case emm => first | exact Classical.em _ | exact (Classical.em _).symm | grind)) <;> simp only [RS, LS, SY, ne_eq, isFl, floatV, constA, thenQ, blockQ, pack, intA, boolA, eqA, unA, nilcA, asI, asB, asS, loadA, idxA, lenA, slcA, AV.flat, AV.one, zA1, storeA, toD, srcOf, copyA, ↓reduceIte, reduceCtorEq, List.replicate, Nat.reduceBEq, Nat.reduceAdd, Nat.reduceMul, Nat.reduceSub, Nat.reduceLeDiff, Nat.reduceLT, Int.reduceToNat, Nat.reduceEqDiff, Int.reduceEq, hr0, b3, h]) | (refine AW.condP rfl (fun h => ?_) (fun h => ?_) <;> try simp only [Bool.and_eq_true, decide_eq_true_eq, Bool.not_eq_true', decide_eq_false_iff_not, Bool.not_eq_false', Bool.not_eq_true, Bool.not_eq_false] at h) | refine And.intro (by omega) ?_ | fail)
          exact ⟨(q, [(z : Int)]), [0, 2], ⟨by simp only; omega, h2⟩, b2, rfl, by decide, rfl, by simp [NT, belA, belL, tget, renA, renL, nmL, renA_gVg, belA_gVg, gVg_cons], NS.g rfl ⟨⟨rfl, rfl⟩, trivial⟩⟩
        | cons x mem =>
          rw [gVg_cons, gBg_cons]
          have htk : List.take mem.length (List.map inR1 mem) = List.map inR1 mem := List.take_of_length_le (by simp)
          have hm2 : mem.length + 1 ≤ 8 := hml
          repeat' (first | refine AW.seq' ?_ | with_reducible refine AW.blockS rfl ?_ | ((first | refine AW.ops ?_ | refine AW.draw ?_ | refine AW.skip ?_ | refine AW.ret ?_ | refine AW.exit ?_ | refine Fn.call (ht) rfl rfl ?_) <;> simp (disch := omega) only [RS, LS, SY, ne_eq, isFl, floatV, constA, thenQ, blockQ, pack, intA, boolA, eqA, unA, nilcA, asI, asB, asS, loadA, idxA, lenA, slcA, AV.flat, AV.one, zA1, storeA, toD, srcOf, copyA, ↓reduceIte, reduceCtorEq, List.replicate, Nat.reduceBEq, Nat.reduceAdd, Nat.reduceMul, Nat.reduceSub, Nat.reduceLeDiff, Nat.reduceLT, Int.reduceToNat, Nat.reduceEqDiff, Int.reduceEq, wrap_id, hr0, b3, htk]) | refine AW.condT rfl ?_ | refine AW.condF rfl ?_ | ((first | (refine GI.of (fun h => ?_) (fun h => ?_) ?emm; case emm => first | exact Classical.em _ | exact (Classical.em _).symm | grind) | (refine GD.of (fun h => ?_) (fun h => ?_) ?emm; case emm => first | exact Classical.em _ | exact (Classical.em _).symm | grind)) <;> simp (disch := omega) only [RS, LS, SY, ne_eq, isFl, floatV, constA, thenQ, blockQ, pack, intA, boolA, eqA, unA, nilcA, asI, asB, asS, loadA, idxA, lenA, slcA, AV.flat, AV.one, zA1, storeA, toD, srcOf, copyA, ↓reduceIte, reduceCtorEq, List.replicate, Nat.reduceBEq, Nat.reduceAdd, Nat.reduceMul, Nat.reduceSub, Nat.reduceLeDiff, Nat.reduceLT, Int.reduceToNat, Nat.reduceEqDiff, Int.reduceEq, wrap_id, hr0, b3, htk, h]) | (refine AW.condP rfl (fun h => ?_) (fun h => ?_) <;> try simp only [Bool.and_eq_true, decide_eq_true_eq, Bool.not_eq_true', decide_eq_false_iff_not, Bool.not_eq_false', Bool.not_eq_true, Bool.not_eq_false] at h) | refine And.intro (by omega) ?_ | fail)
          have e : rowsA (ints (x :: (mem ++ [(z : Int)]))) = [AV.d (dI x)] :: (rowsA (List.map inR1 mem) ++ [[AV.d (dI (z : Int))]]) := by simp [rowsA, ints]
          exact ⟨(q, x :: (mem ++ [(z : Int)])), [0, 2], ⟨by simp only; omega, by simpa using h2⟩, b2, rfl, by decide, rfl, by simp [NT, belA, belL, tget, renA, renL, nmL, renA_gVg, belA_gVg, gVg_cons], NS.g rfl ⟨⟨belB_rowsA _ _ _ (ints (x :: (mem ++ [(z : Int)]))), by rw [renB_rowsA, e]; rfl⟩, trivial⟩⟩
    · refine AW.frzI (id := 1) (mem := bitL 8 k) rfl [(0, LI c), (1, LF l), (6, AI .u64 k), (5, gVg 0 S), (7, LI (bitL 8 k))] [gBg 130 2 setR S, none] ⟨.inl ⟨rfl, .d⟩, .inl ⟨rfl, .d⟩, .inl ⟨rfl, .d⟩, .inl ⟨rfl, .g (by decide)⟩, .inr ⟨rfl, rfl⟩, trivial⟩ rfl ?_ ?_
      · intro i b hi hb
        match i, hi, hb with
        | 0, _, hb => exact FrB.g (by simpa using hb)
        | 1, hi, _ => exact absurd rfl hi
        | i + 2, _, hb => simp at hb
      · rw [hb8]
        have hbl := bit_len l.length k
        have hq := clique_ok l (bitL l.length k) (by omega) (by omega)
        have hcs := causesP_ok c (bitL l.length k) hc (by omega)
        have hsp : setP c l.length k = (bitL l.length k, cauP c (bitL l.length k)) := rfl
        rw [hsp] at hss
        have hinc := inc_eq hk6
        generalize cauP c (bitL l.length k) = cs at hcs hss
        generalize bitL l.length k = bs at hq hcs hss
        cases hcl : clqP l bs
        · rw [hcl] at hq hss
          simp only [Bool.false_eq_true, if_false, List.append_nil] at hss
          repeat' (first | refine AW.seq' ?_ | with_reducible refine AW.blockS rfl ?_ | ((first | refine AW.ops ?_ | refine AW.draw ?_ | refine AW.skip ?_ | refine AW.ret ?_ | refine AW.exit ?_ | refine Fn.call (hq) rfl rfl ?_) <;> simp only [RS, LS, SY, ne_eq, isFl, floatV, constA, thenQ, blockQ, pack, intA, boolA, eqA, unA, nilcA, asI, asB, asS, loadA, idxA, lenA, slcA, AV.flat, AV.one, zA1, storeA, toD, srcOf, copyA, ↓reduceIte, reduceCtorEq, List.replicate, Nat.reduceBEq, Nat.reduceAdd, Nat.reduceMul, Nat.reduceSub, Nat.reduceLeDiff, Nat.reduceLT, Int.reduceToNat, Nat.reduceEqDiff, Int.reduceEq, hinc]) | refine AW.condT rfl ?_ | refine AW.condF rfl ?_ | ((first | (refine GI.of (fun h => ?_) (fun h => ?_) ?emm; case emm => first | exact Classical.em _ | exact (Classical.em _).symm | grind) | (refine GD.of (fun h => ?_) (fun h => ?_) ?emm; case emm => first | exact Classical.em _ | exact (Classical.em _).symm | grind)) <;> simp only [RS, LS, SY, ne_eq, isFl, floatV, constA, thenQ, blockQ, pack, intA, boolA, eqA, unA, nilcA, asI, asB, asS, loadA, idxA, lenA, slcA, AV.flat, AV.one, zA1, storeA, toD, srcOf, copyA, ↓reduceIte, reduceCtorEq, List.replicate, Nat.reduceBEq, Nat.reduceAdd, Nat.reduceMul, Nat.reduceSub, Nat.reduceLeDiff, Nat.reduceLT, Int.reduceToNat, Nat.reduceEqDiff, Int.reduceEq, hinc, h]) | (refine AW.condP rfl (fun h => ?_) (fun h => ?_) <;> try simp only [Bool.and_eq_true, decide_eq_true_eq, Bool.not_eq_true', decide_eq_false_iff_not, Bool.not_eq_false', Bool.not_eq_true, Bool.not_eq_false] at h) | refine And.intro (by omega) ?_ | fail)
          exact ⟨k + 1, [0], hlt, by omega, rfl, by decide, rfl, by simp [NT, belA, belL, tget, renA, renL, nmL, renA_gVg, belA_gVg, hss], by rw [hss]; exact NS.g rfl trivial⟩
        · rw [hcl] at hq hss
          simp only [if_true] at hss
          cases S with
          | nil =>
            rw [gVg_nil, gBg_nil]
            repeat' (first | refine AW.seq' ?_ | with_reducible refine AW.blockS rfl ?_ | ((first | refine AW.ops ?_ | refine AW.draw ?_ | refine AW.skip ?_ | refine AW.ret ?_ | refine AW.exit ?_ | refine Fn.call (hq) rfl rfl ?_ | refine Fn.call (hcs) rfl rfl ?_) <;> simp only [RS, LS, SY, ne_eq, isFl, floatV, constA, thenQ, blockQ, pack, intA, boolA, eqA, unA, nilcA, asI, asB, asS, loadA, idxA, lenA, slcA, AV.flat, AV.one, zA1, storeA, toD, srcOf, copyA, ↓reduceIte, reduceCtorEq, List.replicate, Nat.reduceBEq, Nat.reduceAdd, Nat.reduceMul, Nat.reduceSub, Nat.reduceLeDiff, Nat.reduceLT, Int.reduceToNat, Nat.reduceEqDiff, Int.reduceEq, hinc]) | refine AW.condT rfl ?_ | refine AW.condF rfl ?_ | ((first | (refine GI.of (fun h => ?_) (fun h => ?_) ?emm; case emm => first | exact Classical.em _ | exact (Classical.em _).symm | grind) | (refine GD.of (fun h => ?_) (fun h => ?_) ?emm; case emm => first | exact Classical.em _ | exact (Classical.em _).symm | grind)) <;> simp only [RS, LS, SY, ne_eq, isFl, floatV, constA, thenQ, blockQ, pack, intA, boolA, eqA, unA, nilcA, asI, asB, asS, loadA, idxA, lenA, slcA, AV.flat, AV.one, zA1, storeA, toD, srcOf, copyA, ↓reduceIte, reduceCtorEq, List.replicate, Nat.reduceBEq, Nat.reduceAdd, Nat.reduceMul, Nat.reduceSub, Nat.reduceLeDiff, Nat.reduceLT, Int.reduceToNat, Nat.reduceEqDiff, Int.reduceEq, hinc, h]) | (refine AW.condP rfl (fun h => ?_) (fun h => ?_) <;> try simp only [Bool.and_eq_true, decide_eq_true_eq, Bool.not_eq_true', decide_eq_false_iff_not, Bool.not_eq_false', Bool.not_eq_true, Bool.not_eq_false] at h) | refine And.intro (by omega) ?_ | fail)
            exact ⟨k + 1, [2], hlt, by omega, rfl, by decide, rfl, by simp [NT, belA, belL, tget, renA, renL, nmL, hss, gVg_cons], by rw [hss]; exact ⟨⟨rfl, rfl⟩, trivial⟩⟩
          | cons x S =>
            rw [gVg_cons, gBg_cons]
            have htk : List.take S.length (List.map setR S) = List.map setR S := List.take_of_length_le (by simp)
            have hS2 : S.length + 1 ≤ 256 := by simp only [List.length_cons] at hsl; omega
            repeat' (first | refine AW.seq' ?_ | with_reducible refine AW.blockS rfl ?_ | ((first | refine AW.ops ?_ | refine AW.draw ?_ | refine AW.skip ?_ | refine AW.ret ?_ | refine AW.exit ?_ | refine Fn.call (hq) rfl rfl ?_ | refine Fn.call (hcs) rfl rfl ?_) <;> simp (disch := omega) only [RS, LS, SY, ne_eq, isFl, floatV, constA, thenQ, blockQ, pack, intA, boolA, eqA, unA, nilcA, asI, asB, asS, loadA, idxA, lenA, slcA, AV.flat, AV.one, zA1, storeA, toD, srcOf, copyA, ↓reduceIte, reduceCtorEq, List.replicate, Nat.reduceBEq, Nat.reduceAdd, Nat.reduceMul, Nat.reduceSub, Nat.reduceLeDiff, Nat.reduceLT, Int.reduceToNat, Nat.reduceEqDiff, Int.reduceEq, wrap_id, hinc, htk]) | refine AW.condT rfl ?_ | refine AW.condF rfl ?_ | ((first | (refine GI.of (fun h => ?_) (fun h => ?_) ?emm; case emm => first | exact Classical.em _ | exact (Classical.em _).symm | grind) | (refine GD.of (fun h => ?_) (fun h => ?_) ?emm; case emm => first | exact Classical.em _ | exact (Classical.em _).symm | grind)) <;> simp (disch := omega) only [RS, LS, SY, ne_eq, isFl, floatV, constA, thenQ, blockQ, pack, intA, boolA, eqA, unA, nilcA, asI, asB, asS, loadA, idxA, lenA, slcA, AV.flat, AV.one, zA1, storeA, toD, srcOf, copyA, ↓reduceIte, reduceCtorEq, List.replicate, Nat.reduceBEq, Nat.reduceAdd, Nat.reduceMul, Nat.reduceSub, Nat.reduceLeDiff, Nat.reduceLT, Int.reduceToNat, Nat.reduceEqDiff, Int.reduceEq, wrap_id, hinc, htk, h]) | (refine AW.condP rfl (fun h => ?_) (fun h => ?_) <;> try simp only [Bool.and_eq_true, decide_eq_true_eq, Bool.not_eq_true', decide_eq_false_iff_not, Bool.not_eq_false', Bool.not_eq_true, Bool.not_eq_false] at h) | refine And.intro (by omega) ?_ | fail)
            have e : rowsA ((x :: (S ++ [(bs, cs)])).map setR) = [AV.d (.lst 1 (ints x.1)), AV.d (.lst 1 (ints x.2))] :: (rowsA (List.map setR S) ++ [[AV.d (.lst 1 (ints bs)), AV.d (.lst 1 (ints cs))]]) := by simp [rowsA]
            have hss' : setsT c l (k + 1) = x :: (S ++ [(bs, cs)]) := hss
            exact ⟨k + 1, [2], hlt, by omega, rfl, by decide, rfl, by simp [NT, belA, belL, tget, renA, renL, nmL, hss', gVg_cons], by rw [hss']; exact ⟨⟨belB_rowsA _ _ _ ((x :: (S ++ [(bs, cs)])).map setR), by rw [renB_rowsA, e]; rfl⟩, trivial⟩⟩
  · have hke : k = 2 ^ l.length := by omega
    have hlt' : ¬ (k : Int) < ((2 ^ l.length : Nat) : Int) := fun h => hlt (Int.ofNat_lt.1 h)
    rw [hke, hse] at hS
    subst hS
    repeat' (first | refine AW.seq' ?_ | with_reducible refine AW.blockS rfl ?_ | ((first | refine AW.ops ?_ | refine AW.draw ?_ | refine AW.skip ?_ | refine AW.ret ?_ | refine AW.exit ?_) <;> simp only [RS, LS, SY, ne_eq, isFl, floatV, constA, thenQ, blockQ, pack, intA, boolA, eqA, unA, nilcA, asI, asB, asS, loadA, idxA, lenA, slcA, AV.flat, AV.one, zA1, storeA, toD, srcOf, copyA, ↓reduceIte, reduceCtorEq, List.replicate, Nat.reduceBEq, Nat.reduceAdd, Nat.reduceMul, Nat.reduceSub, Nat.reduceLeDiff, Nat.reduceLT, Int.reduceToNat, Nat.reduceEqDiff, Int.reduceEq, hsh, hlt']) | refine AW.condT rfl ?_ | refine AW.condF rfl ?_ | ((first | (refine GI.of (fun h => ?_) (fun h => ?_) ?emm; case emm => first | exact Classical.em _ | exact (Classical.em _).symm | grind) | (refine GD.of (fun h => ?_) (fun h => ?_) ?emm; case emm => first | exact Classical.em _ | exact (Classical.em _).symm | grind)) <;> simp only [RS, LS, SY, ne_eq, isFl, floatV, constA, thenQ, blockQ, pack, intA, boolA, eqA, unA, nilcA, asI, asB, asS, loadA, idxA, lenA, slcA, AV.flat, AV.one, zA1, storeA, toD, srcOf, copyA, ↓reduceIte, reduceCtorEq, List.replicate, Nat.reduceBEq, Nat.reduceAdd, Nat.reduceMul, Nat.reduceSub, Nat.reduceLeDiff, Nat.reduceLT, Int.reduceToNat, Nat.reduceEqDiff, Int.reduceEq, hsh, hlt', h]) | (refine AW.condP rfl (fun h => ?_) (fun h => ?_) <;> try simp only [Bool.and_eq_true, decide_eq_true_eq, Bool.not_eq_true', decide_eq_false_iff_not, Bool.not_eq_false', Bool.not_eq_true, Bool.not_eq_false] at h) | refine And.intro (by omega) ?_ | fail)
end Go.Proofs.YtipanehdmhachaaGreatDoor.H
