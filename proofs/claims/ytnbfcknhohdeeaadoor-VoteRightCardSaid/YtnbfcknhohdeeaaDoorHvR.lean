/- Chapter 8: the law VoteRight. -/
import Derived.Test.YtnbfcknhohdeeaaDoorHvO
import Derived.Test.YtnbfcknhohdeeaaDoorHvK
set_option linter.unusedSimpArgs false
set_option linter.unusedVariables false
namespace Go.Proofs.YtnbfcknhohdeeaaDoor.H
theorem FrL.g {α : Type} {id i T k : Nat} {f : α → List D} {S : List α} {l : St} (t : FrL id (i + 1) l) : FrL id i (gBg T k f S :: l) := by
  cases S with
  | nil => exact t
  | cons x S => exact ⟨.inr FrB.rows, t⟩
def rgI (n : Nat) : List Int := (List.range n).map Int.ofNat
theorem rgI_succ (n : Nat) : rgI (n + 1) = rgI n ++ [(n : Int)] := by unfold rgI; rw [List.range_succ, List.map_append]; rfl
theorem rgI_len (n : Nat) : (rgI n).length = n := by simp [rgI]
theorem rgI_get {n i : Nat} (h : i < n) : (rgI n)[i]? = some (i : Int) := by simp [rgI, h]
theorem rgI_mem {n : Nat} {v : Int} : v ∈ rgI n ↔ 0 ≤ v ∧ v < n := by
  unfold rgI
  simp only [List.mem_map, List.mem_range]
  constructor
  · rintro ⟨i, h, rfl⟩; constructor <;> simp <;> omega
  · rintro ⟨h1, h2⟩; exact ⟨v.toNat, by omega, by simp; omega⟩
def VR (f : Fx) : Prop := (f.e = 5 ∨ f.e = 20 ∨ f.e = 100) ∧ -f.e ≤ f.x ∧ f.x ≤ f.e ∧ -f.e ≤ f.y ∧ f.y ≤ f.e
def VW (f : Fx) : Prop := 100000 ≤ f.x ∧ f.x ≤ 100009 ∧ f.y = 0 ∧ (f.e = 5 ∨ f.e = 20)
theorem VR.agree {f g : Fx} (h : VR f) (k : VR g) : agP f g = true := by
  unfold VR at h k
  rw [agP_iff]
  simp only [okP, decide_eq_true_eq]
  omega
theorem VW.self {f : Fx} (h : VW f) : agP f f = true := by
  unfold VW at h
  rw [agP_iff]
  simp only [okP, decide_eq_true_eq]
  omega
theorem VR.not {f g : Fx} (h : VR f) (k : VW g) : agP f g = false := by
  unfold VR at h; unfold VW at k
  cases hq : agP f g
  · rfl
  · rw [agP_iff] at hq; omega
theorem cau_all {K : List Int} {v : Int} (h : v ∈ K) : v ∈ cauP K (rgI K.length) := by
  rw [cauP_mem]
  unfold pickP
  rw [List.mem_filterMap]
  obtain ⟨i, hi, rfl⟩ := List.getElem_of_mem h
  exact ⟨(i : Int), rgI_mem.2 ⟨by omega, by omega⟩, by rw [if_pos (by omega)]; simp [hi]⟩
/-- What the lists that are drawn come to. -/
theorem right_vote {n : Nat} {A W : List Fx} {K : List Int} (hA : A.length = n) (hK : K.length = W.length) (hr : ∀ f ∈ A, VR f) (hw : ∀ f ∈ W, VW f) (hlt : (cauP K (rgI K.length)).length < n) : (voteP (rgI n ++ K) (A ++ W)).m = rgI n := by
  refine vote_right (W := cauP K (rgI K.length)) (by simp [rgI_len, hA, hK]) (by simp; omega) (fun i hi => ?_) (fun i j hi hj h1 h2 => ?_) (fun i j hi hj h1 h2 => ?_) (cauP_str _ _) hlt (fun j hj v hv => ?_)
  · rw [List.getElem?_append_left (by rw [rgI_len]; exact hi), rgI_get hi]
  · rw [List.getElem_append_left (by omega), List.getElem_append_left (by omega)]
    exact (hr _ (List.getElem_mem _)).agree (hr _ (List.getElem_mem _))
  · rw [List.getElem_append_left (by omega), List.getElem_append_right (by omega)]
    exact (hr _ (List.getElem_mem _)).not (hw _ (List.getElem_mem _))
  · rw [List.getElem?_append_right (by rw [rgI_len]; exact hj)] at hv
    exact cau_all (List.mem_of_getElem? hv)
theorem law4_tail {n : Nat} (h1 : 1 ≤ n) (h4 : n ≤ 4) {A W : List Fx} {K : List Int} (hA : A.length = n) (hK : K.length = W.length) (hWn : W.length < n) (hr : ∀ f ∈ A, VR f) (hw : ∀ f ∈ W, VW f) (hk : ∀ c ∈ K, n ≤ c ∧ c ≤ n + 2) :
    Fn Tryd.prog 20 [LI (rgI n ++ K), LF (A ++ W)] (.tup [AVt (voteP (rgI n ++ K) (A ++ W)), AI .i64 0]) := by
  refine dec_fn (by simp [rgI_len, hA, hK]) (by simp; omega) (fun x hx => ?_) (fun f hf => ?_)
  · rcases List.mem_append.1 hx with hx | hx
    · have := rgI_mem.1 hx; omega
    · have := hk x hx; omega
  · rcases List.mem_append.1 hf with hf | hf
    · exact (hr f hf).agree (hr f hf)
    · exact (hw f hf).self
set_option maxRecDepth 8000 in
set_option maxHeartbeats 8000000 in
theorem law4_ok (t : List Int) : ACalls Tryd.prog 4 [LI t] [] fun v _ => v = AB true := by
  refine ACalls.of fn4 (by simp) ?_
  unfold c4
  have hL : (t.take 600).length ≤ 600 := by rw [List.length_take]; omega
  generalize hS : t.take 600 = L at hL
  repeat' (first | refine AW.seq' ?_ | with_reducible refine AW.blockS rfl ?_ | ((first | refine AW.ops ?_ | refine AW.draw ?_ | refine AW.skip ?_ | refine AW.ret ?_ | refine AW.exit ?_ |  (refine new_call t ?_; simp only [hS]) |  (refine SFn.call (range_ok hL 1 4 (by omega) (by omega) (by omega)) rfl rfl (by omega) (fun v p hp hv hb => ?_); obtain ⟨n, n1, n4, rfl⟩ := hv)) <;> simp (disch := omega) only [RS, LS, SY, ne_eq, isFl, floatV, constA, thenQ, blockQ, pack, intA, boolA, eqA, unA, nilcA, asI, asB, asS, loadA, idxA, lenA, slcA, AV.flat, AV.one, zA1, storeA, toD, srcOf, copyA, ↓reduceIte, reduceCtorEq, List.replicate, Nat.reduceBEq, Nat.reduceAdd, Nat.reduceMul, Nat.reduceSub, Nat.reduceLeDiff, Nat.reduceLT, Int.reduceToNat, Nat.reduceEqDiff, Int.reduceEq, wrap_id, hS]) | refine AW.condT rfl ?_ | refine AW.condF rfl ?_ | ((first | (refine GI.of (fun h => ?_) (fun h => ?_) ?emm; case emm => first | exact Classical.em _ | exact (Classical.em _).symm | grind) | (refine GD.of (fun h => ?_) (fun h => ?_) ?emm; case emm => first | exact Classical.em _ | exact (Classical.em _).symm | grind)) <;> simp (disch := omega) only [RS, LS, SY, ne_eq, isFl, floatV, constA, thenQ, blockQ, pack, intA, boolA, eqA, unA, nilcA, asI, asB, asS, loadA, idxA, lenA, slcA, AV.flat, AV.one, zA1, storeA, toD, srcOf, copyA, ↓reduceIte, reduceCtorEq, List.replicate, Nat.reduceBEq, Nat.reduceAdd, Nat.reduceMul, Nat.reduceSub, Nat.reduceLeDiff, Nat.reduceLT, Int.reduceToNat, Nat.reduceEqDiff, Int.reduceEq, wrap_id, hS, h]) | (refine AW.condP rfl (fun h => ?_) (fun h => ?_) <;> try simp only [Bool.and_eq_true, decide_eq_true_eq, Bool.not_eq_true', decide_eq_false_iff_not, Bool.not_eq_false', Bool.not_eq_true, Bool.not_eq_false] at h) | refine And.intro (by omega) ?_ | fail)
  obtain ⟨n, rfl⟩ := Int.eq_ofNat_of_zero_le (show 0 ≤ n by omega)
  refine AW.cut2 (M := fun T s => ∃ rl p A, p ≤ L.length ∧ A.length = n ∧ (∀ f ∈ A, VR f) ∧ Nrm rl 0 T s [(3, .ptr 0 0 0), (4, AI .i64 n), (5, gVg 1 A), (6, gVg 2 (rgI n))] [SrcS SRC L p, gBg 26 4 fxR A, gBg 3 1 inR1 (rgI n)]) ?_ (fun T s ⟨rl, p, A, hp, hA, hr, hN⟩ => AW.nrm rl hN ?_)
  · refine AW.block ?_
    refine AW.loopA (α := Nat × List Fx × List Int) (fun a => n - a.2.1.length) (fun a => [(3, .ptr 0 0 0), (4, AI .i64 n), (7, AI .i64 a.2.1.length), (5, gVg 1 a.2.1), (6, gVg 2 a.2.2)]) (fun a => [SrcS SRC L a.1, gBg 26 4 fxR a.2.1, gBg 3 1 inR1 a.2.2]) (fun a => a.1 ≤ L.length ∧ a.2.1.length ≤ n ∧ (∀ f ∈ a.2.1, VR f) ∧ a.2.2 = rgI a.2.1.length) (_, [], []) ⟨by assumption, by simp, by simp, rfl⟩ [0, 1, 2] ⟨rfl, by decide, rfl, by simp [NT, belA, belL, tget, renA, renL, nmL, gVg], ⟨⟨rfl, rfl⟩, trivial⟩⟩ ?_
    rintro ⟨p, A, B⟩ ⟨hp, hAn, hr, hB⟩
    simp only at hp hAn hr hB ⊢
    unfold c4_0
    by_cases hlt : A.length < n
    · have hc : (A.length : Int) < n := by omega
      have hB2 := rgI_succ A.length
      rw [← hB] at hB2
      have hBl : B.length = A.length := by rw [hB, rgI_len]
      have hinc : IntKind.i64.wrap ((A.length : Int) + 1) = ((A.length + 1 : Nat) : Int) := by rw [wrap_id (by omega) (by omega)]; omega
      cases A with
      | nil =>
        obtain rfl : B = [] := List.length_eq_zero_iff.1 hBl
        rw [gVg_nil, gBg_nil, gVg_nil, gBg_nil]
        have hc0 : ((0 : Nat) : Int) < n := hc
        repeat' (first | refine AW.seq' ?_ | with_reducible refine AW.blockS rfl ?_ | ((first | refine AW.ops ?_ | refine AW.draw ?_ | refine AW.skip ?_ | refine AW.ret ?_ | refine AW.exit ?_ |  (refine SFn.call (pick_ok hL [5, 20, 100] (by simp) (by simp)) rfl rfl (by omega) (fun v p hp hv hb => ?_); obtain ⟨e, he, rfl⟩ := hv; have he' : e = 5 ∨ e = 20 ∨ e = 100 := by simpa using he)) <;> simp (disch := omega) only [RS, LS, SY, ne_eq, isFl, floatV, constA, thenQ, blockQ, pack, intA, boolA, eqA, unA, nilcA, asI, asB, asS, loadA, idxA, lenA, slcA, AV.flat, AV.one, zA1, storeA, toD, srcOf, copyA, ↓reduceIte, reduceCtorEq, List.replicate, Nat.reduceBEq, Nat.reduceAdd, Nat.reduceMul, Nat.reduceSub, Nat.reduceLeDiff, Nat.reduceLT, Int.reduceToNat, Nat.reduceEqDiff, Int.reduceEq, wrap_id, hc0, Int.zero_sub]) | refine AW.condT rfl ?_ | refine AW.condF rfl ?_ | ((first | (refine GI.of (fun h => ?_) (fun h => ?_) ?emm; case emm => first | exact Classical.em _ | exact (Classical.em _).symm | grind) | (refine GD.of (fun h => ?_) (fun h => ?_) ?emm; case emm => first | exact Classical.em _ | exact (Classical.em _).symm | grind)) <;> simp (disch := omega) only [RS, LS, SY, ne_eq, isFl, floatV, constA, thenQ, blockQ, pack, intA, boolA, eqA, unA, nilcA, asI, asB, asS, loadA, idxA, lenA, slcA, AV.flat, AV.one, zA1, storeA, toD, srcOf, copyA, ↓reduceIte, reduceCtorEq, List.replicate, Nat.reduceBEq, Nat.reduceAdd, Nat.reduceMul, Nat.reduceSub, Nat.reduceLeDiff, Nat.reduceLT, Int.reduceToNat, Nat.reduceEqDiff, Int.reduceEq, wrap_id, hc0, Int.zero_sub, h]) | (refine AW.condP rfl (fun h => ?_) (fun h => ?_) <;> try simp only [Bool.and_eq_true, decide_eq_true_eq, Bool.not_eq_true', decide_eq_false_iff_not, Bool.not_eq_false', Bool.not_eq_true, Bool.not_eq_false] at h) | refine And.intro (by omega) ?_ | fail)
        refine SFn.call (range_ok hL (-e) e (by omega) (by omega) (by omega)) rfl rfl (by omega) (fun v p hp hv hb => ?_)
        obtain ⟨x, x0, x1, rfl⟩ := hv
        simp (disch := omega) only [RS, LS, SY, ne_eq, isFl, floatV, constA, thenQ, blockQ, pack, intA, boolA, eqA, unA, nilcA, asI, asB, asS, loadA, idxA, lenA, slcA, AV.flat, AV.one, zA1, storeA, toD, srcOf, copyA, ↓reduceIte, reduceCtorEq, List.replicate, Nat.reduceBEq, Nat.reduceAdd, Nat.reduceMul, Nat.reduceSub, Nat.reduceLeDiff, Nat.reduceLT, Int.reduceToNat, Nat.reduceEqDiff, Int.reduceEq, wrap_id, Int.zero_sub]
        repeat' (first | refine AW.seq' ?_ | with_reducible refine AW.blockS rfl ?_ | ((first | refine AW.ops ?_ | refine AW.draw ?_ | refine AW.skip ?_ | refine AW.ret ?_ | refine AW.exit ?_ |  (refine SFn.call (range_ok hL (-e) e (by omega) (by omega) (by omega)) rfl rfl (by omega) (fun v p hp hv hb => ?_); obtain ⟨y, y0, y1, rfl⟩ := hv)) <;> simp (disch := omega) only [RS, LS, SY, ne_eq, isFl, floatV, constA, thenQ, blockQ, pack, intA, boolA, eqA, unA, nilcA, asI, asB, asS, loadA, idxA, lenA, slcA, AV.flat, AV.one, zA1, storeA, toD, srcOf, copyA, ↓reduceIte, reduceCtorEq, List.replicate, Nat.reduceBEq, Nat.reduceAdd, Nat.reduceMul, Nat.reduceSub, Nat.reduceLeDiff, Nat.reduceLT, Int.reduceToNat, Nat.reduceEqDiff, Int.reduceEq, wrap_id, hc0, Int.zero_sub]) | refine AW.condT rfl ?_ | refine AW.condF rfl ?_ | ((first | (refine GI.of (fun h => ?_) (fun h => ?_) ?emm; case emm => first | exact Classical.em _ | exact (Classical.em _).symm | grind) | (refine GD.of (fun h => ?_) (fun h => ?_) ?emm; case emm => first | exact Classical.em _ | exact (Classical.em _).symm | grind)) <;> simp (disch := omega) only [RS, LS, SY, ne_eq, isFl, floatV, constA, thenQ, blockQ, pack, intA, boolA, eqA, unA, nilcA, asI, asB, asS, loadA, idxA, lenA, slcA, AV.flat, AV.one, zA1, storeA, toD, srcOf, copyA, ↓reduceIte, reduceCtorEq, List.replicate, Nat.reduceBEq, Nat.reduceAdd, Nat.reduceMul, Nat.reduceSub, Nat.reduceLeDiff, Nat.reduceLT, Int.reduceToNat, Nat.reduceEqDiff, Int.reduceEq, wrap_id, hc0, Int.zero_sub, h]) | (refine AW.condP rfl (fun h => ?_) (fun h => ?_) <;> try simp only [Bool.and_eq_true, decide_eq_true_eq, Bool.not_eq_true', decide_eq_false_iff_not, Bool.not_eq_false', Bool.not_eq_true, Bool.not_eq_false] at h) | refine And.intro (by omega) ?_ | fail)
        exact ⟨(_, [⟨0, x, y, e⟩], [0]), [0, 3, 4], ⟨by assumption, by simp; omega, fun f hf => by simp at hf; subst hf; exact ⟨he', x0, x1, y0, y1⟩, rfl⟩, by simp; omega, rfl, by decide, rfl, by simp [NT, belA, belL, tget, renA, renL, nmL, gVg_cons], ⟨⟨rfl, rfl⟩, ⟨⟨rfl, rfl⟩, ⟨⟨rfl, rfl⟩, trivial⟩⟩⟩⟩
      | cons a A =>
        cases B with
        | nil => simp at hBl
        | cons b B =>
          rw [gVg_cons, gBg_cons, gVg_cons, gBg_cons]
          have hA2 : A.length + 1 < n := hlt
          have hB3 : B.length = A.length := by simpa using hBl
          have hc1 : ((A.length + 1 : Nat) : Int) < n := hc
          have htk1 : List.take A.length (List.map fxR A) = List.map fxR A := List.take_of_length_le (by simp)
          have htk2 : List.take B.length (List.map inR1 B) = List.map inR1 B := List.take_of_length_le (by simp)
          repeat' (first | refine AW.seq' ?_ | with_reducible refine AW.blockS rfl ?_ | ((first | refine AW.ops ?_ | refine AW.draw ?_ | refine AW.skip ?_ | refine AW.ret ?_ | refine AW.exit ?_ |  (refine SFn.call (pick_ok hL [5, 20, 100] (by simp) (by simp)) rfl rfl (by omega) (fun v p hp hv hb => ?_); obtain ⟨e, he, rfl⟩ := hv; have he' : e = 5 ∨ e = 20 ∨ e = 100 := by simpa using he)) <;> simp (disch := omega) only [RS, LS, SY, ne_eq, isFl, floatV, constA, thenQ, blockQ, pack, intA, boolA, eqA, unA, nilcA, asI, asB, asS, loadA, idxA, lenA, slcA, AV.flat, AV.one, zA1, storeA, toD, srcOf, copyA, ↓reduceIte, reduceCtorEq, List.replicate, Nat.reduceBEq, Nat.reduceAdd, Nat.reduceMul, Nat.reduceSub, Nat.reduceLeDiff, Nat.reduceLT, Int.reduceToNat, Nat.reduceEqDiff, Int.reduceEq, wrap_id, hc1, Int.zero_sub, htk1, htk2]) | refine AW.condT rfl ?_ | refine AW.condF rfl ?_ | ((first | (refine GI.of (fun h => ?_) (fun h => ?_) ?emm; case emm => first | exact Classical.em _ | exact (Classical.em _).symm | grind) | (refine GD.of (fun h => ?_) (fun h => ?_) ?emm; case emm => first | exact Classical.em _ | exact (Classical.em _).symm | grind)) <;> simp (disch := omega) only [RS, LS, SY, ne_eq, isFl, floatV, constA, thenQ, blockQ, pack, intA, boolA, eqA, unA, nilcA, asI, asB, asS, loadA, idxA, lenA, slcA, AV.flat, AV.one, zA1, storeA, toD, srcOf, copyA, ↓reduceIte, reduceCtorEq, List.replicate, Nat.reduceBEq, Nat.reduceAdd, Nat.reduceMul, Nat.reduceSub, Nat.reduceLeDiff, Nat.reduceLT, Int.reduceToNat, Nat.reduceEqDiff, Int.reduceEq, wrap_id, hc1, Int.zero_sub, htk1, htk2, h]) | (refine AW.condP rfl (fun h => ?_) (fun h => ?_) <;> try simp only [Bool.and_eq_true, decide_eq_true_eq, Bool.not_eq_true', decide_eq_false_iff_not, Bool.not_eq_false', Bool.not_eq_true, Bool.not_eq_false] at h) | refine And.intro (by omega) ?_ | fail)
          refine SFn.call (range_ok hL (-e) e (by omega) (by omega) (by omega)) rfl rfl (by omega) (fun v p hp hv hb => ?_)
          obtain ⟨x, x0, x1, rfl⟩ := hv
          simp (disch := omega) only [RS, LS, SY, ne_eq, isFl, floatV, constA, thenQ, blockQ, pack, intA, boolA, eqA, unA, nilcA, asI, asB, asS, loadA, idxA, lenA, slcA, AV.flat, AV.one, zA1, storeA, toD, srcOf, copyA, ↓reduceIte, reduceCtorEq, List.replicate, Nat.reduceBEq, Nat.reduceAdd, Nat.reduceMul, Nat.reduceSub, Nat.reduceLeDiff, Nat.reduceLT, Int.reduceToNat, Nat.reduceEqDiff, Int.reduceEq, wrap_id, Int.zero_sub]
          repeat' (first | refine AW.seq' ?_ | with_reducible refine AW.blockS rfl ?_ | ((first | refine AW.ops ?_ | refine AW.draw ?_ | refine AW.skip ?_ | refine AW.ret ?_ | refine AW.exit ?_ |  (refine SFn.call (range_ok hL (-e) e (by omega) (by omega) (by omega)) rfl rfl (by omega) (fun v p hp hv hb => ?_); obtain ⟨y, y0, y1, rfl⟩ := hv)) <;> simp (disch := omega) only [RS, LS, SY, ne_eq, isFl, floatV, constA, thenQ, blockQ, pack, intA, boolA, eqA, unA, nilcA, asI, asB, asS, loadA, idxA, lenA, slcA, AV.flat, AV.one, zA1, storeA, toD, srcOf, copyA, ↓reduceIte, reduceCtorEq, List.replicate, Nat.reduceBEq, Nat.reduceAdd, Nat.reduceMul, Nat.reduceSub, Nat.reduceLeDiff, Nat.reduceLT, Int.reduceToNat, Nat.reduceEqDiff, Int.reduceEq, wrap_id, hc1, Int.zero_sub, htk1, htk2]) | refine AW.condT rfl ?_ | refine AW.condF rfl ?_ | ((first | (refine GI.of (fun h => ?_) (fun h => ?_) ?emm; case emm => first | exact Classical.em _ | exact (Classical.em _).symm | grind) | (refine GD.of (fun h => ?_) (fun h => ?_) ?emm; case emm => first | exact Classical.em _ | exact (Classical.em _).symm | grind)) <;> simp (disch := omega) only [RS, LS, SY, ne_eq, isFl, floatV, constA, thenQ, blockQ, pack, intA, boolA, eqA, unA, nilcA, asI, asB, asS, loadA, idxA, lenA, slcA, AV.flat, AV.one, zA1, storeA, toD, srcOf, copyA, ↓reduceIte, reduceCtorEq, List.replicate, Nat.reduceBEq, Nat.reduceAdd, Nat.reduceMul, Nat.reduceSub, Nat.reduceLeDiff, Nat.reduceLT, Int.reduceToNat, Nat.reduceEqDiff, Int.reduceEq, wrap_id, hc1, Int.zero_sub, htk1, htk2, h]) | (refine AW.condP rfl (fun h => ?_) (fun h => ?_) <;> try simp only [Bool.and_eq_true, decide_eq_true_eq, Bool.not_eq_true', decide_eq_false_iff_not, Bool.not_eq_false', Bool.not_eq_true, Bool.not_eq_false] at h) | refine And.intro (by omega) ?_ | fail)
          have ea : rowsA (fxs (a :: (A ++ [⟨0, x, y, e⟩]))) = [AV.d (dI a.t), AV.d (dI a.x), AV.d (dI a.y), AV.d (dI a.e)] :: (rowsA (List.map fxR A) ++ [[AV.d (dI 0), AV.d (dI x), AV.d (dI y), AV.d (dI e)]]) := by simp [rowsA]
          have eb : rowsA (ints (b :: (B ++ [((A.length + 1 : Nat) : Int)]))) = [AV.d (dI b)] :: (rowsA (List.map inR1 B) ++ [[AV.d (dI ((A.length + 1 : Nat) : Int))]]) := by simp [rowsA, ints]
          refine ⟨(_, a :: (A ++ [⟨0, x, y, e⟩]), b :: (B ++ [((A.length + 1 : Nat) : Int)])), [0, 3, 4], ⟨by assumption, by simp; omega, fun f hf => ?_, ?_⟩, by simp; omega, rfl, by decide, rfl, by simp [NT, belA, belL, tget, renA, renL, nmL, gVg_cons], ⟨⟨rfl, rfl⟩, ⟨⟨belB_rowsA _ _ _ (fxs (a :: (A ++ [⟨0, x, y, e⟩]))), by rw [renB_rowsA, ea]; rfl⟩, ⟨⟨belB_rowsA _ _ _ (ints (b :: (B ++ [((A.length + 1 : Nat) : Int)]))), by rw [renB_rowsA, eb]; rfl⟩, trivial⟩⟩⟩⟩
          · simp only [List.mem_cons, List.mem_append, List.not_mem_nil, or_false] at hf
            rcases hf with rfl | hf | rfl
            · exact hr _ (by simp)
            · exact hr _ (by simp [hf])
            · exact ⟨he', x0, x1, y0, y1⟩
          · have e3 : (a :: (A ++ [(⟨0, x, y, e⟩ : Fx)])).length = (a :: A).length + 1 := by simp
            show b :: (B ++ [((A.length + 1 : Nat) : Int)]) = rgI (a :: (A ++ [(⟨0, x, y, e⟩ : Fx)])).length
            rw [e3, hB2]; rfl
    · have hAe : A.length = n := by omega
      have hc : ¬ (A.length : Int) < n := by omega
      rw [hAe] at hB
      subst hB
      repeat' (first | refine AW.seq' ?_ | with_reducible refine AW.blockS rfl ?_ | ((first | refine AW.ops ?_ | refine AW.draw ?_ | refine AW.skip ?_ | refine AW.ret ?_ | refine AW.exit ?_) <;> simp only [RS, LS, SY, ne_eq, isFl, floatV, constA, thenQ, blockQ, pack, intA, boolA, eqA, unA, nilcA, asI, asB, asS, loadA, idxA, lenA, slcA, AV.flat, AV.one, zA1, storeA, toD, srcOf, copyA, ↓reduceIte, reduceCtorEq, List.replicate, Nat.reduceBEq, Nat.reduceAdd, Nat.reduceMul, Nat.reduceSub, Nat.reduceLeDiff, Nat.reduceLT, Int.reduceToNat, Nat.reduceEqDiff, Int.reduceEq, hc]) | refine AW.condT rfl ?_ | refine AW.condF rfl ?_ | ((first | (refine GI.of (fun h => ?_) (fun h => ?_) ?emm; case emm => first | exact Classical.em _ | exact (Classical.em _).symm | grind) | (refine GD.of (fun h => ?_) (fun h => ?_) ?emm; case emm => first | exact Classical.em _ | exact (Classical.em _).symm | grind)) <;> simp only [RS, LS, SY, ne_eq, isFl, floatV, constA, thenQ, blockQ, pack, intA, boolA, eqA, unA, nilcA, asI, asB, asS, loadA, idxA, lenA, slcA, AV.flat, AV.one, zA1, storeA, toD, srcOf, copyA, ↓reduceIte, reduceCtorEq, List.replicate, Nat.reduceBEq, Nat.reduceAdd, Nat.reduceMul, Nat.reduceSub, Nat.reduceLeDiff, Nat.reduceLT, Int.reduceToNat, Nat.reduceEqDiff, Int.reduceEq, hc, h]) | (refine AW.condP rfl (fun h => ?_) (fun h => ?_) <;> try simp only [Bool.and_eq_true, decide_eq_true_eq, Bool.not_eq_true', decide_eq_false_iff_not, Bool.not_eq_false', Bool.not_eq_true, Bool.not_eq_false] at h) | refine And.intro (by omega) ?_ | fail)
      exact ⟨[0, 1, 2], p, A, hp, hAe, hr, rfl, by decide, rfl, by simp [NT, belA, belL, tget, renA, renL, nmL, renA_gVg, belA_gVg], ⟨⟨rfl, rfl⟩, NS.g rfl (NS.g rfl trivial)⟩⟩
  · obtain ⟨a0, Ar, rfl⟩ : ∃ a0 Ar, A = a0 :: Ar := List.exists_cons_of_ne_nil (by rintro rfl; simp at hA; omega)
    have hrl := rgI_len n
    generalize hRG : rgI n = RG at hrl
    obtain ⟨b0, Br, rfl⟩ : ∃ b0 Br, RG = b0 :: Br := List.exists_cons_of_ne_nil (by rintro rfl; simp at hrl; omega)
    have hAr : Ar.length + 1 = n := hA
    have hBr : Br.length + 1 = n := hrl
    rw [gVg_cons, gBg_cons, gVg_cons, gBg_cons]
    repeat' (first | refine AW.seq' ?_ | with_reducible refine AW.blockS rfl ?_ | ((first | refine AW.ops ?_ | refine AW.draw ?_ | refine AW.skip ?_ | refine AW.ret ?_ | refine AW.exit ?_ |  (refine SFn.call (n_ok hL n (by omega)) rfl rfl (by omega) (fun v p hp hv hb => ?_); obtain ⟨r0, z0, z1, rfl⟩ := hv)) <;> simp (disch := omega) only [RS, LS, SY, ne_eq, isFl, floatV, constA, thenQ, blockQ, pack, intA, boolA, eqA, unA, nilcA, asI, asB, asS, loadA, idxA, lenA, slcA, AV.flat, AV.one, zA1, storeA, toD, srcOf, copyA, ↓reduceIte, reduceCtorEq, List.replicate, Nat.reduceBEq, Nat.reduceAdd, Nat.reduceMul, Nat.reduceSub, Nat.reduceLeDiff, Nat.reduceLT, Int.reduceToNat, Nat.reduceEqDiff, Int.reduceEq, wrap_id]) | refine AW.condT rfl ?_ | refine AW.condF rfl ?_ | ((first | (refine GI.of (fun h => ?_) (fun h => ?_) ?emm; case emm => first | exact Classical.em _ | exact (Classical.em _).symm | grind) | (refine GD.of (fun h => ?_) (fun h => ?_) ?emm; case emm => first | exact Classical.em _ | exact (Classical.em _).symm | grind)) <;> simp (disch := omega) only [RS, LS, SY, ne_eq, isFl, floatV, constA, thenQ, blockQ, pack, intA, boolA, eqA, unA, nilcA, asI, asB, asS, loadA, idxA, lenA, slcA, AV.flat, AV.one, zA1, storeA, toD, srcOf, copyA, ↓reduceIte, reduceCtorEq, List.replicate, Nat.reduceBEq, Nat.reduceAdd, Nat.reduceMul, Nat.reduceSub, Nat.reduceLeDiff, Nat.reduceLT, Int.reduceToNat, Nat.reduceEqDiff, Int.reduceEq, wrap_id, h]) | (refine AW.condP rfl (fun h => ?_) (fun h => ?_) <;> try simp only [Bool.and_eq_true, decide_eq_true_eq, Bool.not_eq_true', decide_eq_false_iff_not, Bool.not_eq_false', Bool.not_eq_true, Bool.not_eq_false] at h) | refine And.intro (by omega) ?_ | fail)
    obtain ⟨r0, rfl⟩ := Int.eq_ofNat_of_zero_le z0
    refine AW.cut2 (M := fun T s => ∃ rl p W K, W.length < n ∧ K.length = W.length ∧ (∀ f ∈ W, VW f) ∧ (∀ c ∈ K, (n : Int) ≤ c ∧ c ≤ n + 2) ∧ Nrm rl 0 T s [(3, .ptr 0 0 0), (4, AI .i64 n), (5, gVg 1 (a0 :: (Ar ++ W))), (6, gVg 2 (b0 :: (Br ++ K)))] [SrcS SRC L p, gBg 26 4 fxR (a0 :: (Ar ++ W)), gBg 3 1 inR1 (b0 :: (Br ++ K))]) ?_ (fun T s ⟨rl, p, W, K, hWn, hKW, hw, hk, hN⟩ => AW.nrm rl hN ?_)
    · refine AW.block ?_
      refine AW.loopA (α := Nat × Nat × List Fx × List Int) (fun a => a.1) (fun a => [(3, .ptr 0 0 0), (4, AI .i64 n), (9, AI .i64 a.1), (5, gVg 1 (a0 :: (Ar ++ a.2.2.1))), (6, gVg 2 (b0 :: (Br ++ a.2.2.2)))]) (fun a => [SrcS SRC L a.2.1, gBg 26 4 fxR (a0 :: (Ar ++ a.2.2.1)), gBg 3 1 inR1 (b0 :: (Br ++ a.2.2.2))]) (fun a => a.2.1 ≤ L.length ∧ a.2.2.1.length + a.1 < n ∧ a.2.2.2.length = a.2.2.1.length ∧ (∀ f ∈ a.2.2.1, VW f) ∧ ∀ c ∈ a.2.2.2, (n : Int) ≤ c ∧ c ≤ n + 2) (r0, _, [], []) ⟨by assumption, by simp; omega, rfl, by simp, by simp⟩ [0, 1, 2] ⟨rfl, by decide, rfl, by simp [NT, belA, belL, tget, renA, renL, nmL, gVg], ⟨⟨rfl, rfl⟩, ⟨⟨belB_rowsA .., by rw [renB_rowsA, List.append_nil]; rfl⟩, ⟨⟨belB_rowsA .., by rw [renB_rowsA, List.append_nil]; rfl⟩, trivial⟩⟩⟩⟩ ?_
      rintro ⟨r, p, W, K⟩ ⟨hp, hWr, hKW, hw, hk⟩
      simp only at hp hWr hKW hw hk ⊢
      unfold c4_1
      cases r with
      | zero =>
        have hz : ¬ (0 : Int) < ((0 : Nat) : Int) := by decide
        repeat' (first | refine AW.seq' ?_ | with_reducible refine AW.blockS rfl ?_ | ((first | refine AW.ops ?_ | refine AW.draw ?_ | refine AW.skip ?_ | refine AW.ret ?_ | refine AW.exit ?_) <;> simp only [RS, LS, SY, ne_eq, isFl, floatV, constA, thenQ, blockQ, pack, intA, boolA, eqA, unA, nilcA, asI, asB, asS, loadA, idxA, lenA, slcA, AV.flat, AV.one, zA1, storeA, toD, srcOf, copyA, ↓reduceIte, reduceCtorEq, List.replicate, Nat.reduceBEq, Nat.reduceAdd, Nat.reduceMul, Nat.reduceSub, Nat.reduceLeDiff, Nat.reduceLT, Int.reduceToNat, Nat.reduceEqDiff, Int.reduceEq, hz]) | refine AW.condT rfl ?_ | refine AW.condF rfl ?_ | ((first | (refine GI.of (fun h => ?_) (fun h => ?_) ?emm; case emm => first | exact Classical.em _ | exact (Classical.em _).symm | grind) | (refine GD.of (fun h => ?_) (fun h => ?_) ?emm; case emm => first | exact Classical.em _ | exact (Classical.em _).symm | grind)) <;> simp only [RS, LS, SY, ne_eq, isFl, floatV, constA, thenQ, blockQ, pack, intA, boolA, eqA, unA, nilcA, asI, asB, asS, loadA, idxA, lenA, slcA, AV.flat, AV.one, zA1, storeA, toD, srcOf, copyA, ↓reduceIte, reduceCtorEq, List.replicate, Nat.reduceBEq, Nat.reduceAdd, Nat.reduceMul, Nat.reduceSub, Nat.reduceLeDiff, Nat.reduceLT, Int.reduceToNat, Nat.reduceEqDiff, Int.reduceEq, hz, h]) | (refine AW.condP rfl (fun h => ?_) (fun h => ?_) <;> try simp only [Bool.and_eq_true, decide_eq_true_eq, Bool.not_eq_true', decide_eq_false_iff_not, Bool.not_eq_false', Bool.not_eq_true, Bool.not_eq_false] at h) | refine And.intro (by omega) ?_ | fail)
        exact ⟨[0, 1, 2], p, W, K, by omega, hKW, hw, hk, rfl, by decide, rfl, by simp [NT, belA, belL, tget, renA, renL, nmL, renA_gVg, belA_gVg], ⟨⟨rfl, rfl⟩, NS.g rfl (NS.g rfl trivial)⟩⟩
      | succ r =>
        have hc : (0 : Int) < ((r + 1 : Nat) : Int) := by omega
        have hr1 : ((r + 1 : Nat) : Int) - 1 = r := by omega
        rw [gVg_cons, gBg_cons, gVg_cons, gBg_cons]
        have hXl : (Ar ++ W).length ≤ 8 := by simp; omega
        have hYl : (Br ++ K).length ≤ 8 := by simp; omega
        have eX : ∀ f : Fx, Ar ++ (W ++ [f]) = (Ar ++ W) ++ [f] := fun f => (List.append_assoc ..).symm
        have eY : ∀ c : Int, Br ++ (K ++ [c]) = (Br ++ K) ++ [c] := fun f => (List.append_assoc ..).symm
        generalize Ar ++ W = X at hXl eX
        generalize Br ++ K = Y at hYl eY
        have htk1 : List.take X.length (List.map fxR X) = List.map fxR X := List.take_of_length_le (by simp)
        have htk2 : List.take Y.length (List.map inR1 Y) = List.map inR1 Y := List.take_of_length_le (by simp)
        repeat' (first | refine AW.seq' ?_ | with_reducible refine AW.blockS rfl ?_ | ((first | refine AW.ops ?_ | refine AW.draw ?_ | refine AW.skip ?_ | refine AW.ret ?_ | refine AW.exit ?_ |  (refine SFn.call (n_ok hL 10 (by omega)) rfl rfl (by omega) (fun v p hp hv hb => ?_); obtain ⟨x, x0, x1, rfl⟩ := hv) |  (refine SFn.call (pick_ok hL [5, 20] (by simp) (by simp)) rfl rfl (by omega) (fun v p hp hv hb => ?_); obtain ⟨e, he, rfl⟩ := hv) |  (refine SFn.call (n_ok hL 3 (by omega)) rfl rfl (by omega) (fun v p hp hv hb => ?_); obtain ⟨q, q0, q1, rfl⟩ := hv)) <;> simp (disch := omega) only [RS, LS, SY, ne_eq, isFl, floatV, constA, thenQ, blockQ, pack, intA, boolA, eqA, unA, nilcA, asI, asB, asS, loadA, idxA, lenA, slcA, AV.flat, AV.one, zA1, storeA, toD, srcOf, copyA, ↓reduceIte, reduceCtorEq, List.replicate, Nat.reduceBEq, Nat.reduceAdd, Nat.reduceMul, Nat.reduceSub, Nat.reduceLeDiff, Nat.reduceLT, Int.reduceToNat, Nat.reduceEqDiff, Int.reduceEq, wrap_id, hc, hr1, htk1, htk2]) | refine AW.condT rfl ?_ | refine AW.condF rfl ?_ | ((first | (refine GI.of (fun h => ?_) (fun h => ?_) ?emm; case emm => first | exact Classical.em _ | exact (Classical.em _).symm | grind) | (refine GD.of (fun h => ?_) (fun h => ?_) ?emm; case emm => first | exact Classical.em _ | exact (Classical.em _).symm | grind)) <;> simp (disch := omega) only [RS, LS, SY, ne_eq, isFl, floatV, constA, thenQ, blockQ, pack, intA, boolA, eqA, unA, nilcA, asI, asB, asS, loadA, idxA, lenA, slcA, AV.flat, AV.one, zA1, storeA, toD, srcOf, copyA, ↓reduceIte, reduceCtorEq, List.replicate, Nat.reduceBEq, Nat.reduceAdd, Nat.reduceMul, Nat.reduceSub, Nat.reduceLeDiff, Nat.reduceLT, Int.reduceToNat, Nat.reduceEqDiff, Int.reduceEq, wrap_id, hc, hr1, htk1, htk2, h]) | (refine AW.condP rfl (fun h => ?_) (fun h => ?_) <;> try simp only [Bool.and_eq_true, decide_eq_true_eq, Bool.not_eq_true', decide_eq_false_iff_not, Bool.not_eq_false', Bool.not_eq_true, Bool.not_eq_false] at h) | refine And.intro (by omega) ?_ | fail)
        have he' : e = 5 ∨ e = 20 := by simpa using he
        have ea : rowsA (fxs (a0 :: (X ++ [⟨0, 100000 + x, 0, e⟩]))) = [AV.d (dI a0.t), AV.d (dI a0.x), AV.d (dI a0.y), AV.d (dI a0.e)] :: (rowsA (List.map fxR X) ++ [[AV.d (dI 0), AV.d (dI (100000 + x)), AV.d (dI 0), AV.d (dI e)]]) := by simp [rowsA]
        have eb : rowsA (ints (b0 :: (Y ++ [(n : Int) + q]))) = [AV.d (dI b0)] :: (rowsA (List.map inR1 Y) ++ [[AV.d (dI ((n : Int) + q))]]) := by simp [rowsA, ints]
        refine ⟨(r, _, W ++ [⟨0, 100000 + x, 0, e⟩], K ++ [(n : Int) + q]), [0, 3, 4], ⟨by assumption, by simp; omega, by simp [hKW], fun f hf => ?_, fun c hc => ?_⟩, by simp, rfl, by decide, rfl, ?_, ?_⟩
        · rcases List.mem_append.1 hf with hf | hf
          · exact hw f hf
          · simp only [List.mem_singleton] at hf; subst hf; exact ⟨by simp only; omega, by simp only; omega, rfl, he'⟩
        · rcases List.mem_append.1 hc with hc | hc
          · exact hk c hc
          · simp only [List.mem_singleton] at hc; omega
        · simp only [eX, eY]
          simp [NT, belA, belL, tget, renA, renL, nmL, gVg_cons]
        · simp only [eX, eY]
          exact ⟨⟨rfl, rfl⟩, ⟨⟨belB_rowsA _ _ _ (fxs (a0 :: (X ++ [⟨0, 100000 + x, 0, e⟩]))), by rw [renB_rowsA, ea]; rfl⟩, ⟨⟨belB_rowsA _ _ _ (ints (b0 :: (Y ++ [(n : Int) + q]))), by rw [renB_rowsA, eb]; rfl⟩, trivial⟩⟩⟩
    · refine AW.frzX (id := 1) (t := 26) (k := 4) (f := fxR) (mem := a0 :: (Ar ++ W)) rfl [(3, .ptr 0 0 0), (4, AI .i64 n), (5, LF (a0 :: (Ar ++ W))), (6, gVg 2 (b0 :: (Br ++ K)))] [SrcS SRC L p, none, gBg 3 1 inR1 (b0 :: (Br ++ K))] ⟨.inl ⟨rfl, .ptr⟩, .inl ⟨rfl, .d⟩, .inr ⟨rfl, rfl⟩, .inl ⟨rfl, .g (by decide)⟩, trivial⟩ rfl (FrL.all ⟨.inr fun _ _ => ⟨rfl, by simp [fitB, fitL, fitA]⟩, .inl rfl, .inr FrB.rows, trivial⟩) ?_
      refine AW.frzI (id := 2) (mem := b0 :: (Br ++ K)) rfl [(3, .ptr 0 0 0), (4, AI .i64 n), (5, LF (a0 :: (Ar ++ W))), (6, LI (b0 :: (Br ++ K)))] [SrcS SRC L p, none, none] ⟨.inl ⟨rfl, .ptr⟩, .inl ⟨rfl, .d⟩, .inl ⟨rfl, .d⟩, .inr ⟨rfl, rfl⟩, trivial⟩ rfl (FrL.all ⟨.inr fun _ _ => ⟨rfl, by simp [fitB, fitL, fitA]⟩, .inl rfl, trivial⟩) ?_
      have hrgl : (rgI n).length = n := rgI_len n
      have ek : b0 :: (Br ++ K) = rgI n ++ K := by rw [hRG]; rfl
      have el : a0 :: (Ar ++ W) = (a0 :: Ar) ++ W := rfl
      rw [ek, el]
      have hn1 : 1 ≤ n := by omega
      have hn4 : n ≤ 4 := by omega
      have d1 := law4_tail hn1 hn4 hA hKW hWn hr hw hk
      have hkl : (rgI n ++ K).length = n + K.length := by rw [List.length_append, hrgl]
      have hdr : List.drop n (ints (rgI n ++ K)) = ints K := by rw [ints, ← List.map_drop, List.drop_left' hrgl]
      have hid := indices_ok K.length (by omega)
      have hrc := rcauses_ok K (rgI K.length) (by omega) (by rw [rgI_len]; omega)
      have hrv := right_vote hA hKW hr hw
      generalize a0 :: Ar ++ W = ll at d1 hrv
      generalize hkk : rgI n ++ K = kk at d1 hrv hkl hdr
      have hsub : ((n + K.length : Nat) : Int) - n = (K.length : Int) := by omega
      have htk : List.take (n + K.length - n) (ints K) = ints K := List.take_of_length_le (by simp)
      have hii := ints_ok (rgI n) (rgI n) (by omega) (by omega)
      rw [decide_eq_true rfl] at hii
      have eid : (List.range K.length).map Int.ofNat = rgI K.length := rfl
      rw [eid] at hid
      have hm := fun h => hrv h
      generalize cauP K (rgI K.length) = cs at hrc hm
      generalize voteP kk ll = v at d1 hm
      obtain ⟨vm, vc, vt⟩ := v
      simp only at hm
      by_cases hge : n ≤ cs.length
      · have hge' : (n : Int) ≤ cs.length := by omega
        repeat' (first | refine AW.seq' ?_ | with_reducible refine AW.blockS rfl ?_ | ((first | refine AW.ops ?_ | refine AW.draw ?_ | refine AW.skip ?_ | refine AW.ret ?_ | refine AW.exit ?_ | refine Fn.call (hid) rfl rfl ?_ | refine Fn.call (hrc) rfl rfl ?_ | refine Fn.call (d1) rfl rfl ?_ | refine Fn.call (sane_ok) rfl rfl ?_) <;> simp (disch := omega) only [RS, LS, SY, ne_eq, isFl, floatV, constA, thenQ, blockQ, pack, intA, boolA, eqA, unA, nilcA, asI, asB, asS, loadA, idxA, lenA, slcA, AV.flat, AV.one, zA1, storeA, toD, srcOf, copyA, ↓reduceIte, reduceCtorEq, List.replicate, Nat.reduceBEq, Nat.reduceAdd, Nat.reduceMul, Nat.reduceSub, Nat.reduceLeDiff, Nat.reduceLT, Int.reduceToNat, Nat.reduceEqDiff, Int.reduceEq, wrap_id, hsub, hdr, hkl, htk, hge']) | refine AW.condT rfl ?_ | refine AW.condF rfl ?_ | ((first | (refine GI.of (fun h => ?_) (fun h => ?_) ?emm; case emm => first | exact Classical.em _ | exact (Classical.em _).symm | grind) | (refine GD.of (fun h => ?_) (fun h => ?_) ?emm; case emm => first | exact Classical.em _ | exact (Classical.em _).symm | grind)) <;> simp (disch := omega) only [RS, LS, SY, ne_eq, isFl, floatV, constA, thenQ, blockQ, pack, intA, boolA, eqA, unA, nilcA, asI, asB, asS, loadA, idxA, lenA, slcA, AV.flat, AV.one, zA1, storeA, toD, srcOf, copyA, ↓reduceIte, reduceCtorEq, List.replicate, Nat.reduceBEq, Nat.reduceAdd, Nat.reduceMul, Nat.reduceSub, Nat.reduceLeDiff, Nat.reduceLT, Int.reduceToNat, Nat.reduceEqDiff, Int.reduceEq, wrap_id, hsub, hdr, hkl, htk, hge', h]) | (refine AW.condP rfl (fun h => ?_) (fun h => ?_) <;> try simp only [Bool.and_eq_true, decide_eq_true_eq, Bool.not_eq_true', decide_eq_false_iff_not, Bool.not_eq_false', Bool.not_eq_true, Bool.not_eq_false] at h) | refine And.intro (by omega) ?_ | fail)
      · have hge' : ¬ (n : Int) ≤ cs.length := by omega
        obtain rfl := hm (by omega)
        repeat' (first | refine AW.seq' ?_ | with_reducible refine AW.blockS rfl ?_ | ((first | refine AW.ops ?_ | refine AW.draw ?_ | refine AW.skip ?_ | refine AW.ret ?_ | refine AW.exit ?_ | refine Fn.call (hid) rfl rfl ?_ | refine Fn.call (hrc) rfl rfl ?_ | refine Fn.call (d1) rfl rfl ?_) <;> simp (disch := omega) only [RS, LS, SY, ne_eq, isFl, floatV, constA, thenQ, blockQ, pack, intA, boolA, eqA, unA, nilcA, asI, asB, asS, loadA, idxA, lenA, slcA, AV.flat, AV.one, zA1, storeA, toD, srcOf, copyA, ↓reduceIte, reduceCtorEq, List.replicate, Nat.reduceBEq, Nat.reduceAdd, Nat.reduceMul, Nat.reduceSub, Nat.reduceLeDiff, Nat.reduceLT, Int.reduceToNat, Nat.reduceEqDiff, Int.reduceEq, wrap_id, hsub, hdr, hkl, htk, hge']) | refine AW.condT rfl ?_ | refine AW.condF rfl ?_ | ((first | (refine GI.of (fun h => ?_) (fun h => ?_) ?emm; case emm => first | exact Classical.em _ | exact (Classical.em _).symm | grind) | (refine GD.of (fun h => ?_) (fun h => ?_) ?emm; case emm => first | exact Classical.em _ | exact (Classical.em _).symm | grind)) <;> simp (disch := omega) only [RS, LS, SY, ne_eq, isFl, floatV, constA, thenQ, blockQ, pack, intA, boolA, eqA, unA, nilcA, asI, asB, asS, loadA, idxA, lenA, slcA, AV.flat, AV.one, zA1, storeA, toD, srcOf, copyA, ↓reduceIte, reduceCtorEq, List.replicate, Nat.reduceBEq, Nat.reduceAdd, Nat.reduceMul, Nat.reduceSub, Nat.reduceLeDiff, Nat.reduceLT, Int.reduceToNat, Nat.reduceEqDiff, Int.reduceEq, wrap_id, hsub, hdr, hkl, htk, hge', h]) | (refine AW.condP rfl (fun h => ?_) (fun h => ?_) <;> try simp only [Bool.and_eq_true, decide_eq_true_eq, Bool.not_eq_true', decide_eq_false_iff_not, Bool.not_eq_false', Bool.not_eq_true, Bool.not_eq_false] at h) | refine And.intro (by omega) ?_ | fail)
        refine AW.cut2 (M := fun T s => ∃ rl, Nrm rl 0 T s [(11, .ptr 0 0 0), (13, gVg 1 (rgI n))] [some (.cells 41 3 [[LI (rgI n), LI vc, AB vt]]), gBg 3 1 inR1 (rgI n)]) ?_ (fun T s ⟨rl, hN⟩ => AW.nrm rl hN ?_)
        · refine AW.block ?_
          refine AW.loopA (α := Nat) (fun j => n + 1 - j) (fun j => [(4, AI .i64 n), (14, AI .i64 j), (11, .ptr 0 0 0), (13, gVg 1 (rgI j))]) (fun j => [some (.cells 41 3 [[LI (rgI n), LI vc, AB vt]]), gBg 3 1 inR1 (rgI j)]) (fun j => j ≤ n) 0 (Nat.zero_le _) [3, 4] ⟨rfl, by decide, rfl, by simp [NT, belA, belL, tget, renA, renL, nmL, gVg, rgI], ⟨⟨rfl, rfl⟩, trivial⟩⟩ ?_
          intro j hj
          unfold c4_2
          have hs := rgI_succ j
          have hlen := rgI_len j
          have hinc : IntKind.i64.wrap ((j : Int) + 1) = ((j + 1 : Nat) : Int) := by rw [wrap_id (by omega) (by omega)]; omega
          by_cases hlt : j < n
          · have hlt' : (j : Int) < n := by omega
            generalize rgI j = B at hs hlen
            cases B with
            | nil =>
              rw [gVg_nil, gBg_nil]
              repeat' (first | refine AW.seq' ?_ | with_reducible refine AW.blockS rfl ?_ | ((first | refine AW.ops ?_ | refine AW.draw ?_ | refine AW.skip ?_ | refine AW.ret ?_ | refine AW.exit ?_) <;> simp only [RS, LS, SY, ne_eq, isFl, floatV, constA, thenQ, blockQ, pack, intA, boolA, eqA, unA, nilcA, asI, asB, asS, loadA, idxA, lenA, slcA, AV.flat, AV.one, zA1, storeA, toD, srcOf, copyA, ↓reduceIte, reduceCtorEq, List.replicate, Nat.reduceBEq, Nat.reduceAdd, Nat.reduceMul, Nat.reduceSub, Nat.reduceLeDiff, Nat.reduceLT, Int.reduceToNat, Nat.reduceEqDiff, Int.reduceEq, hlt', hinc]) | refine AW.condT rfl ?_ | refine AW.condF rfl ?_ | ((first | (refine GI.of (fun h => ?_) (fun h => ?_) ?emm; case emm => first | exact Classical.em _ | exact (Classical.em _).symm | grind) | (refine GD.of (fun h => ?_) (fun h => ?_) ?emm; case emm => first | exact Classical.em _ | exact (Classical.em _).symm | grind)) <;> simp only [RS, LS, SY, ne_eq, isFl, floatV, constA, thenQ, blockQ, pack, intA, boolA, eqA, unA, nilcA, asI, asB, asS, loadA, idxA, lenA, slcA, AV.flat, AV.one, zA1, storeA, toD, srcOf, copyA, ↓reduceIte, reduceCtorEq, List.replicate, Nat.reduceBEq, Nat.reduceAdd, Nat.reduceMul, Nat.reduceSub, Nat.reduceLeDiff, Nat.reduceLT, Int.reduceToNat, Nat.reduceEqDiff, Int.reduceEq, hlt', hinc, h]) | (refine AW.condP rfl (fun h => ?_) (fun h => ?_) <;> try simp only [Bool.and_eq_true, decide_eq_true_eq, Bool.not_eq_true', decide_eq_false_iff_not, Bool.not_eq_false', Bool.not_eq_true, Bool.not_eq_false] at h) | refine And.intro (by omega) ?_ | fail)
              exact ⟨j + 1, [0, 2], hlt, by omega, rfl, by decide, rfl, by simp [NT, belA, belL, tget, renA, renL, nmL, hs, gVg_cons], ⟨⟨rfl, rfl⟩, by rw [hs]; exact ⟨⟨rfl, rfl⟩, trivial⟩⟩⟩
            | cons x B =>
              rw [gVg_cons, gBg_cons]
              have htk : List.take B.length (List.map inR1 B) = List.map inR1 B := List.take_of_length_le (by simp)
              have hB2 : B.length + 1 ≤ 100 := by simp only [List.length_cons] at hlen; omega
              repeat' (first | refine AW.seq' ?_ | with_reducible refine AW.blockS rfl ?_ | ((first | refine AW.ops ?_ | refine AW.draw ?_ | refine AW.skip ?_ | refine AW.ret ?_ | refine AW.exit ?_) <;> simp (disch := omega) only [RS, LS, SY, ne_eq, isFl, floatV, constA, thenQ, blockQ, pack, intA, boolA, eqA, unA, nilcA, asI, asB, asS, loadA, idxA, lenA, slcA, AV.flat, AV.one, zA1, storeA, toD, srcOf, copyA, ↓reduceIte, reduceCtorEq, List.replicate, Nat.reduceBEq, Nat.reduceAdd, Nat.reduceMul, Nat.reduceSub, Nat.reduceLeDiff, Nat.reduceLT, Int.reduceToNat, Nat.reduceEqDiff, Int.reduceEq, wrap_id, hlt', hinc, htk]) | refine AW.condT rfl ?_ | refine AW.condF rfl ?_ | ((first | (refine GI.of (fun h => ?_) (fun h => ?_) ?emm; case emm => first | exact Classical.em _ | exact (Classical.em _).symm | grind) | (refine GD.of (fun h => ?_) (fun h => ?_) ?emm; case emm => first | exact Classical.em _ | exact (Classical.em _).symm | grind)) <;> simp (disch := omega) only [RS, LS, SY, ne_eq, isFl, floatV, constA, thenQ, blockQ, pack, intA, boolA, eqA, unA, nilcA, asI, asB, asS, loadA, idxA, lenA, slcA, AV.flat, AV.one, zA1, storeA, toD, srcOf, copyA, ↓reduceIte, reduceCtorEq, List.replicate, Nat.reduceBEq, Nat.reduceAdd, Nat.reduceMul, Nat.reduceSub, Nat.reduceLeDiff, Nat.reduceLT, Int.reduceToNat, Nat.reduceEqDiff, Int.reduceEq, wrap_id, hlt', hinc, htk, h]) | (refine AW.condP rfl (fun h => ?_) (fun h => ?_) <;> try simp only [Bool.and_eq_true, decide_eq_true_eq, Bool.not_eq_true', decide_eq_false_iff_not, Bool.not_eq_false', Bool.not_eq_true, Bool.not_eq_false] at h) | refine And.intro (by omega) ?_ | fail)
              have e : rowsA (ints (x :: (B ++ [(j : Int)]))) = [AV.d (dI x)] :: (rowsA (List.map inR1 B) ++ [[AV.d (dI (j : Int))]]) := by simp [rowsA, ints]
              have hs' : rgI (j + 1) = x :: (B ++ [(j : Int)]) := hs
              exact ⟨j + 1, [0, 2], hlt, by omega, rfl, by decide, rfl, by simp [NT, belA, belL, tget, renA, renL, nmL, hs', gVg_cons], ⟨⟨rfl, rfl⟩, by rw [hs']; exact ⟨⟨belB_rowsA _ _ _ (ints (x :: (B ++ [(j : Int)]))), by rw [renB_rowsA, e]; rfl⟩, trivial⟩⟩⟩
          · have hlt' : ¬ (j : Int) < n := by omega
            have hjn : j = n := by omega
            subst hjn
            repeat' (first | refine AW.seq' ?_ | with_reducible refine AW.blockS rfl ?_ | ((first | refine AW.ops ?_ | refine AW.draw ?_ | refine AW.skip ?_ | refine AW.ret ?_ | refine AW.exit ?_) <;> simp only [RS, LS, SY, ne_eq, isFl, floatV, constA, thenQ, blockQ, pack, intA, boolA, eqA, unA, nilcA, asI, asB, asS, loadA, idxA, lenA, slcA, AV.flat, AV.one, zA1, storeA, toD, srcOf, copyA, ↓reduceIte, reduceCtorEq, List.replicate, Nat.reduceBEq, Nat.reduceAdd, Nat.reduceMul, Nat.reduceSub, Nat.reduceLeDiff, Nat.reduceLT, Int.reduceToNat, Nat.reduceEqDiff, Int.reduceEq, hlt']) | refine AW.condT rfl ?_ | refine AW.condF rfl ?_ | ((first | (refine GI.of (fun h => ?_) (fun h => ?_) ?emm; case emm => first | exact Classical.em _ | exact (Classical.em _).symm | grind) | (refine GD.of (fun h => ?_) (fun h => ?_) ?emm; case emm => first | exact Classical.em _ | exact (Classical.em _).symm | grind)) <;> simp only [RS, LS, SY, ne_eq, isFl, floatV, constA, thenQ, blockQ, pack, intA, boolA, eqA, unA, nilcA, asI, asB, asS, loadA, idxA, lenA, slcA, AV.flat, AV.one, zA1, storeA, toD, srcOf, copyA, ↓reduceIte, reduceCtorEq, List.replicate, Nat.reduceBEq, Nat.reduceAdd, Nat.reduceMul, Nat.reduceSub, Nat.reduceLeDiff, Nat.reduceLT, Int.reduceToNat, Nat.reduceEqDiff, Int.reduceEq, hlt', h]) | (refine AW.condP rfl (fun h => ?_) (fun h => ?_) <;> try simp only [Bool.and_eq_true, decide_eq_true_eq, Bool.not_eq_true', decide_eq_false_iff_not, Bool.not_eq_false', Bool.not_eq_true, Bool.not_eq_false] at h) | refine And.intro (by omega) ?_ | fail)
            exact ⟨[0, 1], rfl, by decide, rfl, by simp [NT, belA, belL, tget, renA, renL, nmL, renA_gVg, belA_gVg], ⟨⟨rfl, rfl⟩, NS.g rfl trivial⟩⟩
        · refine AW.frzI (id := 1) (mem := rgI n) rfl [(11, .ptr 0 0 0), (13, LI (rgI n))] [some (.cells 41 3 [[LI (rgI n), LI vc, AB vt]]), none] ⟨.inl ⟨rfl, .ptr⟩, .inr ⟨rfl, rfl⟩, trivial⟩ rfl (FrL.all ⟨.inr fun _ _ => ⟨rfl, by simp [fitB, fitL, fitA]⟩, .g trivial⟩) ?_
          repeat' (first | refine AW.seq' ?_ | with_reducible refine AW.blockS rfl ?_ | ((first | refine AW.ops ?_ | refine AW.draw ?_ | refine AW.skip ?_ | refine AW.ret ?_ | refine AW.exit ?_ | refine Fn.call (hii) rfl rfl ?_ | refine Fn.call (sane_ok) rfl rfl ?_) <;> simp only [RS, LS, SY, ne_eq, isFl, floatV, constA, thenQ, blockQ, pack, intA, boolA, eqA, unA, nilcA, asI, asB, asS, loadA, idxA, lenA, slcA, AV.flat, AV.one, zA1, storeA, toD, srcOf, copyA, ↓reduceIte, reduceCtorEq, List.replicate, Nat.reduceBEq, Nat.reduceAdd, Nat.reduceMul, Nat.reduceSub, Nat.reduceLeDiff, Nat.reduceLT, Int.reduceToNat, Nat.reduceEqDiff, Int.reduceEq]) | refine AW.condT rfl ?_ | refine AW.condF rfl ?_ | ((first | (refine GI.of (fun h => ?_) (fun h => ?_) ?emm; case emm => first | exact Classical.em _ | exact (Classical.em _).symm | grind) | (refine GD.of (fun h => ?_) (fun h => ?_) ?emm; case emm => first | exact Classical.em _ | exact (Classical.em _).symm | grind)) <;> simp only [RS, LS, SY, ne_eq, isFl, floatV, constA, thenQ, blockQ, pack, intA, boolA, eqA, unA, nilcA, asI, asB, asS, loadA, idxA, lenA, slcA, AV.flat, AV.one, zA1, storeA, toD, srcOf, copyA, ↓reduceIte, reduceCtorEq, List.replicate, Nat.reduceBEq, Nat.reduceAdd, Nat.reduceMul, Nat.reduceSub, Nat.reduceLeDiff, Nat.reduceLT, Int.reduceToNat, Nat.reduceEqDiff, Int.reduceEq, h]) | (refine AW.condP rfl (fun h => ?_) (fun h => ?_) <;> try simp only [Bool.and_eq_true, decide_eq_true_eq, Bool.not_eq_true', decide_eq_false_iff_not, Bool.not_eq_false', Bool.not_eq_true, Bool.not_eq_false] at h) | refine And.intro (by omega) ?_ | fail)
end Go.Proofs.YtnbfcknhohdeeaaDoor.H
