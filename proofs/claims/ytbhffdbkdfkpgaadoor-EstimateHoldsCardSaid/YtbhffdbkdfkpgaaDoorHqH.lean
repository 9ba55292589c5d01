/- EstimateHolds. -/
import Derived.Test.YtbhffdbkdfkpgaaDoorHqN
import Derived.Test.YtbhffdbkdfkpgaaDoorHqL
set_option linter.unusedSimpArgs false
set_option linter.unusedVariables false
namespace Go.Proofs.YtbhffdbkdfkpgaaDoor.H
def HL (sp : Int) (l : List Rf) : Prop := ∀ i, i < l.length → (l.getD i rf0).c = i ∧ (l.getD i rf0).s = sp ∧ (l.getD i rf0).fz = 0 ∧ 1 ≤ (l.getD i rf0).st ∧ (l.getD i rf0).st ≤ 5
theorem getD_snoc {α : Type} {l : List α} {x d : α} {i : Nat} (h : i < (l ++ [x]).length) : (i < l.length ∧ (l ++ [x]).getD i d = l.getD i d) ∨ (i = l.length ∧ (l ++ [x]).getD i d = x) := by
  rw [List.length_append, List.length_singleton] at h
  by_cases hi : i < l.length
  · exact .inl ⟨hi, by simp [List.getD, List.getElem?_append, hi]⟩
  · have : i = l.length := by omega
    subst this
    exact .inr ⟨rfl, by simp [List.getD]⟩
theorem HL.snoc {sp : Int} {l : List Rf} {st : Int} (h : HL sp l) (h1 : 1 ≤ st) (h2 : st ≤ 5) : HL sp (l ++ [⟨l.length, sp, st, 0⟩]) := by
  intro i hi
  rcases getD_snoc (d := rf0) hi with ⟨a, b⟩ | ⟨a, b⟩
  · rw [b]; exact h i a
  · rw [b, a]; exact ⟨rfl, rfl, rfl, h1, h2⟩
theorem HL.rf {sp : Int} {l : List Rf} {off : Nat → Int} (h : HL sp l) (h8 : l.length ≤ 8) (hs : 0 ≤ sp ∧ sp ≤ 40) (ho : ∀ i, 0 ≤ off i ∧ off i ≤ 100000) : RfA l sp off := by
  refine ⟨h8, fun i hi => ?_, fun i hi => (h i hi).1, ho⟩
  obtain ⟨a, b, c, d, e⟩ := h i hi
  refine ⟨?_, b, c⟩
  rw [vaR_iff]; omega
theorem HL.cfg {sp : Int} {l : List Rf} (h : HL sp l) (h8 : l.length ≤ 8) (hs : 0 ≤ sp ∧ sp ≤ 40) : CfgOK l := by
  refine ⟨h8, fun r hr => ?_⟩
  obtain ⟨i, hi, rfl⟩ := List.getElem_of_mem hr
  have := ((h.rf (off := fun _ => 0) h8 hs (by simp)).ro i hi).1
  simpa [List.getD, hi] using this
structure GSi (l : List Rf) (off : Nat → Int) (k x y : Int) (i : Nat) (fs : List Sg) : Prop where
  g : GSA l off k x y fs
  lt : ∀ s ∈ fs, s.src < i
  len : fs.length ≤ i
theorem GSi.nil {l : List Rf} {off : Nat → Int} {k x y : Int} : GSi l off k x y 0 [] := ⟨⟨by simp, .nil, by simp⟩, by simp, by simp⟩
theorem GSi.up {l : List Rf} {off : Nat → Int} {k x y : Int} {i : Nat} {fs : List Sg} (h : GSi l off k x y i fs) : GSi l off k x y (i + 1) fs := ⟨h.g, fun s hs => by have := h.lt s hs; omega, by have := h.len; omega⟩
theorem GSi.snoc {l : List Rf} {off : Nat → Int} {k x y : Int} {i : Nat} {fs : List Sg} {a b c : Int} (h : GSi l off k x y i fs) (hi : i < l.length) (hg : GS k (x + off i) y ⟨1, i, k, a, b, c⟩) : GSi l off k x y (i + 1) (fs ++ [⟨1, i, k, a, b, c⟩]) := by
  refine ⟨⟨fun s hs => ?_, ?_, fun s hs => ?_⟩, fun s hs => ?_, by have := h.len; simp; omega⟩
  · rcases List.mem_append.1 hs with hs | hs
    · exact h.g.is s hs
    · simp only [List.mem_singleton] at hs; subst hs
      simp [isS, hi]
  · rw [List.pairwise_append]
    refine ⟨h.g.pw, by simp, fun s hs z hz => ?_⟩
    simp only [List.mem_singleton] at hz; subst hz
    have := h.lt s hs
    simp only; omega
  · rcases List.mem_append.1 hs with hs | hs
    · exact h.g.gs s hs
    · simp only [List.mem_singleton] at hs; subst hs
      exact hg
  · rcases List.mem_append.1 hs with hs | hs
    · have := h.lt s hs; omega
    · simp only [List.mem_singleton] at hs; subst hs
      simp only; omega
theorem TrA.start {l : List Rf} {sp : Int} {off : Nat → Int} : TrA l sp off (List.replicate l.length tk0) 0 0 0 := by
  refine ⟨by simp, fun i hi => .inl ?_⟩
  have : (List.replicate l.length tk0).getD i tk0 = tk0 := by simp [List.getD, hi]
  rw [this]; exact ⟨rfl, rfl⟩
theorem EsI.start : EsI es0 0 0 0 := ⟨by decide, rfl, rfl, fun h => absurd rfl h⟩
abbrev hoT (l : List Rf) (sp : Int) (n : Nat) (k : Nat) (x y : Int) (ts : List Tk) : Tm := [(3, .ptr 0 0 0), (4, AI .i64 sp), (5, AI .i64 n), (6, LR l), (8, LT ts), (9, .ptr 1 0 0), (11, AI .i64 x), (12, AI .i64 y), (13, AI .i64 ((k : Int) + 1))]
abbrev hoS (L : List Int) (p : Nat) (e : Es) : St := [SrcS SRC L p, some (.cells 33 5 [[AI .i64 e.x, AI .i64 e.y, AI .i64 e.b, AI .i64 e.t, AI .i64 e.s]])]
structure HoJ (L : List Int) (l : List Rf) (sp : Int) (k p : Nat) (x y : Int) (ts : List Tk) (e : Es) : Prop where
  hk : k ≤ 14
  hp : p ≤ L.length
  tr : TrA l sp (fun _ => 0) ts k x y
  es : EsI e k x y
  hx : -(40 * (k : Int)) ≤ x ∧ x ≤ 40 * (k : Int)
  hy : -(40 * (k : Int)) ≤ y ∧ y ≤ 40 * (k : Int)
set_option maxHeartbeats 8000000 in
set_option maxRecDepth 8000 in
set_option maxHeartbeats 8000000 in
set_option maxRecDepth 8000 in
theorem hold_walk (t : List Int) : ACalls Tryd.prog 4 [LI t] [] fun v _ => v = AB true := by
  refine ACalls.of fn4 (by simp) ?_
  unfold c4
  have hL : (t.take 600).length ≤ 600 := by rw [List.length_take]; omega
  generalize hS : t.take 600 = L at hL
  repeat' (first | refine AW.seq' ?_ | with_reducible refine AW.blockS rfl ?_ | ((first | refine AW.ops ?_ | refine AW.draw ?_ | refine AW.skip ?_ | refine AW.ret ?_ | refine AW.exit ?_ |  (refine new_call t ?_; simp only [hS]) |  (refine SFn.call (pick_ok hL [0, 5, 40] (by simp) (by simp)) rfl rfl (by omega) (fun v p hp hv hb => ?_); obtain ⟨sp, hsp, rfl⟩ := hv) |  (refine SFn.call (range_ok hL 1 3 (by omega) (by omega) (by omega)) rfl rfl (by assumption) (fun v p hp hv hb => ?_); obtain ⟨n, n0, n1, rfl⟩ := hv)) <;> simp only [RS, LS, SY, ne_eq, isFl, floatV, constA, thenQ, blockQ, pack, intA, boolA, eqA, unA, nilcA, asI, asB, asS, loadA, idxA, lenA, slcA, AV.flat, AV.one, zA1, storeA, toD, srcOf, copyA, ↓reduceIte, reduceCtorEq, List.replicate, Nat.reduceBEq, Nat.reduceAdd, Nat.reduceMul, Nat.reduceSub, Nat.reduceLeDiff, Nat.reduceLT, Int.reduceToNat, Nat.reduceEqDiff, Int.reduceEq, hS]) | refine AW.condT rfl ?_ | refine AW.condF rfl ?_ | ((first | (refine GI.of (fun h => ?_) (fun h => ?_) ?emm; case emm => first | exact Classical.em _ | exact (Classical.em _).symm | grind) | (refine GD.of (fun h => ?_) (fun h => ?_) ?emm; case emm => first | exact Classical.em _ | exact (Classical.em _).symm | grind)) <;> simp only [RS, LS, SY, ne_eq, isFl, floatV, constA, thenQ, blockQ, pack, intA, boolA, eqA, unA, nilcA, asI, asB, asS, loadA, idxA, lenA, slcA, AV.flat, AV.one, zA1, storeA, toD, srcOf, copyA, ↓reduceIte, reduceCtorEq, List.replicate, Nat.reduceBEq, Nat.reduceAdd, Nat.reduceMul, Nat.reduceSub, Nat.reduceLeDiff, Nat.reduceLT, Int.reduceToNat, Nat.reduceEqDiff, Int.reduceEq, hS, h]) | (refine AW.condP rfl (fun h => ?_) (fun h => ?_) <;> try simp only [Bool.and_eq_true, decide_eq_true_eq, Bool.not_eq_true', decide_eq_false_iff_not, Bool.not_eq_false', Bool.not_eq_true, Bool.not_eq_false] at h) | refine And.intro (by omega) ?_ | fail)
  have hs40 : 0 ≤ sp ∧ sp ≤ 40 := by simp only [List.mem_cons, List.not_mem_nil, or_false] at hsp; omega
  clear hsp
  obtain ⟨n, rfl⟩ := Int.eq_ofNat_of_zero_le (a := n) (by omega)
  refine AW.cut2 (M := fun T s => ∃ rl p l, (p ≤ L.length ∧ l.length = n ∧ HL sp l) ∧ Nrm rl 0 T s [(3, .ptr 0 0 0), (4, AI .i64 sp), (5, AI .i64 n), (6, gVg 1 l)] [SrcS SRC L p, gBg 26 4 rfR l]) ?_ (fun T s ⟨rl, p, l, ⟨hp, hln, hl⟩, hN⟩ => AW.nrm rl hN ?_)
  · refine AW.block ?_
    refine AW.loopA (α := Nat × Nat × List Rf) (fun a => n + 1 - a.1) (fun a => [(3, .ptr 0 0 0), (4, AI .i64 sp), (5, AI .i64 n), (7, AI .i64 a.1), (6, gVg 1 a.2.2)]) (fun a => [SrcS SRC L a.2.1, gBg 26 4 rfR a.2.2]) (fun a => a.1 ≤ n ∧ a.2.1 ≤ L.length ∧ a.2.2.length = a.1 ∧ HL sp a.2.2) (0, _, []) ⟨by simp, by assumption, by simp, fun i hi => by simp at hi⟩ [0, 1] ⟨rfl, by decide, rfl, by simp [NT, belA, belL, tget, renA, renL, nmL, gVg], ⟨⟨rfl, rfl⟩, trivial⟩⟩ ?_
    rintro ⟨i, p, l⟩ ⟨hi, hp, hln, hl⟩
    simp only at hi hp hln hl ⊢
    unfold c4_0
    by_cases hlt : i < n
    · have h1 : (i : Int) < (n : Int) := by omega
      have hinc : IntKind.i64.wrap ((i : Int) + 1) = ((i + 1 : Nat) : Int) := by rw [wrap_id (by omega) (by omega)]; omega
      have hsn : ∀ z : Int, 1 ≤ z → z ≤ 5 → HL sp (l ++ [⟨i, sp, z, 0⟩]) := fun z z0 z1 => by have := hl.snoc z0 z1; rwa [hln] at this
      cases l with
      | nil =>
        rw [gVg_nil, gBg_nil]
        repeat' (first | refine AW.seq' ?_ | with_reducible refine AW.blockS rfl ?_ | ((first | refine AW.ops ?_ | refine AW.draw ?_ | refine AW.skip ?_ | refine AW.ret ?_ | refine AW.exit ?_ |  (refine SFn.call (range_ok hL 1 5 (by omega) (by omega) (by omega)) rfl rfl (by assumption) (fun v p hp hv hb => ?_); obtain ⟨z, z0, z1, rfl⟩ := hv)) <;> simp only [RS, LS, SY, ne_eq, isFl, floatV, constA, thenQ, blockQ, pack, intA, boolA, eqA, unA, nilcA, asI, asB, asS, loadA, idxA, lenA, slcA, AV.flat, AV.one, zA1, storeA, toD, srcOf, copyA, ↓reduceIte, reduceCtorEq, List.replicate, Nat.reduceBEq, Nat.reduceAdd, Nat.reduceMul, Nat.reduceSub, Nat.reduceLeDiff, Nat.reduceLT, Int.reduceToNat, Nat.reduceEqDiff, Int.reduceEq, h1, hinc]) | refine AW.condT rfl ?_ | refine AW.condF rfl ?_ | ((first | (refine GI.of (fun h => ?_) (fun h => ?_) ?emm; case emm => first | exact Classical.em _ | exact (Classical.em _).symm | grind) | (refine GD.of (fun h => ?_) (fun h => ?_) ?emm; case emm => first | exact Classical.em _ | exact (Classical.em _).symm | grind)) <;> simp only [RS, LS, SY, ne_eq, isFl, floatV, constA, thenQ, blockQ, pack, intA, boolA, eqA, unA, nilcA, asI, asB, asS, loadA, idxA, lenA, slcA, AV.flat, AV.one, zA1, storeA, toD, srcOf, copyA, ↓reduceIte, reduceCtorEq, List.replicate, Nat.reduceBEq, Nat.reduceAdd, Nat.reduceMul, Nat.reduceSub, Nat.reduceLeDiff, Nat.reduceLT, Int.reduceToNat, Nat.reduceEqDiff, Int.reduceEq, h1, hinc, h]) | (refine AW.condP rfl (fun h => ?_) (fun h => ?_) <;> try simp only [Bool.and_eq_true, decide_eq_true_eq, Bool.not_eq_true', decide_eq_false_iff_not, Bool.not_eq_false', Bool.not_eq_true, Bool.not_eq_false] at h) | refine And.intro (by omega) ?_ | fail)
        exact ⟨(i + 1, _, [⟨i, sp, z, 0⟩]), [0, 2], ⟨by simp only; omega, by assumption, by simp only [List.length_nil] at hln; simp; omega, hsn z z0 z1⟩, by simp only; omega, rfl, by decide, rfl, by simp [NT, belA, belL, tget, renA, renL, nmL, renA_gVg, belA_gVg, gVg_cons], ⟨⟨rfl, rfl⟩, ⟨⟨rfl, rfl⟩, trivial⟩⟩⟩
      | cons q l =>
        have htk : List.take l.length (List.map rfR l) = List.map rfR l := List.take_of_length_le (by simp)
        have hll : l.length + 1 ≤ 3 := by simp only [List.length_cons] at hln; omega
        rw [gVg_cons, gBg_cons]
        repeat' (first | refine AW.seq' ?_ | with_reducible refine AW.blockS rfl ?_ | ((first | refine AW.ops ?_ | refine AW.draw ?_ | refine AW.skip ?_ | refine AW.ret ?_ | refine AW.exit ?_ |  (refine SFn.call (range_ok hL 1 5 (by omega) (by omega) (by omega)) rfl rfl (by assumption) (fun v p hp hv hb => ?_); obtain ⟨z, z0, z1, rfl⟩ := hv)) <;> simp (disch := omega) only [RS, LS, SY, ne_eq, isFl, floatV, constA, thenQ, blockQ, pack, intA, boolA, eqA, unA, nilcA, asI, asB, asS, loadA, idxA, lenA, slcA, AV.flat, AV.one, zA1, storeA, toD, srcOf, copyA, ↓reduceIte, reduceCtorEq, List.replicate, Nat.reduceBEq, Nat.reduceAdd, Nat.reduceMul, Nat.reduceSub, Nat.reduceLeDiff, Nat.reduceLT, Int.reduceToNat, Nat.reduceEqDiff, Int.reduceEq, wrap_id, h1, hinc, htk]) | refine AW.condT rfl ?_ | refine AW.condF rfl ?_ | ((first | (refine GI.of (fun h => ?_) (fun h => ?_) ?emm; case emm => first | exact Classical.em _ | exact (Classical.em _).symm | grind) | (refine GD.of (fun h => ?_) (fun h => ?_) ?emm; case emm => first | exact Classical.em _ | exact (Classical.em _).symm | grind)) <;> simp (disch := omega) only [RS, LS, SY, ne_eq, isFl, floatV, constA, thenQ, blockQ, pack, intA, boolA, eqA, unA, nilcA, asI, asB, asS, loadA, idxA, lenA, slcA, AV.flat, AV.one, zA1, storeA, toD, srcOf, copyA, ↓reduceIte, reduceCtorEq, List.replicate, Nat.reduceBEq, Nat.reduceAdd, Nat.reduceMul, Nat.reduceSub, Nat.reduceLeDiff, Nat.reduceLT, Int.reduceToNat, Nat.reduceEqDiff, Int.reduceEq, wrap_id, h1, hinc, htk, h]) | (refine AW.condP rfl (fun h => ?_) (fun h => ?_) <;> try simp only [Bool.and_eq_true, decide_eq_true_eq, Bool.not_eq_true', decide_eq_false_iff_not, Bool.not_eq_false', Bool.not_eq_true, Bool.not_eq_false] at h) | refine And.intro (by omega) ?_ | fail)
        have e : rowsA (rfs (q :: (l ++ [⟨i, sp, z, 0⟩]))) = (rfR q).map .d :: (rowsA (List.map rfR l) ++ [[AV.d (dI i), AV.d (dI sp), AV.d (dI z), AV.d (dI 0)]]) := by simp [rowsA]
        exact ⟨(i + 1, _, q :: (l ++ [⟨i, sp, z, 0⟩])), [0, 2], ⟨by simp only; omega, by assumption, by simp only [List.length_cons, List.length_append, List.length_nil] at hln ⊢; omega, (show HL sp (q :: (l ++ [⟨i, sp, z, 0⟩])) from hsn z z0 z1)⟩, by simp only; omega, rfl, by decide, rfl, by simp [NT, belA, belL, tget, renA, renL, nmL, renA_gVg, belA_gVg, gVg_cons], ⟨⟨rfl, rfl⟩, ⟨⟨belB_rowsA _ _ _ (rfs (q :: (l ++ [⟨i, sp, z, 0⟩]))), by rw [renB_rowsA, e]; rfl⟩, trivial⟩⟩⟩
    · have h1 : ¬ (i : Int) < (n : Int) := by omega
      repeat' (first | refine AW.seq' ?_ | with_reducible refine AW.blockS rfl ?_ | ((first | refine AW.ops ?_ | refine AW.draw ?_ | refine AW.skip ?_ | refine AW.ret ?_ | refine AW.exit ?_) <;> simp only [RS, LS, SY, ne_eq, isFl, floatV, constA, thenQ, blockQ, pack, intA, boolA, eqA, unA, nilcA, asI, asB, asS, loadA, idxA, lenA, slcA, AV.flat, AV.one, zA1, storeA, toD, srcOf, copyA, ↓reduceIte, reduceCtorEq, List.replicate, Nat.reduceBEq, Nat.reduceAdd, Nat.reduceMul, Nat.reduceSub, Nat.reduceLeDiff, Nat.reduceLT, Int.reduceToNat, Nat.reduceEqDiff, Int.reduceEq, h1]) | refine AW.condT rfl ?_ | refine AW.condF rfl ?_ | ((first | (refine GI.of (fun h => ?_) (fun h => ?_) ?emm; case emm => first | exact Classical.em _ | exact (Classical.em _).symm | grind) | (refine GD.of (fun h => ?_) (fun h => ?_) ?emm; case emm => first | exact Classical.em _ | exact (Classical.em _).symm | grind)) <;> simp only [RS, LS, SY, ne_eq, isFl, floatV, constA, thenQ, blockQ, pack, intA, boolA, eqA, unA, nilcA, asI, asB, asS, loadA, idxA, lenA, slcA, AV.flat, AV.one, zA1, storeA, toD, srcOf, copyA, ↓reduceIte, reduceCtorEq, List.replicate, Nat.reduceBEq, Nat.reduceAdd, Nat.reduceMul, Nat.reduceSub, Nat.reduceLeDiff, Nat.reduceLT, Int.reduceToNat, Nat.reduceEqDiff, Int.reduceEq, h1, h]) | (refine AW.condP rfl (fun h => ?_) (fun h => ?_) <;> try simp only [Bool.and_eq_true, decide_eq_true_eq, Bool.not_eq_true', decide_eq_false_iff_not, Bool.not_eq_false', Bool.not_eq_true, Bool.not_eq_false] at h) | refine And.intro (by omega) ?_ | fail)
      exact ⟨[0, 1], p, l, ⟨hp, by omega, hl⟩, rfl, by decide, rfl, by simp [NT, belA, belL, tget, renA, renL, nmL, renA_gVg, belA_gVg], ⟨⟨rfl, rfl⟩, NS.g rfl trivial⟩⟩
  · have hl8 : l.length ≤ 8 := by omega
    refine AW.frzX (id := 1) (mem := l) (t := 26) (k := 4) (f := rfR) rfl [(3, .ptr 0 0 0), (4, AI .i64 sp), (5, AI .i64 n), (6, LR l)] [SrcS SRC L p, none] ⟨.inl ⟨rfl, .ptr⟩, .inl ⟨rfl, .d⟩, .inl ⟨rfl, .d⟩, .inr ⟨rfl, rfl⟩, trivial⟩ rfl ?_ ?_
    · intro i b hi hb
      match i, hi, hb with
      | 0, _, hb => simp at hb; subst hb; exact fun _ _ => ⟨rfl, by simp [fitB, fitL, fitA]⟩
      | 1, hi, _ => exact absurd rfl hi
      | i + 2, _, hb => simp at hb
    have hrf := hl.rf (off := fun _ => 0) hl8 hs40 (by simp)
    have q1 := enew_ok (hl.cfg hl8 hs40)
    have hn3 : l.length ≤ 3 := by omega
    subst hln
    repeat' (first | refine AW.seq' ?_ | with_reducible refine AW.blockS rfl ?_ | ((first | refine AW.ops ?_ | refine AW.draw ?_ | refine AW.skip ?_ | refine AW.ret ?_ | refine AW.exit ?_ | refine Fn.call (q1) rfl rfl ?_) <;> simp only [RS, LS, SY, ne_eq, isFl, floatV, constA, thenQ, blockQ, pack, intA, boolA, eqA, unA, nilcA, asI, asB, asS, loadA, idxA, lenA, slcA, AV.flat, AV.one, zA1, storeA, toD, srcOf, copyA, ↓reduceIte, reduceCtorEq, List.replicate, Nat.reduceBEq, Nat.reduceAdd, Nat.reduceMul, Nat.reduceSub, Nat.reduceLeDiff, Nat.reduceLT, Int.reduceToNat, Nat.reduceEqDiff, Int.reduceEq]) | refine AW.condT rfl ?_ | refine AW.condF rfl ?_ | ((first | (refine GI.of (fun h => ?_) (fun h => ?_) ?emm; case emm => first | exact Classical.em _ | exact (Classical.em _).symm | grind) | (refine GD.of (fun h => ?_) (fun h => ?_) ?emm; case emm => first | exact Classical.em _ | exact (Classical.em _).symm | grind)) <;> simp only [RS, LS, SY, ne_eq, isFl, floatV, constA, thenQ, blockQ, pack, intA, boolA, eqA, unA, nilcA, asI, asB, asS, loadA, idxA, lenA, slcA, AV.flat, AV.one, zA1, storeA, toD, srcOf, copyA, ↓reduceIte, reduceCtorEq, List.replicate, Nat.reduceBEq, Nat.reduceAdd, Nat.reduceMul, Nat.reduceSub, Nat.reduceLeDiff, Nat.reduceLT, Int.reduceToNat, Nat.reduceEqDiff, Int.reduceEq, h]) | (refine AW.condP rfl (fun h => ?_) (fun h => ?_) <;> try simp only [Bool.and_eq_true, decide_eq_true_eq, Bool.not_eq_true', decide_eq_false_iff_not, Bool.not_eq_false', Bool.not_eq_true, Bool.not_eq_false] at h) | refine And.intro (by omega) ?_ | fail)
    refine AW.cut2 (M := fun T s => ∃ rl, Nrm rl 0 T s [] []) ?_ (fun T s ⟨rl, hN⟩ => AW.nrm rl hN ?_)
    · refine AW.block ?_
      refine AW.loopA (α := Nat × Nat × Int × Int × List Tk × Es) (fun a => 14 - a.1) (fun a => hoT l sp l.length a.1 a.2.2.1 a.2.2.2.1 a.2.2.2.2.1) (fun a => hoS L a.2.1 a.2.2.2.2.2) (fun a => HoJ L l sp a.1 a.2.1 a.2.2.1 a.2.2.2.1 a.2.2.2.2.1 a.2.2.2.2.2) (0, p, 0, 0, List.replicate l.length tk0, es0) ⟨by simp, hp, TrA.start, EsI.start, by simp, by simp⟩ [0, 2] ⟨rfl, by decide, rfl, by simp [NT, belA, belL, tget, renA, renL, nmL], ⟨⟨rfl, rfl⟩, ⟨⟨rfl, rfl⟩, trivial⟩⟩⟩ ?_
      rintro ⟨k, p, x, y, ts, e⟩ ⟨hk, hp, htr, hes, hx, hy⟩
      simp only at hk hp htr hes hx hy ⊢
      unfold c4_2
      by_cases hlt : k < 14
      · have h1 : (k : Int) + 1 < 15 := by omega
        have hinc : IntKind.i64.wrap ((k : Int) + 1 + 1) = ((k + 1 : Nat) : Int) + 1 := by rw [wrap_id (by omega) (by omega)]; omega
        repeat' (first | refine AW.seq' ?_ | with_reducible refine AW.blockS rfl ?_ | ((first | refine AW.ops ?_ | refine AW.draw ?_ | refine AW.skip ?_ | refine AW.ret ?_ | refine AW.exit ?_ |  (refine SFn.call (range_ok hL (0 - sp) sp (by omega) (by omega) (by omega)) rfl rfl (by assumption) (fun v p hp hv hb => ?_); obtain ⟨d, d0, d1, rfl⟩ := hv)) <;> simp (disch := omega) only [RS, LS, SY, ne_eq, isFl, floatV, constA, thenQ, blockQ, pack, intA, boolA, eqA, unA, nilcA, asI, asB, asS, loadA, idxA, lenA, slcA, AV.flat, AV.one, zA1, storeA, toD, srcOf, copyA, ↓reduceIte, reduceCtorEq, List.replicate, Nat.reduceBEq, Nat.reduceAdd, Nat.reduceMul, Nat.reduceSub, Nat.reduceLeDiff, Nat.reduceLT, Int.reduceToNat, Nat.reduceEqDiff, Int.reduceEq, wrap_id, h1]) | refine AW.condT rfl ?_ | refine AW.condF rfl ?_ | ((first | (refine GI.of (fun h => ?_) (fun h => ?_) ?emm; case emm => first | exact Classical.em _ | exact (Classical.em _).symm | grind) | (refine GD.of (fun h => ?_) (fun h => ?_) ?emm; case emm => first | exact Classical.em _ | exact (Classical.em _).symm | grind)) <;> simp (disch := omega) only [RS, LS, SY, ne_eq, isFl, floatV, constA, thenQ, blockQ, pack, intA, boolA, eqA, unA, nilcA, asI, asB, asS, loadA, idxA, lenA, slcA, AV.flat, AV.one, zA1, storeA, toD, srcOf, copyA, ↓reduceIte, reduceCtorEq, List.replicate, Nat.reduceBEq, Nat.reduceAdd, Nat.reduceMul, Nat.reduceSub, Nat.reduceLeDiff, Nat.reduceLT, Int.reduceToNat, Nat.reduceEqDiff, Int.reduceEq, wrap_id, h1, h]) | (refine AW.condP rfl (fun h => ?_) (fun h => ?_) <;> try simp only [Bool.and_eq_true, decide_eq_true_eq, Bool.not_eq_true', decide_eq_false_iff_not, Bool.not_eq_false', Bool.not_eq_true, Bool.not_eq_false] at h) | refine And.intro (by omega) ?_ | fail)
        rename_i dx dx0 dx1 _
        obtain ⟨x', hx'⟩ : ∃ z, z = x + dx := ⟨x + dx, rfl⟩
        obtain ⟨y', hy'⟩ : ∃ z, z = y + d := ⟨_, rfl⟩
        rw [← hx', ← hy']
        have hmv : Mv sp x y x' y' := by unfold Mv; omega
        have hbd : Bd0 sp ((k : Int) + 1) x' y' := ⟨hs40, by omega, by omega, by omega⟩
        have hx2 : -(40 * ((k + 1 : Nat) : Int)) ≤ x' ∧ x' ≤ 40 * ((k + 1 : Nat) : Int) := by omega
        have hy2 : -(40 * ((k + 1 : Nat) : Int)) ≤ y' ∧ y' ≤ 40 * ((k + 1 : Nat) : Int) := by omega
        refine AW.cut2 (M := fun T s => ∃ rl p fs, (p ≤ L.length ∧ GSi l (fun _ => 0) ((k : Int) + 1) x' y' l.length fs) ∧ Nrm rl 0 T s ((14, gVg 2 fs) :: hoT l sp l.length k x' y' ts) (hoS L p e ++ [gBg 45 6 sgR fs])) ?_ (fun T s ⟨rl, p, fs, ⟨hp, hfs⟩, hN⟩ => AW.nrm rl hN ?_)
        · refine AW.block ?_
          refine AW.loopA (α := Nat × Nat × List Sg) (fun a => l.length + 1 - a.1) (fun a => (15, AI .i64 a.1) :: (14, gVg 2 a.2.2) :: hoT l sp l.length k x' y' ts) (fun a => hoS L a.2.1 e ++ [gBg 45 6 sgR a.2.2]) (fun a => a.1 ≤ l.length ∧ a.2.1 ≤ L.length ∧ GSi l (fun _ => 0) ((k : Int) + 1) x' y' a.1 a.2.2) (0, _, []) ⟨by simp, by assumption, GSi.nil⟩ [0, 1, 2] ⟨rfl, by decide, rfl, by simp [NT, belA, belL, tget, renA, renL, nmL, gVg], ⟨⟨rfl, rfl⟩, ⟨⟨rfl, rfl⟩, trivial⟩⟩⟩ ?_
          rintro ⟨i, p, fs⟩ ⟨hi, hp, hfs⟩
          simp only at hi hp hfs ⊢
          unfold c4_1
          by_cases hil : i < l.length
          · have h2 : (i : Int) < (l.length : Int) := by omega
            have hinc2 : IntKind.i64.wrap ((i : Int) + 1) = ((i + 1 : Nat) : Int) := by rw [wrap_id (by omega) (by omega)]; omega
            cases fs with
            | nil =>
              rw [gVg_nil, gBg_nil]
              repeat' (first | refine AW.seq' ?_ | with_reducible refine AW.blockS rfl ?_ | ((first | refine AW.ops ?_ | refine AW.draw ?_ | refine AW.skip ?_ | refine AW.ret ?_ | refine AW.exit ?_ |  (refine SFn.call (n_ok hL 4 (by omega)) rfl rfl (by assumption) (fun v p hp hv hb => ?_); obtain ⟨z, z0, z1, rfl⟩ := hv) |  (refine SFn.call (pick_ok hL [1, 10, 100] (by simp) (by simp)) rfl rfl (by assumption) (fun v p hp hv hb => ?_); obtain ⟨c, hcm, rfl⟩ := hv; have hc : 1 ≤ c ∧ c ≤ 100 := by simp only [List.mem_cons, List.not_mem_nil, or_false] at hcm; omega) |  (refine SFn.call (range_ok hL (0 - c) c (by omega) (by omega) (by omega)) rfl rfl (by assumption) (fun v p hp hv hb => ?_); obtain ⟨r, r0, r1, rfl⟩ := hv)) <;> simp (disch := omega) only [RS, LS, SY, ne_eq, isFl, floatV, constA, thenQ, blockQ, pack, intA, boolA, eqA, unA, nilcA, asI, asB, asS, loadA, idxA, lenA, slcA, AV.flat, AV.one, zA1, storeA, toD, srcOf, copyA, ↓reduceIte, reduceCtorEq, List.replicate, Nat.reduceBEq, Nat.reduceAdd, Nat.reduceMul, Nat.reduceSub, Nat.reduceLeDiff, Nat.reduceLT, Int.reduceToNat, Nat.reduceEqDiff, Int.reduceEq, wrap_id, h2, hinc2]) | refine AW.condT rfl ?_ | refine AW.condF rfl ?_ | ((first | (refine GI.of (fun h => ?_) (fun h => ?_) ?emm; case emm => first | exact Classical.em _ | exact (Classical.em _).symm | grind) | (refine GD.of (fun h => ?_) (fun h => ?_) ?emm; case emm => first | exact Classical.em _ | exact (Classical.em _).symm | grind)) <;> simp (disch := omega) only [RS, LS, SY, ne_eq, isFl, floatV, constA, thenQ, blockQ, pack, intA, boolA, eqA, unA, nilcA, asI, asB, asS, loadA, idxA, lenA, slcA, AV.flat, AV.one, zA1, storeA, toD, srcOf, copyA, ↓reduceIte, reduceCtorEq, List.replicate, Nat.reduceBEq, Nat.reduceAdd, Nat.reduceMul, Nat.reduceSub, Nat.reduceLeDiff, Nat.reduceLT, Int.reduceToNat, Nat.reduceEqDiff, Int.reduceEq, wrap_id, h2, hinc2, h]) | (refine AW.condP rfl (fun h => ?_) (fun h => ?_) <;> try simp only [Bool.and_eq_true, decide_eq_true_eq, Bool.not_eq_true', decide_eq_false_iff_not, Bool.not_eq_false', Bool.not_eq_true, Bool.not_eq_false] at h) | refine And.intro (by omega) ?_ | fail)
              · exact ⟨(i + 1, _, []), [0, 1, 2], ⟨by simp only; omega, by assumption, hfs.up⟩, by simp only; omega, rfl, by decide, rfl, by simp [NT, belA, belL, tget, renA, renL, nmL, renA_gVg, belA_gVg, gVg_nil], ⟨⟨rfl, rfl⟩, ⟨⟨rfl, rfl⟩, trivial⟩⟩⟩
              · rename_i a a0 a1 _
                exact ⟨(i + 1, _, [⟨1, i, (k : Int) + 1, x' + a, y' + r, c⟩]), [0, 1, 3], ⟨by simp only; omega, by assumption, hfs.snoc hil ⟨rfl, hc, by simp only; omega, by simp only; omega⟩⟩, by simp only; omega, rfl, by decide, rfl, by simp [NT, belA, belL, tget, renA, renL, nmL, renA_gVg, belA_gVg, gVg_cons], ⟨⟨rfl, rfl⟩, ⟨⟨rfl, rfl⟩, ⟨⟨rfl, rfl⟩, trivial⟩⟩⟩⟩
            | cons q fs =>
              have htk : List.take fs.length (List.map sgR fs) = List.map sgR fs := List.take_of_length_le (by simp)
              have hll : fs.length + 1 ≤ 3 := by have := hfs.len; simp only [List.length_cons] at this; omega
              rw [gVg_cons, gBg_cons]
              repeat' (first | refine AW.seq' ?_ | with_reducible refine AW.blockS rfl ?_ | ((first | refine AW.ops ?_ | refine AW.draw ?_ | refine AW.skip ?_ | refine AW.ret ?_ | refine AW.exit ?_ |  (refine SFn.call (n_ok hL 4 (by omega)) rfl rfl (by assumption) (fun v p hp hv hb => ?_); obtain ⟨z, z0, z1, rfl⟩ := hv) |  (refine SFn.call (pick_ok hL [1, 10, 100] (by simp) (by simp)) rfl rfl (by assumption) (fun v p hp hv hb => ?_); obtain ⟨c, hcm, rfl⟩ := hv; have hc : 1 ≤ c ∧ c ≤ 100 := by simp only [List.mem_cons, List.not_mem_nil, or_false] at hcm; omega) |  (refine SFn.call (range_ok hL (0 - c) c (by omega) (by omega) (by omega)) rfl rfl (by assumption) (fun v p hp hv hb => ?_); obtain ⟨r, r0, r1, rfl⟩ := hv)) <;> simp (disch := omega) only [RS, LS, SY, ne_eq, isFl, floatV, constA, thenQ, blockQ, pack, intA, boolA, eqA, unA, nilcA, asI, asB, asS, loadA, idxA, lenA, slcA, AV.flat, AV.one, zA1, storeA, toD, srcOf, copyA, ↓reduceIte, reduceCtorEq, List.replicate, Nat.reduceBEq, Nat.reduceAdd, Nat.reduceMul, Nat.reduceSub, Nat.reduceLeDiff, Nat.reduceLT, Int.reduceToNat, Nat.reduceEqDiff, Int.reduceEq, wrap_id, h2, hinc2, htk]) | refine AW.condT rfl ?_ | refine AW.condF rfl ?_ | ((first | (refine GI.of (fun h => ?_) (fun h => ?_) ?emm; case emm => first | exact Classical.em _ | exact (Classical.em _).symm | grind) | (refine GD.of (fun h => ?_) (fun h => ?_) ?emm; case emm => first | exact Classical.em _ | exact (Classical.em _).symm | grind)) <;> simp (disch := omega) only [RS, LS, SY, ne_eq, isFl, floatV, constA, thenQ, blockQ, pack, intA, boolA, eqA, unA, nilcA, asI, asB, asS, loadA, idxA, lenA, slcA, AV.flat, AV.one, zA1, storeA, toD, srcOf, copyA, ↓reduceIte, reduceCtorEq, List.replicate, Nat.reduceBEq, Nat.reduceAdd, Nat.reduceMul, Nat.reduceSub, Nat.reduceLeDiff, Nat.reduceLT, Int.reduceToNat, Nat.reduceEqDiff, Int.reduceEq, wrap_id, h2, hinc2, htk, h]) | (refine AW.condP rfl (fun h => ?_) (fun h => ?_) <;> try simp only [Bool.and_eq_true, decide_eq_true_eq, Bool.not_eq_true', decide_eq_false_iff_not, Bool.not_eq_false', Bool.not_eq_true, Bool.not_eq_false] at h) | refine And.intro (by omega) ?_ | fail)
              · exact ⟨(i + 1, _, q :: fs), [0, 1, 2], ⟨by simp only; omega, by assumption, hfs.up⟩, by simp only; omega, rfl, by decide, rfl, by simp [NT, belA, belL, tget, renA, renL, nmL, renA_gVg, belA_gVg, gVg_cons], ⟨⟨rfl, rfl⟩, ⟨⟨rfl, rfl⟩, ⟨⟨belB_rowsA .., by rw [renB_rowsA]; rfl⟩, trivial⟩⟩⟩⟩
              · rename_i a a0 a1 _
                have hsn := hfs.snoc hil (a := x' + a) (b := y' + r) (c := c) ⟨rfl, hc, by simp only; omega, by simp only; omega⟩
                have e1 : rowsA (sgs (q :: (fs ++ [⟨1, i, (k : Int) + 1, x' + a, y' + r, c⟩]))) = (sgR q).map .d :: (rowsA (List.map sgR fs) ++ [[AV.d (dI 1), AV.d (dI i), AV.d (dI ((k : Int) + 1)), AV.d (dI (x' + a)), AV.d (dI (y' + r)), AV.d (dI c)]]) := by simp [rowsA]
                exact ⟨(i + 1, _, q :: (fs ++ [⟨1, i, (k : Int) + 1, x' + a, y' + r, c⟩])), [0, 1, 3], ⟨by simp only; omega, by assumption, (show GSi l (fun _ => 0) ((k : Int) + 1) x' y' (i + 1) (q :: (fs ++ [⟨1, i, (k : Int) + 1, x' + a, y' + r, c⟩])) from hsn)⟩, by simp only; omega, rfl, by decide, rfl, by simp [NT, belA, belL, tget, renA, renL, nmL, renA_gVg, belA_gVg, gVg_cons], ⟨⟨rfl, rfl⟩, ⟨⟨rfl, rfl⟩, ⟨⟨belB_rowsA _ _ _ (sgs (q :: (fs ++ [⟨1, i, (k : Int) + 1, x' + a, y' + r, c⟩]))), by rw [renB_rowsA, e1]; rfl⟩, trivial⟩⟩⟩⟩
          · have h2 : ¬ (i : Int) < (l.length : Int) := by omega
            have hie : i = l.length := by omega
            subst hie
            repeat' (first | refine AW.seq' ?_ | with_reducible refine AW.blockS rfl ?_ | ((first | refine AW.ops ?_ | refine AW.draw ?_ | refine AW.skip ?_ | refine AW.ret ?_ | refine AW.exit ?_) <;> simp only [RS, LS, SY, ne_eq, isFl, floatV, constA, thenQ, blockQ, pack, intA, boolA, eqA, unA, nilcA, asI, asB, asS, loadA, idxA, lenA, slcA, AV.flat, AV.one, zA1, storeA, toD, srcOf, copyA, ↓reduceIte, reduceCtorEq, List.replicate, Nat.reduceBEq, Nat.reduceAdd, Nat.reduceMul, Nat.reduceSub, Nat.reduceLeDiff, Nat.reduceLT, Int.reduceToNat, Nat.reduceEqDiff, Int.reduceEq, h2]) | refine AW.condT rfl ?_ | refine AW.condF rfl ?_ | ((first | (refine GI.of (fun h => ?_) (fun h => ?_) ?emm; case emm => first | exact Classical.em _ | exact (Classical.em _).symm | grind) | (refine GD.of (fun h => ?_) (fun h => ?_) ?emm; case emm => first | exact Classical.em _ | exact (Classical.em _).symm | grind)) <;> simp only [RS, LS, SY, ne_eq, isFl, floatV, constA, thenQ, blockQ, pack, intA, boolA, eqA, unA, nilcA, asI, asB, asS, loadA, idxA, lenA, slcA, AV.flat, AV.one, zA1, storeA, toD, srcOf, copyA, ↓reduceIte, reduceCtorEq, List.replicate, Nat.reduceBEq, Nat.reduceAdd, Nat.reduceMul, Nat.reduceSub, Nat.reduceLeDiff, Nat.reduceLT, Int.reduceToNat, Nat.reduceEqDiff, Int.reduceEq, h2, h]) | (refine AW.condP rfl (fun h => ?_) (fun h => ?_) <;> try simp only [Bool.and_eq_true, decide_eq_true_eq, Bool.not_eq_true', decide_eq_false_iff_not, Bool.not_eq_false', Bool.not_eq_true, Bool.not_eq_false] at h) | refine And.intro (by omega) ?_ | fail)
            exact ⟨[0, 1, 2], p, fs, ⟨hp, hfs⟩, rfl, by decide, rfl, by simp [NT, belA, belL, tget, renA, renL, nmL, renA_gVg, belA_gVg], ⟨⟨rfl, rfl⟩, ⟨⟨rfl, rfl⟩, NS.g rfl trivial⟩⟩⟩
        · refine AW.frzX (id := 2) (mem := fs) (t := 45) (k := 6) (f := sgR) rfl ((14, LSg fs) :: hoT l sp l.length k x' y' ts) (hoS L p e ++ [none]) ⟨.inr ⟨rfl, rfl⟩, .inl ⟨rfl, .ptr⟩, .inl ⟨rfl, .d⟩, .inl ⟨rfl, .d⟩, .inl ⟨rfl, .d⟩, .inl ⟨rfl, .d⟩, .inl ⟨rfl, .ptr⟩, .inl ⟨rfl, .d⟩, .inl ⟨rfl, .d⟩, .inl ⟨rfl, .d⟩, trivial⟩ rfl ?_ ?_
          · intro i b hi hb
            match i, hi, hb with
            | 0, _, hb => simp at hb; subst hb; exact fun _ _ => ⟨rfl, by simp [fitB, fitL, fitA]⟩
            | 1, _, hb => simp at hb; subst hb; exact fun _ _ => ⟨rfl, by simp [fitB, fitL, fitA]⟩
            | 2, hi, _ => exact absurd rfl hi
            | i + 3, _, hb => simp at hb
          obtain ⟨hck, htr2, hes2, hst⟩ := hold_step hrf htr hes hmv hbd (by omega) hfs.g
          have q2 := estep_ok hck fs (by have := hfs.len; omega)
          generalize takeP l ts ((k : Int) + 1) fs = ts2 at htr2 hes2 hst q2
          generalize stepEs l sp ts2 e ((k : Int) + 1) = e2 at hes2 hst q2
          generalize stepVt l sp ts2 ((k : Int) + 1) = V at q2
          have q3 := holds_ok e2 x' y'
          have hJ : HoJ L l sp (k + 1) p x' y' ts2 e2 := ⟨by omega, hp, htr2, hes2, hx2, hy2⟩
          by_cases he2 : e2.s = 0
          · have he : e.s = 0 := Classical.byContradiction fun hx => hst hx he2
            clear hck hst
            obtain ⟨ex, ey, eb, et, es⟩ := e
            obtain ⟨fx, fy, fb, ft, fz⟩ := e2
            simp only at he he2
            subst he he2
            repeat' (first | refine AW.seq' ?_ | with_reducible refine AW.blockS rfl ?_ | ((first | refine AW.ops ?_ | refine AW.draw ?_ | refine AW.skip ?_ | refine AW.ret ?_ | refine AW.exit ?_ | refine Fn.call (q2) rfl rfl ?_ | refine Fn.call (q3) rfl rfl ?_) <;> simp only [RS, LS, SY, ne_eq, isFl, floatV, constA, thenQ, blockQ, pack, intA, boolA, eqA, unA, nilcA, asI, asB, asS, loadA, idxA, lenA, slcA, AV.flat, AV.one, zA1, storeA, toD, srcOf, copyA, ↓reduceIte, reduceCtorEq, List.replicate, Nat.reduceBEq, Nat.reduceAdd, Nat.reduceMul, Nat.reduceSub, Nat.reduceLeDiff, Nat.reduceLT, Int.reduceToNat, Nat.reduceEqDiff, Int.reduceEq, hinc]) | refine AW.condT rfl ?_ | refine AW.condF rfl ?_ | ((first | (refine GI.of (fun h => ?_) (fun h => ?_) ?emm; case emm => first | exact Classical.em _ | exact (Classical.em _).symm | grind) | (refine GD.of (fun h => ?_) (fun h => ?_) ?emm; case emm => first | exact Classical.em _ | exact (Classical.em _).symm | grind)) <;> simp only [RS, LS, SY, ne_eq, isFl, floatV, constA, thenQ, blockQ, pack, intA, boolA, eqA, unA, nilcA, asI, asB, asS, loadA, idxA, lenA, slcA, AV.flat, AV.one, zA1, storeA, toD, srcOf, copyA, ↓reduceIte, reduceCtorEq, List.replicate, Nat.reduceBEq, Nat.reduceAdd, Nat.reduceMul, Nat.reduceSub, Nat.reduceLeDiff, Nat.reduceLT, Int.reduceToNat, Nat.reduceEqDiff, Int.reduceEq, hinc, h]) | (refine AW.condP rfl (fun h => ?_) (fun h => ?_) <;> try simp only [Bool.and_eq_true, decide_eq_true_eq, Bool.not_eq_true', decide_eq_false_iff_not, Bool.not_eq_false', Bool.not_eq_true, Bool.not_eq_false] at h) | refine And.intro (by omega) ?_ | fail)
            exact ⟨(k + 1, p, x', y', ts2, ⟨fx, fy, fb, ft, 0⟩), [0, 1], hJ, by simp only; omega, rfl, by decide, rfl, by simp [NT, belA, belL, tget, renA, renL, nmL], ⟨⟨rfl, rfl⟩, ⟨⟨rfl, rfl⟩, trivial⟩⟩⟩
          · rw [hes2.h he2] at q3
            repeat' (first | refine AW.seq' ?_ | with_reducible refine AW.blockS rfl ?_ | ((first | refine AW.ops ?_ | refine AW.draw ?_ | refine AW.skip ?_ | refine AW.ret ?_ | refine AW.exit ?_ | refine Fn.call (q2) rfl rfl ?_ | refine Fn.call (q3) rfl rfl ?_) <;> simp only [RS, LS, SY, ne_eq, isFl, floatV, constA, thenQ, blockQ, pack, intA, boolA, eqA, unA, nilcA, asI, asB, asS, loadA, idxA, lenA, slcA, AV.flat, AV.one, zA1, storeA, toD, srcOf, copyA, ↓reduceIte, reduceCtorEq, List.replicate, Nat.reduceBEq, Nat.reduceAdd, Nat.reduceMul, Nat.reduceSub, Nat.reduceLeDiff, Nat.reduceLT, Int.reduceToNat, Nat.reduceEqDiff, Int.reduceEq, he2, hinc]) | refine AW.condT rfl ?_ | refine AW.condF rfl ?_ | ((first | (refine GI.of (fun h => ?_) (fun h => ?_) ?emm; case emm => first | exact Classical.em _ | exact (Classical.em _).symm | grind) | (refine GD.of (fun h => ?_) (fun h => ?_) ?emm; case emm => first | exact Classical.em _ | exact (Classical.em _).symm | grind)) <;> simp only [RS, LS, SY, ne_eq, isFl, floatV, constA, thenQ, blockQ, pack, intA, boolA, eqA, unA, nilcA, asI, asB, asS, loadA, idxA, lenA, slcA, AV.flat, AV.one, zA1, storeA, toD, srcOf, copyA, ↓reduceIte, reduceCtorEq, List.replicate, Nat.reduceBEq, Nat.reduceAdd, Nat.reduceMul, Nat.reduceSub, Nat.reduceLeDiff, Nat.reduceLT, Int.reduceToNat, Nat.reduceEqDiff, Int.reduceEq, he2, hinc, h]) | (refine AW.condP rfl (fun h => ?_) (fun h => ?_) <;> try simp only [Bool.and_eq_true, decide_eq_true_eq, Bool.not_eq_true', decide_eq_false_iff_not, Bool.not_eq_false', Bool.not_eq_true, Bool.not_eq_false] at h) | refine And.intro (by omega) ?_ | fail)
            all_goals exact ⟨(k + 1, p, x', y', ts2, e2), [0, 1], hJ, by simp only; omega, rfl, by decide, rfl, by simp [NT, belA, belL, tget, renA, renL, nmL], ⟨⟨rfl, rfl⟩, ⟨⟨rfl, rfl⟩, trivial⟩⟩⟩
      · have h1 : ¬ (k : Int) + 1 < 15 := by omega
        repeat' (first | refine AW.seq' ?_ | with_reducible refine AW.blockS rfl ?_ | ((first | refine AW.ops ?_ | refine AW.draw ?_ | refine AW.skip ?_ | refine AW.ret ?_ | refine AW.exit ?_) <;> simp only [RS, LS, SY, ne_eq, isFl, floatV, constA, thenQ, blockQ, pack, intA, boolA, eqA, unA, nilcA, asI, asB, asS, loadA, idxA, lenA, slcA, AV.flat, AV.one, zA1, storeA, toD, srcOf, copyA, ↓reduceIte, reduceCtorEq, List.replicate, Nat.reduceBEq, Nat.reduceAdd, Nat.reduceMul, Nat.reduceSub, Nat.reduceLeDiff, Nat.reduceLT, Int.reduceToNat, Nat.reduceEqDiff, Int.reduceEq, h1]) | refine AW.condT rfl ?_ | refine AW.condF rfl ?_ | ((first | (refine GI.of (fun h => ?_) (fun h => ?_) ?emm; case emm => first | exact Classical.em _ | exact (Classical.em _).symm | grind) | (refine GD.of (fun h => ?_) (fun h => ?_) ?emm; case emm => first | exact Classical.em _ | exact (Classical.em _).symm | grind)) <;> simp only [RS, LS, SY, ne_eq, isFl, floatV, constA, thenQ, blockQ, pack, intA, boolA, eqA, unA, nilcA, asI, asB, asS, loadA, idxA, lenA, slcA, AV.flat, AV.one, zA1, storeA, toD, srcOf, copyA, ↓reduceIte, reduceCtorEq, List.replicate, Nat.reduceBEq, Nat.reduceAdd, Nat.reduceMul, Nat.reduceSub, Nat.reduceLeDiff, Nat.reduceLT, Int.reduceToNat, Nat.reduceEqDiff, Int.reduceEq, h1, h]) | (refine AW.condP rfl (fun h => ?_) (fun h => ?_) <;> try simp only [Bool.and_eq_true, decide_eq_true_eq, Bool.not_eq_true', decide_eq_false_iff_not, Bool.not_eq_false', Bool.not_eq_true, Bool.not_eq_false] at h) | refine And.intro (by omega) ?_ | fail)
        exact ⟨[], rfl, by decide, rfl, trivial, trivial⟩
    · repeat' (first | refine AW.seq' ?_ | with_reducible refine AW.blockS rfl ?_ | ((first | refine AW.ops ?_ | refine AW.draw ?_ | refine AW.skip ?_ | refine AW.ret ?_ | refine AW.exit ?_ | refine Fn.call (sane_ok) rfl rfl ?_) <;> simp only [RS, LS, SY, ne_eq, isFl, floatV, constA, thenQ, blockQ, pack, intA, boolA, eqA, unA, nilcA, asI, asB, asS, loadA, idxA, lenA, slcA, AV.flat, AV.one, zA1, storeA, toD, srcOf, copyA, ↓reduceIte, reduceCtorEq, List.replicate, Nat.reduceBEq, Nat.reduceAdd, Nat.reduceMul, Nat.reduceSub, Nat.reduceLeDiff, Nat.reduceLT, Int.reduceToNat, Nat.reduceEqDiff, Int.reduceEq]) | refine AW.condT rfl ?_ | refine AW.condF rfl ?_ | ((first | (refine GI.of (fun h => ?_) (fun h => ?_) ?emm; case emm => first | exact Classical.em _ | exact (Classical.em _).symm | grind) | (refine GD.of (fun h => ?_) (fun h => ?_) ?emm; case emm => first | exact Classical.em _ | exact (Classical.em _).symm | grind)) <;> simp only [RS, LS, SY, ne_eq, isFl, floatV, constA, thenQ, blockQ, pack, intA, boolA, eqA, unA, nilcA, asI, asB, asS, loadA, idxA, lenA, slcA, AV.flat, AV.one, zA1, storeA, toD, srcOf, copyA, ↓reduceIte, reduceCtorEq, List.replicate, Nat.reduceBEq, Nat.reduceAdd, Nat.reduceMul, Nat.reduceSub, Nat.reduceLeDiff, Nat.reduceLT, Int.reduceToNat, Nat.reduceEqDiff, Int.reduceEq, h]) | (refine AW.condP rfl (fun h => ?_) (fun h => ?_) <;> try simp only [Bool.and_eq_true, decide_eq_true_eq, Bool.not_eq_true', decide_eq_false_iff_not, Bool.not_eq_false', Bool.not_eq_true, Bool.not_eq_false] at h) | refine And.intro (by omega) ?_ | fail)
end Go.Proofs.YtbhffdbkdfkpgaaDoor.H
