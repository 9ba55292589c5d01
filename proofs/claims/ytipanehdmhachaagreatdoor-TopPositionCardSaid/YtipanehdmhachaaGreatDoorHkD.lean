/- Weights, growth, the mean and its bound (chapter 9), over the fixes of chapter 8. -/
import Derived.Test.YtipanehdmhachaaGreatDoorHvB
import Derived.Test.YtipanehdmhachaaGreatDoorHmA
set_option linter.unusedSimpArgs false
set_option linter.unusedVariables false
set_option linter.unusedSectionVars false
namespace Go.Proofs.YtipanehdmhachaaGreatDoor.H
variable [DR]
def wtP (e : Int) : Int := if e < 1 ∨ 100000 < e then 0 else max 1 (Int.tdiv 1000000000 (e * e))
theorem sq_bound {e : Int} (h1 : 1 ≤ e) (h2 : e ≤ 100000) : 1 ≤ e * e ∧ e * e ≤ 10000000000 := by
  have := Int.mul_le_mul h1 h1 (by omega) (by omega)
  have := Int.mul_le_mul h2 h2 (by omega) (by omega)
  omega
theorem wt_bound (e : Int) : 0 ≤ wtP e ∧ wtP e ≤ 1000000000 ∧ (1 ≤ e → e ≤ 100000 → 1 ≤ wtP e) := by
  unfold wtP
  split
  · omega
  · rename_i h
    have := sq_bound (e := e) (by omega) (by omega)
    have := tdiv_bound (n := 1000000000) (d := e * e) (b := 1000000000) (by omega) (by omega)
    omega
theorem weight_ok (e : Int) : Fn Tryz.prog 39 [AI .i64 e] (AI .i64 (wtP e)) := by
  refine Fn.of fn39 (by simp) rfl ?_
  unfold c39
  repeat' (first | refine AW.seq' ?_ | with_reducible refine AW.blockS rfl ?_ | ((first | refine AW.ops ?_ | refine AW.draw ?_ | refine AW.skip ?_ | refine AW.ret ?_ | refine AW.exit ?_) <;> simp only [RS, LS, SY, ne_eq, isFl, floatV, constA, thenQ, blockQ, pack, intA, boolA, eqA, unA, nilcA, asI, asB, asS, loadA, idxA, lenA, slcA, AV.flat, AV.one, zA1, storeA, toD, srcOf, copyA, ↓reduceIte, reduceCtorEq, List.replicate, Nat.reduceBEq, Nat.reduceAdd, Nat.reduceMul, Nat.reduceSub, Nat.reduceLeDiff, Nat.reduceLT, Int.reduceToNat, Nat.reduceEqDiff, Int.reduceEq]) | refine AW.condT rfl ?_ | refine AW.condF rfl ?_ | ((first | (refine GI.of (fun h => ?_) (fun h => ?_) ?emm; case emm => first | exact Classical.em _ | exact (Classical.em _).symm | grind) | (refine GD.of (fun h => ?_) (fun h => ?_) ?emm; case emm => first | exact Classical.em _ | exact (Classical.em _).symm | grind)) <;> simp only [RS, LS, SY, ne_eq, isFl, floatV, constA, thenQ, blockQ, pack, intA, boolA, eqA, unA, nilcA, asI, asB, asS, loadA, idxA, lenA, slcA, AV.flat, AV.one, zA1, storeA, toD, srcOf, copyA, ↓reduceIte, reduceCtorEq, List.replicate, Nat.reduceBEq, Nat.reduceAdd, Nat.reduceMul, Nat.reduceSub, Nat.reduceLeDiff, Nat.reduceLT, Int.reduceToNat, Nat.reduceEqDiff, Int.reduceEq, h]) | (refine AW.condP rfl (fun h => ?_) (fun h => ?_) <;> try simp only [Bool.and_eq_true, decide_eq_true_eq, Bool.not_eq_true', decide_eq_false_iff_not, Bool.not_eq_false', Bool.not_eq_true, Bool.not_eq_false] at h) | refine And.intro (by omega) ?_ | fail)
  all_goals try rw [wtP, if_pos (by omega)]
  have := sq_bound (e := e) (by omega) (by omega)
  have hb := tdiv_bound (n := 1000000000) (d := e * e) (b := 1000000000) (by omega) (by omega)
  simp (disch := omega) only [wrap_id]
  rw [wtP, if_neg (by omega)]
  refine ⟨by omega, ?_⟩
  repeat' (first | refine AW.seq' ?_ | with_reducible refine AW.blockS rfl ?_ | ((first | refine AW.ops ?_ | refine AW.draw ?_ | refine AW.skip ?_ | refine AW.ret ?_ | refine AW.exit ?_) <;> simp (disch := omega) only [RS, LS, SY, ne_eq, isFl, floatV, constA, thenQ, blockQ, pack, intA, boolA, eqA, unA, nilcA, asI, asB, asS, loadA, idxA, lenA, slcA, AV.flat, AV.one, zA1, storeA, toD, srcOf, copyA, ↓reduceIte, reduceCtorEq, List.replicate, Nat.reduceBEq, Nat.reduceAdd, Nat.reduceMul, Nat.reduceSub, Nat.reduceLeDiff, Nat.reduceLT, Int.reduceToNat, Nat.reduceEqDiff, Int.reduceEq, wrap_id]) | refine AW.condT rfl ?_ | refine AW.condF rfl ?_ | ((first | (refine GI.of (fun h => ?_) (fun h => ?_) ?emm; case emm => first | exact Classical.em _ | exact (Classical.em _).symm | grind) | (refine GD.of (fun h => ?_) (fun h => ?_) ?emm; case emm => first | exact Classical.em _ | exact (Classical.em _).symm | grind)) <;> simp (disch := omega) only [RS, LS, SY, ne_eq, isFl, floatV, constA, thenQ, blockQ, pack, intA, boolA, eqA, unA, nilcA, asI, asB, asS, loadA, idxA, lenA, slcA, AV.flat, AV.one, zA1, storeA, toD, srcOf, copyA, ↓reduceIte, reduceCtorEq, List.replicate, Nat.reduceBEq, Nat.reduceAdd, Nat.reduceMul, Nat.reduceSub, Nat.reduceLeDiff, Nat.reduceLT, Int.reduceToNat, Nat.reduceEqDiff, Int.reduceEq, wrap_id, h]) | (refine AW.condP rfl (fun h => ?_) (fun h => ?_) <;> try simp only [Bool.and_eq_true, decide_eq_true_eq, Bool.not_eq_true', decide_eq_false_iff_not, Bool.not_eq_false', Bool.not_eq_true, Bool.not_eq_false] at h) | refine And.intro (by omega) ?_ | fail)
theorem place_ok (f : Fx) : Fn Tryz.prog 42 [AF f] (AP f.x f.y) := by
  refine Fn.of fn42 (by simp) rfl ?_
  unfold c42
  repeat' (first | refine AW.seq' ?_ | with_reducible refine AW.blockS rfl ?_ | ((first | refine AW.ops ?_ | refine AW.draw ?_ | refine AW.skip ?_ | refine AW.ret ?_ | refine AW.exit ?_) <;> simp only [RS, LS, SY, ne_eq, isFl, floatV, constA, thenQ, blockQ, pack, intA, boolA, eqA, unA, nilcA, asI, asB, asS, loadA, idxA, lenA, slcA, AV.flat, AV.one, zA1, storeA, toD, srcOf, copyA, ↓reduceIte, reduceCtorEq, List.replicate, Nat.reduceBEq, Nat.reduceAdd, Nat.reduceMul, Nat.reduceSub, Nat.reduceLeDiff, Nat.reduceLT, Int.reduceToNat, Nat.reduceEqDiff, Int.reduceEq]) | refine AW.condT rfl ?_ | refine AW.condF rfl ?_ | ((first | (refine GI.of (fun h => ?_) (fun h => ?_) ?emm; case emm => first | exact Classical.em _ | exact (Classical.em _).symm | grind) | (refine GD.of (fun h => ?_) (fun h => ?_) ?emm; case emm => first | exact Classical.em _ | exact (Classical.em _).symm | grind)) <;> simp only [RS, LS, SY, ne_eq, isFl, floatV, constA, thenQ, blockQ, pack, intA, boolA, eqA, unA, nilcA, asI, asB, asS, loadA, idxA, lenA, slcA, AV.flat, AV.one, zA1, storeA, toD, srcOf, copyA, ↓reduceIte, reduceCtorEq, List.replicate, Nat.reduceBEq, Nat.reduceAdd, Nat.reduceMul, Nat.reduceSub, Nat.reduceLeDiff, Nat.reduceLT, Int.reduceToNat, Nat.reduceEqDiff, Int.reduceEq, h]) | (refine AW.condP rfl (fun h => ?_) (fun h => ?_) <;> try simp only [Bool.and_eq_true, decide_eq_true_eq, Bool.not_eq_true', decide_eq_false_iff_not, Bool.not_eq_false', Bool.not_eq_true, Bool.not_eq_false] at h) | refine And.intro (by omega) ?_ | fail)
def okF (f : Fx) : Bool := okP f.x f.y && !decide (wtP f.e = 0)
def chkF (l : List Fx) : Int := if l.length = 0 then 9 else if 8 < l.length then 2 else if l.all okF then 0 else 1
theorem fcheck_ok (l : List Fx) (hl : l.length ≤ 1000000) : Fn Tryz.prog 38 [.d (.lst 4 (fxs l))] (AI .i64 (chkF l)) := by
  refine Fn.of fn38 (by simp) rfl ?_
  unfold c38
  repeat' (first | refine AW.seq' ?_ | with_reducible refine AW.blockS rfl ?_ | ((first | refine AW.ops ?_ | refine AW.draw ?_ | refine AW.skip ?_ | refine AW.ret ?_ | refine AW.exit ?_) <;> simp only [RS, LS, SY, ne_eq, isFl, floatV, constA, thenQ, blockQ, pack, intA, boolA, eqA, unA, nilcA, asI, asB, asS, loadA, idxA, lenA, slcA, AV.flat, AV.one, zA1, storeA, toD, srcOf, copyA, ↓reduceIte, reduceCtorEq, List.replicate, Nat.reduceBEq, Nat.reduceAdd, Nat.reduceMul, Nat.reduceSub, Nat.reduceLeDiff, Nat.reduceLT, Int.reduceToNat, Nat.reduceEqDiff, Int.reduceEq]) | refine AW.condT rfl ?_ | refine AW.condF rfl ?_ | ((first | (refine GI.of (fun h => ?_) (fun h => ?_) ?emm; case emm => first | exact Classical.em _ | exact (Classical.em _).symm | grind) | (refine GD.of (fun h => ?_) (fun h => ?_) ?emm; case emm => first | exact Classical.em _ | exact (Classical.em _).symm | grind)) <;> simp only [RS, LS, SY, ne_eq, isFl, floatV, constA, thenQ, blockQ, pack, intA, boolA, eqA, unA, nilcA, asI, asB, asS, loadA, idxA, lenA, slcA, AV.flat, AV.one, zA1, storeA, toD, srcOf, copyA, ↓reduceIte, reduceCtorEq, List.replicate, Nat.reduceBEq, Nat.reduceAdd, Nat.reduceMul, Nat.reduceSub, Nat.reduceLeDiff, Nat.reduceLT, Int.reduceToNat, Nat.reduceEqDiff, Int.reduceEq, h]) | (refine AW.condP rfl (fun h => ?_) (fun h => ?_) <;> try simp only [Bool.and_eq_true, decide_eq_true_eq, Bool.not_eq_true', decide_eq_false_iff_not, Bool.not_eq_false', Bool.not_eq_true, Bool.not_eq_false] at h) | refine And.intro (by omega) ?_ | fail)
  · rw [chkF, if_pos (by omega)]
  · rw [chkF, if_neg (by omega), if_pos (by omega)]
  refine AW.range (α := Unit) l.length (by omega) (by decide) (fun _ _ => [(13, .d (.lst 4 (fxs l)))]) (fun _ _ => []) (fun i _ => (l.take i).all okF = true) () (by simp) [] ⟨rfl, by decide, rfl, by simp [NT, belA, tget, renA], trivial⟩ (by simp) ?_ ?_
  · intro i _ hi hJ
    unfold c38_0
    repeat' (first | refine AW.seq' ?_ | with_reducible refine AW.blockS rfl ?_ | ((first | refine AW.ops ?_ | refine AW.draw ?_ | refine AW.skip ?_ | refine AW.ret ?_ | refine AW.exit ?_ | refine Fn.call (valid1_ok _ _) rfl rfl ?_ | refine Fn.call (place_ok l[i]) rfl rfl ?_ | refine Fn.call (weight_ok _) rfl rfl ?_) <;> simp only [RS, LS, SY, ne_eq, isFl, floatV, constA, thenQ, blockQ, pack, intA, boolA, eqA, unA, nilcA, asI, asB, asS, loadA, idxA, lenA, slcA, AV.flat, AV.one, zA1, storeA, toD, srcOf, copyA, ↓reduceIte, reduceCtorEq, List.replicate, Nat.reduceBEq, Nat.reduceAdd, Nat.reduceMul, Nat.reduceSub, Nat.reduceLeDiff, Nat.reduceLT, Int.reduceToNat, Nat.reduceEqDiff, Int.reduceEq, getD_map_lt hi]) | refine AW.condT rfl ?_ | refine AW.condF rfl ?_ | ((first | (refine GI.of (fun h => ?_) (fun h => ?_) ?emm; case emm => first | exact Classical.em _ | exact (Classical.em _).symm | grind) | (refine GD.of (fun h => ?_) (fun h => ?_) ?emm; case emm => first | exact Classical.em _ | exact (Classical.em _).symm | grind)) <;> simp only [RS, LS, SY, ne_eq, isFl, floatV, constA, thenQ, blockQ, pack, intA, boolA, eqA, unA, nilcA, asI, asB, asS, loadA, idxA, lenA, slcA, AV.flat, AV.one, zA1, storeA, toD, srcOf, copyA, ↓reduceIte, reduceCtorEq, List.replicate, Nat.reduceBEq, Nat.reduceAdd, Nat.reduceMul, Nat.reduceSub, Nat.reduceLeDiff, Nat.reduceLT, Int.reduceToNat, Nat.reduceEqDiff, Int.reduceEq, getD_map_lt hi, h]) | (refine AW.condP rfl (fun h => ?_) (fun h => ?_) <;> try simp only [Bool.and_eq_true, decide_eq_true_eq, Bool.not_eq_true', decide_eq_false_iff_not, Bool.not_eq_false', Bool.not_eq_true, Bool.not_eq_false] at h) | refine And.intro (by omega) ?_ | fail)
    · rw [chkF, if_neg (by omega), if_neg (by omega), if_neg (by rw [all_of_not hi (by simp [okF, *])]; decide)]
    · refine ⟨(), [], by rw [all_take_succ hi, hJ]; simp [okF, *], rfl, by decide, rfl, by simp [NT, belA, tget, renA], trivial⟩
    · rw [chkF, if_neg (by omega), if_neg (by omega), if_neg (by rw [all_of_not hi (by simp [okF, *])]; decide)]
  · intro _ hJ
    rw [List.take_length] at hJ
    simp only [RS, LS, SY, ne_eq, isFl, floatV, constA, thenQ, blockQ, pack, intA, boolA, eqA, unA, nilcA, asI, asB, asS, loadA, idxA, lenA, slcA, AV.flat, AV.one, zA1, storeA, toD, srcOf, copyA, ↓reduceIte, reduceCtorEq, List.replicate, Nat.reduceBEq, Nat.reduceAdd, Nat.reduceMul, Nat.reduceSub, Nat.reduceLeDiff, Nat.reduceLT, Int.reduceToNat, Nat.reduceEqDiff, Int.reduceEq]
    repeat' (first | refine AW.seq' ?_ | with_reducible refine AW.blockS rfl ?_ | ((first | refine AW.ops ?_ | refine AW.draw ?_ | refine AW.skip ?_ | refine AW.ret ?_ | refine AW.exit ?_) <;> simp only [RS, LS, SY, ne_eq, isFl, floatV, constA, thenQ, blockQ, pack, intA, boolA, eqA, unA, nilcA, asI, asB, asS, loadA, idxA, lenA, slcA, AV.flat, AV.one, zA1, storeA, toD, srcOf, copyA, ↓reduceIte, reduceCtorEq, List.replicate, Nat.reduceBEq, Nat.reduceAdd, Nat.reduceMul, Nat.reduceSub, Nat.reduceLeDiff, Nat.reduceLT, Int.reduceToNat, Nat.reduceEqDiff, Int.reduceEq]) | refine AW.condT rfl ?_ | refine AW.condF rfl ?_ | ((first | (refine GI.of (fun h => ?_) (fun h => ?_) ?emm; case emm => first | exact Classical.em _ | exact (Classical.em _).symm | grind) | (refine GD.of (fun h => ?_) (fun h => ?_) ?emm; case emm => first | exact Classical.em _ | exact (Classical.em _).symm | grind)) <;> simp only [RS, LS, SY, ne_eq, isFl, floatV, constA, thenQ, blockQ, pack, intA, boolA, eqA, unA, nilcA, asI, asB, asS, loadA, idxA, lenA, slcA, AV.flat, AV.one, zA1, storeA, toD, srcOf, copyA, ↓reduceIte, reduceCtorEq, List.replicate, Nat.reduceBEq, Nat.reduceAdd, Nat.reduceMul, Nat.reduceSub, Nat.reduceLeDiff, Nat.reduceLT, Int.reduceToNat, Nat.reduceEqDiff, Int.reduceEq, h]) | (refine AW.condP rfl (fun h => ?_) (fun h => ?_) <;> try simp only [Bool.and_eq_true, decide_eq_true_eq, Bool.not_eq_true', decide_eq_false_iff_not, Bool.not_eq_false', Bool.not_eq_true, Bool.not_eq_false] at h) | refine And.intro (by omega) ?_ | fail)
    rw [chkF, if_neg (by omega), if_neg (by omega), if_pos hJ]
def growP (a b c : Int) : Int × Int := if a < 0 ∨ 200000000 < a ∨ b < 0 ∨ 1000 < b ∨ c < 0 ∨ 2147483648 < c then (0, 1) else (min (a + b * c) 200000000, 0)
theorem grow_bound {b c : Int} (h1 : 0 ≤ b) (h2 : b ≤ 1000) (h3 : 0 ≤ c) (h4 : c ≤ 2147483648) : 0 ≤ b * c ∧ b * c ≤ 2147483648000 := by
  have := Int.mul_nonneg h1 h3
  have := Int.mul_le_mul h2 h4 h3 (by omega)
  omega
theorem grow_ok (a b c : Int) : Fn Tryz.prog 19 [AI .i64 a, AI .i64 b, AI .i64 c] (.tup [AI .i64 (growP a b c).1, AI .i64 (growP a b c).2]) := by
  refine Fn.of fn19 (by simp) rfl ?_
  unfold c19
  repeat' (first | refine AW.seq' ?_ | with_reducible refine AW.blockS rfl ?_ | ((first | refine AW.ops ?_ | refine AW.draw ?_ | refine AW.skip ?_ | refine AW.ret ?_ | refine AW.exit ?_) <;> simp only [RS, LS, SY, ne_eq, isFl, floatV, constA, thenQ, blockQ, pack, intA, boolA, eqA, unA, nilcA, asI, asB, asS, loadA, idxA, lenA, slcA, AV.flat, AV.one, zA1, storeA, toD, srcOf, copyA, ↓reduceIte, reduceCtorEq, List.replicate, Nat.reduceBEq, Nat.reduceAdd, Nat.reduceMul, Nat.reduceSub, Nat.reduceLeDiff, Nat.reduceLT, Int.reduceToNat, Nat.reduceEqDiff, Int.reduceEq]) | refine AW.condT rfl ?_ | refine AW.condF rfl ?_ | ((first | (refine GI.of (fun h => ?_) (fun h => ?_) ?emm; case emm => first | exact Classical.em _ | exact (Classical.em _).symm | grind) | (refine GD.of (fun h => ?_) (fun h => ?_) ?emm; case emm => first | exact Classical.em _ | exact (Classical.em _).symm | grind)) <;> simp only [RS, LS, SY, ne_eq, isFl, floatV, constA, thenQ, blockQ, pack, intA, boolA, eqA, unA, nilcA, asI, asB, asS, loadA, idxA, lenA, slcA, AV.flat, AV.one, zA1, storeA, toD, srcOf, copyA, ↓reduceIte, reduceCtorEq, List.replicate, Nat.reduceBEq, Nat.reduceAdd, Nat.reduceMul, Nat.reduceSub, Nat.reduceLeDiff, Nat.reduceLT, Int.reduceToNat, Nat.reduceEqDiff, Int.reduceEq, h]) | (refine AW.condP rfl (fun h => ?_) (fun h => ?_) <;> try simp only [Bool.and_eq_true, decide_eq_true_eq, Bool.not_eq_true', decide_eq_false_iff_not, Bool.not_eq_false', Bool.not_eq_true, Bool.not_eq_false] at h) | refine And.intro (by omega) ?_ | fail)
  all_goals try rw [growP, if_pos (by omega)]
  have := grow_bound (b := b) (c := c) (by omega) (by omega) (by omega) (by omega)
  simp (disch := omega) only [wrap_id]
  rw [growP, if_neg (by omega)]
theorem foldl_take_succ {α β : Type} {f : β → α → β} {b : β} {l : List α} {i : Nat} (h : i < l.length) : (l.take (i + 1)).foldl f b = f ((l.take i).foldl f b) l[i] := by
  rw [List.take_succ_eq_append_getElem h, List.foldl_append]; rfl
def mostP (l : List Fx) : Int := l.foldl (fun m f => max m (wtP f.e)) 0
def stepP (m : Int) (a : Int × Int × Int) (f : Fx) : Int × Int × Int := (a.1 + upP (1000 * wtP f.e) m * f.x, a.2.1 + upP (1000 * wtP f.e) m * f.y, a.2.2 + upP (1000 * wtP f.e) m)
def sumsP (l : List Fx) : Int × Int × Int := l.foldl (stepP (mostP l)) (0, 0, 0)
def farP (x y : Int) (b : Int) (f : Fx) : Int := max b (boxP x y f.x f.y + f.e)
def meanX (l : List Fx) : Int := halfP (sumsP l).1 (sumsP l).2.2
def meanY (l : List Fx) : Int := halfP (sumsP l).2.1 (sumsP l).2.2
def boundP (l : List Fx) : Int := l.foldl (farP (meanX l) (meanY l)) 0
theorem most_le {l : List Fx} {m : Int} : m ≤ l.foldl (fun m f => max m (wtP f.e)) m ∧ ∀ f ∈ l, wtP f.e ≤ l.foldl (fun m f => max m (wtP f.e)) m := by
  induction l generalizing m with
  | nil => simp
  | cons g l ih =>
    simp only [List.foldl_cons, List.mem_cons]
    have h := @ih (max m (wtP g.e))
    refine ⟨by omega, fun f hf => ?_⟩
    rcases hf with rfl | hf
    · omega
    · exact h.2 f hf
theorem most_bound (l : List Fx) : 0 ≤ mostP l ∧ mostP l ≤ 1000000000 := by
  have h : ∀ (l : List Fx) (m : Int), 0 ≤ m → m ≤ 1000000000 → 0 ≤ l.foldl (fun m f => max m (wtP f.e)) m ∧ l.foldl (fun m f => max m (wtP f.e)) m ≤ 1000000000 := by
    intro l
    induction l with
    | nil => intro m h1 h2; exact ⟨h1, h2⟩
    | cons f l ih => intro m h1 h2; have := wt_bound f.e; exact ih (max m (wtP f.e)) (by omega) (by omega)
  exact h l 0 (by omega) (by omega)
theorem okF_iff {f : Fx} (h : okF f = true) : (-100000000 ≤ f.x ∧ f.x ≤ 100000000) ∧ (-100000000 ≤ f.y ∧ f.y ≤ 100000000) ∧ (1 ≤ f.e ∧ f.e ≤ 100000) ∧ 1 ≤ wtP f.e ∧ wtP f.e ≤ 1000000000 := by
  simp only [okF, okP, Bool.and_eq_true, decide_eq_true_eq, Bool.not_eq_true', decide_eq_false_iff_not] at h
  have hb := wt_bound f.e
  have he : 1 ≤ f.e ∧ f.e ≤ 100000 := by
    refine Classical.byContradiction fun hn => h.2 ?_
    rw [wtP, if_pos (by omega)]
  omega
theorem up_bound {w m : Int} (h1 : 1 ≤ w) (h2 : w ≤ m) : 1 ≤ upP (1000 * w) m ∧ upP (1000 * w) m ≤ 1000 := by
  unfold upP
  have a1 : -(1000 * w) / m < 0 := Int.ediv_neg_of_neg_of_pos (by omega) (by omega)
  have a2 : -1000 ≤ -(1000 * w) / m := (Int.le_ediv_iff_mul_le (by omega)).2 (by omega)
  omega
theorem wx_bound {w x : Int} (h1 : 1 ≤ w ∧ w ≤ 1000) (h2 : -100000000 ≤ x ∧ x ≤ 100000000) : -100000000000 ≤ w * x ∧ w * x ≤ 100000000000 := by
  have g1 : w * x ≤ w * 100000000 := Int.mul_le_mul_of_nonneg_left h2.2 (by omega)
  have g2 : w * (-100000000) ≤ w * x := Int.mul_le_mul_of_nonneg_left h2.1 (by omega)
  omega
theorem box_bound (x y u v : Int) : 0 ≤ boxP x y u v ∧ boxP x y u v ≤ 200000000 := by
  unfold boxP
  split
  · rename_i h
    simp only [okP, Bool.and_eq_true, decide_eq_true_eq] at h
    omega
  · omega
structure SumJ (l : List Fx) (i : Nat) (a : Int × Int × Int) : Prop where
  eq : a = (l.take i).foldl (stepP (mostP l)) (0, 0, 0)
  x : -(100000000000 * i) ≤ a.1 ∧ a.1 ≤ 100000000000 * i
  y : -(100000000000 * i) ≤ a.2.1 ∧ a.2.1 ≤ 100000000000 * i
  n : i ≤ a.2.2 ∧ a.2.2 ≤ 1000 * i
theorem SumJ.step {l : List Fx} (h : ∀ f ∈ l, okF f = true) {i : Nat} (hi : i < l.length) {a : Int × Int × Int} (hJ : SumJ l i a) : SumJ l (i + 1) (stepP (mostP l) a l[i]) := by
  have ho := okF_iff (h _ (List.getElem_mem hi))
  have hle : wtP l[i].e ≤ mostP l := most_le.2 _ (List.getElem_mem hi)
  have hw := up_bound ho.2.2.2.1 hle
  have hx := wx_bound hw ho.1
  have hy := wx_bound hw ho.2.1
  obtain ⟨h1, h2, h3, h4⟩ := hJ
  refine ⟨by rw [foldl_take_succ hi, ← h1], ?_, ?_, ?_⟩ <;> simp only [stepP] <;> omega
structure FarJ (l : List Fx) (x y : Int) (i : Nat) (b : Int) : Prop where
  eq : b = (l.take i).foldl (farP x y) 0
  n : 0 ≤ b ∧ b ≤ 200100000
theorem FarJ.step {l : List Fx} (h : ∀ f ∈ l, okF f = true) {x y : Int} {i : Nat} (hi : i < l.length) {b : Int} (hJ : FarJ l x y i b) : FarJ l x y (i + 1) (farP x y b l[i]) := by
  have ho := okF_iff (h _ (List.getElem_mem hi))
  have hb := box_bound x y l[i].x l[i].y
  obtain ⟨h1, h2⟩ := hJ
  refine ⟨by rw [foldl_take_succ hi, ← h1], ?_⟩
  simp only [farP]; omega
/-- The mean, its bound, the error. -/
def fuseV (l : List Fx) : AV := if chkF l = 0 then .tup [AP (meanX l) (meanY l), AI .i64 (boundP l), AI .i64 0] else .tup [AP 0 0, AI .i64 0, AI .i64 (chkF l)]
theorem chk_zero {l : List Fx} (h : chkF l = 0) : 0 < l.length ∧ l.length ≤ 8 ∧ ∀ f ∈ l, okF f = true := by
  unfold chkF at h
  split at h
  · omega
  · split at h
    · omega
    · split at h
      · rename_i h3; exact ⟨by omega, by omega, by simpa using h3⟩
      · omega
set_option maxHeartbeats 2000000 in
theorem fuse_ok (l : List Fx) (hl : l.length ≤ 1000000) : Fn Tryz.prog 18 [.d (.lst 4 (fxs l))] (fuseV l) := by
  refine Fn.of fn18 (by simp) (by unfold fuseV; split <;> rfl) ?_
  unfold c18
  by_cases hc : chkF l = 0
  rotate_left
  · repeat' (first | refine AW.seq' ?_ | with_reducible refine AW.blockS rfl ?_ | ((first | refine AW.ops ?_ | refine AW.draw ?_ | refine AW.skip ?_ | refine AW.ret ?_ | refine AW.exit ?_ | refine Fn.call (fcheck_ok l hl) rfl rfl ?_) <;> simp only [RS, LS, SY, ne_eq, isFl, floatV, constA, thenQ, blockQ, pack, intA, boolA, eqA, unA, nilcA, asI, asB, asS, loadA, idxA, lenA, slcA, AV.flat, AV.one, zA1, storeA, toD, srcOf, copyA, ↓reduceIte, reduceCtorEq, List.replicate, Nat.reduceBEq, Nat.reduceAdd, Nat.reduceMul, Nat.reduceSub, Nat.reduceLeDiff, Nat.reduceLT, Int.reduceToNat, Nat.reduceEqDiff, Int.reduceEq, hc]) | refine AW.condT rfl ?_ | refine AW.condF rfl ?_ | ((first | (refine GI.of (fun h => ?_) (fun h => ?_) ?emm; case emm => first | exact Classical.em _ | exact (Classical.em _).symm | grind) | (refine GD.of (fun h => ?_) (fun h => ?_) ?emm; case emm => first | exact Classical.em _ | exact (Classical.em _).symm | grind)) <;> simp only [RS, LS, SY, ne_eq, isFl, floatV, constA, thenQ, blockQ, pack, intA, boolA, eqA, unA, nilcA, asI, asB, asS, loadA, idxA, lenA, slcA, AV.flat, AV.one, zA1, storeA, toD, srcOf, copyA, ↓reduceIte, reduceCtorEq, List.replicate, Nat.reduceBEq, Nat.reduceAdd, Nat.reduceMul, Nat.reduceSub, Nat.reduceLeDiff, Nat.reduceLT, Int.reduceToNat, Nat.reduceEqDiff, Int.reduceEq, hc, h]) | (refine AW.condP rfl (fun h => ?_) (fun h => ?_) <;> try simp only [Bool.and_eq_true, decide_eq_true_eq, Bool.not_eq_true', decide_eq_false_iff_not, Bool.not_eq_false', Bool.not_eq_true, Bool.not_eq_false] at h) | refine And.intro (by omega) ?_ | fail)
    rw [fuseV, if_neg hc]
  obtain ⟨h0, h8, hall⟩ := chk_zero hc
  rw [fuseV, if_pos hc]
  repeat' (first | refine AW.seq' ?_ | with_reducible refine AW.blockS rfl ?_ | ((first | refine AW.ops ?_ | refine AW.draw ?_ | refine AW.skip ?_ | refine AW.ret ?_ | refine AW.exit ?_ | refine Fn.call (fcheck_ok l hl) rfl rfl ?_) <;> simp only [RS, LS, SY, ne_eq, isFl, floatV, constA, thenQ, blockQ, pack, intA, boolA, eqA, unA, nilcA, asI, asB, asS, loadA, idxA, lenA, slcA, AV.flat, AV.one, zA1, storeA, toD, srcOf, copyA, ↓reduceIte, reduceCtorEq, List.replicate, Nat.reduceBEq, Nat.reduceAdd, Nat.reduceMul, Nat.reduceSub, Nat.reduceLeDiff, Nat.reduceLT, Int.reduceToNat, Nat.reduceEqDiff, Int.reduceEq, hc]) | refine AW.condT rfl ?_ | refine AW.condF rfl ?_ | ((first | (refine GI.of (fun h => ?_) (fun h => ?_) ?emm; case emm => first | exact Classical.em _ | exact (Classical.em _).symm | grind) | (refine GD.of (fun h => ?_) (fun h => ?_) ?emm; case emm => first | exact Classical.em _ | exact (Classical.em _).symm | grind)) <;> simp only [RS, LS, SY, ne_eq, isFl, floatV, constA, thenQ, blockQ, pack, intA, boolA, eqA, unA, nilcA, asI, asB, asS, loadA, idxA, lenA, slcA, AV.flat, AV.one, zA1, storeA, toD, srcOf, copyA, ↓reduceIte, reduceCtorEq, List.replicate, Nat.reduceBEq, Nat.reduceAdd, Nat.reduceMul, Nat.reduceSub, Nat.reduceLeDiff, Nat.reduceLT, Int.reduceToNat, Nat.reduceEqDiff, Int.reduceEq, hc, h]) | (refine AW.condP rfl (fun h => ?_) (fun h => ?_) <;> try simp only [Bool.and_eq_true, decide_eq_true_eq, Bool.not_eq_true', decide_eq_false_iff_not, Bool.not_eq_false', Bool.not_eq_true, Bool.not_eq_false] at h) | refine And.intro (by omega) ?_ | fail)
  refine AW.range (α := Int) l.length (by omega) (by decide) (fun _ m => [(6, AI .i64 m), (28, .d (.lst 4 (fxs l))), (0, .d (.lst 4 (fxs l))), (2, .ptr 0 0 0)]) (fun _ _ => [some (.cells 33 2 [[AI .i64 0, AI .i64 0]])]) (fun i m => m = (l.take i).foldl (fun m f => max m (wtP f.e)) 0) 0 (by simp) [0] ⟨rfl, by decide, rfl, by simp [NT, belA, tget, renA, nmL], ⟨⟨rfl, rfl⟩, trivial⟩⟩ (by simp) ?_ ?_
  · intro i m hi hJ
    unfold c18_0
    repeat' (first | refine AW.seq' ?_ | with_reducible refine AW.blockS rfl ?_ | ((first | refine AW.ops ?_ | refine AW.draw ?_ | refine AW.skip ?_ | refine AW.ret ?_ | refine AW.exit ?_ | refine Fn.call (weight_ok _) rfl rfl ?_) <;> simp only [RS, LS, SY, ne_eq, isFl, floatV, constA, thenQ, blockQ, pack, intA, boolA, eqA, unA, nilcA, asI, asB, asS, loadA, idxA, lenA, slcA, AV.flat, AV.one, zA1, storeA, toD, srcOf, copyA, ↓reduceIte, reduceCtorEq, List.replicate, Nat.reduceBEq, Nat.reduceAdd, Nat.reduceMul, Nat.reduceSub, Nat.reduceLeDiff, Nat.reduceLT, Int.reduceToNat, Nat.reduceEqDiff, Int.reduceEq, getD_map_lt hi]) | refine AW.condT rfl ?_ | refine AW.condF rfl ?_ | ((first | (refine GI.of (fun h => ?_) (fun h => ?_) ?emm; case emm => first | exact Classical.em _ | exact (Classical.em _).symm | grind) | (refine GD.of (fun h => ?_) (fun h => ?_) ?emm; case emm => first | exact Classical.em _ | exact (Classical.em _).symm | grind)) <;> simp only [RS, LS, SY, ne_eq, isFl, floatV, constA, thenQ, blockQ, pack, intA, boolA, eqA, unA, nilcA, asI, asB, asS, loadA, idxA, lenA, slcA, AV.flat, AV.one, zA1, storeA, toD, srcOf, copyA, ↓reduceIte, reduceCtorEq, List.replicate, Nat.reduceBEq, Nat.reduceAdd, Nat.reduceMul, Nat.reduceSub, Nat.reduceLeDiff, Nat.reduceLT, Int.reduceToNat, Nat.reduceEqDiff, Int.reduceEq, getD_map_lt hi, h]) | (refine AW.condP rfl (fun h => ?_) (fun h => ?_) <;> try simp only [Bool.and_eq_true, decide_eq_true_eq, Bool.not_eq_true', decide_eq_false_iff_not, Bool.not_eq_false', Bool.not_eq_true, Bool.not_eq_false] at h) | refine And.intro (by omega) ?_ | fail)
    refine ⟨max m (wtP l[i].e), [0], by rw [foldl_take_succ hi, ← hJ], rfl, by decide, rfl, by simp [NT, belA, tget, renA, nmL], ⟨⟨rfl, rfl⟩, trivial⟩⟩
  intro m hm
  rw [List.take_length] at hm
  have hm' : m = mostP l := hm
  clear hm
  subst hm'
  simp only [RS, LS, SY, ne_eq, isFl, floatV, constA, thenQ, blockQ, pack, intA, boolA, eqA, unA, nilcA, asI, asB, asS, loadA, idxA, lenA, slcA, AV.flat, AV.one, zA1, storeA, toD, srcOf, copyA, ↓reduceIte, reduceCtorEq, List.replicate, Nat.reduceBEq, Nat.reduceAdd, Nat.reduceMul, Nat.reduceSub, Nat.reduceLeDiff, Nat.reduceLT, Int.reduceToNat, Nat.reduceEqDiff, Int.reduceEq]
  repeat' (first | refine AW.seq' ?_ | with_reducible refine AW.blockS rfl ?_ | ((first | refine AW.ops ?_ | refine AW.draw ?_ | refine AW.skip ?_ | refine AW.ret ?_ | refine AW.exit ?_) <;> simp only [RS, LS, SY, ne_eq, isFl, floatV, constA, thenQ, blockQ, pack, intA, boolA, eqA, unA, nilcA, asI, asB, asS, loadA, idxA, lenA, slcA, AV.flat, AV.one, zA1, storeA, toD, srcOf, copyA, ↓reduceIte, reduceCtorEq, List.replicate, Nat.reduceBEq, Nat.reduceAdd, Nat.reduceMul, Nat.reduceSub, Nat.reduceLeDiff, Nat.reduceLT, Int.reduceToNat, Nat.reduceEqDiff, Int.reduceEq]) | refine AW.condT rfl ?_ | refine AW.condF rfl ?_ | ((first | (refine GI.of (fun h => ?_) (fun h => ?_) ?emm; case emm => first | exact Classical.em _ | exact (Classical.em _).symm | grind) | (refine GD.of (fun h => ?_) (fun h => ?_) ?emm; case emm => first | exact Classical.em _ | exact (Classical.em _).symm | grind)) <;> simp only [RS, LS, SY, ne_eq, isFl, floatV, constA, thenQ, blockQ, pack, intA, boolA, eqA, unA, nilcA, asI, asB, asS, loadA, idxA, lenA, slcA, AV.flat, AV.one, zA1, storeA, toD, srcOf, copyA, ↓reduceIte, reduceCtorEq, List.replicate, Nat.reduceBEq, Nat.reduceAdd, Nat.reduceMul, Nat.reduceSub, Nat.reduceLeDiff, Nat.reduceLT, Int.reduceToNat, Nat.reduceEqDiff, Int.reduceEq, h]) | (refine AW.condP rfl (fun h => ?_) (fun h => ?_) <;> try simp only [Bool.and_eq_true, decide_eq_true_eq, Bool.not_eq_true', decide_eq_false_iff_not, Bool.not_eq_false', Bool.not_eq_true, Bool.not_eq_false] at h) | refine And.intro (by omega) ?_ | fail)
  refine AW.range (α := Int × Int × Int) l.length (by omega) (by decide) (fun _ a => [(9, AI .i64 a.1), (10, AI .i64 a.2.1), (11, AI .i64 a.2.2), (6, AI .i64 (mostP l)), (40, .d (.lst 4 (fxs l))), (0, .d (.lst 4 (fxs l))), (2, .ptr 0 0 0)]) (fun _ _ => [some (.cells 33 2 [[AI .i64 0, AI .i64 0]])]) (SumJ l) (0, 0, 0) ⟨by simp, by simp, by simp, by simp⟩ [0] ⟨rfl, by decide, rfl, by simp [NT, belA, tget, renA, nmL], ⟨⟨rfl, rfl⟩, trivial⟩⟩ (by simp) ?_ ?_
  · intro i a hi hJ
    have hs := hJ.step hall hi
    have ho := okF_iff (hall _ (List.getElem_mem hi))
    have hle : wtP l[i].e ≤ mostP l := most_le.2 _ (List.getElem_mem hi)
    have hmb := most_bound l
    have hw := up_bound ho.2.2.2.1 hle
    have hx := wx_bound hw ho.1
    have hy := wx_bound hw ho.2.1
    obtain ⟨j1, j2, j3, j4⟩ := hJ
    unfold c18_1
    repeat' (first | refine AW.seq' ?_ | with_reducible refine AW.blockS rfl ?_ | ((first | refine AW.ops ?_ | refine AW.draw ?_ | refine AW.skip ?_ | refine AW.ret ?_ | refine AW.exit ?_ | refine Fn.call (weight_ok _) rfl rfl ?_ | refine Fn.call (up_ok _ _ (by omega) (by omega)) rfl rfl ?_) <;> simp (disch := omega) only [RS, LS, SY, ne_eq, isFl, floatV, constA, thenQ, blockQ, pack, intA, boolA, eqA, unA, nilcA, asI, asB, asS, loadA, idxA, lenA, slcA, AV.flat, AV.one, zA1, storeA, toD, srcOf, copyA, ↓reduceIte, reduceCtorEq, List.replicate, Nat.reduceBEq, Nat.reduceAdd, Nat.reduceMul, Nat.reduceSub, Nat.reduceLeDiff, Nat.reduceLT, Int.reduceToNat, Nat.reduceEqDiff, Int.reduceEq, wrap_id, getD_map_lt hi]) | refine AW.condT rfl ?_ | refine AW.condF rfl ?_ | ((first | (refine GI.of (fun h => ?_) (fun h => ?_) ?emm; case emm => first | exact Classical.em _ | exact (Classical.em _).symm | grind) | (refine GD.of (fun h => ?_) (fun h => ?_) ?emm; case emm => first | exact Classical.em _ | exact (Classical.em _).symm | grind)) <;> simp (disch := omega) only [RS, LS, SY, ne_eq, isFl, floatV, constA, thenQ, blockQ, pack, intA, boolA, eqA, unA, nilcA, asI, asB, asS, loadA, idxA, lenA, slcA, AV.flat, AV.one, zA1, storeA, toD, srcOf, copyA, ↓reduceIte, reduceCtorEq, List.replicate, Nat.reduceBEq, Nat.reduceAdd, Nat.reduceMul, Nat.reduceSub, Nat.reduceLeDiff, Nat.reduceLT, Int.reduceToNat, Nat.reduceEqDiff, Int.reduceEq, wrap_id, getD_map_lt hi, h]) | (refine AW.condP rfl (fun h => ?_) (fun h => ?_) <;> try simp only [Bool.and_eq_true, decide_eq_true_eq, Bool.not_eq_true', decide_eq_false_iff_not, Bool.not_eq_false', Bool.not_eq_true, Bool.not_eq_false] at h) | refine And.intro (by omega) ?_ | fail)
    exact ⟨stepP (mostP l) a l[i], [0], hs, rfl, by decide, rfl, by simp [NT, belA, tget, renA, nmL, stepP], ⟨⟨rfl, rfl⟩, trivial⟩⟩
  intro a hJ
  obtain ⟨j1, j2, j3, j4⟩ := hJ
  rw [List.take_length] at j1
  have j1' : a = sumsP l := j1
  clear j1
  subst j1'
  simp only [RS, LS, SY, ne_eq, isFl, floatV, constA, thenQ, blockQ, pack, intA, boolA, eqA, unA, nilcA, asI, asB, asS, loadA, idxA, lenA, slcA, AV.flat, AV.one, zA1, storeA, toD, srcOf, copyA, ↓reduceIte, reduceCtorEq, List.replicate, Nat.reduceBEq, Nat.reduceAdd, Nat.reduceMul, Nat.reduceSub, Nat.reduceLeDiff, Nat.reduceLT, Int.reduceToNat, Nat.reduceEqDiff, Int.reduceEq]
  repeat' (first | refine AW.seq' ?_ | with_reducible refine AW.blockS rfl ?_ | ((first | refine AW.ops ?_ | refine AW.draw ?_ | refine AW.skip ?_ | refine AW.ret ?_ | refine AW.exit ?_ | refine Fn.call (half_ok _ _ (by omega) (by omega)) rfl rfl ?_) <;> simp (disch := omega) only [RS, LS, SY, ne_eq, isFl, floatV, constA, thenQ, blockQ, pack, intA, boolA, eqA, unA, nilcA, asI, asB, asS, loadA, idxA, lenA, slcA, AV.flat, AV.one, zA1, storeA, toD, srcOf, copyA, ↓reduceIte, reduceCtorEq, List.replicate, Nat.reduceBEq, Nat.reduceAdd, Nat.reduceMul, Nat.reduceSub, Nat.reduceLeDiff, Nat.reduceLT, Int.reduceToNat, Nat.reduceEqDiff, Int.reduceEq, wrap_id]) | refine AW.condT rfl ?_ | refine AW.condF rfl ?_ | ((first | (refine GI.of (fun h => ?_) (fun h => ?_) ?emm; case emm => first | exact Classical.em _ | exact (Classical.em _).symm | grind) | (refine GD.of (fun h => ?_) (fun h => ?_) ?emm; case emm => first | exact Classical.em _ | exact (Classical.em _).symm | grind)) <;> simp (disch := omega) only [RS, LS, SY, ne_eq, isFl, floatV, constA, thenQ, blockQ, pack, intA, boolA, eqA, unA, nilcA, asI, asB, asS, loadA, idxA, lenA, slcA, AV.flat, AV.one, zA1, storeA, toD, srcOf, copyA, ↓reduceIte, reduceCtorEq, List.replicate, Nat.reduceBEq, Nat.reduceAdd, Nat.reduceMul, Nat.reduceSub, Nat.reduceLeDiff, Nat.reduceLT, Int.reduceToNat, Nat.reduceEqDiff, Int.reduceEq, wrap_id, h]) | (refine AW.condP rfl (fun h => ?_) (fun h => ?_) <;> try simp only [Bool.and_eq_true, decide_eq_true_eq, Bool.not_eq_true', decide_eq_false_iff_not, Bool.not_eq_false', Bool.not_eq_true, Bool.not_eq_false] at h) | refine And.intro (by omega) ?_ | fail)
  refine AW.range (α := Int) l.length (by omega) (by decide) (fun _ b => [(17, AI .i64 b), (85, .d (.lst 4 (fxs l))), (0, .d (.lst 4 (fxs l))), (2, .ptr 0 0 0), (16, .ptr 1 0 0)]) (fun _ _ => [some (.cells 33 2 [[AI .i64 0, AI .i64 0]]), some (.cells 33 2 [[AI .i64 (meanX l), AI .i64 (meanY l)]])]) (FarJ l (meanX l) (meanY l)) 0 ⟨by simp, by simp⟩ [0, 1] ⟨rfl, by decide, rfl, by simp [NT, belA, tget, renA, nmL], ⟨⟨rfl, rfl⟩, ⟨⟨rfl, rfl⟩, trivial⟩⟩⟩ (by simp) ?_ ?_
  · intro i b hi hJ
    have hs := hJ.step hall hi
    have ho := okF_iff (hall _ (List.getElem_mem hi))
    have hb := box_bound (meanX l) (meanY l) l[i].x l[i].y
    obtain ⟨j1, j5⟩ := hJ
    unfold c18_2
    repeat' (first | refine AW.seq' ?_ | with_reducible refine AW.blockS rfl ?_ | ((first | refine AW.ops ?_ | refine AW.draw ?_ | refine AW.skip ?_ | refine AW.ret ?_ | refine AW.exit ?_ | refine Fn.call (place_ok l[i]) rfl rfl ?_ | refine Fn.call (fbox_ok _ _ _ _) rfl rfl ?_) <;> simp (disch := omega) only [RS, LS, SY, ne_eq, isFl, floatV, constA, thenQ, blockQ, pack, intA, boolA, eqA, unA, nilcA, asI, asB, asS, loadA, idxA, lenA, slcA, AV.flat, AV.one, zA1, storeA, toD, srcOf, copyA, ↓reduceIte, reduceCtorEq, List.replicate, Nat.reduceBEq, Nat.reduceAdd, Nat.reduceMul, Nat.reduceSub, Nat.reduceLeDiff, Nat.reduceLT, Int.reduceToNat, Nat.reduceEqDiff, Int.reduceEq, wrap_id, getD_map_lt hi]) | refine AW.condT rfl ?_ | refine AW.condF rfl ?_ | ((first | (refine GI.of (fun h => ?_) (fun h => ?_) ?emm; case emm => first | exact Classical.em _ | exact (Classical.em _).symm | grind) | (refine GD.of (fun h => ?_) (fun h => ?_) ?emm; case emm => first | exact Classical.em _ | exact (Classical.em _).symm | grind)) <;> simp (disch := omega) only [RS, LS, SY, ne_eq, isFl, floatV, constA, thenQ, blockQ, pack, intA, boolA, eqA, unA, nilcA, asI, asB, asS, loadA, idxA, lenA, slcA, AV.flat, AV.one, zA1, storeA, toD, srcOf, copyA, ↓reduceIte, reduceCtorEq, List.replicate, Nat.reduceBEq, Nat.reduceAdd, Nat.reduceMul, Nat.reduceSub, Nat.reduceLeDiff, Nat.reduceLT, Int.reduceToNat, Nat.reduceEqDiff, Int.reduceEq, wrap_id, getD_map_lt hi, h]) | (refine AW.condP rfl (fun h => ?_) (fun h => ?_) <;> try simp only [Bool.and_eq_true, decide_eq_true_eq, Bool.not_eq_true', decide_eq_false_iff_not, Bool.not_eq_false', Bool.not_eq_true, Bool.not_eq_false] at h) | refine And.intro (by omega) ?_ | fail)
    exact ⟨farP (meanX l) (meanY l) b l[i], [0, 1], hs, rfl, by decide, rfl, by simp [NT, belA, tget, renA, nmL, farP], ⟨⟨rfl, rfl⟩, ⟨⟨rfl, rfl⟩, trivial⟩⟩⟩
  intro b hJ
  obtain ⟨j5, j6⟩ := hJ
  rw [List.take_length] at j5
  have j5' : b = boundP l := j5
  clear j5
  subst j5'
  simp only [RS, LS, SY, ne_eq, isFl, floatV, constA, thenQ, blockQ, pack, intA, boolA, eqA, unA, nilcA, asI, asB, asS, loadA, idxA, lenA, slcA, AV.flat, AV.one, zA1, storeA, toD, srcOf, copyA, ↓reduceIte, reduceCtorEq, List.replicate, Nat.reduceBEq, Nat.reduceAdd, Nat.reduceMul, Nat.reduceSub, Nat.reduceLeDiff, Nat.reduceLT, Int.reduceToNat, Nat.reduceEqDiff, Int.reduceEq]
  repeat' (first | refine AW.seq' ?_ | with_reducible refine AW.blockS rfl ?_ | ((first | refine AW.ops ?_ | refine AW.draw ?_ | refine AW.skip ?_ | refine AW.ret ?_ | refine AW.exit ?_) <;> simp only [RS, LS, SY, ne_eq, isFl, floatV, constA, thenQ, blockQ, pack, intA, boolA, eqA, unA, nilcA, asI, asB, asS, loadA, idxA, lenA, slcA, AV.flat, AV.one, zA1, storeA, toD, srcOf, copyA, ↓reduceIte, reduceCtorEq, List.replicate, Nat.reduceBEq, Nat.reduceAdd, Nat.reduceMul, Nat.reduceSub, Nat.reduceLeDiff, Nat.reduceLT, Int.reduceToNat, Nat.reduceEqDiff, Int.reduceEq]) | refine AW.condT rfl ?_ | refine AW.condF rfl ?_ | ((first | (refine GI.of (fun h => ?_) (fun h => ?_) ?emm; case emm => first | exact Classical.em _ | exact (Classical.em _).symm | grind) | (refine GD.of (fun h => ?_) (fun h => ?_) ?emm; case emm => first | exact Classical.em _ | exact (Classical.em _).symm | grind)) <;> simp only [RS, LS, SY, ne_eq, isFl, floatV, constA, thenQ, blockQ, pack, intA, boolA, eqA, unA, nilcA, asI, asB, asS, loadA, idxA, lenA, slcA, AV.flat, AV.one, zA1, storeA, toD, srcOf, copyA, ↓reduceIte, reduceCtorEq, List.replicate, Nat.reduceBEq, Nat.reduceAdd, Nat.reduceMul, Nat.reduceSub, Nat.reduceLeDiff, Nat.reduceLT, Int.reduceToNat, Nat.reduceEqDiff, Int.reduceEq, h]) | (refine AW.condP rfl (fun h => ?_) (fun h => ?_) <;> try simp only [Bool.and_eq_true, decide_eq_true_eq, Bool.not_eq_true', decide_eq_false_iff_not, Bool.not_eq_false', Bool.not_eq_true, Bool.not_eq_false] at h) | refine And.intro (by omega) ?_ | fail)
end Go.Proofs.YtipanehdmhachaaGreatDoor.H
