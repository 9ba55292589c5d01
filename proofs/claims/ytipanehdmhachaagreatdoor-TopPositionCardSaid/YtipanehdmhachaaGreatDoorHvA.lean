/- Chapter 8: the number of trailing zeros. -/
import Derived.Test.YtipanehdmhachaaGreatDoorHcC
set_option linter.unusedSimpArgs false
set_option linter.unusedVariables false
set_option linter.unusedSectionVars false
namespace Go.Proofs.YtipanehdmhachaaGreatDoor.H
variable [DR]
/-- The place in the table, as the code computes it. -/
def tzX (x : Nat) : Int := (IntKind.u64.wrap (IntKind.u64.wrap ↑(BitVec.ofInt IntKind.u64.bits ↑x &&& BitVec.ofInt IntKind.u64.bits (IntKind.u64.wrap (0 - ↑x))).toNat * 285870213051353865)).fdiv (2 ^ min 58 IntKind.u64.bits)
/-- The trailing zeros of a number from 1 to 255. -/
def tzF (x : Nat) : Nat := if x % 2 = 1 then 0 else if x % 4 = 2 then 1 else if x % 8 = 4 then 2 else if x % 16 = 8 then 3 else if x % 32 = 16 then 4 else if x % 64 = 32 then 5 else if x % 128 = 64 then 6 else 7
def tab64 : List (List D) := (tabR 1).getD []
def tzB (x : Nat) : Bool := decide (0 ≤ tzX x) && decide (tzX x < 64) && match tab64.getD (tzX x).toNat [] with
  | [D.v (.int .u8 z)] => decide (z = tzF x)
  | _ => false
theorem tz_all : (List.range 256).all (fun x => x == 0 || tzB x) = true := by kernel_rfl
theorem tz_get {x : Nat} (h0 : 0 < x) (h1 : x < 256) : (0 ≤ tzX x ∧ tzX x < ((64 : Nat) : Int)) ∧ tab64.getD (tzX x).toNat [] = [D.v (.int .u8 (tzF x))] := by
  have h := List.all_eq_true.1 tz_all x (List.mem_range.2 h1)
  have hx : (x == 0) = false := by simp; omega
  rw [hx, Bool.false_or] at h
  unfold tzB at h
  simp only [Bool.and_eq_true, decide_eq_true_eq] at h
  refine ⟨⟨h.1.1, by have := h.1.2; simpa using this⟩, ?_⟩
  have h2 := h.2
  split at h2
  · rename_i z e; rw [e]; simp only [decide_eq_true_eq] at h2; rw [h2]
  · cases h2
theorem tabR1 : tabR 1 = some tab64 := by kernel_rfl
theorem tz_ex {x : Nat} (h0 : 0 < x) (h1 : x < 256) : ∃ z : Int, (IntKind.u64.wrap (IntKind.u64.wrap ↑(BitVec.ofInt IntKind.u64.bits ↑x &&& BitVec.ofInt IntKind.u64.bits (IntKind.u64.wrap (0 - ↑x))).toNat * 285870213051353865)).fdiv (2 ^ min 58 IntKind.u64.bits) = z ∧ (0 ≤ z ∧ z < ((64 : Nat) : Int)) ∧ tab64.getD z.toNat [] = [D.v (.int .u8 (tzF x))] := ⟨tzX x, rfl, tz_get h0 h1⟩
theorem tzF_le (x : Nat) : tzF x ≤ 7 := by unfold tzF; (repeat' split) <;> omega
theorem tz64_ok (x : Nat) (h0 : 0 < x) (h1 : x < 256) : Fn Tryz.prog 107 [AI .u64 x] (AI .i64 (tzF x)) := by
  refine Fn.of fn107 (by simp) rfl ?_
  unfold c107
  have hx : ¬ (x : Int) = 0 := by omega
  have hl : tab64.length = 64 := by kernel_rfl
  obtain ⟨z, he, hb, hg⟩ := tz_ex h0 h1
  have h7 := tzF_le x
  have ht := tabR1
  generalize tzF x = f at *
  generalize tab64 = tb at *
  have hw : IntKind.i64.wrap (f : Int) = f := wrap_id (by omega) (by omega)
  repeat' (first | refine AW.seq' ?_ | with_reducible refine AW.blockS rfl ?_ | ((first | refine AW.ops ?_ | refine AW.draw ?_ | refine AW.skip ?_ | refine AW.ret ?_ | refine AW.exit ?_) <;> simp only [RS, LS, SY, ne_eq, isFl, floatV, constA, thenQ, blockQ, pack, intA, boolA, eqA, unA, nilcA, asI, asB, asS, loadA, idxA, lenA, slcA, AV.flat, AV.one, zA1, storeA, toD, srcOf, copyA, ↓reduceIte, reduceCtorEq, List.replicate, Nat.reduceBEq, Nat.reduceAdd, Nat.reduceMul, Nat.reduceSub, Nat.reduceLeDiff, Nat.reduceLT, Int.reduceToNat, Nat.reduceEqDiff, Int.reduceEq, hx, gadrA, ht, hl, he, hb, hg, hw]) | refine AW.condT rfl ?_ | refine AW.condF rfl ?_ | ((first | (refine GI.of (fun h => ?_) (fun h => ?_) ?emm; case emm => first | exact Classical.em _ | exact (Classical.em _).symm | grind) | (refine GD.of (fun h => ?_) (fun h => ?_) ?emm; case emm => first | exact Classical.em _ | exact (Classical.em _).symm | grind)) <;> simp only [RS, LS, SY, ne_eq, isFl, floatV, constA, thenQ, blockQ, pack, intA, boolA, eqA, unA, nilcA, asI, asB, asS, loadA, idxA, lenA, slcA, AV.flat, AV.one, zA1, storeA, toD, srcOf, copyA, ↓reduceIte, reduceCtorEq, List.replicate, Nat.reduceBEq, Nat.reduceAdd, Nat.reduceMul, Nat.reduceSub, Nat.reduceLeDiff, Nat.reduceLT, Int.reduceToNat, Nat.reduceEqDiff, Int.reduceEq, hx, gadrA, ht, hl, he, hb, hg, hw, h]) | (refine AW.condP rfl (fun h => ?_) (fun h => ?_) <;> try simp only [Bool.and_eq_true, decide_eq_true_eq, Bool.not_eq_true', decide_eq_false_iff_not, Bool.not_eq_false', Bool.not_eq_true, Bool.not_eq_false] at h) | refine And.intro (by omega) ?_ | fail)
theorem tz_ok (x : Nat) (h0 : 0 < x) (h1 : x < 256) : Fn Tryz.prog 87 [AI .u64 x] (AI .i64 (tzF x)) := by
  refine Fn.of fn87 (by simp) rfl ?_
  unfold c87
  repeat' (first | refine AW.seq' ?_ | with_reducible refine AW.blockS rfl ?_ | ((first | refine AW.ops ?_ | refine AW.draw ?_ | refine AW.skip ?_ | refine AW.ret ?_ | refine AW.exit ?_ | refine Fn.call (tz64_ok x h0 h1) rfl rfl ?_) <;> simp only [RS, LS, SY, ne_eq, isFl, floatV, constA, thenQ, blockQ, pack, intA, boolA, eqA, unA, nilcA, asI, asB, asS, loadA, idxA, lenA, slcA, AV.flat, AV.one, zA1, storeA, toD, srcOf, copyA, ↓reduceIte, reduceCtorEq, List.replicate, Nat.reduceBEq, Nat.reduceAdd, Nat.reduceMul, Nat.reduceSub, Nat.reduceLeDiff, Nat.reduceLT, Int.reduceToNat, Nat.reduceEqDiff, Int.reduceEq]) | refine AW.condT rfl ?_ | refine AW.condF rfl ?_ | ((first | (refine GI.of (fun h => ?_) (fun h => ?_) ?emm; case emm => first | exact Classical.em _ | exact (Classical.em _).symm | grind) | (refine GD.of (fun h => ?_) (fun h => ?_) ?emm; case emm => first | exact Classical.em _ | exact (Classical.em _).symm | grind)) <;> simp only [RS, LS, SY, ne_eq, isFl, floatV, constA, thenQ, blockQ, pack, intA, boolA, eqA, unA, nilcA, asI, asB, asS, loadA, idxA, lenA, slcA, AV.flat, AV.one, zA1, storeA, toD, srcOf, copyA, ↓reduceIte, reduceCtorEq, List.replicate, Nat.reduceBEq, Nat.reduceAdd, Nat.reduceMul, Nat.reduceSub, Nat.reduceLeDiff, Nat.reduceLT, Int.reduceToNat, Nat.reduceEqDiff, Int.reduceEq, h]) | (refine AW.condP rfl (fun h => ?_) (fun h => ?_) <;> try simp only [Bool.and_eq_true, decide_eq_true_eq, Bool.not_eq_true', decide_eq_false_iff_not, Bool.not_eq_false', Bool.not_eq_true, Bool.not_eq_false] at h) | refine And.intro (by omega) ?_ | fail)
end Go.Proofs.YtipanehdmhachaaGreatDoor.H
