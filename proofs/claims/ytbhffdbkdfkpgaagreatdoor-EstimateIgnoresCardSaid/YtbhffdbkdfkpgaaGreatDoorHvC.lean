/- Chapter 8: fixes, causes and numbers that are drawn. -/
import Derived.Test.YtbhffdbkdfkpgaaGreatDoorHvB
import Derived.Test.YtbhffdbkdfkpgaaGreatDoorHmC
set_option linter.unusedSimpArgs false
set_option linter.unusedVariables false
namespace Go.Proofs.YtbhffdbkdfkpgaaGreatDoor.H
/-- A list that grows from nothing, in a block of that number. -/
def gVg {α : Type} (id : Nat) (l : List α) : AV := match l with
  | [] => .ful 0 []
  | p :: l => .own id 0 (p :: l).length
def gBg {α : Type} (T k : Nat) (f : α → List D) (l : List α) : Option Blk := match l with
  | [] => none
  | p :: l => some (.cells T k (rowsA ((p :: l).map f)))
section
variable {α : Type} {T k id : Nat} {f : α → List D}
theorem gVg_nil : gVg (α := α) id [] = .ful 0 [] := rfl
theorem gBg_nil : gBg T k f [] = none := rfl
theorem gVg_cons (p : α) (l : List α) : gVg id (p :: l) = .own id 0 (p :: l).length := rfl
theorem gBg_cons (p : α) (l : List α) : gBg T k f (p :: l) = some (.cells T k (rowsA ((p :: l).map f))) := rfl
end
abbrev inR1 (x : Int) : List D := [dI x]
def VFx (f : Fx) : Prop := f.t = 0 ∧ f.x ∈ [0, 0, 1, 20, -30, 1000] ∧ f.y ∈ [0, 0, 5, -20] ∧ f.e ∈ [1, 10, 50, 200]
theorem VFx.agree {f : Fx} (h : VFx f) : agP f f = true := by
  obtain ⟨-, h1, h2, h3⟩ := h
  rw [agP_iff]
  simp only [List.mem_cons, List.not_mem_nil, or_false] at h1 h2 h3
  simp only [okP, decide_eq_true_eq]
  omega
theorem fix_ok {L : List Int} (hL : L.length ≤ 600) : SFn Tryz.prog SRC L 17 [AI .i64 0] (fun v => ∃ f, VFx f ∧ v = AF f) := by
  refine SFn.of fn17 (by simp) fun p hp => ?_
  unfold c17
  repeat' (first | refine AW.seq' ?_ | with_reducible refine AW.blockS rfl ?_ | ((first | refine AW.ops ?_ | refine AW.draw ?_ | refine AW.skip ?_ | refine AW.ret ?_ | refine AW.exit ?_ |  (refine SFn.call (pick_ok hL [0, 0, 1, 20, -30, 1000] (by simp) (by simp)) rfl rfl (by assumption) (fun v p hp hv hb => ?_); obtain ⟨x, hx, rfl⟩ := hv) |  (refine SFn.call (pick_ok hL [0, 0, 5, -20] (by simp) (by simp)) rfl rfl (by assumption) (fun v p hp hv hb => ?_); obtain ⟨y, hy, rfl⟩ := hv) |  (refine SFn.call (pick_ok hL [1, 10, 50, 200] (by simp) (by simp)) rfl rfl (by assumption) (fun v p hp hv hb => ?_); obtain ⟨e, he, rfl⟩ := hv)) <;> simp only [RS, LS, SY, ne_eq, isFl, floatV, constA, thenQ, blockQ, pack, intA, boolA, eqA, unA, nilcA, asI, asB, asS, loadA, idxA, lenA, slcA, AV.flat, AV.one, zA1, storeA, toD, srcOf, copyA, ↓reduceIte, reduceCtorEq, List.replicate, Nat.reduceBEq, Nat.reduceAdd, Nat.reduceMul, Nat.reduceSub, Nat.reduceLeDiff, Nat.reduceLT, Int.reduceToNat, Nat.reduceEqDiff, Int.reduceEq]) | refine AW.condT rfl ?_ | refine AW.condF rfl ?_ | ((first | (refine GI.of (fun h => ?_) (fun h => ?_) ?emm; case emm => first | exact Classical.em _ | exact (Classical.em _).symm | grind) | (refine GD.of (fun h => ?_) (fun h => ?_) ?emm; case emm => first | exact Classical.em _ | exact (Classical.em _).symm | grind)) <;> simp only [RS, LS, SY, ne_eq, isFl, floatV, constA, thenQ, blockQ, pack, intA, boolA, eqA, unA, nilcA, asI, asB, asS, loadA, idxA, lenA, slcA, AV.flat, AV.one, zA1, storeA, toD, srcOf, copyA, ↓reduceIte, reduceCtorEq, List.replicate, Nat.reduceBEq, Nat.reduceAdd, Nat.reduceMul, Nat.reduceSub, Nat.reduceLeDiff, Nat.reduceLT, Int.reduceToNat, Nat.reduceEqDiff, Int.reduceEq, h]) | (refine AW.condP rfl (fun h => ?_) (fun h => ?_) <;> try simp only [Bool.and_eq_true, decide_eq_true_eq, Bool.not_eq_true', decide_eq_false_iff_not, Bool.not_eq_false', Bool.not_eq_true, Bool.not_eq_false] at h) | refine And.intro (by omega) ?_ | fail)
  exact ⟨_, hp, rfl, .inl ⟨⟨⟨0, x, y, e⟩, ⟨rfl, hx, hy, he⟩, rfl⟩, rfl⟩⟩
end Go.Proofs.YtbhffdbkdfkpgaaGreatDoor.H
