/- Chapter 26: the law of exactness. -/
import Derived.Test.YtkgeadhnagnloaaHeJ
import Derived.Test.YtkgeadhnagnloaaHrF
import Derived.Test.YtkgeadhnagnloaaHrC
import Derived.Test.YtkgeadhnagnloaaHrD
import Derived.Test.YtkgeadhnagnloaaHgF
import Derived.Test.YtkgeadhnagnloaaKaC
set_option linter.unusedSimpArgs false
set_option linter.unusedVariables false
namespace Go.Proofs.Ytkgeadhnagnloaa.H
abbrev Ds := List Pt × List Ln × List Gr
def DOK (d : Ds) : Prop := d.1.length ≤ 1000 ∧ d.2.1.length ≤ 1000 ∧ d.2.2.length ≤ 1000 ∧ ∀ g ∈ d.2.2, g.2.length ≤ 1000
abbrev PB (p : Pt) : Option Blk := some (.cells 29 2 [[AI .i64 p.1, AI .i64 p.2]])
abbrev arr9 (d e f : Ds) : AV := .agg [LP d.1, LN d.2.1, LG d.2.2, LP e.1, LN e.2.1, LG e.2.2, LP f.1, LN f.2.1, LG f.2.2]
theorem falls_len (x : Ds) (B : List Pt) : (fallsP x.1 x.2.1 x.2.2 B).length ≤ B.length + x.2.1.length := by
  unfold fallsP
  split
  · exact fallP_len _ _
  · have := unP_len B []
    simp only [List.length_nil] at this
    omega
theorem cha_len (x : Ds) (p q : Pt) : (chaP x.1 x.2.1 x.2.2 p q).1.length ≤ x.1.length + 1 := by
  unfold chaP
  split
  · rename_i h
    cases hd : dstP x.2.1 q p with
    | none => simp
    | some n =>
      have := dst_lt h.2.1 (fun y hy => (check_link h.1 hy).2) (dstP_some.1 hd)
      simp only [chnP_len]; omega
  · simp
theorem com_len' (x : Ds) (a b : Int) : (comP x.1 x.2.1 x.2.2 a b).length ≤ x.1.length := by
  unfold comP
  split
  · exact List.length_filter_le _ _
  · simp
theorem same_t {l : List Pt} (h : l.length ≤ 100000) : Fn Try.prog 17 [LP l, LP l] (AB true) := by
  have := rsame_ok l l (by omega) (by omega)
  rwa [decide_eq_true rfl] at this
set_option maxRecDepth 100000 in
set_option maxHeartbeats 16000000 in
theorem ex_lists {x : Ds} (hx : DOK x) {l m : List Pt} (hl : l.length ≤ 1000) (hm : m.length ≤ 1000) {a b : Int} {d e f : Ds} {i : Nat} {L : List Int} {p : Nat} {p1 q1 : Pt} {T : Tm} {s : St} {Q : Fl → Tm → St → Prop} {rl : List Nat}
    (hN : Nrm rl 0 T s [(139, AI .i64 0), (138, .agg [LP l, LP m]), (21, .ptr 3 0 0), (17, .ptr 0 0 0), (10, .ptr 1 0 0), (11, .ptr 2 0 0), (2, LP l), (19, LP m), (5, AI .i64 a), (6, AI .i64 b), (120, arr9 d e f), (121, AI .i64 i)] [SrcS SRC L p, PB p1, PB q1, BX x.1 x.2.1 x.2.2])
    (he : ∀ T s rl, Nrm rl 0 T s [(21, .ptr 3 0 0), (17, .ptr 0 0 0), (10, .ptr 1 0 0), (11, .ptr 2 0 0), (2, LP l), (19, LP m), (5, AI .i64 a), (6, AI .i64 b), (120, arr9 d e f), (121, AI .i64 i)] [SrcS SRC L p, PB p1, PB q1, BX x.1 x.2.1 x.2.2] → Q .normal T s) : AW Try.prog 238 0 (.block 4 (.loop c3_1)) T s Q := by
  unfold c3_1
  refine AW.arr (α := Unit) 2 (by decide) (by decide) (fun _ _ => [(138, .agg [LP l, LP m]), (21, .ptr 3 0 0), (17, .ptr 0 0 0), (10, .ptr 1 0 0), (11, .ptr 2 0 0), (2, LP l), (19, LP m), (5, AI .i64 a), (6, AI .i64 b), (120, arr9 d e f), (121, AI .i64 i)]) (fun _ _ => [SrcS SRC L p, PB p1, PB q1, BX x.1 x.2.1 x.2.2]) (fun _ _ => True) () trivial rl hN (by simp) ?_ ?_
  · intro k _ hk _
    obtain ⟨y, hw, hy⟩ : ∃ y : List Pt, [LP l, LP m].getD k default = LP y ∧ y.length ≤ 1000 := by
      rcases (by omega : k = 0 ∨ k = 1) with rfl | rfl
      · exact ⟨l, rfl, hl⟩
      · exact ⟨m, rfl, hm⟩
    have hki : (k : Int) < 2 := by omega
    have f1 := falls_ok x.1 x.2.1 x.2.2 (by have := hx.1; omega) (by have := hx.2.1; omega) (by have := hx.2.2.1; omega) (fun g hg => Nat.le_trans (hx.2.2.2 g hg) (by omega)) y (by omega)
    have f2 := rfalls_ok x.1 x.2.1 x.2.2 (by have := hx.1; omega) (by have := hx.2.1; omega) (by have := hx.2.2.1; omega) (fun g hg => Nat.le_trans (hx.2.2.2 g hg) (by omega)) y (by omega)
    have fl := falls_len x y
    have f3 := same_t (l := fallsP x.1 x.2.1 x.2.2 y) (by have := hx.2.1; omega)
    have f4 := proves_ok x.1 x.2.1 x.2.2 (by have := hx.1; omega) (by have := hx.2.1; omega) (by have := hx.2.2.1; omega) (fun g hg => Nat.le_trans (hx.2.2.2 g hg) (by omega)) y (by omega)
    have f5 := rproves_ok x.1 x.2.1 x.2.2 (by have := hx.1; omega) (by have := hx.2.1; omega) (by have := hx.2.2.1; omega) (fun g hg => Nat.le_trans (hx.2.2.2 g hg) (by omega)) y (by omega)
    generalize fallsP x.1 x.2.1 x.2.2 y = F at f1 f2 f3
    cases hpv : provP x.1 x.2.1 x.2.2 y <;> rw [hpv] at f4 f5
    all_goals
      repeat' (first | refine AW.seq' ?_ | with_reducible refine AW.blockS rfl ?_ | ((first | refine AW.ops ?_ | refine AW.draw ?_ | refine AW.skip ?_ | refine AW.ret ?_ | refine AW.exit ?_ | refine Fn.call (f1) rfl rfl ?_ | refine Fn.call (f2) rfl rfl ?_ | refine Fn.call (f3) rfl rfl ?_ | refine Fn.call (f4) rfl rfl ?_ | refine Fn.call (f5) rfl rfl ?_) <;> simp only [RS, LS, SY, ne_eq, isFl, floatV, constA, thenQ, blockQ, pack, intA, boolA, eqA, unA, nilcA, asI, asB, asS, loadA, idxA, lenA, slcA, AV.flat, AV.one, zA1, storeA, toD, srcOf, copyA, ↓reduceIte, reduceCtorEq, List.replicate, Nat.reduceBEq, Nat.reduceAdd, Nat.reduceMul, Nat.reduceSub, Nat.reduceLeDiff, Nat.reduceLT, Int.reduceToNat, Nat.reduceEqDiff, Int.reduceEq, hw, hki, hk, rangeNQ]) | refine AW.condT rfl ?_ | refine AW.condF rfl ?_ | refine And.intro (by omega) ?_ | fail)
      exact ⟨(), [0, 1, 2, 3], rfl, by decide, rfl, by simp [NT, belA, belL, tget, tset, renA, renL, nmL], ⟨⟨rfl, rfl⟩, ⟨⟨rfl, rfl⟩, ⟨⟨rfl, rfl⟩, ⟨⟨rfl, rfl⟩, trivial⟩⟩⟩⟩⟩
  · intro _ _
    exact he _ _ [0, 1, 2, 3] ⟨rfl, by decide, rfl, by simp [NT, belA, belL, tget, tset, renA, renL, nmL], ⟨⟨rfl, rfl⟩, ⟨⟨rfl, rfl⟩, ⟨⟨rfl, rfl⟩, ⟨⟨rfl, rfl⟩, trivial⟩⟩⟩⟩⟩
set_option maxRecDepth 100000 in
set_option maxHeartbeats 16000000 in
theorem ex_pairs {x : Ds} (hx : DOK x) {l m : List Pt} (hl : l.length ≤ 1000) (hm : m.length ≤ 1000) {a b : Int} {d e f : Ds} {i : Nat} {L : List Int} {p : Nat} {p1 q1 : Pt} {T : Tm} {s : St} {Q : Fl → Tm → St → Prop} {rl : List Nat} (u1 v1 : Pt)
    (hN : Nrm rl 0 T s [(169, AI .i64 0), (168, .agg [AI .i64 p1.1, AI .i64 p1.2, AI .i64 q1.1, AI .i64 q1.2, AI .i64 u1.1, AI .i64 u1.2, AI .i64 v1.1, AI .i64 v1.2]), (21, .ptr 3 0 0), (17, .ptr 0 0 0), (10, .ptr 1 0 0), (11, .ptr 2 0 0), (2, LP l), (19, LP m), (5, AI .i64 a), (6, AI .i64 b), (120, arr9 d e f), (121, AI .i64 i)] [SrcS SRC L p, PB p1, PB q1, BX x.1 x.2.1 x.2.2])
    (he : ∀ T s rl, Nrm rl 0 T s [(21, .ptr 3 0 0), (17, .ptr 0 0 0), (10, .ptr 1 0 0), (11, .ptr 2 0 0), (2, LP l), (19, LP m), (5, AI .i64 a), (6, AI .i64 b), (120, arr9 d e f), (121, AI .i64 i)] [SrcS SRC L p, PB p1, PB q1, BX x.1 x.2.1 x.2.2] → Q .normal T s) : AW Try.prog 238 0 (.block 6 (.loop c3_2)) T s Q := by
  unfold c3_2
  refine AW.arr (α := Unit) 2 (by decide) (by decide) (fun _ _ => [(168, .agg [AI .i64 p1.1, AI .i64 p1.2, AI .i64 q1.1, AI .i64 q1.2, AI .i64 u1.1, AI .i64 u1.2, AI .i64 v1.1, AI .i64 v1.2]), (21, .ptr 3 0 0), (17, .ptr 0 0 0), (10, .ptr 1 0 0), (11, .ptr 2 0 0), (2, LP l), (19, LP m), (5, AI .i64 a), (6, AI .i64 b), (120, arr9 d e f), (121, AI .i64 i)]) (fun _ _ => [SrcS SRC L p, PB p1, PB q1, BX x.1 x.2.1 x.2.2]) (fun _ _ => True) () trivial rl hN (by simp) ?_ ?_
  · intro k _ hk _
    obtain ⟨y, z, hw⟩ : ∃ y z : Pt, ((([AI .i64 p1.1, AI .i64 p1.2, AI .i64 q1.1, AI .i64 q1.2, AI .i64 u1.1, AI .i64 u1.2, AI .i64 v1.1, AI .i64 v1.2] : List AV).drop (k * 4)).take 4) = [AI .i64 y.1, AI .i64 y.2, AI .i64 z.1, AI .i64 z.2] := by
      rcases (by omega : k = 0 ∨ k = 1) with rfl | rfl
      · exact ⟨p1, q1, rfl⟩
      · exact ⟨u1, v1, rfl⟩
    have hki : (k : Int) < 2 := by omega
    have hk8 : k * 4 + 4 ≤ 8 := by omega
    have f1 := chain_ok x.1 x.2.1 x.2.2 (by have := hx.1; omega) (by have := hx.2.1; omega) (by have := hx.2.2.1; omega) (fun g hg => Nat.le_trans (hx.2.2.2 g hg) (by omega)) y z
    have f2 := rchain_ok x.1 x.2.1 x.2.2 (by have := hx.1; omega) (by have := hx.2.1; omega) (by have := hx.2.2.1; omega) (fun g hg => Nat.le_trans (hx.2.2.2 g hg) (by omega)) y z
    have fl := cha_len x y z
    have h0 := hx.1
    generalize chaP x.1 x.2.1 x.2.2 y z = cb at f1 f2 fl
    obtain ⟨c, bb⟩ := cb
    simp only at f1 f2 fl
    have f3 := same_t (l := c) (by omega)
    have f4 := proves_ok x.1 x.2.1 x.2.2 (by have := hx.1; omega) (by have := hx.2.1; omega) (by have := hx.2.2.1; omega) (fun g hg => Nat.le_trans (hx.2.2.2 g hg) (by omega)) c (by omega)
    have f5 := rproves_ok x.1 x.2.1 x.2.2 (by have := hx.1; omega) (by have := hx.2.1; omega) (by have := hx.2.2.1; omega) (fun g hg => Nat.le_trans (hx.2.2.2 g hg) (by omega)) c (by omega)
    cases hpv : provP x.1 x.2.1 x.2.2 c <;> rw [hpv] at f4 f5 <;> cases bb
    all_goals
      repeat' (first | refine AW.seq' ?_ | with_reducible refine AW.blockS rfl ?_ | ((first | refine AW.ops ?_ | refine AW.draw ?_ | refine AW.skip ?_ | refine AW.ret ?_ | refine AW.exit ?_ | refine Fn.call (f1) rfl rfl ?_ | refine Fn.call (f2) rfl rfl ?_ | refine Fn.call (f3) rfl rfl ?_ | refine Fn.call (f4) rfl rfl ?_ | refine Fn.call (f5) rfl rfl ?_) <;> simp only [RS, LS, SY, ne_eq, isFl, floatV, constA, thenQ, blockQ, pack, intA, boolA, eqA, unA, nilcA, asI, asB, asS, loadA, idxA, lenA, slcA, AV.flat, AV.one, zA1, storeA, toD, srcOf, copyA, ↓reduceIte, reduceCtorEq, List.replicate, Nat.reduceBEq, Nat.reduceAdd, Nat.reduceMul, Nat.reduceSub, Nat.reduceLeDiff, Nat.reduceLT, Int.reduceToNat, Nat.reduceEqDiff, Int.reduceEq, hw, hki, hk, hk8, rangeNQ]) | refine AW.condT rfl ?_ | refine AW.condF rfl ?_ | refine And.intro (by omega) ?_ | fail)
      exact ⟨(), [0, 1, 2, 3], rfl, by decide, rfl, by simp [NT, belA, belL, tget, tset, renA, renL, nmL], ⟨⟨rfl, rfl⟩, ⟨⟨rfl, rfl⟩, ⟨⟨rfl, rfl⟩, ⟨⟨rfl, rfl⟩, trivial⟩⟩⟩⟩⟩
  · intro _ _
    exact he _ _ [0, 1, 2, 3] ⟨rfl, by decide, rfl, by simp [NT, belA, belL, tget, tset, renA, renL, nmL], ⟨⟨rfl, rfl⟩, ⟨⟨rfl, rfl⟩, ⟨⟨rfl, rfl⟩, ⟨⟨rfl, rfl⟩, trivial⟩⟩⟩⟩⟩
set_option maxRecDepth 100000 in
set_option maxHeartbeats 16000000 in
theorem ex_ints {x : Ds} (hx : DOK x) {l m : List Pt} (hl : l.length ≤ 1000) (hm : m.length ≤ 1000) {a b : Int} {d e f : Ds} {i : Nat} {L : List Int} {p : Nat} {p1 q1 : Pt} {T : Tm} {s : St} {Q : Fl → Tm → St → Prop} {rl : List Nat} (u1 v1 : Int)
    (hN : Nrm rl 0 T s [(218, AI .i64 0), (217, .agg [AI .i64 a, AI .i64 b, AI .i64 u1, AI .i64 v1]), (21, .ptr 3 0 0), (17, .ptr 0 0 0), (10, .ptr 1 0 0), (11, .ptr 2 0 0), (2, LP l), (19, LP m), (5, AI .i64 a), (6, AI .i64 b), (120, arr9 d e f), (121, AI .i64 i)] [SrcS SRC L p, PB p1, PB q1, BX x.1 x.2.1 x.2.2])
    (he : ∀ T, NT 3 (nmL [0, 1, 2]) T [(121, AI .i64 i), (17, .ptr 0 0 0), (10, .ptr 1 0 0), (11, .ptr 2 0 0), (2, LP l), (19, LP m), (5, AI .i64 a), (6, AI .i64 b), (120, arr9 d e f)] → Q .normal T [SrcS SRC L p, PB p1, PB q1, BX x.1 x.2.1 x.2.2]) : AW Try.prog 238 0 (.block 8 (.loop c3_3)) T s Q := by
  unfold c3_3
  refine AW.arr (α := Unit) 2 (by decide) (by decide) (fun _ _ => [(217, .agg [AI .i64 a, AI .i64 b, AI .i64 u1, AI .i64 v1]), (21, .ptr 3 0 0), (17, .ptr 0 0 0), (10, .ptr 1 0 0), (11, .ptr 2 0 0), (2, LP l), (19, LP m), (5, AI .i64 a), (6, AI .i64 b), (120, arr9 d e f), (121, AI .i64 i)]) (fun _ _ => [SrcS SRC L p, PB p1, PB q1, BX x.1 x.2.1 x.2.2]) (fun _ _ => True) () trivial rl hN (by simp) ?_ ?_
  · intro k _ hk _
    obtain ⟨y, z, hw⟩ : ∃ y z : Int, ((([AI .i64 a, AI .i64 b, AI .i64 u1, AI .i64 v1] : List AV).drop (k * 2)).take 2) = [AI .i64 y, AI .i64 z] := by
      rcases (by omega : k = 0 ∨ k = 1) with rfl | rfl
      · exact ⟨a, b, rfl⟩
      · exact ⟨u1, v1, rfl⟩
    have hki : (k : Int) < 2 := by omega
    have hk8 : k * 2 + 2 ≤ 4 := by omega
    have f1 := common_ok x.1 x.2.1 x.2.2 (by have := hx.1; omega) (by have := hx.2.1; omega) (by have := hx.2.2.1; omega) (fun g hg => Nat.le_trans (hx.2.2.2 g hg) (by omega)) y z
    have f2 := rcommon_ok x.1 x.2.1 x.2.2 (by have := hx.1; omega) (by have := hx.2.1; omega) (by have := hx.2.2.1; omega) (fun g hg => Nat.le_trans (hx.2.2.2 g hg) (by omega)) y z
    have fl := com_len' x y z
    have h0 := hx.1
    have f3 := same_t (l := comP x.1 x.2.1 x.2.2 y z) (by omega)
    repeat' (first | refine AW.seq' ?_ | with_reducible refine AW.blockS rfl ?_ | ((first | refine AW.ops ?_ | refine AW.draw ?_ | refine AW.skip ?_ | refine AW.ret ?_ | refine AW.exit ?_ | refine Fn.call (f1) rfl rfl ?_ | refine Fn.call (f2) rfl rfl ?_ | refine Fn.call (f3) rfl rfl ?_) <;> simp only [RS, LS, SY, ne_eq, isFl, floatV, constA, thenQ, blockQ, pack, intA, boolA, eqA, unA, nilcA, asI, asB, asS, loadA, idxA, lenA, slcA, AV.flat, AV.one, zA1, storeA, toD, srcOf, copyA, ↓reduceIte, reduceCtorEq, List.replicate, Nat.reduceBEq, Nat.reduceAdd, Nat.reduceMul, Nat.reduceSub, Nat.reduceLeDiff, Nat.reduceLT, Int.reduceToNat, Nat.reduceEqDiff, Int.reduceEq, hw, hki, hk, hk8, rangeNQ]) | refine AW.condT rfl ?_ | refine AW.condF rfl ?_ | refine And.intro (by omega) ?_ | fail)
    exact ⟨(), [0, 1, 2, 3], rfl, by decide, rfl, by simp [NT, belA, belL, tget, tset, renA, renL, nmL], ⟨⟨rfl, rfl⟩, ⟨⟨rfl, rfl⟩, ⟨⟨rfl, rfl⟩, ⟨⟨rfl, rfl⟩, trivial⟩⟩⟩⟩⟩
  · intro _ _
    exact he _ (by simp [NT, belA, belL, tget, tset, renA, renL, nmL])
set_option maxRecDepth 100000 in
set_option maxHeartbeats 16000000 in
theorem ex_designs {l m : List Pt} (hl : l.length ≤ 1000) (hm : m.length ≤ 1000) {a b : Int} {d e f : Ds} (hd : DOK d) (he : DOK e) (hf : DOK f) {L : List Int} (hL : L.length ≤ 600) {p : Nat} (hp : p ≤ L.length) {p1 q1 : Pt} {T : Tm} {s : St} {Q : Fl → Tm → St → Prop} {rl : List Nat}
    (hN : Nrm rl 0 T s [(121, AI .i64 0), (17, .ptr 0 0 0), (10, .ptr 1 0 0), (11, .ptr 2 0 0), (2, LP l), (19, LP m), (5, AI .i64 a), (6, AI .i64 b), (120, arr9 d e f)] [SrcS SRC L p, PB p1, PB q1])
    (hQ : ∀ T s, Q .normal T s) : AW Try.prog 238 0 (.block 2 (.loop c3_4)) T s Q := by
  unfold c3_4
  refine AW.arr (α := Nat) 3 (by decide) (by decide) (fun _ _ => [(17, .ptr 0 0 0), (10, .ptr 1 0 0), (11, .ptr 2 0 0), (2, LP l), (19, LP m), (5, AI .i64 a), (6, AI .i64 b), (120, arr9 d e f)]) (fun _ p => [SrcS SRC L p, PB p1, PB q1]) (fun _ p => p ≤ L.length) p hp rl hN (by simp) ?_ (fun p _ => hQ _ _)
  intro k p hk hp
  obtain ⟨x, hw, hx⟩ : ∃ x : Ds, ((([LP d.1, LN d.2.1, LG d.2.2, LP e.1, LN e.2.1, LG e.2.2, LP f.1, LN f.2.1, LG f.2.2] : List AV).drop (k * 3)).take 3) = [LP x.1, LN x.2.1, LG x.2.2] ∧ DOK x := by
    rcases (by omega : k = 0 ∨ k = 1 ∨ k = 2) with rfl | rfl | rfl
    · exact ⟨d, rfl, hd⟩
    · exact ⟨e, rfl, he⟩
    · exact ⟨f, rfl, hf⟩
  have hki : (k : Int) < 3 := by omega
  have hk9 : k * 3 + 3 ≤ 9 := by omega
  have f1 := check_ok x.1 x.2.1 x.2.2 (by have := hx.1; omega) (by have := hx.2.1; omega) (by have := hx.2.2.1; omega) (fun g hg => Nat.le_trans (hx.2.2.2 g hg) (by omega))
  have f2 := rcheck_ok x.1 x.2.1 x.2.2 (by have := hx.1; omega) (by have := hx.2.1; omega) (by have := hx.2.2.1; omega) (fun g hg => Nat.le_trans (hx.2.2.2 g hg) (by omega))
  have f3 := indep_ok x.1 x.2.1 x.2.2 (by have := hx.1; omega) (by have := hx.2.1; omega) (by have := hx.2.2.1; omega) (fun g hg => Nat.le_trans (hx.2.2.2 g hg) (by omega))
  have f4 := rindep_ok x.1 x.2.1 x.2.2 (by have := hx.1; omega) (by have := hx.2.1; omega) (by have := hx.2.2.1; omega) (fun g hg => Nat.le_trans (hx.2.2.2 g hg) (by omega))
  generalize checkP x.1 x.2.1 x.2.2 = ck at f1 f2
  generalize indP x.1 x.2.1 x.2.2 = ip at f3 f4
  cases ip
  all_goals
    repeat' (first | refine AW.seq' ?_ | with_reducible refine AW.blockS rfl ?_ | ((first | refine AW.ops ?_ | refine AW.draw ?_ | refine AW.skip ?_ | refine AW.ret ?_ | refine AW.exit ?_ | refine Fn.call (f1) rfl rfl ?_ | refine Fn.call (f2) rfl rfl ?_ | refine Fn.call (f3) rfl rfl ?_ | refine Fn.call (f4) rfl rfl ?_) <;> simp only [RS, LS, SY, ne_eq, isFl, floatV, constA, thenQ, blockQ, pack, intA, boolA, eqA, unA, nilcA, asI, asB, asS, loadA, idxA, lenA, slcA, AV.flat, AV.one, zA1, storeA, toD, srcOf, copyA, ↓reduceIte, reduceCtorEq, List.replicate, Nat.reduceBEq, Nat.reduceAdd, Nat.reduceMul, Nat.reduceSub, Nat.reduceLeDiff, Nat.reduceLT, Int.reduceToNat, Nat.reduceEqDiff, Int.reduceEq, hw, hki, hk, hk9, rangeNQ]) | refine AW.condT rfl ?_ | refine AW.condF rfl ?_ | refine And.intro (by omega) ?_ | fail)
    refine ex_lists hx hl hm (a := a) (b := b) (d := d) (e := e) (f := f) (i := k) (rl := [0, 1, 2, 3]) ⟨rfl, by decide, rfl, by simp [NT, belA, belL, tget, tset, renA, renL, nmL], ⟨⟨rfl, rfl⟩, ⟨⟨rfl, rfl⟩, ⟨⟨rfl, rfl⟩, ⟨⟨rfl, rfl⟩, trivial⟩⟩⟩⟩⟩ fun T s rl hN => AW.nrm rl hN ?_
    repeat' (first | refine AW.seq' ?_ | with_reducible refine AW.blockS rfl ?_ | ((first | refine AW.ops ?_ | refine AW.draw ?_ | refine AW.skip ?_ | refine AW.ret ?_ | refine AW.exit ?_ |  (refine SFn.call (part_ok hL) rfl rfl (by assumption) (fun v p hp hv hb => ?_); (first | (have _ := u; obtain ⟨v1, rfl, hv1⟩ := hv) | obtain ⟨u, rfl, hu⟩ := hv))) <;> simp only [RS, LS, SY, ne_eq, isFl, floatV, constA, thenQ, blockQ, pack, intA, boolA, eqA, unA, nilcA, asI, asB, asS, loadA, idxA, lenA, slcA, AV.flat, AV.one, zA1, storeA, toD, srcOf, copyA, ↓reduceIte, reduceCtorEq, List.replicate, Nat.reduceBEq, Nat.reduceAdd, Nat.reduceMul, Nat.reduceSub, Nat.reduceLeDiff, Nat.reduceLT, Int.reduceToNat, Nat.reduceEqDiff, Int.reduceEq, rangeNQ]) | refine AW.condT rfl ?_ | refine AW.condF rfl ?_ | refine And.intro (by omega) ?_ | fail)
    refine ex_pairs hx hl hm u v1 (a := a) (b := b) (d := d) (e := e) (f := f) (i := k) (rl := [0, 1, 2, 3]) ⟨rfl, by decide, rfl, by simp [NT, belA, belL, tget, tset, renA, renL, nmL], ⟨⟨rfl, rfl⟩, ⟨⟨rfl, rfl⟩, ⟨⟨rfl, rfl⟩, ⟨⟨rfl, rfl⟩, trivial⟩⟩⟩⟩⟩ fun T s rl hN => AW.nrm rl hN ?_
    repeat' (first | refine AW.seq' ?_ | with_reducible refine AW.blockS rfl ?_ | ((first | refine AW.ops ?_ | refine AW.draw ?_ | refine AW.skip ?_ | refine AW.ret ?_ | refine AW.exit ?_ |  (refine SFn.call (n_ok hL 4 (by omega)) rfl rfl (by assumption) (fun v p hp hv hb => ?_); (first | (have _ := z; obtain ⟨z2, z20, z21, rfl⟩ := hv) | obtain ⟨z, z0, z1, rfl⟩ := hv))) <;> simp only [RS, LS, SY, ne_eq, isFl, floatV, constA, thenQ, blockQ, pack, intA, boolA, eqA, unA, nilcA, asI, asB, asS, loadA, idxA, lenA, slcA, AV.flat, AV.one, zA1, storeA, toD, srcOf, copyA, ↓reduceIte, reduceCtorEq, List.replicate, Nat.reduceBEq, Nat.reduceAdd, Nat.reduceMul, Nat.reduceSub, Nat.reduceLeDiff, Nat.reduceLT, Int.reduceToNat, Nat.reduceEqDiff, Int.reduceEq, rangeNQ]) | refine AW.condT rfl ?_ | refine AW.condF rfl ?_ | refine And.intro (by omega) ?_ | fail)
    exact ex_ints hx hl hm z z2 (a := a) (b := b) (d := d) (e := e) (f := f) (i := k) (rl := [0, 1, 2, 3]) ⟨rfl, by decide, rfl, by simp [NT, belA, belL, tget, tset, renA, renL, nmL], ⟨⟨rfl, rfl⟩, ⟨⟨rfl, rfl⟩, ⟨⟨rfl, rfl⟩, ⟨⟨rfl, rfl⟩, trivial⟩⟩⟩⟩⟩ fun T hT => ⟨_, [0, 1, 2], by assumption, rfl, by decide, rfl, hT, ⟨⟨rfl, rfl⟩, ⟨⟨rfl, rfl⟩, ⟨⟨rfl, rfl⟩, trivial⟩⟩⟩⟩
set_option maxRecDepth 100000 in
set_option maxHeartbeats 16000000 in
theorem law3_ok (t : List Int) (ps : List Pt) (ls : List Ln) (gs : List Gr) (l : List Pt) (x0 y0 : Pt) (a b : Int) : ACalls Try.prog 3 [LI t, ADs ps ls (grs gs), LP l, APt x0, APt y0, AI .i64 a, AI .i64 b] [] fun v _ => v = AB true := by
  refine ACalls.of fn3 (by simp) ?_
  unfold c3
  have hL : (t.take 600).length ≤ 600 := by rw [List.length_take]; omega
  repeat' (first | refine AW.seq' ?_ | with_reducible refine AW.blockS rfl ?_ | ((first | refine AW.ops ?_ | refine AW.draw ?_ | refine AW.skip ?_ | refine AW.ret ?_ | refine AW.exit ?_ | refine Fn.call (sane_ok) rfl rfl ?_) <;> simp only [RS, LS, SY, ne_eq, isFl, floatV, constA, thenQ, blockQ, pack, intA, boolA, eqA, unA, nilcA, asI, asB, asS, loadA, idxA, lenA, slcA, AV.flat, AV.one, zA1, storeA, toD, srcOf, copyA, ↓reduceIte, reduceCtorEq, List.replicate, Nat.reduceBEq, Nat.reduceAdd, Nat.reduceMul, Nat.reduceSub, Nat.reduceLeDiff, Nat.reduceLT, Int.reduceToNat, Nat.reduceEqDiff, Int.reduceEq]) | refine AW.condT rfl ?_ | refine AW.condF rfl ?_ | ((first | refine GI.of (fun h => ?_) (fun h => ?_) (by first | exact Classical.em _ | exact (Classical.em _).symm | grind) | refine GD.of (fun h => ?_) (fun h => ?_) (by first | exact Classical.em _ | exact (Classical.em _).symm | grind)) <;> simp only [RS, LS, SY, ne_eq, isFl, floatV, constA, thenQ, blockQ, pack, intA, boolA, eqA, unA, nilcA, asI, asB, asS, loadA, idxA, lenA, slcA, AV.flat, AV.one, zA1, storeA, toD, srcOf, copyA, ↓reduceIte, reduceCtorEq, List.replicate, Nat.reduceBEq, Nat.reduceAdd, Nat.reduceMul, Nat.reduceSub, Nat.reduceLeDiff, Nat.reduceLT, Int.reduceToNat, Nat.reduceEqDiff, Int.reduceEq, h]) | (refine AW.condP rfl (fun h => ?_) (fun h => ?_) <;> try simp only [Bool.and_eq_true, decide_eq_true_eq, Bool.not_eq_true', decide_eq_false_iff_not, Bool.not_eq_false', Bool.not_eq_true, Bool.not_eq_false] at h) | refine And.intro (by omega) ?_ | fail)
  refine AW.range (α := Unit) gs.length (by omega) (by decide) (fun _ _ => [(60, LG gs), (0, LI t), (2, LP l), (8, .ptr 0 0 0), (10, .ptr 1 0 0), (11, .ptr 2 0 0), (5, AI .i64 a), (6, AI .i64 b)]) (fun _ _ => [BX ps ls gs, PB x0, PB y0]) (fun i _ => ∀ g ∈ gs.take i, g.2.length ≤ 20) () (fun g hg => by simp at hg) [0, 1, 2] ⟨rfl, by decide, rfl, by simp [NT, belA, belL, tget, tset, renA, renL, nmL], ⟨⟨rfl, rfl⟩, ⟨⟨rfl, rfl⟩, ⟨⟨rfl, rfl⟩, trivial⟩⟩⟩⟩ (by simp) ?_ ?_
  · intro i _ hi hJ
    unfold c3_0
    repeat' (first | refine AW.seq' ?_ | with_reducible refine AW.blockS rfl ?_ | ((first | refine AW.ops ?_ | refine AW.draw ?_ | refine AW.skip ?_ | refine AW.ret ?_ | refine AW.exit ?_ | refine Fn.call (sane_ok) rfl rfl ?_) <;> simp only [RS, LS, SY, ne_eq, isFl, floatV, constA, thenQ, blockQ, pack, intA, boolA, eqA, unA, nilcA, asI, asB, asS, loadA, idxA, lenA, slcA, AV.flat, AV.one, zA1, storeA, toD, srcOf, copyA, ↓reduceIte, reduceCtorEq, List.replicate, Nat.reduceBEq, Nat.reduceAdd, Nat.reduceMul, Nat.reduceSub, Nat.reduceLeDiff, Nat.reduceLT, Int.reduceToNat, Nat.reduceEqDiff, Int.reduceEq, getD_grs hi]) | refine AW.condT rfl ?_ | refine AW.condF rfl ?_ | ((first | refine GI.of (fun h => ?_) (fun h => ?_) (by first | exact Classical.em _ | exact (Classical.em _).symm | grind) | refine GD.of (fun h => ?_) (fun h => ?_) (by first | exact Classical.em _ | exact (Classical.em _).symm | grind)) <;> simp only [RS, LS, SY, ne_eq, isFl, floatV, constA, thenQ, blockQ, pack, intA, boolA, eqA, unA, nilcA, asI, asB, asS, loadA, idxA, lenA, slcA, AV.flat, AV.one, zA1, storeA, toD, srcOf, copyA, ↓reduceIte, reduceCtorEq, List.replicate, Nat.reduceBEq, Nat.reduceAdd, Nat.reduceMul, Nat.reduceSub, Nat.reduceLeDiff, Nat.reduceLT, Int.reduceToNat, Nat.reduceEqDiff, Int.reduceEq, getD_grs hi, h]) | (refine AW.condP rfl (fun h => ?_) (fun h => ?_) <;> try simp only [Bool.and_eq_true, decide_eq_true_eq, Bool.not_eq_true', decide_eq_false_iff_not, Bool.not_eq_false', Bool.not_eq_true, Bool.not_eq_false] at h) | refine And.intro (by omega) ?_ | fail)
    refine ⟨(), [0, 1, 2], fun g hg => ?_, rfl, by decide, rfl, by simp [NT, belA, belL, tget, tset, renA, renL, nmL], ⟨⟨rfl, rfl⟩, ⟨⟨rfl, rfl⟩, ⟨⟨rfl, rfl⟩, trivial⟩⟩⟩⟩
    rcases (mem_take_succ hi).1 hg with hg | rfl
    · exact hJ g hg
    · omega
  intro _ hJ
  rw [List.take_length] at hJ
  have hps : ps.length ≤ 45 := by omega
  have hls : ls.length ≤ 30 := by omega
  have hgs : gs.length ≤ 8 := by omega
  have hl20 : l.length ≤ 20 := by omega
  simp only [RS, LS, SY, ne_eq, isFl, floatV, constA, thenQ, blockQ, pack, intA, boolA, eqA, unA, nilcA, asI, asB, asS, loadA, idxA, lenA, slcA, AV.flat, AV.one, zA1, storeA, toD, srcOf, copyA, ↓reduceIte, reduceCtorEq, List.replicate, Nat.reduceBEq, Nat.reduceAdd, Nat.reduceMul, Nat.reduceSub, Nat.reduceLeDiff, Nat.reduceLT, Int.reduceToNat, Nat.reduceEqDiff, Int.reduceEq]
  have s1 := sorted_ok l (by omega)
  have s2 := rsorted_ok l (by omega)
  have s3 := has_ok l (by omega) x0
  have s4 := rhas_ok l (by omega) x0
  generalize sortedP l = b1 at s1 s2
  generalize hasP l x0 = b2 at s3 s4
  repeat' (first | refine AW.seq' ?_ | with_reducible refine AW.blockS rfl ?_ | ((first | refine AW.ops ?_ | refine AW.draw ?_ | refine AW.skip ?_ | refine AW.ret ?_ | refine AW.exit ?_ |  refine new_call t ?_ |  (refine SFn.call (design_ok hL 7 (by omega)) rfl rfl (by omega) (fun v p hp hv hb => ?_); obtain ⟨ps1, ls1, gs1, rfl, hc1, h1, h2, h3, h4⟩ := hv) |  (refine SFn.call (parts_ok hL 4 (by omega)).frozen rfl rfl (by assumption) (fun v p hp hv hb => ?_); obtain ⟨_, ⟨m, rfl, hm4, hmv⟩, rfl⟩ := hv; have u1 := union_ok l m (by omega) (by omega); have u2 := runion_ok l m (by omega) (by omega); have ul := unP_len l m; have u3 := same_t (l := unP l m) (by omega); have m1 := sorted_ok m (by omega); have m2 := rsorted_ok m (by omega); generalize sortedP m = b3 at m1 m2) | refine Fn.call (s1) rfl rfl ?_ | refine Fn.call (s2) rfl rfl ?_ | refine Fn.call (s3) rfl rfl ?_ | refine Fn.call (s4) rfl rfl ?_ | refine Fn.call (u1) rfl rfl ?_ | refine Fn.call (u2) rfl rfl ?_ | refine Fn.call (u3) rfl rfl ?_ | refine Fn.call (m1) rfl rfl ?_ | refine Fn.call (m2) rfl rfl ?_ |  (refine SFn.call (bent_ok hL ps1 ls1 gs1 (by omega) (by omega) (by omega) (fun g hg => Nat.le_trans (h4 g hg) (by omega))) rfl rfl (by assumption) (fun v p hp hv hb => ?_); obtain ⟨ps2, ls2, gs2, rfl, g1, g2, g3, g4⟩ := hv)) <;> simp only [RS, LS, SY, ne_eq, isFl, floatV, constA, thenQ, blockQ, pack, intA, boolA, eqA, unA, nilcA, asI, asB, asS, loadA, idxA, lenA, slcA, AV.flat, AV.one, zA1, storeA, toD, srcOf, copyA, ↓reduceIte, reduceCtorEq, List.replicate, Nat.reduceBEq, Nat.reduceAdd, Nat.reduceMul, Nat.reduceSub, Nat.reduceLeDiff, Nat.reduceLT, Int.reduceToNat, Nat.reduceEqDiff, Int.reduceEq]) | refine AW.condT rfl ?_ | refine AW.condF rfl ?_ | refine And.intro (by omega) ?_ | fail)
  refine ex_designs (l := l) (m := m) (by omega) (by omega) (a := a) (b := b) (d := (ps1, ls1, gs1)) (e := (ps2, ls2, gs2)) (f := (ps, ls, gs)) ⟨by simp only; omega, by simp only; omega, by simp only; omega, fun g hg => Nat.le_trans (h4 g hg) (by omega)⟩ ⟨g1, g2, g3, g4⟩ ⟨by simp only; omega, by simp only; omega, by simp only; omega, fun g hg => Nat.le_trans (hJ g hg) (by omega)⟩ hL (p1 := x0) (q1 := y0) (by assumption) (rl := [3, 1, 2]) ⟨rfl, by decide, rfl, by simp [NT, belA, belL, tget, tset, renA, renL, nmL], ⟨⟨rfl, rfl⟩, ⟨⟨rfl, rfl⟩, ⟨⟨rfl, rfl⟩, trivial⟩⟩⟩⟩ fun T s => AW.nrm [] (T' := []) (s' := []) ⟨rfl, by decide, rfl, trivial, trivial⟩ ?_
  repeat' (first | refine AW.seq' ?_ | with_reducible refine AW.blockS rfl ?_ | ((first | refine AW.ops ?_ | refine AW.draw ?_ | refine AW.skip ?_ | refine AW.ret ?_ | refine AW.exit ?_ | refine Fn.call (sane_ok) rfl rfl ?_) <;> simp only [RS, LS, SY, ne_eq, isFl, floatV, constA, thenQ, blockQ, pack, intA, boolA, eqA, unA, nilcA, asI, asB, asS, loadA, idxA, lenA, slcA, AV.flat, AV.one, zA1, storeA, toD, srcOf, copyA, ↓reduceIte, reduceCtorEq, List.replicate, Nat.reduceBEq, Nat.reduceAdd, Nat.reduceMul, Nat.reduceSub, Nat.reduceLeDiff, Nat.reduceLT, Int.reduceToNat, Nat.reduceEqDiff, Int.reduceEq]) | refine AW.condT rfl ?_ | refine AW.condF rfl ?_ | refine And.intro (by omega) ?_ | fail)
end Go.Proofs.Ytkgeadhnagnloaa.H
