/- Chapter 8: the vote of the program. -/
import Derived.Test.YtipanehdmhachaaGreatDoorHvI
import Derived.Test.YtipanehdmhachaaGreatDoorHvS
set_option linter.unusedSimpArgs false
set_option linter.unusedVariables false
set_option linter.unusedSectionVars false
namespace Go.Proofs.YtipanehdmhachaaGreatDoor.H
variable [DR]
open Go.Sort Go.Shelf
/-- A call's end, a tuple, told with less. -/
theorem ACalls.endT {P : Program} {f : FuncId} {vs : List AV} {s : St} {Q Q' : AV → St → Prop} (h : ACalls P f vs s Q) (hq : ∀ v s', Q v s' → ∃ l m, v = .tup l ∧ WkL l m ∧ Q' (.tup m) s') : ACalls P f vs s Q' := by
  intro w K β us hz hr
  refine (h w K β us hz hr).mono fun e w' ⟨v, s', K', β', u, e1, q, hz', hR, hx⟩ => ?_
  obtain ⟨l, m, rfl, hw, hq'⟩ := hq v s' q
  refine ⟨.tup m, s', K', β', u, e1, hq', hz', ?_, hx⟩
  simp only [R] at hR ⊢
  obtain ⟨us, h1, h2⟩ := hR
  exact ⟨us, h1, RL_wk hw h2⟩
def decI (rows : List (List D)) : List Int := rows.map fun r => match r with
  | [.v (.int _ z)] => z
  | _ => 0
def decV (r : List D) : VS := match r with
  | [.lst _ a, .lst _ b] => (decI a, decI b)
  | _ => ([], [])
theorem decI_ints (l : List Int) : decI (ints l) = l := by
  unfold decI ints
  rw [List.map_map]
  exact List.map_id'' (fun _ => rfl) l
theorem decV_set (x : VS) : decV (setR x) = x := by
  show (decI (ints x.1), decI (ints x.2)) = x
  rw [decI_ints, decI_ints]
theorem swoB {α : Type} [Inhabited α] (f : α → VS) : SWO (ltOf fun i j => betP (f i) (f j)) := by
  have sw : ∀ a b : VS, betP a b = -betP b a := fun a b => betP_sw b a
  refine ⟨fun x => ?_, fun x y z h1 h2 => ?_, fun x y z h1 h2 => ?_⟩
  · have : ¬ betP (f x) (f x) < 0 := by rw [betP_self]; omega
    exact decide_eq_false this
  · have h1' : betP (f x) (f y) < 0 := of_decide_eq_true h1
    have h2' : betP (f y) (f z) < 0 := of_decide_eq_true h2
    have h3 := @betP_trans (f x) (f y) (f z) (by omega) (by omega)
    have s1 := sw (f x) (f z)
    have s2 := sw (f x) (f y)
    have : betP (f x) (f z) < 0 := by
      refine Classical.byContradiction fun hn => ?_
      have := @betP_trans (f y) (f z) (f x) (by omega) (by omega)
      omega
    exact decide_eq_true this
  · have h1' : ¬ betP (f x) (f y) < 0 := of_decide_eq_false h1
    have h2' : ¬ betP (f y) (f z) < 0 := of_decide_eq_false h2
    have s1 := sw (f x) (f y)
    have s2 := sw (f y) (f z)
    have s3 := sw (f x) (f z)
    have h3 := @betP_trans (f z) (f y) (f x) (by omega) (by omega)
    have : ¬ betP (f x) (f z) < 0 := by omega
    exact decide_eq_false this
theorem agg24 : ∀ w, (isAgg (sortL_ren.t 24)).run Tryz.prog w = .ok true w := by
  intro w
  have h : (match (Tryz.prog).underlying (sortL_ren.t 24) with | some (.struct _) => true | _ => false) = true := by kernel_rfl
  split at h
  · rename_i fs hu
    simp only [isAgg, Sem.run_bind, run_underlying hu, Result.andThen_ok, Sem.run_pure]
  · cases h
theorem size24 : ∀ w, (Go.sizeOf (sortL_ren.t 24)).run Tryz.prog w = .ok 2 w := fun w => run_sizeOf (by kernel_rfl) w
theorem sortV_ok {S : List VS} (h0 : 0 < S.length) (hl : S.length ≤ 1000000) (hb : ∀ x ∈ S, x.1.length ≤ 8) {s : St} {id : Nat} (hid : s[id]? = some (some (.cells 130 2 (rowsA (S.map setR))))) {Q : AV → St → Prop}
    (hq : ∀ S' : List VS, S'.Perm S → S'.Pairwise (fun x y => ¬ betP y x < 0) → Q (.tup []) (s.set id (some (.cells 130 2 (rowsA (S'.map setR)))))) : ACalls Tryz.prog 65 [.own id 0 S.length, .fn 66 [] []] s Q := by
  have hl2 : (S.map setR).length = S.length := List.length_map ..
  have hI : Inhabited (Fin (S.map setR).length) := ⟨⟨0, by omega⟩⟩
  rw [← hl2]
  refine sortR_ok (cf := fun x y => betP (decV x) (decV y)) (rows := S.map setR) (k := 2) (T := 130) (g := 66) (by omega) (by omega) (swoB fun i : Fin (S.map setR).length => decV (S.map setR)[i.1]) (fun x hx y hy => ?_) (by kernel_rfl) agg24 size24 hid fun rows' hp hs => ?_
  · obtain ⟨a, ha, rfl⟩ := List.mem_map.1 hx
    obtain ⟨b, hb2, rfl⟩ := List.mem_map.1 hy
    simp only [decV_set]
    exact @better_ok ⟨True⟩ a b (by have := hb a ha; omega)
  · have e : rows' = (rows'.map decV).map setR := by
      rw [List.map_map]
      refine (List.map_id' rows').symm.trans (List.map_congr_left fun r hr => ?_)
      obtain ⟨a, _, rfl⟩ := List.mem_map.1 (hp.subset hr)
      simp [Function.comp, decV_set]
    have hp2 : (rows'.map decV).Perm S := by
      have := hp.map decV
      rw [List.map_map] at this
      refine this.trans (List.Perm.of_eq ?_)
      exact List.map_id'' (fun x => decV_set x) S
    have hs2 : (rows'.map decV).Pairwise (fun x y => ¬ betP y x < 0) := by
      rw [List.pairwise_map]; exact hs
    have := hq _ hp2 hs2
    rwa [← e] at this
abbrev AVt (v : Vt) : AV := .agg [LI v.m, LI v.c, AB v.t]
theorem sets_len8 {c : List Int} {l : List Fx} (hl : l.length ≤ 8) {x : VS} (hx : x ∈ setsP c l) : x.1.length ≤ 8 ∧ x.2.length ≤ 8 := by
  obtain ⟨k, -, -, rfl⟩ := (setsP_mem ..).1 hx
  have h1 := bit_len l.length k
  refine ⟨?_, ?_⟩
  · show (bitL l.length k).length ≤ 8
    omega
  · have h2 : (cauP c (bitL l.length k)).length ≤ (bitL l.length k).length := by
      have h : ∀ (q l : List Int), (q.foldl insI l).length ≤ l.length + q.length := by
        intro q
        induction q with
        | nil => intro l; simp
        | cons p q ih =>
          intro l
          rw [List.foldl_cons, List.length_cons]
          have := ih (insI l p)
          have hi : ∀ l : List Int, (insI l p).length ≤ l.length + 1 := by
            intro l
            induction l with
            | nil => simp [insI]
            | cons x l ih =>
              simp only [insI]
              split
              · simpa using ih
              · split <;> simp
          have := hi l
          omega
      have h1 := h (pickP c (bitL l.length k)) []
      have h2 := pick_len c (bitL l.length k)
      unfold cauP
      simp only [List.length_nil] at h1
      omega
    show (cauP c (bitL l.length k)).length ≤ 8
    omega
theorem rowsS_get {S : List VS} {i : Nat} (h : i < S.length) : (rowsA (S.map setR)).getD i [] = [LI S[i].1, LI S[i].2] := by simp [rowsA, h]
theorem okC_take {c : List Int} {l : List Fx} (hl : c.length = l.length) {i : Nat} (hi : i < c.length) (h : ((List.zip c l).take i).all (fun x => decide (0 ≤ x.1) && decide (x.1 < 8) && agP x.2 x.2) = true) :
    ((List.zip c l).take (i + 1)).all (fun x => decide (0 ≤ x.1) && decide (x.1 < 8) && agP x.2 x.2) = (decide (0 ≤ c[i]) && decide (c[i] < 8) && agP (l[i]'(by omega)) (l[i]'(by omega))) := by
  rw [all_take_succ (by simp; omega), h, Bool.true_and, List.getElem_zip]
theorem okC_not {c : List Int} {l : List Fx} (hl : c.length = l.length) {i : Nat} (hi : i < c.length) (h : (decide (0 ≤ c[i]) && decide (c[i] < 8) && agP (l[i]'(by omega)) (l[i]'(by omega))) = false) : okC c l = false := by
  unfold okC
  exact all_of_not (i := i) (by simp; omega) (by rw [List.getElem_zip]; exact h)
def DecQ (c : List Int) (l : List Fx) (v : AV) (s' : St) : Prop := ∃ r, WkL r [AVt (decP c l), AI .i64 (decE c l)] ∧ v = .tup r
theorem decQ_nil {c : List Int} {l : List Fx} {t : Bool} {e : Int} {s' : St} (h1 : decP c l = ⟨[], [], t⟩) (h2 : decE c l = e) : DecQ c l (.tup [.agg [.ful 0 [], .ful 0 [], AB t], AI .i64 e]) s' :=
  ⟨_, by rw [h1, h2]; exact .cons (.agg (.cons (.nil 0 1) (.cons (.nil 0 1) (.cons (.same _) .nil)))) (.cons (.same _) .nil), rfl⟩
theorem vote_of {c : List Int} {l : List Fx} {b : VS} (h : Best (setsP c l) b) : voteP c l = if tieP (setsP c l) b then ⟨[], [], true⟩ else ⟨b.1, b.2, false⟩ := by
  unfold voteP
  rw [(bestP_best (sets_ne c l)).uniq h]
set_option maxHeartbeats 8000000 in
theorem decide0 (c : List Int) (l : List Fx) (hc : c.length ≤ 4611686018427387904) (hl : l.length ≤ 4611686018427387904) : ACalls Tryz.prog 36 [LI c, LF l] [] (DecQ c l) := by
  refine ACalls.of fn36 (by simp) ?_
  unfold c36
  by_cases hcl : c.length = l.length
  · have hcl' : (c.length : Int) = l.length := by omega
    by_cases hl8 : l.length ≤ 8
    · have hl8' : ¬ (8 : Int) < l.length := by omega
      have hE : decE c l = if okC c l then 0 else 1 := by unfold decE; rw [if_neg (by omega), if_neg (by omega)]
      repeat' (first | refine AW.seq' ?_ | with_reducible refine AW.blockS rfl ?_ | ((first | refine AW.ops ?_ | refine AW.draw ?_ | refine AW.skip ?_ | refine AW.ret ?_ | refine AW.exit ?_) <;> simp only [RS, LS, SY, ne_eq, isFl, floatV, constA, thenQ, blockQ, pack, intA, boolA, eqA, unA, nilcA, asI, asB, asS, loadA, idxA, lenA, slcA, AV.flat, AV.one, zA1, storeA, toD, srcOf, copyA, ↓reduceIte, reduceCtorEq, List.replicate, Nat.reduceBEq, Nat.reduceAdd, Nat.reduceMul, Nat.reduceSub, Nat.reduceLeDiff, Nat.reduceLT, Int.reduceToNat, Nat.reduceEqDiff, Int.reduceEq, hcl', hl8']) | refine AW.condT rfl ?_ | refine AW.condF rfl ?_ | ((first | (refine GI.of (fun h => ?_) (fun h => ?_) ?emm; case emm => first | exact Classical.em _ | exact (Classical.em _).symm | grind) | (refine GD.of (fun h => ?_) (fun h => ?_) ?emm; case emm => first | exact Classical.em _ | exact (Classical.em _).symm | grind)) <;> simp only [RS, LS, SY, ne_eq, isFl, floatV, constA, thenQ, blockQ, pack, intA, boolA, eqA, unA, nilcA, asI, asB, asS, loadA, idxA, lenA, slcA, AV.flat, AV.one, zA1, storeA, toD, srcOf, copyA, ↓reduceIte, reduceCtorEq, List.replicate, Nat.reduceBEq, Nat.reduceAdd, Nat.reduceMul, Nat.reduceSub, Nat.reduceLeDiff, Nat.reduceLT, Int.reduceToNat, Nat.reduceEqDiff, Int.reduceEq, hcl', hl8', h]) | (refine AW.condP rfl (fun h => ?_) (fun h => ?_) <;> try simp only [Bool.and_eq_true, decide_eq_true_eq, Bool.not_eq_true', decide_eq_false_iff_not, Bool.not_eq_false', Bool.not_eq_true, Bool.not_eq_false] at h) | refine And.intro (by omega) ?_ | fail)
      refine AW.cut2 (M := fun T s => okC c l = true ∧ ∃ rl, Nrm rl 0 T s [(0, LI c), (1, LF l), (4, .ptr 0 0 0)] [some (.cells 43 3 [[.ful 0 [], .ful 0 [], AB false]])]) ?_ (fun T s ⟨hok, rl, hN⟩ => AW.nrm rl hN ?_)
      · refine AW.range (α := Unit) l.length (by omega) (by decide) (fun _ _ => [(0, LI c), (1, LF l), (24, LI c), (4, .ptr 0 0 0)]) (fun _ _ => [some (.cells 43 3 [[.ful 0 [], .ful 0 [], AB false]])]) (fun i _ => ((List.zip c l).take i).all (fun x => decide (0 ≤ x.1) && decide (x.1 < 8) && agP x.2 x.2) = true) () rfl [0] ⟨rfl, by decide, rfl, by simp [NT, belA, belL, tget, renA, renL, nmL], ⟨⟨rfl, rfl⟩, trivial⟩⟩ (by simp) ?_ ?_
        · intro i _ hi hJ
          unfold c36_0
          have hic : i < c.length := by omega
          have hst := okC_take hcl hic hJ
          have hno := okC_not hcl hic
          have hbad : okC c l = false → decP c l = ⟨[], [], false⟩ ∧ decE c l = 1 := fun e => by
            rw [e] at hE
            simp only [Bool.false_eq_true, if_false] at hE
            exact ⟨by unfold decP; rw [hE, if_neg (by decide)], hE⟩
          have hag := agree_ok l[i] l[i]
          by_cases h0 : c[i] < 0
          · have hb := hbad (hno (by simp; omega))
            repeat' (first | refine AW.seq' ?_ | with_reducible refine AW.blockS rfl ?_ | ((first | refine AW.ops ?_ | refine AW.draw ?_ | refine AW.skip ?_ | refine AW.ret ?_ | refine AW.exit ?_) <;> simp only [RS, LS, SY, ne_eq, isFl, floatV, constA, thenQ, blockQ, pack, intA, boolA, eqA, unA, nilcA, asI, asB, asS, loadA, idxA, lenA, slcA, AV.flat, AV.one, zA1, storeA, toD, srcOf, copyA, ↓reduceIte, reduceCtorEq, List.replicate, Nat.reduceBEq, Nat.reduceAdd, Nat.reduceMul, Nat.reduceSub, Nat.reduceLeDiff, Nat.reduceLT, Int.reduceToNat, Nat.reduceEqDiff, Int.reduceEq, getD_map_lt hic, h0]) | refine AW.condT rfl ?_ | refine AW.condF rfl ?_ | ((first | (refine GI.of (fun h => ?_) (fun h => ?_) ?emm; case emm => first | exact Classical.em _ | exact (Classical.em _).symm | grind) | (refine GD.of (fun h => ?_) (fun h => ?_) ?emm; case emm => first | exact Classical.em _ | exact (Classical.em _).symm | grind)) <;> simp only [RS, LS, SY, ne_eq, isFl, floatV, constA, thenQ, blockQ, pack, intA, boolA, eqA, unA, nilcA, asI, asB, asS, loadA, idxA, lenA, slcA, AV.flat, AV.one, zA1, storeA, toD, srcOf, copyA, ↓reduceIte, reduceCtorEq, List.replicate, Nat.reduceBEq, Nat.reduceAdd, Nat.reduceMul, Nat.reduceSub, Nat.reduceLeDiff, Nat.reduceLT, Int.reduceToNat, Nat.reduceEqDiff, Int.reduceEq, getD_map_lt hic, h0, h]) | (refine AW.condP rfl (fun h => ?_) (fun h => ?_) <;> try simp only [Bool.and_eq_true, decide_eq_true_eq, Bool.not_eq_true', decide_eq_false_iff_not, Bool.not_eq_false', Bool.not_eq_true, Bool.not_eq_false] at h) | refine And.intro (by omega) ?_ | fail)
            exact decQ_nil hb.1 hb.2
          · by_cases h8 : 8 ≤ c[i]
            · have hb := hbad (hno (by simp; omega))
              repeat' (first | refine AW.seq' ?_ | with_reducible refine AW.blockS rfl ?_ | ((first | refine AW.ops ?_ | refine AW.draw ?_ | refine AW.skip ?_ | refine AW.ret ?_ | refine AW.exit ?_) <;> simp only [RS, LS, SY, ne_eq, isFl, floatV, constA, thenQ, blockQ, pack, intA, boolA, eqA, unA, nilcA, asI, asB, asS, loadA, idxA, lenA, slcA, AV.flat, AV.one, zA1, storeA, toD, srcOf, copyA, ↓reduceIte, reduceCtorEq, List.replicate, Nat.reduceBEq, Nat.reduceAdd, Nat.reduceMul, Nat.reduceSub, Nat.reduceLeDiff, Nat.reduceLT, Int.reduceToNat, Nat.reduceEqDiff, Int.reduceEq, getD_map_lt hic, h0, h8]) | refine AW.condT rfl ?_ | refine AW.condF rfl ?_ | ((first | (refine GI.of (fun h => ?_) (fun h => ?_) ?emm; case emm => first | exact Classical.em _ | exact (Classical.em _).symm | grind) | (refine GD.of (fun h => ?_) (fun h => ?_) ?emm; case emm => first | exact Classical.em _ | exact (Classical.em _).symm | grind)) <;> simp only [RS, LS, SY, ne_eq, isFl, floatV, constA, thenQ, blockQ, pack, intA, boolA, eqA, unA, nilcA, asI, asB, asS, loadA, idxA, lenA, slcA, AV.flat, AV.one, zA1, storeA, toD, srcOf, copyA, ↓reduceIte, reduceCtorEq, List.replicate, Nat.reduceBEq, Nat.reduceAdd, Nat.reduceMul, Nat.reduceSub, Nat.reduceLeDiff, Nat.reduceLT, Int.reduceToNat, Nat.reduceEqDiff, Int.reduceEq, getD_map_lt hic, h0, h8, h]) | (refine AW.condP rfl (fun h => ?_) (fun h => ?_) <;> try simp only [Bool.and_eq_true, decide_eq_true_eq, Bool.not_eq_true', decide_eq_false_iff_not, Bool.not_eq_false', Bool.not_eq_true, Bool.not_eq_false] at h) | refine And.intro (by omega) ?_ | fail)
              exact decQ_nil hb.1 hb.2
            · cases ha : agP l[i] l[i]
              · have hb := hbad (hno (by rw [ha]; simp))
                rw [ha] at hag
                repeat' (first | refine AW.seq' ?_ | with_reducible refine AW.blockS rfl ?_ | ((first | refine AW.ops ?_ | refine AW.draw ?_ | refine AW.skip ?_ | refine AW.ret ?_ | refine AW.exit ?_ | refine Fn.call (hag) rfl rfl ?_) <;> simp only [RS, LS, SY, ne_eq, isFl, floatV, constA, thenQ, blockQ, pack, intA, boolA, eqA, unA, nilcA, asI, asB, asS, loadA, idxA, lenA, slcA, AV.flat, AV.one, zA1, storeA, toD, srcOf, copyA, ↓reduceIte, reduceCtorEq, List.replicate, Nat.reduceBEq, Nat.reduceAdd, Nat.reduceMul, Nat.reduceSub, Nat.reduceLeDiff, Nat.reduceLT, Int.reduceToNat, Nat.reduceEqDiff, Int.reduceEq, getD_map_lt hic, getD_map_lt hi, h0, h8]) | refine AW.condT rfl ?_ | refine AW.condF rfl ?_ | ((first | (refine GI.of (fun h => ?_) (fun h => ?_) ?emm; case emm => first | exact Classical.em _ | exact (Classical.em _).symm | grind) | (refine GD.of (fun h => ?_) (fun h => ?_) ?emm; case emm => first | exact Classical.em _ | exact (Classical.em _).symm | grind)) <;> simp only [RS, LS, SY, ne_eq, isFl, floatV, constA, thenQ, blockQ, pack, intA, boolA, eqA, unA, nilcA, asI, asB, asS, loadA, idxA, lenA, slcA, AV.flat, AV.one, zA1, storeA, toD, srcOf, copyA, ↓reduceIte, reduceCtorEq, List.replicate, Nat.reduceBEq, Nat.reduceAdd, Nat.reduceMul, Nat.reduceSub, Nat.reduceLeDiff, Nat.reduceLT, Int.reduceToNat, Nat.reduceEqDiff, Int.reduceEq, getD_map_lt hic, getD_map_lt hi, h0, h8, h]) | (refine AW.condP rfl (fun h => ?_) (fun h => ?_) <;> try simp only [Bool.and_eq_true, decide_eq_true_eq, Bool.not_eq_true', decide_eq_false_iff_not, Bool.not_eq_false', Bool.not_eq_true, Bool.not_eq_false] at h) | refine And.intro (by omega) ?_ | fail)
                exact decQ_nil hb.1 hb.2
              · rw [ha] at hag
                repeat' (first | refine AW.seq' ?_ | with_reducible refine AW.blockS rfl ?_ | ((first | refine AW.ops ?_ | refine AW.draw ?_ | refine AW.skip ?_ | refine AW.ret ?_ | refine AW.exit ?_ | refine Fn.call (hag) rfl rfl ?_) <;> simp only [RS, LS, SY, ne_eq, isFl, floatV, constA, thenQ, blockQ, pack, intA, boolA, eqA, unA, nilcA, asI, asB, asS, loadA, idxA, lenA, slcA, AV.flat, AV.one, zA1, storeA, toD, srcOf, copyA, ↓reduceIte, reduceCtorEq, List.replicate, Nat.reduceBEq, Nat.reduceAdd, Nat.reduceMul, Nat.reduceSub, Nat.reduceLeDiff, Nat.reduceLT, Int.reduceToNat, Nat.reduceEqDiff, Int.reduceEq, getD_map_lt hic, getD_map_lt hi, h0, h8]) | refine AW.condT rfl ?_ | refine AW.condF rfl ?_ | ((first | (refine GI.of (fun h => ?_) (fun h => ?_) ?emm; case emm => first | exact Classical.em _ | exact (Classical.em _).symm | grind) | (refine GD.of (fun h => ?_) (fun h => ?_) ?emm; case emm => first | exact Classical.em _ | exact (Classical.em _).symm | grind)) <;> simp only [RS, LS, SY, ne_eq, isFl, floatV, constA, thenQ, blockQ, pack, intA, boolA, eqA, unA, nilcA, asI, asB, asS, loadA, idxA, lenA, slcA, AV.flat, AV.one, zA1, storeA, toD, srcOf, copyA, ↓reduceIte, reduceCtorEq, List.replicate, Nat.reduceBEq, Nat.reduceAdd, Nat.reduceMul, Nat.reduceSub, Nat.reduceLeDiff, Nat.reduceLT, Int.reduceToNat, Nat.reduceEqDiff, Int.reduceEq, getD_map_lt hic, getD_map_lt hi, h0, h8, h]) | (refine AW.condP rfl (fun h => ?_) (fun h => ?_) <;> try simp only [Bool.and_eq_true, decide_eq_true_eq, Bool.not_eq_true', decide_eq_false_iff_not, Bool.not_eq_false', Bool.not_eq_true, Bool.not_eq_false] at h) | refine And.intro (by omega) ?_ | fail)
                exact ⟨(), [0], by rw [hst, ha]; simp; omega, rfl, by decide, rfl, by simp [NT, belA, belL, tget, renA, renL, nmL], ⟨⟨rfl, rfl⟩, trivial⟩⟩
        · intro _ hJ
          have hok : okC c l = true := by
            unfold okC
            rw [List.take_of_length_le (by simp; omega)] at hJ
            exact hJ
          simp only [RS, LS, SY, ne_eq, isFl, floatV, constA, thenQ, blockQ, pack, intA, boolA, eqA, unA, nilcA, asI, asB, asS, loadA, idxA, lenA, slcA, AV.flat, AV.one, zA1, storeA, toD, srcOf, copyA, ↓reduceIte, reduceCtorEq, List.replicate, Nat.reduceBEq, Nat.reduceAdd, Nat.reduceMul, Nat.reduceSub, Nat.reduceLeDiff, Nat.reduceLT, Int.reduceToNat, Nat.reduceEqDiff, Int.reduceEq]
          exact ⟨hok, [0], rfl, by decide, rfl, by simp [NT, belA, belL, tget, renA, renL, nmL], ⟨⟨rfl, rfl⟩, trivial⟩⟩
      · rw [hok] at hE
        simp only [if_true] at hE
        have hD : decP c l = voteP c l := by unfold decP; rw [if_pos hE]
        obtain ⟨x, r, hS⟩ := List.exists_cons_of_ne_nil (sets_ne c l)
        have hso := sets_ok c l hc hl8
        have hb8 : ∀ y ∈ x :: r, y.1.length ≤ 8 ∧ y.2.length ≤ 8 := fun y hy => sets_len8 hl8 (by rw [hS]; exact hy)
        have hrl : (x :: r).length ≤ 256 := by
          rw [← hS]
          have h1 := setsT_len c l (2 ^ l.length)
          have h2 : 2 ^ l.length ≤ 256 := Nat.pow_le_pow_right (n := 2) (by omega) hl8
          have h3 : setsT c l (2 ^ l.length) = setsP c l := rfl
          rw [h3] at h1; omega
        rw [hS] at hso
        repeat' (first | refine AW.seq' ?_ | with_reducible refine AW.blockS rfl ?_ | ((first | refine AW.ops ?_ | refine AW.draw ?_ | refine AW.skip ?_ | refine AW.ret ?_ | refine AW.exit ?_ |  (refine own_call (g := setR) hso rfl ?_; rw [gVg_cons, gBg_cons]) |  (refine sortV_ok (S := x :: r) (by simp) (by omega) (fun y hy => (hb8 y hy).1) rfl (fun S' hp hs => ?_); obtain ⟨b, r', rfl⟩ : ∃ b r', S' = b :: r' := List.exists_cons_of_ne_nil (fun e => by subst e; simpa using hp.length_eq); have hrr : r.length = r'.length := by simpa using hp.length_eq.symm)) <;> simp (disch := omega) only [RS, LS, SY, ne_eq, isFl, floatV, constA, thenQ, blockQ, pack, intA, boolA, eqA, unA, nilcA, asI, asB, asS, loadA, idxA, lenA, slcA, AV.flat, AV.one, zA1, storeA, toD, srcOf, copyA, ↓reduceIte, reduceCtorEq, List.replicate, Nat.reduceBEq, Nat.reduceAdd, Nat.reduceMul, Nat.reduceSub, Nat.reduceLeDiff, Nat.reduceLT, Int.reduceToNat, Nat.reduceEqDiff, Int.reduceEq, wrap_id]) | refine AW.condT rfl ?_ | refine AW.condF rfl ?_ | ((first | (refine GI.of (fun h => ?_) (fun h => ?_) ?emm; case emm => first | exact Classical.em _ | exact (Classical.em _).symm | grind) | (refine GD.of (fun h => ?_) (fun h => ?_) ?emm; case emm => first | exact Classical.em _ | exact (Classical.em _).symm | grind)) <;> simp (disch := omega) only [RS, LS, SY, ne_eq, isFl, floatV, constA, thenQ, blockQ, pack, intA, boolA, eqA, unA, nilcA, asI, asB, asS, loadA, idxA, lenA, slcA, AV.flat, AV.one, zA1, storeA, toD, srcOf, copyA, ↓reduceIte, reduceCtorEq, List.replicate, Nat.reduceBEq, Nat.reduceAdd, Nat.reduceMul, Nat.reduceSub, Nat.reduceLeDiff, Nat.reduceLT, Int.reduceToNat, Nat.reduceEqDiff, Int.reduceEq, wrap_id, h]) | (refine AW.condP rfl (fun h => ?_) (fun h => ?_) <;> try simp only [Bool.and_eq_true, decide_eq_true_eq, Bool.not_eq_true', decide_eq_false_iff_not, Bool.not_eq_false', Bool.not_eq_true, Bool.not_eq_false] at h) | refine And.intro (by omega) ?_ | fail)
        have hB : Best (setsP c l) b := by rw [hS]; exact best_of_sorted hp hs
        have hV := vote_of hB
        have hmem : ∀ y, y ∈ b :: r' ↔ y ∈ setsP c l := fun y => by rw [hS]; exact hp.mem_iff
        have hbb := hb8 b (by rw [← hS]; exact hB.1)
        have h8' : ∀ y ∈ b :: r', y.1.length ≤ 8 ∧ y.2.length ≤ 8 := fun y hy => hb8 y (by rw [← hS]; exact (hmem y).1 hy)
        have hSl : (b :: r').length = r.length + 1 := by simp [hrr]
        have hrlen : r.length + 1 ≤ 256 := by simpa using hrl
        generalize hSe : b :: r' = S' at hmem h8' hSl
        refine AW.cut2 (M := fun T s => tieP (setsP c l) b = false ∧ ∃ rl, Nrm rl 0 T s [(4, .ptr 0 0 0), (9, .ptr 1 0 0)] [some (.cells 43 3 [[.ful 0 [], .ful 0 [], AB false]]), some (.cells 130 2 [[LI b.1, LI b.2]])]) ?_ (fun T s ⟨hnt, rl, hN⟩ => AW.nrm rl hN ?_)
        · refine AW.range (α := Unit) (r.length + 1) (by omega) (by decide) (fun _ _ => [(59, .own 1 0 (r.length + 1)), (4, .ptr 0 0 0), (9, .ptr 2 0 0)]) (fun _ _ => [some (.cells 43 3 [[.ful 0 [], .ful 0 [], AB false]]), some (.cells 130 2 (rowsA (S'.map setR))), some (.cells 130 2 [[LI b.1, LI b.2]])]) (fun i _ => ∀ (j : Nat) (h : j < S'.length), j < i → ¬ (S'[j].2.length = b.2.length ∧ S'[j].2 ≠ b.2)) () (fun j h hj => by omega) [0, 1, 2] ⟨rfl, by decide, rfl, by simp [NT, belA, belL, tget, renA, renL, nmL], ⟨⟨rfl, rfl⟩, ⟨⟨belB_rowsA .., by rw [renB_rowsA, ← hSe]; rfl⟩, ⟨⟨rfl, rfl⟩, trivial⟩⟩⟩⟩ (by simp) ?_ ?_
          · intro i _ hi hJ2
            unfold c36_1
            have hi' : i < S'.length := by omega
            have hx := rowsS_get hi'
            have hxm := List.getElem_mem hi'
            have hx8 := h8' _ hxm
            have heq := equal_ok S'[i].2 b.2 (by omega) (by omega)
            have hsl2 : (rowsA (S'.map setR)).length = r.length + 1 := by rw [rowsA_len, List.length_map, hSl]
            have htie : S'[i].2.length = b.2.length → S'[i].2 ≠ b.2 → decP c l = ⟨[], [], true⟩ := fun e1 e2 => by
              rw [hD, hV, (tieP_iff _ _).2 ⟨S'[i], (hmem _).1 hxm, e1, e2⟩]; rfl
            have hstep : ¬ (S'[i].2.length = b.2.length ∧ S'[i].2 ≠ b.2) → ∀ (j : Nat) (h : j < S'.length), j < i + 1 → ¬ (S'[j].2.length = b.2.length ∧ S'[j].2 ≠ b.2) := fun hn j hj hj' => by
              by_cases e : j = i
              · subst e; exact hn
              · exact hJ2 j hj (by omega)
            generalize S'[i] = X at hx hx8 heq htie hstep
            by_cases e1 : X.2.length = b.2.length
            · have e1' : (X.2.length : Int) = b.2.length := by omega
              by_cases e2 : X.2 = b.2
              · rw [decide_eq_true e2] at heq
                repeat' (first | refine AW.seq' ?_ | with_reducible refine AW.blockS rfl ?_ | ((first | refine AW.ops ?_ | refine AW.draw ?_ | refine AW.skip ?_ | refine AW.ret ?_ | refine AW.exit ?_ | refine Fn.call (heq) rfl rfl ?_) <;> simp (disch := omega) only [RS, LS, SY, ne_eq, isFl, floatV, constA, thenQ, blockQ, pack, intA, boolA, eqA, unA, nilcA, asI, asB, asS, loadA, idxA, lenA, slcA, AV.flat, AV.one, zA1, storeA, toD, srcOf, copyA, ↓reduceIte, reduceCtorEq, List.replicate, Nat.reduceBEq, Nat.reduceAdd, Nat.reduceMul, Nat.reduceSub, Nat.reduceLeDiff, Nat.reduceLT, Int.reduceToNat, Nat.reduceEqDiff, Int.reduceEq, wrap_id, hx, hsl2, e1']) | refine AW.condT rfl ?_ | refine AW.condF rfl ?_ | ((first | (refine GI.of (fun h => ?_) (fun h => ?_) ?emm; case emm => first | exact Classical.em _ | exact (Classical.em _).symm | grind) | (refine GD.of (fun h => ?_) (fun h => ?_) ?emm; case emm => first | exact Classical.em _ | exact (Classical.em _).symm | grind)) <;> simp (disch := omega) only [RS, LS, SY, ne_eq, isFl, floatV, constA, thenQ, blockQ, pack, intA, boolA, eqA, unA, nilcA, asI, asB, asS, loadA, idxA, lenA, slcA, AV.flat, AV.one, zA1, storeA, toD, srcOf, copyA, ↓reduceIte, reduceCtorEq, List.replicate, Nat.reduceBEq, Nat.reduceAdd, Nat.reduceMul, Nat.reduceSub, Nat.reduceLeDiff, Nat.reduceLT, Int.reduceToNat, Nat.reduceEqDiff, Int.reduceEq, wrap_id, hx, hsl2, e1', h]) | (refine AW.condP rfl (fun h => ?_) (fun h => ?_) <;> try simp only [Bool.and_eq_true, decide_eq_true_eq, Bool.not_eq_true', decide_eq_false_iff_not, Bool.not_eq_false', Bool.not_eq_true, Bool.not_eq_false] at h) | refine And.intro (by omega) ?_ | fail)
                exact ⟨(), [0, 1, 2], hstep (fun h => h.2 e2), rfl, by decide, rfl, by simp [NT, belA, belL, tget, renA, renL, nmL], ⟨⟨rfl, rfl⟩, ⟨⟨belB_rowsA .., by rw [renB_rowsA]; rfl⟩, ⟨⟨rfl, rfl⟩, trivial⟩⟩⟩⟩
              · rw [decide_eq_false e2] at heq
                repeat' (first | refine AW.seq' ?_ | with_reducible refine AW.blockS rfl ?_ | ((first | refine AW.ops ?_ | refine AW.draw ?_ | refine AW.skip ?_ | refine AW.ret ?_ | refine AW.exit ?_ | refine Fn.call (heq) rfl rfl ?_) <;> simp (disch := omega) only [RS, LS, SY, ne_eq, isFl, floatV, constA, thenQ, blockQ, pack, intA, boolA, eqA, unA, nilcA, asI, asB, asS, loadA, idxA, lenA, slcA, AV.flat, AV.one, zA1, storeA, toD, srcOf, copyA, ↓reduceIte, reduceCtorEq, List.replicate, Nat.reduceBEq, Nat.reduceAdd, Nat.reduceMul, Nat.reduceSub, Nat.reduceLeDiff, Nat.reduceLT, Int.reduceToNat, Nat.reduceEqDiff, Int.reduceEq, wrap_id, hx, hsl2, e1']) | refine AW.condT rfl ?_ | refine AW.condF rfl ?_ | ((first | (refine GI.of (fun h => ?_) (fun h => ?_) ?emm; case emm => first | exact Classical.em _ | exact (Classical.em _).symm | grind) | (refine GD.of (fun h => ?_) (fun h => ?_) ?emm; case emm => first | exact Classical.em _ | exact (Classical.em _).symm | grind)) <;> simp (disch := omega) only [RS, LS, SY, ne_eq, isFl, floatV, constA, thenQ, blockQ, pack, intA, boolA, eqA, unA, nilcA, asI, asB, asS, loadA, idxA, lenA, slcA, AV.flat, AV.one, zA1, storeA, toD, srcOf, copyA, ↓reduceIte, reduceCtorEq, List.replicate, Nat.reduceBEq, Nat.reduceAdd, Nat.reduceMul, Nat.reduceSub, Nat.reduceLeDiff, Nat.reduceLT, Int.reduceToNat, Nat.reduceEqDiff, Int.reduceEq, wrap_id, hx, hsl2, e1', h]) | (refine AW.condP rfl (fun h => ?_) (fun h => ?_) <;> try simp only [Bool.and_eq_true, decide_eq_true_eq, Bool.not_eq_true', decide_eq_false_iff_not, Bool.not_eq_false', Bool.not_eq_true, Bool.not_eq_false] at h) | refine And.intro (by omega) ?_ | fail)
                exact decQ_nil (htie e1 e2) hE
            · have e1' : ¬ (X.2.length : Int) = b.2.length := by omega
              repeat' (first | refine AW.seq' ?_ | with_reducible refine AW.blockS rfl ?_ | ((first | refine AW.ops ?_ | refine AW.draw ?_ | refine AW.skip ?_ | refine AW.ret ?_ | refine AW.exit ?_) <;> simp (disch := omega) only [RS, LS, SY, ne_eq, isFl, floatV, constA, thenQ, blockQ, pack, intA, boolA, eqA, unA, nilcA, asI, asB, asS, loadA, idxA, lenA, slcA, AV.flat, AV.one, zA1, storeA, toD, srcOf, copyA, ↓reduceIte, reduceCtorEq, List.replicate, Nat.reduceBEq, Nat.reduceAdd, Nat.reduceMul, Nat.reduceSub, Nat.reduceLeDiff, Nat.reduceLT, Int.reduceToNat, Nat.reduceEqDiff, Int.reduceEq, wrap_id, hx, hsl2, e1']) | refine AW.condT rfl ?_ | refine AW.condF rfl ?_ | ((first | (refine GI.of (fun h => ?_) (fun h => ?_) ?emm; case emm => first | exact Classical.em _ | exact (Classical.em _).symm | grind) | (refine GD.of (fun h => ?_) (fun h => ?_) ?emm; case emm => first | exact Classical.em _ | exact (Classical.em _).symm | grind)) <;> simp (disch := omega) only [RS, LS, SY, ne_eq, isFl, floatV, constA, thenQ, blockQ, pack, intA, boolA, eqA, unA, nilcA, asI, asB, asS, loadA, idxA, lenA, slcA, AV.flat, AV.one, zA1, storeA, toD, srcOf, copyA, ↓reduceIte, reduceCtorEq, List.replicate, Nat.reduceBEq, Nat.reduceAdd, Nat.reduceMul, Nat.reduceSub, Nat.reduceLeDiff, Nat.reduceLT, Int.reduceToNat, Nat.reduceEqDiff, Int.reduceEq, wrap_id, hx, hsl2, e1', h]) | (refine AW.condP rfl (fun h => ?_) (fun h => ?_) <;> try simp only [Bool.and_eq_true, decide_eq_true_eq, Bool.not_eq_true', decide_eq_false_iff_not, Bool.not_eq_false', Bool.not_eq_true, Bool.not_eq_false] at h) | refine And.intro (by omega) ?_ | fail)
              exact ⟨(), [0, 1, 2], hstep (fun h => e1 h.1), rfl, by decide, rfl, by simp [NT, belA, belL, tget, renA, renL, nmL], ⟨⟨rfl, rfl⟩, ⟨⟨belB_rowsA .., by rw [renB_rowsA]; rfl⟩, ⟨⟨rfl, rfl⟩, trivial⟩⟩⟩⟩
          · intro _ hJ2
            have hnt : tieP (setsP c l) b = false := by
              cases hq : tieP (setsP c l) b
              · rfl
              · obtain ⟨y, hy, e1, e2⟩ := (tieP_iff _ _).1 hq
                obtain ⟨j, hj, rfl⟩ := List.getElem_of_mem ((hmem y).2 hy)
                exact absurd ⟨e1, e2⟩ (hJ2 j hj (by omega))
            simp only [RS, LS, SY, ne_eq, isFl, floatV, constA, thenQ, blockQ, pack, intA, boolA, eqA, unA, nilcA, asI, asB, asS, loadA, idxA, lenA, slcA, AV.flat, AV.one, zA1, storeA, toD, srcOf, copyA, ↓reduceIte, reduceCtorEq, List.replicate, Nat.reduceBEq, Nat.reduceAdd, Nat.reduceMul, Nat.reduceSub, Nat.reduceLeDiff, Nat.reduceLT, Int.reduceToNat, Nat.reduceEqDiff, Int.reduceEq]
            exact ⟨hnt, [0, 2], rfl, by decide, rfl, by simp [NT, belA, belL, tget, renA, renL, nmL], ⟨⟨rfl, rfl⟩, ⟨⟨rfl, rfl⟩, trivial⟩⟩⟩
        · rw [hnt] at hV
          simp only [Bool.false_eq_true, if_false] at hV
          repeat' (first | refine AW.seq' ?_ | with_reducible refine AW.blockS rfl ?_ | ((first | refine AW.ops ?_ | refine AW.draw ?_ | refine AW.skip ?_ | refine AW.ret ?_ | refine AW.exit ?_) <;> simp only [RS, LS, SY, ne_eq, isFl, floatV, constA, thenQ, blockQ, pack, intA, boolA, eqA, unA, nilcA, asI, asB, asS, loadA, idxA, lenA, slcA, AV.flat, AV.one, zA1, storeA, toD, srcOf, copyA, ↓reduceIte, reduceCtorEq, List.replicate, Nat.reduceBEq, Nat.reduceAdd, Nat.reduceMul, Nat.reduceSub, Nat.reduceLeDiff, Nat.reduceLT, Int.reduceToNat, Nat.reduceEqDiff, Int.reduceEq]) | refine AW.condT rfl ?_ | refine AW.condF rfl ?_ | ((first | (refine GI.of (fun h => ?_) (fun h => ?_) ?emm; case emm => first | exact Classical.em _ | exact (Classical.em _).symm | grind) | (refine GD.of (fun h => ?_) (fun h => ?_) ?emm; case emm => first | exact Classical.em _ | exact (Classical.em _).symm | grind)) <;> simp only [RS, LS, SY, ne_eq, isFl, floatV, constA, thenQ, blockQ, pack, intA, boolA, eqA, unA, nilcA, asI, asB, asS, loadA, idxA, lenA, slcA, AV.flat, AV.one, zA1, storeA, toD, srcOf, copyA, ↓reduceIte, reduceCtorEq, List.replicate, Nat.reduceBEq, Nat.reduceAdd, Nat.reduceMul, Nat.reduceSub, Nat.reduceLeDiff, Nat.reduceLT, Int.reduceToNat, Nat.reduceEqDiff, Int.reduceEq, h]) | (refine AW.condP rfl (fun h => ?_) (fun h => ?_) <;> try simp only [Bool.and_eq_true, decide_eq_true_eq, Bool.not_eq_true', decide_eq_false_iff_not, Bool.not_eq_false', Bool.not_eq_true, Bool.not_eq_false] at h) | refine And.intro (by omega) ?_ | fail)
          exact ⟨_, by rw [hD, hV, hE]; exact WkL.refl _, rfl⟩
    · have hl8' : (8 : Int) < l.length := by omega
      have hE : decE c l = 2 := by unfold decE; rw [if_neg (by omega), if_pos (by omega)]
      have hD : decP c l = ⟨[], [], false⟩ := by unfold decP; rw [hE, if_neg (by decide)]
      repeat' (first | refine AW.seq' ?_ | with_reducible refine AW.blockS rfl ?_ | ((first | refine AW.ops ?_ | refine AW.draw ?_ | refine AW.skip ?_ | refine AW.ret ?_ | refine AW.exit ?_) <;> simp only [RS, LS, SY, ne_eq, isFl, floatV, constA, thenQ, blockQ, pack, intA, boolA, eqA, unA, nilcA, asI, asB, asS, loadA, idxA, lenA, slcA, AV.flat, AV.one, zA1, storeA, toD, srcOf, copyA, ↓reduceIte, reduceCtorEq, List.replicate, Nat.reduceBEq, Nat.reduceAdd, Nat.reduceMul, Nat.reduceSub, Nat.reduceLeDiff, Nat.reduceLT, Int.reduceToNat, Nat.reduceEqDiff, Int.reduceEq, hcl', hl8']) | refine AW.condT rfl ?_ | refine AW.condF rfl ?_ | ((first | (refine GI.of (fun h => ?_) (fun h => ?_) ?emm; case emm => first | exact Classical.em _ | exact (Classical.em _).symm | grind) | (refine GD.of (fun h => ?_) (fun h => ?_) ?emm; case emm => first | exact Classical.em _ | exact (Classical.em _).symm | grind)) <;> simp only [RS, LS, SY, ne_eq, isFl, floatV, constA, thenQ, blockQ, pack, intA, boolA, eqA, unA, nilcA, asI, asB, asS, loadA, idxA, lenA, slcA, AV.flat, AV.one, zA1, storeA, toD, srcOf, copyA, ↓reduceIte, reduceCtorEq, List.replicate, Nat.reduceBEq, Nat.reduceAdd, Nat.reduceMul, Nat.reduceSub, Nat.reduceLeDiff, Nat.reduceLT, Int.reduceToNat, Nat.reduceEqDiff, Int.reduceEq, hcl', hl8', h]) | (refine AW.condP rfl (fun h => ?_) (fun h => ?_) <;> try simp only [Bool.and_eq_true, decide_eq_true_eq, Bool.not_eq_true', decide_eq_false_iff_not, Bool.not_eq_false', Bool.not_eq_true, Bool.not_eq_false] at h) | refine And.intro (by omega) ?_ | fail)
      exact decQ_nil hD hE
  · have hcl' : ¬ (c.length : Int) = l.length := by omega
    have hE : decE c l = 8 := by unfold decE; rw [if_pos hcl]
    have hD : decP c l = ⟨[], [], false⟩ := by unfold decP; rw [hE, if_neg (by decide)]
    repeat' (first | refine AW.seq' ?_ | with_reducible refine AW.blockS rfl ?_ | ((first | refine AW.ops ?_ | refine AW.draw ?_ | refine AW.skip ?_ | refine AW.ret ?_ | refine AW.exit ?_) <;> simp only [RS, LS, SY, ne_eq, isFl, floatV, constA, thenQ, blockQ, pack, intA, boolA, eqA, unA, nilcA, asI, asB, asS, loadA, idxA, lenA, slcA, AV.flat, AV.one, zA1, storeA, toD, srcOf, copyA, ↓reduceIte, reduceCtorEq, List.replicate, Nat.reduceBEq, Nat.reduceAdd, Nat.reduceMul, Nat.reduceSub, Nat.reduceLeDiff, Nat.reduceLT, Int.reduceToNat, Nat.reduceEqDiff, Int.reduceEq, hcl']) | refine AW.condT rfl ?_ | refine AW.condF rfl ?_ | ((first | (refine GI.of (fun h => ?_) (fun h => ?_) ?emm; case emm => first | exact Classical.em _ | exact (Classical.em _).symm | grind) | (refine GD.of (fun h => ?_) (fun h => ?_) ?emm; case emm => first | exact Classical.em _ | exact (Classical.em _).symm | grind)) <;> simp only [RS, LS, SY, ne_eq, isFl, floatV, constA, thenQ, blockQ, pack, intA, boolA, eqA, unA, nilcA, asI, asB, asS, loadA, idxA, lenA, slcA, AV.flat, AV.one, zA1, storeA, toD, srcOf, copyA, ↓reduceIte, reduceCtorEq, List.replicate, Nat.reduceBEq, Nat.reduceAdd, Nat.reduceMul, Nat.reduceSub, Nat.reduceLeDiff, Nat.reduceLT, Int.reduceToNat, Nat.reduceEqDiff, Int.reduceEq, hcl', h]) | (refine AW.condP rfl (fun h => ?_) (fun h => ?_) <;> try simp only [Bool.and_eq_true, decide_eq_true_eq, Bool.not_eq_true', decide_eq_false_iff_not, Bool.not_eq_false', Bool.not_eq_true, Bool.not_eq_false] at h) | refine And.intro (by omega) ?_ | fail)
    exact decQ_nil hD hE
end Go.Proofs.YtipanehdmhachaaGreatDoor.H
