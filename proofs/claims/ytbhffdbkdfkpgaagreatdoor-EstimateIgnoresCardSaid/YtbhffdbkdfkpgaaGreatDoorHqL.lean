/- EstimateLoses. -/
import Derived.Test.YtbhffdbkdfkpgaaGreatDoorHqF
import Derived.Test.YtbhffdbkdfkpgaaGreatDoorHvC
set_option linter.unusedSimpArgs false
set_option linter.unusedVariables false
namespace Go.Proofs.YtbhffdbkdfkpgaaGreatDoor.H
def VFt (time : Int) (f : Fx) : Prop := f.t = time ∧ f.x ∈ [0, 0, 1, 20, -30, 1000] ∧ f.y ∈ [0, 0, 5, -20] ∧ f.e ∈ [1, 10, 50, 200]
theorem VFt.small {time : Int} {f : Fx} (h : VFt time f) : f.t = time ∧ -1000 ≤ f.x ∧ f.x ≤ 1000 ∧ -1000 ≤ f.y ∧ f.y ≤ 1000 ∧ 1 ≤ f.e ∧ f.e ≤ 200 := by
  obtain ⟨h0, h1, h2, h3⟩ := h
  simp only [List.mem_cons, List.not_mem_nil, or_false] at h1 h2 h3
  omega
theorem VFt.va {time : Int} {f : Fx} (h : VFt time f) (h0 : 0 ≤ time) (h1 : time ≤ 2147483648) : vaF f = true := by
  have := h.small
  rw [vaF_iff]; omega
theorem VFt.ok {time : Int} {f : Fx} (h : VFt time f) : okP f.x f.y = true := by
  have := h.small
  simp [okP]; omega
theorem fixT_ok {L : List Int} (hL : L.length ≤ 600) (time : Int) : SFn Tryz.prog SRC L 17 [AI .i64 time] (fun v => ∃ f, VFt time f ∧ v = AF f) := by
  refine SFn.of fn17 (by simp) fun p hp => ?_
  unfold c17
  repeat' (first | refine AW.seq' ?_ | with_reducible refine AW.blockS rfl ?_ | ((first | refine AW.ops ?_ | refine AW.draw ?_ | refine AW.skip ?_ | refine AW.ret ?_ | refine AW.exit ?_ |  (refine SFn.call (pick_ok hL [0, 0, 1, 20, -30, 1000] (by simp) (by simp)) rfl rfl (by assumption) (fun v p hp hv hb => ?_); obtain ⟨x, hx, rfl⟩ := hv) |  (refine SFn.call (pick_ok hL [0, 0, 5, -20] (by simp) (by simp)) rfl rfl (by assumption) (fun v p hp hv hb => ?_); obtain ⟨y, hy, rfl⟩ := hv) |  (refine SFn.call (pick_ok hL [1, 10, 50, 200] (by simp) (by simp)) rfl rfl (by assumption) (fun v p hp hv hb => ?_); obtain ⟨e, he, rfl⟩ := hv)) <;> simp only [RS, LS, SY, ne_eq, isFl, floatV, constA, thenQ, blockQ, pack, intA, boolA, eqA, unA, nilcA, asI, asB, asS, loadA, idxA, lenA, slcA, AV.flat, AV.one, zA1, storeA, toD, srcOf, copyA, ↓reduceIte, reduceCtorEq, List.replicate, Nat.reduceBEq, Nat.reduceAdd, Nat.reduceMul, Nat.reduceSub, Nat.reduceLeDiff, Nat.reduceLT, Int.reduceToNat, Nat.reduceEqDiff, Int.reduceEq]) | refine AW.condT rfl ?_ | refine AW.condF rfl ?_ | ((first | (refine GI.of (fun h => ?_) (fun h => ?_) ?emm; case emm => first | exact Classical.em _ | exact (Classical.em _).symm | grind) | (refine GD.of (fun h => ?_) (fun h => ?_) ?emm; case emm => first | exact Classical.em _ | exact (Classical.em _).symm | grind)) <;> simp only [RS, LS, SY, ne_eq, isFl, floatV, constA, thenQ, blockQ, pack, intA, boolA, eqA, unA, nilcA, asI, asB, asS, loadA, idxA, lenA, slcA, AV.flat, AV.one, zA1, storeA, toD, srcOf, copyA, ↓reduceIte, reduceCtorEq, List.replicate, Nat.reduceBEq, Nat.reduceAdd, Nat.reduceMul, Nat.reduceSub, Nat.reduceLeDiff, Nat.reduceLT, Int.reduceToNat, Nat.reduceEqDiff, Int.reduceEq, h]) | (refine AW.condP rfl (fun h => ?_) (fun h => ?_) <;> try simp only [Bool.and_eq_true, decide_eq_true_eq, Bool.not_eq_true', decide_eq_false_iff_not, Bool.not_eq_false', Bool.not_eq_true, Bool.not_eq_false] at h) | refine And.intro (by omega) ?_ | fail)
  exact ⟨_, hp, rfl, .inl ⟨⟨⟨time, x, y, e⟩, ⟨rfl, hx, hy, he⟩, rfl⟩, rfl⟩⟩
theorem cfg_one {r : Rf} (hr : vaR r = true) : CfgOK [r] := ⟨by simp, fun q hq => by simp at hq; subst hq; exact hr⟩
theorem st_first {r : Rf} {f : Fx} {speed : Int} (hr : vaR r = true) (hf : vaF f = true) (ht : f.t = 1) (hs : 0 ≤ speed ∧ speed ≤ 1000) :
    ∃ V, Fn Tryz.prog 10 [LR [r], AI .i64 speed, LT [tk0], AE es0, AI .i64 1, LSg [⟨1, 0, 1, f.x, f.y, f.e⟩]] (.tup [LT [trk r f 1], AE ⟨f.x, f.y, f.e, 1, 1⟩, AVt V, AI .i64 0]) := by
  have hf' := vaF_iff.1 hf
  have hr' := vaR_iff.1 hr
  have hc : ChkOK [r] speed [tk0] es0 1 := ⟨cfg_one hr, rfl, by simp [timesP]; omega, ⟨by decide, by decide⟩, ⟨by decide, by decide⟩, rfl, fun t ht hs => by simp at ht; subst ht; cases hs⟩
  have h := estep_ok hc [⟨1, 0, 1, f.x, f.y, f.e⟩] (by simp)
  have e1 : (⟨1, f.x, f.y, f.e⟩ : Fx) = f := fxE ht.symm rfl rfl rfl
  have e2 : takeP [r] [tk0] 1 [⟨1, 0, 1, f.x, f.y, f.e⟩] = [trk r f 1] := by
    rw [take1_fix, e1, ms_first hr hf (by omega)]
    simp only [if_true]
    rw [ht, tk1_trk hr hf (by omega) (by omega) (by omega)]
  have h3 := nowB_trk (r := r) (k := 1) hf (by omega) (by omega) hs (by omega) (by rw [ht]; simp; omega)
  have e3 : stepEs [r] speed [trk r f 1] es0 1 = ⟨f.x, f.y, f.e, 1, 1⟩ := by
    rw [one_good hr h3.1, h3.2, ht]; simp [trk]
  rw [e2, e3] at h
  exact ⟨_, h⟩
theorem st_none {r : Rf} {f : Fx} {speed j k : Int} {e : Es} (hr : vaR r = true) (hf : vaF f = true) (hs : 0 ≤ speed ∧ speed ≤ 1000) (h1 : f.t ≤ j) (h2 : j ≤ k) (h3 : k ≤ 2147483648) (hb : 0 ≤ e.b ∧ e.b ≤ 200000000) (he : 0 ≤ e.t ∧ e.t ≤ k) (hp : okP e.x e.y = true) (hes : e.s ≠ 0)
    (hg : k - f.t < r.st → f.e + speed * (k - f.t) ≤ 100000) (hl : ¬ k - f.t < r.st → e.b + speed * (k - e.t) ≤ 200000000) :
    ∃ V, Fn Tryz.prog 10 [LR [r], AI .i64 speed, LT [trk r f j], AE e, AI .i64 k, LSg []] (.tup [LT [trk r f k], AE (if k - f.t < r.st then ⟨f.x, f.y, f.e + speed * (k - f.t), k, 1⟩ else ⟨e.x, e.y, e.b + speed * (k - e.t), k, 2⟩), AVt V, AI .i64 0]) := by
  have hf' := vaF_iff.1 hf
  have hc : ChkOK [r] speed [trk r f j] e k := ⟨cfg_one hr, rfl, by simp [timesP]; omega, hb, he, hp, fun t ht hs => by simp at ht; subst ht; show f.t ≤ k; omega⟩
  have h := estep_ok hc [] (by simp)
  rw [take1_nil, tk1_trk hr hf h1 h2 h3] at h
  by_cases hk : k - f.t < r.st
  · have h4 := nowB_trk (r := r) hf (by omega) hk hs h3 (hg hk)
    rw [one_good hr h4.1, h4.2] at h
    rw [if_pos hk]
    exact ⟨_, h⟩
  · rw [one_lost (nowB_stale hk), if_pos hes] at h
    have hgb := grow_bound (b := speed) (c := k - e.t) (by omega) (by omega) (by omega) (by omega)
    have hgr : (growP e.b speed (k - e.t)).1 = e.b + speed * (k - e.t) := by
      unfold growP
      rw [if_neg (by omega)]
      have := hl hk
      simp only; omega
    rw [hgr] at h
    rw [if_neg hk]
    exact ⟨_, h⟩
theorem st_again {r : Rf} {f : Fx} {speed j k c : Int} {e : Es} (hr : vaR r = true) (hfz : r.fz = 0) (hf : vaF f = true) (hs : 0 ≤ speed ∧ speed ≤ 1000) (h1 : f.t ≤ j) (h2 : j ≤ k) (h2' : f.t < k) (h3 : k ≤ 2147483648) (hb : 0 ≤ e.b ∧ e.b ≤ 200000000) (he : 0 ≤ e.t ∧ e.t ≤ k) (hp : okP e.x e.y = true) (hcc : 1 ≤ c ∧ c ≤ 100000) :
    ∃ T V, Fn Tryz.prog 10 [LR [r], AI .i64 speed, LT [trk r f j], AE e, AI .i64 k, LSg [⟨1, 0, k, f.x, f.y, c⟩]] (.tup [LT [T], AE ⟨f.x, f.y, c, k, 1⟩, AVt V, AI .i64 0]) := by
  have hf' := vaF_iff.1 hf
  have hr' := vaR_iff.1 hr
  have hc : ChkOK [r] speed [trk r f j] e k := ⟨cfg_one hr, rfl, by simp [timesP]; omega, hb, he, hp, fun t ht hs => by simp at ht; subst ht; show f.t ≤ k; omega⟩
  have h := estep_ok hc [⟨1, 0, k, f.x, f.y, c⟩] (by simp)
  let f' : Fx := ⟨k, f.x, f.y, c⟩
  have hf2 : vaF f' = true := by rw [vaF_iff]; simp only [f']; omega
  have hok : okP f.x f.y = true := by simp [okP]; omega
  have hbx : boxP f.x f.y f.x f.y = 0 := by unfold boxP; rw [hok]; simp
  have hgb := grow_bound (b := r.s) (c := k - f.t) (by omega) (by omega) (by omega) (by omega)
  have hj : jumP r f f' = false := by
    unfold jumP
    simp only [f', hbx, decide_eq_false_iff_not]
    omega
  have hms : msP r (trk r f j) f' = (⟨f', f', true, 2, 1⟩, 0) := by
    unfold msP
    rw [hr, hf2, trk_va hf]
    have hlt : ¬ k ≤ f.t := by omega
    simp [trk, hlt, f', hj, hfz, sameP]
  rw [take1_fix, hms] at h
  simp only [if_true] at h
  have htk : tk1 r k ⟨f', f', true, 2, 1⟩ = ⟨f', f', true, 2, 1⟩ := by
    unfold tk1 tickP
    have hi : inP k 0 2147483648 = true := by simp [inP]; omega
    have hv : vaT ⟨f', f', true, 2, 1⟩ = true := by simp [vaT, hf2, inP]
    rw [hr, hi, hv]
    have hst : ¬ r.st ≤ 0 := by omega
    simp [f', hst]
  rw [htk] at h
  have hgr : growP c speed (k - k) = (c, 0) := by
    unfold growP
    rw [if_neg (by omega), Int.sub_self, Int.mul_zero]
    refine Prod.ext ?_ rfl
    simp only; omega
  have hnb : nowB ⟨f', f', true, 2, 1⟩ k speed = true := by
    unfold nowB useP
    simp only [hf2, f', hgr]
    simp; omega
  rw [one_good hr hnb] at h
  simp only [f', hgr] at h
  exact ⟨_, _, h⟩
set_option maxHeartbeats 8000000 in
set_option maxRecDepth 8000 in
theorem sane_ok : Fn Tryz.prog 5 [] (AB true) := by
  refine Fn.of fn5 (by simp) rfl ?_
  unfold c5
  have hr : vaR ⟨0, 5, 3, 0⟩ = true := rfl
  have hf : vaF ⟨1, 7, 0, 50⟩ = true := rfl
  have q1 := enew_ok (cfg_one hr)
  obtain ⟨V1, q2⟩ := st_first (f := ⟨1, 7, 0, 50⟩) (speed := 10) hr hf rfl (by omega)
  obtain ⟨V2, q3⟩ := st_none (f := ⟨1, 7, 0, 50⟩) (speed := 10) (j := 1) (k := 11) (e := ⟨7, 0, 50, 1, 1⟩) hr hf (by omega) (by simp) (by omega) (by omega) (by simp) (by simp) rfl (by simp) (by simp) (by simp)
  have e3 : (if (11 : Int) - (⟨1, 7, 0, 50⟩ : Fx).t < (⟨0, 5, 3, 0⟩ : Rf).st then (⟨(⟨1, 7, 0, 50⟩ : Fx).x, (⟨1, 7, 0, 50⟩ : Fx).y, (⟨1, 7, 0, 50⟩ : Fx).e + 10 * (11 - (⟨1, 7, 0, 50⟩ : Fx).t), 11, 1⟩ : Es) else ⟨7, 0, 50 + 10 * (11 - 1), 11, 2⟩) = ⟨7, 0, 150, 11, 2⟩ := rfl
  simp only at e3 q3
  rw [e3] at q3
  have q4 := holds_ok ⟨7, 0, 150, 11, 2⟩ 157 0
  have e4 : holdsP ⟨7, 0, 150, 11, 2⟩ 157 0 = true := by kernel_rfl
  rw [e4] at q4
  repeat' (first | refine AW.seq' ?_ | with_reducible refine AW.blockS rfl ?_ | ((first | refine AW.ops ?_ | refine AW.draw ?_ | refine AW.skip ?_ | refine AW.ret ?_ | refine AW.exit ?_ |  refine Fn.callW q1 (.cons (.ful _ _) .nil) rfl rfl ?_ |  refine Fn.callW q2 (.cons (.ful _ _) (.cons (.same _) (.cons (.same _) (.cons (.same _) (.cons (.same _) (.cons (.ful _ _) .nil)))))) rfl rfl ?_ |  refine Fn.callW q3 (.cons (.ful _ _) (.cons (.same _) (.cons (.same _) (.cons (.same _) (.cons (.same _) (.cons (.nil _ _) .nil)))))) rfl rfl ?_ | refine Fn.call (q4) rfl rfl ?_) <;> simp only [RS, LS, SY, ne_eq, isFl, floatV, constA, thenQ, blockQ, pack, intA, boolA, eqA, unA, nilcA, asI, asB, asS, loadA, idxA, lenA, slcA, AV.flat, AV.one, zA1, storeA, toD, srcOf, copyA, ↓reduceIte, reduceCtorEq, List.replicate, Nat.reduceBEq, Nat.reduceAdd, Nat.reduceMul, Nat.reduceSub, Nat.reduceLeDiff, Nat.reduceLT, Int.reduceToNat, Nat.reduceEqDiff, Int.reduceEq]) | refine AW.condT rfl ?_ | refine AW.condF rfl ?_ | ((first | (refine GI.of (fun h => ?_) (fun h => ?_) ?emm; case emm => first | exact Classical.em _ | exact (Classical.em _).symm | grind) | (refine GD.of (fun h => ?_) (fun h => ?_) ?emm; case emm => first | exact Classical.em _ | exact (Classical.em _).symm | grind)) <;> simp only [RS, LS, SY, ne_eq, isFl, floatV, constA, thenQ, blockQ, pack, intA, boolA, eqA, unA, nilcA, asI, asB, asS, loadA, idxA, lenA, slcA, AV.flat, AV.one, zA1, storeA, toD, srcOf, copyA, ↓reduceIte, reduceCtorEq, List.replicate, Nat.reduceBEq, Nat.reduceAdd, Nat.reduceMul, Nat.reduceSub, Nat.reduceLeDiff, Nat.reduceLT, Int.reduceToNat, Nat.reduceEqDiff, Int.reduceEq, h]) | (refine AW.condP rfl (fun h => ?_) (fun h => ?_) <;> try simp only [Bool.and_eq_true, decide_eq_true_eq, Bool.not_eq_true', decide_eq_false_iff_not, Bool.not_eq_false', Bool.not_eq_true, Bool.not_eq_false] at h) | refine And.intro (by omega) ?_ | fail)
abbrev r10 : Rf := ⟨0, 1000, 2, 0⟩
def stN (a : Nat) : Int := if a ≤ 1 then 1 else 2
def esL (f : Fx) (sp : Int) (a : Nat) : Es := ⟨f.x, f.y, f.e + sp * (a : Int), ((a + 1 : Nat) : Int), stN a⟩
theorem r10_ok : vaR r10 = true := rfl
theorem spn {sp : Int} (h0 : 0 ≤ sp) (h1 : sp ≤ 29) {a : Nat} (ha : a ≤ 30) : 0 ≤ sp * (a : Int) ∧ sp * (a : Int) ≤ 900 := by
  have h2 := Int.mul_nonneg h0 (Int.natCast_nonneg a)
  have h3 : sp * (a : Int) ≤ 29 * (a : Int) := Int.mul_le_mul_of_nonneg_right h1 (Int.natCast_nonneg a)
  omega
theorem hst0 (a : Nat) : stN a ≠ 0 := by unfold stN; split <;> decide
theorem lo_step {f : Fx} {sp : Int} (hf : VFt 1 f) (h0 : 0 ≤ sp) (h1 : sp ≤ 29) {a : Nat} (ha : a ≤ 22) : ∃ V, Fn Tryz.prog 10 [LR [r10], AI .i64 sp, LT [trk r10 f ((a + 1 : Nat) : Int)], AE (esL f sp a), AI .i64 ((a + 2 : Nat) : Int), LSg []]
    (.tup [LT [trk r10 f ((a + 2 : Nat) : Int)], AE (esL f sp (a + 1)), AVt V, AI .i64 0]) := by
  have hs := hf.small
  have hsp := spn h0 h1 (a := a) (by omega)
  have hsp2 := spn h0 h1 (a := a + 1) (by omega)
  have e1 : sp * ((a + 1 : Nat) : Int) = sp * (a : Int) + sp := by rw [Int.natCast_add, Int.mul_add]; simp
  have e2 : ((a + 2 : Nat) : Int) - f.t = ((a + 1 : Nat) : Int) := by omega
  have e3 : ((a + 2 : Nat) : Int) - ((a + 1 : Nat) : Int) = 1 := by omega
  obtain ⟨V, h⟩ := st_none (r := r10) (f := f) (speed := sp) (j := ((a + 1 : Nat) : Int)) (k := ((a + 2 : Nat) : Int)) (e := esL f sp a) r10_ok (hf.va (by omega) (by omega)) (by omega) (by omega) (by omega) (by omega) (by simp only [esL]; omega) (by simp only [esL]; omega) hf.ok (hst0 a) (by rw [e2]; omega) (by simp only [esL]; rw [e3]; omega)
  have e4 : (if ((a + 2 : Nat) : Int) - f.t < r10.st then (⟨f.x, f.y, f.e + sp * (((a + 2 : Nat) : Int) - f.t), ((a + 2 : Nat) : Int), 1⟩ : Es) else ⟨(esL f sp a).x, (esL f sp a).y, (esL f sp a).b + sp * (((a + 2 : Nat) : Int) - (esL f sp a).t), ((a + 2 : Nat) : Int), 2⟩) = esL f sp (a + 1) := by
    rw [e2]
    split
    · rename_i hh
      have hst : stN (a + 1) = 1 := by unfold stN; rw [if_pos]; simp only at hh; omega
      simp only [esL, hst]
    · rename_i hh
      have hst : stN (a + 1) = 2 := by unfold stN; rw [if_neg]; simp only at hh; omega
      simp only [esL, hst, e3, e1, Int.mul_one, Int.add_assoc]
  rw [e4] at h
  exact ⟨V, h⟩
theorem lo_once {f : Fx} {sp : Int} (hf : VFt 1 f) (h0 : 0 ≤ sp) (h1 : sp ≤ 29) {n : Nat} (hn : 3 ≤ n ∧ n ≤ 22) : ∃ V, Fn Tryz.prog 10 [LR [r10], AI .i64 sp, LT [trk r10 f 1], AE ⟨f.x, f.y, f.e, 1, 1⟩, AI .i64 ((n + 1 : Nat) : Int), LSg []]
    (.tup [LT [trk r10 f ((n + 1 : Nat) : Int)], AE (esL f sp n), AVt V, AI .i64 0]) := by
  have hs := hf.small
  have hsp := spn h0 h1 (a := n) (by omega)
  have e2 : ((n + 1 : Nat) : Int) - f.t = (n : Int) := by omega
  have e3 : ((n + 1 : Nat) : Int) - 1 = (n : Int) := by omega
  obtain ⟨V, h⟩ := st_none (r := r10) (f := f) (speed := sp) (j := 1) (k := ((n + 1 : Nat) : Int)) (e := ⟨f.x, f.y, f.e, 1, 1⟩) r10_ok (hf.va (by omega) (by omega)) (by omega) (by omega) (by omega) (by omega) (by simp only; omega) (by simp only; omega) (by simp [okP]; omega) (by simp) (by rw [e2]; omega) (by simp only; rw [e3]; omega)
  rw [e2, if_neg (by simp only; omega)] at h
  simp only [e3] at h
  have hst : stN n = 2 := by unfold stN; rw [if_neg (by omega)]
  simp only [esL, hst]
  exact ⟨V, h⟩
theorem lo_again {f : Fx} {sp : Int} (hf : VFt 1 f) (h0 : 0 ≤ sp) (h1 : sp ≤ 29) {n : Nat} (hn : 3 ≤ n ∧ n ≤ 22) : ∃ T V, Fn Tryz.prog 10 [LR [r10], AI .i64 sp, LT [trk r10 f ((n + 1 : Nat) : Int)], AE (esL f sp n), AI .i64 ((n + 2 : Nat) : Int), LSg [⟨1, 0, ((n + 2 : Nat) : Int), f.x, f.y, 50⟩]]
    (.tup [LT [T], AE ⟨f.x, f.y, 50, ((n + 2 : Nat) : Int), 1⟩, AVt V, AI .i64 0]) := by
  have hs := hf.small
  have hsp := spn h0 h1 (a := n) (by omega)
  exact st_again (r := r10) (c := 50) r10_ok rfl (hf.va (by omega) (by omega)) (by omega) (by omega) (by omega) (by omega) (by omega) (by simp only [esL]; omega) (by simp only [esL]; omega) hf.ok (by omega)
abbrev lL : AV := .ful 4 [[D.v (Value.int IntKind.i64 0), D.v (Value.int IntKind.i64 1000), D.v (Value.int IntKind.i64 2), D.v (Value.int IntKind.i64 0)]]
abbrev loT (f : Fx) (sp : Int) (n a : Nat) : Tm := [(17, AI .i64 ((a + 2 : Nat) : Int)), (16, AI .i64 n), (6, lL), (7, AI .i64 sp), (8, LT [trk r10 f ((a + 1 : Nat) : Int)]), (9, .ptr 0 0 0), (11, .ptr 1 0 0), (14, .ptr 2 0 0), (15, LT [trk r10 f 1])]
abbrev loS (f : Fx) (sp : Int) (a : Nat) : St := [some (.cells 34 5 [[AI .i64 (esL f sp a).x, AI .i64 (esL f sp a).y, AI .i64 (esL f sp a).b, AI .i64 (esL f sp a).t, AI .i64 (esL f sp a).s]]), some (.cells 57 4 [[AI .i64 f.t, AI .i64 f.x, AI .i64 f.y, AI .i64 f.e]]), some (.cells 34 5 [[AI .i64 f.x, AI .i64 f.y, AI .i64 f.e, AI .i64 1, AI .i64 1]])]
set_option maxHeartbeats 8000000 in
set_option maxRecDepth 8000 in
theorem wf_u8 {z : Int} (h : (Lit.int .u8 z).wf = true) : IntKind.u8.wrap z = z := by
  simp only [Lit.wf, Bool.and_eq_true, decide_eq_true_eq] at h
  have h1 : (0 : Int) ≤ z := h.1
  have h2 : z ≤ 255 := h.2
  rw [IntKind.wrap_u8]; omega
end Go.Proofs.YtbhffdbkdfkpgaaGreatDoor.H
