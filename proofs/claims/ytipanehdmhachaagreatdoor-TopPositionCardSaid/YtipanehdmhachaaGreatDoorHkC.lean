/- The vote of the program; its members are a list of our own. -/
import Derived.Test.YtipanehdmhachaaGreatDoorHkB
import Derived.Test.YtipanehdmhachaaGreatDoorHvJ
set_option linter.unusedSimpArgs false
set_option linter.unusedVariables false
set_option linter.unusedSectionVars false
namespace Go.Proofs.YtipanehdmhachaaGreatDoor.H
variable [DR]
open Go.Sort Go.Shelf
theorem backS0 (s l : St) : backS [] s l = s ++ l.map (Option.map (renB (nmR [] s.length))) := by
  unfold backS
  congr 1
  · refine List.ext_getElem? fun j => ?_
    rw [List.getElem?_map]
    by_cases hj : j < s.length
    · rw [List.getElem?_range hj]; simp [hj]
    · rw [List.getElem?_eq_none (by simp; omega), List.getElem?_eq_none (by omega)]; rfl
  · simp only [List.length_nil, List.drop_zero]
    refine List.map_congr_left fun b _ => ?_
    cases b <;> rfl
theorem own_callK {P : Program} {f : FuncId} {vs : List AV} {T : Nat} {m : List Int} {S : List VS} {s : St} {Q : AV → St → Prop} (h : ACalls P f vs [] fun v s' => v = gVg 0 S ∧ s' = [aBg T 2 (rowK 1 m) S, gBg 3 1 inR1 m]) (hb : belL 0 vs = true)
    (hq : Q (gVg s.length S) (s ++ [aBg T 2 (rowK (s.length + 1) m) S, gBg 3 1 inR1 m])) : ACalls P f vs s Q :=
  ACalls.frame (ft := []) h (given_nil hb) fun v s' ⟨e1, e2⟩ => by
    subst e1 e2
    rw [backS0, renA_gVg]
    have e : ([aBg T 2 (rowK 1 m) S, gBg 3 1 inR1 m] : St).map (Option.map (renB (nmR [] s.length))) = [aBg T 2 (rowK (s.length + 1) m) S, gBg 3 1 inR1 m] := by
      simp only [List.map_cons, List.map_nil, gBg_ren]
      cases S with
      | nil => rfl
      | cons x S =>
        rw [aBg_cons, aBg_cons, Option.map_some, renB_K]
        rfl
    rw [e]
    exact hq
theorem frz_rowK {kid : Nat} {m : List Int} {x : VS} : frzL kid 1 (ints m) (rowK kid m x) = (setR x).map .d ∧ fitL kid (ints m).length (rowK kid m x) := by
  unfold rowK; split
  · rename_i h
    refine ⟨?_, by simp [fitL, fitA]⟩
    simp only [frzL, frzA, if_true, List.drop_zero, List.map_cons, List.map_nil]
    rw [List.take_of_length_le (by simp), h]
  · exact ⟨rfl, by simp [fitL, fitA]⟩
theorem sortK_ok {S : List VS} {m : List Int} (h0 : 0 < S.length) (hl : S.length ≤ 1000000) (hb : ∀ x ∈ S, x.1.length ≤ 8) {s : St} {id kid : Nat} (hne : id ≠ kid) (hid : s[id]? = some (some (.cells 130 2 (S.map (rowK kid m))))) (hkd : s[kid]? = some (some (.cells 3 1 (rowsA (ints m))))) {Q : AV → St → Prop}
    (hq : ∀ S' : List VS, S'.Perm S → S'.Pairwise (fun x y => ¬ betP y x < 0) → Q (.tup []) (s.set id (some (.cells 130 2 (S'.map (rowK kid m)))))) : ACalls Tryz.prog 65 [.own id 0 S.length, .fn 66 [] []] s Q := by
  have hl2 : (S.map setR).length = S.length := List.length_map ..
  have hI : Inhabited (Fin (S.map setR).length) := ⟨⟨0, by omega⟩⟩
  rw [← hl2]
  refine sortA_ok (cf := fun x y => betP (decV x) (decV y)) (rowsD := S.map setR) (rows := S.map (rowK kid m)) (k := 2) (T := 130) (g := 66) (by simp) (fun r hr => ?_) (by omega) (by omega) (swoB fun i : Fin (S.map setR).length => decV (S.map setR)[i.1]) (fun x hx y hy => ?_) (by kernel_rfl) agg24 size24 hid (fun w K β hz => ?_) fun L hp hs => ?_
  · obtain ⟨a, _, rfl⟩ := List.mem_map.1 hr
    rfl
  · obtain ⟨a, ha, rfl⟩ := List.mem_map.1 hx
    obtain ⟨b, hb2, rfl⟩ := List.mem_map.1 hy
    simp only [decV_set]
    exact @better_ok ⟨True⟩ a b (by have := hb a ha; omega)
  · have hK : Stays w K w (fun b => K b ∨ b = (β kid).b) := ⟨fun _ h => .inl h, fun _ _ => rfl⟩
    refine ⟨fun b => K b ∨ b = (β kid).b, hK, fun b hb => ?_, fun hk => ?_, fun us h => ?_⟩
    · rcases hb with hb | hb
      · exact hz.kb b hb
      · rw [hb]; exact hz.lt ⟨_, hkd⟩
    · rcases hk with hk | hk
      · exact hz.dis id ⟨_, hid⟩ hk
      · exact hz.inj id kid ⟨_, hid⟩ ⟨_, hkd⟩ hne hk
    · have hF : FrzH w (fun b => K b ∨ b = (β kid).b) β kid 1 (ints m) := .of hz hkd hK (.inr rfl)
      have := RL_frz hK hF h (fitL_iff.2 fun v hv => by
        obtain ⟨r, hr, hv⟩ := List.mem_flatten.1 hv
        obtain ⟨x, _, rfl⟩ := List.mem_map.1 hr
        exact fitL_iff.1 frz_rowK.2 v hv)
      have e : frzL kid 1 (ints m) (S.map (rowK kid m)).flatten = (rowsA (S.map setR)).flatten := by
        rw [frzL_map, List.map_flatten, List.map_map]
        unfold rowsA
        rw [List.map_map]
        congr 1
        refine List.map_congr_left fun x _ => ?_
        simp only [Function.comp, ← frzL_map]
        exact frz_rowK.1
      rwa [e] at this
  · have e : (L.map fun i => (S.map (rowK kid m)).getD i.1 []) = (L.map fun i => S[i.1]'(Nat.lt_of_lt_of_eq i.2 hl2)).map (rowK kid m) := by
      rw [List.map_map]
      refine List.map_congr_left fun i _ => ?_
      have hi : i.1 < S.length := Nat.lt_of_lt_of_eq i.2 hl2
      simp [List.getD, hi]
    have e2 : (L.map fun i => (S.map setR)[i.1]) = (L.map fun i => S[i.1]'(Nat.lt_of_lt_of_eq i.2 hl2)).map setR := by
      rw [List.map_map]
      exact List.map_congr_left fun i _ => by simp
    rw [e2, List.pairwise_map] at hs
    simp only [decV_set] at hs
    rw [e]
    refine hq _ ?_ hs
    have := hp.map fun i => S[i.1]'(Nat.lt_of_lt_of_eq i.2 hl2)
    refine this.trans (List.Perm.of_eq ?_)
    refine List.ext_getElem (by simp) fun i h1 h2 => ?_
    simp
theorem rowsK_get {kid : Nat} {m : List Int} {S : List VS} {i : Nat} (h : i < S.length) : (S.map (rowK kid m)).getD i [] = rowK kid m S[i] := by simp [h]
def KeepQ (m cs : List Int) (v : AV) (s' : St) : Prop := ∃ id, s'[id]? = some (some (.cells 3 1 (rowsA (ints m)))) ∧ v = .tup [.agg [.own id 0 m.length, LI cs, AB false], AI .i64 0]
set_option maxHeartbeats 8000000 in
theorem decide_keep0 (c : List Int) (l : List Fx) (hcl : c.length = l.length) (hl8 : l.length ≤ 8) (hok : okC c l = true) (hnt : tieP (setsP c l) (bestP (setsP c l)) = false) {m cs : List Int} (hbest : bestP (setsP c l) = (m, cs)) (hm0 : m ≠ []) :
    ACalls Tryz.prog 36 [LI c, LF l] [] (KeepQ m cs) := by
  refine ACalls.of fn36 (by simp) ?_
  unfold c36
  have hcl' : (c.length : Int) = l.length := by omega
  have hl8' : ¬ (8 : Int) < l.length := by omega
  have hB0 := bestP_best (sets_ne c l)
  rw [hbest] at hB0 hnt
  obtain ⟨ks, hks, hqs, hms⟩ := (setsP_mem ..).1 hB0.1
  have hm : bitL l.length ks = m := (congrArg Prod.fst hms).symm
  rw [hm] at hqs
  repeat' (first | refine AW.seq' ?_ | with_reducible refine AW.blockS rfl ?_ | ((first | refine AW.ops ?_ | refine AW.draw ?_ | refine AW.skip ?_ | refine AW.ret ?_ | refine AW.exit ?_) <;> simp only [RS, LS, SY, ne_eq, isFl, floatV, constA, thenQ, blockQ, pack, intA, boolA, eqA, unA, nilcA, asI, asB, asS, loadA, idxA, lenA, slcA, AV.flat, AV.one, zA1, storeA, toD, srcOf, copyA, ↓reduceIte, reduceCtorEq, List.replicate, Nat.reduceBEq, Nat.reduceAdd, Nat.reduceMul, Nat.reduceSub, Nat.reduceLeDiff, Nat.reduceLT, Int.reduceToNat, Nat.reduceEqDiff, Int.reduceEq, hcl', hl8']) | refine AW.condT rfl ?_ | refine AW.condF rfl ?_ | ((first | (refine GI.of (fun h => ?_) (fun h => ?_) ?emm; case emm => first | exact Classical.em _ | exact (Classical.em _).symm | grind) | (refine GD.of (fun h => ?_) (fun h => ?_) ?emm; case emm => first | exact Classical.em _ | exact (Classical.em _).symm | grind)) <;> simp only [RS, LS, SY, ne_eq, isFl, floatV, constA, thenQ, blockQ, pack, intA, boolA, eqA, unA, nilcA, asI, asB, asS, loadA, idxA, lenA, slcA, AV.flat, AV.one, zA1, storeA, toD, srcOf, copyA, ↓reduceIte, reduceCtorEq, List.replicate, Nat.reduceBEq, Nat.reduceAdd, Nat.reduceMul, Nat.reduceSub, Nat.reduceLeDiff, Nat.reduceLT, Int.reduceToNat, Nat.reduceEqDiff, Int.reduceEq, hcl', hl8', h]) | (refine AW.condP rfl (fun h => ?_) (fun h => ?_) <;> try simp only [Bool.and_eq_true, decide_eq_true_eq, Bool.not_eq_true', decide_eq_false_iff_not, Bool.not_eq_false', Bool.not_eq_true, Bool.not_eq_false] at h) | refine And.intro (by omega) ?_ | fail)
  refine AW.cut2 (M := fun T s => ∃ rl, Nrm rl 0 T s [(0, LI c), (1, LF l), (4, .ptr 0 0 0)] [some (.cells 43 3 [[.ful 0 [], .ful 0 [], AB false]])]) ?_ (fun T s ⟨rl, hN⟩ => AW.nrm rl hN ?_)
  · refine AW.range (α := Unit) l.length (by omega) (by decide) (fun _ _ => [(0, LI c), (1, LF l), (24, LI c), (4, .ptr 0 0 0)]) (fun _ _ => [some (.cells 43 3 [[.ful 0 [], .ful 0 [], AB false]])]) (fun i _ => True) () trivial [0] ⟨rfl, by decide, rfl, by simp [NT, belA, belL, tget, renA, renL, nmL], ⟨⟨rfl, rfl⟩, trivial⟩⟩ (by simp) ?_ ?_
    · intro i _ hi _
      unfold c36_0
      have hic : i < c.length := by omega
      have hall := List.all_eq_true.1 hok (c[i], l[i]) (List.mem_iff_getElem.2 ⟨i, by simp; omega, by simp⟩)
      simp only [Bool.and_eq_true, decide_eq_true_eq] at hall
      obtain ⟨⟨h0, h8⟩, ha⟩ := hall
      have hag := agree_ok l[i] l[i]
      rw [ha] at hag
      have h0' : ¬ c[i] < 0 := by omega
      have h8' : ¬ 8 ≤ c[i] := by omega
      repeat' (first | refine AW.seq' ?_ | with_reducible refine AW.blockS rfl ?_ | ((first | refine AW.ops ?_ | refine AW.draw ?_ | refine AW.skip ?_ | refine AW.ret ?_ | refine AW.exit ?_ | refine Fn.call (hag) rfl rfl ?_) <;> simp only [RS, LS, SY, ne_eq, isFl, floatV, constA, thenQ, blockQ, pack, intA, boolA, eqA, unA, nilcA, asI, asB, asS, loadA, idxA, lenA, slcA, AV.flat, AV.one, zA1, storeA, toD, srcOf, copyA, ↓reduceIte, reduceCtorEq, List.replicate, Nat.reduceBEq, Nat.reduceAdd, Nat.reduceMul, Nat.reduceSub, Nat.reduceLeDiff, Nat.reduceLT, Int.reduceToNat, Nat.reduceEqDiff, Int.reduceEq, getD_map_lt hic, getD_map_lt hi, h0', h8']) | refine AW.condT rfl ?_ | refine AW.condF rfl ?_ | ((first | (refine GI.of (fun h => ?_) (fun h => ?_) ?emm; case emm => first | exact Classical.em _ | exact (Classical.em _).symm | grind) | (refine GD.of (fun h => ?_) (fun h => ?_) ?emm; case emm => first | exact Classical.em _ | exact (Classical.em _).symm | grind)) <;> simp only [RS, LS, SY, ne_eq, isFl, floatV, constA, thenQ, blockQ, pack, intA, boolA, eqA, unA, nilcA, asI, asB, asS, loadA, idxA, lenA, slcA, AV.flat, AV.one, zA1, storeA, toD, srcOf, copyA, ↓reduceIte, reduceCtorEq, List.replicate, Nat.reduceBEq, Nat.reduceAdd, Nat.reduceMul, Nat.reduceSub, Nat.reduceLeDiff, Nat.reduceLT, Int.reduceToNat, Nat.reduceEqDiff, Int.reduceEq, getD_map_lt hic, getD_map_lt hi, h0', h8', h]) | (refine AW.condP rfl (fun h => ?_) (fun h => ?_) <;> try simp only [Bool.and_eq_true, decide_eq_true_eq, Bool.not_eq_true', decide_eq_false_iff_not, Bool.not_eq_false', Bool.not_eq_true, Bool.not_eq_false] at h) | refine And.intro (by omega) ?_ | fail)
      exact ⟨(), [0], rfl, by decide, rfl, by simp [NT, belA, belL, tget, renA, renL, nmL], ⟨⟨rfl, rfl⟩, trivial⟩⟩
    · intro _ _
      simp only [RS, LS, SY, ne_eq, isFl, floatV, constA, thenQ, blockQ, pack, intA, boolA, eqA, unA, nilcA, asI, asB, asS, loadA, idxA, lenA, slcA, AV.flat, AV.one, zA1, storeA, toD, srcOf, copyA, ↓reduceIte, reduceCtorEq, List.replicate, Nat.reduceBEq, Nat.reduceAdd, Nat.reduceMul, Nat.reduceSub, Nat.reduceLeDiff, Nat.reduceLT, Int.reduceToNat, Nat.reduceEqDiff, Int.reduceEq]
      exact ⟨[0], rfl, by decide, rfl, by simp [NT, belA, belL, tget, renA, renL, nmL], ⟨⟨rfl, rfl⟩, trivial⟩⟩
  · obtain ⟨x, r, hS⟩ := List.exists_cons_of_ne_nil (sets_ne c l)
    have hso := sets_keep c l hcl hl8 hks hm hm0 hqs
    have hb8 : ∀ y ∈ x :: r, y.1.length ≤ 8 ∧ y.2.length ≤ 8 := fun y hy => sets_len8 hl8 (by rw [hS]; exact hy)
    have hrl : (x :: r).length ≤ 256 := by
      rw [← hS]
      have h1 := setsT_len c l (2 ^ l.length)
      have h2 : 2 ^ l.length ≤ 256 := Nat.pow_le_pow_right (n := 2) (by omega) hl8
      have h3 : setsT c l (2 ^ l.length) = setsP c l := rfl
      rw [h3] at h1; omega
    rw [hS] at hso
    obtain ⟨y0, m', hmy⟩ := List.exists_cons_of_ne_nil hm0
    have hgm : gBg 3 1 inR1 m = some (.cells 3 1 (rowsA (ints m))) := by rw [hmy]; rfl
    have hbs : ∀ b r', List.Perm (b :: r') (x :: r) → List.Pairwise (fun x y => ¬ betP y x < 0) (b :: r') → Best (setsP c l) b := fun b r' hp hs => by rw [hS]; exact best_of_sorted hp hs
    have hrw : rowK 2 m (m, cs) = [.own 2 0 m.length, LI cs] := rowK_eq rfl
    repeat' (first | refine AW.seq' ?_ | with_reducible refine AW.blockS rfl ?_ | ((first | refine AW.ops ?_ | refine AW.draw ?_ | refine AW.skip ?_ | refine AW.ret ?_ | refine AW.exit ?_ |  (refine own_callK hso rfl ?_; rw [gVg_cons, aBg_cons, hgm]) |  (refine sortK_ok (S := x :: r) (m := m) (kid := 2) (by simp) (by omega) (fun y hy => (hb8 y hy).1) (by decide) rfl rfl (fun S' hp hs => ?_); obtain ⟨b, r', rfl⟩ : ∃ b r', S' = b :: r' := List.exists_cons_of_ne_nil (fun e => by subst e; simpa using hp.length_eq); have hrr : r.length = r'.length := (by simpa using hp.length_eq.symm); obtain rfl := (hbs b r' hp hs).uniq hB0; simp only [List.map_cons, hrw])) <;> simp (disch := omega) only [RS, LS, SY, ne_eq, isFl, floatV, constA, thenQ, blockQ, pack, intA, boolA, eqA, unA, nilcA, asI, asB, asS, loadA, idxA, lenA, slcA, AV.flat, AV.one, zA1, storeA, toD, srcOf, copyA, ↓reduceIte, reduceCtorEq, List.replicate, Nat.reduceBEq, Nat.reduceAdd, Nat.reduceMul, Nat.reduceSub, Nat.reduceLeDiff, Nat.reduceLT, Int.reduceToNat, Nat.reduceEqDiff, Int.reduceEq, wrap_id]) | refine AW.condT rfl ?_ | refine AW.condF rfl ?_ | ((first | (refine GI.of (fun h => ?_) (fun h => ?_) ?emm; case emm => first | exact Classical.em _ | exact (Classical.em _).symm | grind) | (refine GD.of (fun h => ?_) (fun h => ?_) ?emm; case emm => first | exact Classical.em _ | exact (Classical.em _).symm | grind)) <;> simp (disch := omega) only [RS, LS, SY, ne_eq, isFl, floatV, constA, thenQ, blockQ, pack, intA, boolA, eqA, unA, nilcA, asI, asB, asS, loadA, idxA, lenA, slcA, AV.flat, AV.one, zA1, storeA, toD, srcOf, copyA, ↓reduceIte, reduceCtorEq, List.replicate, Nat.reduceBEq, Nat.reduceAdd, Nat.reduceMul, Nat.reduceSub, Nat.reduceLeDiff, Nat.reduceLT, Int.reduceToNat, Nat.reduceEqDiff, Int.reduceEq, wrap_id, h]) | (refine AW.condP rfl (fun h => ?_) (fun h => ?_) <;> try simp only [Bool.and_eq_true, decide_eq_true_eq, Bool.not_eq_true', decide_eq_false_iff_not, Bool.not_eq_false', Bool.not_eq_true, Bool.not_eq_false] at h) | refine And.intro (by omega) ?_ | fail)
    have hmem : ∀ y, y ∈ (m, cs) :: r' ↔ y ∈ setsP c l := fun y => by rw [hS]; exact hp.mem_iff
    have hbb := hb8 (m, cs) (by rw [← hS]; exact hB0.1)
    have h8' : ∀ y ∈ (m, cs) :: r', y.1.length ≤ 8 ∧ y.2.length ≤ 8 := fun y hy => hb8 y (by rw [← hS]; exact (hmem y).1 hy)
    have hSl : ((m, cs) :: r').length = r.length + 1 := by simp [hrr]
    have hrlen : r.length + 1 ≤ 256 := by simpa using hrl
    have hmm : (.own 2 0 m.length, LI cs) = ((.own 2 0 m.length, LI cs) : AV × AV) := rfl
    have hcons : ([.own 2 0 m.length, LI cs] : List AV) :: List.map (rowK 2 m) r' = ((m, cs) :: r').map (rowK 2 m) := by rw [List.map_cons, hrw]
    rw [hcons]
    generalize hSe : (m, cs) :: r' = S' at hmem h8' hSl
    refine AW.cut2 (M := fun T s => ∃ rl, Nrm rl 0 T s [(4, .ptr 0 0 0), (9, .ptr 2 0 0)] [some (.cells 43 3 [[.ful 0 [], .ful 0 [], AB false]]), some (.cells 3 1 (rowsA (ints m))), some (.cells 130 2 [[.own 1 0 m.length, LI cs]])]) ?_ (fun T s ⟨rl, hN⟩ => AW.nrm rl hN ?_)
    · refine AW.range (α := Unit) (r.length + 1) (by omega) (by decide) (fun _ _ => [(59, .own 1 0 (r.length + 1)), (4, .ptr 0 0 0), (9, .ptr 3 0 0)]) (fun _ _ => [some (.cells 43 3 [[.ful 0 [], .ful 0 [], AB false]]), some (.cells 130 2 (S'.map (rowK 2 m))), some (.cells 3 1 (rowsA (ints m))), some (.cells 130 2 [[.own 2 0 m.length, LI cs]])]) (fun i _ => True) () trivial [0, 1, 2, 3] ⟨rfl, by decide, rfl, by simp [NT, belA, belL, tget, renA, renL, nmL], ⟨⟨rfl, rfl⟩, ⟨⟨belB_K (by simp), by rw [renB_K]; rfl⟩, ⟨⟨belB_rowsA .., by rw [renB_rowsA]; rfl⟩, ⟨⟨rfl, rfl⟩, trivial⟩⟩⟩⟩⟩ (by simp) ?_ ?_
      · intro i _ hi _
        unfold c36_1
        have hi' : i < S'.length := by omega
        have hx := rowsK_get (kid := 2) (m := m) hi'
        have hxm := List.getElem_mem hi'
        have hx8 := h8' _ hxm
        have hcs8 : cs.length ≤ 8 := hbb.2
        have heq := equal_ok S'[i].2 cs (by omega) (by omega)
        have hsl2 : (S'.map (rowK 2 m)).length = r.length + 1 := by rw [List.length_map, hSl]
        have htie : ¬ (S'[i].2.length = cs.length ∧ S'[i].2 ≠ cs) := fun ⟨e1, e2⟩ => by
          have := (tieP_iff (setsP c l) (m, cs)).2 ⟨S'[i], (hmem _).1 hxm, e1, e2⟩
          rw [this] at hnt; cases hnt
        generalize S'[i] = X at hx hx8 heq htie
        have hrow : ∃ a0, rowK 2 m X = [a0, LI X.2] ∧ (a0 = .own 2 0 m.length ∨ a0 = LI X.1) := by
          by_cases e : X.1 = m
          · exact ⟨_, rowK_eq e, .inl rfl⟩
          · exact ⟨_, rowK_ne e, .inr rfl⟩
        obtain ⟨a0, hr0, ha0⟩ := hrow
        rw [hr0] at hx
        rcases ha0 with rfl | rfl
        all_goals
          by_cases e1 : X.2.length = cs.length
          · have e1' : (X.2.length : Int) = cs.length := by omega
            have e2 : X.2 = cs := Classical.byContradiction fun e => htie ⟨e1, e⟩
            rw [decide_eq_true e2] at heq
            repeat' (first | refine AW.seq' ?_ | with_reducible refine AW.blockS rfl ?_ | ((first | refine AW.ops ?_ | refine AW.draw ?_ | refine AW.skip ?_ | refine AW.ret ?_ | refine AW.exit ?_ | refine Fn.call (heq) rfl rfl ?_) <;> simp (disch := omega) only [RS, LS, SY, ne_eq, isFl, floatV, constA, thenQ, blockQ, pack, intA, boolA, eqA, unA, nilcA, asI, asB, asS, loadA, idxA, lenA, slcA, AV.flat, AV.one, zA1, storeA, toD, srcOf, copyA, ↓reduceIte, reduceCtorEq, List.replicate, Nat.reduceBEq, Nat.reduceAdd, Nat.reduceMul, Nat.reduceSub, Nat.reduceLeDiff, Nat.reduceLT, Int.reduceToNat, Nat.reduceEqDiff, Int.reduceEq, wrap_id, hx, hsl2, e1']) | refine AW.condT rfl ?_ | refine AW.condF rfl ?_ | ((first | (refine GI.of (fun h => ?_) (fun h => ?_) ?emm; case emm => first | exact Classical.em _ | exact (Classical.em _).symm | grind) | (refine GD.of (fun h => ?_) (fun h => ?_) ?emm; case emm => first | exact Classical.em _ | exact (Classical.em _).symm | grind)) <;> simp (disch := omega) only [RS, LS, SY, ne_eq, isFl, floatV, constA, thenQ, blockQ, pack, intA, boolA, eqA, unA, nilcA, asI, asB, asS, loadA, idxA, lenA, slcA, AV.flat, AV.one, zA1, storeA, toD, srcOf, copyA, ↓reduceIte, reduceCtorEq, List.replicate, Nat.reduceBEq, Nat.reduceAdd, Nat.reduceMul, Nat.reduceSub, Nat.reduceLeDiff, Nat.reduceLT, Int.reduceToNat, Nat.reduceEqDiff, Int.reduceEq, wrap_id, hx, hsl2, e1', h]) | (refine AW.condP rfl (fun h => ?_) (fun h => ?_) <;> try simp only [Bool.and_eq_true, decide_eq_true_eq, Bool.not_eq_true', decide_eq_false_iff_not, Bool.not_eq_false', Bool.not_eq_true, Bool.not_eq_false] at h) | refine And.intro (by omega) ?_ | fail)
            exact ⟨(), [0, 1, 2, 3], rfl, by decide, rfl, by simp [NT, belA, belL, tget, renA, renL, nmL], ⟨⟨rfl, rfl⟩, ⟨⟨belB_K (by simp), by rw [renB_K]; rfl⟩, ⟨⟨belB_rowsA .., by rw [renB_rowsA]; rfl⟩, ⟨⟨rfl, rfl⟩, trivial⟩⟩⟩⟩⟩
          · have e1' : ¬ (X.2.length : Int) = cs.length := by omega
            repeat' (first | refine AW.seq' ?_ | with_reducible refine AW.blockS rfl ?_ | ((first | refine AW.ops ?_ | refine AW.draw ?_ | refine AW.skip ?_ | refine AW.ret ?_ | refine AW.exit ?_) <;> simp (disch := omega) only [RS, LS, SY, ne_eq, isFl, floatV, constA, thenQ, blockQ, pack, intA, boolA, eqA, unA, nilcA, asI, asB, asS, loadA, idxA, lenA, slcA, AV.flat, AV.one, zA1, storeA, toD, srcOf, copyA, ↓reduceIte, reduceCtorEq, List.replicate, Nat.reduceBEq, Nat.reduceAdd, Nat.reduceMul, Nat.reduceSub, Nat.reduceLeDiff, Nat.reduceLT, Int.reduceToNat, Nat.reduceEqDiff, Int.reduceEq, wrap_id, hx, hsl2, e1']) | refine AW.condT rfl ?_ | refine AW.condF rfl ?_ | ((first | (refine GI.of (fun h => ?_) (fun h => ?_) ?emm; case emm => first | exact Classical.em _ | exact (Classical.em _).symm | grind) | (refine GD.of (fun h => ?_) (fun h => ?_) ?emm; case emm => first | exact Classical.em _ | exact (Classical.em _).symm | grind)) <;> simp (disch := omega) only [RS, LS, SY, ne_eq, isFl, floatV, constA, thenQ, blockQ, pack, intA, boolA, eqA, unA, nilcA, asI, asB, asS, loadA, idxA, lenA, slcA, AV.flat, AV.one, zA1, storeA, toD, srcOf, copyA, ↓reduceIte, reduceCtorEq, List.replicate, Nat.reduceBEq, Nat.reduceAdd, Nat.reduceMul, Nat.reduceSub, Nat.reduceLeDiff, Nat.reduceLT, Int.reduceToNat, Nat.reduceEqDiff, Int.reduceEq, wrap_id, hx, hsl2, e1', h]) | (refine AW.condP rfl (fun h => ?_) (fun h => ?_) <;> try simp only [Bool.and_eq_true, decide_eq_true_eq, Bool.not_eq_true', decide_eq_false_iff_not, Bool.not_eq_false', Bool.not_eq_true, Bool.not_eq_false] at h) | refine And.intro (by omega) ?_ | fail)
            exact ⟨(), [0, 1, 2, 3], rfl, by decide, rfl, by simp [NT, belA, belL, tget, renA, renL, nmL], ⟨⟨rfl, rfl⟩, ⟨⟨belB_K (by simp), by rw [renB_K]; rfl⟩, ⟨⟨belB_rowsA .., by rw [renB_rowsA]; rfl⟩, ⟨⟨rfl, rfl⟩, trivial⟩⟩⟩⟩⟩
      · intro _ _
        simp only [RS, LS, SY, ne_eq, isFl, floatV, constA, thenQ, blockQ, pack, intA, boolA, eqA, unA, nilcA, asI, asB, asS, loadA, idxA, lenA, slcA, AV.flat, AV.one, zA1, storeA, toD, srcOf, copyA, ↓reduceIte, reduceCtorEq, List.replicate, Nat.reduceBEq, Nat.reduceAdd, Nat.reduceMul, Nat.reduceSub, Nat.reduceLeDiff, Nat.reduceLT, Int.reduceToNat, Nat.reduceEqDiff, Int.reduceEq]
        exact ⟨[0, 2, 3], rfl, by decide, rfl, by simp [NT, belA, belL, tget, renA, renL, nmL], ⟨⟨rfl, rfl⟩, ⟨⟨belB_rowsA .., by rw [renB_rowsA]; rfl⟩, ⟨⟨rfl, rfl⟩, trivial⟩⟩⟩⟩
    · repeat' (first | refine AW.seq' ?_ | with_reducible refine AW.blockS rfl ?_ | ((first | refine AW.ops ?_ | refine AW.draw ?_ | refine AW.skip ?_ | refine AW.ret ?_ | refine AW.exit ?_) <;> simp only [RS, LS, SY, ne_eq, isFl, floatV, constA, thenQ, blockQ, pack, intA, boolA, eqA, unA, nilcA, asI, asB, asS, loadA, idxA, lenA, slcA, AV.flat, AV.one, zA1, storeA, toD, srcOf, copyA, ↓reduceIte, reduceCtorEq, List.replicate, Nat.reduceBEq, Nat.reduceAdd, Nat.reduceMul, Nat.reduceSub, Nat.reduceLeDiff, Nat.reduceLT, Int.reduceToNat, Nat.reduceEqDiff, Int.reduceEq]) | refine AW.condT rfl ?_ | refine AW.condF rfl ?_ | ((first | (refine GI.of (fun h => ?_) (fun h => ?_) ?emm; case emm => first | exact Classical.em _ | exact (Classical.em _).symm | grind) | (refine GD.of (fun h => ?_) (fun h => ?_) ?emm; case emm => first | exact Classical.em _ | exact (Classical.em _).symm | grind)) <;> simp only [RS, LS, SY, ne_eq, isFl, floatV, constA, thenQ, blockQ, pack, intA, boolA, eqA, unA, nilcA, asI, asB, asS, loadA, idxA, lenA, slcA, AV.flat, AV.one, zA1, storeA, toD, srcOf, copyA, ↓reduceIte, reduceCtorEq, List.replicate, Nat.reduceBEq, Nat.reduceAdd, Nat.reduceMul, Nat.reduceSub, Nat.reduceLeDiff, Nat.reduceLT, Int.reduceToNat, Nat.reduceEqDiff, Int.reduceEq, h]) | (refine AW.condP rfl (fun h => ?_) (fun h => ?_) <;> try simp only [Bool.and_eq_true, decide_eq_true_eq, Bool.not_eq_true', decide_eq_false_iff_not, Bool.not_eq_false', Bool.not_eq_true, Bool.not_eq_false] at h) | refine And.intro (by omega) ?_ | fail)
      exact ⟨1, rfl, rfl⟩
theorem rows1 (n : Nat) (m : List Int) : belB (n + 1) (.cells 3 1 (rowsA (ints m))) = true := belB_rowsA ..
/-- The members are a list of our own. -/
theorem decide_keep (c : List Int) (l : List Fx) {m cs : List Int} (hd : decP c l = ⟨m, cs, false⟩) (hm0 : m ≠ []) (hl8 : c.length = l.length ∧ l.length ≤ 8) :
    ACalls Tryz.prog 36 [LI c, LF l] [] fun v s' => v = .tup [.agg [.own 0 0 m.length, LI cs, AB false], .d (.v (.int .i64 0))] ∧ s' = [some (.cells 3 1 (rowsA (ints m)))] := by
  have hE : decE c l = 0 := by
    unfold decP at hd
    split at hd
    · assumption
    · simp only [Vt.mk.injEq] at hd; exact absurd hd.1.symm hm0
  have hok : okC c l = true := by
    unfold decE at hE
    rw [if_neg (by omega), if_neg (by omega)] at hE
    cases h : okC c l
    · rw [h] at hE; simp at hE
    · rfl
  unfold decP at hd
  rw [if_pos hE] at hd
  unfold voteP at hd
  cases ht : tieP (setsP c l) (bestP (setsP c l))
  · rw [ht] at hd
    simp only [Bool.false_eq_true, if_false, Vt.mk.injEq, and_true] at hd
    refine ACalls.pick1 (decide_keep0 c l hl8.1 hl8.2 hok ht (m := m) (cs := cs) (Prod.ext hd.1 hd.2) hm0) rfl (fun n => rows1 n m) (fun r => renB_rowsA ..) fun v s' ⟨id, h1, h2⟩ => ⟨id, h1, ?_⟩
    rw [h2]; rfl
  · rw [ht] at hd
    simp only [if_true, Vt.mk.injEq] at hd
    exact absurd hd.1.symm hm0
end Go.Proofs.YtipanehdmhachaaGreatDoor.H
