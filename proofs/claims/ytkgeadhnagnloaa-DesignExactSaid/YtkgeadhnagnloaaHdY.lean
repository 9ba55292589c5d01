/- Chapter 26: common causes, in the program and in the reference. -/
import Derived.Test.YtkgeadhnagnloaaHdX
set_option linter.unusedSimpArgs false
set_option linter.unusedVariables false
namespace Go.Proofs.Ytkgeadhnagnloaa.H
/-- Lists that share a part. -/
def meetB (f g : List Pt) : Bool := g.any (hasP f)
theorem rmeets_ok (f g : List Pt) (hf : f.length ≤ 1000000) (hg : g.length ≤ 1000000) : Fn Try.prog 64 [LP f, LP g] (AB (meetB f g)) := by
  refine Fn.of fn64 (by simp) rfl ?_
  unfold c64
  repeat' (first | refine AW.seq' ?_ | with_reducible refine AW.blockS rfl ?_ | ((first | refine AW.ops ?_ | refine AW.draw ?_ | refine AW.skip ?_ | refine AW.ret ?_ | refine AW.exit ?_) <;> simp only [RS, LS, SY, ne_eq, isFl, floatV, constA, thenQ, blockQ, pack, intA, boolA, eqA, unA, nilcA, asI, asB, asS, loadA, idxA, lenA, slcA, AV.flat, AV.one, zA1, storeA, toD, srcOf, copyA, ↓reduceIte, reduceCtorEq, List.replicate, Nat.reduceBEq, Nat.reduceAdd, Nat.reduceMul, Nat.reduceSub, Nat.reduceLeDiff, Nat.reduceLT, Int.reduceToNat, Nat.reduceEqDiff, Int.reduceEq]) | refine AW.condT rfl ?_ | refine AW.condF rfl ?_ | ((first | refine GI.of (fun h => ?_) (fun h => ?_) (by first | exact Classical.em _ | exact (Classical.em _).symm | grind) | refine GD.of (fun h => ?_) (fun h => ?_) (by first | exact Classical.em _ | exact (Classical.em _).symm | grind)) <;> simp only [RS, LS, SY, ne_eq, isFl, floatV, constA, thenQ, blockQ, pack, intA, boolA, eqA, unA, nilcA, asI, asB, asS, loadA, idxA, lenA, slcA, AV.flat, AV.one, zA1, storeA, toD, srcOf, copyA, ↓reduceIte, reduceCtorEq, List.replicate, Nat.reduceBEq, Nat.reduceAdd, Nat.reduceMul, Nat.reduceSub, Nat.reduceLeDiff, Nat.reduceLT, Int.reduceToNat, Nat.reduceEqDiff, Int.reduceEq, h]) | (refine AW.condP rfl (fun h => ?_) (fun h => ?_) <;> try simp only [Bool.and_eq_true, decide_eq_true_eq, Bool.not_eq_true', decide_eq_false_iff_not, Bool.not_eq_false', Bool.not_eq_true, Bool.not_eq_false] at h) | refine And.intro (by omega) ?_ | fail)
  refine AW.range (α := Unit) f.length (by omega) (by decide) (fun _ _ => [(7, LP f), (1, LP g)]) (fun _ _ => []) (fun i _ => (f.take i).all (fun p => !hasP g p) = true) () (by simp) [] ⟨rfl, by decide, rfl, by simp [NT, belA, tget, renA], trivial⟩ (by simp) ?_ ?_
  · intro i _ hi hJ
    unfold c64_0
    repeat' (first | refine AW.seq' ?_ | with_reducible refine AW.blockS rfl ?_ | ((first | refine AW.ops ?_ | refine AW.draw ?_ | refine AW.skip ?_ | refine AW.ret ?_ | refine AW.exit ?_ | refine Fn.call (rhas_ok g (by omega) _) rfl rfl ?_) <;> simp only [RS, LS, SY, ne_eq, isFl, floatV, constA, thenQ, blockQ, pack, intA, boolA, eqA, unA, nilcA, asI, asB, asS, loadA, idxA, lenA, slcA, AV.flat, AV.one, zA1, storeA, toD, srcOf, copyA, ↓reduceIte, reduceCtorEq, List.replicate, Nat.reduceBEq, Nat.reduceAdd, Nat.reduceMul, Nat.reduceSub, Nat.reduceLeDiff, Nat.reduceLT, Int.reduceToNat, Nat.reduceEqDiff, Int.reduceEq, getD_map_lt hi]) | refine AW.condT rfl ?_ | refine AW.condF rfl ?_ | ((first | refine GI.of (fun h => ?_) (fun h => ?_) (by first | exact Classical.em _ | exact (Classical.em _).symm | grind) | refine GD.of (fun h => ?_) (fun h => ?_) (by first | exact Classical.em _ | exact (Classical.em _).symm | grind)) <;> simp only [RS, LS, SY, ne_eq, isFl, floatV, constA, thenQ, blockQ, pack, intA, boolA, eqA, unA, nilcA, asI, asB, asS, loadA, idxA, lenA, slcA, AV.flat, AV.one, zA1, storeA, toD, srcOf, copyA, ↓reduceIte, reduceCtorEq, List.replicate, Nat.reduceBEq, Nat.reduceAdd, Nat.reduceMul, Nat.reduceSub, Nat.reduceLeDiff, Nat.reduceLT, Int.reduceToNat, Nat.reduceEqDiff, Int.reduceEq, getD_map_lt hi, h]) | (refine AW.condP rfl (fun h => ?_) (fun h => ?_) <;> try simp only [Bool.and_eq_true, decide_eq_true_eq, Bool.not_eq_true', decide_eq_false_iff_not, Bool.not_eq_false', Bool.not_eq_true, Bool.not_eq_false] at h) | refine And.intro (by omega) ?_ | fail)
    · have : meetB f g = true := by
        rw [meetB, List.any_eq_true]
        exact ⟨f[i], by simpa [hasP] using h, by simp [hasP]⟩
      rw [this]
    · refine ⟨(), [], ?_, rfl, by decide, rfl, by simp [NT, belA, tget, renA], trivial⟩
      rw [all_take_succ hi, hJ, h]; rfl
  · intro _ hJ
    rw [List.take_length] at hJ
    simp only [RS, LS, SY, ne_eq, isFl, floatV, constA, thenQ, blockQ, pack, intA, boolA, eqA, unA, nilcA, asI, asB, asS, loadA, idxA, lenA, slcA, AV.flat, AV.one, zA1, storeA, toD, srcOf, copyA, ↓reduceIte, reduceCtorEq, List.replicate, Nat.reduceBEq, Nat.reduceAdd, Nat.reduceMul, Nat.reduceSub, Nat.reduceLeDiff, Nat.reduceLT, Int.reduceToNat, Nat.reduceEqDiff, Int.reduceEq]
    repeat' (first | refine AW.seq' ?_ | with_reducible refine AW.blockS rfl ?_ | ((first | refine AW.ops ?_ | refine AW.draw ?_ | refine AW.skip ?_ | refine AW.ret ?_ | refine AW.exit ?_) <;> simp only [RS, LS, SY, ne_eq, isFl, floatV, constA, thenQ, blockQ, pack, intA, boolA, eqA, unA, nilcA, asI, asB, asS, loadA, idxA, lenA, slcA, AV.flat, AV.one, zA1, storeA, toD, srcOf, copyA, ↓reduceIte, reduceCtorEq, List.replicate, Nat.reduceBEq, Nat.reduceAdd, Nat.reduceMul, Nat.reduceSub, Nat.reduceLeDiff, Nat.reduceLT, Int.reduceToNat, Nat.reduceEqDiff, Int.reduceEq]) | refine AW.condT rfl ?_ | refine AW.condF rfl ?_ | ((first | refine GI.of (fun h => ?_) (fun h => ?_) (by first | exact Classical.em _ | exact (Classical.em _).symm | grind) | refine GD.of (fun h => ?_) (fun h => ?_) (by first | exact Classical.em _ | exact (Classical.em _).symm | grind)) <;> simp only [RS, LS, SY, ne_eq, isFl, floatV, constA, thenQ, blockQ, pack, intA, boolA, eqA, unA, nilcA, asI, asB, asS, loadA, idxA, lenA, slcA, AV.flat, AV.one, zA1, storeA, toD, srcOf, copyA, ↓reduceIte, reduceCtorEq, List.replicate, Nat.reduceBEq, Nat.reduceAdd, Nat.reduceMul, Nat.reduceSub, Nat.reduceLeDiff, Nat.reduceLT, Int.reduceToNat, Nat.reduceEqDiff, Int.reduceEq, h]) | (refine AW.condP rfl (fun h => ?_) (fun h => ?_) <;> try simp only [Bool.and_eq_true, decide_eq_true_eq, Bool.not_eq_true', decide_eq_false_iff_not, Bool.not_eq_false', Bool.not_eq_true, Bool.not_eq_false] at h) | refine And.intro (by omega) ?_ | fail)
    have : meetB f g = false := by
      cases hm : meetB f g
      · rfl
      · rw [meetB, List.any_eq_true] at hm
        obtain ⟨x, hx, hh⟩ := hm
        rw [List.all_eq_true] at hJ
        have := hJ x (by simpa [hasP] using hh)
        simp [hasP, hx] at this
    rw [this]
/-- What Common answers. -/
noncomputable def comP (ps : List Pt) (ls : List Ln) (gs : List Gr) (a b : Int) : List Pt :=
  if checkP ps ls gs = 0 ∧ 0 ≤ a ∧ a < gs.length ∧ 0 ≤ b ∧ b < gs.length ∧ a ≠ b then ps.filter (fun p => meetB (fallP ls [p]) (gs.getD a.toNat default).2 && meetB (fallP ls [p]) (gs.getD b.toNat default).2) else []
/-- A list that grows from nothing, its place kept. -/
def gB (l : List Pt) : Option Blk := match l with
  | [] => none
  | p :: l => some (.cells 29 2 (rowsA (pts (p :: l))))
theorem gB_nil : gB [] = none := rfl
theorem gB_cons (p : Pt) (l : List Pt) : gB (p :: l) = some (.cells 29 2 (rowsA (pts (p :: l)))) := rfl
abbrev BX (ps : List Pt) (ls : List Ln) (gs : List Gr) : Option Blk := some (.cells 27 3 [[LP ps, LN ls, LG gs]])
theorem cm11_ok (f : List Pt) (hf : f.length ≤ 1000000) {b0 b1 b2 : Option Blk} {T : Nat} (hs : ClS [b0, b1, b2, some (.cells T 1 [[LP f]])]) (x : Pt) : FnV Try.prog 63 [.ptr 3 0 0] [b0, b1, b2, some (.cells T 1 [[LP f]])] [APt x] (AB (hasP f x)) := by
  refine ACalls.keep (ACalls.of fn63 (by simp) ?_) rfl hs
  unfold c63
  repeat' (first | refine AW.seq' ?_ | with_reducible refine AW.blockS rfl ?_ | ((first | refine AW.ops ?_ | refine AW.draw ?_ | refine AW.skip ?_ | refine AW.ret ?_ | refine AW.exit ?_ | refine Fn.call (has_ok f (by omega) x) rfl rfl ?_) <;> simp only [RS, LS, SY, ne_eq, isFl, floatV, constA, thenQ, blockQ, pack, intA, boolA, eqA, unA, nilcA, asI, asB, asS, loadA, idxA, lenA, slcA, AV.flat, AV.one, zA1, storeA, toD, srcOf, copyA, ↓reduceIte, reduceCtorEq, List.replicate, Nat.reduceBEq, Nat.reduceAdd, Nat.reduceMul, Nat.reduceSub, Nat.reduceLeDiff, Nat.reduceLT, Int.reduceToNat, Nat.reduceEqDiff, Int.reduceEq]) | refine AW.condT rfl ?_ | refine AW.condF rfl ?_ | ((first | refine GI.of (fun h => ?_) (fun h => ?_) (by first | exact Classical.em _ | exact (Classical.em _).symm | grind) | refine GD.of (fun h => ?_) (fun h => ?_) (by first | exact Classical.em _ | exact (Classical.em _).symm | grind)) <;> simp only [RS, LS, SY, ne_eq, isFl, floatV, constA, thenQ, blockQ, pack, intA, boolA, eqA, unA, nilcA, asI, asB, asS, loadA, idxA, lenA, slcA, AV.flat, AV.one, zA1, storeA, toD, srcOf, copyA, ↓reduceIte, reduceCtorEq, List.replicate, Nat.reduceBEq, Nat.reduceAdd, Nat.reduceMul, Nat.reduceSub, Nat.reduceLeDiff, Nat.reduceLT, Int.reduceToNat, Nat.reduceEqDiff, Int.reduceEq, h]) | (refine AW.condP rfl (fun h => ?_) (fun h => ?_) <;> try simp only [Bool.and_eq_true, decide_eq_true_eq, Bool.not_eq_true', decide_eq_false_iff_not, Bool.not_eq_false', Bool.not_eq_true, Bool.not_eq_false] at h) | refine And.intro (by omega) ?_ | fail)
theorem cm1_ok (ps : List Pt) (ls : List Ln) (gs : List Gr) (hg : gs.length ≤ 1000000) (hgl : ∀ g ∈ gs, g.2.length ≤ 1000000) (f : List Pt) (hf : f.length ≤ 1000000) {b1 b2 : Option Blk} {T : Nat} (hs : ClS [BX ps ls gs, b1, b2, some (.cells T 1 [[LP f]])]) (a : Nat) (ha : a < gs.length) : FnV Try.prog 62 [.ptr 0 0 0, .ptr 3 0 0] [BX ps ls gs, b1, b2, some (.cells T 1 [[LP f]])] [AI .i64 a] (AB (meetB f gs[a].2)) := by
  refine ACalls.keep (ACalls.of fn62 (by simp) ?_) rfl hs
  unfold c62
  have hB1 : BodyOK Try.prog 63 = true := by kernel_rfl
  have hac : (a : Int) < gs.length := by omega
  have hgr := getD_grs ha
  have hgi := hgl _ (List.getElem_mem ha)
  repeat' (first | refine AW.seq' ?_ | with_reducible refine AW.blockS rfl ?_ | ((first | refine AW.ops ?_ | refine AW.draw ?_ | refine AW.skip ?_ | refine AW.ret ?_ | refine AW.exit ?_ |  (refine (containsf_ok (q := hasP f) (by omega) rfl hs hB1 (cm11_ok f hf hs)).mono ?_; rintro v s' ⟨rfl, rfl⟩)) <;> simp only [RS, LS, SY, ne_eq, isFl, floatV, constA, thenQ, blockQ, pack, intA, boolA, eqA, unA, nilcA, asI, asB, asS, loadA, idxA, lenA, slcA, AV.flat, AV.one, zA1, storeA, toD, srcOf, copyA, ↓reduceIte, reduceCtorEq, List.replicate, Nat.reduceBEq, Nat.reduceAdd, Nat.reduceMul, Nat.reduceSub, Nat.reduceLeDiff, Nat.reduceLT, Int.reduceToNat, Nat.reduceEqDiff, Int.reduceEq, hac, hgr, hB1]) | refine AW.condT rfl ?_ | refine AW.condF rfl ?_ | ((first | refine GI.of (fun h => ?_) (fun h => ?_) (by first | exact Classical.em _ | exact (Classical.em _).symm | grind) | refine GD.of (fun h => ?_) (fun h => ?_) (by first | exact Classical.em _ | exact (Classical.em _).symm | grind)) <;> simp only [RS, LS, SY, ne_eq, isFl, floatV, constA, thenQ, blockQ, pack, intA, boolA, eqA, unA, nilcA, asI, asB, asS, loadA, idxA, lenA, slcA, AV.flat, AV.one, zA1, storeA, toD, srcOf, copyA, ↓reduceIte, reduceCtorEq, List.replicate, Nat.reduceBEq, Nat.reduceAdd, Nat.reduceMul, Nat.reduceSub, Nat.reduceLeDiff, Nat.reduceLT, Int.reduceToNat, Nat.reduceEqDiff, Int.reduceEq, hac, hgr, hB1, h]) | (refine AW.condP rfl (fun h => ?_) (fun h => ?_) <;> try simp only [Bool.and_eq_true, decide_eq_true_eq, Bool.not_eq_true', decide_eq_false_iff_not, Bool.not_eq_false', Bool.not_eq_true, Bool.not_eq_false] at h) | refine And.intro (by omega) ?_ | fail)
  all_goals first
    | rfl
theorem cm1_call (ps : List Pt) (ls : List Ln) (gs : List Gr) (hg : gs.length ≤ 1000000) (hgl : ∀ g ∈ gs, g.2.length ≤ 1000000) (f : List Pt) (hf : f.length ≤ 1000000) {b1 b2 : Option Blk} {T : Nat} (hs : ClS [BX ps ls gs, b1, b2, some (.cells T 1 [[LP f]])]) (a : Nat) (ha : a < gs.length) {Q : AV → St → Prop} (hq : Q (AB (meetB f gs[a].2)) [BX ps ls gs, b1, b2, some (.cells T 1 [[LP f]])]) : ACalls Try.prog 62 [AI .i64 a, .ptr 0 0 0, .ptr 3 0 0] [BX ps ls gs, b1, b2, some (.cells T 1 [[LP f]])] Q :=
  (show ACalls Try.prog 62 ([AI .i64 a] ++ [.ptr 0 0 0, .ptr 3 0 0]) _ _ from cm1_ok ps ls gs hg hgl f hf hs a ha).mono fun v s' ⟨h1, h2⟩ => by rw [h1, h2]; exact hq
theorem clS_cm {ps : List Pt} {ls : List Ln} {gs : List Gr} {f out : List Pt} {p : Pt} {T : Nat} : ClS [BX ps ls gs, gB out, some (.cells 29 2 [[AI .i64 p.1, AI .i64 p.2]]), some (.cells T 1 [[LP f]])] := ClS.of ⟨rfl, by
  cases out with
  | nil => exact ⟨rfl, rfl, trivial⟩
  | cons q out => exact ⟨belB_rowsA .., rfl, rfl, trivial⟩⟩
theorem check_len {ps : List Pt} {ls : List Ln} {gs : List Gr} (hc : checkP ps ls gs = 0) : ps.length ≤ 40 ∧ ls.length ≤ 60 ∧ gs.length ≤ 6 := by
  unfold checkP at hc
  split at hc
  · cases hc
  · omega
theorem fallP_len (ls : List Ln) (B : List Pt) : (fallP ls B).length ≤ B.length + ls.length := rch_len (asc_nodup (asc_fallP ls B)) fun p hp => mem_fallP.1 hp
theorem getD_gr {gs : List Gr} {a : Nat} (h : a < gs.length) : gs.getD a default = gs[a] := by simp [h]
set_option maxHeartbeats 4000000 in
theorem common_ok (ps : List Pt) (ls : List Ln) (gs : List Gr) (hp : ps.length ≤ 1000000) (hl : ls.length ≤ 1000000) (hg : gs.length ≤ 1000000) (hgl : ∀ g ∈ gs, g.2.length ≤ 1000000) (a b : Int) : Fn Try.prog 33 [ADs ps ls (grs gs), AI .i64 a, AI .i64 b] (LP (comP ps ls gs a b)) := by
  have hck := check_ok ps ls gs hp hl hg hgl
  refine IsO.fn (ACalls.of fn33 (by simp) ?_)
  unfold c33
  by_cases hV : checkP ps ls gs = 0 ∧ 0 ≤ a ∧ a < gs.length ∧ 0 ≤ b ∧ b < gs.length ∧ a ≠ b
  · obtain ⟨hc, ha0, ha1, hb0, hb1, hab⟩ := hV
    have e : comP ps ls gs a b = ps.filter (fun p => meetB (fallP ls [p]) (gs.getD a.toNat default).2 && meetB (fallP ls [p]) (gs.getD b.toNat default).2) := by rw [comP, if_pos ⟨hc, ha0, ha1, hb0, hb1, hab⟩]
    rw [e]
    obtain ⟨a, rfl⟩ := Int.eq_ofNat_of_zero_le ha0
    obtain ⟨b, rfl⟩ := Int.eq_ofNat_of_zero_le hb0
    have ha : a < gs.length := by omega
    have hb : b < gs.length := by omega
    rw [Int.toNat_natCast, Int.toNat_natCast, getD_gr ha, getD_gr hb]
    have c1 : ¬ (a : Int) < 0 := by omega
    have c2 : ¬ (gs.length : Int) ≤ a := by omega
    have c3 : ¬ (b : Int) < 0 := by omega
    have c4 : ¬ (gs.length : Int) ≤ b := by omega
    have c5 : ¬ (a : Int) = b := hab
    obtain ⟨hps, hls, hgs⟩ := check_len hc
    generalize hq : (fun p => meetB (fallP ls [p]) gs[a].2 && meetB (fallP ls [p]) gs[b].2) = q
    repeat' (first | refine AW.seq' ?_ | with_reducible refine AW.blockS rfl ?_ | ((first | refine AW.ops ?_ | refine AW.draw ?_ | refine AW.skip ?_ | refine AW.ret ?_ | refine AW.exit ?_ | refine Fn.call (hck) rfl rfl ?_) <;> simp only [RS, LS, SY, ne_eq, isFl, floatV, constA, thenQ, blockQ, pack, intA, boolA, eqA, unA, nilcA, asI, asB, asS, loadA, idxA, lenA, slcA, AV.flat, AV.one, zA1, storeA, toD, srcOf, copyA, ↓reduceIte, reduceCtorEq, List.replicate, Nat.reduceBEq, Nat.reduceAdd, Nat.reduceMul, Nat.reduceSub, Nat.reduceLeDiff, Nat.reduceLT, Int.reduceToNat, Nat.reduceEqDiff, Int.reduceEq, hc, c1, c2, c3, c4, c5]) | refine AW.condT rfl ?_ | refine AW.condF rfl ?_ | ((first | refine GI.of (fun h => ?_) (fun h => ?_) (by first | exact Classical.em _ | exact (Classical.em _).symm | grind) | refine GD.of (fun h => ?_) (fun h => ?_) (by first | exact Classical.em _ | exact (Classical.em _).symm | grind)) <;> simp only [RS, LS, SY, ne_eq, isFl, floatV, constA, thenQ, blockQ, pack, intA, boolA, eqA, unA, nilcA, asI, asB, asS, loadA, idxA, lenA, slcA, AV.flat, AV.one, zA1, storeA, toD, srcOf, copyA, ↓reduceIte, reduceCtorEq, List.replicate, Nat.reduceBEq, Nat.reduceAdd, Nat.reduceMul, Nat.reduceSub, Nat.reduceLeDiff, Nat.reduceLT, Int.reduceToNat, Nat.reduceEqDiff, Int.reduceEq, hc, c1, c2, c3, c4, c5, h]) | (refine AW.condP rfl (fun h => ?_) (fun h => ?_) <;> try simp only [Bool.and_eq_true, decide_eq_true_eq, Bool.not_eq_true', decide_eq_false_iff_not, Bool.not_eq_false', Bool.not_eq_true, Bool.not_eq_false] at h) | refine And.intro (by omega) ?_ | fail)
    refine AW.range (α := List Pt) ps.length (by omega) (by decide) (fun _ l => [(43, LP ps), (3, .ptr 0 0 0), (1, AI .i64 a), (2, AI .i64 b), (7, gV 1 l)]) (fun _ l => [BX ps ls gs, gB l]) (fun i l => l = (ps.take i).filter q) [] (by simp) [0, 1] ⟨rfl, by decide, rfl, by simp [NT, belA, belL, tget, renA, renL, nmL, gV], ⟨⟨rfl, rfl⟩, trivial⟩⟩ (by simp) ?_ ?_
    · intro i out hi hJ
      unfold c33_0
      have hF := falls_ok ps ls gs hp hl hg hgl [ps[i]] (by simp)
      rw [fallsP, if_pos hc] at hF
      have hfl := fallP_len ls [ps[i]]
      rw [List.length_singleton] at hfl
      have hB2 : BodyOK Try.prog 62 = true := by kernel_rfl
      have hst : (ps.take (i + 1)).filter q = if q ps[i] then out ++ [ps[i]] else out := by
        rw [List.take_succ_eq_append_getElem hi, List.filter_append, ← hJ]
        by_cases hqp : q ps[i] = true <;> simp [hqp]
      have hqi : q ps[i] = (meetB (fallP ls [ps[i]]) gs[a].2 && meetB (fallP ls [ps[i]]) gs[b].2) := by rw [← hq]
      cases out with
      | nil =>
        rw [gV_nil, gB_nil]
        have hCl : ∀ T, ClS [BX ps ls gs, none, some (.cells 29 2 [[AI .i64 ps[i].1, AI .i64 ps[i].2]]), some (.cells T 1 [[LP (fallP ls [ps[i]])]])] := fun T => clS_cm (out := [])
        repeat' (first | refine AW.seq' ?_ | with_reducible refine AW.blockS rfl ?_ | ((first | refine AW.ops ?_ | refine AW.draw ?_ | refine AW.skip ?_ | refine AW.ret ?_ | refine AW.exit ?_ |  refine Fn.callW hF (.cons (.same _) (.cons (.ful _ _) .nil)) rfl rfl ?_ |  refine cm1_call ps ls gs hg hgl _ (by omega) (hCl _) a ha ?_ |  refine cm1_call ps ls gs hg hgl _ (by omega) (hCl _) b hb ?_) <;> simp only [RS, LS, SY, ne_eq, isFl, floatV, constA, thenQ, blockQ, pack, intA, boolA, eqA, unA, nilcA, asI, asB, asS, loadA, idxA, lenA, slcA, AV.flat, AV.one, zA1, storeA, toD, srcOf, copyA, ↓reduceIte, reduceCtorEq, List.replicate, Nat.reduceBEq, Nat.reduceAdd, Nat.reduceMul, Nat.reduceSub, Nat.reduceLeDiff, Nat.reduceLT, Int.reduceToNat, Nat.reduceEqDiff, Int.reduceEq, getD_map_lt hi, hB2]) | refine AW.condT rfl ?_ | refine AW.condF rfl ?_ | ((first | refine GI.of (fun h => ?_) (fun h => ?_) (by first | exact Classical.em _ | exact (Classical.em _).symm | grind) | refine GD.of (fun h => ?_) (fun h => ?_) (by first | exact Classical.em _ | exact (Classical.em _).symm | grind)) <;> simp only [RS, LS, SY, ne_eq, isFl, floatV, constA, thenQ, blockQ, pack, intA, boolA, eqA, unA, nilcA, asI, asB, asS, loadA, idxA, lenA, slcA, AV.flat, AV.one, zA1, storeA, toD, srcOf, copyA, ↓reduceIte, reduceCtorEq, List.replicate, Nat.reduceBEq, Nat.reduceAdd, Nat.reduceMul, Nat.reduceSub, Nat.reduceLeDiff, Nat.reduceLT, Int.reduceToNat, Nat.reduceEqDiff, Int.reduceEq, getD_map_lt hi, hB2, h]) | (refine AW.condP rfl (fun h => ?_) (fun h => ?_) <;> try simp only [Bool.and_eq_true, decide_eq_true_eq, Bool.not_eq_true', decide_eq_false_iff_not, Bool.not_eq_false', Bool.not_eq_true, Bool.not_eq_false] at h) | refine And.intro (by omega) ?_ | fail)
        all_goals first
          | exact ⟨[ps[i]], [0, 4], by rw [hst, hqi]; grind, rfl, by decide, rfl, by simp [NT, belA, belL, tget, renA, renL, nmL, gV_cons], ⟨⟨rfl, rfl⟩, ⟨⟨rfl, rfl⟩, trivial⟩⟩⟩
          | exact ⟨[], [0, 1], by rw [hst, hqi]; grind, rfl, by decide, rfl, by simp [NT, belA, belL, tget, renA, renL, nmL, gV_nil], ⟨⟨rfl, rfl⟩, trivial⟩⟩
      | cons x out =>
        rw [gV_cons, gB_cons]
        have hCl : ∀ T, ClS [BX ps ls gs, some (.cells 29 2 (rowsA (pts (x :: out)))), some (.cells 29 2 [[AI .i64 ps[i].1, AI .i64 ps[i].2]]), some (.cells T 1 [[LP (fallP ls [ps[i]])]])] := fun T => clS_cm (out := x :: out)
        have htk : List.take out.length (List.map ptR out) = List.map ptR out := List.take_of_length_le (by simp)
        have hol : out.length + 1 ≤ 40 := by
          have := congrArg List.length hJ
          rw [List.length_cons] at this
          have h2 := List.length_filter_le q (ps.take i)
          rw [List.length_take] at h2
          omega
        have e : rowsA (pts (x :: (out ++ [ps[i]]))) = [AV.d (dI x.fst), AV.d (dI x.snd)] :: (rowsA (List.map ptR out) ++ [[AV.d (dI ps[i].fst), AV.d (dI ps[i].snd)]]) := by simp [rowsA]
        repeat' (first | refine AW.seq' ?_ | with_reducible refine AW.blockS rfl ?_ | ((first | refine AW.ops ?_ | refine AW.draw ?_ | refine AW.skip ?_ | refine AW.ret ?_ | refine AW.exit ?_ |  refine Fn.callW hF (.cons (.same _) (.cons (.ful _ _) .nil)) rfl rfl ?_ |  refine cm1_call ps ls gs hg hgl _ (by omega) (hCl _) a ha ?_ |  refine cm1_call ps ls gs hg hgl _ (by omega) (hCl _) b hb ?_) <;> simp only [RS, LS, SY, ne_eq, isFl, floatV, constA, thenQ, blockQ, pack, intA, boolA, eqA, unA, nilcA, asI, asB, asS, loadA, idxA, lenA, slcA, AV.flat, AV.one, zA1, storeA, toD, srcOf, copyA, ↓reduceIte, reduceCtorEq, List.replicate, Nat.reduceBEq, Nat.reduceAdd, Nat.reduceMul, Nat.reduceSub, Nat.reduceLeDiff, Nat.reduceLT, Int.reduceToNat, Nat.reduceEqDiff, Int.reduceEq, getD_map_lt hi, hB2, htk]) | refine AW.condT rfl ?_ | refine AW.condF rfl ?_ | ((first | refine GI.of (fun h => ?_) (fun h => ?_) (by first | exact Classical.em _ | exact (Classical.em _).symm | grind) | refine GD.of (fun h => ?_) (fun h => ?_) (by first | exact Classical.em _ | exact (Classical.em _).symm | grind)) <;> simp only [RS, LS, SY, ne_eq, isFl, floatV, constA, thenQ, blockQ, pack, intA, boolA, eqA, unA, nilcA, asI, asB, asS, loadA, idxA, lenA, slcA, AV.flat, AV.one, zA1, storeA, toD, srcOf, copyA, ↓reduceIte, reduceCtorEq, List.replicate, Nat.reduceBEq, Nat.reduceAdd, Nat.reduceMul, Nat.reduceSub, Nat.reduceLeDiff, Nat.reduceLT, Int.reduceToNat, Nat.reduceEqDiff, Int.reduceEq, getD_map_lt hi, hB2, htk, h]) | (refine AW.condP rfl (fun h => ?_) (fun h => ?_) <;> try simp only [Bool.and_eq_true, decide_eq_true_eq, Bool.not_eq_true', decide_eq_false_iff_not, Bool.not_eq_false', Bool.not_eq_true, Bool.not_eq_false] at h) | refine And.intro (by omega) ?_ | fail)
        all_goals first
          | exact ⟨x :: (out ++ [ps[i]]), [0, 4], by rw [hst, hqi]; grind, rfl, by decide, rfl, by simp [NT, belA, belL, tget, renA, renL, nmL, gV_cons], ⟨⟨rfl, rfl⟩, ⟨⟨belB_rowsA _ _ _ (pts (x :: (out ++ [ps[i]]))), by rw [renB_rowsA, e]; rfl⟩, trivial⟩⟩⟩
          | exact ⟨x :: out, [0, 1], by rw [hst, hqi]; grind, rfl, by decide, rfl, by simp [NT, belA, belL, tget, renA, renL, nmL, gV_cons], ⟨⟨rfl, rfl⟩, ⟨⟨belB_rowsA _ _ _ (pts (x :: out)), by rw [renB_rowsA]; rfl⟩, trivial⟩⟩⟩
    · intro out hJ
      rw [List.take_length] at hJ
      rw [← hJ]
      cases out with
      | nil =>
        simp only [gV_nil, gB_nil, RS, LS, SY, ne_eq, isFl, floatV, constA, thenQ, blockQ, pack, intA, boolA, eqA, unA, nilcA, asI, asB, asS, loadA, idxA, lenA, slcA, AV.flat, AV.one, zA1, storeA, toD, srcOf, copyA, ↓reduceIte, reduceCtorEq, List.replicate, Nat.reduceBEq, Nat.reduceAdd, Nat.reduceMul, Nat.reduceSub, Nat.reduceLeDiff, Nat.reduceLT, Int.reduceToNat, Nat.reduceEqDiff, Int.reduceEq]
        repeat' (first | refine AW.seq' ?_ | with_reducible refine AW.blockS rfl ?_ | ((first | refine AW.ops ?_ | refine AW.draw ?_ | refine AW.skip ?_ | refine AW.ret ?_ | refine AW.exit ?_) <;> simp only [RS, LS, SY, ne_eq, isFl, floatV, constA, thenQ, blockQ, pack, intA, boolA, eqA, unA, nilcA, asI, asB, asS, loadA, idxA, lenA, slcA, AV.flat, AV.one, zA1, storeA, toD, srcOf, copyA, ↓reduceIte, reduceCtorEq, List.replicate, Nat.reduceBEq, Nat.reduceAdd, Nat.reduceMul, Nat.reduceSub, Nat.reduceLeDiff, Nat.reduceLT, Int.reduceToNat, Nat.reduceEqDiff, Int.reduceEq]) | refine AW.condT rfl ?_ | refine AW.condF rfl ?_ | ((first | refine GI.of (fun h => ?_) (fun h => ?_) (by first | exact Classical.em _ | exact (Classical.em _).symm | grind) | refine GD.of (fun h => ?_) (fun h => ?_) (by first | exact Classical.em _ | exact (Classical.em _).symm | grind)) <;> simp only [RS, LS, SY, ne_eq, isFl, floatV, constA, thenQ, blockQ, pack, intA, boolA, eqA, unA, nilcA, asI, asB, asS, loadA, idxA, lenA, slcA, AV.flat, AV.one, zA1, storeA, toD, srcOf, copyA, ↓reduceIte, reduceCtorEq, List.replicate, Nat.reduceBEq, Nat.reduceAdd, Nat.reduceMul, Nat.reduceSub, Nat.reduceLeDiff, Nat.reduceLT, Int.reduceToNat, Nat.reduceEqDiff, Int.reduceEq, h]) | (refine AW.condP rfl (fun h => ?_) (fun h => ?_) <;> try simp only [Bool.and_eq_true, decide_eq_true_eq, Bool.not_eq_true', decide_eq_false_iff_not, Bool.not_eq_false', Bool.not_eq_true, Bool.not_eq_false] at h) | refine And.intro (by omega) ?_ | fail)
        exact .inl ⟨rfl, _, rfl⟩
      | cons x out =>
        simp only [gV_cons, gB_cons, RS, LS, SY, ne_eq, isFl, floatV, constA, thenQ, blockQ, pack, intA, boolA, eqA, unA, nilcA, asI, asB, asS, loadA, idxA, lenA, slcA, AV.flat, AV.one, zA1, storeA, toD, srcOf, copyA, ↓reduceIte, reduceCtorEq, List.replicate, Nat.reduceBEq, Nat.reduceAdd, Nat.reduceMul, Nat.reduceSub, Nat.reduceLeDiff, Nat.reduceLT, Int.reduceToNat, Nat.reduceEqDiff, Int.reduceEq]
        repeat' (first | refine AW.seq' ?_ | with_reducible refine AW.blockS rfl ?_ | ((first | refine AW.ops ?_ | refine AW.draw ?_ | refine AW.skip ?_ | refine AW.ret ?_ | refine AW.exit ?_) <;> simp only [RS, LS, SY, ne_eq, isFl, floatV, constA, thenQ, blockQ, pack, intA, boolA, eqA, unA, nilcA, asI, asB, asS, loadA, idxA, lenA, slcA, AV.flat, AV.one, zA1, storeA, toD, srcOf, copyA, ↓reduceIte, reduceCtorEq, List.replicate, Nat.reduceBEq, Nat.reduceAdd, Nat.reduceMul, Nat.reduceSub, Nat.reduceLeDiff, Nat.reduceLT, Int.reduceToNat, Nat.reduceEqDiff, Int.reduceEq]) | refine AW.condT rfl ?_ | refine AW.condF rfl ?_ | ((first | refine GI.of (fun h => ?_) (fun h => ?_) (by first | exact Classical.em _ | exact (Classical.em _).symm | grind) | refine GD.of (fun h => ?_) (fun h => ?_) (by first | exact Classical.em _ | exact (Classical.em _).symm | grind)) <;> simp only [RS, LS, SY, ne_eq, isFl, floatV, constA, thenQ, blockQ, pack, intA, boolA, eqA, unA, nilcA, asI, asB, asS, loadA, idxA, lenA, slcA, AV.flat, AV.one, zA1, storeA, toD, srcOf, copyA, ↓reduceIte, reduceCtorEq, List.replicate, Nat.reduceBEq, Nat.reduceAdd, Nat.reduceMul, Nat.reduceSub, Nat.reduceLeDiff, Nat.reduceLT, Int.reduceToNat, Nat.reduceEqDiff, Int.reduceEq, h]) | (refine AW.condP rfl (fun h => ?_) (fun h => ?_) <;> try simp only [Bool.and_eq_true, decide_eq_true_eq, Bool.not_eq_true', decide_eq_false_iff_not, Bool.not_eq_false', Bool.not_eq_true, Bool.not_eq_false] at h) | refine And.intro (by omega) ?_ | fail)
        refine .inr ⟨1, [], rfl, ?_⟩
        rw [List.append_nil]; rfl
  · have e : comP ps ls gs a b = [] := by rw [comP, if_neg hV]
    rw [e]
    repeat' (first | refine AW.seq' ?_ | with_reducible refine AW.blockS rfl ?_ | ((first | refine AW.ops ?_ | refine AW.draw ?_ | refine AW.skip ?_ | refine AW.ret ?_ | refine AW.exit ?_ | refine Fn.call (hck) rfl rfl ?_) <;> simp only [RS, LS, SY, ne_eq, isFl, floatV, constA, thenQ, blockQ, pack, intA, boolA, eqA, unA, nilcA, asI, asB, asS, loadA, idxA, lenA, slcA, AV.flat, AV.one, zA1, storeA, toD, srcOf, copyA, ↓reduceIte, reduceCtorEq, List.replicate, Nat.reduceBEq, Nat.reduceAdd, Nat.reduceMul, Nat.reduceSub, Nat.reduceLeDiff, Nat.reduceLT, Int.reduceToNat, Nat.reduceEqDiff, Int.reduceEq]) | refine AW.condT rfl ?_ | refine AW.condF rfl ?_ | ((first | refine GI.of (fun h => ?_) (fun h => ?_) (by first | exact Classical.em _ | exact (Classical.em _).symm | grind) | refine GD.of (fun h => ?_) (fun h => ?_) (by first | exact Classical.em _ | exact (Classical.em _).symm | grind)) <;> simp only [RS, LS, SY, ne_eq, isFl, floatV, constA, thenQ, blockQ, pack, intA, boolA, eqA, unA, nilcA, asI, asB, asS, loadA, idxA, lenA, slcA, AV.flat, AV.one, zA1, storeA, toD, srcOf, copyA, ↓reduceIte, reduceCtorEq, List.replicate, Nat.reduceBEq, Nat.reduceAdd, Nat.reduceMul, Nat.reduceSub, Nat.reduceLeDiff, Nat.reduceLT, Int.reduceToNat, Nat.reduceEqDiff, Int.reduceEq, h]) | (refine AW.condP rfl (fun h => ?_) (fun h => ?_) <;> try simp only [Bool.and_eq_true, decide_eq_true_eq, Bool.not_eq_true', decide_eq_false_iff_not, Bool.not_eq_false', Bool.not_eq_true, Bool.not_eq_false] at h) | refine And.intro (by omega) ?_ | fail)
    all_goals first
      | exact .inl ⟨rfl, _, rfl⟩
      | (exfalso; omega)
      | (exfalso; grind)
end Go.Proofs.Ytkgeadhnagnloaa.H
