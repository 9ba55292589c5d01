/- Chapter 26: what falls, in the program. -/
import Derived.Test.YtkgeadhnagnloaaHdU
import Derived.Test.YtkgeadhnagnloaaHdM
import Derived.Test.YtkgeadhnagnloaaHdO
set_option linter.unusedSimpArgs false
set_option linter.unusedVariables false
namespace Go.Proofs.Ytkgeadhnagnloaa.H
/-- A piece of code ends normally so. -/
theorem AW.cut {P : Program} {N m : Nat} {c : Cd} {T : Tm} {s : St} {M R : Tm → St → Prop} {Q : Fl → Tm → St → Prop} (h : AW P N m c T s (thenQ M (fun _ _ _ => False))) (hM : ∀ T s, M T s → R T s) : AW P N m c T s (thenQ R Q) :=
  AW.mono h fun fl T s hq => by
    cases fl with
    | normal => exact hM T s hq
    | ret => exact hq.elim
    | exit j => exact hq.elim
theorem rows_tail {l : List Pt} {off n : Nat} (h : n = l.length - off) : ((rowsA (pts l)).drop off).take n = rowsA (pts (l.drop off)) := by
  have e : List.drop off (rowsA (pts l)) = rowsA (pts (l.drop off)) := by simp [rowsA, List.map_drop]
  rw [e, List.take_of_length_le (by simp [rowsA]; omega)]
/-! ### The map of what has fallen -/
def mpT (F : List Pt) : List (Value × Value) := F.map fun p => (encK p, .bool true)
theorem mpT_eq (F : List Pt) : mpT F = mpE (fun _ : Unit => Value.bool true) (F.map fun p => (p, ())) := by simp [mpT, mpE]
theorem tyT : MapTy Try.prog 81 29 4 KP eqK (.bool false) := mapTy (by kernel_rfl) fun w => by
  have h : zeroOf Try.prog 4 = some [.bool false] := by kernel_rfl
  have h2 : ((Try.prog).info? 4).map (fun i => match i.zero with | some (.bool b) => !b | _ => false) = some true := by kernel_rfl
  cases hi : (Try.prog).info? 4 with
  | none => rw [hi] at h2; cases h2
  | some i =>
    rw [hi] at h2
    simp only [Option.map_some, Option.some.injEq] at h2
    split at h2
    · rename_i b hb
      cases b
      · simp [zeroValue, typeInfo, hi, hb]
      · cases h2
    · cases h2
theorem mpT_one (F : List Pt) : ∀ p ∈ mpT F, p.2.oneCell' = true := by
  intro p hp
  obtain ⟨x, _, rfl⟩ := List.mem_map.1 hp
  rfl
theorem mpT_key (F : List Pt) : ∀ p ∈ mpT F, KP p.1 := by rw [mpT_eq]; exact mpE_key
theorem mpT_pl (F : List Pt) : ∀ p ∈ mpT F, Pl p.1 ∧ Pl p.2 := by
  intro p hp
  obtain ⟨x, _, rfl⟩ := List.mem_map.1 hp
  exact ⟨pl_encK x, .inr ⟨rfl, fun cs h => by cases h⟩⟩
theorem mgetT {l : List Operand} {id : Nat} {p : Pt} {F : List Pt} {s : St} {Q : AV → St → Prop} (hid : s[id]? = some (some (.mp (mpT F)))) (hq : Q (AB (decide (p ∈ F))) s) : AOp Try.prog (.mget 81 false) l [.mp id, APt p] s Q := by
  refine AOp.mget tyT (k := encK p) hid ⟨p, rfl⟩ (mpT_key F) (fun c h => by cases h) (mpT_one F) rfl ?_
  have : (getV eqK (mpT F) (encK p)).getD (.bool false) = .bool (decide (p ∈ F)) := by
    rw [mpT_eq, getV_mpE]
    cases hl : lkP (F.map fun p => (p, ())) p with
    | none =>
      have := lkP_none.1 hl
      simp at this
      simp [this]
    | some u =>
      have := lkP_some hl
      simp at this
      simp [this]
  rw [this]
  exact hq
theorem msetT {l : List Operand} {id : Nat} {p : Pt} {F : List Pt} {s : St} {Q : AV → St → Prop} (hid : s[id]? = some (some (.mp (mpT F)))) (hp : p ∉ F) (hq : Q (.tup []) (s.set id (some (.mp (mpT (F ++ [p])))))) : AOp Try.prog (.mset 81) l [.mp id, APt p, AB true] s Q := by
  refine AOp.mset tyT (k := encK p) (v := .bool true) hid ⟨p, rfl⟩ (mpT_key F) (fun c h => by cases h) (fun c h => by cases h) ?_
  have := setV_new (f := fun _ : Unit => Value.bool true) (l := F.map fun p => (p, ())) (p := p) (a := ()) (by simpa using hp)
  rw [← mpT_eq] at this
  rw [this]
  have e : mpT (F ++ [p]) = mpE (fun _ : Unit => Value.bool true) ((F.map fun p => (p, ())) ++ [(p, ())]) := by rw [mpT_eq]; simp
  rw [← e]
  exact hq
theorem mpT_get {F : List Pt} {i : Nat} {k v : Value} (h : (mpT F)[i]? = some (k, v)) : ∃ p, F[i]? = some p ∧ k = encK p ∧ v = .bool true := by
  simp only [mpT, List.getElem?_map, Option.map_eq_some_iff, Prod.mk.injEq] at h
  obtain ⟨p, h1, h2, h3⟩ := h
  exact ⟨p, h1, h2.symm, h3.symm⟩
/-! ### Collecting -/
structure Col (F : List Pt) (seen : List Nat) (out : List Pt) : Prop where
  nd : seen.Nodup
  lt : ∀ i ∈ seen, i < F.length
  ond : out.Nodup
  mem : ∀ p, p ∈ out ↔ ∃ i ∈ seen, F[i]? = some p
theorem col0 (F : List Pt) : Col F [] [] := ⟨.nil, by simp, .nil, by simp⟩
theorem nd_app {α : Type} {l : List α} {a : α} (h : l.Nodup) (ha : a ∉ l) : (l ++ [a]).Nodup := by
  rw [List.nodup_append]
  exact ⟨h, by simp, fun x hx b hb e => by simp only [List.mem_singleton] at hb; subst hb; subst e; exact ha hx⟩
theorem Col.add {F : List Pt} {seen : List Nat} {out : List Pt} (h : Col F seen out) (hF : F.Nodup) {i : Nat} {p : Pt} (hi : F[i]? = some p) (hn : i ∉ seen) : Col F (seen ++ [i]) (out ++ [p]) := by
  obtain ⟨hlt, he⟩ := List.getElem?_eq_some_iff.1 hi
  refine ⟨nd_app h.nd hn, fun j hj => ?_, nd_app h.ond fun hp => ?_, fun q => ?_⟩
  · rcases List.mem_append.1 hj with hj | hj
    · exact h.lt j hj
    · simp only [List.mem_singleton] at hj; subst hj; exact hlt
  · obtain ⟨j, hj, hjp⟩ := (h.mem p).1 hp
    obtain ⟨hjl, hje⟩ := List.getElem?_eq_some_iff.1 hjp
    have : j = i := (List.getElem_inj hF).1 (hje.trans he.symm)
    subst this
    exact hn hj
  · rw [List.mem_append, h.mem, List.mem_singleton]
    constructor
    · rintro (⟨j, h1, h2⟩ | rfl)
      · exact ⟨j, List.mem_append_left _ h1, h2⟩
      · exact ⟨i, List.mem_append_right _ (by simp), hi⟩
    · rintro ⟨j, h1, h2⟩
      rcases List.mem_append.1 h1 with h1 | h1
      · exact .inl ⟨j, h1, h2⟩
      · simp only [List.mem_singleton] at h1
        subst h1
        rw [hi] at h2
        simp only [Option.some.injEq] at h2
        exact .inr h2.symm
theorem Col.slen {F : List Pt} {seen : List Nat} {out : List Pt} (h : Col F seen out) : seen.length ≤ F.length := by
  have := nodup_len h.nd (m := List.range F.length) fun i hi => List.mem_range.2 (h.lt i hi)
  simpa using this
theorem Col.olen {F : List Pt} {seen : List Nat} {out : List Pt} (h : Col F seen out) : out.length ≤ F.length :=
  nodup_len h.ond fun p hp => by
    obtain ⟨i, _, hi⟩ := (h.mem p).1 hp
    exact List.mem_of_getElem? hi
theorem Col.fin {F : List Pt} {seen : List Nat} {out : List Pt} (h : Col F seen out) (hall : ∀ i, i < F.length → i ∈ seen) (p : Pt) : p ∈ out ↔ p ∈ F := by
  rw [h.mem]
  constructor
  · rintro ⟨i, _, hi⟩; exact List.mem_of_getElem? hi
  · intro hp
    obtain ⟨i, hi, rfl⟩ := List.getElem_of_mem hp
    exact ⟨i, hall i hi, List.getElem?_eq_getElem hi⟩
/-- A list that grows from nothing, in a block of that number. -/
def gV (id : Nat) (l : List Pt) : AV := match l with
  | [] => .ful 0 []
  | p :: l => .own id 0 (p :: l).length
def gS (l : List Pt) : St := match l with
  | [] => []
  | p :: l => [some (.cells 29 2 (rowsA (pts (p :: l))))]
theorem gV_nil (id : Nat) : gV id [] = .ful 0 [] := rfl
theorem gS_nil : gS [] = [] := rfl
theorem gV_cons (id : Nat) (p : Pt) (l : List Pt) : gV id (p :: l) = .own id 0 (p :: l).length := rfl
theorem gS_cons (p : Pt) (l : List Pt) : gS (p :: l) = [some (.cells 29 2 (rowsA (pts (p :: l))))] := rfl
theorem avV_true : avV (.bool true) = AB true := rfl
theorem pl_true : Pl (.bool true) := .inr ⟨rfl, fun cs h => by cases h⟩
set_option maxHeartbeats 2000000 in
theorem falls_tail {ls : List Ln} {B F : List Pt} (hF : ∀ r, r ∈ F ↔ Rch ls B r) (hn : F.Nodup) (hle : F.length ≤ 1000000) : AW Try.prog 63 0
    (.seq (.ops [.k (some 10) none (.asg (.const (.slice none 0 0)))])
    (.seq (.seq (.ops [.f (some 50) none (.mv (.tmp 5)), .k (some 51) none (.gen (.rng 81) [(.tmp 50)])])
    (.block 4 (.loop c25_2)))
    (.seq (.ops [.f (some 60) none (.mv (.tmp 10)), .k (some 61) none (.call 47 [(.tmp 60), (.func 42)])])
    (.seq (.ops [.f (some 62) none (.mv (.tmp 10)), .k (some 4) none (.asg (.tmp 62))]) .ret))))
    [(5, .mp 0)] [some (.mp (mpT F))] (callQ [.tmp 4] fun v s' => IsO (fallP ls B) v s') := by
  repeat' (first | refine AW.seq' ?_ | with_reducible refine AW.blockS rfl ?_ | ((first | refine AW.ops ?_ | refine AW.draw ?_ | refine AW.skip ?_ | refine AW.ret ?_ | refine AW.exit ?_ |  refine AOp.rng tyT.map rfl ?_) <;> simp only [RS, LS, SY, ne_eq, isFl, floatV, constA, thenQ, blockQ, pack, intA, boolA, eqA, unA, nilcA, asI, asB, asS, loadA, idxA, lenA, slcA, AV.flat, AV.one, zA1, storeA, toD, srcOf, copyA, ↓reduceIte, reduceCtorEq, List.replicate, Nat.reduceBEq, Nat.reduceAdd, Nat.reduceMul, Nat.reduceSub, Nat.reduceLeDiff, Nat.reduceLT, Int.reduceToNat, Nat.reduceEqDiff, Int.reduceEq]) | refine AW.condT rfl ?_ | refine AW.condF rfl ?_ | ((first | refine GI.of (fun h => ?_) (fun h => ?_) (by first | exact Classical.em _ | exact (Classical.em _).symm | grind) | refine GD.of (fun h => ?_) (fun h => ?_) (by first | exact Classical.em _ | exact (Classical.em _).symm | grind)) <;> simp only [RS, LS, SY, ne_eq, isFl, floatV, constA, thenQ, blockQ, pack, intA, boolA, eqA, unA, nilcA, asI, asB, asS, loadA, idxA, lenA, slcA, AV.flat, AV.one, zA1, storeA, toD, srcOf, copyA, ↓reduceIte, reduceCtorEq, List.replicate, Nat.reduceBEq, Nat.reduceAdd, Nat.reduceMul, Nat.reduceSub, Nat.reduceLeDiff, Nat.reduceLT, Int.reduceToNat, Nat.reduceEqDiff, Int.reduceEq, h]) | (refine AW.condP rfl (fun h => ?_) (fun h => ?_) <;> try simp only [Bool.and_eq_true, decide_eq_true_eq, Bool.not_eq_true', decide_eq_false_iff_not, Bool.not_eq_false', Bool.not_eq_true, Bool.not_eq_false] at h) | refine And.intro (by omega) ?_ | fail)
  have hlen : (mpT F).length = F.length := by simp [mpT]
  refine AW.block ?_
  refine AW.loopA (α := List Nat × List Pt) (fun a => F.length - a.1.length) (fun a => [(51, .ptr 1 0 0), (10, gV 2 a.2)]) (fun a => some (.mp (mpT F)) :: some (.it 0 (mpT F).length a.1) :: gS a.2) (fun a => Col F a.1 a.2) ([], []) (col0 F) [0, 1] ⟨rfl, by decide, rfl, by simp [NT, belA, belL, tget, renA, renL, gV, nmL], ⟨⟨rfl, rfl⟩, ⟨⟨rfl, rfl⟩, trivial⟩⟩⟩ ?_
  rintro ⟨seen, out⟩ hC
  simp only at hC ⊢
  unfold c25_2
  have hol := hC.olen
  have hfin : ∀ l' : List Pt, l'.Perm out → l'.Pairwise (fun x y => ¬ cmpP y x < 0) → (∀ i, i < F.length → i ∈ seen) → l' = fallP ls B := fun l' h1 h2 hall =>
    fallP_is (sorted_asc (h1.nodup_iff.2 hC.ond) h2) fun q => by rw [h1.mem_iff, hC.fin hall, hF]
  cases out with
  | nil =>
    simp only [gV_nil, gS_nil]
    repeat' (first | refine AW.seq' ?_ | with_reducible refine AW.blockS rfl ?_ | ((first | refine AW.ops ?_ | refine AW.draw ?_ | refine AW.skip ?_ | refine AW.ret ?_ | refine AW.exit ?_ |  (refine AOp.nxt rfl rfl (mpT_pl F) (fun hall => ?_) (fun i k v hg hns => ?_); rotate_left; obtain ⟨p, hp, rfl, rfl⟩ := mpT_get hg; rotate_left) |  refine AOp.ent rfl rfl (by assumption) (pl_encK _) pl_true ?_ |  refine sortnil_ok ?_) <;> simp only [RS, LS, SY, ne_eq, isFl, floatV, constA, thenQ, blockQ, pack, intA, boolA, eqA, unA, nilcA, asI, asB, asS, loadA, idxA, lenA, slcA, AV.flat, AV.one, zA1, storeA, toD, srcOf, copyA, ↓reduceIte, reduceCtorEq, List.replicate, Nat.reduceBEq, Nat.reduceAdd, Nat.reduceMul, Nat.reduceSub, Nat.reduceLeDiff, Nat.reduceLT, Int.reduceToNat, Nat.reduceEqDiff, Int.reduceEq, avV_encK, avV_true]) | refine AW.condT rfl ?_ | refine AW.condF rfl ?_ | ((first | refine GI.of (fun h => ?_) (fun h => ?_) (by first | exact Classical.em _ | exact (Classical.em _).symm | grind) | refine GD.of (fun h => ?_) (fun h => ?_) (by first | exact Classical.em _ | exact (Classical.em _).symm | grind)) <;> simp only [RS, LS, SY, ne_eq, isFl, floatV, constA, thenQ, blockQ, pack, intA, boolA, eqA, unA, nilcA, asI, asB, asS, loadA, idxA, lenA, slcA, AV.flat, AV.one, zA1, storeA, toD, srcOf, copyA, ↓reduceIte, reduceCtorEq, List.replicate, Nat.reduceBEq, Nat.reduceAdd, Nat.reduceMul, Nat.reduceSub, Nat.reduceLeDiff, Nat.reduceLT, Int.reduceToNat, Nat.reduceEqDiff, Int.reduceEq, avV_encK, avV_true, h]) | (refine AW.condP rfl (fun h => ?_) (fun h => ?_) <;> try simp only [Bool.and_eq_true, decide_eq_true_eq, Bool.not_eq_true', decide_eq_false_iff_not, Bool.not_eq_false', Bool.not_eq_true, Bool.not_eq_false] at h) | refine And.intro (by omega) ?_ | fail)
    · exact .inl ⟨(hfin [] (.refl _) .nil (by rwa [hlen] at hall)).symm, _, rfl⟩
    · have hA := hC.add hn hp hns
      have := hA.slen
      refine ⟨(seen ++ [i], [p]), [0, 1, 3], hA, by simp at this ⊢; omega, rfl, by decide, rfl, ?_, ⟨⟨rfl, rfl⟩, ⟨⟨rfl, rfl⟩, ⟨⟨belB_rowsA _ _ _ (pts [p]), by first | rfl | (rw [renB_rowsA]; rfl)⟩, trivial⟩⟩⟩⟩
      simp [NT, belA, belL, tget, renA, renL, nmL, gV_cons, gS_cons]
  | cons q out =>
    simp only [gV_cons, gS_cons]
    have hol' : out.length + 1 ≤ 1000000 := by simp only [List.length_cons] at hol; omega
    have htk : List.take out.length (List.map ptR out) = List.map ptR out := List.take_of_length_le (by simp)
    repeat' (first | refine AW.seq' ?_ | with_reducible refine AW.blockS rfl ?_ | ((first | refine AW.ops ?_ | refine AW.draw ?_ | refine AW.skip ?_ | refine AW.ret ?_ | refine AW.exit ?_ |  (refine AOp.nxt rfl rfl (mpT_pl F) (fun hall => ?_) (fun i k v hg hns => ?_); rotate_left; obtain ⟨p, hp, rfl, rfl⟩ := mpT_get hg; rotate_left) |  refine AOp.ent rfl rfl (by assumption) (pl_encK _) pl_true ?_ |  (refine sortP_ok (l := q :: out) (by simp) hol' rfl fun l' hl1 hl2 => ?_)) <;> simp only [RS, LS, SY, ne_eq, isFl, floatV, constA, thenQ, blockQ, pack, intA, boolA, eqA, unA, nilcA, asI, asB, asS, loadA, idxA, lenA, slcA, AV.flat, AV.one, zA1, storeA, toD, srcOf, copyA, ↓reduceIte, reduceCtorEq, List.replicate, Nat.reduceBEq, Nat.reduceAdd, Nat.reduceMul, Nat.reduceSub, Nat.reduceLeDiff, Nat.reduceLT, Int.reduceToNat, Nat.reduceEqDiff, Int.reduceEq, avV_encK, avV_true, htk]) | refine AW.condT rfl ?_ | refine AW.condF rfl ?_ | ((first | refine GI.of (fun h => ?_) (fun h => ?_) (by first | exact Classical.em _ | exact (Classical.em _).symm | grind) | refine GD.of (fun h => ?_) (fun h => ?_) (by first | exact Classical.em _ | exact (Classical.em _).symm | grind)) <;> simp only [RS, LS, SY, ne_eq, isFl, floatV, constA, thenQ, blockQ, pack, intA, boolA, eqA, unA, nilcA, asI, asB, asS, loadA, idxA, lenA, slcA, AV.flat, AV.one, zA1, storeA, toD, srcOf, copyA, ↓reduceIte, reduceCtorEq, List.replicate, Nat.reduceBEq, Nat.reduceAdd, Nat.reduceMul, Nat.reduceSub, Nat.reduceLeDiff, Nat.reduceLT, Int.reduceToNat, Nat.reduceEqDiff, Int.reduceEq, avV_encK, avV_true, htk, h]) | (refine AW.condP rfl (fun h => ?_) (fun h => ?_) <;> try simp only [Bool.and_eq_true, decide_eq_true_eq, Bool.not_eq_true', decide_eq_false_iff_not, Bool.not_eq_false', Bool.not_eq_true, Bool.not_eq_false] at h) | refine And.intro (by omega) ?_ | fail)
    · rw [← hfin l' hl1 hl2 (by rwa [hlen] at hall)]
      refine .inr ⟨2, [], ?_, ?_⟩
      · rw [hl1.length_eq]; rfl
      · rw [List.append_nil]; rfl
    · have hA := hC.add hn hp hns
      have := hA.slen
      refine ⟨(seen ++ [i], q :: (out ++ [p])), [0, 1, 4], hA, by simp at this ⊢; omega, rfl, by decide, rfl, ?_, ⟨⟨rfl, rfl⟩, ⟨⟨rfl, rfl⟩, ⟨⟨belB_rowsA _ _ _ (pts (q :: (out ++ [p]))), ?_⟩, trivial⟩⟩⟩⟩
      · simp [NT, belA, belL, tget, renA, renL, nmL, gV_cons, gS_cons]
      · rw [renB_rowsA]
        have e : rowsA (pts (q :: (out ++ [p]))) = [AV.d (dI q.fst), AV.d (dI q.snd)] :: (rowsA (List.map ptR out) ++ [[AV.d (D.v (Value.int IntKind.i64 p.fst)), AV.d (D.v (Value.int IntKind.i64 p.snd))]]) := by simp [rowsA]
        rw [e]; rfl
theorem clone_new {l : List Pt} (h0 : l ≠ []) (hl : l.length ≤ 1000000) : FnNew Try.prog 56 [LP l] 29 2 (pts l) :=
  (clone_ok h0 hl).mono fun v s' ⟨h1, h2⟩ => by
    have hpos := List.length_pos_iff.2 h0
    rw [h1, h2, oV_pos hpos, oS_pos hpos, List.length_map]
    exact ⟨rfl, rfl⟩
set_option maxHeartbeats 4000000 in
theorem falls0_ok (ps : List Pt) (ls : List Ln) (gs : List Gr) (hp : ps.length ≤ 1000000) (hl : ls.length ≤ 1000000) (hg : gs.length ≤ 1000000) (hgl : ∀ g ∈ gs, g.2.length ≤ 1000000) (B : List Pt) (hB : B.length ≤ 100000) (hc : checkP ps ls gs = 0) : ACalls Try.prog 25 [ADs ps ls (grs gs), LP B] [] (IsO (fallP ls B)) := by
  refine ACalls.of fn25 (by simp) ?_
  unfold c25
  have hls : ls.length ≤ 60 := by
    unfold checkP at hc
    split at hc
    · cases hc
    · omega
  have hck := check_ok ps ls gs hp hl hg hgl
  rw [hc] at hck
  by_cases hB0 : B = []
  · subst hB0
    repeat' (first | refine AW.seq' ?_ | with_reducible refine AW.blockS rfl ?_ | ((first | refine AW.ops ?_ | refine AW.draw ?_ | refine AW.skip ?_ | refine AW.ret ?_ | refine AW.exit ?_ | refine Fn.call (hck) rfl rfl ?_ |  refine AOp.mkmap ?_ |  (refine ACalls.pure clone0_ok rfl (fun v s' h => ?_); obtain ⟨⟨k, rfl⟩, rfl⟩ := h; refine And.intro rfl (And.intro rfl ?_))) <;> simp only [RS, LS, SY, ne_eq, isFl, floatV, constA, thenQ, blockQ, pack, intA, boolA, eqA, unA, nilcA, asI, asB, asS, loadA, idxA, lenA, slcA, AV.flat, AV.one, zA1, storeA, toD, srcOf, copyA, ↓reduceIte, reduceCtorEq, List.replicate, Nat.reduceBEq, Nat.reduceAdd, Nat.reduceMul, Nat.reduceSub, Nat.reduceLeDiff, Nat.reduceLT, Int.reduceToNat, Nat.reduceEqDiff, Int.reduceEq]) | refine AW.condT rfl ?_ | refine AW.condF rfl ?_ | ((first | refine GI.of (fun h => ?_) (fun h => ?_) (by first | exact Classical.em _ | exact (Classical.em _).symm | grind) | refine GD.of (fun h => ?_) (fun h => ?_) (by first | exact Classical.em _ | exact (Classical.em _).symm | grind)) <;> simp only [RS, LS, SY, ne_eq, isFl, floatV, constA, thenQ, blockQ, pack, intA, boolA, eqA, unA, nilcA, asI, asB, asS, loadA, idxA, lenA, slcA, AV.flat, AV.one, zA1, storeA, toD, srcOf, copyA, ↓reduceIte, reduceCtorEq, List.replicate, Nat.reduceBEq, Nat.reduceAdd, Nat.reduceMul, Nat.reduceSub, Nat.reduceLeDiff, Nat.reduceLT, Int.reduceToNat, Nat.reduceEqDiff, Int.reduceEq, h]) | (refine AW.condP rfl (fun h => ?_) (fun h => ?_) <;> try simp only [Bool.and_eq_true, decide_eq_true_eq, Bool.not_eq_true', decide_eq_false_iff_not, Bool.not_eq_false', Bool.not_eq_true, Bool.not_eq_false] at h) | refine And.intro (by omega) ?_ | fail)
    refine AW.cut (M := fun T s => ∃ rl, Nrm rl 0 T s [(5, .mp 0)] [some (.mp (mpT []))]) ?_ (fun T s ⟨rl, h⟩ => AW.nrm rl h (falls_tail (B := []) (F := []) (fun r => ?_) .nil (by simp)))
    · refine AW.block (AW.loopA (α := Unit) (fun _ => 0) (fun _ => [(5, .mp 1), (6, .ful k [])]) (fun _ => [none, some (.mp (mpT []))]) (fun _ => True) () trivial [0, 1] ⟨rfl, by decide, rfl, by simp [NT, belA, belL, tget, renA, renL, nmL], ⟨⟨rfl, rfl⟩, trivial⟩⟩ ?_)
      intro _ _
      unfold c25_1
      have h0 : ¬ (0 : Int) < ((0 : Nat) : Int) := by decide
      repeat' (first | refine AW.seq' ?_ | with_reducible refine AW.blockS rfl ?_ | ((first | refine AW.ops ?_ | refine AW.draw ?_ | refine AW.skip ?_ | refine AW.ret ?_ | refine AW.exit ?_) <;> simp only [RS, LS, SY, ne_eq, isFl, floatV, constA, thenQ, blockQ, pack, intA, boolA, eqA, unA, nilcA, asI, asB, asS, loadA, idxA, lenA, slcA, AV.flat, AV.one, zA1, storeA, toD, srcOf, copyA, ↓reduceIte, reduceCtorEq, List.replicate, Nat.reduceBEq, Nat.reduceAdd, Nat.reduceMul, Nat.reduceSub, Nat.reduceLeDiff, Nat.reduceLT, Int.reduceToNat, Nat.reduceEqDiff, Int.reduceEq, h0]) | refine AW.condT rfl ?_ | refine AW.condF rfl ?_ | ((first | refine GI.of (fun h => ?_) (fun h => ?_) (by first | exact Classical.em _ | exact (Classical.em _).symm | grind) | refine GD.of (fun h => ?_) (fun h => ?_) (by first | exact Classical.em _ | exact (Classical.em _).symm | grind)) <;> simp only [RS, LS, SY, ne_eq, isFl, floatV, constA, thenQ, blockQ, pack, intA, boolA, eqA, unA, nilcA, asI, asB, asS, loadA, idxA, lenA, slcA, AV.flat, AV.one, zA1, storeA, toD, srcOf, copyA, ↓reduceIte, reduceCtorEq, List.replicate, Nat.reduceBEq, Nat.reduceAdd, Nat.reduceMul, Nat.reduceSub, Nat.reduceLeDiff, Nat.reduceLT, Int.reduceToNat, Nat.reduceEqDiff, Int.reduceEq, h0, h]) | (refine AW.condP rfl (fun h => ?_) (fun h => ?_) <;> try simp only [Bool.and_eq_true, decide_eq_true_eq, Bool.not_eq_true', decide_eq_false_iff_not, Bool.not_eq_false', Bool.not_eq_true, Bool.not_eq_false] at h) | refine And.intro (by omega) ?_ | fail)
      exact ⟨[1], rfl, by decide, rfl, by simp [NT, belA, belL, tget, renA, renL, nmL], ⟨⟨rfl, rfl⟩, trivial⟩⟩
    · exact (wl0 ls []).fin r
  · repeat' (first | refine AW.seq' ?_ | with_reducible refine AW.blockS rfl ?_ | ((first | refine AW.ops ?_ | refine AW.draw ?_ | refine AW.skip ?_ | refine AW.ret ?_ | refine AW.exit ?_ | refine Fn.call (hck) rfl rfl ?_ |  refine AOp.mkmap ?_ |  (refine FnNew.call (show FnNew Try.prog 56 [LP B] 29 2 (pts B) from clone_new hB0 (by omega)) rfl ?_)) <;> simp only [RS, LS, SY, ne_eq, isFl, floatV, constA, thenQ, blockQ, pack, intA, boolA, eqA, unA, nilcA, asI, asB, asS, loadA, idxA, lenA, slcA, AV.flat, AV.one, zA1, storeA, toD, srcOf, copyA, ↓reduceIte, reduceCtorEq, List.replicate, Nat.reduceBEq, Nat.reduceAdd, Nat.reduceMul, Nat.reduceSub, Nat.reduceLeDiff, Nat.reduceLT, Int.reduceToNat, Nat.reduceEqDiff, Int.reduceEq]) | refine AW.condT rfl ?_ | refine AW.condF rfl ?_ | ((first | refine GI.of (fun h => ?_) (fun h => ?_) (by first | exact Classical.em _ | exact (Classical.em _).symm | grind) | refine GD.of (fun h => ?_) (fun h => ?_) (by first | exact Classical.em _ | exact (Classical.em _).symm | grind)) <;> simp only [RS, LS, SY, ne_eq, isFl, floatV, constA, thenQ, blockQ, pack, intA, boolA, eqA, unA, nilcA, asI, asB, asS, loadA, idxA, lenA, slcA, AV.flat, AV.one, zA1, storeA, toD, srcOf, copyA, ↓reduceIte, reduceCtorEq, List.replicate, Nat.reduceBEq, Nat.reduceAdd, Nat.reduceMul, Nat.reduceSub, Nat.reduceLeDiff, Nat.reduceLT, Int.reduceToNat, Nat.reduceEqDiff, Int.reduceEq, h]) | (refine AW.condP rfl (fun h => ?_) (fun h => ?_) <;> try simp only [Bool.and_eq_true, decide_eq_true_eq, Bool.not_eq_true', decide_eq_false_iff_not, Bool.not_eq_false', Bool.not_eq_true, Bool.not_eq_false] at h) | refine And.intro (by omega) ?_ | fail)
    have hBl : (pts B).length = B.length := List.length_map ..
    refine AW.cut (M := fun T s => ∃ rl F, Nrm rl 0 T s [(5, .mp 0)] [some (.mp (mpT F))] ∧ (∀ r, r ∈ F ↔ Rch ls B r) ∧ F.Nodup ∧ F.length ≤ 1000000) ?_ (fun T s ⟨rl, F, h, h1, h2, h3⟩ => AW.nrm rl h (falls_tail h1 h2 h3))
    let C := B.length + ls.length
    let μ : List Pt × List Pt × Nat → Nat := fun a => (C - a.1.length) * (ls.length + 1) + (a.2.1.length - a.2.2)
    refine AW.block (AW.loopA (α := List Pt × List Pt × Nat) μ (fun a => [(2, .ptr 0 0 0), (5, .mp 1), (6, .own 2 a.2.2 (a.2.1.length - a.2.2))]) (fun a => [some (.cells 27 3 [[LP ps, LN ls, LG gs]]), some (.mp (mpT a.1)), some (.cells 29 2 (rowsA (pts a.2.1)))])
      (fun a => a.2.2 ≤ a.2.1.length ∧ Wl ls B a.1 (a.2.1.drop a.2.2) ∧ μ a ≤ 10000000) ([], B, 0) ⟨Nat.zero_le _, wl0 ls B, ?_⟩ [0, 1, 2] ⟨rfl, by decide, rfl, by simp [NT, belA, belL, tget, renA, renL, nmL], ⟨⟨rfl, rfl⟩, ⟨⟨rfl, rfl⟩, ⟨⟨belB_rowsA _ _ _ (pts B), by rw [renB_rowsA]; rfl⟩, trivial⟩⟩⟩⟩ ?_)
    · have h1 : C ≤ 100060 := by simp only [C]; omega
      have h2 := Nat.mul_le_mul h1 (show ls.length + 1 ≤ 61 by omega)
      simp only [μ, List.length_nil, Nat.sub_zero]
      omega
    rintro ⟨F, l, off⟩ ⟨ho, hW, hM⟩
    simp only at ho hW hM ⊢
    unfold c25_1
    by_cases hlt : off < l.length
    · have hc0 : (0 : Int) < ((l.length - off : Nat) : Int) := by omega
      have hr := rowsA_pts hlt
      have hd : l.drop off = l[off] :: l.drop (off + 1) := List.drop_eq_getElem_cons hlt
      have h1o : (1 : Int) ≤ ((l.length - off : Nat) : Int) := by omega
      rw [hd] at hW
      by_cases hin : l[off] ∈ F
      · repeat' (first | refine AW.seq' ?_ | with_reducible refine AW.blockS rfl ?_ | ((first | refine AW.ops ?_ | refine AW.draw ?_ | refine AW.skip ?_ | refine AW.ret ?_ | refine AW.exit ?_ |  refine mgetT rfl ?_) <;> simp only [RS, LS, SY, ne_eq, isFl, floatV, constA, thenQ, blockQ, pack, intA, boolA, eqA, unA, nilcA, asI, asB, asS, loadA, idxA, lenA, slcA, AV.flat, AV.one, zA1, storeA, toD, srcOf, copyA, ↓reduceIte, reduceCtorEq, List.replicate, Nat.reduceBEq, Nat.reduceAdd, Nat.reduceMul, Nat.reduceSub, Nat.reduceLeDiff, Nat.reduceLT, Int.reduceToNat, Nat.reduceEqDiff, Int.reduceEq, hc0, hr, hin, h1o, Nat.add_zero]) | refine AW.condT rfl ?_ | refine AW.condF rfl ?_ | ((first | refine GI.of (fun h => ?_) (fun h => ?_) (by first | exact Classical.em _ | exact (Classical.em _).symm | grind) | refine GD.of (fun h => ?_) (fun h => ?_) (by first | exact Classical.em _ | exact (Classical.em _).symm | grind)) <;> simp only [RS, LS, SY, ne_eq, isFl, floatV, constA, thenQ, blockQ, pack, intA, boolA, eqA, unA, nilcA, asI, asB, asS, loadA, idxA, lenA, slcA, AV.flat, AV.one, zA1, storeA, toD, srcOf, copyA, ↓reduceIte, reduceCtorEq, List.replicate, Nat.reduceBEq, Nat.reduceAdd, Nat.reduceMul, Nat.reduceSub, Nat.reduceLeDiff, Nat.reduceLT, Int.reduceToNat, Nat.reduceEqDiff, Int.reduceEq, hc0, hr, hin, h1o, Nat.add_zero, h]) | (refine AW.condP rfl (fun h => ?_) (fun h => ?_) <;> try simp only [Bool.and_eq_true, decide_eq_true_eq, Bool.not_eq_true', decide_eq_false_iff_not, Bool.not_eq_false', Bool.not_eq_true, Bool.not_eq_false] at h) | refine And.intro (by omega) ?_ | fail)
        refine ⟨(F, l, off + 1), [0, 1, 2], ⟨hlt, hW.skip hin, ?_⟩, ?_, rfl, by decide, rfl, by simp [NT, belA, belL, tget, renA, renL, nmL, Nat.sub_sub], ⟨⟨rfl, rfl⟩, ⟨⟨rfl, rfl⟩, ⟨⟨belB_rowsA _ _ _ (pts l), by rw [renB_rowsA]; rfl⟩, trivial⟩⟩⟩⟩
        · simp only [μ] at hM ⊢; omega
        · simp only [μ] at hM ⊢; omega
      · have hV := hW.visit hin
        have hFl := rch_len hV.nd fun r hr => hV.rch r (.inl hr)
        rw [List.length_append, List.length_singleton] at hFl
        have hmul : (C - F.length) * (ls.length + 1) = (C - (F.length + 1)) * (ls.length + 1) + (ls.length + 1) := by
          rw [show C - F.length = C - (F.length + 1) + 1 by simp only [C]; omega, Nat.add_mul, Nat.one_mul]
        repeat' (first | refine AW.seq' ?_ | with_reducible refine AW.blockS rfl ?_ | ((first | refine AW.ops ?_ | refine AW.draw ?_ | refine AW.skip ?_ | refine AW.ret ?_ | refine AW.exit ?_ |  refine mgetT rfl ?_ |  refine msetT rfl hin ?_) <;> simp only [RS, LS, SY, ne_eq, isFl, floatV, constA, thenQ, blockQ, pack, intA, boolA, eqA, unA, nilcA, asI, asB, asS, loadA, idxA, lenA, slcA, AV.flat, AV.one, zA1, storeA, toD, srcOf, copyA, ↓reduceIte, reduceCtorEq, List.replicate, Nat.reduceBEq, Nat.reduceAdd, Nat.reduceMul, Nat.reduceSub, Nat.reduceLeDiff, Nat.reduceLT, Int.reduceToNat, Nat.reduceEqDiff, Int.reduceEq, hc0, hr, hin, h1o, Nat.add_zero]) | refine AW.condT rfl ?_ | refine AW.condF rfl ?_ | ((first | refine GI.of (fun h => ?_) (fun h => ?_) (by first | exact Classical.em _ | exact (Classical.em _).symm | grind) | refine GD.of (fun h => ?_) (fun h => ?_) (by first | exact Classical.em _ | exact (Classical.em _).symm | grind)) <;> simp only [RS, LS, SY, ne_eq, isFl, floatV, constA, thenQ, blockQ, pack, intA, boolA, eqA, unA, nilcA, asI, asB, asS, loadA, idxA, lenA, slcA, AV.flat, AV.one, zA1, storeA, toD, srcOf, copyA, ↓reduceIte, reduceCtorEq, List.replicate, Nat.reduceBEq, Nat.reduceAdd, Nat.reduceMul, Nat.reduceSub, Nat.reduceLeDiff, Nat.reduceLT, Int.reduceToNat, Nat.reduceEqDiff, Int.reduceEq, hc0, hr, hin, h1o, Nat.add_zero, h]) | (refine AW.condP rfl (fun h => ?_) (fun h => ?_) <;> try simp only [Bool.and_eq_true, decide_eq_true_eq, Bool.not_eq_true', decide_eq_false_iff_not, Bool.not_eq_false', Bool.not_eq_true, Bool.not_eq_false] at h) | refine And.intro (by omega) ?_ | fail)
        generalize hpp : l[off] = p at *
        refine AW.range (α := List Pt × Nat) ls.length (by omega) (by decide) (fun _ a => [(34, LN ls), (2, .ptr 0 0 0), (5, .mp 1), (6, .own 2 a.2 (a.1.length - a.2)), (7, .ptr 3 0 0)]) (fun _ a => [some (.cells 27 3 [[LP ps, LN ls, LG gs]]), some (.mp (mpT (F ++ [p]))), some (.cells 29 2 (rowsA (pts a.1))), some (.cells 29 2 [[AI .i64 p.1, AI .i64 p.2]])])
          (fun i a => a.2 ≤ a.1.length ∧ WlI ls B (F ++ [p]) (a.1.drop a.2) p i ∧ a.1.length - a.2 ≤ l.length - (off + 1) + i) (l, off + 1) ⟨hlt, hV, by simp only; omega⟩ [0, 1, 2, 3] ⟨rfl, by decide, rfl, by simp [NT, belA, belL, tget, renA, renL, nmL, Nat.sub_sub], ⟨⟨rfl, rfl⟩, ⟨⟨rfl, rfl⟩, ⟨⟨belB_rowsA _ _ _ (pts l), by rw [renB_rowsA]; rfl⟩, ⟨⟨rfl, rfl⟩, trivial⟩⟩⟩⟩⟩ (by simp) ?_ ?_
        · rintro i ⟨m, o⟩ hi ⟨hmo, hI, hml⟩
          simp only at hmo hI hml ⊢
          unfold c25_0
          have hr := getD_lns hi
          simp only [lnR] at hr
          have hrt := rows_tail (l := m) (off := o) rfl
          have hM' : m.length - o ≤ 10000100 := by simp only [μ] at hM; omega
          repeat' (first | refine AW.seq' ?_ | with_reducible refine AW.blockS rfl ?_ | ((first | refine AW.ops ?_ | refine AW.draw ?_ | refine AW.skip ?_ | refine AW.ret ?_ | refine AW.exit ?_) <;> simp only [RS, LS, SY, ne_eq, isFl, floatV, constA, thenQ, blockQ, pack, intA, boolA, eqA, unA, nilcA, asI, asB, asS, loadA, idxA, lenA, slcA, AV.flat, AV.one, zA1, storeA, toD, srcOf, copyA, ↓reduceIte, reduceCtorEq, List.replicate, Nat.reduceBEq, Nat.reduceAdd, Nat.reduceMul, Nat.reduceSub, Nat.reduceLeDiff, Nat.reduceLT, Int.reduceToNat, Nat.reduceEqDiff, Int.reduceEq, hr, pt_eq, hrt]) | refine AW.condT rfl ?_ | refine AW.condF rfl ?_ | ((first | refine GI.of (fun h => ?_) (fun h => ?_) (by first | exact Classical.em _ | exact (Classical.em _).symm | grind) | refine GD.of (fun h => ?_) (fun h => ?_) (by first | exact Classical.em _ | exact (Classical.em _).symm | grind)) <;> simp only [RS, LS, SY, ne_eq, isFl, floatV, constA, thenQ, blockQ, pack, intA, boolA, eqA, unA, nilcA, asI, asB, asS, loadA, idxA, lenA, slcA, AV.flat, AV.one, zA1, storeA, toD, srcOf, copyA, ↓reduceIte, reduceCtorEq, List.replicate, Nat.reduceBEq, Nat.reduceAdd, Nat.reduceMul, Nat.reduceSub, Nat.reduceLeDiff, Nat.reduceLT, Int.reduceToNat, Nat.reduceEqDiff, Int.reduceEq, hr, pt_eq, hrt, h]) | (refine AW.condP rfl (fun h => ?_) (fun h => ?_) <;> try simp only [Bool.and_eq_true, decide_eq_true_eq, Bool.not_eq_true', decide_eq_false_iff_not, Bool.not_eq_false', Bool.not_eq_true, Bool.not_eq_false] at h) | refine And.intro (by omega) ?_ | fail)
          · refine ⟨(m.drop o ++ [ls[i].2], 0), [0, 1, 5, 3], ⟨Nat.zero_le _, by rw [List.drop_zero]; exact hI.add hi h, by simp only [List.length_append, List.length_drop, List.length_singleton]; omega⟩, rfl, by decide, rfl, by simp [NT, belA, belL, tget, renA, renL, nmL], ⟨⟨rfl, rfl⟩, ⟨⟨rfl, rfl⟩, ⟨⟨belB_rowsA _ _ _ (pts (m.drop o ++ [ls[i].2])), ?_⟩, ⟨⟨rfl, rfl⟩, trivial⟩⟩⟩⟩⟩
            rw [renB_rowsA]
            have e : rowsA (pts (m.drop o ++ [ls[i].2])) = rowsA (pts (List.drop o m)) ++ [[AV.d (dI ls[i].snd.fst), AV.d (dI ls[i].snd.snd)]] := by simp only [rowsA, List.map_append]; rfl
            rw [e]; rfl
          · exact ⟨(m, o), [0, 1, 2, 3], ⟨hmo, hI.skip hi h, by simp only; omega⟩, rfl, by decide, rfl, by simp [NT, belA, belL, tget, renA, renL, nmL], ⟨⟨rfl, rfl⟩, ⟨⟨rfl, rfl⟩, ⟨⟨belB_rowsA _ _ _ (pts m), by rw [renB_rowsA]; rfl⟩, ⟨⟨rfl, rfl⟩, trivial⟩⟩⟩⟩⟩
        · rintro ⟨m, o⟩ ⟨hmo, hI, hml⟩
          simp only [RS, LS, SY, ne_eq, isFl, floatV, constA, thenQ, blockQ, pack, intA, boolA, eqA, unA, nilcA, asI, asB, asS, loadA, idxA, lenA, slcA, AV.flat, AV.one, zA1, storeA, toD, srcOf, copyA, ↓reduceIte, reduceCtorEq, List.replicate, Nat.reduceBEq, Nat.reduceAdd, Nat.reduceMul, Nat.reduceSub, Nat.reduceLeDiff, Nat.reduceLT, Int.reduceToNat, Nat.reduceEqDiff, Int.reduceEq]
          refine ⟨(F ++ [p], m, o), [0, 1, 2], ⟨hmo, hI.next, ?_⟩, ?_, rfl, by decide, rfl, by simp [NT, belA, belL, tget, tset, renA, renL, nmL, Nat.sub_sub], ⟨⟨rfl, rfl⟩, ⟨⟨rfl, rfl⟩, ⟨⟨belB_rowsA _ _ _ (pts m), by rw [renB_rowsA]; rfl⟩, trivial⟩⟩⟩⟩
          · simp only [μ, List.length_append, List.length_singleton] at hM hml ⊢; omega
          · simp only [μ, List.length_append, List.length_singleton] at hM hml ⊢; omega
    · have hc0 : ¬ (0 : Int) < ((l.length - off : Nat) : Int) := by omega
      have hoe : off = l.length := by omega
      repeat' (first | refine AW.seq' ?_ | with_reducible refine AW.blockS rfl ?_ | ((first | refine AW.ops ?_ | refine AW.draw ?_ | refine AW.skip ?_ | refine AW.ret ?_ | refine AW.exit ?_) <;> simp only [RS, LS, SY, ne_eq, isFl, floatV, constA, thenQ, blockQ, pack, intA, boolA, eqA, unA, nilcA, asI, asB, asS, loadA, idxA, lenA, slcA, AV.flat, AV.one, zA1, storeA, toD, srcOf, copyA, ↓reduceIte, reduceCtorEq, List.replicate, Nat.reduceBEq, Nat.reduceAdd, Nat.reduceMul, Nat.reduceSub, Nat.reduceLeDiff, Nat.reduceLT, Int.reduceToNat, Nat.reduceEqDiff, Int.reduceEq, hc0]) | refine AW.condT rfl ?_ | refine AW.condF rfl ?_ | ((first | refine GI.of (fun h => ?_) (fun h => ?_) (by first | exact Classical.em _ | exact (Classical.em _).symm | grind) | refine GD.of (fun h => ?_) (fun h => ?_) (by first | exact Classical.em _ | exact (Classical.em _).symm | grind)) <;> simp only [RS, LS, SY, ne_eq, isFl, floatV, constA, thenQ, blockQ, pack, intA, boolA, eqA, unA, nilcA, asI, asB, asS, loadA, idxA, lenA, slcA, AV.flat, AV.one, zA1, storeA, toD, srcOf, copyA, ↓reduceIte, reduceCtorEq, List.replicate, Nat.reduceBEq, Nat.reduceAdd, Nat.reduceMul, Nat.reduceSub, Nat.reduceLeDiff, Nat.reduceLT, Int.reduceToNat, Nat.reduceEqDiff, Int.reduceEq, hc0, h]) | (refine AW.condP rfl (fun h => ?_) (fun h => ?_) <;> try simp only [Bool.and_eq_true, decide_eq_true_eq, Bool.not_eq_true', decide_eq_false_iff_not, Bool.not_eq_false', Bool.not_eq_true, Bool.not_eq_false] at h) | refine And.intro (by omega) ?_ | fail)
      rw [hoe, List.drop_length] at hW
      refine ⟨[1], F, ⟨rfl, by decide, rfl, by simp [NT, belA, belL, tget, renA, renL, nmL], ⟨⟨rfl, rfl⟩, trivial⟩⟩, hW.fin, hW.nd, ?_⟩
      have := rch_len hW.nd fun r hr => hW.rch r (.inl hr)
      omega
/-- What Falls answers. -/
noncomputable def fallsP (ps : List Pt) (ls : List Ln) (gs : List Gr) (B : List Pt) : List Pt := if checkP ps ls gs = 0 then fallP ls B else unP B []
theorem falls_ok (ps : List Pt) (ls : List Ln) (gs : List Gr) (hp : ps.length ≤ 1000000) (hl : ls.length ≤ 1000000) (hg : gs.length ≤ 1000000) (hgl : ∀ g ∈ gs, g.2.length ≤ 1000000) (B : List Pt) (hB : B.length ≤ 100000) : Fn Try.prog 25 [ADs ps ls (grs gs), LP B] (LP (fallsP ps ls gs B)) := by
  by_cases hc : checkP ps ls gs = 0
  · rw [fallsP, if_pos hc]
    exact IsO.fn (falls0_ok ps ls gs hp hl hg hgl B hB hc)
  · rw [fallsP, if_neg hc]
    refine Fn.of fn25 (by simp) rfl ?_
    unfold c25
    repeat' (first | refine AW.seq' ?_ | with_reducible refine AW.blockS rfl ?_ | ((first | refine AW.ops ?_ | refine AW.draw ?_ | refine AW.skip ?_ | refine AW.ret ?_ | refine AW.exit ?_ | refine Fn.call (check_ok ps ls gs hp hl hg hgl) rfl rfl ?_ |  refine Fn.callW (union_ok B [] hB (by simp)) (.cons (.same _) (.cons (.nil _ _) .nil)) rfl rfl ?_) <;> simp only [RS, LS, SY, ne_eq, isFl, floatV, constA, thenQ, blockQ, pack, intA, boolA, eqA, unA, nilcA, asI, asB, asS, loadA, idxA, lenA, slcA, AV.flat, AV.one, zA1, storeA, toD, srcOf, copyA, ↓reduceIte, reduceCtorEq, List.replicate, Nat.reduceBEq, Nat.reduceAdd, Nat.reduceMul, Nat.reduceSub, Nat.reduceLeDiff, Nat.reduceLT, Int.reduceToNat, Nat.reduceEqDiff, Int.reduceEq, hc]) | refine AW.condT rfl ?_ | refine AW.condF rfl ?_ | ((first | refine GI.of (fun h => ?_) (fun h => ?_) (by first | exact Classical.em _ | exact (Classical.em _).symm | grind) | refine GD.of (fun h => ?_) (fun h => ?_) (by first | exact Classical.em _ | exact (Classical.em _).symm | grind)) <;> simp only [RS, LS, SY, ne_eq, isFl, floatV, constA, thenQ, blockQ, pack, intA, boolA, eqA, unA, nilcA, asI, asB, asS, loadA, idxA, lenA, slcA, AV.flat, AV.one, zA1, storeA, toD, srcOf, copyA, ↓reduceIte, reduceCtorEq, List.replicate, Nat.reduceBEq, Nat.reduceAdd, Nat.reduceMul, Nat.reduceSub, Nat.reduceLeDiff, Nat.reduceLT, Int.reduceToNat, Nat.reduceEqDiff, Int.reduceEq, hc, h]) | (refine AW.condP rfl (fun h => ?_) (fun h => ?_) <;> try simp only [Bool.and_eq_true, decide_eq_true_eq, Bool.not_eq_true', decide_eq_false_iff_not, Bool.not_eq_false', Bool.not_eq_true, Bool.not_eq_false] at h) | refine And.intro (by omega) ?_ | fail)
end Go.Proofs.Ytkgeadhnagnloaa.H
