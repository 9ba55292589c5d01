/- Regions that draw their order: one order is walked, and all others end the same. -/
import Derived.Test.YtnnnmdmniceenaaEvE
import Derived.Orders
namespace Go.Proofs.Ytnnnmdmniceenaa.Ev
set_option linter.unusedVariables false
set_option linter.unusedSimpArgs false

/-! ### What an operation waits for -/
def bnds (o : Oper) : List Nat := (o.after.toList.filter fun e => Region.binds .any e).map (·.on)
def opTs (o : Oper) : List Nat := o.op.operands.toList.filterMap fun | .tmp t => some t | _ => none
/-- Operations that change no block that is there. -/
def isFloat : Op → Bool
  | .move _ | .pick .. | .alloc _ | .box .. | .build .. | .buildSlice .. | .load .. | .nilCheck _ | .binOp .. | .unOp .. | .convert .. | .makeSlice .. | .makeFunc ..
  | .slice .. | .fieldAddr .. | .field .. | .indexAddr .. | .index .. | .extract .. => true
  | .call { callee := .builtin .len, .. } | .call { callee := .builtin .min, .. } | .call { callee := .builtin .max, .. } => true
  | _ => false
def footOf (x : Operand → Option SV) : Op → List Nat
  | .load _ y => match x y with
    | some (.ptr i _) => [i]
    | some (.ptx i _ _ _) => [i]
    | _ => []
  | _ => []
abbrev Anc := List (Nat × List Nat)
def lookA (an : Anc) (i : Nat) : List Nat := match an.find? (·.1 == i) with
  | some p => p.2
  | none => []
def ins (acc : List Nat) (k : Nat) : List Nat := if acc.contains k then acc else k :: acc
def ancOf (an : Anc) (ds : List Nat) : List Nat := ds.foldl (fun acc e => (lookA an e).foldl ins (ins acc e)) []
theorem mem_foldl_ins {x : Nat} : ∀ (l acc : List Nat), x ∈ l.foldl ins acc → x ∈ acc ∨ x ∈ l
  | [], acc, h => .inl h
  | k :: l, acc, h => by
    rcases mem_foldl_ins l _ h with h | h
    · unfold ins at h
      split at h
      · exact .inl h
      · rcases List.mem_cons.1 h with rfl | h
        · exact .inr (List.mem_cons_self ..)
        · exact .inl h
    · exact .inr (List.mem_cons_of_mem _ h)
theorem mem_ins {x k : Nat} {acc : List Nat} (h : x ∈ ins acc k) : x = k ∨ x ∈ acc := by
  unfold ins at h
  split at h
  · exact .inr h
  · exact List.mem_cons.1 h
theorem mem_ancOf {an : Anc} {x : Nat} {ds : List Nat} (h : x ∈ ancOf an ds) : ∃ e ∈ ds, x = e ∨ x ∈ lookA an e := by
  have key : ∀ (ds acc : List Nat), x ∈ ds.foldl (fun acc e => (lookA an e).foldl ins (ins acc e)) acc → x ∈ acc ∨ ∃ e ∈ ds, x = e ∨ x ∈ lookA an e := by
    intro ds
    induction ds with
    | nil => intro acc h; exact .inl h
    | cons d ds ih =>
      intro acc h
      rcases ih _ h with h | ⟨e, he, h⟩
      · rcases mem_foldl_ins _ _ h with h | h
        · rcases mem_ins h with rfl | h
          · exact .inr ⟨x, List.mem_cons_self .., .inl rfl⟩
          · exact .inl h
        · exact .inr ⟨d, List.mem_cons_self .., .inr h⟩
      · exact .inr ⟨e, List.mem_cons_of_mem _ he, h⟩
  rcases key ds [] h with h | h
  · cases h
  · exact h
def DownC (ops : Array Oper) (L : Nat → Bool) : Prop := ∀ i o, ops[i]? = some o → L i = true → ∀ e ∈ bnds o, L e = true
def AN1 (ops : Array Oper) (i : Nat) (l : List Nat) : Prop := ∀ L, DownC ops L → (∀ o, ops[i]? = some o → ∀ e ∈ bnds o, L e = true) → ∀ k ∈ l, L k = true
def AN (ops : Array Oper) (an : Anc) : Prop := ∀ p ∈ an, AN1 ops p.1 p.2
theorem AN_new {ops : Array Oper} {an : Anc} (h : AN ops an) {i : Nat} {o : Oper} (ho : ops[i]? = some o) : AN1 ops i (ancOf an (bnds o)) := by
  intro L hL hi k hk
  have hi := hi o ho
  obtain ⟨e, he, hk⟩ := mem_ancOf hk
  rcases hk with rfl | hk
  · exact hi _ he
  · unfold lookA at hk
    split at hk
    · rename_i p hp
      have hp1 : p.1 = e := by simpa using List.find?_some hp
      exact h p (List.mem_of_find?_eq_some hp) L hL (fun o' ho' => hL p.1 o' ho' (by rw [hp1]; exact hi e he)) k hk
    · cases hk

/-! ### Masks -/
def maskT (p : Nat → Bool) : Nat → List SV → List SV
  | _, [] => []
  | i, v :: l => (if p i then v else .any) :: maskT p (i + 1) l
theorem maskT_get (p : Nat → Bool) : ∀ (l : List SV) (k i : Nat), (maskT p k l)[i]? = (l[i]?).map fun v => if p (k + i) then v else .any
  | [], k, i => by simp [maskT]
  | v :: l, k, 0 => by simp [maskT]
  | v :: l, k, i + 1 => by simp [maskT, maskT_get p l, Nat.add_assoc, Nat.add_comm 1 i]
theorem maskT_length (p : Nat → Bool) : ∀ (l : List SV) (k : Nat), (maskT p k l).length = l.length
  | [], _ => rfl
  | v :: l, k => by simp [maskT, maskT_length p l]
theorem maskT_some {p : Nat → Bool} {l : List SV} {i : Nat} {v : SV} (h : (maskT p 0 l)[i]? = some v) (hv : v.isAny = false) : p i = true ∧ l[i]? = some v := by
  rw [maskT_get] at h
  simp only [Nat.zero_add, Option.map_eq_some_iff] at h
  obtain ⟨u, hu, h⟩ := h
  split at h
  · rename_i hp; subst h; exact ⟨hp, hu⟩
  · subst h; simp [SV.isAny] at hv
def maskB (q : Nat → Bool) : Nat → Blks → Blks
  | _, [] => []
  | i, c :: l => (if q i then c else none) :: maskB q (i + 1) l
theorem maskB_get (q : Nat → Bool) : ∀ (l : Blks) (k i : Nat), (maskB q k l)[i]? = (l[i]?).map fun v => if q (k + i) then v else none
  | [], k, i => by simp [maskB]
  | v :: l, k, 0 => by simp [maskB]
  | v :: l, k, i + 1 => by simp [maskB, maskB_get q l, Nat.add_assoc, Nat.add_comm 1 i]
theorem maskB_length (q : Nat → Bool) : ∀ (l : Blks) (k : Nat), (maskB q k l).length = l.length
  | [], _ => rfl
  | v :: l, k => by simp [maskB, maskB_length q l]
theorem getB_mask (q : Nat → Bool) (l : Blks) (i : Nat) : getB (maskB q 0 l) i = if q i then getB l i else none := by
  unfold getB
  simp only [List.getD_eq_getElem?_getD, maskB_get, Nat.zero_add]
  cases l[i]? with
  | none => simp
  | some c => cases q i <;> simp
theorem clL_maskT {n : Nat} {p q : Nat → Bool} : ∀ {l : List SV} {k : Nat}, clL n p l = true → clL n p (maskT q k l) = true
  | [], _, _ => rfl
  | v :: l, k, h => by
    simp only [clL, Bool.and_eq_true] at h
    simp only [maskT, clL, Bool.and_eq_true]
    refine ⟨?_, clL_maskT h.2⟩
    split
    · exact h.1
    · rfl
theorem clBs_maskB {n : Nat} {p q : Nat → Bool} : ∀ {l : Blks} {k : Nat}, clBs n p l = true → clBs n p (maskB q k l) = true
  | [], _, _ => rfl
  | c :: l, k, h => by
    unfold clBs at h ⊢
    simp only [maskB, List.all_cons, Bool.and_eq_true] at h ⊢
    refine ⟨?_, clBs_maskB h.2⟩
    cases hq : q k
    · rfl
    · exact h.1

/-! ### Floats -/
/-- An operation that may be carried out at another time than at its place: what it is made in, what it makes, what it waits for. -/
structure Fl where
  i : Nat
  o : Oper
  s : St
  r : Res
  anc : List Nat
  gt : List Nat := []
  sk : Bool := false
/-- The temporaries at which it looks. -/
def fTs (f : Fl) : List Nat := f.gt ++ opTs f.o
def lays (f : Fl) (j : Nat) : Bool := f.r.nn != 0 && f.s.b.length == j
def dstIs (f : Fl) (j : Nat) : Bool := f.o.dst == some j
theorem dstIs_iff {f : Fl} {j : Nat} : dstIs f j = true ↔ f.o.dst = some j := by simp [dstIs]
def tmpOn (fl : List Fl) (L : Nat → Bool) (j : Nat) : Bool := fl.all fun f => !dstIs f j || L f.i
def blkOn (fl : List Fl) (L : Nat → Bool) (j : Nat) : Bool := fl.all fun f => !lays f j || L f.i
theorem tmpOn_iff {fl : List Fl} {L : Nat → Bool} {j : Nat} : tmpOn fl L j = true ↔ ∀ f ∈ fl, f.o.dst = some j → L f.i = true := by
  simp only [tmpOn, List.all_eq_true, Bool.or_eq_true, Bool.not_eq_true']
  refine forall_congr' fun f => forall_congr' fun _ => ?_
  rw [← dstIs_iff]
  cases dstIs f j <;> simp
theorem blkOn_iff {fl : List Fl} {L : Nat → Bool} {j : Nat} : blkOn fl L j = true ↔ ∀ f ∈ fl, lays f j = true → L f.i = true := by
  simp only [blkOn, List.all_eq_true, Bool.or_eq_true, Bool.not_eq_true']
  refine forall_congr' fun f => forall_congr' fun _ => ?_
  cases lays f j <;> simp
/-- The state, as far as it is sure when only some floats are done. -/
def St.msk (σ : St) (fl : List Fl) (L : Nat → Bool) : St := { σ with t := maskT (tmpOn fl L) 0 σ.t, b := maskB (blkOn fl L) 0 σ.b }
/-- The state, as far as an operation may look. -/
def St.sub (σ : St) (fl : List Fl) (ts : List Nat) (foot : Option (List Nat)) (anc : List Nat) : St :=
  { t := maskT (fun j => ts.contains j && tmpOn fl (fun i => anc.contains i) j) 0 σ.t
    b := maskB (fun j => (match foot with | some l => l.contains j | none => true) && blkOn fl (fun i => anc.contains i) j) 0 σ.b
    fx := σ.fx, n := σ.n, wd := [], cs := σ.cs }
theorem sub_any (σ : St) (fl : List Fl) (ts : List Nat) (foot : Option (List Nat)) (anc : List Nat) {d : Nat} (h : ts.contains d = false) : ((σ.sub fl ts foot anc).t.getD d .any).isAny = true := by
  show ((maskT (fun j => ts.contains j && tmpOn fl (fun i => anc.contains i) j) 0 σ.t).getD d .any).isAny = true
  rw [List.getD_eq_getElem?_getD, maskT_get]
  simp only [Nat.zero_add, h, Bool.false_and]
  cases σ.t[d]? <;> rfl
theorem msk_cl {σ : St} (h : σ.cl = true) (fl : List Fl) (L : Nat → Bool) : (σ.msk fl L).cl = true := by
  simp only [St.cl, Bool.and_eq_true] at h ⊢
  simp only [St.msk, maskB_length]
  exact ⟨⟨clL_maskT h.1.1, clBs_maskB h.1.2⟩, h.2⟩
def allT (p : Nat → SV → Bool) : Nat → List SV → Bool
  | _, [] => true
  | i, v :: l => p i v && allT p (i + 1) l
theorem allT_get {p : Nat → SV → Bool} : ∀ {l : List SV} {k i : Nat} {v : SV}, allT p k l = true → l[i]? = some v → p (k + i) v = true
  | [], _, _, _, _, h => by simp at h
  | u :: l, k, 0, v, ha, h => by
    simp only [allT, Bool.and_eq_true] at ha
    simp at h; subst h; exact ha.1
  | u :: l, k, i + 1, v, ha, h => by
    simp only [allT, Bool.and_eq_true] at ha
    have := allT_get ha.2 (by simpa using h)
    rw [show k + (i + 1) = k + 1 + i by omega]; exact this
def allB (p : Nat → TypeId × List SV → Bool) : Nat → Blks → Bool
  | _, [] => true
  | i, some c :: l => p i c && allB p (i + 1) l
  | i, none :: l => allB p (i + 1) l
theorem allB_get {p : Nat → TypeId × List SV → Bool} : ∀ {l : Blks} {k i : Nat} {c : TypeId × List SV}, allB p k l = true → getB l i = some c → p (k + i) c = true
  | [], _, _, _, _, h => by simp [getB] at h
  | some u :: l, k, 0, c, ha, h => by
    simp only [allB, Bool.and_eq_true] at ha
    simp [getB] at h; subst h; exact ha.1
  | none :: l, k, 0, c, ha, h => by simp [getB] at h
  | some u :: l, k, i + 1, c, ha, h => by
    simp only [allB, Bool.and_eq_true] at ha
    have := allB_get (i := i) ha.2 (by simpa [getB] using h)
    rw [show k + (i + 1) = k + 1 + i by omega]; exact this
  | none :: l, k, i + 1, c, ha, h => by
    simp only [allB] at ha
    have := allB_get (i := i) ha (by simpa [getB] using h)
    rw [show k + (i + 1) = k + 1 + i by omega]; exact this
def neB (i : Nat) : Nat → Bool := fun j => j != i
/-- Only what waits for a float names the block that it lays. -/
def clean1 (σ : St) (fl : List Fl) (f : Fl) : Bool := f.r.nn == 0 ||
  (allT (fun j v => clV σ.n (neB f.s.b.length) v || fl.any fun g => dstIs g j && (g.i == f.i || g.anc.contains f.i)) 0 σ.t &&
   allB (fun j c => clL σ.n (neB f.s.b.length) c.2 || fl.any fun g => lays g j && (g.i == f.i || g.anc.contains f.i)) 0 σ.b)
def clean (σ : St) (fl : List Fl) : Bool := fl.all (clean1 σ fl)
def keepT (d : Option Nat) (f : Fl) : Bool := match d with
  | some d => !dstIs f d && !(fTs f).contains d
  | none => true
def flOK (σ : St) (fl : List Fl) (g : Fl) : Bool :=
  ((g.r.nn == 0 && g.r.wr.isEmpty) || (g.r.nn == 1 && match g.r.wr with | [(j, some _)] => j == σ.b.length | _ => false)) &&
  (esOf g.r.cal).all (clE σ.n) && g.r.asr.all (clB σ.n) && fl.all (keepT g.o.dst) && (match g.o.dst with | some d => !(fTs g).contains d | none => true)
def chOK (σ W σ1 : St) (o : Oper) (fl : List Fl) : Bool :=
  σ1.wd.all (fun j => decide (σ.b.length ≤ j) || (getB W.b j).isSome) && decide (σ.b.length ≤ σ1.b.length) && fl.all (fun f => keepT o.dst f && σ1.wd.all fun j => (getB f.s.b j).isNone && !lays f j)
/-- Behind an operation that may change blocks: what it has made, and what it has left alone. -/
def mrgB (wd : List Nat) : Nat → Blks → Blks → Blks
  | _, [], b1 => b1
  | i, c :: l, b1 => (if wd.contains i then b1.headD none else c) :: mrgB wd (i + 1) l b1.tail
def St.mrg (σ σ1 : St) (o : Oper) : St :=
  { t := match o.dst with | some d => σ.t.set d (σ1.t.getD d .any) | none => σ.t
    b := mrgB σ1.wd 0 σ.b σ1.b, fx := σ1.fx, n := σ1.n, wd := σ1.wd ++ σ.wd, cs := σ1.cs }
theorem mrgB_mem (wd : List Nat) : ∀ (k : Nat) (b b1 : Blks) (c : Option (TypeId × List SV)), c ∈ mrgB wd k b b1 → c ∈ b ∨ c ∈ b1 ∨ c = none
  | _, [], b1, c, h => .inr (.inl h)
  | k, d :: b, b1, c, h => by
    simp only [mrgB] at h
    rcases List.mem_cons.1 h with h | h
    · split at h
      · cases b1 with
        | nil => exact .inr (.inr h)
        | cons e b1 => exact .inr (.inl (by rw [h]; exact List.mem_cons_self ..))
      · exact .inl (by rw [h]; exact List.mem_cons_self ..)
    · rcases mrgB_mem wd _ _ _ _ h with h | h | h
      · exact .inl (List.mem_cons_of_mem _ h)
      · exact .inr (.inl (List.mem_of_mem_tail h))
      · exact .inr (.inr h)
theorem mrgB_len (wd : List Nat) : ∀ (k : Nat) (b b1 : Blks), b.length ≤ b1.length → (mrgB wd k b b1).length = b1.length
  | _, [], b1, _ => rfl
  | k, d :: b, [], h => by simp at h
  | k, d :: b, e :: b1, h => by
    simp only [mrgB, List.length_cons, List.tail_cons]
    rw [mrgB_len wd _ b b1 (by simpa using h)]
theorem mrg_cl {σ σ1 : St} {o : Oper} (h : σ.cl = true) (h1 : σ1.cl = true) (hn : σ.n ≤ σ1.n) (hb : σ.b.length ≤ σ1.b.length) : (σ.mrg σ1 o).cl = true := by
  simp only [St.cl, Bool.and_eq_true] at h h1 ⊢
  have hl : (σ.mrg σ1 o).b.length = σ1.b.length := mrgB_len _ _ _ _ hb
  rw [hl]
  refine ⟨⟨?_, ?_⟩, h1.2⟩
  · have ht : clL σ1.n (ltB σ1.b.length) σ.t = true := clL_sub (ltB_le hb) _ (clL_more hn _ h.1.1)
    show clL σ1.n (ltB σ1.b.length) (match o.dst with | some d => σ.t.set d (σ1.t.getD d .any) | none => σ.t) = true
    split
    · refine clL_set ?_ _ _ ht
      rename_i d _
      rw [List.getD_eq_getElem?_getD]
      cases hd : σ1.t[d]? with
      | none => rfl
      | some v => exact clL_mem h1.1.1 v (List.mem_of_getElem? hd)
    · exact ht
  · rw [clBs_iff]
    intro c hc
    rcases mrgB_mem _ _ _ _ _ hc with hc | hc | rfl
    · exact clBs_iff.1 (clBs_more hn (ltB_le hb) h.1.2) c hc
    · exact clBs_iff.1 h1.1.2 c hc
    · rfl
theorem sub_cl {σ : St} (h : σ.cl = true) (fl : List Fl) (ts : List Nat) (foot : Option (List Nat)) (anc : List Nat) : (σ.sub fl ts foot anc).cl = true := by
  simp only [St.cl, Bool.and_eq_true] at h ⊢
  simp only [St.sub, maskB_length]
  exact ⟨⟨clL_maskT h.1.1, clBs_maskB h.1.2⟩, h.2⟩
theorem getB_mrg (wd : List Nat) : ∀ (b b1 : Blks) (k i : Nat), b.length ≤ b1.length → getB (mrgB wd k b b1) i = if i < b.length ∧ wd.contains (k + i) = false then getB b i else getB b1 i
  | [], b1, k, i, h => by simp [mrgB]
  | c :: b, [], k, i, h => by simp at h
  | c :: b, d :: b1, k, 0, h => by
    simp only [mrgB, getB, Nat.add_zero]
    by_cases hc : wd.contains k = true
    · simp [hc]
    · simp only [Bool.not_eq_true] at hc; simp [hc]
  | c :: b, d :: b1, k, i + 1, h => by
    have := getB_mrg wd b b1 (k + 1) i (by simpa using h)
    rw [show k + (i + 1) = k + 1 + i by omega]
    simp only [mrgB, getB, List.tail_cons, List.getD_cons_succ, List.length_cons, Nat.add_lt_add_iff_right] at this ⊢
    exact this
theorem mrgB_length (wd : List Nat) : ∀ (b b1 : Blks) (k : Nat), b.length ≤ b1.length → (mrgB wd k b b1).length = b1.length
  | [], b1, k, h => rfl
  | c :: b, [], k, h => by simp at h
  | c :: b, d :: b1, k, h => by simp [mrgB, mrgB_length wd b b1 (k + 1) (by simpa using h)]

/-! ### The same, made plain -/
section
universe u
variable {β : Type u}
def fSh (v : SV) (k : SV → β) : β := match v with
  | .int t e => k (.int t e)
  | .bool b => k (.bool b)
  | .undef => k .undef
  | .nilp => k .nilp
  | .ptr i o => k (.ptr i o)
  | .ptx i o s e => k (.ptx i o s e)
  | .slc i o n c => k (.slc i o n c)
  | .nils => k .nils
  | .fn f a b => k (.fn f a b)
  | .nilfn => k .nilfn
  | .agg l => k (.agg l)
  | .tup l => k (.tup l)
  | .grd c v => k (.grd c v)
  | .any => k .any
  | .sls i a b => k (.sls i a b)
  | .xp i s o e => k (.xp i s o e)
theorem fSh_eq (v : SV) (k : SV → β) : fSh v k = k v := by cases v <;> rfl
def fSO {α : Type} (v : Option α) (k : Option α → β) : β := match v with
  | none => k none
  | some a => k (some a)
theorem fSO_eq {α : Type} (v : Option α) (k : Option α → β) : fSO v k = k v := by cases v <;> rfl
def St.fS (σ : St) (k : St → β) : β := match σ with
  | ⟨t, b, fx, n, wd, cs⟩ => fL fSh t fun t => fL fSO b fun b => fL fN wd fun wd => k ⟨t, b, fx, n, wd, cs⟩
@[simp] theorem St.fS_eq (σ : St) (k : St → β) : σ.fS k = k σ := by
  obtain ⟨t, b, fx, n, wd, cs⟩ := σ
  simp only [St.fS]
  rw [fL_eq fSh_eq, fL_eq fSO_eq, fL_eq fN_eq]
end

/-! ### The walk -/
def find1 (p : Nat → Oper → Bool) : Nat → List Oper → Option (Nat × Oper)
  | _, [] => none
  | k, o :: l => if p k o then some (k, o) else find1 p (k + 1) l
theorem find1_ok {p : Nat → Oper → Bool} : ∀ {l : List Oper} {k i : Nat} {o : Oper}, find1 p k l = some (i, o) → p i o = true ∧ k ≤ i ∧ l[i - k]? = some o
  | [], _, _, _, h => by simp [find1] at h
  | u :: l, k, i, o, h => by
    simp only [find1] at h
    split at h
    · rename_i hp
      simp only [Option.some.injEq, Prod.mk.injEq] at h
      obtain ⟨rfl, rfl⟩ := h
      exact ⟨hp, Nat.le_refl _, by simp⟩
    · obtain ⟨h1, h2, h3⟩ := find1_ok h
      refine ⟨h1, by omega, ?_⟩
      rw [show i - k = (i - (k + 1)) + 1 by omega]
      simpa using h3
def allO (p : Nat → Oper → Bool) : Nat → List Oper → Bool
  | _, [] => true
  | k, o :: l => p k o && allO p (k + 1) l
theorem allO_get {p : Nat → Oper → Bool} : ∀ {l : List Oper} {k i : Nat} {o : Oper}, allO p k l = true → l[i]? = some o → p (k + i) o = true
  | [], _, _, _, _, h => by simp at h
  | u :: l, k, 0, o, ha, h => by
    simp only [allO, Bool.and_eq_true] at ha
    simp at h; subst h; exact ha.1
  | u :: l, k, i + 1, o, ha, h => by
    simp only [allO, Bool.and_eq_true] at ha
    have := allO_get ha.2 (by simpa using h)
    rw [show k + (i + 1) = k + 1 + i by omega]; exact this
def doneA (an : Anc) (i : Nat) : Bool := an.any fun p => p.1 == i
theorem doneA_iff {an : Anc} {i : Nat} : doneA an i = true ↔ ∃ p ∈ an, p.1 = i := by simp [doneA]
def rdy (an : Anc) (i : Nat) (o : Oper) : Bool := !doneA an i && (bnds o).all (doneA an)
/-- Where an operation's guard stands. -/
def gTs (ops : Array Oper) (o : Oper) : List Nat := match o.guard with
  | some (j, _) => ((ops[j]?).bind (·.dst)).toList
  | none => []
/-- Whether the guard lets an operation be made like a float, or passed over. -/
def gDec (ops : Array Oper) (σ : St) (o : Oper) : Bool := match guardB ops σ.t o with
  | some none => isFloat o.op
  | some (some g) => match decB σ.fx g with
    | some true => isFloat o.op
    | some false => true
    | none => false
  | none => false
/-- What it makes: as its guard says. -/
def evG (P : Program) (C : Ctx) (ops : Array Oper) (W : St) (o : Oper) : Option (Res × Bool) := match guardB ops W.t o with
  | some none => match isFloat o.op, evOp P C W.fx W.n W.b.length (getB W.b) (opdF W.fx W.t) o.op with
    | true, some r => some (r, false)
    | _, _ => none
  | some (some g) => match decB W.fx g with
    | some true => match isFloat o.op, evOp P C W.fx W.n W.b.length (getB W.b) (opdF W.fx W.t) o.op with
      | true, some r => some (r, false)
      | _, _ => none
    | some false => some (val .undef, true)
    | none => none
  | none => none
theorem evG_ok {P : Program} {C : Ctx} {ops : Array Oper} {W : St} {o : Oper} {r : Res} {sk : Bool} (h : evG P C ops W o = some (r, sk)) :
    ((sk = false ∧ isFloat o.op = true ∧ evOp P C W.fx W.n W.b.length (getB W.b) (opdF W.fx W.t) o.op = some r) ∨ (sk = true ∧ r = val .undef)) ∧
    ((guardB ops W.t o = some none ∧ sk = false) ∨ ∃ g, guardB ops W.t o = some (some g) ∧ decB W.fx g = some (!sk)) := by
  unfold evG at h
  split at h
  · rename_i hg
    split at h
    · rename_i r' hf hr
      simp only [Option.some.injEq, Prod.mk.injEq] at h
      obtain ⟨rfl, rfl⟩ := h
      exact ⟨.inl ⟨rfl, hf, hr⟩, .inl ⟨hg, rfl⟩⟩
    · cases h
  · rename_i g hg
    split at h
    · rename_i hd
      split at h
      · rename_i r' hf hr
        simp only [Option.some.injEq, Prod.mk.injEq] at h
        obtain ⟨rfl, rfl⟩ := h
        exact ⟨.inl ⟨rfl, hf, hr⟩, .inr ⟨g, hg, hd⟩⟩
      · cases h
    · rename_i hd
      simp only [Option.some.injEq, Prod.mk.injEq] at h
      obtain ⟨rfl, rfl⟩ := h
      exact ⟨.inr ⟨rfl, rfl⟩, .inr ⟨g, hg, hd⟩⟩
    · cases h
  · cases h
section
variable (P : Program) (C : Ctx) {α : Type} (inl : Inl α) (ops : Array Oper) (K : St → T α)
def drawE : Nat → St → Anc → List Fl → T α
  | 0, _, _, _ => .bad
  | m + 1, σ, an, fl => match find1 (fun i o => rdy an i o && gDec ops σ o) 0 ops.toList with
    | some (i, o) => fL fN (ancOf an (bnds o)) fun anc => (σ.sub fl (gTs ops o ++ opTs o) (some (footOf (opdF σ.fx σ.t) o.op)) anc).fS fun W =>
      match evG P C ops W o with
      | some (r, sk) => fRes r fun r => σ.putF o r fun σ' =>
        if resLoc σ r && flOK σ fl { i, o, s := W, r, anc, gt := gTs ops o, sk } && clean σ' ({ i, o, s := W, r, anc, gt := gTs ops o, sk } :: fl) then wrapA r.asr (wrapC r.cal (drawE m σ' ((i, anc) :: an) ({ i, o, s := W, r, anc, gt := gTs ops o, sk } :: fl))) else .bad
      | none => .bad
    | none => match find1 (fun i o => rdy an i o) 0 ops.toList with
      | some (i, o) =>
        if allO (fun j o' => doneA an j || j == i || !(bnds o').all (doneA an)) 0 ops.toList then
          fL fN (ancOf an (bnds o)) fun anc => (σ.sub fl (opTs o ++ gTs ops o) none anc).fS fun W => fL fId (fl.filter fun f => !anc.contains f.i) fun fl' =>
          let nx := fun σ1 => (σ.mrg σ1 o).fS fun σ' => if chOK σ W σ1 o fl' && clean σ' fl' then drawE m σ' ((i, anc) :: an) fl' else .bad
          match guardB ops W.t o with
          | none => .bad
          | some none => run1 P C inl W o nx
          | some (some g) => match decB W.fx g with
            | some true => run1 P C inl W o nx
            | some false => W.skipF o nx
            | none => fB g fun g => .ite g (W.knowF g true fun W' => run1 P C inl W' o nx) (W.knowF g false fun W' => W'.skipF o nx)
        else match guardB ops σ.t o with
          | some (some g) => fB g fun g => .ite g (σ.knowF g true fun σ' => drawE m σ' an fl) (σ.knowF g false fun σ' => drawE m σ' an fl)
          | _ => .bad
      | none => if allO (fun j _ => doneA an j) 0 ops.toList then K σ else .bad
end
end Go.Proofs.Ytnnnmdmniceenaa.Ev
