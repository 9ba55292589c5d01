/- Compact code, calls, and what must hold for a run: a logic over values and own blocks. -/
import Derived.Test.YtcedkkleclhglaaHaK
import Derived.Orders
set_option linter.unusedSimpArgs false
set_option linter.unusedVariables false
set_option linter.unusedSectionVars false
namespace Go.Proofs.Ytcedkkleclhglaa.H

/-- The call returns, and 'Q' holds of its result and of the own blocks behind it; nothing else that was there is changed. -/
def ACalls (P : Program) (f : FuncId) (vs : List AV) (s : St) (Q : AV → St → Prop) : Prop :=
  ∀ w K β us, Cz w K β s → RL w K β s.length vs us → Calls P f us.toArray w fun e w' => ∃ v s' K' β' u, e = .returned u ∧ Q v s' ∧ Cz w' K' β' s' ∧ R w' K' β' s'.length v u ∧ Ext s.length w K β s w' K' β' s'
theorem ACalls.mono {P : Program} {f : FuncId} {vs : List AV} {s : St} {Q Q' : AV → St → Prop} (h : ACalls P f vs s Q) (hq : ∀ v s', Q v s' → Q' v s') : ACalls P f vs s Q' :=
  fun w K β us hz hr => (h w K β us hz hr).mono fun e w' ⟨v, s', K', β', u, e1, e2, e3⟩ => ⟨v, s', K', β', u, e1, hq _ _ e2, e3⟩

inductive Ins where
  | f (d : Option Nat) (g : Option (Nat × Bool)) (o : FO) | k (d : Option Nat) (g : Option (Nat × Bool)) (o : KO)
inductive C where
  | skip | ops (l : List Ins) | opd (l : List (Ins × List FO)) | seq (a b : C) | cond (x : Operand) (a b : C) | block (id : Nat) (c : C) | loop (c : C) | exit (id : Nat) | ret

def Ins.d : Ins → Option Nat
  | .f d _ _ => d
  | .k d _ _ => d
/-- One operation that is carried out: its value, and the blocks behind it. -/
def StepV (P : Program) (T : Tm) (s : St) (i : Ins) (k : AV → St → Prop) : Prop := match i with
  | .f _ _ o => match evF s T o with
    | some (C, v) => C ∧ k v s
    | none => False
  | .k _ _ o => match o with
    | .call f as => match opdL T as with
      | some vs => ACalls P f vs s k
      | none => False
    | .callv x as => match opd T x, opdL T as with
      | some (.fn f a c), some vs => BodyOK P f = true ∧ ACalls P f (a ++ vs ++ c) s k
      | _, _ => False
    | o => match evK s T o with
      | some (C, v, s') => C ∧ k v s'
      | none => False
abbrev Step1 (P : Program) (T : Tm) (s : St) (i : Ins) (k : Tm → St → Prop) : Prop := StepV P T s i fun v s' => k (tput i.d v T) s'
def Ins.g : Ins → Option (Nat × Bool)
  | .f _ g _ => g
  | .k _ g _ => g
/-- Whether a guard lets it be carried out. -/
def gate (T : Tm) (g : Option (Nat × Bool)) : Option Bool := match g with
  | none => some true
  | some (t, want) => match tget T t with
    | some v => match asB v with
      | some b => some (b == want)
      | none => none
    | none => none
def Step (P : Program) (T : Tm) (s : St) (i : Ins) (k : Tm → St → Prop) : Prop := match gate T i.g with
  | some true => Step1 P T s i k
  | some false => k (tput i.d (.tup []) T) s
  | none => False
def RunI (P : Program) : List Ins → Tm → St → (Tm → St → Prop) → Prop
  | [], T, s, Q => Q T s
  | i :: l, T, s, Q => Step P T s i fun T' s' => RunI P l T' s' Q

/-! ### From the model's code -/
def guardOf (ops : Array Oper) (o : Oper) : Option (Option (Nat × Bool)) := match o.guard with
  | none => some none
  | some (j, want) => match (ops[j]?).bind (·.dst) with
    | some d => some (some (d, want))
    | none => none
def okDst (N : Nat) : Option Nat → Bool
  | none => true
  | some d => decide (d < N)
def insOf (P : Program) (N : Nat) (ops : Array Oper) (o : Oper) : Option Ins := if okDst N o.dst then match guardOf ops o with
    | some g => match cop P o.op with
      | some c => some (.f o.dst g c)
      | none => match kop P o.op with
        | some c => some (.k o.dst g c)
        | none => none
    | none => none
  else none
def insL (P : Program) (N : Nat) (ops : Array Oper) : List Oper → Option (List Ins)
  | [] => some []
  | o :: l => match insOf P N ops o, insL P N ops l with
    | some i, some r => some (i :: r)
    | _, _ => none

section
variable {P : Program} {N : Nat}
/-- What is known of a frame. -/
structure Fr (N : Nat) (w : World) (K : Nat → Prop) (β : Nat → Loc) (s : St) (T : Tm) (a : Act) : Prop where
  cz : Cz w K β s
  rt : RT w K β s.length T a
  sz : a.tmps.size = N
  df : a.defers = []
theorem RT_put {w w' : World} {K K' : Nat → Prop} {β β' : Nat → Loc} {s s' : St} {T : Tm} {a : Act} {d : Option Nat} {v : AV} {u : Value} (hd : okDst a.tmps.size d = true) (hT : RT w K β s.length T a) (hz : Cz w K β s) (hx : Ext s.length w K β s w' K' β' s')
    (hr : R w' K' β' s'.length v u) : RT w' K' β' s'.length (tput d v T) (a.put d u) := by
  have old : ∀ i v, tget T i = some v → ∃ u, a.tmps[i]? = some u ∧ R w' K' β' s'.length v u := fun i v h => by
    obtain ⟨u, h1, h2⟩ := hT i v h
    exact ⟨u, h1, h2.mono (hx.stays hz) hx.len hx.fix⟩
  cases d with
  | none => exact old
  | some d =>
    intro i x h
    have hlt : d < a.tmps.size := by simpa [okDst] using hd
    simp only [tput, tget_tset] at h
    simp only [Act.put]
    split at h
    · rename_i e
      subst e
      simp only [Option.some.injEq] at h; subst h
      exact ⟨u, by simp [hlt], hr⟩
    · rename_i e
      obtain ⟨u', h1, h2⟩ := old i x h
      exact ⟨u', by rw [Array.getElem?_setIfInBounds_ne e]; exact h1, h2⟩
theorem put_size (a : Act) (d : Option Nat) (u : Value) : (a.put d u).tmps.size = a.tmps.size := by cases d <;> simp [Act.put]
theorem put_defers' (a : Act) (d : Option Nat) (u : Value) : (a.put d u).defers = a.defers := by cases d <;> simp [Act.put]
theorem R_undef {w : World} {K : Nat → Prop} {β : Nat → Loc} {n : Nat} : R w K β n (.tup []) undef := by simp [R, RL, undef]
/-- A call in the model. -/
theorem call_ok {f : FuncId} {first args cap : List AV} {s : St} {Q : AV → St → Prop} (h : ACalls P f (first ++ args ++ cap) s Q) (hb : BodyOK P f = true) {w : World} {K : Nat → Prop} {β : Nat → Loc} (hz : Cz w K β s)
    {us as cs : List Value} (h1 : RL w K β s.length first us) (h2 : RL w K β s.length args as) (h3 : RL w K β s.length cap cs) {o : Oper} {c : Call} (ho : o.op = .call c) {x : Operand} (hc : c.callee = .value x) {a : Act}
    (hx : a.eval x = .func (.func f) us.toArray cs.toArray) (ha : c.args.map a.eval = as.toArray) {k : Act → World → Prop} {Q' : Exit → Act → World → Prop}
    (hk : ∀ v s' w' K' β' u, Q v s' → Cz w' K' β' s' → R w' K' β' s'.length v u → Ext s.length w K β s w' K' β' s' → k (a.put o.dst u) w') : o.wp P a w k Q' := by
  obtain ⟨dst, op, ty, pos, aft, grd⟩ := o
  obtain ⟨callee, cargs, ctys⟩ := c
  simp only at ho hc ha
  subst ho hc
  unfold BodyOK at hb
  split at hb
  · rename_i fn hfn
    simp only [Bool.and_eq_true, bne_iff_ne, ne_eq] at hb
    have hnone : ¬ fn.body = none := by cases hb' : fn.body <;> simp_all
    unfold Oper.wp execOp
    have hrun : (do let d ← resolve a.eval { callee := .value x, args := cargs, argTypes := ctys } ty; invoke d.target d.args).run P w = .ok (.enter f (us ++ as ++ cs).toArray) w := by
      have e0 : (us ++ as ++ cs).toArray = us.toArray ++ cargs.map a.eval ++ cs.toArray := by rw [ha]; simp
      rw [e0]
      simp [resolve, hx, Deferred.ofValue, invoke, callFunc, hfn, hb.2, hnone]
    simp only [hrun, Oper.upon]
    refine (h w K β _ hz (RL_append (RL_append h1 h2) h3)).mono fun e w' he => ?_
    obtain ⟨v, s', K', β', u, rfl, q1, q2, q3, q4⟩ := he
    exact hk v s' w' K' β' u q1 q2 q3 q4
  · cases hb
/-- One operation, carried out. -/
theorem stepV_ok {ops : Array Oper} {o : Oper} {i : Ins} (hi : insOf P N ops o = some i) {T : Tm} {s : St} {k : AV → St → Prop} (h : StepV P T s i k) {w : World} {K : Nat → Prop} {β : Nat → Loc} {a : Act} (hf : Fr N w K β s T a)
    {next : Act → World → Prop} {Q' : Exit → Act → World → Prop}
    (hk : ∀ v s' w' K' β' u, k v s' → Cz w' K' β' s' → R w' K' β' s'.length v u → Ext s.length w K β s w' K' β' s' → next (a.put o.dst u) w') : o.wp P a w next Q' := by
  unfold insOf at hi
  split at hi
  · rename_i hd
    split at hi
    · rename_i g hg
      split at hi
      · rename_i c hc
        simp only [Option.some.injEq] at hi; subst hi
        simp only [StepV] at h
        split at h
        · rename_i C v he
          obtain ⟨u, e1, e2⟩ := evF_ok hc he h.1 hf.cz hf.rt o.dst o.type o.pos o.after o.guard
          unfold Oper.wp
          rw [show o = { dst := o.dst, op := o.op, type := o.type, pos := o.pos, after := o.after, guard := o.guard } from rfl, e1]
          simp only [Oper.upon]
          exact hk v s w K β u h.2 hf.cz e2 (.refl (Nat.le_refl _))
        · exact h.elim
      · split at hi
        · rename_i c hc
          simp only [Option.some.injEq] at hi; subst hi
          have plain : ∀ {C : Prop} {v : AV} {s' : St}, evK s T c = some (C, v, s') → C → k v s' → o.wp P a w next Q' := by
            intro C v s' he hC hk'
            obtain ⟨nx, u, w', K', β', e1, e2, e3, e4, e5⟩ := evK_ok hc he hC hf.cz hf.rt o.dst o.type o.pos o.after o.guard
            unfold Oper.wp
            rw [show o = { dst := o.dst, op := o.op, type := o.type, pos := o.pos, after := o.after, guard := o.guard } from rfl, e1]
            have := hk v s' w' K' β' u hk' e3 e4 e5
            rcases e2 with rfl | ⟨rfl, rfl⟩ <;> simp only [Oper.upon] <;> exact this
          have dyn : ∀ {f : FuncId} {fa args cap : List AV} {x : Operand} {as : List Operand} {cl : Call}, o.op = .call cl → cl.callee = .value x → cl.args.toList = as → opd T x = some (.fn f fa cap) → opdL T as = some args → BodyOK P f = true →
              ACalls P f (fa ++ args ++ cap) s k → o.wp P a w next Q' := by
            intro f fa args cap x as cl ho hcl has hx hargs hb hcall
            have hrx := opd_ok hf.rt hx
            simp only [R] at hrx
            obtain ⟨us, cs, q1, q2, q3⟩ := hrx
            have hra := opdL_ok hf.rt hargs
            exact call_ok hcall hb hf.cz q2 hra q3 ho hcl q1 (by apply Array.ext'; simp [has]) hk
          simp only [StepV] at h
          split at h
          · rename_i f as
            split at h
            · rename_i vs hvs
              have : ∃ cl, o.op = .call cl ∧ cl.callee = .value (.func f) ∧ cl.args.toList = as ∧ BodyOK P f = true := by
                revert hc
                cases o.op with
                | call cl =>
                  obtain ⟨callee, cargs, ctys⟩ := cl
                  intro hc
                  cases callee with
                  | builtin b =>
                    cases b <;> simp only [kop] at hc <;> (try cases hc) <;> (repeat' split at hc) <;> simp at hc
                  | value x =>
                    cases x with
                    | func f' =>
                      simp only [kop] at hc
                      split at hc
                      · rename_i hb
                        simp only [Option.some.injEq, KO.call.injEq] at hc
                        obtain ⟨rfl, rfl⟩ := hc
                        exact ⟨_, rfl, rfl, rfl, hb⟩
                      · cases hc
                    | _ => simp [kop] at hc
                  | invoke r m => simp [kop] at hc
                | _ => intro hc; simp only [kop] at hc <;> (try cases hc) <;> (repeat' split at hc) <;> simp at hc
              obtain ⟨cl, ho, hcl, has, hb⟩ := this
              exact dyn (fa := []) (cap := []) ho hcl has rfl hvs hb (by simpa using h)
            · exact h.elim
          · rename_i x as
            split at h
            · rename_i f fa cap vs hx hvs
              have : ∃ cl, o.op = .call cl ∧ cl.callee = .value x ∧ cl.args.toList = as := by
                revert hc
                cases o.op with
                | call cl =>
                  obtain ⟨callee, cargs, ctys⟩ := cl
                  intro hc
                  cases callee with
                  | builtin b =>
                    cases b <;> simp only [kop] at hc <;> (try cases hc) <;> (repeat' split at hc) <;> simp at hc
                  | value x' =>
                    cases x' with
                    | func f' =>
                      simp only [kop] at hc
                      split at hc <;> simp at hc
                    | _ =>
                      simp only [kop, Option.some.injEq, KO.callv.injEq] at hc
                      obtain ⟨rfl, rfl⟩ := hc
                      exact ⟨_, rfl, rfl, rfl⟩
                  | invoke r m => simp [kop] at hc
                | _ => intro hc; simp only [kop] at hc <;> (try cases hc) <;> (repeat' split at hc) <;> simp at hc
              obtain ⟨cl, ho, hcl, has⟩ := this
              exact dyn ho hcl has hx hvs h.1 h.2
            · exact h.elim
          · split at h
            · rename_i C v s' he
              exact plain he h.1 h.2
            · exact h.elim
        · cases hi
    · cases hi
  · cases hi
theorem insOf_d {ops : Array Oper} {o : Oper} {i : Ins} (hi : insOf P N ops o = some i) : i.d = o.dst ∧ okDst N o.dst = true ∧ guardOf ops o = some i.g := by
  unfold insOf at hi
  split at hi
  · rename_i hd
    split at hi
    · rename_i g hg
      split at hi
      · simp only [Option.some.injEq] at hi; subst hi; exact ⟨rfl, hd, hg⟩
      · split at hi
        · simp only [Option.some.injEq] at hi; subst hi; exact ⟨rfl, hd, hg⟩
        · cases hi
    · cases hi
  · cases hi
/-- The model asks the same of a guard. -/
theorem gate_ok {ops : Array Oper} {o : Oper} {g : Option (Nat × Bool)} (hg : guardOf ops o = some g) {T : Tm} {b : Bool} (h : gate T g = some b) {w : World} {K : Nat → Prop} {β : Nat → Loc} {n : Nat} {a : Act} (hT : RT w K β n T a) :
    Region.wanted o (yielded ops a.tmps) = b := by
  unfold guardOf at hg
  split at hg
  · rename_i hn
    simp only [Option.some.injEq] at hg; subst hg
    simp only [gate, Option.some.injEq] at h; subst h
    simp [Region.wanted, hn]
  · rename_i j want hj
    split at hg
    · rename_i d hd
      simp only [Option.some.injEq] at hg; subst hg
      simp only [gate] at h
      split at h
      · rename_i v hv
        split at h
        · rename_i t ht
          simp only [Option.some.injEq] at h; subst h
          obtain ⟨u, h1, h2⟩ := hT d v hv
          rw [R_asB h2 ht] at h1
          have : yielded ops a.tmps j = some t := by simp [yielded, hd, h1]
          simp only [Region.wanted, hj, this]
          cases t <;> cases want <;> rfl
        · cases h
      · cases h
    · cases hg
inductive Fl where
  | normal | ret | exit (id : Nat)
def Fl.ex : Fl → Exit
  | .normal => .normal
  | .ret => .ret
  | .exit id => .exit id
/-- What holds behind a piece of code, in the model. -/
def After (N m : Nat) (w : World) (K : Nat → Prop) (β : Nat → Loc) (s : St) (Q : Fl → Tm → St → Prop) : Exit → Act → World → Prop := fun e a' w' =>
  ∃ fl T' s' K' β', e = Fl.ex fl ∧ Q fl T' s' ∧ Fr N w' K' β' s' T' a' ∧ Ext m w K β s w' K' β' s'
theorem runI_ok {ops : Array Oper} {m : Nat} {w0 : World} {K0 : Nat → Prop} {β0 : Nat → Loc} {s0 : St} {Q : Fl → Tm → St → Prop} : ∀ (l : List (Nat × Ins)), (∀ p ∈ l, ∃ o, ops[p.1]? = some o ∧ insOf P N ops o = some p.2) →
    ∀ {T : Tm} {s : St} {w : World} {K : Nat → Prop} {β : Nat → Loc} {a : Act}, RunI P (l.map (·.2)) T s (Q .normal) → Fr N w K β s T a → Ext m w0 K0 β0 s0 w K β s → wpOps P ops (After N m w0 K0 β0 s0 Q) (l.map (·.1)) a w
  | [], _, T, s, w, K, β, a, h, hf, hx => ⟨.normal, T, s, K, β, rfl, h, hf, hx⟩
  | (j, i) :: l, hl, T, s, w, K, β, a, h, hf, hx => by
    obtain ⟨o, ho, hi⟩ := hl (j, i) (List.mem_cons_self ..)
    have ih := fun {T : Tm} {s : St} {w : World} {K : Nat → Prop} {β : Nat → Loc} {a : Act} => runI_ok (m := m) (w0 := w0) (K0 := K0) (β0 := β0) (s0 := s0) (Q := Q) l (fun p hp => hl p (List.mem_cons_of_mem _ hp)) (T := T) (s := s) (w := w) (K := K) (β := β) (a := a)
    obtain ⟨hd1, hd2, hg⟩ := insOf_d hi
    simp only [List.map_cons, RunI, Step] at h
    simp only [List.map_cons, wpOps, ho]
    have fin : ∀ v s' w' K' β' u, RunI P (l.map (·.2)) (tput i.d v T) s' (Q .normal) → Cz w' K' β' s' → R w' K' β' s'.length v u → Ext s.length w K β s w' K' β' s' → wpOps P ops (After N m w0 K0 β0 s0 Q) (l.map (·.1)) (a.put o.dst u) w' := by
      intro v s' w' K' β' u h1 h2 h3 h4
      refine ih h1 ⟨h2, ?_, by rw [put_size]; exact hf.sz, by rw [put_defers']; exact hf.df⟩ (hx.trans hx.len h4)
      rw [hd1]
      exact RT_put (by rw [hf.sz]; exact hd2) hf.rt hf.cz h4 h3
    split at h
    · rename_i hgt
      rw [if_pos (gate_ok hg hgt hf.rt)]
      exact .inl (stepV_ok hi h hf fin)
    · rename_i hgt
      have := gate_ok hg hgt hf.rt
      rw [if_neg (by rw [this]; simp)]
      exact fin (.tup []) s w K β undef h hf.cz R_undef (.refl (Nat.le_refl _))
    · exact h.elim
theorem insL_get {ops : Array Oper} : ∀ {l : List Oper} {r : List Ins}, insL P N ops l = some r → r.length = l.length ∧ ∀ (j : Nat) i, r[j]? = some i → ∃ o, l[j]? = some o ∧ insOf P N ops o = some i
  | [], r, h => by simp [insL] at h; subst h; exact ⟨rfl, fun j i h => by simp at h⟩
  | o :: l, r, h => by
    simp only [insL] at h
    split at h
    · rename_i i r' h1 h2
      simp only [Option.some.injEq] at h; subst h
      obtain ⟨q1, q2⟩ := insL_get h2
      refine ⟨by simp [q1], fun j i' hj => ?_⟩
      cases j with
      | zero => simp at hj; subst hj; exact ⟨o, rfl, h1⟩
      | succ j => simpa using q2 j i' (by simpa using hj)
    · cases h
theorem region_plain {id : Nat} {ops : Array Oper} {l : List Ins} (hl : insL P N ops ops.toList = some l) {m : Nat} {Q : Fl → Tm → St → Prop} {T : Tm} {s : St} (h : RunI P l T s (Q .normal)) {w : World} {K : Nat → Prop} {β : Nat → Loc} {a : Act} (hf : Fr N w K β s T a)
    (hm : m ≤ s.length) : (Code.region id ops false).wp P (After N m w K β s Q) a w := by
  obtain ⟨q1, q2⟩ := insL_get hl
  have e1 : ((List.range ops.size).zip l).map (·.1) = List.range ops.size := by rw [List.map_fst_zip]; simp [q1]
  have e2 : ((List.range ops.size).zip l).map (·.2) = l := by rw [List.map_snd_zip]; simp [q1]
  have := runI_ok (P := P) (N := N) (ops := ops) (m := m) (w0 := w) (K0 := K) (β0 := β) (s0 := s) (Q := Q) ((List.range ops.size).zip l) (fun p hp => by
    obtain ⟨j, hj⟩ := List.getElem?_of_mem hp
    rw [List.getElem?_zip_eq_some] at hj
    obtain ⟨h1, h2⟩ := hj
    obtain ⟨o, ho, hi⟩ := q2 j p.2 h2
    have hlt := (List.getElem?_eq_some_iff.1 h1).1
    rw [List.getElem?_range (by simpa using hlt)] at h1
    simp only [Option.some.injEq] at h1
    exact ⟨o, by rw [← h1]; simpa using ho, hi⟩) (by rw [e2]; exact h) hf (.refl hm)
  rw [e1] at this
  exact wp_region this
end
end Go.Proofs.Ytcedkkleclhglaa.H
