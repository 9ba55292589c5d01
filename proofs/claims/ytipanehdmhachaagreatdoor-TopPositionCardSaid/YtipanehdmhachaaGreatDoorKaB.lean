/- The logic H, generic: texts HaL to HaV. -/
import Derived.Test.YtipanehdmhachaaGreatDoorKaA
import Derived.Orders
set_option linter.unusedSimpArgs false
set_option linter.unusedVariables false
set_option linter.unusedSectionVars false
namespace Go.Proofs.YtipanehdmhachaaGreatDoor.H
variable [DR]

/-- The call returns, and 'Q' holds of its result and of the own blocks behind it; nothing else that was there is changed. -/
def ACalls (P : Program) (f : FuncId) (vs : List AV) (s : St) (Q : AV → St → Prop) : Prop :=
  ∀ w K β us, Cz w K β s → RL w K β s.length vs us → Calls P f us.toArray w fun e w' => ∃ v s' K' β' u, e = .returned u ∧ Q v s' ∧ Cz w' K' β' s' ∧ R w' K' β' s'.length v u ∧ Ext s.length w K β s w' K' β' s'
theorem ACalls.mono {P : Program} {f : FuncId} {vs : List AV} {s : St} {Q Q' : AV → St → Prop} (h : ACalls P f vs s Q) (hq : ∀ v s', Q v s' → Q' v s') : ACalls P f vs s Q' :=
  fun w K β us hz hr => (h w K β us hz hr).mono fun e w' ⟨v, s', K', β', u, e1, e2, e3⟩ => ⟨v, s', K', β', u, e1, hq _ _ e2, e3⟩

inductive Ins where
  | f (d : Option Nat) (g : Option (Nat × Bool)) (o : FO) | k (d : Option Nat) (g : Option (Nat × Bool)) (o : KO)
inductive C where
  | skip | ops (l : List Ins) | opd (l : List (Ins × List FO)) | seq (a b : C) | cond (x : Operand) (a b : C) | block (id : Nat) (c : C) | loop (c : C) | exit (id : Nat) | ret

def Ins.d : Ins → Option Nat
  | .f d _ _ => d
  | .k d _ _ => d
/-- An operation of the model that looks so, with these values. -/
def AOp (P : Program) (g : GO) (l : List Operand) (vs : List AV) (s : St) (Q : AV → St → Prop) : Prop :=
  ∀ (w : World) (K : Nat → Prop) (β : Nat → Loc) (ρ : Operand → Value) (o : Oper), toGO P o.op = some (g, l) → (∀ v, ρ (.const v) = v) → Cz w K β s → RL w K β s.length vs (l.map ρ) →
    ∃ nx u v w' s' K' β', (execOp ρ o).run P w = .ok nx w' ∧ (nx = .value u ∨ (nx = .skip ∧ u = undef)) ∧ Q v s' ∧ Cz w' K' β' s' ∧ R w' K' β' s'.length v u ∧ Ext s.length w K β s w' K' β' s'
/-- One operation that is carried out: its value, and the blocks behind it. -/
def StepV (P : Program) (T : Tm) (s : St) (i : Ins) (k : AV → St → Prop) : Prop := match i with
  | .f _ _ o => match evF s T o with
    | some (C, v) => C ∧ k v s
    | none => False
  | .k _ _ o => match o with
    | .call f as => match opdL T as with
      | some vs => ACalls P f vs s k
      | none => False
    | .callv x as => match opd T x, opdL T as with
      | some (.fn f a c), some vs => BodyOK P f = true ∧ ACalls P f (a ++ vs ++ c) s k
      | _, _ => False
    | .gen g as => match opdL T as with
      | some vs => AOp P g as vs s k
      | none => False
    | o => match evK s T o with
      | some (C, v, s') => C ∧ k v s'
      | none => False
abbrev Step1 (P : Program) (T : Tm) (s : St) (i : Ins) (k : Tm → St → Prop) : Prop := StepV P T s i fun v s' => k (tput i.d v T) s'
def Ins.g : Ins → Option (Nat × Bool)
  | .f _ g _ => g
  | .k _ g _ => g
/-- Whether a guard lets it be carried out. -/
def gate (T : Tm) (g : Option (Nat × Bool)) : Option Bool := match g with
  | none => some true
  | some (t, want) => match tget T t with
    | some v => match asB v with
      | some b => some (b == want)
      | none => match v with
        | .tup [] => some false
        | _ => none
    | none => none
def Step (P : Program) (T : Tm) (s : St) (i : Ins) (k : Tm → St → Prop) : Prop := match gate T i.g with
  | some true => Step1 P T s i k
  | some false => k (tput i.d (.tup []) T) s
  | none => False
def RunI (P : Program) : List Ins → Tm → St → (Tm → St → Prop) → Prop
  | [], T, s, Q => Q T s
  | i :: l, T, s, Q => Step P T s i fun T' s' => RunI P l T' s' Q

/-! ### From the model's code -/
def guardOf (ops : Array Oper) (o : Oper) : Option (Option (Nat × Bool)) := match o.guard with
  | none => some none
  | some (j, want) => match (ops[j]?).bind (·.dst) with
    | some d => some (some (d, want))
    | none => none
def okDst (N : Nat) : Option Nat → Bool
  | none => true
  | some d => decide (d < N)
def insOf (P : Program) (N : Nat) (ops : Array Oper) (o : Oper) : Option Ins := if okDst N o.dst then match guardOf ops o with
    | some g => match cop P o.op with
      | some c => some (.f o.dst g c)
      | none => match kop P o.op with
        | some c => some (.k o.dst g c)
        | none => match toGO P o.op with
          | some (c, l) => some (.k o.dst g (.gen c l))
          | none => none
    | none => none
  else none
def insL (P : Program) (N : Nat) (ops : Array Oper) : List Oper → Option (List Ins)
  | [] => some []
  | o :: l => match insOf P N ops o, insL P N ops l with
    | some i, some r => some (i :: r)
    | _, _ => none

section
variable {P : Program} {N : Nat}
/-- What is known of a frame. -/
structure Fr (N : Nat) (w : World) (K : Nat → Prop) (β : Nat → Loc) (s : St) (T : Tm) (a : Act) : Prop where
  cz : Cz w K β s
  rt : RT w K β s.length T a
  sz : a.tmps.size = N
  df : a.defers = []
theorem RT_put {w w' : World} {K K' : Nat → Prop} {β β' : Nat → Loc} {s s' : St} {T : Tm} {a : Act} {d : Option Nat} {v : AV} {u : Value} (hd : okDst a.tmps.size d = true) (hT : RT w K β s.length T a) (hz : Cz w K β s) (hx : Ext s.length w K β s w' K' β' s')
    (hr : R w' K' β' s'.length v u) : RT w' K' β' s'.length (tput d v T) (a.put d u) := by
  have old : ∀ i v, tget T i = some v → ∃ u, a.tmps[i]? = some u ∧ R w' K' β' s'.length v u := fun i v h => by
    obtain ⟨u, h1, h2⟩ := hT i v h
    exact ⟨u, h1, h2.mono (hx.stays hz) hx.len hx.fix⟩
  cases d with
  | none => exact old
  | some d =>
    intro i x h
    have hlt : d < a.tmps.size := by simpa [okDst] using hd
    simp only [tput, tget_tset] at h
    simp only [Act.put]
    split at h
    · rename_i e
      subst e
      simp only [Option.some.injEq] at h; subst h
      exact ⟨u, by simp [hlt], hr⟩
    · rename_i e
      obtain ⟨u', h1, h2⟩ := old i x h
      exact ⟨u', by rw [Array.getElem?_setIfInBounds_ne e]; exact h1, h2⟩
theorem put_size (a : Act) (d : Option Nat) (u : Value) : (a.put d u).tmps.size = a.tmps.size := by cases d <;> simp [Act.put]
theorem put_defers' (a : Act) (d : Option Nat) (u : Value) : (a.put d u).defers = a.defers := by cases d <;> simp [Act.put]
theorem R_undef {w : World} {K : Nat → Prop} {β : Nat → Loc} {n : Nat} : R w K β n (.tup []) undef := by simp [R, RL, undef]
/-- A call in the model. -/
theorem call_ok {f : FuncId} {first args cap : List AV} {s : St} {Q : AV → St → Prop} (h : ACalls P f (first ++ args ++ cap) s Q) (hb : BodyOK P f = true) {w : World} {K : Nat → Prop} {β : Nat → Loc} (hz : Cz w K β s)
    {us as cs : List Value} (h1 : RL w K β s.length first us) (h2 : RL w K β s.length args as) (h3 : RL w K β s.length cap cs) {o : Oper} {c : Call} (ho : o.op = .call c) {x : Operand} (hc : c.callee = .value x) {a : Act}
    (hx : a.eval x = .func (.func f) us.toArray cs.toArray) (ha : c.args.map a.eval = as.toArray) {k : Act → World → Prop} {Q' : Exit → Act → World → Prop}
    (hk : ∀ v s' w' K' β' u, Q v s' → Cz w' K' β' s' → R w' K' β' s'.length v u → Ext s.length w K β s w' K' β' s' → k (a.put o.dst u) w') : o.wp P a w k Q' := by
  obtain ⟨dst, op, ty, pos, aft, grd⟩ := o
  obtain ⟨callee, cargs, ctys⟩ := c
  simp only at ho hc ha
  subst ho hc
  unfold BodyOK at hb
  split at hb
  · rename_i fn hfn
    simp only [Bool.and_eq_true, bne_iff_ne, ne_eq] at hb
    have hnone : ¬ fn.body = none := by cases hb' : fn.body <;> simp_all
    unfold Oper.wp execOp
    have hrun : (do let d ← resolve a.eval { callee := .value x, args := cargs, argTypes := ctys } ty; invoke d.target d.args).run P w = .ok (.enter f (us ++ as ++ cs).toArray) w := by
      have e0 : (us ++ as ++ cs).toArray = us.toArray ++ cargs.map a.eval ++ cs.toArray := by rw [ha]; simp
      rw [e0]
      simp [resolve, hx, Deferred.ofValue, invoke, callFunc, hfn, hb.2, hnone]
    simp only [hrun, Oper.upon]
    refine (h w K β _ hz (RL_append (RL_append h1 h2) h3)).mono fun e w' he => ?_
    obtain ⟨v, s', K', β', u, rfl, q1, q2, q3, q4⟩ := he
    exact hk v s' w' K' β' u q1 q2 q3 q4
  · cases hb
/-- One operation, carried out. -/
theorem stepV_ok {ops : Array Oper} {o : Oper} {i : Ins} (hi : insOf P N ops o = some i) {T : Tm} {s : St} {k : AV → St → Prop} (h : StepV P T s i k) {w : World} {K : Nat → Prop} {β : Nat → Loc} {a : Act} (hf : Fr N w K β s T a)
    {next : Act → World → Prop} {Q' : Exit → Act → World → Prop}
    (hk : ∀ v s' w' K' β' u, k v s' → Cz w' K' β' s' → R w' K' β' s'.length v u → Ext s.length w K β s w' K' β' s' → next (a.put o.dst u) w') : o.wp P a w next Q' := by
  unfold insOf at hi
  split at hi
  · rename_i hd
    split at hi
    · rename_i g hg
      split at hi
      · rename_i c hc
        simp only [Option.some.injEq] at hi; subst hi
        simp only [StepV] at h
        split at h
        · rename_i C v he
          obtain ⟨u, e1, e2⟩ := evF_ok hc he h.1 hf.cz hf.rt o.dst o.type o.pos o.after o.guard
          unfold Oper.wp
          rw [show o = { dst := o.dst, op := o.op, type := o.type, pos := o.pos, after := o.after, guard := o.guard } from rfl, e1]
          simp only [Oper.upon]
          exact hk v s w K β u h.2 hf.cz e2 (.refl (Nat.le_refl _))
        · exact h.elim
      · split at hi
        · rename_i c hc
          simp only [Option.some.injEq] at hi; subst hi
          have plain : ∀ {C : Prop} {v : AV} {s' : St}, evK s T c = some (C, v, s') → C → k v s' → o.wp P a w next Q' := by
            intro C v s' he hC hk'
            obtain ⟨nx, u, w', K', β', e1, e2, e3, e4, e5⟩ := evK_ok hc he hC hf.cz hf.rt o.dst o.type o.pos o.after o.guard
            unfold Oper.wp
            rw [show o = { dst := o.dst, op := o.op, type := o.type, pos := o.pos, after := o.after, guard := o.guard } from rfl, e1]
            have := hk v s' w' K' β' u hk' e3 e4 e5
            rcases e2 with rfl | ⟨rfl, rfl⟩ <;> simp only [Oper.upon] <;> exact this
          have dyn : ∀ {f : FuncId} {fa args cap : List AV} {x : Operand} {as : List Operand} {cl : Call}, o.op = .call cl → cl.callee = .value x → cl.args.toList = as → opd T x = some (.fn f fa cap) → opdL T as = some args → BodyOK P f = true →
              ACalls P f (fa ++ args ++ cap) s k → o.wp P a w next Q' := by
            intro f fa args cap x as cl ho hcl has hx hargs hb hcall
            have hrx := opd_ok hf.rt hx
            simp only [R] at hrx
            obtain ⟨us, cs, q1, q2, q3⟩ := hrx
            have hra := opdL_ok hf.rt hargs
            exact call_ok hcall hb hf.cz q2 hra q3 ho hcl q1 (by apply Array.ext'; simp [has]) hk
          simp only [StepV] at h
          split at h
          · rename_i f as
            split at h
            · rename_i vs hvs
              have : ∃ cl, o.op = .call cl ∧ cl.callee = .value (.func f) ∧ cl.args.toList = as ∧ BodyOK P f = true := by
                revert hc
                cases o.op with
                | call cl =>
                  obtain ⟨callee, cargs, ctys⟩ := cl
                  intro hc
                  cases callee with
                  | builtin b =>
                    cases b <;> simp only [kop] at hc <;> (try cases hc) <;> (repeat' split at hc) <;> simp at hc
                  | value x =>
                    cases x with
                    | func f' =>
                      simp only [kop] at hc
                      split at hc
                      · rename_i hb
                        simp only [Option.some.injEq, KO.call.injEq] at hc
                        obtain ⟨rfl, rfl⟩ := hc
                        exact ⟨_, rfl, rfl, rfl, hb⟩
                      · cases hc
                    | _ => simp [kop] at hc
                  | invoke r m => simp [kop] at hc
                | _ => intro hc; simp only [kop] at hc <;> (try cases hc) <;> (repeat' split at hc) <;> simp at hc
              obtain ⟨cl, ho, hcl, has, hb⟩ := this
              exact dyn (fa := []) (cap := []) ho hcl has rfl hvs hb (by simpa using h)
            · exact h.elim
          · rename_i x as
            split at h
            · rename_i f fa cap vs hx hvs
              have : ∃ cl, o.op = .call cl ∧ cl.callee = .value x ∧ cl.args.toList = as := by
                revert hc
                cases o.op with
                | call cl =>
                  obtain ⟨callee, cargs, ctys⟩ := cl
                  intro hc
                  cases callee with
                  | builtin b =>
                    cases b <;> simp only [kop] at hc <;> (try cases hc) <;> (repeat' split at hc) <;> simp at hc
                  | value x' =>
                    cases x' with
                    | func f' =>
                      simp only [kop] at hc
                      split at hc <;> simp at hc
                    | _ =>
                      simp only [kop, Option.some.injEq, KO.callv.injEq] at hc
                      obtain ⟨rfl, rfl⟩ := hc
                      exact ⟨_, rfl, rfl, rfl⟩
                  | invoke r m => simp [kop] at hc
                | _ => intro hc; simp only [kop] at hc <;> (try cases hc) <;> (repeat' split at hc) <;> simp at hc
              obtain ⟨cl, ho, hcl, has⟩ := this
              exact dyn ho hcl has hx hvs h.1 h.2
            · exact h.elim
          · rename_i g' as
            exfalso
            revert hc
            cases o.op with
            | call cl =>
              obtain ⟨callee, cargs, ctys⟩ := cl
              intro hc
              cases callee with
              | builtin b =>
                cases b <;> simp only [kop] at hc <;> (try cases hc) <;> (repeat' split at hc) <;> simp at hc
              | value x' =>
                cases x' with
                | func f' =>
                  simp only [kop] at hc
                  split at hc <;> simp at hc
                | _ => simp [kop] at hc
              | invoke r m => simp [kop] at hc
            | _ => intro hc; simp only [kop] at hc <;> (try cases hc) <;> (repeat' split at hc) <;> simp at hc
          · split at h
            · rename_i C v s' he
              exact plain he h.1 h.2
            · exact h.elim
        · split at hi
          · rename_i g' as hgo
            simp only [Option.some.injEq] at hi; subst hi
            simp only [StepV] at h
            split at h
            · rename_i vs hvs
              obtain ⟨nx, u, v, w', s', K', β', e1, e2, e0, e3, e4, e5⟩ := h w K β a.eval o hgo (fun _ => rfl) hf.cz (opdL_ok hf.rt hvs)
              unfold Oper.wp
              rw [e1]
              have := hk v s' w' K' β' u e0 e3 e4 e5
              rcases e2 with rfl | ⟨rfl, rfl⟩ <;> simp only [Oper.upon] <;> exact this
            · exact h.elim
          · cases hi
    · cases hi
  · cases hi
theorem insOf_d {ops : Array Oper} {o : Oper} {i : Ins} (hi : insOf P N ops o = some i) : i.d = o.dst ∧ okDst N o.dst = true ∧ guardOf ops o = some i.g := by
  unfold insOf at hi
  split at hi
  · rename_i hd
    split at hi
    · rename_i g hg
      split at hi
      · simp only [Option.some.injEq] at hi; subst hi; exact ⟨rfl, hd, hg⟩
      · split at hi
        · simp only [Option.some.injEq] at hi; subst hi; exact ⟨rfl, hd, hg⟩
        · split at hi
          · simp only [Option.some.injEq] at hi; subst hi; exact ⟨rfl, hd, hg⟩
          · cases hi
    · cases hi
  · cases hi
/-- The model asks the same of a guard. -/
theorem gate_ok {ops : Array Oper} {o : Oper} {g : Option (Nat × Bool)} (hg : guardOf ops o = some g) {T : Tm} {b : Bool} (h : gate T g = some b) {w : World} {K : Nat → Prop} {β : Nat → Loc} {n : Nat} {a : Act} (hT : RT w K β n T a) :
    Region.wanted o (yielded ops a.tmps) = b := by
  unfold guardOf at hg
  split at hg
  · rename_i hn
    simp only [Option.some.injEq] at hg; subst hg
    simp only [gate, Option.some.injEq] at h; subst h
    simp [Region.wanted, hn]
  · rename_i j want hj
    split at hg
    · rename_i d hd
      simp only [Option.some.injEq] at hg; subst hg
      simp only [gate] at h
      split at h
      · rename_i v hv
        split at h
        · rename_i t ht
          simp only [Option.some.injEq] at h; subst h
          obtain ⟨u, h1, h2⟩ := hT d v hv
          rw [R_asB h2 ht] at h1
          have : yielded ops a.tmps j = some t := by simp [yielded, hd, h1]
          simp only [Region.wanted, hj, this]
          cases t <;> cases want <;> rfl
        · split at h
          · simp only [Option.some.injEq] at h; subst h
            obtain ⟨u, h1, h2⟩ := hT d _ hv
            simp only [R, RL] at h2
            obtain ⟨_, rfl, rfl⟩ := h2
            have : yielded ops a.tmps j = none := by simp [yielded, hd, h1]
            simp [Region.wanted, hj, this]
          · cases h
      · cases h
    · cases hg
inductive Fl where
  | normal | ret | exit (id : Nat)
def Fl.ex : Fl → Exit
  | .normal => .normal
  | .ret => .ret
  | .exit id => .exit id
/-- What holds behind a piece of code, in the model. -/
def After (N m : Nat) (w : World) (K : Nat → Prop) (β : Nat → Loc) (s : St) (Q : Fl → Tm → St → Prop) : Exit → Act → World → Prop := fun e a' w' =>
  ∃ fl T' s' K' β', e = Fl.ex fl ∧ Q fl T' s' ∧ Fr N w' K' β' s' T' a' ∧ Ext m w K β s w' K' β' s'
theorem runI_ok {ops : Array Oper} {m : Nat} {w0 : World} {K0 : Nat → Prop} {β0 : Nat → Loc} {s0 : St} {Q : Fl → Tm → St → Prop} : ∀ (l : List (Nat × Ins)), (∀ p ∈ l, ∃ o, ops[p.1]? = some o ∧ insOf P N ops o = some p.2) →
    ∀ {T : Tm} {s : St} {w : World} {K : Nat → Prop} {β : Nat → Loc} {a : Act}, RunI P (l.map (·.2)) T s (Q .normal) → Fr N w K β s T a → Ext m w0 K0 β0 s0 w K β s → wpOps P ops (After N m w0 K0 β0 s0 Q) (l.map (·.1)) a w
  | [], _, T, s, w, K, β, a, h, hf, hx => ⟨.normal, T, s, K, β, rfl, h, hf, hx⟩
  | (j, i) :: l, hl, T, s, w, K, β, a, h, hf, hx => by
    obtain ⟨o, ho, hi⟩ := hl (j, i) (List.mem_cons_self ..)
    have ih := fun {T : Tm} {s : St} {w : World} {K : Nat → Prop} {β : Nat → Loc} {a : Act} => runI_ok (m := m) (w0 := w0) (K0 := K0) (β0 := β0) (s0 := s0) (Q := Q) l (fun p hp => hl p (List.mem_cons_of_mem _ hp)) (T := T) (s := s) (w := w) (K := K) (β := β) (a := a)
    obtain ⟨hd1, hd2, hg⟩ := insOf_d hi
    simp only [List.map_cons, RunI, Step] at h
    simp only [List.map_cons, wpOps, ho]
    have fin : ∀ v s' w' K' β' u, RunI P (l.map (·.2)) (tput i.d v T) s' (Q .normal) → Cz w' K' β' s' → R w' K' β' s'.length v u → Ext s.length w K β s w' K' β' s' → wpOps P ops (After N m w0 K0 β0 s0 Q) (l.map (·.1)) (a.put o.dst u) w' := by
      intro v s' w' K' β' u h1 h2 h3 h4
      refine ih h1 ⟨h2, ?_, by rw [put_size]; exact hf.sz, by rw [put_defers']; exact hf.df⟩ (hx.trans hx.len h4)
      rw [hd1]
      exact RT_put (by rw [hf.sz]; exact hd2) hf.rt hf.cz h4 h3
    split at h
    · rename_i hgt
      rw [if_pos (gate_ok hg hgt hf.rt)]
      exact .inl (stepV_ok hi h hf fin)
    · rename_i hgt
      have := gate_ok hg hgt hf.rt
      rw [if_neg (by rw [this]; simp)]
      exact fin (.tup []) s w K β undef h hf.cz R_undef (.refl (Nat.le_refl _))
    · exact h.elim
theorem insL_get {ops : Array Oper} : ∀ {l : List Oper} {r : List Ins}, insL P N ops l = some r → r.length = l.length ∧ ∀ (j : Nat) i, r[j]? = some i → ∃ o, l[j]? = some o ∧ insOf P N ops o = some i
  | [], r, h => by simp [insL] at h; subst h; exact ⟨rfl, fun j i h => by simp at h⟩
  | o :: l, r, h => by
    simp only [insL] at h
    split at h
    · rename_i i r' h1 h2
      simp only [Option.some.injEq] at h; subst h
      obtain ⟨q1, q2⟩ := insL_get h2
      refine ⟨by simp [q1], fun j i' hj => ?_⟩
      cases j with
      | zero => simp at hj; subst hj; exact ⟨o, rfl, h1⟩
      | succ j => simpa using q2 j i' (by simpa using hj)
    · cases h
theorem region_plain {id : Nat} {ops : Array Oper} {l : List Ins} (hl : insL P N ops ops.toList = some l) {m : Nat} {Q : Fl → Tm → St → Prop} {T : Tm} {s : St} (h : RunI P l T s (Q .normal)) {w : World} {K : Nat → Prop} {β : Nat → Loc} {a : Act} (hf : Fr N w K β s T a)
    (hm : m ≤ s.length) : (Code.region id ops false).wp P (After N m w K β s Q) a w := by
  obtain ⟨q1, q2⟩ := insL_get hl
  have e1 : ((List.range ops.size).zip l).map (·.1) = List.range ops.size := by rw [List.map_fst_zip]; simp [q1]
  have e2 : ((List.range ops.size).zip l).map (·.2) = l := by rw [List.map_snd_zip]; simp [q1]
  have := runI_ok (P := P) (N := N) (ops := ops) (m := m) (w0 := w) (K0 := K) (β0 := β) (s0 := s) (Q := Q) ((List.range ops.size).zip l) (fun p hp => by
    obtain ⟨j, hj⟩ := List.getElem?_of_mem hp
    rw [List.getElem?_zip_eq_some] at hj
    obtain ⟨h1, h2⟩ := hj
    obtain ⟨o, ho, hi⟩ := q2 j p.2 h2
    have hlt := (List.getElem?_eq_some_iff.1 h1).1
    rw [List.getElem?_range (by simpa using hlt)] at h1
    simp only [Option.some.injEq] at h1
    exact ⟨o, by rw [← h1]; simpa using ho, hi⟩) (by rw [e2]; exact h) hf (.refl hm)
  rw [e1] at this
  exact wp_region this
end
end Go.Proofs.YtipanehdmhachaaGreatDoor.H

set_option linter.unusedSimpArgs false
set_option linter.unusedVariables false
set_option linter.unusedSectionVars false
set_option linter.unusedSectionVars false
namespace Go.Proofs.YtipanehdmhachaaGreatDoor.H
variable [DR]

def fOps : FO → List Operand
  | .mv x | .un _ x | .conv _ x | .nilc x | .field _ _ x | .extract _ x | .faddr _ x | .len x | .lens x | .load _ x | .slca _ _ x | .b2s x => [x]
  | .pick c a b => [c, a, b]
  | .bin _ x y | .binb _ x y | .bins _ x y | .shf _ x y | .eql _ _ x y | .iaddr _ _ x y | .idx _ _ _ x y | .sidx x y => [x, y]
  | .build _ ps => ps.map (·.2.2)
  | .mkfn _ a c => a ++ c
  | .mm _ l => l
  | .slc _ x lo hi mx => x :: (lo.toList ++ (hi.toList ++ mx.toList))
  | .slcs x lo hi => x :: (lo.toList ++ hi.toList)
def kOps : KO → List Operand
  | .alloc _ _ => []
  | .asg x => [x]
  | .mkz .. => []
  | .box _ _ x => [x]
  | .store _ x v => [x, v]
  | .bslice _ _ _ _ ps => ps.map (·.2.2)
  | .mkslice _ _ _ _ l c => [l, c]
  | .append _ _ _ x y => [x, y]
  | .copy _ x y => [x, y]
  | .call _ as => as
  | .callv x as => x :: as
  | .gen _ as => as
def tmps : List Operand → List Nat
  | [] => []
  | .tmp t :: l => t :: tmps l
  | _ :: l => tmps l
/-- The temporaries at which it looks. -/
def Ins.reads : Ins → List Nat
  | .f _ g o => (g.toList.map (·.1)) ++ tmps (fOps o)
  | .k _ g o => (g.toList.map (·.1)) ++ tmps (kOps o)
theorem mem_tmps {t : Nat} : ∀ {l : List Operand}, Operand.tmp t ∈ l → t ∈ tmps l
  | x :: l, h => by
    rcases List.mem_cons.1 h with rfl | h
    · exact List.mem_cons_self ..
    · have := mem_tmps h
      cases x <;> simp [tmps, this]
section
variable {T T' : Tm}
theorem opd_congr {l : List Operand} (h : ∀ t ∈ tmps l, tget T t = tget T' t) {x : Operand} (hx : x ∈ l) : opd T x = opd T' x := by
  cases x with
  | tmp t => exact h t (mem_tmps hx)
  | _ => rfl
theorem opdL_congr : ∀ {l : List Operand}, (∀ x ∈ l, opd T x = opd T' x) → opdL T l = opdL T' l
  | [], _ => rfl
  | x :: l, h => by simp only [opdL, h x (List.mem_cons_self ..), opdL_congr fun y hy => h y (List.mem_cons_of_mem _ hy)]
theorem opdP_congr : ∀ {l : List (Nat × Nat × Operand)}, (∀ x ∈ l.map (·.2.2), opd T x = opd T' x) → opdP T l = opdP T' l
  | [], _ => rfl
  | (o, z, x) :: l, h => by
    simp only [opdP, h x (by simp), opdP_congr fun y hy => h y (by simp at hy ⊢; exact .inr hy)]
theorem optI_congr {x : Option Operand} (h : ∀ y ∈ x.toList, opd T y = opd T' y) : optI T x = optI T' x := by
  cases x with
  | none => rfl
  | some y => simp only [optI, h y (by simp)]
theorem evF_congr {s : St} {o : FO} (h : ∀ x ∈ fOps o, opd T x = opd T' x) : evF s T o = evF s T' o := by
  cases o <;> simp only [fOps] at h <;> simp only [evF]
  case build z ps => rw [opdP_congr h]
  case mkfn f a c => rw [opdL_congr fun x hx => h x (List.mem_append_left _ hx), opdL_congr fun x hx => h x (List.mem_append_right _ hx)]
  case mm mx l => rw [opdL_congr h]
  case slc sz x lo hi mx =>
    rw [h x (by simp), optI_congr fun y hy => h y (by simp only [List.mem_cons, List.mem_append]; exact .inr (.inl hy)), optI_congr fun y hy => h y (by simp only [List.mem_cons, List.mem_append]; exact .inr (.inr (.inl hy))),
      optI_congr fun y hy => h y (by simp only [List.mem_cons, List.mem_append]; exact .inr (.inr (.inr hy)))]
  case slcs x lo hi =>
    rw [h x (by simp), optI_congr fun y hy => h y (by simp only [List.mem_cons, List.mem_append]; exact .inr (.inl hy)), optI_congr fun y hy => h y (by simp only [List.mem_cons, List.mem_append]; exact .inr (.inr hy))]
  case pick c x y => rw [h c (by simp), h x (by simp), h y (by simp)]
  case bin op x y => rw [h x (by simp), h y (by simp)]
  case binb op x y => rw [h x (by simp), h y (by simp)]
  case bins op x y => rw [h x (by simp), h y (by simp)]
  case shf op x y => rw [h x (by simp), h y (by simp)]
  case eql n sh x y => rw [h x (by simp), h y (by simp)]
  case iaddr sz arr x y => rw [h x (by simp), h y (by simp)]
  case idx sz rd n x y => rw [h x (by simp), h y (by simp)]
  case sidx x y => rw [h x (by simp), h y (by simp)]
  all_goals rw [h _ (List.mem_singleton.2 rfl)]
theorem evK_congr {s : St} {o : KO} (h : ∀ x ∈ kOps o, opd T x = opd T' x) : evK s T o = evK s T' o := by
  cases o <;> simp only [kOps] at h <;> simp only [evK]
  case box t n x => rw [h x (by simp)]
  case asg x => rw [h x (by simp)]
  case store n x v => rw [h x (by simp), h v (by simp)]
  case bslice t k n z ps => rw [opdP_congr h]
  case mkslice t k b z l c => rw [h l (by simp), h c (by simp)]
  case append t k b x y => rw [h x (by simp), h y (by simp)]
  case copy k x y => rw [h x (by simp), h y (by simp)]
theorem stepV_congr {P : Program} {s : St} {i : Ins} {k : AV → St → Prop} (h : ∀ t ∈ i.reads, tget T t = tget T' t) (hs : StepV P T s i k) : StepV P T' s i k := by
  cases i with
  | f d g o =>
    have e := evF_congr (T := T) (T' := T') (s := s) (o := o) fun x hx => opd_congr (fun t ht => h t (List.mem_append_right _ ht)) hx
    simp only [StepV] at hs ⊢
    rw [← e]; exact hs
  | k d g o =>
    have h' : ∀ x ∈ kOps o, opd T x = opd T' x := fun x hx => opd_congr (fun t ht => h t (List.mem_append_right _ ht)) hx
    have e := evK_congr (s := s) h'
    cases o with
    | call f as =>
      simp only [StepV] at hs ⊢
      have e2 : opdL T as = opdL T' as := opdL_congr fun x hx => h' x hx
      rw [← e2]; exact hs
    | callv x as =>
      simp only [StepV] at hs ⊢
      have e2 : opdL T as = opdL T' as := opdL_congr fun x hx => h' x (List.mem_cons_of_mem _ hx)
      rw [← e2, ← h' x (List.mem_cons_self ..)]; exact hs
    | gen g as =>
      simp only [StepV] at hs ⊢
      have e2 : opdL T as = opdL T' as := opdL_congr fun x hx => h' x hx
      rw [← e2]; exact hs
    | _ =>
      simp only [StepV] at hs ⊢
      rw [← e]; exact hs
theorem gate_congr {i : Ins} (h : ∀ t ∈ i.reads, tget T t = tget T' t) : gate T i.g = gate T' i.g := by
  have : ∀ p ∈ i.g.toList, tget T p.1 = tget T' p.1 := fun p hp => h p.1 (by
    cases i <;> simp only [Ins.reads, Ins.g] at hp ⊢ <;> exact List.mem_append_left _ (List.mem_map_of_mem hp))
  cases hg : i.g with
  | none => rfl
  | some p => simp only [gate, this p (by simp [hg])]
end
/-! ### Floats -/
/-- What a float makes: an operation that changes no memory, or a literal of a slice. -/
def floatV (s : St) (T : Tm) : Ins → PA
  | .f _ _ o => evF s T o
  | .k _ _ (.bslice t k n z ps) => match opdP T ps with
    | some l => match fillA ((List.replicate n (zeroA z)).flatten) l with
      | some cs => match toDs cs with
        | some ds => some (True, .ful k (chunk k n ds))
        | none => none
      | none => none
    | none => none
  | _ => none
def isFl : Ins → Bool
  | .f .. => true
  | .k _ _ (.bslice ..) => true
  | _ => false
/-- A new block of zeros: its type, an element's cells, how many elements, an element's zeros, whether a slice of it is made. -/
def alOf : KO → Option (Nat × Nat × Nat × List Value × Bool)
  | .alloc t z => some (t, z.length, 1, z, false)
  | .mkz t k n z => some (t, k, n, z, true)
  | _ => none
def alV (l n : Nat) (sl : Bool) : AV := if sl then .own l 0 n else .ptr l 0 0
def alU (b n : Nat) (sl : Bool) : Value := if sl then .slice (some ⟨b, 0, none⟩) n n else .pointer (some ⟨b, 0, none⟩)
theorem evK_al {o : KO} {t k n : Nat} {z : List Value} {sl : Bool} (h : alOf o = some (t, k, n, z, sl)) (s : St) (T : Tm) : evK s T o = some (True, alV s.length n sl, s ++ [some (.cells t k (List.replicate n (zeroA z)))]) := by
  cases o <;> simp only [alOf, Option.some.injEq, Prod.mk.injEq, reduceCtorEq] at h <;> obtain ⟨rfl, rfl, rfl, rfl, rfl⟩ := h <;> simp [evK, alV]
theorem stepV_al {P : Program} {o : KO} {t k n : Nat} {z : List Value} {sl : Bool} (h : alOf o = some (t, k, n, z, sl)) {T : Tm} {s : St} {d : Option Nat} {g : Option (Nat × Bool)} {K : AV → St → Prop} (hs : StepV P T s (.k d g o) K) :
    K (alV s.length n sl) (s ++ [some (.cells t k (List.replicate n (zeroA z)))]) := by
  have e := evK_al h s T
  cases o <;> simp only [alOf, reduceCtorEq] at h <;> (simp only [StepV, e] at hs; exact hs.2)
def isAl : Ins → Bool
  | .k (some _) none o => (alOf o).isSome
  | _ => false
/-- It looks at our own blocks. -/
def usesS : Ins → Bool
  | .f _ _ (.load ..) => true
  | .f _ _ (.iaddr _ none _ _) => true
  | .f _ _ (.slc ..) => true
  | .f _ _ (.b2s ..) => true
  | _ => false
theorem floatV_pure {i : Ins} (h : usesS i = false) (s s' : St) (T : Tm) : floatV s T i = floatV s' T i := by
  cases i with
  | f d g o =>
    cases o with
    | iaddr sz arr x y =>
      cases arr with
      | none => cases h
      | some n =>
        simp only [floatV, evF]
        split
        · simp only [iaddrA]
        · rfl
        · rfl
    | load => cases h
    | slc => cases h
    | b2s => cases h
    | _ => rfl
  | k d g o => cases o <;> rfl
theorem floatV_congr {s : St} {T T' : Tm} {i : Ins} (h : ∀ t ∈ i.reads, tget T t = tget T' t) : floatV s T i = floatV s T' i := by
  cases i with
  | f d g o => exact evF_congr fun x hx => opd_congr (fun t ht => h t (List.mem_append_right _ ht)) hx
  | k d g o =>
    cases o with
    | bslice t k n z ps =>
      simp only [floatV]
      rw [opdP_congr fun x hx => opd_congr (fun t ht => h t (List.mem_append_right _ ht)) hx]
    | _ => rfl
/-- The same, as a step: of a float only its value counts. -/
theorem float_stepV {P : Program} {s : St} {T : Tm} {i : Ins} {C : Prop} {v : AV} (h : floatV s T i = some (C, v)) (hC : C) {k : AV → St → Prop} (hk : k v s) : StepV P T s i k := by
  cases i with
  | f d g o =>
    simp only [floatV] at h
    simp only [StepV, h]
    exact ⟨hC, hk⟩
  | k d g o =>
    cases o with
    | bslice t k' n z ps =>
      simp only [floatV] at h
      split at h
      · rename_i l hl
        split at h
        · rename_i cs hf
          split at h
          · rename_i ds hd
            simp only [Option.some.injEq, Prod.mk.injEq] at h; obtain ⟨rfl, rfl⟩ := h
            simp only [StepV, evK, hl, bsliceA, hf, hd]
            exact ⟨trivial, hk⟩
          · cases h
        · cases h
      · cases h
    | _ => cases h
/-! ### The order -/
structure DI where
  i : Nat
  n : Ins
  st : List Ins
def allP {α : Type} (p : α → Prop) : List α → Prop
  | [] => True
  | a :: l => p a ∧ allP p l
theorem allP_mem {α : Type} {p : α → Prop} : ∀ {l : List α} {x : α}, allP p l → x ∈ l → p x
  | a :: l, x, h, hx => by
    rcases List.mem_cons.1 hx with rfl | hx
    · exact h.1
    · exact allP_mem h.2 hx
/-- A step of a region that draws its order: a float must have a value that does not lie in a block of our own that it lays; behind others the floats that look at memory must be as they were. -/
def StepD (P : Program) (T : Tm) (s : St) (x : DI) (k : Tm → St → Prop) : Prop := match gate T x.n.g with
  | some true => if isFl x.n then match floatV s T x.n with
      | some (C, v) => C ∧ k (tput x.n.d v T) s
      | none => False
    else StepV P T s x.n fun v s' => allP (fun f => floatV s' T f = floatV s T f) x.st ∧ k (tput x.n.d v T) s'
  | some false => k (tput x.n.d (.tup []) T) s
  | none => False
def RunD (P : Program) : List DI → Tm → St → (Tm → St → Prop) → Prop
  | [], T, s, Q => Q T s
  | x :: l, T, s, Q => StepD P T s x fun T' s' => RunD P l T' s' Q

def bnds (o : Oper) : List Nat := (o.after.toList.filter fun e => Region.binds .any e).map (·.on)
def insA (l : List Nat) (x : Nat) : List Nat := if l.contains x then l else x :: l
def ancsOf : List (List Nat) → List (List Nat) → List (List Nat)
  | acc, [] => acc
  | acc, d :: ds => ancsOf (acc ++ [d.foldl (fun l e => (acc.getD e []).foldl insA (insA l e)) []]) ds
def getL (an : List (List Nat)) (i : Nat) : List Nat := an.getD i []
/-- The order: floats as soon as they can be; a new block only where the next operation waits for it. -/
def pickNext (an : List (List Nat)) (il : List Ins) (done : List Nat) : Option Nat :=
  let rdy := fun i => !done.contains i && (getL an i).all done.contains
  let idx := List.range il.length
  match idx.find? fun i => rdy i && (match il[i]? with | some n => isFl n | none => false) with
  | some i => some i
  | none => match idx.find? fun i => rdy i && (match il[i]? with | some n => !isAl n | none => false) with
    | some i => some i
    | none => idx.find? rdy
def orderOf (an : List (List Nat)) (il : List Ins) : Nat → List Nat → List Nat
  | 0, done => done.reverse
  | m + 1, done => match pickNext an il done with
    | some i => orderOf an il m (i :: done)
    | none => done.reverse
end Go.Proofs.YtipanehdmhachaaGreatDoor.H

set_option linter.unusedSimpArgs false
set_option linter.unusedVariables false
set_option linter.unusedSectionVars false
namespace Go.Proofs.YtipanehdmhachaaGreatDoor.H
variable [DR]

/-! ### What is asked of an order -/
def chainIn (il : List Ins) (pre : List Nat) : List Nat := pre.filter fun y => match il[y]? with | some n => !isFl n | none => false
def kindOK (an : List (List Nat)) (il : List Ins) (pre : List Nat) (x : Nat) (n : Ins) : Bool :=
  if isAl n then (List.range il.length).all fun z => !(getL an z).contains x || (chainIn il pre).all (getL an z).contains
  else (chainIn il pre).all (getL an x).contains
def ordOK (an : List (List Nat)) (il : List Ins) : List Nat → List Nat → Bool
  | _, [] => true
  | pre, x :: r => (match il[x]? with
      | some n => !pre.contains x && (getL an x).all pre.contains && kindOK an il pre x n
      | none => false) && ordOK an il (pre ++ [x]) r
def tmpOK (an : List (List Nat)) (il : List Ins) : Bool := (List.range il.length).all fun x => match il[x]? with
  | some n => match n.d with
    | some d => (List.range il.length).all fun z => z == x || match il[z]? with
      | some k => if isFl n || isAl n then k.d != some d && (!k.reads.contains d || (getL an z).contains x)
        else (k.d != some d && !k.reads.contains d) || (getL an z).contains x || (getL an x).contains z
      | none => true
    | none => true
  | none => true
def ancOK (an : List (List Nat)) (ops : List Oper) : Bool := (List.range ops.length).all fun i => match ops[i]? with
  | some o => (bnds o).all (fun e => decide (e < i) && (getL an i).contains e) && (getL an i).all fun j => decide (j < i) && ((getL an j).all (getL an i).contains && (bnds o).any fun e => j == e || (getL an e).contains j)
  | none => true
def stOf (an : List (List Nat)) (il : List Ins) (pre : List Nat) (x : Nat) : List Ins :=
  (pre.filter fun y => !(getL an x).contains y).filterMap fun y => match il[y]? with
    | some n => if isFl n && usesS n then some n else none
    | none => none
def mkD (an : List (List Nat)) (il : List Ins) : List Nat → List Nat → List DI
  | _, [] => []
  | pre, x :: r => match il[x]? with
    | some n => ⟨x, n, if isFl n then [] else stOf an il pre x⟩ :: mkD an il (pre ++ [x]) r
    | none => []
def selfOK (il : List Ins) : Bool := il.all fun n => !isFl n || match n.d with | some d => !n.reads.contains d | none => true
def compD (P : Program) (N : Nat) (ops : Array Oper) : Option (List DI) := match insL P N ops ops.toList with
  | some il =>
    let an := ancsOf [] (ops.toList.map bnds)
    let or := orderOf an il il.length []
    if (List.range il.length).all or.contains = true ∧ selfOK il = true ∧ ordOK an il [] or = true ∧ tmpOK an il = true ∧ ancOK an ops.toList = true ∧ P.follows .mixedOrders = true then some (mkD an il [] or) else none
  | none => none

theorem tget_filter (f : Nat → Bool) (x : Nat) : ∀ T : Tm, tget (T.filter fun q => f q.1) x = if f x then tget T x else none
  | [] => by simp [tget]
  | (j, v) :: T => by
    have ih := tget_filter f x T
    by_cases hj : f j = true
    · rw [List.filter_cons_of_pos (by simpa using hj)]
      simp only [tget, ih]
      by_cases h : j = x
      · subst h; simp [hj]
      · simp [beqN h]
    · rw [List.filter_cons_of_neg (by simpa using hj)]
      simp only [tget, ih]
      by_cases h : j = x
      · subst h; simp [hj]
      · simp [beqN h]
section
variable {an : List (List Nat)} {il : List Ins}
/-- What the checks say. -/
structure Ord (an : List (List Nat)) (il : List Ins) (pi : List Nat) : Prop where
  nd : pi.Nodup
  mem : ∀ x ∈ pi, ∃ n, il[x]? = some n
  anc : ∀ p x, pi[p]? = some x → ∀ y ∈ getL an x, y ∈ pi.take p
  kind : ∀ p x n, pi[p]? = some x → il[x]? = some n → isAl n = false → ∀ y k, y ∈ pi.take p → il[y]? = some k → isFl k = false → y ∈ getL an x
  al : ∀ p x n, pi[p]? = some x → il[x]? = some n → isAl n = true → ∀ z, x ∈ getL an z → z < il.length → ∀ y k, y ∈ pi.take p → il[y]? = some k → isFl k = false → y ∈ getL an z
theorem mem_chainIn {pre : List Nat} {y : Nat} {k : Ins} (hy : y ∈ pre) (hk : il[y]? = some k) (hf : isFl k = false) : y ∈ chainIn il pre := by
  unfold chainIn
  rw [List.mem_filter]
  exact ⟨hy, by simp [hk, hf]⟩
theorem ordOK_ord : ∀ {r pre : List Nat}, ordOK an il pre r = true → pre.Nodup → (pre ++ r).Nodup ∧ (∀ x ∈ r, ∃ n, il[x]? = some n) ∧
    (∀ p x, r[p]? = some x → ∀ y ∈ getL an x, y ∈ pre ++ r.take p) ∧
    (∀ p x n, r[p]? = some x → il[x]? = some n → isAl n = false → ∀ y k, y ∈ pre ++ r.take p → il[y]? = some k → isFl k = false → y ∈ getL an x) ∧
    (∀ p x n, r[p]? = some x → il[x]? = some n → isAl n = true → ∀ z, x ∈ getL an z → z < il.length → ∀ y k, y ∈ pre ++ r.take p → il[y]? = some k → isFl k = false → y ∈ getL an z)
  | [], pre, h, hn => ⟨by simpa using hn, by simp, by simp, by simp, by simp⟩
  | x :: r, pre, h, hn => by
    simp only [ordOK, Bool.and_eq_true] at h
    obtain ⟨h1, h2⟩ := h
    split at h1
    · rename_i n hx
      simp only [Bool.and_eq_true, Bool.not_eq_true', List.all_eq_true] at h1
      obtain ⟨⟨a1, a2⟩, a3⟩ := h1
      have hnp : x ∉ pre := by simpa using a1
      have hn' : (pre ++ [x]).Nodup := by
        rw [List.nodup_append]
        exact ⟨hn, by simp, fun a ha b hb => by simp at hb; subst hb; exact fun e => hnp (e ▸ ha)⟩
      obtain ⟨q1, q2, q3, q4, q5⟩ := ordOK_ord h2 hn'
      have app : ∀ p, (pre ++ [x]) ++ r.take p = pre ++ (x :: r).take (p + 1) := fun p => by simp
      refine ⟨by simpa using q1, ?_, ?_, ?_, ?_⟩
      · intro y hy
        rcases List.mem_cons.1 hy with rfl | hy
        · exact ⟨n, hx⟩
        · exact q2 y hy
      · intro p y hy
        cases p with
        | zero => simp at hy; subst hy; intro z hz; simpa using a2 z hz
        | succ p => rw [← app]; exact q3 p y (by simpa using hy)
      · intro p y k hy
        cases p with
        | zero =>
          simp at hy; subst hy
          intro hk ha z kz hz hkz hf
          rw [hx] at hk; cases hk
          unfold kindOK at a3
          rw [if_neg (by rw [ha]; simp)] at a3
          have := List.all_eq_true.1 a3 z (mem_chainIn (by simpa using hz) hkz hf)
          simpa using this
        | succ p => rw [← app]; exact q4 p y k (by simpa using hy)
      · intro p y k hy
        cases p with
        | zero =>
          simp at hy; subst hy
          intro hk ha z hxz hzl u ku hu hku hf
          rw [hx] at hk; cases hk
          unfold kindOK at a3
          rw [if_pos ha] at a3
          have := List.all_eq_true.1 a3 z (List.mem_range.2 hzl)
          rw [show (getL an z).contains x = true by simpa using hxz] at this
          have h9 : ∀ x ∈ chainIn il pre, x ∈ getL an z := by simpa using this
          exact h9 u (mem_chainIn (by simpa using hu) hku hf)
        | succ p => rw [← app]; exact q5 p y k (by simpa using hy)
    · cases h1
theorem Ord.of {pi : List Nat} (h : ordOK an il [] pi = true) : Ord an il pi := by
  obtain ⟨q1, q2, q3, q4, q5⟩ := ordOK_ord h (by simp)
  exact ⟨by simpa using q1, q2, by simpa using q3, by simpa using q4, by simpa using q5⟩
theorem tmpOK_get (h : tmpOK an il = true) {x z : Nat} {n k : Ins} (hx : il[x]? = some n) (hz : il[z]? = some k) (hne : z ≠ x) {d : Nat} (hd : n.d = some d) :
    ((isFl n = true ∨ isAl n = true) → k.d ≠ some d ∧ (d ∈ k.reads → x ∈ getL an z)) ∧ (k.d = some d ∨ d ∈ k.reads → x ∈ getL an z ∨ z ∈ getL an x) := by
  have hxl := (List.getElem?_eq_some_iff.1 hx).1
  have hzl := (List.getElem?_eq_some_iff.1 hz).1
  have := List.all_eq_true.1 h x (List.mem_range.2 hxl)
  simp only [hx, hd] at this
  have := List.all_eq_true.1 this z (List.mem_range.2 hzl)
  simp only [hz, beq_eq_false_iff_ne.2 hne, Bool.false_or] at this
  split at this
  · simp only [Bool.and_eq_true, bne_iff_ne, ne_eq, Bool.or_eq_true, Bool.not_eq_true', List.contains_iff_mem, ← Bool.not_eq_true] at this
    refine ⟨fun _ => ⟨this.1, fun hr => this.2.resolve_left fun hn => hn hr⟩, fun h => ?_⟩
    rcases h with h | h
    · exact absurd h this.1
    · exact .inl (this.2.resolve_left fun hn => hn h)
  · rename_i hk
    simp only [Bool.or_eq_true, Bool.and_eq_true, bne_iff_ne, ne_eq, Bool.not_eq_true', List.contains_iff_mem, ← Bool.not_eq_true] at this hk
    refine ⟨fun h => absurd h (by simpa using hk), fun h => ?_⟩
    rcases this with (⟨t1, t2⟩ | t) | t
    · rcases h with h | h
      · exact absurd h t1
      · exact absurd h t2
    · exact .inl t
    · exact .inr t
theorem ancOK_get {ops : List Oper} (h : ancOK an ops = true) {i : Nat} {o : Oper} (ho : ops[i]? = some o) : (∀ e ∈ bnds o, e < i ∧ e ∈ getL an i) ∧ ∀ j ∈ getL an i, j < i ∧ (∀ e ∈ getL an j, e ∈ getL an i) ∧ ∃ e ∈ bnds o, j = e ∨ j ∈ getL an e := by
  have hl := (List.getElem?_eq_some_iff.1 ho).1
  have := List.all_eq_true.1 h i (List.mem_range.2 hl)
  simp only [ho, Bool.and_eq_true, List.all_eq_true, decide_eq_true_eq, List.contains_iff_mem, List.any_eq_true, Bool.or_eq_true, beq_iff_eq] at this
  exact ⟨fun e he => this.1 e he, fun j hj => this.2 j hj⟩
theorem mkD_get : ∀ {r pre : List Nat}, (∀ x ∈ r, ∃ n, il[x]? = some n) → (mkD an il pre r).length = r.length ∧ ∀ (p : Nat) x n, r[p]? = some x → il[x]? = some n → (mkD an il pre r)[p]? = some ⟨x, n, if isFl n then [] else stOf an il (pre ++ r.take p) x⟩
  | [], pre, h => ⟨rfl, by simp⟩
  | x :: r, pre, h => by
    obtain ⟨n, hn⟩ := h x (List.mem_cons_self ..)
    obtain ⟨q1, q2⟩ := mkD_get (r := r) (pre := pre ++ [x]) fun y hy => h y (List.mem_cons_of_mem _ hy)
    simp only [mkD, hn]
    refine ⟨by simp [q1], fun p y k hy hk => ?_⟩
    cases p with
    | zero => simp at hy; subst hy; rw [hn] at hk; cases hk; simp
    | succ p =>
      have := q2 p y k (by simpa using hy) hk
      simpa using this
end

/-! ### The invariant -/
def lsd (l : Array Bool) (i : Nat) : Bool := l.getD i false
/-- A float that has been reckoned with, but not yet carried out, would still make the same. -/
def Replay (n : Ins) (T : Tm) (s : St) : Prop :=
  (gate T n.g = some true ∧ ∃ C v, floatV s T n = some (C, v) ∧ C ∧ ∀ d, n.d = some d → tget T d = some v) ∨ (gate T n.g = some false ∧ ∀ d, n.d = some d → tget T d = some (.tup []))
theorem Replay.congr {n : Ins} {T T' : Tm} {s s' : St} (h : Replay n T s) (h1 : ∀ t ∈ n.reads, tget T' t = tget T t) (h2 : ∀ d, n.d = some d → tget T' d = tget T d) (h3 : floatV s' T n = floatV s T n) : Replay n T' s' := by
  rcases h with ⟨a, C, v, b, c, d⟩ | ⟨a, d⟩
  · exact .inl ⟨by rw [gate_congr h1]; exact a, C, v, by rw [floatV_congr h1, h3]; exact b, c, fun x hx => by rw [h2 x hx]; exact d x hx⟩
  · exact .inr ⟨by rw [gate_congr h1]; exact a, fun x hx => by rw [h2 x hx]; exact d x hx⟩
/-- A temporary holds what the walk says: those who write it have been carried out just if they have been reckoned with. -/
def vis (il : List Ins) (done : List Nat) (L : Nat → Bool) (t : Nat) : Bool := (List.range il.length).all fun i => match il[i]? with
  | some n => n.d != some t || (done.contains i == L i)
  | none => true
theorem vis_iff {il : List Ins} {done : List Nat} {L : Nat → Bool} {t : Nat} : vis il done L t = true ↔ ∀ i n, il[i]? = some n → n.d = some t → (i ∈ done ↔ L i = true) := by
  unfold vis
  rw [List.all_eq_true]
  constructor
  · intro h i n hi hd
    have := h i (List.mem_range.2 (List.getElem?_eq_some_iff.1 hi).1)
    simp only [hi, hd, bne_self_eq_false, Bool.false_or, beq_iff_eq] at this
    rw [← this]; simp
  · intro h i hi
    cases hn : il[i]? with
    | none => rfl
    | some n =>
      simp only
      by_cases hd : n.d = some t
      · have := h i n hn hd
        simp only [hd, bne_self_eq_false, Bool.false_or, beq_iff_eq]
        rw [Bool.eq_iff_iff]; simpa using this
      · simp [hd]
structure Early (P : Program) (w0 w : World) (K : Nat → Prop) (β : Nat → Loc) (s : St) (a : Act) (n : Ins) (b : Nat) : Prop where
  ex : ∃ d o t k c z sl, n = .k (some d) none o ∧ alOf o = some (t, k, c, z, sl) ∧ zeroOf P t = some z ∧ z.length = k ∧ a.tmps[d]? = some (alU b c sl) ∧ w.heap[b]? = some (.cells ((List.replicate c z).flatten).toArray t (0, 0))
  nk : ¬ K b
  no : ∀ j, Alive s j → (β j).b ≠ b
  new : w0.heap.size ≤ b
structure DInv (P : Program) (N m : Nat) (il : List Ins) (an : List (List Nat)) (pi : List Nat) (w0 : World) (K0 : Nat → Prop) (β0 : Nat → Loc) (s0 : St) (p : Nat) (L : Nat → Bool) (T : Tm) (s : St) (w : World) (K : Nat → Prop) (β : Nat → Loc) (a : Act) (bl : Nat → Nat) : Prop where
  down : ∀ i j, L i = true → j ∈ getL an i → L j = true
  lt : ∀ i, L i = true → i < il.length
  done : ∀ i n, i ∈ pi.take p → il[i]? = some n → isFl n = false → L i = true
  lst : ∀ i n, L i = true → il[i]? = some n → isAl n = false → i ∈ pi.take p
  early : ∀ i n, L i = true → i ∉ pi.take p → il[i]? = some n → Early P w0 w K β s a n (bl i)
  einj : ∀ i j, L i = true → L j = true → i ∉ pi.take p → j ∉ pi.take p → i ≠ j → bl i ≠ bl j
  cz : Cz w K β s
  sz : a.tmps.size = N
  df : a.defers = []
  ext : Ext m w0 K0 β0 s0 w K β s
  rt : RT w K β s.length (T.filter fun q => vis il (pi.take p) L q.1) a
  pend : ∀ i n, i ∈ pi.take p → il[i]? = some n → isFl n = true → L i = false → Replay n T s
end Go.Proofs.YtipanehdmhachaaGreatDoor.H

set_option linter.unusedSimpArgs false
set_option linter.unusedVariables false
set_option linter.unusedSectionVars false
namespace Go.Proofs.YtipanehdmhachaaGreatDoor.H
variable [DR]
section
variable {P : Program} {N m : Nat} {il : List Ins} {an : List (List Nat)} {pi : List Nat} {w0 : World} {K0 : Nat → Prop} {β0 : Nat → Loc} {s0 : St}
theorem isFl_isAl {n : Ins} (h : isFl n = true) : isAl n = false := by
  cases n with
  | f d g o => rfl
  | k d g o =>
    cases o with
    | bslice => cases d <;> cases g <;> rfl
    | _ => cases h
theorem al_isFl {o : KO} {t k n : Nat} {z : List Value} {sl : Bool} (h : alOf o = some (t, k, n, z, sl)) (d : Option Nat) (g : Option (Nat × Bool)) : isFl (.k d g o) = false := by
  cases o <;> first | rfl | (simp [alOf] at h)
theorem R_al {w : World} {K : Nat → Prop} {β : Nat → Loc} {s : St} {b k c m : Nat} {sl : Bool} (hm : s.length < m) : R w K (lay β s.length ⟨b, 0, k, c⟩) m (alV s.length c sl) (alU b c sl) := by
  cases sl
  · simp only [alV, alU, Bool.false_eq_true, if_false, R, lay_same]
    exact ⟨hm, by simp⟩
  · simp only [alV, alU, if_true, R, lay_same]
    exact ⟨hm, _, c, rfl, Nat.le_refl _, by simp, fun _ => by simp⟩
theorem Cz.adopt {w : World} {K : Nat → Prop} {β : Nat → Loc} {s : St} (hz : Cz w K β s) {b t k c : Nat} {z : List Value} (hz0 : zeroOf P t = some z) (hzk : z.length = k) (hb : w.heap[b]? = some (.cells ((List.replicate c z).flatten).toArray t (0, 0))) (hK : ¬ K b) (hno : ∀ j, Alive s j → (β j).b ≠ b) :
    Cz w K (lay β s.length ⟨b, 0, k, c⟩) (s ++ [some (.cells t k (List.replicate c (zeroA z)))]) := by
  have hbb : ∀ i, i < s.length → lay β s.length ⟨b, 0, k, c⟩ i = β i := fun i hi => lay_ne _ _ (by omega)
  have alive : ∀ i, Alive (s ++ [some (.cells t k (List.replicate c (zeroA z)))]) i → Alive s i ∨ i = s.length := fun i ⟨x, h⟩ => by
    rcases get_app h with h | h
    · exact .inl ⟨x, h⟩
    · exact .inr h.1
  refine ⟨?_, ?_, ?_, hz.kb, hz.gl⟩
  · intro i x hi
    rcases get_app hi with hi | ⟨rfl, he⟩
    · rw [hbb i (alive_lt ⟨x, hi⟩)]
      exact hz.old (.refl _ _) (by simp) hbb hi rfl
    · simp only [Option.some.injEq] at he; subst he
      rw [lay_same]
      refine ⟨[], (List.replicate c z).flatten, [], by simpa using hb, rfl, RL_zeros hz0 c, ?_, rfl, zeros_one, fun r hr => by rw [(List.mem_replicate.1 hr).2]; simpa [zeroA] using hzk⟩
      rw [List.nil_append, List.append_nil, flatten_length (k := k) (fun r hr => by rw [(List.mem_replicate.1 hr).2]; exact hzk), List.length_replicate, Nat.zero_add]
  · intro i j hi hj hij
    rcases alive i hi with hi | hi <;> rcases alive j hj with hj | hj
    · rw [hbb i (alive_lt hi), hbb j (alive_lt hj)]; exact hz.inj i j hi hj hij
    · subst hj; rw [hbb i (alive_lt hi), lay_same]; exact hno i hi
    · subst hi; rw [hbb j (alive_lt hj), lay_same]; exact fun e => hno j hj e.symm
    · omega
  · intro i hi
    rcases alive i hi with hi | hi
    · rw [hbb i (alive_lt hi)]; exact hz.dis i hi
    · subst hi; rw [lay_same]; exact hK
theorem Cz.kd {w w' : World} {K : Nat → Prop} {β : Nat → Loc} {s : St} (hz : Cz w K β s) (h : w'.heap = w.heap) : Cz w' K β s := by
  refine ⟨fun i b hi => ?_, hz.inj, hz.dis, fun b hb => by rw [h]; exact hz.kb b hb, hz.gl.mono ⟨fun _ h => h, fun b _ => by rw [h]⟩⟩
  exact hz.old ⟨fun _ h => h, fun b _ => by rw [h]⟩ (Nat.le_refl _) (fun _ _ => rfl) hi (by rw [h])
theorem take_succ' {x p : Nat} (hx : pi[p]? = some x) {y : Nat} : y ∈ pi.take (p + 1) ↔ y ∈ pi.take p ∨ y = x := by
  have hp := (List.getElem?_eq_some_iff.1 hx)
  obtain ⟨hl, e⟩ := hp
  rw [List.take_succ_eq_append_getElem hl, e]; simp
theorem nd_take (hO : Ord an il pi) {x p : Nat} (hx : pi[p]? = some x) : x ∉ pi.take p := by
  intro h
  obtain ⟨q, hq⟩ := List.getElem?_of_mem h
  rw [List.getElem?_take] at hq
  split at hq
  · rename_i hqp
    obtain ⟨h1, e1⟩ := List.getElem?_eq_some_iff.1 hx
    obtain ⟨h2, e2⟩ := List.getElem?_eq_some_iff.1 hq
    exact (List.pairwise_iff_getElem.1 hO.nd) q p h2 h1 hqp (e2.trans e1.symm)
  · cases hq
structure Ch (P : Program) (an : List (List Nat)) (il : List Ins) (pi : List Nat) : Prop where
  ord : Ord an il pi
  tmp : tmpOK an il = true
  self : ∀ (x : Nat) n, il[x]? = some n → isFl n = true → ∀ d, n.d = some d → d ∉ n.reads
  all : ∀ i, i < il.length → i ∈ pi
/-- Ancestors of what has been reckoned with have been reckoned with. -/
theorem anc_take (hc : Ch P an il pi) {p f y : Nat} (hf : f ∈ pi.take p) (hy : y ∈ getL an f) : y ∈ pi.take p := by
  obtain ⟨q, hq⟩ := List.getElem?_of_mem hf
  rw [List.getElem?_take] at hq
  split at hq
  · rename_i hqp
    have := hc.ord.anc q f hq y hy
    exact (List.take_subset_take_left pi (Nat.le_of_lt hqp)) this
  · cases hq
theorem apart_fl (hc : Ch P an il pi) {p x : Nat} (hx : pi[p]? = some x) {n : Ins} (hn : il[x]? = some n) (hk : isFl n = true ∨ isAl n = true) {f : Nat} {k : Ins} (hf : f ∈ pi.take p) (hkf : il[f]? = some k) : ∀ d, n.d = some d → k.d ≠ some d ∧ d ∉ k.reads := by
  intro d hd
  have hfx : f ≠ x := fun e => nd_take hc.ord hx (e ▸ hf)
  obtain ⟨h1, h2⟩ := (tmpOK_get hc.tmp hn hkf hfx hd).1 hk
  exact ⟨h1, fun hr => nd_take hc.ord hx (anc_take hc hf (h2 hr))⟩
theorem apart_ch (hc : Ch P an il pi) {p x : Nat} (hx : pi[p]? = some x) {n : Ins} (hn : il[x]? = some n) {f : Nat} {k : Ins} (hf : f ∈ pi.take p) (hkf : il[f]? = some k) (hna : f ∉ getL an x) : ∀ d, n.d = some d → k.d ≠ some d ∧ d ∉ k.reads := by
  intro d hd
  have hfx : f ≠ x := fun e => nd_take hc.ord hx (e ▸ hf)
  have h2 := (tmpOK_get hc.tmp hn hkf hfx hd).2
  have h3 : ¬ (x ∈ getL an f ∨ f ∈ getL an x) := fun h => by
    rcases h with h | h
    · exact nd_take hc.ord hx (anc_take hc hf h)
    · exact hna h
  exact ⟨fun e => h3 (h2 (.inl e)), fun e => h3 (h2 (.inr e))⟩
/-- What a step leaves of what is still to be carried out. -/
theorem pend_step {n k : Ins} (hap : ∀ d, n.d = some d → k.d ≠ some d ∧ d ∉ k.reads) {T : Tm} {s s' : St} {v : AV} (hr : Replay k T s) (hs : floatV s' T k = floatV s T k) : Replay k (tput n.d v T) s' := by
  have key : ∀ t, (t ∈ k.reads ∨ k.d = some t) → tget (tput n.d v T) t = tget T t := by
    intro t ht
    cases hd : n.d with
    | none => rfl
    | some d =>
      simp only [tput, tget_tset]
      rw [if_neg]
      intro e
      subst e
      rcases ht with h | h
      · exact (hap d hd).2 h
      · exact (hap d hd).1 h
  exact hr.congr (fun t ht => key t (.inl ht)) (fun d hd => key d (.inr hd)) hs
theorem drop_cons {l : List DI} {p : Nat} {x : DI} (h : l[p]? = some x) : l.drop p = x :: l.drop (p + 1) := by
  obtain ⟨hl, e⟩ := List.getElem?_eq_some_iff.1 h
  rw [← e]; exact (List.getElem_cons_drop hl).symm
theorem RT_sub {w : World} {K : Nat → Prop} {β : Nat → Loc} {n : Nat} {T T' : Tm} {a : Act} (h : RT w K β n T a) (hs : ∀ i v, tget T' i = some v → tget T i = some v) : RT w K β n T' a := fun i v hv => h i v (hs i v hv)
theorem advance (hc : Ch P an il pi) {dl : List DI} (hdl : dl = mkD an il [] pi) {Q : Tm → St → Prop} {p : Nat} {L : Nat → Bool} {T : Tm} {s : St} {w : World} {K : Nat → Prop} {β : Nat → Loc} {a : Act} {bl : Nat → Nat} (hi : DInv P N m il an pi w0 K0 β0 s0 p L T s w K β a bl)
    (hr : RunD P (dl.drop p) T s Q) {x : Nat} (hx : pi[p]? = some x) {n : Ins} (hn : il[x]? = some n) (hk : isFl n = true ∨ (isAl n = true ∧ L x = true)) :
    ∃ T' s' β', DInv P N m il an pi w0 K0 β0 s0 (p + 1) L T' s' w K β' a bl ∧ RunD P (dl.drop (p + 1)) T' s' Q := by
  obtain ⟨m1, m2⟩ := mkD_get (an := an) (il := il) (r := pi) (pre := []) hc.ord.mem
  have hd := m2 p x n hx hn
  rw [← hdl] at hd
  simp only [List.nil_append] at hd
  rw [drop_cons hd] at hr
  simp only [RunD, StepD] at hr
  have hxt := nd_take hc.ord hx
  have tk := fun {y : Nat} => take_succ' (pi := pi) hx (y := y)
  by_cases hfl : isFl n = true
  · have hLx : L x = false := by
      cases h : L x with
      | false => rfl
      | true => exact absurd (hi.lst x n h hn (isFl_isAl hfl)) hxt
    have step : ∀ v, (∀ T', T' = tput n.d v T → Replay n T' s) → DInv P N m il an pi w0 K0 β0 s0 (p + 1) L (tput n.d v T) s w K β a bl := by
      intro v hrep
      refine { down := hi.down, lt := hi.lt, cz := hi.cz, sz := hi.sz, df := hi.df, ext := hi.ext, done := ?_, lst := ?_, early := ?_, einj := ?_, rt := ?_, pend := ?_ }
      · intro i k hm hk' hfk
        rcases tk.1 hm with hm | rfl
        · exact hi.done i k hm hk' hfk
        · rw [hn] at hk'; cases hk'; rw [hfl] at hfk; cases hfk
      · exact fun i k h1 h2 h3 => tk.2 (.inl (hi.lst i k h1 h2 h3))
      · exact fun i k h1 h2 h3 => hi.early i k h1 (fun h => h2 (tk.2 (.inl h))) h3
      · exact fun i j h1 h2 h3 h4 => hi.einj i j h1 h2 (fun h => h3 (tk.2 (.inl h))) (fun h => h4 (tk.2 (.inl h)))
      · refine RT_sub hi.rt fun t u ht => ?_
        rw [tget_filter] at ht ⊢
        split at ht
        · rename_i hv
          rw [vis_iff] at hv
          have hnd : n.d ≠ some t := fun hd => by
            have := (hv x n hn hd).1 (tk.2 (.inr rfl))
            rw [hLx] at this; cases this
          have hv' : vis il (pi.take p) L t = true := vis_iff.2 fun i k hk' hd => by
            rw [← hv i k hk' hd, tk]
            constructor
            · exact fun h => .inl h
            · rintro (h | rfl)
              · exact h
              · rw [hn] at hk'; cases hk'; exact absurd hd hnd
          rw [if_pos hv']
          cases hd : n.d with
          | none => rw [hd] at ht; exact ht
          | some d =>
            rw [hd] at ht hnd
            simp only [tput, tget_tset] at ht
            rw [if_neg (fun e => hnd (by rw [e]))] at ht
            exact ht
        · cases ht
      · intro i k hm hk' hfk hLi
        rcases tk.1 hm with hm | rfl
        · exact pend_step (apart_fl hc hx hn (.inl hfl) hm hk') (hi.pend i k hm hk' hfk hLi) rfl
        · rw [hn] at hk'; cases hk'; exact hrep _ rfl
    have own : ∀ v T', T' = tput n.d v T → ∀ d, n.d = some d → tget T' d = some v := by
      intro v T' e d hd
      rw [e, hd]; simp [tput, tget_tset]
    have rd : ∀ v, ∀ t ∈ n.reads, tget (tput n.d v T) t = tget T t := by
      intro v t ht
      cases hd : n.d with
      | none => rfl
      | some d =>
        simp only [tput, tget_tset]
        rw [if_neg]
        intro e; subst e
        exact hc.self x n hn hfl d hd ht
    split at hr
    · rename_i hg
      rw [if_pos hfl] at hr
      split at hr
      · rename_i C v hv
        refine ⟨tput n.d v T, s, β, step v fun T' e => .inl ⟨?_, C, v, ?_, hr.1, own v T' e⟩, hr.2⟩
        · rw [e, gate_congr (rd v)]; exact hg
        · rw [e, floatV_congr (rd v)]; exact hv
      · exact hr.elim
    · rename_i hg
      refine ⟨tput n.d (.tup []) T, s, β, step _ fun T' e => .inr ⟨?_, own _ T' e⟩, hr⟩
      rw [e, gate_congr (rd _)]; exact hg
    · exact hr.elim
  · obtain ⟨hal, hLx⟩ := hk.resolve_left hfl
    obtain ⟨d, o, t, kz, c, z, sl, rfl, hao, hz0, hzk, htm, hb, hnk, hno, hnew⟩ : ∃ d o t k c z sl, n = .k (some d) none o ∧ alOf o = some (t, k, c, z, sl) ∧ zeroOf P t = some z ∧ z.length = k ∧ a.tmps[d]? = some (alU (bl x) c sl) ∧ w.heap[bl x]? = some (.cells ((List.replicate c z).flatten).toArray t (0, 0)) ∧
        ¬ K (bl x) ∧ (∀ j, Alive s j → (β j).b ≠ bl x) ∧ w0.heap.size ≤ bl x := by
      obtain ⟨⟨d, o, t, k, c, z, sl, e1, e2, e3, e4, e5, e6⟩, e7, e8, e9⟩ := hi.early x n hLx hxt hn
      exact ⟨d, o, t, k, c, z, sl, e1, e2, e3, e4, e5, e6, e7, e8, e9⟩
    simp only [Ins.g, gate, al_isFl hao, Bool.false_eq_true, if_false, Ins.d, tput] at hr
    obtain ⟨hst, hrun⟩ := stepV_al hao hr
    have hbb : ∀ i, i < s.length → lay β s.length ⟨bl x, 0, kz, c⟩ i = β i := fun i hi => lay_ne _ _ (by omega)
    have hcz' := hi.cz.adopt hz0 hzk hb hnk hno
    have alive : ∀ i, Alive (s ++ [some (.cells t kz (List.replicate c (zeroA z)))]) i → Alive s i ∨ i = s.length := fun i ⟨y, h⟩ => by
      rcases get_app h with h | h
      · exact .inl ⟨y, h⟩
      · exact .inr h.1
    refine ⟨_, _, lay β s.length ⟨bl x, 0, kz, c⟩, ?_, hrun⟩
    refine { down := hi.down, lt := hi.lt, cz := hcz', sz := hi.sz, df := hi.df, ext := ?_, done := ?_, lst := ?_, early := ?_, einj := ?_, rt := ?_, pend := ?_ }
    · intro i k hm hk' hfk
      rcases tk.1 hm with hm | rfl
      · exact hi.done i k hm hk' hfk
      · exact hLx
    · exact fun i k h1 h2 h3 => tk.2 (.inl (hi.lst i k h1 h2 h3))
    · intro i k h1 h2 h3
      have h2' : i ∉ pi.take p := fun h => h2 (tk.2 (.inl h))
      have hix : i ≠ x := fun e => h2 (tk.2 (.inr e))
      have := hi.early i k h1 h2' h3
      refine { ex := this.ex, nk := this.nk, new := this.new, no := fun j hj => ?_ }
      rcases alive j hj with hj | hj
      · rw [hbb j (alive_lt hj)]; exact this.no j hj
      · subst hj; rw [lay_same]; exact hi.einj x i hLx h1 hxt h2' (Ne.symm hix)
    · exact fun i j h1 h2 h3 h4 => hi.einj i j h1 h2 (fun h => h3 (tk.2 (.inl h))) (fun h => h4 (tk.2 (.inl h)))
    · exact { size := hi.ext.size, io := hi.ext.io, frame := hi.ext.frame, kmono := hi.ext.kmono, knew := hi.ext.knew
              fix := fun i hi' => by rw [hbb i (Nat.lt_of_lt_of_le hi' hi.ext.len)]; exact hi.ext.fix i hi'
              len := Nat.le_trans hi.ext.len (by simp)
              onew := fun i hi' => by
                rcases alive i hi' with h | h
                · rw [hbb i (alive_lt h)]; exact hi.ext.onew i h
                · subst h; rw [lay_same]; exact .inl hnew }
    · intro y v hv
      rw [tget_filter] at hv
      split at hv
      · rename_i hvis
        rw [tget_tset] at hv
        split at hv
        · rename_i e
          subst e
          simp only [Option.some.injEq] at hv; subst hv
          exact ⟨_, htm, R_al (by simp)⟩
        · rename_i e
          have hv' : vis il (pi.take p) L y = true := vis_iff.2 fun i k hk' hd => by
            rw [← (vis_iff.1 hvis) i k hk' hd, tk]
            constructor
            · exact fun h => .inl h
            · rintro (h | rfl)
              · exact h
              · rw [hn] at hk'; cases hk'
                simp only [Ins.d, Option.some.injEq] at hd
                exact absurd hd e
          obtain ⟨u, h1, h2⟩ := hi.rt y v (by rw [tget_filter, if_pos hv']; exact hv)
          exact ⟨u, h1, h2.mono (.refl _ _) (by simp) hbb⟩
      · cases hv
    · intro i k hm hk' hfk hLi
      rcases tk.1 hm with hm | rfl
      · refine pend_step (n := .k (some d) none o) (apart_fl hc hx hn (.inr hal) hm hk') (hi.pend i k hm hk' hfk hLi) ?_
        by_cases hu : usesS k = true
        · refine allP_mem (p := fun f => floatV (s ++ [some (.cells t kz (List.replicate c (zeroA z)))]) T f = floatV s T f) hst ?_
          unfold stOf
          rw [List.mem_filterMap]
          refine ⟨i, List.mem_filter.2 ⟨hm, ?_⟩, by simp [hk', hfk, hu]⟩
          simp only [Bool.not_eq_true', ← Bool.not_eq_true, List.contains_iff_mem]
          intro h
          have := hi.down x i hLx h
          rw [hLi] at this; cases this
        · exact floatV_pure (by simpa using hu) _ _ _
      · rw [hn] at hk'; cases hk'; rw [al_isFl hao] at hfk; cases hfk
end
end Go.Proofs.YtipanehdmhachaaGreatDoor.H

set_option linter.unusedSimpArgs false
set_option linter.unusedVariables false
set_option linter.unusedSectionVars false
namespace Go.Proofs.YtipanehdmhachaaGreatDoor.H
variable [DR]
section
variable {P : Program} {N m : Nat} {il : List Ins} {an : List (List Nat)} {pi : List Nat} {w0 : World} {K0 : Nat → Prop} {β0 : Nat → Loc} {s0 : St}
theorem mem_take_iff (hO : Ord an il pi) {x q p : Nat} (hx : pi[q]? = some x) : x ∈ pi.take p ↔ q < p := by
  constructor
  · intro h
    obtain ⟨r, hr⟩ := List.getElem?_of_mem h
    rw [List.getElem?_take] at hr
    split at hr
    · rename_i hrp
      rcases Nat.lt_trichotomy q r with h1 | h1 | h1
      · omega
      · omega
      · have : x ∈ pi.take q := List.mem_of_getElem? (i := r) (by rw [List.getElem?_take, if_pos h1]; exact hr)
        exact absurd this (nd_take hO hx)
    · cases hr
  · intro h
    exact List.mem_of_getElem? (i := q) (by rw [List.getElem?_take, if_pos h]; exact hx)
theorem advance_to (hc : Ch P an il pi) {dl : List DI} (hdl : dl = mkD an il [] pi) {Q : Tm → St → Prop} {L : Nat → Bool} {w : World} {K : Nat → Prop} {a : Act} {bl : Nat → Nat} {q : Nat} (hq : q ≤ pi.length) :
    ∀ (k p : Nat), p + k = q → ∀ {T : Tm} {s : St} {β : Nat → Loc}, DInv P N m il an pi w0 K0 β0 s0 p L T s w K β a bl → RunD P (dl.drop p) T s Q →
      (∀ r x n, p ≤ r → r < q → pi[r]? = some x → il[x]? = some n → isFl n = true ∨ (isAl n = true ∧ L x = true)) →
      ∃ T' s' β', DInv P N m il an pi w0 K0 β0 s0 q L T' s' w K β' a bl ∧ RunD P (dl.drop q) T' s' Q
  | 0, p, h, T, s, β, hi, hr, _ => by
    have : p = q := by omega
    subst this
    exact ⟨T, s, β, hi, hr⟩
  | k + 1, p, h, T, s, β, hi, hr, hall => by
    have hp : p < pi.length := by omega
    obtain ⟨n, hn⟩ := hc.ord.mem pi[p] (List.getElem_mem hp)
    obtain ⟨T1, s1, β1, h1, h2⟩ := advance hc hdl hi hr (x := pi[p]) (by simp [hp]) hn (hall p pi[p] n (Nat.le_refl _) (by omega) (by simp [hp]) hn)
    exact advance_to hc hdl hq k (p + 1) (by omega) h1 h2 fun r x n h3 => hall r x n (by omega)
/-- Everything ahead of an operation that is ready can be reckoned with. -/
theorem ahead (hc : Ch P an il pi) {p : Nat} {L : Nat → Bool} {T : Tm} {s : St} {w : World} {K : Nat → Prop} {β : Nat → Loc} {a : Act} {bl : Nat → Nat} (hi : DInv P N m il an pi w0 K0 β0 s0 p L T s w K β a bl)
    {i q : Nat} {n : Ins} (hq : pi[q]? = some i) (hn : il[i]? = some n) (hal : isAl n = false) (hrd : ∀ j ∈ getL an i, L j = true) :
    ∀ r x k, p ≤ r → r < q → pi[r]? = some x → il[x]? = some k → isFl k = true ∨ (isAl k = true ∧ L x = true) := by
  intro r x k hpr hrq hx hk
  by_cases hf : isFl k = true
  · exact .inl hf
  · right
    have hx' : x ∈ getL an i := hc.ord.kind q i n hq hn hal x k ((mem_take_iff hc.ord hx).2 hrq) hk (by simpa using hf)
    have hL := hrd x hx'
    refine ⟨?_, hL⟩
    cases h : isAl k with
    | true => rfl
    | false => exact absurd ((mem_take_iff hc.ord hx).1 (hi.lst x k hL hk h)) (by omega)
theorem vis_reads (hc : Ch P an il pi) {p : Nat} {L : Nat → Bool} {T : Tm} {s : St} {w : World} {K : Nat → Prop} {β : Nat → Loc} {a : Act} {bl : Nat → Nat} (hi : DInv P N m il an pi w0 K0 β0 s0 p L T s w K β a bl)
    {i : Nat} {n : Ins} (hn : il[i]? = some n) (hL : L i = false) (hrd : ∀ j ∈ getL an i, L j = true) (han : ∀ j ∈ getL an i, j ∈ pi.take p) (hself : ∀ d, n.d = some d → d ∈ n.reads → i ∉ pi.take p) :
    ∀ t ∈ n.reads, tget (T.filter fun q => vis il (pi.take p) L q.1) t = tget T t := by
  intro t ht
  rw [tget_filter, if_pos]
  rw [vis_iff]
  intro j k hk hd
  by_cases hji : j = i
  · subst hji
    rw [hn] at hk; cases hk
    have := hself t hd ht
    simp [hL, this]
  · have hcase := tmpOK_get hc.tmp hk hn (Ne.symm hji) hd
    have both : j ∈ getL an i → (j ∈ pi.take p ↔ L j = true) := fun h => ⟨fun _ => hrd j h, fun _ => han j h⟩
    rcases hcase.2 (.inr ht) with h | h
    · exact both h
    · by_cases hf : isFl k = true ∨ isAl k = true
      · exact both ((hcase.1 hf).2 ht)
      · have hLj : L j = false := by
          cases hh : L j with
          | false => rfl
          | true => have := hi.down j i hh h; rw [hL] at this; cases this
        refine ⟨fun hm => hi.done j k hm hk ?_, fun hh => by rw [hLj] at hh; cases hh⟩
        cases hh : isFl k with
        | false => rfl
        | true => exact absurd (.inl hh) hf
def upd (L : Nat → Bool) (i : Nat) : Nat → Bool := fun j => j == i || L j
theorem upd_iff {L : Nat → Bool} {i j : Nat} : upd L i j = true ↔ j = i ∨ L j = true := by simp [upd]
/-- What a step of the model leaves of the early blocks. -/
theorem early_keep {L : Nat → Bool} {s s' : St} {w w' : World} {K K' : Nat → Prop} {β β' : Nat → Loc} {a : Act} {d : Option Nat} {u : Value} {n : Ins} {b : Nat} (he : Early P w0 w K β s a n b) (hx : Ext s.length w K β s w' K' β' s') (hd : ∀ e, n.d = some e → d ≠ some e) :
    Early P w0 w' K' β' s' (a.put d u) n b := by
  obtain ⟨⟨e, o, t, k, c, z, sl, rfl, e1, e2, e8, e3, e4⟩, e5, e6, e7⟩ := he
  have hb : b < w.heap.size := (Array.getElem?_eq_some_iff.1 e4).1
  refine ⟨⟨e, o, t, k, c, z, sl, rfl, e1, e2, e8, ?_, by rw [hx.frame b hb e6]; exact e4⟩, fun h => ?_, fun j hj h => ?_, e7⟩
  · cases d with
    | none => exact e3
    | some d =>
      simp only [Act.put]
      rw [Array.getElem?_setIfInBounds_ne fun h => hd e rfl (by rw [h])]
      exact e3
  · rcases hx.knew b h with h | h | ⟨j, hj, h⟩
    · exact e5 h
    · omega
    · exact e6 j hj h
  · rcases hx.onew j hj with h1 | ⟨k, hk, h1⟩
    · omega
    · exact e6 k hk (h1.trans h)
theorem exec_float (hc : Ch P an il pi) {p : Nat} {L : Nat → Bool} {T : Tm} {s : St} {w : World} {K : Nat → Prop} {β : Nat → Loc} {a : Act} {bl : Nat → Nat} (hi : DInv P N m il an pi w0 K0 β0 s0 p L T s w K β a bl)
    {ops : Array Oper} {i : Nat} {n : Ins} (hn : il[i]? = some n) {o : Oper} (ho : ops[i]? = some o) (hins : insOf P N ops o = some n) (hfl : isFl n = true) (hL : L i = false) (hip : i ∈ pi.take p) (hrd : ∀ j ∈ getL an i, L j = true) {Q' : Exit → Act → World → Prop}
    {next : Act → World → Prop} (hk : ∀ w' K' β' a', DInv P N m il an pi w0 K0 β0 s0 p (upd L i) T s w' K' β' a' bl → next a' w') : wpOp P ops Q' i next a w := by
  have hrep := hi.pend i n hip hn hfl hL
  have hvis := vis_reads hc hi hn hL hrd (fun j hj => anc_take hc hip hj) (fun d hd hr => absurd hr (hc.self i n hn hfl d hd))
  obtain ⟨hd1, hd2, hg⟩ := insOf_d hins
  have inv : ∀ v u w' K' β', R w' K' β' s.length v u → Cz w' K' β' s → Ext s.length w K β s w' K' β' s → (∀ d, n.d = some d → tget T d = some v) → DInv P N m il an pi w0 K0 β0 s0 p (upd L i) T s w' K' β' (a.put o.dst u) bl := by
    intro v u w' K' β' hR hz hx hT
    have hs := hx.stays hi.cz
    refine { down := ?_, lt := ?_, done := ?_, lst := ?_, early := ?_, einj := ?_, cz := hz, sz := by rw [put_size]; exact hi.sz, df := by rw [put_defers']; exact hi.df, ext := hi.ext.trans hi.ext.len hx, rt := ?_, pend := ?_ }
    · intro j k hj hkj
      rcases upd_iff.1 hj with rfl | hj
      · exact upd_iff.2 (.inr (hrd k hkj))
      · exact upd_iff.2 (.inr (hi.down j k hj hkj))
    · intro j hj
      rcases upd_iff.1 hj with rfl | hj
      · exact (List.getElem?_eq_some_iff.1 hn).1
      · exact hi.lt j hj
    · exact fun j k h1 h2 h3 => upd_iff.2 (.inr (hi.done j k h1 h2 h3))
    · intro j k h1 h2 h3
      rcases upd_iff.1 h1 with rfl | h1
      · exact hip
      · exact hi.lst j k h1 h2 h3
    · intro j k h1 h2 h3
      rcases upd_iff.1 h1 with rfl | h1
      · exact absurd hip h2
      · have he := hi.early j k h1 h2 h3
        refine early_keep (L := L) he hx fun e hke => ?_
        obtain ⟨d, oo, t, kk, cc, z, sl, rfl, hao, _⟩ := he.ex
        have hji : i ≠ j := fun e => h2 (e ▸ hip)
        have := ((tmpOK_get hc.tmp h3 hn hji hke).1 (.inr (by simp [isAl, hao]))).1
        rw [← hd1]; exact this
    · intro j k h1 h2 h3 h4
      rcases upd_iff.1 h1 with rfl | h1
      · exact absurd hip h3
      · rcases upd_iff.1 h2 with rfl | h2
        · exact absurd hip h4
        · exact hi.einj j k h1 h2 h3 h4
    · intro t x ht
      rw [tget_filter] at ht
      split at ht
      · rename_i hv
        rw [vis_iff] at hv
        by_cases htd : n.d = some t
        · rw [hT t htd] at ht; cases ht
          have hlt : t < a.tmps.size := by rw [← hd1, htd] at hd2; rw [hi.sz]; simpa [okDst] using hd2
          refine ⟨u, ?_, hR⟩
          rw [← hd1, htd]; simp [Act.put, hlt]
        · have hv' : vis il (pi.take p) L t = true := vis_iff.2 fun j k hk' hd => by
            rw [hv j k hk' hd, upd_iff]
            constructor
            · rintro (rfl | h)
              · rw [hn] at hk'; cases hk'; exact absurd hd htd
              · exact h
            · exact fun h => .inr h
          obtain ⟨u', h1, h2⟩ := hi.rt t x (by rw [tget_filter, if_pos hv']; exact ht)
          refine ⟨u', ?_, h2.mono hs (Nat.le_refl _) hx.fix⟩
          rw [← hd1]
          cases hd : n.d with
          | none => exact h1
          | some d =>
            simp only [Act.put]
            rw [Array.getElem?_setIfInBounds_ne fun e => htd (by rw [hd, e])]
            exact h1
      · cases ht
    · intro j k h1 h2 h3 h4
      refine hi.pend j k h1 h2 h3 ?_
      cases hh : L j with
      | false => rfl
      | true => rw [upd_iff.2 (.inr hh)] at h4; cases h4
  simp only [wpOp, ho]
  rcases hrep with ⟨hgt, C, v, hv, hC, hT⟩ | ⟨hgt, hT⟩
  · rw [if_pos (gate_ok hg (by rw [gate_congr hvis]; exact hgt) hi.rt)]
    refine .inl (stepV_ok hins (k := fun v' s' => v' = v ∧ s' = s) (float_stepV (by rw [floatV_congr hvis]; exact hv) hC ⟨rfl, rfl⟩) ⟨hi.cz, hi.rt, hi.sz, hi.df⟩ fun v' s' w' K' β' u hks hz hR hx => ?_)
    obtain ⟨rfl, rfl⟩ := hks
    exact hk _ _ _ _ (inv _ u w' K' β' hR hz hx hT)
  · rw [if_neg (by rw [gate_ok hg (by rw [gate_congr hvis]; exact hgt) hi.rt]; simp)]
    exact hk _ _ _ _ (inv _ undef w K β R_undef hi.cz (.refl (Nat.le_refl _)) hT)
theorem exec_chain (hc : Ch P an il pi) {dl : List DI} (hdl : dl = mkD an il [] pi) {Q : Tm → St → Prop} {p : Nat} {L : Nat → Bool} {T : Tm} {s : St} {w : World} {K : Nat → Prop} {β : Nat → Loc} {a : Act} {bl : Nat → Nat} (hi : DInv P N m il an pi w0 K0 β0 s0 p L T s w K β a bl)
    (hr : RunD P (dl.drop p) T s Q) {ops : Array Oper} {i : Nat} {n : Ins} (hx : pi[p]? = some i) (hn : il[i]? = some n) {o : Oper} (ho : ops[i]? = some o) (hins : insOf P N ops o = some n) (hfl : isFl n = false) (hal : isAl n = false) (hL : L i = false) (hrd : ∀ j ∈ getL an i, L j = true) {Q' : Exit → Act → World → Prop}
    {next : Act → World → Prop} (hk : ∀ T' s' w' K' β' a', DInv P N m il an pi w0 K0 β0 s0 (p + 1) (upd L i) T' s' w' K' β' a' bl → RunD P (dl.drop (p + 1)) T' s' Q → next a' w') : wpOp P ops Q' i next a w := by
  have hip := nd_take hc.ord hx
  have tk := fun {y : Nat} => take_succ' (pi := pi) hx (y := y)
  have hvis := vis_reads hc hi hn hL hrd (fun j hj => hc.ord.anc p i hx j hj) (fun d hd hr => hip)
  obtain ⟨hd1, hd2, hg⟩ := insOf_d hins
  obtain ⟨m1, m2⟩ := mkD_get (an := an) (il := il) (r := pi) (pre := []) hc.ord.mem
  have hd := m2 p i n hx hn
  rw [← hdl] at hd
  simp only [List.nil_append, hfl, Bool.false_eq_true, if_false] at hd
  rw [drop_cons hd] at hr
  simp only [RunD, StepD, hfl, Bool.false_eq_true, if_false] at hr
  have inv : ∀ v s' u w' K' β', R w' K' β' s'.length v u → Cz w' K' β' s' → Ext s.length w K β s w' K' β' s' → (∀ f ∈ stOf an il (pi.take p) i, floatV s' T f = floatV s T f) → DInv P N m il an pi w0 K0 β0 s0 (p + 1) (upd L i) (tput n.d v T) s' w' K' β' (a.put o.dst u) bl := by
    intro v s' u w' K' β' hR hz hx' hst
    have hs := hx'.stays hi.cz
    refine { down := ?_, lt := ?_, done := ?_, lst := ?_, early := ?_, einj := ?_, cz := hz, sz := by rw [put_size]; exact hi.sz, df := by rw [put_defers']; exact hi.df, ext := hi.ext.trans hi.ext.len hx', rt := ?_, pend := ?_ }
    · intro j k hj hkj
      rcases upd_iff.1 hj with rfl | hj
      · exact upd_iff.2 (.inr (hrd k hkj))
      · exact upd_iff.2 (.inr (hi.down j k hj hkj))
    · intro j hj
      rcases upd_iff.1 hj with rfl | hj
      · exact (List.getElem?_eq_some_iff.1 hn).1
      · exact hi.lt j hj
    · intro j k h1 h2 h3
      rcases tk.1 h1 with h1 | rfl
      · exact upd_iff.2 (.inr (hi.done j k h1 h2 h3))
      · exact upd_iff.2 (.inl rfl)
    · intro j k h1 h2 h3
      rcases upd_iff.1 h1 with rfl | h1
      · exact tk.2 (.inr rfl)
      · exact tk.2 (.inl (hi.lst j k h1 h2 h3))
    · intro j k h1 h2 h3
      rcases upd_iff.1 h1 with rfl | h1
      · exact absurd (tk.2 (.inr rfl)) h2
      · have h2' : j ∉ pi.take p := fun h => h2 (tk.2 (.inl h))
        have he := hi.early j k h1 h2' h3
        refine early_keep (L := L) he hx' fun e hke => ?_
        obtain ⟨d, oo, t, kk, cc, z, sl, rfl, hao, _⟩ := he.ex
        have hji : i ≠ j := fun e => h2 (tk.2 (.inr e.symm))
        have := ((tmpOK_get hc.tmp h3 hn hji hke).1 (.inr (by simp [isAl, hao]))).1
        rw [← hd1]; exact this
    · intro j k h1 h2 h3 h4
      rcases upd_iff.1 h1 with rfl | h1
      · exact absurd (tk.2 (.inr rfl)) h3
      · rcases upd_iff.1 h2 with rfl | h2
        · exact absurd (tk.2 (.inr rfl)) h4
        · exact hi.einj j k h1 h2 (fun h => h3 (tk.2 (.inl h))) (fun h => h4 (tk.2 (.inl h)))
    · intro t x ht
      rw [tget_filter] at ht
      split at ht
      · rename_i hv
        rw [vis_iff] at hv
        by_cases htd : n.d = some t
        · rw [htd] at ht
          simp only [tput, tget_tset, if_true] at ht
          cases ht
          have hlt : t < a.tmps.size := by rw [← hd1, htd] at hd2; rw [hi.sz]; simpa [okDst] using hd2
          refine ⟨u, ?_, hR⟩
          rw [← hd1, htd]; simp [Act.put, hlt]
        · have hv' : vis il (pi.take p) L t = true := vis_iff.2 fun j k hk' hd => by
            have := hv j k hk' hd
            have hji : j ≠ i := fun e => by subst e; rw [hn] at hk'; cases hk'; exact htd hd
            rw [tk, upd_iff] at this
            simpa [hji] using this
          have htT : tget T t = some x := by
            cases hd : n.d with
            | none => rw [hd] at ht; exact ht
            | some d =>
              rw [hd] at ht htd
              simp only [tput, tget_tset] at ht
              rw [if_neg (fun e => htd (by rw [e]))] at ht
              exact ht
          obtain ⟨u', h1, h2⟩ := hi.rt t x (by rw [tget_filter, if_pos hv']; exact htT)
          refine ⟨u', ?_, h2.mono hs hx'.len hx'.fix⟩
          rw [← hd1]
          cases hd : n.d with
          | none => exact h1
          | some d =>
            simp only [Act.put]
            rw [Array.getElem?_setIfInBounds_ne fun e => htd (by rw [hd, e])]
            exact h1
      · cases ht
    · intro j k h1 h2 h3 h4
      have hLj : L j = false := by
        cases hh : L j with
        | false => rfl
        | true => rw [upd_iff.2 (.inr hh)] at h4; cases h4
      rcases tk.1 h1 with h1 | rfl
      · have hna : j ∉ getL an i := fun h => by have := hrd j h; rw [hLj] at this; cases this
        refine pend_step (apart_ch hc hx hn h1 h2 hna) (hi.pend j k h1 h2 h3 hLj) ?_
        by_cases hu : usesS k = true
        · refine hst k ?_
          unfold stOf
          rw [List.mem_filterMap]
          exact ⟨j, List.mem_filter.2 ⟨h1, by simpa using hna⟩, by simp [h2, h3, hu]⟩
        · exact floatV_pure (by simpa using hu) _ _ _
      · rw [hn] at h2; cases h2; rw [hfl] at h3; cases h3
  simp only [wpOp, ho]
  split at hr
  · rename_i hgt
    rw [if_pos (gate_ok hg (by rw [gate_congr hvis]; exact hgt) hi.rt)]
    refine .inl (stepV_ok hins (stepV_congr (fun t ht => (hvis t ht).symm) hr) ⟨hi.cz, hi.rt, hi.sz, hi.df⟩ fun v s' w' K' β' u hks hz hR hx' => ?_)
    exact hk _ _ _ _ _ _ (inv v s' u w' K' β' hR hz hx' fun f hf => allP_mem (p := fun f => floatV s' T f = floatV s T f) hks.1 hf) hks.2
  · rename_i hgt
    rw [if_neg (by rw [gate_ok hg (by rw [gate_congr hvis]; exact hgt) hi.rt]; simp)]
    exact hk _ _ _ _ _ _ (inv _ s undef w K β R_undef hi.cz (.refl (Nat.le_refl _)) fun _ _ => rfl) hr
  · exact hr.elim
end
end Go.Proofs.YtipanehdmhachaaGreatDoor.H

set_option linter.unusedSimpArgs false
set_option linter.unusedVariables false
set_option linter.unusedSectionVars false
namespace Go.Proofs.YtipanehdmhachaaGreatDoor.H
variable [DR]
section
variable {P : Program} {N m : Nat} {il : List Ins} {an : List (List Nat)} {pi : List Nat} {w0 : World} {K0 : Nat → Prop} {β0 : Nat → Loc} {s0 : St}
/-- What lays a new block of zeros, in the model. -/
theorem al_run {ops : Array Oper} {o : Oper} {d : Option Nat} {g : Option (Nat × Bool)} {c : KO} (h : insOf P N ops o = some (.k d g c)) {t k n : Nat} {z : List Value} {sl : Bool} (ha : alOf c = some (t, k, n, z, sl)) (a : Act) (w : World) :
    zeroOf P t = some z ∧ z.length = k ∧ (execOp a.eval o).run P w = .ok (.value (alU w.heap.size n sl)) (w.alloc (.cells ((List.replicate n z).flatten).toArray t)) := by
  have hk : kop P o.op = some c := by
    unfold insOf at h
    split at h
    · split at h
      · split at h
        · simp at h
        · split at h
          · rename_i c' hc
            simp only [Option.some.injEq, Ins.k.injEq] at h
            obtain ⟨_, _, rfl⟩ := h
            exact hc
          · split at h
            · simp only [Option.some.injEq, Ins.k.injEq] at h
              obtain ⟨_, _, rfl⟩ := h
              simp [alOf] at ha
            · cases h
      · cases h
    · cases h
  obtain ⟨dst, op, ty, pos, aft, grd⟩ := o
  simp only at hk
  cases op with
  | alloc T =>
    simp only [kop] at hk
    split at hk
    · rename_i z' hz
      simp only [Option.some.injEq] at hk; subst hk
      simp only [alOf, Option.some.injEq, Prod.mk.injEq] at ha
      obtain ⟨rfl, rfl, rfl, rfl, rfl⟩ := ha
      obtain ⟨iz, zv, hi1, hzv, hzc, _⟩ := zeroOf_info hz
      refine ⟨hz, rfl, ?_⟩
      have : execOp a.eval { dst := dst, op := .alloc T, type := ty, pos := pos, after := aft, guard := grd } = (do pure (.value (← Instr.alloc T true (.tuple #[])))) := rfl
      rw [this]
      simp [Instr.alloc, zeroValue, typeInfo, hi1, hzv, newVar, newRow, hzc, alU]
    · cases hk
  | makeSlice T' l cc =>
    simp only [kop] at hk
    split at hk
    · rename_i el hu
      split at hk
      · rename_i i z' hi hz0
        split at hk
        · rename_i hcd
          split at hk
          · rename_i na nb hna hnb
            split at hk
            · rename_i hab
              simp only [Option.some.injEq] at hk; subst hk
              simp only [alOf, Option.some.injEq, Prod.mk.injEq] at ha
              obtain ⟨rfl, rfl, rfl, rfl, rfl⟩ := ha
              refine ⟨hz0, hcd.1, ?_⟩
              have : execOp a.eval { dst := dst, op := .makeSlice T' l cc, type := ty, pos := pos, after := aft, guard := grd } = (do pure (.value (← Instr.makeSlice T' (a.eval l) (a.eval cc)))) := rfl
              rw [this]
              simp only [Sem.run_bind, mkz_run hu hi hz0 hcd hna hnb hab w, Result.andThen_ok, Sem.run_pure]
              simp [alU]
            · cases hk
          · simp only [Option.some.injEq] at hk; subst hk; simp [alOf] at ha
        · cases hk
      · cases hk
    · cases hk
  | call cl =>
    obtain ⟨callee, cargs, ctys⟩ := cl
    cases callee with
    | builtin b => cases b <;> simp only [kop] at hk <;> (try cases hk) <;> (repeat' split at hk) <;> simp at hk <;> (subst hk; simp [alOf] at ha)
    | value x =>
      cases x with
      | func f => simp only [kop] at hk; split at hk <;> simp at hk; subst hk; simp [alOf] at ha
      | _ => simp [kop] at hk; subst hk; simp [alOf] at ha
    | invoke r m => simp [kop] at hk
  | _ => simp only [kop] at hk <;> (try cases hk) <;> (try ((repeat' split at hk) <;> simp at hk <;> (subst hk; simp [alOf] at ha))) <;> (simp [alOf] at ha)
theorem exec_alloc (hc : Ch P an il pi) {p : Nat} {L : Nat → Bool} {T : Tm} {s : St} {w : World} {K : Nat → Prop} {β : Nat → Loc} {a : Act} {bl : Nat → Nat} (hi : DInv P N m il an pi w0 K0 β0 s0 p L T s w K β a bl)
    {ops : Array Oper} {i : Nat} {n : Ins} (hn : il[i]? = some n) {o : Oper} (ho : ops[i]? = some o) (hins : insOf P N ops o = some n) (hal : isAl n = true) (hL : L i = false) (hrd : ∀ j ∈ getL an i, L j = true) {Q' : Exit → Act → World → Prop}
    {next : Act → World → Prop} (hk : ∀ w' a' bl', DInv P N m il an pi w0 K0 β0 s0 p (upd L i) T s w' K β a' bl' → next a' w') : wpOp P ops Q' i next a w := by
  have hfl : isFl n = false := by
    cases h : isFl n with
    | false => rfl
    | true => have := isFl_isAl h; rw [hal] at this; cases this
  have hip : i ∉ pi.take p := fun h => by have := hi.done i n h hn hfl; rw [hL] at this; cases this
  obtain ⟨d, oo, t, kz, c, z, sl, rfl, hao⟩ : ∃ d o t k c z sl, n = .k (some d) none o ∧ alOf o = some (t, k, c, z, sl) := by
    cases n with
    | f d g o => cases hal
    | k d g o =>
      cases d with
      | none => cases hal
      | some d =>
        cases g with
        | some g => cases hal
        | none =>
          simp only [isAl] at hal
          obtain ⟨⟨t, k, c, z, sl⟩, h⟩ := Option.isSome_iff_exists.1 hal
          exact ⟨d, o, t, k, c, z, sl, rfl, h⟩
  obtain ⟨hd1, hd2, hg⟩ := insOf_d hins
  simp only [Ins.d, Ins.g] at hd1 hg
  obtain ⟨hz0, hzk, hrun⟩ := al_run hins hao a w
  have hpush : (w.alloc (.cells ((List.replicate c z).flatten).toArray t)).heap = w.heap.push (.cells ((List.replicate c z).flatten).toArray t (0, 0)) := rfl
  have hcz : Cz (w.alloc (.cells ((List.replicate c z).flatten).toArray t)) K β s := ⟨fun j b hj => hi.cz.old (stays_push hi.cz hpush) (Nat.le_refl _) (fun _ _ => rfl) hj (push_old hpush (hi.cz.lt ⟨b, hj⟩)), hi.cz.inj, hi.cz.dis, fun b hb => by have := hi.cz.kb b hb; rw [hpush]; simp; omega, hi.cz.gl.mono (stays_push hi.cz hpush)⟩
  have hx : Ext s.length w K β s (w.alloc (.cells ((List.replicate c z).flatten).toArray t)) K β s :=
    { size := by rw [hpush]; simp, io := io_alloc .., fix := fun _ _ => rfl, len := Nat.le_refl _, frame := fun b hb _ => push_old hpush hb, kmono := fun _ h => h, knew := fun _ h => .inl h, onew := fun j hj => .inr ⟨j, hj, rfl⟩ }
  have hlt : d < a.tmps.size := by rw [← hd1] at hd2; rw [hi.sz]; simpa [okDst] using hd2
  simp only [wpOp, ho]
  rw [if_pos (by
    unfold guardOf at hg
    split at hg
    · rename_i h0; simp [Region.wanted, h0]
    · split at hg <;> simp at hg)]
  left
  unfold Oper.wp
  rw [hrun]
  simp only [Oper.upon]
  refine hk _ _ (fun j => if j = i then w.heap.size else bl j) ?_
  have hs := hx.stays hi.cz
  refine { down := ?_, lt := ?_, done := ?_, lst := ?_, early := ?_, einj := ?_, cz := hcz, sz := by rw [put_size]; exact hi.sz, df := by rw [put_defers']; exact hi.df, ext := hi.ext.trans hi.ext.len hx, rt := ?_, pend := ?_ }
  · intro j k hj hkj
    rcases upd_iff.1 hj with rfl | hj
    · exact upd_iff.2 (.inr (hrd k hkj))
    · exact upd_iff.2 (.inr (hi.down j k hj hkj))
  · intro j hj
    rcases upd_iff.1 hj with rfl | hj
    · exact (List.getElem?_eq_some_iff.1 hn).1
    · exact hi.lt j hj
  · exact fun j k h1 h2 h3 => upd_iff.2 (.inr (hi.done j k h1 h2 h3))
  · intro j k h1 h2 h3
    rcases upd_iff.1 h1 with rfl | h1
    · rw [hn] at h2; cases h2; rw [hal] at h3; cases h3
    · exact hi.lst j k h1 h2 h3
  · intro j k h1 h2 h3
    by_cases hji : j = i
    · subst hji
      rw [hn] at h3; cases h3
      simp only [if_true]
      refine ⟨⟨d, oo, t, kz, c, z, sl, rfl, hao, hz0, hzk, ?_, ?_⟩, fun h => ?_, fun k hk h => ?_, hi.ext.size⟩
      · rw [← hd1]; simp [Act.put, hlt]
      · rw [hpush]; simp
      · have := hi.cz.kb _ h; omega
      · have := hi.cz.lt hk; omega
    · have h1 := (upd_iff.1 h1).resolve_left hji
      have he := hi.early j k h1 h2 h3
      rw [if_neg hji]
      refine early_keep (L := L) he hx fun e hke => ?_
      obtain ⟨d', o', t', k', c', z', sl', rfl, hao', _⟩ := he.ex
      have := ((tmpOK_get hc.tmp h3 hn (Ne.symm hji) hke).1 (.inr (by simp [isAl, hao']))).1
      rw [← hd1]; exact this
  · intro j k h1 h2 h3 h4 hjk
    have size : ∀ j, j ≠ i → upd L i j = true → j ∉ pi.take p → bl j < w.heap.size := fun j hj h1 h3 => by
      have h1 := (upd_iff.1 h1).resolve_left hj
      obtain ⟨n', hn'⟩ : ∃ n', il[j]? = some n' := ⟨_, List.getElem?_eq_getElem (hi.lt j h1)⟩
      obtain ⟨_, _, _, _, _, _, _, _, _, _, _, _, h⟩ := (hi.early j n' h1 h3 hn').ex
      exact (Array.getElem?_eq_some_iff.1 h).1
    by_cases hj : j = i <;> by_cases hk : k = i
    · omega
    · subst hj; simp only [if_true, if_neg hk]; have := size k hk h2 h4; omega
    · subst hk; simp only [if_true, if_neg hj]; have := size j hj h1 h3; omega
    · simp only [if_neg hj, if_neg hk]
      exact hi.einj j k ((upd_iff.1 h1).resolve_left hj) ((upd_iff.1 h2).resolve_left hk) h3 h4 hjk
  · intro y x ht
    rw [tget_filter] at ht
    split at ht
    · rename_i hv
      rw [vis_iff] at hv
      have hyd : y ≠ d := fun e => by
        subst e
        have := (hv i _ hn rfl).2 (upd_iff.2 (.inl rfl))
        exact hip this
      have hv' : vis il (pi.take p) L y = true := vis_iff.2 fun j k hk' hd => by
        have := hv j k hk' hd
        have hji : j ≠ i := fun e => by subst e; rw [hn] at hk'; cases hk'; simp only [Ins.d, Option.some.injEq] at hd; exact hyd hd.symm
        rw [upd_iff] at this
        simpa [hji] using this
      obtain ⟨u', h1, h2⟩ := hi.rt y x (by rw [tget_filter, if_pos hv']; exact ht)
      refine ⟨u', ?_, h2.mono hs (Nat.le_refl _) hx.fix⟩
      rw [← hd1]
      simp only [Act.put]
      rw [Array.getElem?_setIfInBounds_ne fun e => hyd e.symm]
      exact h1
    · cases ht
  · intro j k h1 h2 h3 h4
    refine hi.pend j k h1 h2 h3 ?_
    cases hh : L j with
    | false => rfl
    | true => rw [upd_iff.2 (.inr hh)] at h4; cases h4
/-- Nothing is ready: everything has been carried out. -/
theorem all_listed {ops : Array Oper} (han : ancOK an ops.toList = true) {l : Array Bool} (hs : l.size = ops.size) (h : Region.ready .any ops l = []) : ∀ i, i < ops.size → lsd l i = true := by
  intro i
  induction i using Nat.strongRecOn with
  | _ i ih =>
    intro hi
    cases hl : lsd l i with
    | true => rfl
    | false =>
      exfalso
      have ho : ops[i]? = some ops[i] := by simp [hi]
      have : i ∈ Region.ready .any ops l := mem_ready.2 ⟨by
        unfold lsd at hl
        simp only [Array.getD_eq_getD_getElem?] at hl ⊢
        rw [show l[i]? = some l[i] by simp [hs, hi]] at hl ⊢
        exact hl, ops[i], ho, fun e he hb => by
        have hb' : e.on ∈ bnds ops[i] := by
          unfold bnds
          rw [List.mem_map]
          exact ⟨e, List.mem_filter.2 ⟨by simpa using he, hb⟩, rfl⟩
        have := (ancOK_get (ops := ops.toList) han (o := ops[i]) (i := i) (by simp [hi])).1 e.on hb'
        exact ih e.on this.1 (by omega)⟩
      rw [h] at this; cases this
theorem lsd_set {l : Array Bool} {i : Nat} (hi : i < l.size) : lsd (l.setIfInBounds i true) = upd (lsd l) i := by
  funext j
  unfold lsd upd
  by_cases h : i = j
  · subst h; simp [hi]
  · have h' : (j == i) = false := beqN (Ne.symm h)
    simp [h', Array.getElem?_setIfInBounds_ne h]
def cnt (l : Array Bool) : Nat := l.toList.countP (· == false)
theorem cnt_set {l : Array Bool} {i : Nat} (hi : i < l.size) (h : lsd l i = false) : cnt (l.setIfInBounds i true) + 1 = cnt l := by
  unfold cnt
  rw [Array.toList_setIfInBounds]
  have hi' : i < l.toList.length := by simpa using hi
  have hv : l.toList[i] = false := by
    unfold lsd at h
    simpa [hi] using h
  have key : ∀ (l : List Bool) (i : Nat) (hi : i < l.length), l[i] = false → (l.set i true).countP (· == false) + 1 = l.countP (· == false) := by
    intro l
    induction l with
    | nil => intro i hi; simp at hi
    | cons b l ih =>
      intro i hi hb
      cases i with
      | zero => simp at hb; subst hb; simp
      | succ i =>
        have := ih i (by simpa using hi) (by simpa using hb)
        simp only [List.set_cons_succ, List.countP_cons]
        omega
  exact key l.toList i hi' hv
theorem draw_any (hc : Ch P an il pi) {dl : List DI} (hdl : dl = mkD an il [] pi) {ops : Array Oper} (hil : insL P N ops ops.toList = some il) (han : ancOK an ops.toList = true) {Q : Fl → Tm → St → Prop} : ∀ (fuel : Nat) (l : Array Bool), l.size = ops.size → cnt l ≤ fuel →
    ∀ {p : Nat} {T : Tm} {s : St} {w : World} {K : Nat → Prop} {β : Nat → Loc} {a : Act} {bl : Nat → Nat}, DInv P N m il an pi w0 K0 β0 s0 p (lsd l) T s w K β a bl → RunD P (dl.drop p) T s (Q .normal) → p ≤ pi.length →
      wpAny P .any ops (After N m w0 K0 β0 s0 Q) fuel l a w := by
  obtain ⟨q1, q2⟩ := insL_get hil
  have hlen : il.length = ops.size := by simpa using q1
  obtain ⟨m1, m2⟩ := mkD_get (an := an) (il := il) (r := pi) (pre := []) hc.ord.mem
  have fin : ∀ (l : Array Bool), l.size = ops.size → (∀ i, i < ops.size → lsd l i = true) → ∀ {p : Nat} {T : Tm} {s : St} {w : World} {K : Nat → Prop} {β : Nat → Loc} {a : Act} {bl : Nat → Nat}, DInv P N m il an pi w0 K0 β0 s0 p (lsd l) T s w K β a bl → RunD P (dl.drop p) T s (Q .normal) → p ≤ pi.length →
      After N m w0 K0 β0 s0 Q .normal a w := by
    intro l hs hall p T s w K β a bl hi hr hp
    have hmem : ∀ (r x : Nat) n, pi[r]? = some x → il[x]? = some n → lsd l x = true := fun r x n _ hx => hall x (by rw [← hlen]; exact (List.getElem?_eq_some_iff.1 hx).1)
    obtain ⟨T1, s1, β1, h1, h2⟩ := advance_to hc hdl (q := pi.length) (Nat.le_refl _) (pi.length - p) p (by omega) hi hr fun r x n hpr hrq hx hn => by
      by_cases hf : isFl n = true
      · exact .inl hf
      · right
        have hL := hmem r x n hx hn
        refine ⟨?_, hL⟩
        cases h : isAl n with
        | true => rfl
        | false => exact absurd ((mem_take_iff hc.ord hx).1 (hi.lst x n hL hn h)) (by omega)
    have hnil : dl.drop pi.length = [] := by rw [hdl]; exact List.drop_eq_nil_of_le (by rw [m1]; exact Nat.le_refl _)
    rw [hnil] at h2
    refine ⟨.normal, T1, s1, K, β1, rfl, h2, ⟨h1.cz, ?_, h1.sz, h1.df⟩, h1.ext⟩
    intro i v hv
    refine h1.rt i v ?_
    rw [tget_filter, if_pos]
    · exact hv
    · refine vis_iff.2 fun j k hk hd => ?_
      have hjl := (List.getElem?_eq_some_iff.1 hk).1
      rw [List.take_of_length_le (Nat.le_refl _)]
      exact ⟨fun _ => hall j (by omega), fun _ => hc.all j hjl⟩
  have zero : ∀ (l : Array Bool), l.size = ops.size → cnt l = 0 → ∀ i, i < ops.size → lsd l i = true := by
    intro l hs hcn i hi
    cases h : lsd l i with
    | true => rfl
    | false => have := cnt_set (l := l) (i := i) (by omega) h; omega
  intro fuel
  induction fuel with
  | zero =>
    intro l hs hcn p T s w K β a bl hi hr hp
    have hall := zero l hs (by omega)
    refine ⟨?_, fin l hs hall hi hr hp⟩
    unfold Region.ready
    rw [List.filter_eq_nil_iff]
    intro i hi'
    have := hall i (by simpa using hi')
    have hil : i < ops.size := by simpa using hi'
    unfold lsd at this
    have e : l.getD i true = true := by
      simp only [Array.getD_eq_getD_getElem?] at this ⊢
      rw [show l[i]? = some l[i] by simp [hs, hil]] at this ⊢
      exact this
    simp [e]
  | succ fuel ih =>
    intro l hs hcn p T s w K β a bl hi hr hp
    refine ⟨fun h0 => fin l hs (all_listed han hs h0) hi hr hp, fun i hrdy => ?_⟩
    obtain ⟨h0, o, ho, hdep⟩ := mem_ready.1 hrdy
    have hio : i < ops.size := (Array.getElem?_eq_some_iff.1 ho).1
    have hL : lsd l i = false := by
      unfold lsd
      simp only [Array.getD_eq_getD_getElem?] at h0 ⊢
      rw [show l[i]? = some l[i] by simp [hs, hio]] at h0 ⊢
      exact h0
    obtain ⟨n, hn⟩ : ∃ n, il[i]? = some n := ⟨_, List.getElem?_eq_getElem (by omega)⟩
    obtain ⟨o', ho', hins⟩ := q2 i n hn
    have : o' = o := by
      have : ops.toList[i]? = some o := by simpa using ho
      rw [this] at ho'; exact (Option.some.inj ho').symm
    subst this
    have hrd : ∀ j ∈ getL an i, lsd l j = true := by
      have hget := ancOK_get (ops := ops.toList) han (o := o') (i := i) (by simpa using ho)
      intro j hj
      obtain ⟨_, _, e, he, h⟩ := hget.2 j hj
      have hLe : lsd l e = true := by
        unfold bnds at he
        obtain ⟨x, hx, rfl⟩ := List.mem_map.1 he
        obtain ⟨h1, h2⟩ := List.mem_filter.1 hx
        exact hdep x (by simpa using h1) h2
      rcases h with rfl | h
      · exact hLe
      · exact hi.down e j hLe h
    have hset : lsd (l.setIfInBounds i true) = upd (lsd l) i := lsd_set (by omega)
    have hcn' : cnt (l.setIfInBounds i true) ≤ fuel := by have := cnt_set (l := l) (i := i) (by omega) hL; omega
    have hs' : (l.setIfInBounds i true).size = ops.size := by simpa using hs
    obtain ⟨q, hq⟩ := List.getElem?_of_mem (hc.all i (by omega))
    have hql := (List.getElem?_eq_some_iff.1 hq).1
    by_cases hal : isAl n = true
    · exact exec_alloc hc hi hn ho hins hal hL hrd fun w' a' bl' h => ih _ hs' hcn' (by rw [hset]; exact h) hr hp
    · have hal : isAl n = false := by simpa using hal
      have hah := ahead hc hi hq hn hal hrd
      by_cases hfl : isFl n = true
      · by_cases hqp : q < p
        · exact exec_float hc hi hn ho hins hfl hL ((mem_take_iff hc.ord hq).2 hqp) hrd fun w' K' β' a' h => ih _ hs' hcn' (by rw [hset]; exact h) hr hp
        · obtain ⟨T1, s1, β1, h1, h2⟩ := advance_to hc hdl (q := q + 1) (by omega) (q + 1 - p) p (by omega) hi hr fun r x k hpr hrq hx hk => by
            by_cases hrq' : r = q
            · subst hrq'
              rw [hq] at hx; cases hx
              rw [hn] at hk; cases hk
              exact .inl hfl
            · exact hah r x k hpr (by omega) hx hk
          exact exec_float hc h1 hn ho hins hfl hL ((mem_take_iff hc.ord hq).2 (by omega)) hrd fun w' K' β' a' h => ih _ hs' hcn' (by rw [hset]; exact h) h2 (by omega)
      · have hfl : isFl n = false := by simpa using hfl
        have hqp : ¬ q < p := fun h => by
          have := hi.done i n ((mem_take_iff hc.ord hq).2 h) hn hfl
          rw [hL] at this; cases this
        obtain ⟨T1, s1, β1, h1, h2⟩ := advance_to hc hdl (q := q) (by omega) (q - p) p (by omega) hi hr hah
        exact exec_chain hc hdl h1 h2 hq hn ho hins hfl hal hL hrd fun T' s' w' K' β' a' h hr' => ih _ hs' hcn' (by rw [hset]; exact h) hr' (by omega)
theorem region_draw {id : Nat} {ops : Array Oper} {dl : List DI} (hd : compD P N ops = some dl) {m : Nat} {Q : Fl → Tm → St → Prop} {T : Tm} {s : St} (h : RunD P dl T s (Q .normal)) {w : World} {K : Nat → Prop} {β : Nat → Loc} {a : Act} (hf : Fr N w K β s T a)
    (hm : m ≤ s.length) : (Code.region id ops true).wp P (After N m w K β s Q) a w := by
  unfold compD at hd
  split at hd
  · rename_i il hil
    simp only [] at hd
    split at hd
    · rename_i hck
      simp only [Option.some.injEq] at hd
      obtain ⟨c1, c2, c3, c4, c5, c6⟩ := hck
      have hc : Ch P (ancsOf [] (ops.toList.map bnds)) il (orderOf (ancsOf [] (ops.toList.map bnds)) il il.length []) :=
        ⟨Ord.of c3, c4, fun x n hx hfl d hd => by
          have := List.all_eq_true.1 c2 n (List.mem_of_getElem? hx)
          simpa [hfl, hd] using this, fun i hi => by
          have := List.all_eq_true.1 c1 i (List.mem_range.2 hi)
          simpa using this⟩
      obtain ⟨q1, q2⟩ := insL_get hil
      have hlen : il.length = ops.size := by simpa using q1
      refine wp_region_any c6 ?_
      have e0 : lsd (Array.replicate ops.size false) = fun _ => false := by
        funext i
        unfold lsd
        by_cases hi : i < ops.size <;> simp [hi]
      refine draw_any hc hd.symm hil c5 (Q := Q) ops.size (Array.replicate ops.size false) (by simp) (by unfold cnt; exact Nat.le_trans List.countP_le_length (by simp)) (p := 0) (T := T) (s := s) (K := K) (β := β) (bl := fun _ => 0) ?_ (by simpa using h) (Nat.zero_le _)
      rw [e0]
      have hs : Stays w K { w with drawn := w.drawn + 1 } K := ⟨fun _ h => h, fun _ _ => rfl⟩
      exact { down := (fun _ _ h => by cases h), lt := (fun _ h => by cases h), done := (fun _ _ h => by simp at h), lst := (fun _ _ h => by cases h), early := (fun _ _ h => by cases h), einj := (fun _ _ h => by cases h)
              cz := hf.cz.kd rfl, sz := hf.sz, df := hf.df, pend := (fun _ _ h => by simp at h)
              ext := { size := Nat.le_refl _, io := ⟨rfl, rfl, rfl, fun _ => Nat.le_succ _⟩, fix := fun _ _ => rfl, len := hm, frame := fun _ _ _ => rfl, kmono := fun _ h => h, knew := fun _ h => .inl h, onew := fun i h => .inr ⟨i, h, rfl⟩ }
              rt := fun i v hv => by
                rw [tget_filter] at hv
                split at hv
                · obtain ⟨u, h1, h2⟩ := hf.rt i v hv
                  exact ⟨u, h1, h2.mono hs (Nat.le_refl _) fun _ _ => rfl⟩
                · cases hv }
    · cases hd
  · cases hd
end
end Go.Proofs.YtipanehdmhachaaGreatDoor.H

set_option linter.unusedSimpArgs false
set_option linter.unusedVariables false
set_option linter.unusedSectionVars false
namespace Go.Proofs.YtipanehdmhachaaGreatDoor.H
variable [DR]

inductive Cd where
  | bad | skip | ops (l : List Ins) | opd (l : List DI) | seq (a b : Cd) | cond (x : Operand) (a b : Cd) | block (id : Nat) (c : Cd) | loop (c : Cd) | exit (id : Nat) | ret
def comp (P : Program) (N : Nat) : Code → Option Cd
  | .skip => some .skip
  | .region _ ops false => match insL P N ops ops.toList with
    | some l => some (.ops l)
    | none => some .bad
  | .region _ ops true => match compD P N ops with
    | some l => some (.opd l)
    | none => some .bad
  | .seq a b => match comp P N a, comp P N b with
    | some x, some y => some (.seq x y)
    | _, _ => none
  | .cond c a b => match comp P N a, comp P N b with
    | some x, some y => some (.cond c x y)
    | _, _ => none
  | .block id c => match comp P N c with
    | some x => some (.block id x)
    | none => none
  | .loop c => match comp P N c with
    | some x => some (.loop x)
    | none => none
  | .exit id => some (.exit id)
  | .ret => some .ret
  | _ => none
/-- What must hold for a piece of code to end so; the first 'm' blocks keep their places. -/
def AW (P : Program) (N m : Nat) (c : Cd) (T : Tm) (s : St) (Q : Fl → Tm → St → Prop) : Prop :=
  ∀ code, comp P N code = some c → ∀ w K β a, Fr N w K β s T a → m ≤ s.length → code.wp P (After N m w K β s Q) a w
section
variable {P : Program} {N m : Nat} {T : Tm} {s : St} {Q : Fl → Tm → St → Prop}
theorem After.mono {w : World} {K : Nat → Prop} {β : Nat → Loc} {Q' : Fl → Tm → St → Prop} (hq : ∀ fl T s, Q fl T s → Q' fl T s) : ∀ e a' w', After N m w K β s Q e a' w' → After N m w K β s Q' e a' w' :=
  fun e a' w' ⟨fl, T', s', K', β', h1, h2, h3⟩ => ⟨fl, T', s', K', β', h1, hq _ _ _ h2, h3⟩
theorem AW.mono {c : Cd} {Q' : Fl → Tm → St → Prop} (h : AW P N m c T s Q) (hq : ∀ fl T s, Q fl T s → Q' fl T s) : AW P N m c T s Q' :=
  fun code hc w K β a hf hm => wp_mono (h code hc w K β a hf hm) (After.mono hq)
/-- What ends a piece of code, from an earlier moment on. -/
theorem After.trans {w w1 : World} {K K1 : Nat → Prop} {β β1 : Nat → Loc} {s1 : St} (hx : Ext m w K β s w1 K1 β1 s1) : ∀ e a' w', After N m w1 K1 β1 s1 Q e a' w' → After N m w K β s Q e a' w' :=
  fun e a' w' ⟨fl, T', s', K', β', h1, h2, h3, h4⟩ => ⟨fl, T', s', K', β', h1, h2, h3, hx.trans (Nat.le_refl _) h4⟩
theorem comp_inv : ∀ {code : Code} {c : Cd}, comp P N code = some c → match c with
    | .bad => True
    | .skip => code = .skip
    | .ops l => ∃ id ops, code = .region id ops false ∧ insL P N ops ops.toList = some l
    | .opd l => ∃ id ops, code = .region id ops true ∧ compD P N ops = some l
    | .seq a b => ∃ x y, code = .seq x y ∧ comp P N x = some a ∧ comp P N y = some b
    | .cond o a b => ∃ x y, code = .cond o x y ∧ comp P N x = some a ∧ comp P N y = some b
    | .block id a => ∃ x, code = .block id x ∧ comp P N x = some a
    | .loop a => ∃ x, code = .loop x ∧ comp P N x = some a
    | .exit id => code = .exit id
    | .ret => code = .ret
  | .skip, c, h => by simp only [comp, Option.some.injEq] at h; subst h; rfl
  | .region id ops false, c, h => by
    simp only [comp] at h
    split at h
    · rename_i l hl; simp only [Option.some.injEq] at h; subst h; exact ⟨_, _, rfl, hl⟩
    · simp only [Option.some.injEq] at h; subst h; trivial
  | .region id ops true, c, h => by
    simp only [comp] at h
    split at h
    · rename_i l hl; simp only [Option.some.injEq] at h; subst h; exact ⟨_, _, rfl, hl⟩
    · simp only [Option.some.injEq] at h; subst h; trivial
  | .seq a b, c, h => by
    simp only [comp] at h
    split at h
    · rename_i x y h1 h2; simp only [Option.some.injEq] at h; subst h; exact ⟨_, _, rfl, h1, h2⟩
    · cases h
  | .cond o a b, c, h => by
    simp only [comp] at h
    split at h
    · rename_i x y h1 h2; simp only [Option.some.injEq] at h; subst h; exact ⟨_, _, rfl, h1, h2⟩
    · cases h
  | .block id a, c, h => by
    simp only [comp] at h
    split at h
    · rename_i x h1; simp only [Option.some.injEq] at h; subst h; exact ⟨_, rfl, h1⟩
    · cases h
  | .loop a, c, h => by
    simp only [comp] at h
    split at h
    · rename_i x h1; simp only [Option.some.injEq] at h; subst h; exact ⟨_, rfl, h1⟩
    · cases h
  | .exit id, c, h => by simp only [comp, Option.some.injEq] at h; subst h; rfl
  | .ret, c, h => by simp only [comp, Option.some.injEq] at h; subst h; rfl
  | .rangeFunc .., c, h => by simp [comp] at h
  | .scope .., c, h => by simp [comp] at h
  | .label .., c, h => by simp [comp] at h
  | .goto .., c, h => by simp [comp] at h
  | .refuse .., c, h => by simp [comp] at h
theorem AW.skip (h : Q .normal T s) : AW P N m .skip T s Q := by
  intro code hc w K β a hf hm
  obtain rfl := comp_inv hc
  exact wp_skip ⟨.normal, T, s, K, β, rfl, h, hf, .refl hm⟩
theorem AW.ret (h : Q .ret T s) : AW P N m .ret T s Q := by
  intro code hc w K β a hf hm
  obtain rfl := comp_inv hc
  exact wp_ret ⟨.ret, T, s, K, β, rfl, h, hf, .refl hm⟩
theorem AW.exit {id : Nat} (h : Q (.exit id) T s) : AW P N m (.exit id) T s Q := by
  intro code hc w K β a hf hm
  obtain rfl := comp_inv hc
  exact wp_exit ⟨.exit id, T, s, K, β, rfl, h, hf, .refl hm⟩
theorem AW.ops {l : List Ins} (h : RunI P l T s (Q .normal)) : AW P N m (.ops l) T s Q := by
  intro code hc w K β a hf hm
  obtain ⟨id, ops, rfl, hl⟩ := comp_inv hc
  exact region_plain hl h hf hm
theorem AW.draw {l : List DI} (h : RunD P l T s (Q .normal)) : AW P N m (.opd l) T s Q := by
  intro code hc w K β a hf hm
  obtain ⟨id, ops, rfl, hl⟩ := comp_inv hc
  exact region_draw hl h hf hm
/-- What a piece of code must do for what follows it. -/
def thenQ (M : Tm → St → Prop) (Q : Fl → Tm → St → Prop) : Fl → Tm → St → Prop
  | .normal => M
  | e => Q e
theorem AW.seq {c d : Cd} {M : Tm → St → Prop} (h : AW P N m c T s (thenQ M Q)) (hd : ∀ T s, M T s → AW P N m d T s Q) : AW P N m (.seq c d) T s Q := by
  intro code hc w K β a hf hm
  obtain ⟨x, y, rfl, h1, h2⟩ := comp_inv hc
  refine wp_seq (wp_mono (h _ h1 w K β a hf hm) fun e a' w' ⟨fl, T', s', K', β', e1, e2, e3, e4⟩ => ?_)
  subst e1
  cases fl with
  | normal => exact wp_mono (hd T' s' e2 _ h2 w' K' β' a' e3 e4.len) (After.trans e4)
  | ret => exact ⟨.ret, T', s', K', β', rfl, e2, e3, e4⟩
  | exit id => exact ⟨.exit id, T', s', K', β', rfl, e2, e3, e4⟩
/-- The same, what follows being walked at once. -/
theorem AW.seq' {c d : Cd} (h : AW P N m c T s (thenQ (fun T s => AW P N m d T s Q) Q)) : AW P N m (.seq c d) T s Q := AW.seq h fun _ _ h => h
theorem AW.cond {x : Operand} {c d : Cd} {v : AV} {b : Bool} (hx : opd T x = some v) (hb : asB v = some b) (ht : b = true → AW P N m c T s Q) (hf' : b = false → AW P N m d T s Q) : AW P N m (.cond x c d) T s Q := by
  intro code hc w K β a hf hm
  obtain ⟨y, z, rfl, h1, h2⟩ := comp_inv hc
  have hv := R_asB (opd_ok hf.rt hx) hb
  exact wp_cond_split hv (fun h => ht h _ h1 w K β a hf hm) (fun h => hf' h _ h2 w K β a hf hm)
def blockQ (id : Nat) (Q : Fl → Tm → St → Prop) : Fl → Tm → St → Prop
  | .exit j => if j = id then Q .normal else Q (.exit j)
  | e => Q e
theorem AW.block {id : Nat} {c : Cd} (h : AW P N m c T s (blockQ id Q)) : AW P N m (.block id c) T s Q := by
  intro code hc w K β a hf hm
  obtain ⟨x, rfl, h1⟩ := comp_inv hc
  refine wp_block (wp_mono (h _ h1 w K β a hf hm) fun e a' w' ⟨fl, T', s', K', β', e1, e2, e3, e4⟩ => ?_)
  subst e1
  cases fl with
  | normal => exact ⟨.normal, T', s', K', β', rfl, e2, e3, e4⟩
  | ret => exact ⟨.ret, T', s', K', β', rfl, e2, e3, e4⟩
  | exit j =>
    simp only [Fl.ex, Exit.inBlock]
    simp only [blockQ] at e2
    split
    · rename_i hj; rw [if_pos hj] at e2; exact ⟨.normal, T', s', K', β', rfl, e2, e3, e4⟩
    · rename_i hj; rw [if_neg hj] at e2; exact ⟨.exit j, T', s', K', β', rfl, e2, e3, e4⟩
theorem wp_loopN {c : Code} {Q : Exit → Act → World → Prop} (J : Nat → Act → World → Prop) (round : ∀ n a w, J n a w → c.wp P (Exit.then (fun a' w' => ∃ k, k < n ∧ J k a' w') Q) a w) {n : Nat} {a : Act} {w : World} (h0 : J n a w) : (Code.loop c).wp P Q a w := by
  intro b k cs
  have key : ∀ n a w, J n a w → ∃ e a' w', Q e a' w' ∧ Arrives P (lone (b.at a (.code c :: .inLoop c :: k)) cs w) b k cs e a' w' := by
    intro n
    induction n using Nat.strongRecOn with
    | _ n ih =>
      intro a w hI
      obtain ⟨e, a₁, w₁, hq, harr⟩ := round n a w hI b (.inLoop c :: k) cs
      cases e with
      | normal =>
        obtain ⟨k', hlt, hI₁⟩ := hq
        obtain ⟨e₂, a₂, w₂, hq₂, harr₂⟩ := ih k' hlt a₁ w₁ hI₁
        exact ⟨e₂, a₂, w₂, hq₂, .of_steps (Steps.trans harr (.one step_inLoop)) harr₂⟩
      | exit id => exact ⟨_, a₁, w₁, hq, .pass (x := .inLoop c) rfl (fun _ _ => .inl (by simp)) harr⟩
      | goto l => exact ⟨_, a₁, w₁, hq, .pass (x := .inLoop c) rfl (fun _ _ => .inl (by simp)) harr⟩
      | ret => exact ⟨_, a₁, w₁, hq, .pass (x := .inLoop c) rfl (fun _ _ => .inl (by simp)) harr⟩
      | panic ch => exact ⟨_, a₁, w₁, hq, .pass (x := .inLoop c) rfl (fun _ _ => .inl (by simp)) harr⟩
      | outgrown => exact ⟨_, a₁, w₁, hq, .pass (x := .inLoop c) rfl (fun _ _ => .inl (by simp)) harr⟩
  obtain ⟨e, a', w', hq, harr⟩ := key n a w h0
  exact ⟨e, a', w', hq, .of_steps (.one step_loop) harr⟩
/-- A loop: 'I n' holds ahead of each round, and the number gets less. -/
theorem AW.loop {c : Cd} (I : Nat → Tm → St → Prop) (n : Nat) (h0 : I n T s) (hr : ∀ n T s, I n T s → AW P N m c T s (thenQ (fun T' s' => ∃ k, k < n ∧ I k T' s') Q)) : AW P N m (.loop c) T s Q := by
  intro code hc w K β a hf hm
  obtain ⟨x, rfl, h1⟩ := comp_inv hc
  refine wp_loopN (fun k a' w' => ∃ T' s' K' β', I k T' s' ∧ Fr N w' K' β' s' T' a' ∧ Ext m w K β s w' K' β' s') (fun k a1 w1 ⟨T1, s1, K1, β1, i1, f1, x1⟩ => ?_) ⟨T, s, K, β, h0, hf, .refl hm⟩
  refine wp_mono (hr k T1 s1 i1 x h1 w1 K1 β1 a1 f1 x1.len) fun e a' w' ⟨fl, T', s', K', β', e1, e2, e3, e4⟩ => ?_
  subst e1
  cases fl with
  | normal =>
    obtain ⟨k', hk, hi⟩ := e2
    exact ⟨k', hk, T', s', K', β', hi, e3, x1.trans (Nat.le_refl _) e4⟩
  | ret => exact ⟨.ret, T', s', K', β', rfl, e2, e3, x1.trans (Nat.le_refl _) e4⟩
  | exit id => exact ⟨.exit id, T', s', K', β', rfl, e2, e3, x1.trans (Nat.le_refl _) e4⟩

/-! ### Less is known -/
/-- Temporaries and blocks may be forgotten. -/
theorem AW.forget {c : Cd} {T' : Tm} {s' : St} (h : AW P N m c T' s' Q) (hT : ∀ i v, tget T' i = some v → tget T i = some v) (hl : s'.length = s.length) (hs : ∀ (i : Nat) b, s'[i]? = some (some b) → s[i]? = some (some b)) : AW P N m c T s Q := by
  intro code hc w K β a hf hm
  have hcz : Cz w K β s' := ⟨fun i b hi => by rw [hl]; exact hf.cz.blk i b (hs i b hi), fun i j ⟨b, hi⟩ ⟨c, hj⟩ => hf.cz.inj i j ⟨b, hs i b hi⟩ ⟨c, hs j c hj⟩, fun i ⟨b, hi⟩ => hf.cz.dis i ⟨b, hs i b hi⟩, hf.cz.kb, hf.cz.gl⟩
  refine wp_mono (h code hc w K β a ⟨hcz, by rw [hl]; exact RT_sub hf.rt hT, hf.sz, hf.df⟩ (by omega)) (After.trans ?_)
  exact { size := Nat.le_refl _, io := .refl _, fix := fun _ _ => rfl, len := by omega, frame := fun _ _ _ => rfl, kmono := fun _ h => h, knew := fun _ h => .inl h, onew := fun i ⟨b, hi⟩ => .inr ⟨i, ⟨b, hs i b hi⟩, rfl⟩ }
end
end Go.Proofs.YtipanehdmhachaaGreatDoor.H

set_option linter.unusedSimpArgs false
set_option linter.unusedVariables false
set_option linter.unusedSectionVars false
namespace Go.Proofs.YtipanehdmhachaaGreatDoor.H
variable [DR]

/-! ### Names -/
mutual
def renA (r : Nat → Nat) : AV → AV
  | .ptr id i off => .ptr (r id) i off
  | .own id off len => .own (r id) off len
  | .osl id i off len => .osl (r id) i off len
  | .mp id => .mp (r id)
  | .agg l => .agg (renL r l)
  | .tup l => .tup (renL r l)
  | .fn f a c => .fn f (renL r a) (renL r c)
  | .d x => .d x
  | .ful k rows => .ful k rows
  | .pre k rows n => .pre k rows n
  | .elm k rows i off => .elm k rows i off
def renL (r : Nat → Nat) : List AV → List AV
  | [] => []
  | v :: l => renA r v :: renL r l
end
mutual
/-- It names only blocks below 'n'. -/
def belA (n : Nat) : AV → Bool
  | .ptr id _ _ => decide (id < n)
  | .own id _ _ => decide (id < n)
  | .osl id _ _ _ => decide (id < n)
  | .mp id => decide (id < n)
  | .agg l => belL n l
  | .tup l => belL n l
  | .fn _ a c => belL n a && belL n c
  | _ => true
def belL (n : Nat) : List AV → Bool
  | [] => true
  | v :: l => belA n v && belL n l
end
theorem renL_map (r : Nat → Nat) : ∀ l, renL r l = l.map (renA r)
  | [] => rfl
  | v :: l => by simp [renL, renL_map r l]
theorem belL_iff {n : Nat} : ∀ {l : List AV}, belL n l = true ↔ ∀ v ∈ l, belA n v = true
  | [] => by simp [belL]
  | v :: l => by simp [belL, belL_iff]
section
variable {w : World} {K : Nat → Prop} {β β' : Nat → Loc} {n n' : Nat} {r : Nat → Nat}
mutual
theorem R_unren (hb : ∀ i, i < n' → β' i = β (r i)) : ∀ {v : AV} {u : Value}, R w K β n (renA r v) u → belA n' v = true → R w K β' n' v u
  | .d x, u, h, _ => h
  | .ful k rows, u, h, _ => h
  | .pre k rows m, u, h, _ => h
  | .elm k rows i off, u, h, _ => h
  | .ptr id i off, u, h, hl => by
    have hl : id < n' := by simpa [belA] using hl
    simp only [renA, R] at h ⊢
    rw [hb _ hl]; exact ⟨hl, h.2⟩
  | .own id off len, u, h, hl => by
    have hl : id < n' := by simpa [belA] using hl
    simp only [renA, R] at h ⊢
    rw [hb _ hl]; exact ⟨hl, h.2⟩
  | .osl id i off len, u, h, hl => by
    have hl : id < n' := by simpa [belA] using hl
    simp only [renA, R] at h ⊢
    rw [hb _ hl]; exact ⟨hl, h.2⟩
  | .mp id, u, h, hl => by
    have hl : id < n' := by simpa [belA] using hl
    simp only [renA, R] at h ⊢
    rw [hb _ hl]; exact ⟨hl, h.2⟩
  | .agg l, u, h, hl => by
    simp only [renA, R] at h ⊢
    simp only [belA] at hl
    obtain ⟨us, h1, h2⟩ := h
    exact ⟨us, h1, RL_unren hb h2 hl⟩
  | .tup l, u, h, hl => by
    simp only [renA, R] at h ⊢
    simp only [belA] at hl
    obtain ⟨us, h1, h2⟩ := h
    exact ⟨us, h1, RL_unren hb h2 hl⟩
  | .fn f a c, u, h, hl => by
    simp only [renA, R] at h ⊢
    simp only [belA, Bool.and_eq_true] at hl
    obtain ⟨us, vs, h1, h2, h3⟩ := h
    exact ⟨us, vs, h1, RL_unren hb h2 hl.1, RL_unren hb h3 hl.2⟩
theorem RL_unren (hb : ∀ i, i < n' → β' i = β (r i)) : ∀ {l : List AV} {us : List Value}, RL w K β n (renL r l) us → belL n' l = true → RL w K β' n' l us
  | [], us, h, _ => h
  | v :: l, us, h, hl => by
    simp only [renL, RL] at h ⊢
    simp only [belL, Bool.and_eq_true] at hl
    obtain ⟨u, us', h1, h2, h3⟩ := h
    exact ⟨u, us', h1, R_unren hb h2 hl.1, RL_unren hb h3 hl.2⟩
end
mutual
theorem R_ren (hb : ∀ i, i < n' → β' i = β (r i)) (hr : ∀ i, i < n' → r i < n) : ∀ {v : AV} {u : Value}, R w K β' n' v u → R w K β n (renA r v) u
  | .d x, u, h => h
  | .ful k rows, u, h => h
  | .pre k rows m, u, h => h
  | .elm k rows i off, u, h => h
  | .ptr id i off, u, h => by
    simp only [renA, R] at h ⊢
    rw [← hb _ h.1]; exact ⟨hr _ h.1, h.2⟩
  | .own id off len, u, h => by
    simp only [renA, R] at h ⊢
    rw [← hb _ h.1]; exact ⟨hr _ h.1, h.2⟩
  | .osl id i off len, u, h => by
    simp only [renA, R] at h ⊢
    rw [← hb _ h.1]; exact ⟨hr _ h.1, h.2⟩
  | .mp id, u, h => by
    simp only [renA, R] at h ⊢
    rw [← hb _ h.1]; exact ⟨hr _ h.1, h.2⟩
  | .agg l, u, h => by
    simp only [renA, R] at h ⊢
    obtain ⟨us, h1, h2⟩ := h
    exact ⟨us, h1, RL_ren hb hr h2⟩
  | .tup l, u, h => by
    simp only [renA, R] at h ⊢
    obtain ⟨us, h1, h2⟩ := h
    exact ⟨us, h1, RL_ren hb hr h2⟩
  | .fn f a c, u, h => by
    simp only [renA, R] at h ⊢
    obtain ⟨us, vs, h1, h2, h3⟩ := h
    exact ⟨us, vs, h1, RL_ren hb hr h2, RL_ren hb hr h3⟩
theorem RL_ren (hb : ∀ i, i < n' → β' i = β (r i)) (hr : ∀ i, i < n' → r i < n) : ∀ {l : List AV} {us : List Value}, RL w K β' n' l us → RL w K β n (renL r l) us
  | [], us, h => h
  | v :: l, us, h => by
    simp only [renL, RL] at h ⊢
    obtain ⟨u, us', h1, h2, h3⟩ := h
    exact ⟨u, us', h1, R_ren hb hr h2, RL_ren hb hr h3⟩
end
def renB (r : Nat → Nat) : Blk → Blk
  | .cells T k rows => .cells T k (rows.map (renL r))
  | .mp es => .mp es
  | .it m c seen => .it (r m) c seen
def belB (n : Nat) : Blk → Bool
  | .cells _ _ rows => rows.all (belL n)
  | .mp _ => true
  | .it m _ _ => decide (m < n)
theorem renA_one (r : Nat → Nat) (v : AV) : (renA r v).one = v.one := by cases v <;> rfl
theorem flatten_ren (r : Nat → Nat) (rows : List (List AV)) : (rows.map (renL r)).flatten = renL r rows.flatten := by
  rw [renL_map, List.map_flatten]
  congr 1
  exact List.map_congr_left fun l _ => renL_map r l
theorem belB_flat {n : Nat} {rows : List (List AV)} (h : rows.all (belL n) = true) : belL n rows.flatten = true := by
  rw [belL_iff]
  intro v hv
  obtain ⟨l, hl, hv⟩ := List.mem_flatten.1 hv
  exact belL_iff.1 (List.all_eq_true.1 h l hl) v hv
theorem BlkOK_unren (hb : ∀ i, i < n' → β' i = β (r i)) {p : Loc} {b : Blk} (h : BlkOK w K β n p (renB r b)) (hl : belB n' b = true) : BlkOK w K β' n' p b := by
  cases b with
  | cells T k rows =>
    obtain ⟨pre, us, post, h1, h2, h3, h4, h5, h6, h7⟩ := h
    rw [flatten_ren] at h3 h6
    refine ⟨pre, us, post, h1, h2, RL_unren hb h3 (belB_flat hl), h4, h5, fun v hv => ?_, fun l hl' => ?_⟩
    · have := h6 (renA r v) (by rw [renL_map]; exact List.mem_map_of_mem hv)
      rw [renA_one] at this; exact this
    · have := h7 (renL r l) (List.mem_map_of_mem hl')
      rw [renL_map, List.length_map] at this; exact this
  | mp es => exact h
  | it m c seen =>
    simp only [belB, decide_eq_true_eq] at hl
    obtain ⟨h1, h2, h3⟩ := h
    exact ⟨by rw [hb m hl]; exact h1, hl, h3⟩
theorem BlkOK_ren (hb : ∀ i, i < n' → β' i = β (r i)) (hr : ∀ i, i < n' → r i < n) {p : Loc} {b : Blk} (h : BlkOK w K β' n' p b) : BlkOK w K β n p (renB r b) := by
  cases b with
  | cells T k rows =>
    obtain ⟨pre, us, post, h1, h2, h3, h4, h5, h6, h7⟩ := h
    refine ⟨pre, us, post, h1, h2, by rw [flatten_ren]; exact RL_ren hb hr h3, h4, h5, fun v hv => ?_, fun l hl' => ?_⟩
    · rw [flatten_ren, renL_map] at hv
      obtain ⟨x, hx, rfl⟩ := List.mem_map.1 hv
      rw [renA_one]; exact h6 x hx
    · obtain ⟨x, hx, rfl⟩ := List.mem_map.1 hl'
      rw [renL_map, List.length_map]; exact h7 x hx
  | mp es => exact h
  | it m c seen =>
    obtain ⟨h1, h2, h3⟩ := h
    exact ⟨by rw [← hb m h2]; exact h1, hr m h2, h3⟩
end
section
variable {P : Program} {N m : Nat} {T : Tm} {s : St} {Q : Fl → Tm → St → Prop}
/-- Other names for the blocks behind the first 'm', of which some may be given up; temporaries may be forgotten. -/
theorem AW.norm {c : Cd} (r : Nat → Nat) {T' : Tm} {s' : St} (h : AW P N m c T' s' Q) (hr : ∀ i, i < m → r i = i) (hm' : m ≤ s'.length) (hi : ∀ i j, Alive s' i → Alive s' j → i ≠ j → r i ≠ r j)
    (hT : ∀ i v, tget T' i = some v → belA s'.length v = true ∧ tget T i = some (renA r v)) (hs : ∀ (i : Nat) b, s'[i]? = some (some b) → belB s'.length b = true ∧ s[r i]? = some (some (renB r b))) : AW P N m c T s Q := by
  intro code hc w K β a hf hm
  have al : ∀ i, Alive s' i → Alive s (r i) := fun i ⟨b, hb⟩ => ⟨_, (hs i b hb).2⟩
  have hbb : ∀ i, i < s'.length → (fun i => β (r i)) i = β (r i) := fun _ _ => rfl
  have hcz : Cz w K (fun i => β (r i)) s' := ⟨fun i b hb => BlkOK_unren hbb (hf.cz.blk _ _ (hs i b hb).2) (hs i b hb).1, fun i j h1 h2 h3 => hf.cz.inj _ _ (al i h1) (al j h2) (hi i j h1 h2 h3), fun i h1 => hf.cz.dis _ (al i h1), hf.cz.kb, hf.cz.gl⟩
  refine wp_mono (h code hc w K _ a ⟨hcz, fun i v hv => ?_, hf.sz, hf.df⟩ hm') (After.trans ?_)
  · obtain ⟨u, h1, h2⟩ := hf.rt i _ (hT i v hv).2
    exact ⟨u, h1, R_unren hbb h2 (hT i v hv).1⟩
  · exact { size := Nat.le_refl _, io := .refl _, fix := fun i hi' => by rw [hr i hi'], len := hm', frame := fun _ _ _ => rfl, kmono := fun _ h => h, knew := fun _ h => .inl h, onew := fun i h1 => .inr ⟨r i, al i h1, rfl⟩ }

/-! ### Frozen blocks -/
mutual
def frzA (id k : Nat) (rows : List (List D)) : AV → AV
  | .own j off len => if j = id then .d (.lst k ((rows.drop off).take len)) else .own j off len
  | .agg l => .agg (frzL id k rows l)
  | .tup l => .tup (frzL id k rows l)
  | .fn f a c => .fn f (frzL id k rows a) (frzL id k rows c)
  | v => v
def frzL (id k : Nat) (rows : List (List D)) : List AV → List AV
  | [] => []
  | v :: l => frzA id k rows v :: frzL id k rows l
end
mutual
def fitA (id n : Nat) : AV → Prop
  | .own j off len => j = id → off + len ≤ n
  | .agg l => fitL id n l
  | .tup l => fitL id n l
  | .fn _ a c => fitL id n a ∧ fitL id n c
  | _ => True
def fitL (id n : Nat) : List AV → Prop
  | [] => True
  | v :: l => fitA id n v ∧ fitL id n l
end
/-- The rows of an own block, as a list. -/
theorem rowsA_list {w : World} {K : Nat → Prop} {β : Nat → Loc} {n b base k T off len : Nat} {rows : List (List D)} {pre us post : List Value} (h1 : w.heap[b]? = some (.cells (pre ++ us ++ post).toArray T (0, 0))) (h2 : pre.length = base)
    (h3 : RL w K β n (rowsA rows).flatten us) (h7 : ∀ r ∈ rowsA rows, r.length = k) (hK : K b) : RRows w K k ((rows.drop off).take len) ⟨b, base + off * k, none⟩ := by
  have hk : ∀ r ∈ rows, r.length = k := fun r hr => by
    have := h7 (r.map .d) (List.mem_map_of_mem hr)
    simpa using this
  have e : (rowsA rows).flatten = rows.flatten.map .d := by simp [rowsA, List.map_flatten]
  rw [e] at h3
  refine RRows_take (RRows_of fun i r hi => ?_) _
  rw [List.getElem?_drop] at hi
  refine ⟨hk r (List.mem_of_getElem? hi), RCells_of fun c d hc => ?_⟩
  have hd := flatten_get hk hi hc
  obtain ⟨u, hu, hR⟩ := RL_get h3 (v := .d d) (by rw [List.getElem?_map, hd]; rfl)
  refine ⟨by rw [add_block]; exact hK, u, ?_, by simpa only [R] using hR⟩
  rw [Addr_add_add, add_addr, Nat.add_assoc]
  have := cell_own h1 h2 hu
  rw [show off * k + (i * k + c) = (off + i) * k + c by rw [Nat.add_mul]; omega]
  exact this
section
variable {w : World} {K K' : Nat → Prop} {β : Nat → Loc} {n id k : Nat} {rows : List (List D)}
/-- What makes a list of an own slice. -/
structure FrzH (w : World) (K' : Nat → Prop) (β : Nat → Loc) (id k : Nat) (rows : List (List D)) : Prop where
  kk : (β id).k = k
  rr : ∀ off len, RRows w K' k ((rows.drop off).take len) ⟨(β id).b, (β id).base + off * k, none⟩
mutual
theorem R_frz (hK : Stays w K w K') (hf : FrzH w K' β id k rows) : ∀ {v : AV} {u : Value}, R w K β n v u → fitA id rows.length v → R w K' β n (frzA id k rows v) u
  | .d x, u, h, _ => h.mono hK (Nat.le_refl _) fun _ _ => rfl
  | .ful _ _, u, h, _ => h.mono hK (Nat.le_refl _) fun _ _ => rfl
  | .pre .., u, h, _ => h.mono hK (Nat.le_refl _) fun _ _ => rfl
  | .elm .., u, h, _ => h.mono hK (Nat.le_refl _) fun _ _ => rfl
  | .ptr .., u, h, _ => h.mono hK (Nat.le_refl _) fun _ _ => rfl
  | .osl .., u, h, _ => h.mono hK (Nat.le_refl _) fun _ _ => rfl
  | .mp .., u, h, _ => h.mono hK (Nat.le_refl _) fun _ _ => rfl
  | .own j off len, u, h, hfit => by
    simp only [frzA]
    split
    · rename_i e
      subst e
      simp only [fitA, forall_const] at hfit
      simp only [R] at h
      obtain ⟨_, x, c, rfl, h2, h3, h4⟩ := h
      have hl : ((rows.drop off).take len).length = len := by simp; omega
      simp only [R, RD]
      refine ⟨some x, c, by rw [hl], by rw [hl]; exact h2, ?_⟩
      by_cases hc : 0 < c
      · right
        refine ⟨x, rfl, ?_⟩
        rw [h4 hc, hf.kk]; exact hf.rr off len
      · left; rw [hl]; omega
    · exact h.mono hK (Nat.le_refl _) fun _ _ => rfl
  | .agg l, u, h, hfit => by
    simp only [frzA, R] at h ⊢
    obtain ⟨us, h1, h2⟩ := h
    exact ⟨us, h1, RL_frz hK hf h2 hfit⟩
  | .tup l, u, h, hfit => by
    simp only [frzA, R] at h ⊢
    obtain ⟨us, h1, h2⟩ := h
    exact ⟨us, h1, RL_frz hK hf h2 hfit⟩
  | .fn f a c, u, h, hfit => by
    simp only [frzA, R] at h ⊢
    simp only [fitA] at hfit
    obtain ⟨us, vs, h1, h2, h3⟩ := h
    exact ⟨us, vs, h1, RL_frz hK hf h2 hfit.1, RL_frz hK hf h3 hfit.2⟩
theorem RL_frz (hK : Stays w K w K') (hf : FrzH w K' β id k rows) : ∀ {l : List AV} {us : List Value}, RL w K β n l us → fitL id rows.length l → RL w K' β n (frzL id k rows l) us
  | [], us, h, _ => h
  | v :: l, us, h, hfit => by
    simp only [frzL, RL] at h ⊢
    simp only [fitL] at hfit
    obtain ⟨u, us', h1, h2, h3⟩ := h
    exact ⟨u, us', h1, R_frz hK hf h2 hfit.1, RL_frz hK hf h3 hfit.2⟩
end
end
theorem FrzH.of {w : World} {K K' : Nat → Prop} {β : Nat → Loc} {id T k : Nat} {rows : List (List D)} (hz : Cz w K β s) (hid : s[id]? = some (some (.cells T k (rowsA rows)))) (hK : Stays w K w K') (hb : K' (β id).b) : FrzH w K' β id k rows := by
  obtain ⟨pre, us, post, e1, e2, e3, e4, e5, e6, e7⟩ := hz.cells hid
  exact ⟨e5, fun off len => rowsA_list e1 e2 (e3.mono hK (Nat.le_refl _) fun _ _ => rfl) e7 hb⟩
/-- An own block is given up to lists. -/
theorem AW.freeze {c : Cd} {id t k : Nat} {rows : List (List D)} (hid : s[id]? = some (some (.cells t k (rowsA rows)))) {T' : Tm} (h : AW P N m c T' (s.set id none) Q)
    (hT : ∀ i v', tget T' i = some v' → ∃ v, tget T i = some v ∧ v' = frzA id k rows v ∧ fitA id rows.length v) : AW P N m c T s Q := by
  intro code hc w K β a hf hm
  have hal : Alive s id := ⟨_, hid⟩
  let K' : Nat → Prop := fun b => K b ∨ b = (β id).b
  have hK : Stays w K w K' := ⟨fun _ h => .inl h, fun _ _ => rfl⟩
  have hF : FrzH w K' β id k rows := .of hf.cz hid hK (.inr rfl)
  have get : ∀ {i b}, (s.set id none)[i]? = some (some b) → i ≠ id ∧ s[i]? = some (some b) := fun {i b} h => by
    rw [List.getElem?_set] at h
    split at h
    · split at h <;> simp at h
    · rename_i e; exact ⟨fun e' => e e'.symm, h⟩
  have hcz : Cz w K' β (s.set id none) := by
    refine ⟨fun i b hi => ?_, fun i j ⟨b, hi⟩ ⟨c, hj⟩ => hf.cz.inj i j ⟨b, (get hi).2⟩ ⟨c, (get hj).2⟩, fun i ⟨b, hi⟩ hk => ?_, fun b hb => ?_, hf.cz.gl.mono hK⟩
    · rw [List.length_set]; exact hf.cz.old hK (Nat.le_refl _) (fun _ _ => rfl) (get hi).2 rfl
    · rcases hk with hk | hk
      · exact hf.cz.dis i ⟨b, (get hi).2⟩ hk
      · exact hf.cz.inj i id ⟨b, (get hi).2⟩ hal (get hi).1 hk
    · rcases hb with hb | hb
      · exact hf.cz.kb b hb
      · rw [hb]; exact hf.cz.lt hal
  refine wp_mono (h code hc w K' β a ⟨hcz, fun i v hv => ?_, hf.sz, hf.df⟩ (by simpa using hm)) (After.trans ?_)
  · obtain ⟨v0, h1, rfl, h3⟩ := hT i v hv
    obtain ⟨u, g1, g2⟩ := hf.rt i v0 h1
    exact ⟨u, g1, by rw [List.length_set]; exact R_frz hK hF g2 h3⟩
  · exact { size := Nat.le_refl _, io := .refl _, fix := fun _ _ => rfl, len := by simpa using hm, frame := fun _ _ _ => rfl, kmono := fun _ h => .inl h
            knew := fun b hb => by
              rcases hb with hb | hb
              · exact .inl hb
              · exact .inr (.inr ⟨id, hal, hb.symm⟩)
            onew := fun i ⟨b, hi⟩ => .inr ⟨i, ⟨b, (get hi).2⟩, rfl⟩ }
end
end Go.Proofs.YtipanehdmhachaaGreatDoor.H

set_option linter.unusedSimpArgs false
set_option linter.unusedVariables false
set_option linter.unusedSectionVars false
namespace Go.Proofs.YtipanehdmhachaaGreatDoor.H
variable [DR]

/-! ### Results -/
inductive RC where
  | tmp (t : Nat) | cell (t : Nat) (sz : Option Nat)
def rcOf (P : Program) : ResultVar → Option RC
  | .tmp t => some (.tmp t)
  | .cell a T => match rdT P T with
    | some sz => some (.cell a sz)
    | none => none
def rcsOf (P : Program) : List ResultVar → Option (List RC)
  | [] => some []
  | x :: l => match rcOf P x, rcsOf P l with
    | some y, some r => some (y :: r)
    | _, _ => none
def resV (T : Tm) (s : St) : RC → PA
  | .tmp t => match tget T t with
    | some v => some (True, v)
    | none => none
  | .cell t sz => match tget T t with
    | some (.ptr id i off) => loadA s sz (.ptr id i off)
    | _ => none
def resL (T : Tm) (s : St) : List RC → Option (Prop × List AV)
  | [] => some (True, [])
  | x :: l => match resV T s x, resL T s l with
    | some (C, v), some (D, r) => some (C ∧ D, v :: r)
    | _, _ => none
def pack : List AV → AV
  | [v] => v
  | l => .tup l
def RetQ (rs : List RC) (Q : AV → St → Prop) (T : Tm) (s : St) : Prop := match resL T s rs with
  | some (C, l) => C ∧ Q (pack l) s
  | none => False
def argT : Nat → List AV → Tm
  | _, [] => []
  | i, v :: l => (i, v) :: argT (i + 1) l
section
variable {P : Program} {w : World} {K : Nat → Prop} {β : Nat → Loc} {s : St}
def rsem (ts : Array Value) : ResultVar → Sem Value
  | .tmp t => pure (ts.getD t undef)
  | .cell a t => do loadVar t (← asAddr (ts.getD a undef))
theorem results_eq (fn : Func) (ts : Array Value) : results fn ts = (do let vs ← fn.results.mapM (rsem ts); pure (if h : vs.size = 1 then vs[0] else .tuple vs)) := by
  have : (fun r => match r with | .tmp t => (pure (ts.getD t undef) : Sem Value) | .cell a t => do loadVar t (← asAddr (ts.getD a undef)) : ResultVar → Sem Value) = rsem ts := by funext r; cases r <;> rfl
  rw [← this]; rfl
theorem resL_ok {T : Tm} {a : Act} (hz : Cz w K β s) (hT : RT w K β s.length T a) : ∀ {rv : List ResultVar} {rs : List RC} {C : Prop} {l : List AV}, rcsOf P rv = some rs → resL T s rs = some (C, l) → C →
    ∃ us, (rv.mapM (rsem a.tmps)).run P w = .ok us w ∧ RL w K β s.length l us
  | [], rs, C, l, h1, h2, hC => by
    simp only [rcsOf, Option.some.injEq] at h1; subst h1
    simp only [resL, Option.some.injEq, Prod.mk.injEq] at h2; obtain ⟨rfl, rfl⟩ := h2
    exact ⟨[], by simp, by simp [RL]⟩
  | x :: rv, rs, C, l, h1, h2, hC => by
    simp only [rcsOf] at h1
    split at h1
    · rename_i y r hy hr
      simp only [Option.some.injEq] at h1; subst h1
      simp only [resL] at h2
      split at h2
      · rename_i C1 v D1 l' hv hl'
        simp only [Option.some.injEq, Prod.mk.injEq] at h2; obtain ⟨rfl, rfl⟩ := h2
        obtain ⟨us, e1, e2⟩ := resL_ok hz hT hr hl' hC.2
        have : ∃ u, (rsem a.tmps x).run P w = .ok u w ∧ R w K β s.length v u := by
          cases x with
          | tmp t =>
            simp only [rcOf, Option.some.injEq] at hy; subst hy
            simp only [resV] at hv
            split at hv
            · rename_i v' hv'
              simp only [Option.some.injEq, Prod.mk.injEq] at hv; obtain ⟨rfl, rfl⟩ := hv
              obtain ⟨u, g1, g2⟩ := hT t v' hv'
              exact ⟨u, by simp [rsem, Array.getD_eq_getD_getElem?, g1], g2⟩
            · cases hv
          | cell t T' =>
            simp only [rcOf] at hy
            split at hy
            · rename_i sz hsz
              simp only [Option.some.injEq] at hy; subst hy
              simp only [resV] at hv
              split at hv
              · rename_i id i off hv'
                obtain ⟨u, g1, g2⟩ := hT t _ hv'
                obtain ⟨u', g3, g4⟩ := load_ok (P := P) hsz hv hC.1 hz g2
                have g2' := g2
                simp only [R] at g2'
                refine ⟨u', ?_, g4⟩
                rw [g2'.2] at g3 g1
                simp only [Instr.loadAt, Instr.sureAddr] at g3
                simp [rsem, Array.getD_eq_getD_getElem?, g1, asAddr]
                simpa using g3
              · cases hv
            · cases hy
        obtain ⟨u, g1, g2⟩ := this
        refine ⟨u :: us, ?_, by simp only [RL]; exact ⟨u, us, rfl, g2, e2⟩⟩
        rw [List.mapM_cons]
        simp only [Sem.run_bind, g1, Result.andThen_ok, e1, Sem.run_pure]
      · cases h2
    · cases h1
theorem argT_get : ∀ {l : List AV} {k i : Nat} {v : AV}, tget (argT k l) i = some v → k ≤ i ∧ l[i - k]? = some v
  | [], k, i, v, h => by simp [argT, tget] at h
  | x :: l, k, i, v, h => by
    simp only [argT, tget] at h
    by_cases hk : k = i
    · subst hk; simp at h; subst h; simp
    · rw [beqN hk] at h
      simp only [cond_false] at h
      obtain ⟨h1, h2⟩ := argT_get h
      exact ⟨by omega, by rw [show i - k = (i - (k + 1)) + 1 by omega]; simpa using h2⟩
/-- A function of the program: its compact code, its results. -/
structure FnOK (P : Program) (f N : Nat) (c : Cd) (rs : List RC) : Prop where
  ex : ∃ fn code, P.funcs[f]? = some fn ∧ fn.body = some code ∧ comp P N code = some c ∧ rcsOf P fn.results.toList = some rs ∧ N = fn.ntmps
def fnC (P : Program) (f : Nat) : Option (Nat × Cd × List RC) := match P.funcs[f]? with
  | some fn => match fn.body with
    | some code => match comp P fn.ntmps code, rcsOf P fn.results.toList with
      | some c, some rs => some (fn.ntmps, c, rs)
      | _, _ => none
    | none => none
  | none => none
theorem FnOK.of {f N : Nat} {c : Cd} {rs : List RC} (h : fnC P f = some (N, c, rs)) : FnOK P f N c rs := by
  unfold fnC at h
  split at h
  · rename_i fn hf
    split at h
    · rename_i code hb
      split at h
      · rename_i c' rs' h1 h2
        simp only [Option.some.injEq, Prod.mk.injEq] at h; obtain ⟨rfl, rfl, rfl⟩ := h
        exact ⟨fn, code, hf, hb, h1, h2, rfl⟩
      · cases h
    · cases h
  · cases h
def callQ (rs : List RC) (Q : AV → St → Prop) : Fl → Tm → St → Prop
  | .normal => RetQ rs Q
  | .ret => RetQ rs Q
  | .exit _ => fun _ _ => False
theorem ACalls.of {f N : Nat} {c : Cd} {rs : List RC} (hf : FnOK P f N c rs) {vs : List AV} {Q : AV → St → Prop} (hN : vs.length ≤ N) (h : AW P N s.length c (argT 0 vs) s (callQ rs Q)) : ACalls P f vs s Q := by
  obtain ⟨fn, code, h1, h2, h3, h4, rfl⟩ := hf.ex
  intro w K β us hz hr
  have hul := RL_length hr
  refine calls_of_wp h1 h2 (wp_mono (h code h3 w K β _ ⟨hz, fun i v hv => ?_, by simp; omega, rfl⟩ (Nat.le_refl _)) ?_)
  · obtain ⟨_, hv⟩ := argT_get hv
    obtain ⟨u, g1, g2⟩ := RL_get hr hv
    have hlt := (List.getElem?_eq_some_iff.1 g1).1
    refine ⟨u, ?_, g2⟩
    rw [Array.getElem?_append_left (by simpa using hlt)]
    simpa using g1
  · rintro e a' w' ⟨fl, T', s', K', β', rfl, hq, hfr, hx⟩
    have fin : RetQ rs Q T' s' → (a'.defers = [] ∧ ∃ v, (results fn a'.tmps).run P w' = .ok v w' ∧ ∃ v0 s0 K0 β0 u, Ending.returned v = .returned u ∧ Q v0 s0 ∧ Cz w' K0 β0 s0 ∧ R w' K0 β0 s0.length v0 u ∧ Ext s.length w K β s w' K0 β0 s0) := by
      intro hret
      unfold RetQ at hret
      split at hret
      · rename_i C l hl
        obtain ⟨us', e1, e2⟩ := resL_ok (P := P) hfr.cz hfr.rt h4 hl hret.1
        refine ⟨hfr.df, ?_⟩
        have hm : (fn.results.mapM (rsem a'.tmps)).run P w' = .ok us'.toArray w' := by
          rw [Array.mapM_eq_mapM_toList]
          simp only [Sem.run_map, e1, Result.andThen_ok]
        have hul' := RL_length e2
        match l, us', e2, hul' with
        | [v], [u], e2, _ =>
          simp only [RL] at e2
          obtain ⟨u', _, hu, hR, rfl⟩ := e2
          simp only [List.cons.injEq, and_true] at hu; subst hu
          exact ⟨u, by simp only [results_eq, Sem.run_bind, hm, Result.andThen_ok]; simp, v, s', K', β', u, rfl, hret.2, hfr.cz, hR, hx⟩
        | [], [], e2, _ => exact ⟨.tuple #[], by simp only [results_eq, Sem.run_bind, hm, Result.andThen_ok]; simp, .tup [], s', K', β', _, rfl, hret.2, hfr.cz, by simp only [R]; exact ⟨[], rfl, e2⟩, hx⟩
        | x :: y :: l, u :: v :: us, e2, _ => exact ⟨.tuple (u :: v :: us).toArray, by simp only [results_eq, Sem.run_bind, hm, Result.andThen_ok]; simp, .tup (x :: y :: l), s', K', β', _, rfl, hret.2, hfr.cz, by simp only [R]; exact ⟨_, rfl, e2⟩, hx⟩
      · exact hret.elim
    cases fl with
    | normal => exact fin hq
    | ret => exact fin hq
    | exit id => exact hq.elim
end
end Go.Proofs.YtipanehdmhachaaGreatDoor.H

set_option linter.unusedSimpArgs false
set_option linter.unusedVariables false
set_option linter.unusedSectionVars false
namespace Go.Proofs.YtipanehdmhachaaGreatDoor.H
variable [DR]

/-- The callee's names for blocks in the caller's. -/
def nmR (ft : List Nat) (n : Nat) (i : Nat) : Nat := if i < ft.length then ft.getD i 0 else n + (i - ft.length)
/-- The caller's blocks behind the call. -/
def backS (ft : List Nat) (s : St) (sc : St) : St :=
  ((List.range s.length).map fun j => match ft.idxOf? j with
    | some i => (match sc[i]? with | some (some b) => some (renB (nmR ft s.length) b) | _ => none)
    | none => match s[j]? with | some b => b | none => none) ++
  (sc.drop ft.length).map fun b => match b with
    | some b => some (renB (nmR ft s.length) b)
    | none => none
/-- What the callee is given. -/
structure Given (ft : List Nat) (s : St) (vs : List AV) (sc : St) (vc : List AV) : Prop where
  len : sc.length = ft.length
  lt : ∀ i ∈ ft, i < s.length
  nd : ft.Nodup
  blk : ∀ (i : Nat) b, sc[i]? = some (some b) → belB sc.length b = true ∧ s[ft.getD i 0]? = some (some (renB (nmR ft s.length) b))
  bel : belL sc.length vc = true
  args : vs = renL (nmR ft s.length) vc
theorem idxOf?_some {ft : List Nat} (hn : ft.Nodup) {i j : Nat} (h : ft.idxOf? j = some i) : ft[i]? = some j := by
  rw [List.idxOf?_eq_some_iff] at h
  obtain ⟨h1, h2⟩ := h
  have : ft[i] = j := by simpa using h2.1
  rw [← this]; simp [h1]
theorem nd_inj {ft : List Nat} (hn : ft.Nodup) {i j x : Nat} (h1 : ft[i]? = some x) (h2 : ft[j]? = some x) : i = j := by
  obtain ⟨a1, b1⟩ := List.getElem?_eq_some_iff.1 h1
  obtain ⟨a2, b2⟩ := List.getElem?_eq_some_iff.1 h2
  rcases Nat.lt_trichotomy i j with h | h | h
  · exact absurd (b1.trans b2.symm) ((List.pairwise_iff_getElem.1 hn) i j a1 a2 h)
  · exact h
  · exact absurd (b2.trans b1.symm) ((List.pairwise_iff_getElem.1 hn) j i a2 a1 h)
theorem ACalls.frame {P : Program} {f : FuncId} {ft : List Nat} {s sc : St} {vs vc : List AV} {Qc Q : AV → St → Prop} (h : ACalls P f vc sc Qc) (hg : Given ft s vs sc vc)
    (hq : ∀ v s', Qc v s' → Q (renA (nmR ft s.length) v) (backS ft s s')) : ACalls P f vs s Q := by
  intro w K β us hz hr
  have ftl : ∀ {i : Nat}, i < ft.length → ft[i]? = some (ft.getD i 0) := fun hi => getD_lt hi
  have nmlt : ∀ i, i < sc.length → nmR ft s.length i = ft.getD i 0 := fun i hi => by unfold nmR; rw [if_pos (by rw [← hg.len]; exact hi)]
  let βc : Nat → Loc := fun i => β (nmR ft s.length i)
  have hbc : ∀ i, i < sc.length → βc i = β (nmR ft s.length i) := fun _ _ => rfl
  have alc : ∀ i, Alive sc i → Alive s (nmR ft s.length i) := fun i ⟨b, hb⟩ => by
    rw [nmlt i (alive_lt ⟨b, hb⟩)]
    exact ⟨_, (hg.blk i b hb).2⟩
  have ninj : ∀ i j, i < sc.length → j < sc.length → i ≠ j → nmR ft s.length i ≠ nmR ft s.length j := fun i j hi hj hij e => by
    rw [nmlt i hi, nmlt j hj] at e
    exact hij (nd_inj hg.nd (ftl (by rw [← hg.len]; exact hi)) (e ▸ ftl (by rw [← hg.len]; exact hj)))
  have hcz : Cz w K βc sc := by
    refine ⟨fun i b hb => ?_, fun i j h1 h2 h3 => hz.inj _ _ (alc i h1) (alc j h2) (ninj i j (alive_lt h1) (alive_lt h2) h3), fun i h1 => hz.dis _ (alc i h1), hz.kb, hz.gl⟩
    have hil := alive_lt ⟨b, hb⟩
    have := hz.blk _ _ (hg.blk i b hb).2
    rw [← nmlt i hil] at this
    exact BlkOK_unren hbc this (hg.blk i b hb).1
  have hrc : RL w K βc sc.length vc us := by
    rw [hg.args] at hr
    exact RL_unren hbc hr hg.bel
  refine (h w K βc us hcz hrc).mono fun e w' ⟨v, sc', K', βc', u, e1, q, hz', hR, hx⟩ => ?_
  subst e1
  have hst : Stays w K w' K' := hx.stays hcz
  let β' : Nat → Loc := fun j => if j < s.length then β j else βc' (ft.length + (j - s.length))
  let r := nmR ft s.length
  have hlen' : (backS ft s sc').length = s.length + (sc'.length - ft.length) := by simp [backS]
  have hle : ft.length ≤ sc'.length := by rw [← hg.len]; exact hx.len
  have hrlt : ∀ i, i < sc'.length → r i < (backS ft s sc').length := fun i hi => by
    show nmR ft s.length i < _
    rw [hlen']
    unfold nmR
    split
    · rename_i h1
      have := hg.lt (ft.getD i 0) (List.mem_of_getElem? (ftl h1))
      omega
    · omega
  have hbb : ∀ i, i < sc'.length → βc' i = β' (r i) := fun i hi => by
    show βc' i = β' (nmR ft s.length i)
    by_cases h1 : i < ft.length
    · have h2 : nmR ft s.length i < s.length := by
        rw [nmlt i (by rw [hg.len]; exact h1)]
        exact hg.lt _ (List.mem_of_getElem? (ftl h1))
      have h3 : β' (nmR ft s.length i) = β (nmR ft s.length i) := if_pos h2
      rw [h3, hx.fix i (by rw [hg.len]; exact h1)]
    · have h2 : nmR ft s.length i = s.length + (i - ft.length) := by unfold nmR; rw [if_neg h1]
      have h3 : β' (s.length + (i - ft.length)) = βc' (ft.length + (s.length + (i - ft.length) - s.length)) := if_neg (by omega)
      rw [h2, h3]; congr 1; omega
  -- a block of the caller's behind the call
  have get : ∀ {j b}, (backS ft s sc')[j]? = some (some b) → (j < s.length ∧ j ∉ ft ∧ s[j]? = some (some b)) ∨ ∃ i b', i < sc'.length ∧ r i = j ∧ sc'[i]? = some (some b') ∧ b = renB r b' := by
    intro j b hb
    unfold backS at hb
    by_cases hj : j < s.length
    · rw [List.getElem?_append_left (by simpa using hj)] at hb
      rw [List.getElem?_map, List.getElem?_range hj] at hb
      simp only [Option.map_some, Option.some.injEq] at hb
      split at hb
      · rename_i i hi
        have hfi := idxOf?_some hg.nd hi
        have hil := (List.getElem?_eq_some_iff.1 hfi).1
        split at hb
        · rename_i b' hb'
          simp only [Option.some.injEq] at hb
          right
          refine ⟨i, b', (List.getElem?_eq_some_iff.1 hb').1, ?_, hb', hb.symm⟩
          show nmR ft s.length i = j
          rw [nmlt i (by rw [hg.len]; exact hil)]
          have := ftl hil
          rw [hfi] at this; simpa using this.symm
        · cases hb
      · rename_i hi
        left
        rw [List.idxOf?_eq_none_iff] at hi
        split at hb
        · rename_i b' hb'; subst hb; exact ⟨hj, hi, hb'⟩
        · cases hb
    · rw [List.getElem?_append_right (by simpa using hj)] at hb
      simp only [List.length_map, List.length_range, List.getElem?_map, List.getElem?_drop, Option.map_eq_some_iff] at hb
      obtain ⟨x, hx', hb⟩ := hb
      split at hb
      · rename_i b'
        simp only [Option.some.injEq] at hb
        right
        refine ⟨ft.length + (j - s.length), b', (List.getElem?_eq_some_iff.1 hx').1, ?_, hx', hb.symm⟩
        show nmR ft s.length _ = j
        unfold nmR
        rw [if_neg (by omega)]; omega
      · cases hb
  have al : ∀ j, Alive (backS ft s sc') j → (j < s.length ∧ j ∉ ft ∧ Alive s j) ∨ ∃ i, i < sc'.length ∧ r i = j ∧ Alive sc' i := fun j ⟨b, hb⟩ => by
    rcases get hb with ⟨h1, h2, h3⟩ | ⟨i, b', h1, h2, h3, _⟩
    · exact .inl ⟨h1, h2, b, h3⟩
    · exact .inr ⟨i, h1, h2, b', h3⟩
  have hβ' : ∀ {j}, j < s.length → β' j = β j := fun hj => if_pos hj
  have nown : ∀ j, Alive s j → j ∉ ft → ∀ i, Alive sc i → (βc i).b ≠ (β j).b := fun j hj hn i hi => by
    refine hz.inj _ _ (alc i hi) hj fun e => hn ?_
    have hil := alive_lt hi
    rw [nmlt i hil] at e
    rw [← e]; exact List.mem_of_getElem? (ftl (by rw [← hg.len]; exact hil))
  refine ⟨renA r v, backS ft s sc', K', β', u, rfl, hq v sc' q, ⟨?_, ?_, ?_, hz'.kb, hz'.gl⟩, R_ren hbb hrlt hR, ?_⟩
  · intro j b hb
    rcases get hb with ⟨h1, h2, h3⟩ | ⟨i, b', h1, h2, h3, rfl⟩
    · rw [hβ' h1]
      exact hz.old hst (by rw [hlen']; omega) (fun i hi => hβ' hi) h3 (hx.frame _ (hz.lt ⟨b, h3⟩) fun i hi => nown j ⟨b, h3⟩ h2 i hi)
    · rw [← h2, ← hbb i h1]
      exact BlkOK_ren hbb hrlt (hz'.blk i b' h3)
  · intro j k hj hk hjk
    have apart : ∀ j, j < s.length → j ∉ ft → Alive s j → ∀ i, i < sc'.length → Alive sc' i → (β j).b ≠ (βc' i).b := fun j h1 h2 h3 i h4 h5 e => by
      rcases hx.onew i h5 with h6 | ⟨k, hk, h6⟩
      · have := hz.lt h3; omega
      · exact nown j h3 h2 k hk (h6.trans e.symm)
    rcases al j hj with ⟨h1, h2, h3⟩ | ⟨i, h1, h2, h3⟩ <;> rcases al k hk with ⟨g1, g2, g3⟩ | ⟨i', g1, g2, g3⟩
    · rw [hβ' h1, hβ' g1]; exact hz.inj j k h3 g3 hjk
    · rw [hβ' h1, ← g2, ← hbb i' g1]; exact apart j h1 h2 h3 i' g1 g3
    · rw [hβ' g1, ← h2, ← hbb i h1]; exact fun e => apart k g1 g2 g3 i h1 h3 e.symm
    · rw [← h2, ← g2, ← hbb i h1, ← hbb i' g1]; exact hz'.inj i i' h3 g3 fun e => hjk (by rw [← h2, ← g2, e])
  · intro j hj hk
    rcases al j hj with ⟨h1, h2, h3⟩ | ⟨i, h1, h2, h3⟩
    · rw [hβ' h1] at hk
      rcases hx.knew _ hk with h | h | ⟨i, hi, h⟩
      · exact hz.dis j h3 h
      · have := hz.lt h3; omega
      · exact nown j h3 h2 i hi h
    · rw [← h2, ← hbb i h1] at hk; exact hz'.dis i h3 hk
  · exact { size := hx.size, io := hx.io, fix := fun i hi => hβ' hi, len := by rw [hlen']; omega, kmono := hx.kmono
            frame := fun b hb hn => hx.frame b hb fun i hi => hn _ (alc i hi)
            knew := fun b hb => by
              rcases hx.knew b hb with h | h | ⟨i, hi, h⟩
              · exact .inl h
              · exact .inr (.inl h)
              · exact .inr (.inr ⟨_, alc i hi, h⟩)
            onew := fun j hj => by
              rcases al j hj with ⟨h1, h2, h3⟩ | ⟨i, h1, h2, h3⟩
              · rw [hβ' h1]; exact .inr ⟨j, h3, rfl⟩
              · rw [← h2, ← hbb i h1]
                rcases hx.onew i h3 with h | ⟨k, hk, h⟩
                · exact .inl h
                · exact .inr ⟨_, alc k hk, h⟩ }
end Go.Proofs.YtipanehdmhachaaGreatDoor.H

set_option linter.unusedSimpArgs false
set_option linter.unusedVariables false
set_option linter.unusedSectionVars false
namespace Go.Proofs.YtipanehdmhachaaGreatDoor.H
variable [DR]

mutual
theorem renA_bel0 (r : Nat → Nat) : ∀ {v : AV}, belA 0 v = true → renA r v = v
  | .d _, _ | .ful .., _ | .pre .., _ | .elm .., _ => rfl
  | .ptr .., h | .own .., h | .osl .., h | .mp _, h => by simp [belA] at h
  | .agg l, h => by simp only [renA, renL_bel0 r (by simpa [belA] using h)]
  | .tup l, h => by simp only [renA, renL_bel0 r (by simpa [belA] using h)]
  | .fn f a c, h => by
    simp only [belA, Bool.and_eq_true] at h
    simp only [renA, renL_bel0 r h.1, renL_bel0 r h.2]
theorem renL_bel0 (r : Nat → Nat) : ∀ {l : List AV}, belL 0 l = true → renL r l = l
  | [], _ => rfl
  | v :: l, h => by
    simp only [belL, Bool.and_eq_true] at h
    simp only [renL, renA_bel0 r h.1, renL_bel0 r h.2]
end
theorem backS_nil (s : St) : backS [] s [] = s := by
  unfold backS
  simp only [List.idxOf?_nil, List.drop_nil, List.map_nil, List.append_nil]
  refine List.ext_getElem? fun i => ?_
  by_cases hi : i < s.length
  · simp [List.getElem?_range hi, hi]
  · rw [List.getElem?_eq_none (by simp; omega), List.getElem?_eq_none (by omega)]
/-- A function of pure data. -/
def Fn (P : Program) (f : FuncId) (vs : List AV) (v : AV) : Prop := ACalls P f vs [] fun r s' => r = v ∧ s' = []
theorem given_nil {s : St} {vs : List AV} (hb : belL 0 vs = true) : Given [] s vs [] vs :=
  ⟨rfl, (fun _ h => by cases h), List.nodup_nil, (fun i b h => by simp at h), hb, (renL_bel0 _ hb).symm⟩
theorem ACalls.pure {P : Program} {f : FuncId} {vs : List AV} {s : St} {Qc Q : AV → St → Prop} (h : ACalls P f vs [] Qc) (hb : belL 0 vs = true) (hq : ∀ v s', Qc v s' → belA 0 v = true ∧ s' = [] ∧ Q v s) : ACalls P f vs s Q :=
  ACalls.frame h (given_nil hb) fun v s' hv => by
    obtain ⟨h1, rfl, h3⟩ := hq v s' hv
    rw [renA_bel0 _ h1, backS_nil]; exact h3
theorem Fn.call {P : Program} {f : FuncId} {vs : List AV} {v : AV} (h : Fn P f vs v) (hb : belL 0 vs = true) (hv : belA 0 v = true) {s : St} {Q : AV → St → Prop} (hq : Q v s) : ACalls P f vs s Q :=
  ACalls.pure h hb fun r s' ⟨h1, h2⟩ => by subst h1 h2; exact ⟨hv, rfl, hq⟩
/-- The function makes a new list. -/
def FnNew (P : Program) (f : FuncId) (vs : List AV) (t k : Nat) (rows : List (List D)) : Prop := ACalls P f vs [] fun r s' => r = .own 0 0 rows.length ∧ s' = [some (.cells t k (rowsA rows))]
theorem renL_rowsA (r : Nat → Nat) (rows : List (List D)) : (rowsA rows).map (renL r) = rowsA rows := by
  unfold rowsA
  rw [List.map_map]
  refine List.map_congr_left fun l _ => ?_
  simp only [Function.comp, renL_map, List.map_map]
  rfl
theorem belB_rowsA (n t k : Nat) (rows : List (List D)) : belB n (.cells t k (rowsA rows)) = true := by
  simp only [belB, List.all_eq_true, belL_iff]
  intro l hl v hv
  unfold rowsA at hl
  obtain ⟨r, _, rfl⟩ := List.mem_map.1 hl
  obtain ⟨d, _, rfl⟩ := List.mem_map.1 hv
  rfl
theorem FnNew.call {P : Program} {f : FuncId} {vs : List AV} {t k : Nat} {rows : List (List D)} (h : FnNew P f vs t k rows) (hb : belL 0 vs = true) {s : St} {Q : AV → St → Prop} (hq : Q (.own s.length 0 rows.length) (s ++ [some (.cells t k (rowsA rows))])) : ACalls P f vs s Q :=
  ACalls.frame h (given_nil hb) fun r s' ⟨h1, h2⟩ => by
    subst h1 h2
    have e : backS [] s [some (.cells t k (rowsA rows))] = s ++ [some (.cells t k (rowsA rows))] := by
      have := backS_nil s
      unfold backS at this ⊢
      simp only [List.idxOf?_nil, List.drop_nil, List.map_nil, List.append_nil] at this ⊢
      rw [this]
      simp [renB, renL_rowsA]
    rw [e]
    simpa [renA, nmR] using hq

/-! ### Lists that are lent -/
inductive Bor (s : St) : List AV → List AV → Prop where
  | nil : Bor s [] []
  | same {v : AV} {l m : List AV} : belA 0 v = true → Bor s l m → Bor s (v :: l) (v :: m)
  | own {id t k off len : Nat} {rows : List (List D)} {l m : List AV} : s[id]? = some (some (.cells t k (rowsA rows))) → off + len ≤ rows.length → Bor s l m → Bor s (.own id off len :: l) (.d (.lst k ((rows.drop off).take len)) :: m)
mutual
/-- No lists in it. -/
def scA : AV → Bool
  | .d (.v _) => true
  | .agg l => scL l
  | .tup l => scL l
  | _ => false
def scL : List AV → Bool
  | [] => true
  | v :: l => scA v && scL l
end
section
variable {w w' : World} {K K' : Nat → Prop} {β β' : Nat → Loc} {n n' : Nat}
mutual
theorem R_sc : ∀ {v : AV} {u : Value}, scA v = true → R w K β n v u → R w' K' β' n' v u
  | .d (.v x), u, _, h => by simpa only [R, RD] using h
  | .d (.lst ..), u, hs, _ => by cases hs
  | .agg l, u, hs, h => by
    simp only [R] at h ⊢
    obtain ⟨us, h1, h2⟩ := h
    exact ⟨us, h1, RL_sc (by simpa [scA] using hs) h2⟩
  | .tup l, u, hs, h => by
    simp only [R] at h ⊢
    obtain ⟨us, h1, h2⟩ := h
    exact ⟨us, h1, RL_sc (by simpa [scA] using hs) h2⟩
  | .ful .., u, hs, _ | .pre .., u, hs, _ | .elm .., u, hs, _ | .ptr .., u, hs, _ | .own .., u, hs, _ | .osl .., u, hs, _ | .mp _, u, hs, _ | .fn .., u, hs, _ => by cases hs
theorem RL_sc : ∀ {l : List AV} {us : List Value}, scL l = true → RL w K β n l us → RL w' K' β' n' l us
  | [], us, _, h => by simpa only [RL] using h
  | v :: l, us, hs, h => by
    simp only [scL, Bool.and_eq_true] at hs
    simp only [RL] at h ⊢
    obtain ⟨u, us', h1, h2, h3⟩ := h
    exact ⟨u, us', h1, R_sc hs.1 h2, RL_sc hs.2 h3⟩
end
end
theorem ACalls.lend {P : Program} {f : FuncId} {s : St} {vs vc : List AV} {Qc Q : AV → St → Prop} (h : ACalls P f vc [] Qc) (hb : Bor s vs vc) (hq : ∀ v s', Qc v s' → scA v = true ∧ Q v s) : ACalls P f vs s Q := by
  intro w K β us hz hr
  let Kc : Nat → Prop := fun b => K b ∨ ∃ i, Alive s i ∧ (β i).b = b
  have hK : Stays w K w Kc := ⟨fun _ h => .inl h, fun _ _ => rfl⟩
  have hcz : Cz w Kc β [] := ⟨(fun i b h => by simp at h), (fun i j ⟨b, h⟩ => by simp at h), (fun i ⟨b, h⟩ => by simp at h), fun b hb => by
    rcases hb with hb | ⟨i, hi, rfl⟩
    · exact hz.kb b hb
    · exact hz.lt hi, hz.gl.mono hK⟩
  have hrc : RL w Kc β 0 vc us := by
    clear h hq
    induction hb generalizing us with
    | nil => exact hr
    | @same v l m h1 _ ih =>
      simp only [RL] at hr ⊢
      obtain ⟨u, us', e, h2, h3⟩ := hr
      refine ⟨u, us', e, ?_, ih us' h3⟩
      have := R_unren (w := w) (K := Kc) (β := β) (β' := β) (n := s.length) (n' := 0) (r := id) (fun i hi => by omega) (v := v) (u := u) (by rw [renA_bel0 _ h1]; exact h2.mono hK (Nat.le_refl _) fun _ _ => rfl) h1
      exact this
    | @own id t k off len rows l m h1 h2 _ ih =>
      simp only [RL] at hr ⊢
      obtain ⟨u, us', e, h3, h4⟩ := hr
      refine ⟨u, us', e, ?_, ih us' h4⟩
      have hal : Alive s id := ⟨_, h1⟩
      have hF : FrzH w Kc β id k rows := .of hz h1 hK (.inr ⟨id, hal, rfl⟩)
      have := R_frz hK hF h3 (by simp only [fitA]; exact fun _ => h2)
      simp only [frzA, if_true] at this
      simpa only [R] using this
  refine (h w Kc β us hcz hrc).mono fun e w' ⟨v, sc', K', βc', u, e1, q, hz', hR, hx⟩ => ?_
  subst e1
  obtain ⟨hs, hQ⟩ := hq v sc' q
  have hfr : ∀ b, b < w.heap.size → w'.heap[b]? = w.heap[b]? := fun b hb => hx.frame b hb fun i ⟨x, h⟩ => by simp at h
  have hst : Stays w K w' K := ⟨fun _ h => h, fun b hb => hfr b (hz.kb b hb)⟩
  refine ⟨v, s, K, β, u, rfl, hQ, ⟨fun i b hi => hz.old hst (Nat.le_refl _) (fun _ _ => rfl) hi (hfr _ (hz.lt ⟨b, hi⟩)), hz.inj, hz.dis, fun b hb => Nat.lt_of_lt_of_le (hz.kb b hb) hx.size, hz.gl.mono hst⟩, R_sc hs hR, ?_⟩
  exact { size := hx.size, io := hx.io, fix := fun _ _ => rfl, len := Nat.le_refl _, frame := fun b hb _ => hfr b hb, kmono := fun _ h => h, knew := fun _ h => .inl h, onew := fun i hi => .inr ⟨i, hi, rfl⟩ }
theorem Fn.lend {P : Program} {f : FuncId} {vs vc : List AV} {v : AV} {s : St} (h : Fn P f vc v) (hb : Bor s vs vc) (hv : scA v = true) {Q : AV → St → Prop} (hq : Q v s) : ACalls P f vs s Q :=
  ACalls.lend h hb fun r s' ⟨h1, _⟩ => by subst h1; exact ⟨hv, hq⟩

/-! ### Laws -/
def loc0 : Nat → Loc := fun _ => ⟨0, 0, 0, 0⟩
theorem law_ok {P : Program} {f : FuncId} {vs : List AV} (h : ACalls P f vs [] fun v _ => v = AB true) {w : World} {us : List Value} (hr : RL w (fun b => b < w.heap.size) loc0 0 vs us) (hg : GL w (fun b => b < w.heap.size) := by intro x hx; simp [tbs] at hx) :
    Calls P f us.toArray w fun e w' => e = .returned (.bool true) ∧ Go.RowKit.Below w.heap.size w w' := by
  have hcz : Cz w (fun b => b < w.heap.size) loc0 [] := ⟨(fun i b h => by simp at h), (fun i j ⟨b, h⟩ => by simp at h), (fun i ⟨b, h⟩ => by simp at h), fun _ h => h, hg⟩
  refine (h w _ loc0 us hcz hr).mono fun e w' ⟨v, s', K', β', u, e1, q, _, hR, hx⟩ => ?_
  subst e1 q
  exact ⟨by rw [R_AB hR], hx.io.1, hx.io.2.1, hx.io.2.2.1, hx.size, fun k hk => hx.frame k hk fun i ⟨x, h⟩ => by simp at h⟩
end Go.Proofs.YtipanehdmhachaaGreatDoor.H
