/- The evaluator: code, and whole functions. -/
import Derived.Test.YtjgolgidfnbnnaaEvE
namespace Go.Proofs.Ytjgolgidfnbnnaa.Ev

inductive X where
  | normal | exit (id : Nat) | ret
def X.out : X → Exit
  | .normal => .normal
  | .exit id => .exit id
  | .ret => .ret
section
variable {α : Type}
def thenX (k : St → T α) (K : X → St → T α) : X → St → T α
  | .normal, σ => k σ
  | x, σ => K x σ
def blockX (id : Nat) (K : X → St → T α) : X → St → T α
  | .exit i, σ => if i = id then K .normal σ else K (.exit i) σ
  | x, σ => K x σ
def rounds (body : St → (X → St → T α) → T α) : Nat → St → (X → St → T α) → T α
  | 0, _, _ => .bad
  | n + 1, σ, K => body σ (thenX (fun σ' => rounds body n σ' K) K)
variable (P : Program) (C : Ctx) (F : Nat) (inl : Inl α) (draw : Array Oper → St → (St → T α) → T α)
def ev : Code → St → (X → St → T α) → T α
  | .skip, σ, K => K .normal σ
  | .region _ ops dr, σ, K => if dr = true then draw ops σ (fun σ' => K .normal σ') else evSeq P C ops inl ops.toList σ (fun σ' => K .normal σ')
  | .seq a b, σ, K => ev a σ (thenX (fun σ' => ev b σ' K) K)
  | .cond c a b, σ, K => match opdF σ.fx σ.t c with
    | some (.bool t) => match decB σ.fx t with
      | some true => ev a σ K
      | some false => ev b σ K
      | none => .ite t (ev a { σ with fx := assume σ.fx t true } K) (ev b { σ with fx := assume σ.fx t false } K)
    | _ => .bad
  | .block id c, σ, K => ev c σ (blockX id K)
  | .loop c, σ, K => rounds (fun σ' K' => ev c σ' K') F σ K
  | .exit id, σ, K => K (.exit id) σ
  | .ret, σ, K => K .ret σ
  | _, _, _ => .bad
end

section
variable {P : Program} {C : Ctx} {F : Nat} {α : Type} {Φ : Sig} {L : List Int → α → Prop} {inl : Inl α}
/-- What is asked of the way in which a region that draws its order is taken. -/
def DrawOK (P : Program) (Φ : Sig) (L : List Int → α → Prop) (draw : Array Oper → St → (St → T α) → T α) : Prop :=
  ∀ (id : Nat) (ops : Array Oper) (nb0 : Nat) (η0 : Env) (w0 : World) (ρ0 : List Int) (Q : Exit → Act → World → Prop) (σ : St) (K : St → T α) (ρ : List Int) (η : Env) (a : Act) (w : World),
  (draw ops σ K).ok Φ L ρ → Inv nb0 η0 w0 ρ0 ρ η σ a w →
    (∀ ρ' η' σ' a' w', (K σ').ok Φ L ρ' → Inv nb0 η0 w0 ρ0 ρ' η' σ' a' w' → Q .normal a' w') → (Code.region id ops true).wp P Q a w
theorem ev_ok (hC : CtxOK P Φ C) (hI : InlOK P Φ L inl) {draw : Array Oper → St → (St → T α) → T α} (hD : DrawOK P Φ L draw) {nb0 : Nat} {η0 : Env} {w0 : World} {ρ0 : List Int} : ∀ (c : Code) (Q : Exit → Act → World → Prop) (σ : St) (K : X → St → T α) (ρ : List Int) (η : Env) (a : Act) (w : World),
    (ev P C F inl draw c σ K).ok Φ L ρ → Inv nb0 η0 w0 ρ0 ρ η σ a w →
    (∀ x ρ' η' σ' a' w', (K x σ').ok Φ L ρ' → Inv nb0 η0 w0 ρ0 ρ' η' σ' a' w' → Q x.out a' w') → c.wp P Q a w := by
  intro c
  induction c with
  | skip => intro Q σ K ρ η a w ht h hQ; exact wp_skip (hQ .normal _ _ _ _ _ ht h)
  | region id ops dr =>
    intro Q σ K ρ η a w ht h hQ
    simp only [ev] at ht
    cases dr with
    | true => exact hD id ops _ _ _ _ Q σ _ ρ η a w ht h fun ρ' η' σ' a' w' ht' h' => hQ .normal _ _ _ _ _ ht' h'
    | false => exact wp_region_list (evSeq_ok hC hI _ _ _ _ _ _ _ ht h fun ρ' η' σ' a' w' ht' h' => hQ .normal _ _ _ _ _ ht' h')
  | seq x y ihx ihy =>
    intro Q σ K ρ η a w ht h hQ
    refine wp_seq (ihx _ σ _ ρ η a w ht h fun x ρ' η' σ' a' w' ht' h' => ?_)
    cases x with
    | normal => exact ihy Q σ' K ρ' η' a' w' ht' h' hQ
    | exit id => exact hQ (.exit id) _ _ _ _ _ ht' h'
    | ret => exact hQ .ret _ _ _ _ _ ht' h'
  | cond c x y ihx ihy =>
    intro Q σ K ρ η a w ht h hQ
    simp only [ev] at ht
    split at ht
    · rename_i t hc
      have he : a.eval c = .bool (denB ρ t) := opdF_ok h.fx h.ft hc
      refine wp_cond he ?_
      split at ht
      · rename_i hd
        rw [decB_ok h.fx _ _ hd]
        exact ihx Q σ K ρ η a w ht h hQ
      · rename_i hd
        rw [decB_ok h.fx _ _ hd]
        exact ihy Q σ K ρ η a w ht h hQ
      · cases hb : denB ρ t with
        | true => exact ihx Q _ K ρ η a w (ht.1 hb) (h.know hb) hQ
        | false => exact ihy Q _ K ρ η a w (ht.2 hb) (h.know hb) hQ
    · exact ht.elim
  | block id c ih =>
    intro Q σ K ρ η a w ht h hQ
    refine wp_block (ih _ σ _ ρ η a w ht h fun x ρ' η' σ' a' w' ht' h' => ?_)
    cases x with
    | normal => exact hQ .normal _ _ _ _ _ ht' h'
    | ret => exact hQ .ret _ _ _ _ _ ht' h'
    | exit i =>
      simp only [blockX] at ht'
      simp only [X.out, Exit.inBlock]
      split
      · rename_i hi
        rw [if_pos hi] at ht'
        exact hQ .normal _ _ _ _ _ ht' h'
      · rename_i hi
        rw [if_neg hi] at ht'
        exact hQ (.exit i) _ _ _ _ _ ht' h'
  | loop c ih =>
    intro Q σ K ρ η a w ht h hQ
    refine wp_loop_rounds F ?_
    simp only [ev] at ht
    have key : ∀ (n : Nat) (σ : St) (ρ : List Int) (η : Env) (a : Act) (w : World), (rounds (fun σ' K' => ev P C F inl draw c σ' K') n σ K).ok Φ L ρ → Inv nb0 η0 w0 ρ0 ρ η σ a w → Code.rounds P c Q n a w := by
      intro n
      induction n with
      | zero => intro σ ρ η a w ht h; exact ht.elim
      | succ n ihn =>
        intro σ ρ η a w ht h
        rw [rounds_succ]
        refine ih _ σ _ ρ η a w ht h fun x ρ' η' σ' a' w' ht' h' => ?_
        cases x with
        | normal => exact ihn σ' ρ' η' a' w' ht' h'
        | exit id => exact hQ (.exit id) _ _ _ _ _ ht' h'
        | ret => exact hQ .ret _ _ _ _ _ ht' h'
    exact key F σ ρ η a w ht h
  | exit id => intro Q σ K ρ η a w ht h hQ; exact wp_exit (hQ (.exit id) _ _ _ _ _ ht h)
  | ret => intro Q σ K ρ η a w ht h hQ; exact wp_ret (hQ .ret _ _ _ _ _ ht h)
  | _ => intro Q σ K ρ η a w ht h hQ; exact ht.elim
end

/-! ### Whole functions -/
def resV (P : Program) (σ : St) : List ResultVar → Option (List SV)
  | [] => some []
  | .tmp t :: l => match resV P σ l with
    | some r => some (σ.t.getD t .undef :: r)
    | none => none
  | .cell t T :: l => match σ.t.getD t .undef with
    | .ptr id off => match getB σ.b id with
      | some (_, cs) => match readV P T cs off, resV P σ l with
        | some v, some r => some (v :: r)
        | _, _ => none
      | none => none
    | _ => none
def oneV : List SV → SV
  | [v] => v
  | l => .tup l
def resM (tmps : Array Value) : ResultVar → Sem Value
  | .tmp t => pure (tmps.getD t Go.undef)
  | .cell b t => do loadVar t (← asAddr (tmps.getD b Go.undef))
theorem results_eq (fn : Func) (tmps : Array Value) : results fn tmps = (do
    let vs ← fn.results.mapM (resM tmps)
    pure (if h : vs.size = 1 then vs[0] else .tuple vs)) := by
  unfold results
  congr 1
theorem resV_ok {P : Program} {σ : St} {ρ : List Int} {η : Env} {a : Act} {w : World} (hf : Ft ρ η σ.t a) (hb : Rb ρ η (getB σ.b) w) : ∀ (l : List ResultVar) (vs : List SV), resV P σ l = some vs →
    (l.mapM (resM a.tmps)).run P w = .ok (vs.map (denV ρ η)) w
  | [], vs, h => by simp only [resV, Option.some.injEq] at h; subst h; simp
  | .tmp t :: l, vs, h => by
    simp only [resV] at h
    split at h
    · rename_i r hr
      simp only [Option.some.injEq] at h; subst h
      have ih := resV_ok hf hb l r hr
      simp only [List.mapM_cons, resM, Sem.run_bind, Sem.run_pure, Result.andThen_ok, ih, List.map_cons, hf.get]
    · simp at h
  | .cell t T :: l, vs, h => by
    simp only [resV] at h
    split at h
    · rename_i id off hp
      split at h
      · rename_i B cs hbl
        split at h
        · rename_i v r hv hr
          simp only [Option.some.injEq] at h; subst h
          have ih := resV_ok hf hb l r hr
          have hl := run_readV (P := P) hv (hb.holds _ _ _ hbl)
          simp only [List.mapM_cons, resM, Sem.run_bind, Sem.run_pure, Result.andThen_ok, ih, List.map_cons, hf.get, hp, denV, asAddr, hl]
        · simp at h
      · simp at h
    · simp at h
theorem run_results {P : Program} {σ : St} {ρ : List Int} {η : Env} {a : Act} {w : World} (hf : Ft ρ η σ.t a) (hb : Rb ρ η (getB σ.b) w) {fn : Func} {vs : List SV} (h : resV P σ fn.results.toList = some vs) :
    (results fn a.tmps).run P w = .ok (denV ρ η (oneV vs)) w := by
  have hr := resV_ok hf hb _ _ h
  rw [results_eq, Array.mapM_eq_mapM_toList]
  simp only [Sem.run_bind, Sem.run_map, hr, Result.andThen_ok, Sem.run_pure]
  match vs with
  | [] => simp [oneV, denV, denL]
  | [v] => simp [oneV]
  | v :: u :: l => simp [oneV, denV, denL, denL_map]
def endX {α : Type} (P : Program) (fn : Func) (K : SV → St → T α) : X → St → T α
  | .exit _, _ => .bad
  | _, σ => match resV P σ fn.results.toList with
    | some vs => K (oneV vs) σ
    | none => .bad
/-- The walk into a function, to a depth of calls. -/
def evD {α : Type} (P : Program) (C : Ctx) (F : Nat) (draw : Array Oper → St → (St → T α) → T α) : Nat → Inl α
  | 0, _, _, _, _ => .bad
  | d + 1, f, args, σ, K => match P.funcs[f]? with
    | some fn => match fn.body with
      | some c => ev P C F (evD P C F draw d) draw c { t := args ++ List.replicate (fn.ntmps - args.length) .undef, b := σ.b, fx := σ.fx, n := σ.n, wd := [] } (endX P fn K)
      | none => .bad
    | none => .bad
theorem evD_ok {P : Program} {C : Ctx} {F : Nat} {α : Type} {Φ : Sig} {L : List Int → α → Prop} (hC : CtxOK P Φ C) {draw : Array Oper → St → (St → T α) → T α} (hD : DrawOK P Φ L draw) : ∀ d, InlOK P Φ L (evD P C F draw d) := by
  intro d
  induction d with
  | zero => intro f args σ K ρ η w R ht; exact ht.elim
  | succ d ih =>
    intro f args σ K ρ η w R ht hn hf hb hR
    unfold evD at ht
    split at ht
    · rename_i fn hfn
      split at ht
      · rename_i c hc
        refine calls_of_wp hfn hc ?_
        refine ev_ok hC ih hD (nb0 := σ.b.length) (η0 := η) (w0 := w) (ρ0 := ρ) c _ _ _ ρ η _ w ht ?_ ?_
        · exact {
            len := hn, pre := ⟨[], by simp⟩, fx := hf
            ft := ⟨by simp [denV], rfl⟩
            rb := hb, nb := Nat.le_refl _, env := fun _ _ => ⟨rfl, rfl⟩, size := Nat.le_refl _, io := .refl _
            newb := fun i hi hs => by simp only at hs; rw [getB_none hi] at hs; simp at hs
            newo := fun i hi hs => by simp only at hs; omega
            frame := fun _ _ _ => rfl }
        · intro x ρ' η' σ' a' w' ht' h'
          have key : ∀ {vs : List SV}, resV P σ' fn.results.toList = some vs → (K (oneV vs) σ').ok Φ L ρ' →
              a'.defers = [] ∧ ∃ v, (results fn a'.tmps).run P w' = .ok v w' ∧ R (.returned v) w' := fun hvs hL =>
            ⟨h'.ft.2, _, run_results h'.ft h'.rb hvs, hR _ _ _ _ _ _ hL h'⟩
          cases x with
          | exit id => exact ht'.elim
          | normal =>
            simp only [endX] at ht'
            split at ht'
            · rename_i vs hvs
              exact key hvs ht'
            · exact ht'.elim
          | ret =>
            simp only [endX] at ht'
            split at ht'
            · rename_i vs hvs
              exact key hvs ht'
            · exact ht'.elim
      · exact ht.elim
    · exact ht.elim
abbrev Leaf := SV × Blks × List Nat
def evFn (P : Program) (C : Ctx) (F : Nat) (d : Nat) (draw : Array Oper → St → (St → T Leaf) → T Leaf) (f : FuncId) (args : List SV) (b : Blks) (fx : Fx) (n : Nat) : T Leaf :=
  evD P C F draw d f args { t := [], b, fx, n, wd := [] } fun v σ => .leaf (v, σ.b, σ.wd)
/-- What is known when a function has returned. -/
structure Done (η0 : Env) (w0 : World) (ρ0 : List Int) (b0 : Blks) (ρ : List Int) (η : Env) (b : Blks) (wd : List Nat) (w : World) : Prop where
  pre : ∃ s, ρ = ρ0 ++ s
  rb : Rb ρ η (getB b) w
  env : sameEnv b0.length η0 η
  size : w0.heap.size ≤ w.heap.size
  io : SameIO w0 w
  newb : ∀ i, b0.length ≤ i → (getB b i).isSome = true → w0.heap.size ≤ η.β i
  frame : ∀ b', b' < w0.heap.size → (∀ i ∈ wd, i < b0.length → b' ≠ η0.β i) → w.heap[b']? = w0.heap[b']?
theorem evFn_ok {P : Program} {C : Ctx} {F d : Nat} {Φ : Sig} {L : List Int → Leaf → Prop} (hC : CtxOK P Φ C) {draw : Array Oper → St → (St → T Leaf) → T Leaf}
    {f : FuncId} {args : List SV} {b : Blks} {fx : Fx} {n : Nat} {ρ : List Int} {η : Env} {w : World} (hD : DrawOK P Φ L draw) (ht : (evFn P C F d draw f args b fx n).ok Φ L ρ)
    (hn : ρ.length = n) (hf : FxOK ρ fx) (hb : Rb ρ η (getB b) w) :
    Calls P f (args.map (denV ρ η)).toArray w fun e w' => ∃ ρ' η' v b' wd, e = .returned (denV ρ' η' v) ∧ L ρ' (v, b', wd) ∧ Done η w ρ b ρ' η' b' wd w' :=
  evD_ok hC hD d f args _ _ ρ η w _ ht hn hf hb fun ρ' η' v _ _ _ hL h' =>
    ⟨ρ', η', v, _, _, rfl, hL, { pre := h'.pre, rb := h'.rb, env := h'.env, size := h'.size, io := h'.io, newb := h'.newb, frame := h'.frame }⟩
/-- No region that draws. -/
def noDraw {α : Type} : Array Oper → St → (St → T α) → T α := fun _ _ _ => .bad
theorem noDraw_ok {P : Program} {Φ : Sig} {α : Type} {L : List Int → α → Prop} : DrawOK P Φ L noDraw := fun _ _ _ _ _ _ _ _ _ _ _ _ _ ht _ _ => ht.elim
end Go.Proofs.Ytjgolgidfnbnnaa.Ev
