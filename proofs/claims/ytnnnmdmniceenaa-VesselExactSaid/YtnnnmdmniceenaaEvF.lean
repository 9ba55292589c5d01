/- The evaluator: code, and whole functions. -/
import Derived.Test.YtnnnmdmniceenaaEvO
set_option linter.unusedSimpArgs false
set_option linter.unusedVariables false
namespace Go.Proofs.Ytnnnmdmniceenaa.Ev

inductive X where
  | normal | exit (id : Nat) | ret
def X.out : X → Exit
  | .normal => .normal
  | .exit id => .exit id
  | .ret => .ret
section
variable {α : Type}
def thenX (k : St → T α) (K : X → St → T α) : X → St → T α
  | .normal, σ => k σ
  | x, σ => K x σ
def blockX (id : Nat) (K : X → St → T α) : X → St → T α
  | .exit i, σ => if i = id then K .normal σ else K (.exit i) σ
  | x, σ => K x σ
def rounds (body : St → (X → St → T α) → T α) : Nat → St → (X → St → T α) → T α
  | 0, _, _ => .bad
  | n + 1, σ, K => body σ (thenX (fun σ' => rounds body n σ' K) K)
/-- A loop by a hint. -/
def loopT (h : Hint) (ds : List Nat) (body : St → (X → St → T α) → T α) (σ : St) (K : X → St → T α) : T α :=
  let m := h.rg.length
  let H := genS σ h ds
  let es := h.ps.map fun p => exprV σ.fx (getP σ p)
  if H.cl && h.ps.length == m && clE (m + σ.n) h.me && H.b.length == σ.b.length && okSt σ.n es H σ then
    wrapA (askN σ.fx (askR h.rg es ++ [.le (.lit 0) (sbE es m h.me)])) (.loop h.id es h.rg (body H fun x σ' => match x with
      | .normal =>
        let es' := h.ps.map fun p => exprV σ'.fx (getP σ' p)
        if okSt σ.n es' H σ' then
          wrapA (askN σ'.fx (askR h.rg es' ++ [.le (.lit 0) (sbE es' m h.me), .lt (sbE es' m h.me) (sbE ((List.range m).map fun j => .v (σ.n + j)) m h.me)])) (.again h.id σ.n es')
        else .bad
      | x => K x σ'))
  else .bad
variable (P : Program) (C : Ctx) (F : Nat) (inl : Inl α) (f : FuncId)
def ev : Code → Nat → St → (X → St → T α) → T α
  | .skip, _, σ, K => K .normal σ
  | .region _ ops dr, _, σ, K => if dr = true then drawD P C inl ops σ (fun σ' => K .normal σ') else evSeq P C ops inl ops.toList σ (fun σ' => K .normal σ')
  | .seq a b, u, σ, K => ev a u σ (thenX (fun σ' => ev b u σ' K) K)
  | .cond c a b, u, σ, K => match opdF σ.fx σ.t c with
    | some (.bool t) => match decB σ.fx t with
      | some true => ev a u σ K
      | some false => ev b u σ K
      | none => fB t fun t => .ite t (σ.knowF t true fun σ' => ev a u σ' K) (σ.knowF t false fun σ' => ev b u σ' K)
    | _ => .bad
  | .block id c, _, σ, K => ev c id σ (blockX id K)
  | .loop c, u, σ, K => match C.lh f u with
    | none => rounds (fun σ' K' => ev c u σ' K') F σ K
    | some h => loopT h (cdst c) (fun σ' K' => ev c u σ' K') σ K
  | .exit id, _, σ, K => K (.exit id) σ
  | .ret, _, σ, K => K .ret σ
  | _, _, _, _ => .bad
end

section
variable {P : Program} {C : Ctx} {F : Nat} {α : Type} {Φ : Sig} {L : List Int → α → Prop} {inl : Inl α}
theorem constV_cl {n : Nat} {p : Nat → Bool} {v : Value} {u : SV} (h : constV v = some u) : clV n p u = true := by
  unfold constV at h
  repeat' split at h
  all_goals first | (cases h; done) | (simp only [Option.some.injEq] at h; subst h; first | rfl | simp [clV, clL])
theorem bare_cl {n : Nat} {p : Nat → Bool} {fx : Fx} : ∀ (v : SV), clV n p v = true → clV n p (bare fx v) = true
  | .grd c v, h => by
    unfold bare
    split
    · simp only [clV, Bool.and_eq_true] at h
      exact bare_cl v h.2
    · exact h
  | .int _ _, hv | .bool _, hv | .undef, hv | .nilp, hv | .nils, hv | .nilfn, hv | .any, hv | .sls _ _ _, hv | .xp _ _ _ _, hv | .ptr _ _, hv | .slc _ _ _ _, hv | .ptx _ _ _ _, hv | .fn _ _ _, hv | .agg _, hv | .tup _, hv => hv
theorem opdF_cl {n : Nat} {p : Nat → Bool} {fx : Fx} {t : List SV} (ht : clL n p t = true) {y : Operand} {v : SV} (h : opdF fx t y = some v) : clV n p v = true := by
  unfold opdF at h
  split at h
  · rename_i u hu
    simp only [Option.some.injEq] at h; subst h
    refine bare_cl _ ?_
    unfold opd at hu
    split at hu
    · rename_i i
      split at hu
      · cases hu
      · simp only [Option.some.injEq] at hu; subst hu
        rw [List.getD_eq_getElem?_getD]
        cases hd : t[i]? with
        | none => rfl
        | some v => exact clL_mem ht v (List.mem_of_getElem? hd)
    · exact constV_cl hu
    · simp only [Option.some.injEq] at hu; subst hu; rfl
    · cases hu
  · cases h
theorem clL_app {n : Nat} {p : Nat → Bool} : ∀ (a b : List SV), clL n p a = true → clL n p b = true → clL n p (a ++ b) = true
  | [], _, _, h => h
  | v :: a, b, ha, h => by
    simp only [clL, Bool.and_eq_true, List.cons_append] at ha ⊢
    exact ⟨ha.1, clL_app a b ha.2 h⟩
theorem clL_undef {n : Nat} {p : Nat → Bool} : ∀ (m : Nat), clL n p (List.replicate m SV.undef) = true
  | 0 => rfl
  | m + 1 => by simp only [List.replicate_succ, clL, Bool.and_eq_true]; exact ⟨rfl, clL_undef m⟩
theorem ev_ok (hC : CtxOK P Φ C) (hI : InlOK P Φ L inl) {f : FuncId} {nb0 : Nat} {η0 : Env} {w0 : World} : ∀ (c : Code) (u : Nat) (ρ0 : List Int) (Q : Exit → Act → World → Prop) (σ : St) (K : X → St → T α) (ρ : List Int) (η : Env) (a : Act) (w : World),
    (ev P C F inl f c u σ K).ok Φ L ρ → Inv Φ nb0 η0 w0 ρ0 ρ η σ a w →
    (∀ x ρ' η' σ' a' w', (K x σ').ok Φ L ρ' → Inv Φ nb0 η0 w0 ρ0 ρ' η' σ' a' w' → Q x.out a' w') → c.wp P Q a w := by
  intro c
  induction c with
  | skip => intro u ρ0 Q σ K ρ η a w ht h hQ; exact wp_skip (hQ .normal _ _ _ _ _ ht h)
  | region id ops dr =>
    intro u ρ0 Q σ K ρ η a w ht h hQ
    simp only [ev] at ht
    cases dr with
    | true => exact drawD_ok hC hI id ops _ _ _ _ Q σ _ ρ η a w ht h fun ρ' η' σ' a' w' ht' h' => hQ .normal _ _ _ _ _ ht' h'
    | false => exact wp_region_list (evSeq_ok hC hI _ _ _ _ _ _ _ ht h fun ρ' η' σ' a' w' ht' h' => hQ .normal _ _ _ _ _ ht' h')
  | seq x y ihx ihy =>
    intro u ρ0 Q σ K ρ η a w ht h hQ
    refine wp_seq (ihx _ _ _ σ _ ρ η a w ht h fun x ρ' η' σ' a' w' ht' h' => ?_)
    cases x with
    | normal => exact ihy _ _ Q σ' K ρ' η' a' w' ht' h' hQ
    | exit id => exact hQ (.exit id) _ _ _ _ _ ht' h'
    | ret => exact hQ .ret _ _ _ _ _ ht' h'
  | cond c x y ihx ihy =>
    intro u ρ0 Q σ K ρ η a w ht h hQ
    simp only [ev] at ht
    split at ht
    · rename_i t hc
      have he : a.eval c = .bool (denB ρ t) := opdF_ok h.fx h.ft hc
      have htc : clB σ.n t = true := by
        have h0 := h.cl
        simp only [St.cl, Bool.and_eq_true] at h0
        simpa [clV] using opdF_cl h0.1.1 hc
      refine wp_cond he ?_
      simp only [fB_eq, St.knowF_eq] at ht
      split at ht
      · rename_i hd
        rw [decB_ok h.fx _ _ hd]
        exact ihx _ _ Q σ K ρ η a w ht h hQ
      · rename_i hd
        rw [decB_ok h.fx _ _ hd]
        exact ihy _ _ Q σ K ρ η a w ht h hQ
      · cases hb : denB ρ t with
        | true => exact ihx _ _ Q _ K ρ η a w (ht.1 hb) (h.know hb htc) hQ
        | false => exact ihy _ _ Q _ K ρ η a w (ht.2 hb) (h.know hb htc) hQ
    · exact ht.elim
  | block id c ih =>
    intro u ρ0 Q σ K ρ η a w ht h hQ
    refine wp_block (ih _ _ _ σ _ ρ η a w ht h fun x ρ' η' σ' a' w' ht' h' => ?_)
    cases x with
    | normal => exact hQ .normal _ _ _ _ _ ht' h'
    | ret => exact hQ .ret _ _ _ _ _ ht' h'
    | exit i =>
      simp only [blockX] at ht'
      simp only [X.out, Exit.inBlock]
      split
      · rename_i hi
        rw [if_pos hi] at ht'
        exact hQ .normal _ _ _ _ _ ht' h'
      · rename_i hi
        rw [if_neg hi] at ht'
        exact hQ (.exit i) _ _ _ _ _ ht' h'
  | loop c ih =>
    intro u ρ0 Q σ K ρ η a w ht h hQ
    simp only [ev] at ht
    split at ht
    · refine wp_loop_rounds F ?_
      have key : ∀ (n : Nat) (σ : St) (ρ : List Int) (η : Env) (a : Act) (w : World), (rounds (fun σ' K' => ev P C F inl f c u σ' K') n σ K).ok Φ L ρ → Inv Φ nb0 η0 w0 ρ0 ρ η σ a w → Code.rounds P c Q n a w := by
        intro n
        induction n with
        | zero => intro σ ρ η a w ht h; exact ht.elim
        | succ n ihn =>
          intro σ ρ η a w ht h
          rw [rounds_succ]
          refine ih _ _ _ σ _ ρ η a w ht h fun x ρ' η' σ' a' w' ht' h' => ?_
          cases x with
          | normal => exact ihn σ' ρ' η' a' w' ht' h'
          | exit id => exact hQ (.exit id) _ _ _ _ _ ht' h'
          | ret => exact hQ .ret _ _ _ _ _ ht' h'
      exact key F σ ρ η a w ht h
    · rename_i hn _
      unfold loopT at ht
      simp only [] at ht
      split at ht
      · rename_i hc
        simp only [Bool.and_eq_true, beq_iff_eq] at hc
        obtain ⟨⟨⟨⟨hcl, hps⟩, hme⟩, hbl⟩, hok⟩ := hc
        obtain ⟨ha, hJ, ht⟩ := wrapA_ok ht
        have hlen : ρ.length = σ.n := h.len
        have hask := askN_ok h.fx ha
        have hme' : clE (hn.rg.length + ρ.length) hn.me = true := by rw [hlen]; exact hme
        have esl : ∀ σ' : St, (hn.ps.map fun p => exprV σ'.fx (getP σ' p)).length = hn.rg.length := fun σ' => by rw [List.length_map, hps]
        have fitI : ∀ {ρ1 s : List Int} {η' : Env} {σ' : St} {a' : Act} {w' : World}, Inv Φ nb0 η0 w0 ρ1 (ρ ++ s) η' σ' a' w' → okSt σ.n (hn.ps.map fun p => exprV σ'.fx (getP σ' p)) (genS σ hn (cdst c)) σ' = true →
            RngOK hn.rg ((hn.ps.map fun p => exprV σ'.fx (getP σ' p)).map (den (ρ ++ s))) → Inv Φ nb0 η0 w0 ρ0 (ρ ++ (hn.ps.map fun p => exprV σ'.fx (getP σ' p)).map (den (ρ ++ s))) η' (genS σ hn (cdst c)) a' w' :=
          fun hI' ho hr => h.fit h.cl hI' ho hbl (by rw [esl]; rfl) rfl rfl hcl hr
        have key : ∀ (N : Nat) (xs : List Int) (η : Env) (a : Act) (w : World), xs.length = hn.rg.length → 0 ≤ den (xs ++ ρ) hn.me → (den (xs ++ ρ) hn.me).toNat ≤ N → RngOK hn.rg xs → Φ.js hn.id ρ xs →
            Inv Φ nb0 η0 w0 ρ0 (ρ ++ xs) η (genS σ hn (cdst c)) a w → Code.rounds P c Q (N + 1) a w := by
          intro N
          induction N with
          | zero =>
            intro xs η a w hxl h0 hN hr hj hi
            rw [rounds_succ]
            refine ih _ (ρ ++ xs) _ _ _ (ρ ++ xs) η a w (ht xs (by rw [esl]; exact hxl) hr hj) { hi with pre := ⟨[], by simp⟩ } fun x ρ' η' σ' a' w' ht' h' => ?_
            have hpre : ∃ s, ρ' = ρ0 ++ s := by
              obtain ⟨s1, e1⟩ := hi.pre
              obtain ⟨s2, e2⟩ := h'.pre
              exact ⟨s1 ++ s2, by rw [e2, e1, List.append_assoc]⟩
            cases x with
            | exit id => exact hQ (.exit id) _ _ _ _ _ ht' { h' with pre := hpre }
            | ret => exact hQ .ret _ _ _ _ _ ht' { h' with pre := hpre }
            | normal =>
              exfalso
              simp only [] at ht'
              split at ht'
              · obtain ⟨ha', hag⟩ := wrapA_ok ht'
                have hask' := askN_ok h'.fx ha'
                obtain ⟨s2, e2⟩ := h'.pre
                have d1 := of_decide_eq_true (hask' _ (List.mem_append_right _ (List.mem_cons_self ..)))
                have d2 := of_decide_eq_true (hask' _ (List.mem_append_right _ (List.mem_cons_of_mem _ (List.mem_cons_self ..))))
                have e3 : den ρ' (sbE ((List.range hn.rg.length).map fun j => .v (σ.n + j)) hn.rg.length hn.me) = den (xs ++ ρ) hn.me := by
                  rw [e2, List.append_assoc, sbE_ok (by simp) hme']
                  congr 2
                  refine List.ext_getElem? fun i => ?_
                  rw [List.getElem?_map, List.getElem?_map]
                  by_cases hi' : i < hn.rg.length
                  · rw [List.getElem?_range hi']
                    simp only [Option.map_some, den, List.getD_eq_getElem?_getD]
                    rw [← List.append_assoc, ← hlen, List.append_assoc, List.getElem?_append_right (by omega), Nat.add_sub_cancel_left, List.getElem?_append_left (by omega)]
                    simp [hxl, hi']
                  · rw [List.getElem?_eq_none (by simpa using hi'), List.getElem?_eq_none (by omega)]; rfl
                rw [e3] at d2
                simp only [den] at d1
                omega
              · exact ht'.elim
          | succ N ihN =>
            intro xs η a w hxl h0 hN hr hj hi
            rw [rounds_succ]
            refine ih _ (ρ ++ xs) _ _ _ (ρ ++ xs) η a w (ht xs (by rw [esl]; exact hxl) hr hj) { hi with pre := ⟨[], by simp⟩ } fun x ρ' η' σ' a' w' ht' h' => ?_
            have hpre : ∃ s, ρ' = ρ0 ++ s := by
              obtain ⟨s1, e1⟩ := hi.pre
              obtain ⟨s2, e2⟩ := h'.pre
              exact ⟨s1 ++ s2, by rw [e2, e1, List.append_assoc]⟩
            cases x with
            | exit id => exact hQ (.exit id) _ _ _ _ _ ht' { h' with pre := hpre }
            | ret => exact hQ .ret _ _ _ _ _ ht' { h' with pre := hpre }
            | normal =>
              simp only [] at ht'
              split at ht'
              · rename_i hok'
                obtain ⟨ha', hag⟩ := wrapA_ok ht'
                have hask' := askN_ok h'.fx ha'
                obtain ⟨s2, e2⟩ := h'.pre
                have d1 := of_decide_eq_true (hask' _ (List.mem_append_right _ (List.mem_cons_self ..)))
                have d2 := of_decide_eq_true (hask' _ (List.mem_append_right _ (List.mem_cons_of_mem _ (List.mem_cons_self ..))))
                have e3 : den ρ' (sbE ((List.range hn.rg.length).map fun j => .v (σ.n + j)) hn.rg.length hn.me) = den (xs ++ ρ) hn.me := by
                  rw [e2, List.append_assoc, sbE_ok (by simp) hme']
                  congr 2
                  refine List.ext_getElem? fun i => ?_
                  rw [List.getElem?_map, List.getElem?_map]
                  by_cases hi' : i < hn.rg.length
                  · rw [List.getElem?_range hi']
                    simp only [Option.map_some, den, List.getD_eq_getElem?_getD]
                    rw [← List.append_assoc, ← hlen, List.append_assoc, List.getElem?_append_right (by omega), Nat.add_sub_cancel_left, List.getElem?_append_left (by omega)]
                    simp [hxl, hi']
                  · rw [List.getElem?_eq_none (by simpa using hi'), List.getElem?_eq_none (by omega)]; rfl
                rw [e3] at d2
                simp only [den] at d1
                have e4 : den ρ' (sbE (hn.ps.map fun p => exprV σ'.fx (getP σ' p)) hn.rg.length hn.me) = den ((hn.ps.map fun p => exprV σ'.fx (getP σ' p)).map (den ρ') ++ ρ) hn.me := by
                  rw [e2, List.append_assoc]; exact sbE_ok (esl σ') hme'
                rw [e4] at d1 d2
                have hr' := askR_rng (rg := hn.rg) (esl σ').symm fun b hb => hask' b (List.mem_append_left _ hb)
                have htk : ρ'.take σ.n = ρ := by rw [e2, List.append_assoc, ← hlen, List.take_left']; rfl
                have hag : Φ.js hn.id (ρ'.take σ.n) ((hn.ps.map fun p => exprV σ'.fx (getP σ' p)).map (den ρ')) := hag
                rw [htk] at hag
                have e5 : ρ' = ρ ++ (xs ++ s2) := by rw [e2, List.append_assoc]
                have hfit := fitI (s := xs ++ s2) (by rw [← e5]; exact h') hok' (by rw [← e5]; exact hr')
                rw [← e5] at hfit
                exact ihN _ η' a' w' (by rw [List.length_map, esl]) d1 (by omega) hr' hag hfit
              · exact ht'.elim
        have h0 := fitI (s := []) (by rw [List.append_nil]; exact h) hok (by rw [List.append_nil]; exact askR_rng (esl σ).symm fun b hb => hask b (List.mem_append_left _ hb))
        rw [List.append_nil] at h0
        have d1 := of_decide_eq_true (hask _ (List.mem_append_right _ (List.mem_cons_self ..)))
        have e4 := sbE_ok (esl σ) (ρ := ρ) (s := []) hme'
        rw [List.append_nil] at e4
        rw [e4] at d1
        exact wp_loop_rounds _ (key _ _ η a w (by rw [List.length_map, esl]) d1 (Nat.le_refl _) (askR_rng (esl σ).symm fun b hb => hask b (List.mem_append_left _ hb)) hJ h0)
      · exact ht.elim
  | exit id => intro u ρ0 Q σ K ρ η a w ht h hQ; exact wp_exit (hQ (.exit id) _ _ _ _ _ ht h)
  | ret => intro u ρ0 Q σ K ρ η a w ht h hQ; exact wp_ret (hQ .ret _ _ _ _ _ ht h)
  | _ => intro u ρ0 Q σ K ρ η a w ht h hQ; exact ht.elim
end

/-! ### Whole functions -/
def resV (P : Program) (σ : St) : List ResultVar → Option (List SV)
  | [] => some []
  | .tmp t :: l => match σ.t.getD t .undef, resV P σ l with
    | .any, _ => none
    | v, some r => some (v :: r)
    | _, none => none
  | .cell t T :: l => match σ.t.getD t .undef with
    | .ptr id off => match getB σ.b id with
      | some (_, cs) => match readV P T cs off, resV P σ l with
        | some v, some r => some (v :: r)
        | _, _ => none
      | none => none
    | _ => none
def oneV : List SV → SV
  | [v] => v
  | l => .tup l
def resM (tmps : Array Value) : ResultVar → Sem Value
  | .tmp t => pure (tmps.getD t Go.undef)
  | .cell b t => do loadVar t (← asAddr (tmps.getD b Go.undef))
theorem results_eq (fn : Func) (tmps : Array Value) : results fn tmps = (do
    let vs ← fn.results.mapM (resM tmps)
    pure (if h : vs.size = 1 then vs[0] else .tuple vs)) := by
  unfold results
  congr 1
theorem resV_ok {P : Program} {Φ : Sig} {σ : St} {ρ : List Int} {η : Env} {a : Act} {w : World} (hf : Ft ρ η σ.t a) (hb : Rb Φ ρ η (getB σ.b) w) : ∀ (l : List ResultVar) (vs : List SV), resV P σ l = some vs →
    (l.mapM (resM a.tmps)).run P w = .ok (vs.map (denV ρ η)) w
  | [], vs, h => by simp only [resV, Option.some.injEq] at h; subst h; simp
  | .tmp t :: l, vs, h => by
    simp only [resV] at h
    split at h
    · simp at h
    · rename_i v r hr hn
      simp only [Option.some.injEq] at h; subst h
      have ih := resV_ok hf hb l r hr
      have hv : (σ.t.getD t .undef).isAny = false := by cases hv : σ.t.getD t .undef <;> first | rfl | exact absurd hv hn
      simp only [List.mapM_cons, resM, Sem.run_bind, Sem.run_pure, Result.andThen_ok, ih, List.map_cons, hf.get t hv]
    · simp at h
  | .cell t T :: l, vs, h => by
    simp only [resV] at h
    split at h
    · rename_i id off hp
      split at h
      · rename_i B cs hbl
        split at h
        · rename_i v r hv hr
          simp only [Option.some.injEq] at h; subst h
          have ih := resV_ok hf hb l r hr
          have hl := run_readV (P := P) hv (hb.holds _ _ _ hbl)
          simp only [List.mapM_cons, resM, Sem.run_bind, Sem.run_pure, Result.andThen_ok, ih, List.map_cons, hf.get t (by rw [hp]; rfl), hp, denV, asAddr, hl]
        · simp at h
      · simp at h
    · simp at h
theorem run_results {P : Program} {Φ : Sig} {σ : St} {ρ : List Int} {η : Env} {a : Act} {w : World} (hf : Ft ρ η σ.t a) (hb : Rb Φ ρ η (getB σ.b) w) {fn : Func} {vs : List SV} (h : resV P σ fn.results.toList = some vs) :
    (results fn a.tmps).run P w = .ok (denV ρ η (oneV vs)) w := by
  have hr := resV_ok hf hb _ _ h
  rw [results_eq, Array.mapM_eq_mapM_toList]
  simp only [Sem.run_bind, Sem.run_map, hr, Result.andThen_ok, Sem.run_pure]
  match vs with
  | [] => simp [oneV, denV, denL]
  | [v] => simp [oneV]
  | v :: u :: l => simp [oneV, denV, denL, denL_map]
def endX {α : Type} (P : Program) (fn : Func) (K : SV → St → T α) : X → St → T α
  | .exit _, _ => .bad
  | _, σ => match resV P σ fn.results.toList with
    | some vs => K (oneV vs) σ
    | none => .bad
/-- The walk into a function, to a depth of calls. -/
def evD {α : Type} (P : Program) (C : Ctx) (F : Nat) : Nat → Inl α
  | 0, _, _, _, _ => .bad
  | d + 1, f, args, σ, K => match P.funcs[f]? with
    | some fn => match fn.body with
      | some c => fVs (args ++ List.replicate (fn.ntmps - args.length) .undef) fun t => ev P C F (evD P C F d) f c 0 { t := t, b := σ.b, fx := σ.fx, n := σ.n, wd := [], cs := σ.cs } (endX P fn K)
      | none => .bad
    | none => .bad
theorem evD_ok {P : Program} {C : Ctx} {F : Nat} {α : Type} {Φ : Sig} {L : List Int → α → Prop} (hC : CtxOK P Φ C) : ∀ d, InlOK P Φ L (evD P C F d) := by
  intro d
  induction d with
  | zero => intro f args σ K ρ η w R ht; exact ht.elim
  | succ d ih =>
    intro f args σ K ρ η w R ht hn hf hcs hb hcl hca hR
    unfold evD at ht
    split at ht
    · rename_i fn hfn
      split at ht
      · rename_i c hc
        rw [fVs_eq] at ht
        refine calls_of_wp hfn hc ?_
        refine ev_ok hC ih (nb0 := σ.b.length) (η0 := η) (w0 := w) c _ ρ _ _ _ ρ η _ w ht ?_ ?_
        · exact {
            cl := by
              simp only [St.cl, Bool.and_eq_true] at hcl ⊢
              exact ⟨⟨clL_app _ _ hca (clL_undef _), hcl.1.2⟩, hcl.2⟩
            len := hn, pre := ⟨[], by simp⟩, fx := hf
            ft := ⟨by simp, fun i v hv hn => by
              have e : ((args.map (denV ρ η)).toArray ++ Array.replicate (fn.ntmps - args.length) Go.undef) = ((args ++ List.replicate (fn.ntmps - args.length) SV.undef).map (denV ρ η)).toArray := by simp [denV]
              have hv' : (args ++ List.replicate (fn.ntmps - args.length) SV.undef)[i]? = some v := hv
              have : ((args ++ List.replicate (fn.ntmps - args.length) SV.undef).map (denV ρ η))[i]? = some (denV ρ η v) := by rw [List.getElem?_map, hv']; rfl
              simp only [List.size_toArray, List.length_map]
              rw [e]; simpa using this, rfl⟩
            rb := hb, nb := Nat.le_refl _, env := .refl _ _, size := Nat.le_refl _, io := .refl _
            newb := fun i hi hs => by simp only at hs; rw [getB_none hi] at hs; simp at hs
            newo := fun i hi hs => by simp only at hs; omega
            frame := fun _ _ _ => rfl
            cs := hcs }
        · intro x ρ' η' σ' a' w' ht' h'
          have key : ∀ {vs : List SV}, resV P σ' fn.results.toList = some vs → (K (oneV vs) σ').ok Φ L ρ' →
              a'.defers = [] ∧ ∃ v, (results fn a'.tmps).run P w' = .ok v w' ∧ R (.returned v) w' := fun hvs hL =>
            ⟨h'.ft.defers, _, run_results h'.ft h'.rb hvs, hR _ _ _ _ _ _ hL h'⟩
          cases x with
          | exit id => exact ht'.elim
          | normal =>
            simp only [endX] at ht'
            split at ht'
            · rename_i vs hvs
              exact key hvs ht'
            · exact ht'.elim
          | ret =>
            simp only [endX] at ht'
            split at ht'
            · rename_i vs hvs
              exact key hvs ht'
            · exact ht'.elim
      · exact ht.elim
    · exact ht.elim
abbrev Leaf := SV × Blks × List Nat
/-- A test that is known by now. -/
def nrmV (fx : Fx) : SV → SV
  | .bool b => .bool (nrmB fx b)
  | v => v
theorem nrmV_ok {ρ : List Int} {fx : Fx} (hf : FxOK ρ fx) (η : Env) (v : SV) : denV ρ η (nrmV fx v) = denV ρ η v := by
  cases v <;> first | rfl | (simp only [nrmV, denV, den_nrmB hf])
def evFn (P : Program) (C : Ctx) (F : Nat) (d : Nat) (f : FuncId) (args : List SV) (b : Blks) (fx : Fx) (n : Nat) : T Leaf :=
  if clL n (ltB b.length) args && clBs n (ltB b.length) b && clFx n fx then evD P C F d f args { t := [], b, fx, n, wd := [] } fun v σ => .leaf (nrmV σ.fx v, σ.b, σ.wd) else .bad
/-- What is known when a function has returned. -/
structure Done (Φ : Sig) (η0 : Env) (w0 : World) (ρ0 : List Int) (b0 : Blks) (ρ : List Int) (η : Env) (b : Blks) (wd : List Nat) (w : World) : Prop where
  pre : ∃ s, ρ = ρ0 ++ s
  rb : Rb Φ ρ η (getB b) w
  env : sameEnv b0.length η0 η
  size : w0.heap.size ≤ w.heap.size
  io : SameIO w0 w
  newb : ∀ i, b0.length ≤ i → (getB b i).isSome = true → Frs w0.heap.size wd b0.length η0 (η.β i)
  frame : ∀ b', b' < w0.heap.size → (∀ i ∈ wd, i < b0.length → b' ≠ η0.β i) → w.heap[b']? = w0.heap[b']?
theorem evFn_ok {P : Program} {C : Ctx} {F d : Nat} {Φ : Sig} {L : List Int → Leaf → Prop} (hC : CtxOK P Φ C)
    {f : FuncId} {args : List SV} {b : Blks} {fx : Fx} {n : Nat} {ρ : List Int} {η : Env} {w : World} (ht : (evFn P C F d f args b fx n).ok Φ L ρ)
    (hn : ρ.length = n) (hf : FxOK ρ fx) (hb : Rb Φ ρ η (getB b) w) :
    Calls P f (args.map (denV ρ η)).toArray w fun e w' => ∃ ρ' η' v b' wd, e = .returned (denV ρ' η' v) ∧ L ρ' (v, b', wd) ∧ Done Φ η w ρ b ρ' η' b' wd w' := by
  unfold evFn at ht
  split at ht
  rotate_left
  · exact ht.elim
  rename_i hc
  simp only [Bool.and_eq_true] at hc
  exact evD_ok hC d f args _ _ ρ η w _ ht hn hf (fun p hp => by cases hp) hb (by simp only [St.cl, Bool.and_eq_true]; exact ⟨⟨rfl, hc.1.2⟩, hc.2⟩) hc.1.1 fun ρ' η' v _ _ _ hL h' =>
    ⟨ρ', η', _, _, _, by rw [nrmV_ok h'.fx], hL, { pre := h'.pre, rb := h'.rb, env := h'.env, size := h'.size, io := h'.io, newb := h'.newb, frame := h'.frame }⟩
end Go.Proofs.Ytnnnmdmniceenaa.Ev
