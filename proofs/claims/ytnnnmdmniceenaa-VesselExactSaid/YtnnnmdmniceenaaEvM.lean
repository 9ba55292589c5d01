/- Regions that draw their order: the whole region. -/
import Derived.Test.YtnnnmdmniceenaaEvL
set_option linter.unusedSimpArgs false
set_option linter.unusedVariables false
namespace Go.Proofs.Ytnnnmdmniceenaa.Ev
section
variable {P : Program} {C : Ctx} {Φ : Sig} {ops : Array Oper}
def lsd (listed : Array Bool) : Nat → Bool := fun i => listed.getD i false
structure Pos (ops : Array Oper) (an : Anc) (fl : List Fl) (listed : Array Bool) : Prop where
  down : DownC ops (lsd listed)
  dn : ∀ i, lsd listed i = true → doneA an i = true
  flt : ∀ p ∈ an, lsd listed p.1 = true ∨ ∃ f ∈ fl, f.i = p.1
  size : listed.size = ops.size
def Ord (ops : Array Oper) : Anc → Prop
  | [] => True
  | p :: l => (∃ o, ops[p.1]? = some o ∧ ∀ e ∈ bnds o, doneA l e = true) ∧ Ord ops l
theorem mem_bnds {o : Oper} {e : Nat} : e ∈ bnds o ↔ ∃ d ∈ o.after, Region.binds .any d = true ∧ d.on = e := by
  simp [bnds, and_assoc]
theorem ready_iff {listed : Array Bool} (hs : listed.size = ops.size) {j : Nat} : j ∈ Region.ready .any ops listed ↔ lsd listed j = false ∧ ∃ o, ops[j]? = some o ∧ ∀ e ∈ bnds o, lsd listed e = true := by
  rw [mem_ready]
  constructor
  · rintro ⟨h1, o, h2, h3⟩
    have hj : j < listed.size := by rw [hs]; exact (Array.getElem?_eq_some_iff.1 h2).1
    refine ⟨by simpa [lsd, hj] using h1, o, h2, fun e he => ?_⟩
    obtain ⟨d, hd, hb, rfl⟩ := mem_bnds.1 he
    exact h3 d hd hb
  · rintro ⟨h1, o, h2, h3⟩
    have hj : j < listed.size := by rw [hs]; exact (Array.getElem?_eq_some_iff.1 h2).1
    exact ⟨by simpa [lsd, hj] using h1, o, h2, fun d hd hb => h3 _ (mem_bnds.2 ⟨d, hd, hb, rfl⟩)⟩
theorem lsd_set {listed : Array Bool} {j : Nat} (hj : j < listed.size) : lsd (listed.setIfInBounds j true) = fun i => i == j || lsd listed i := by
  funext i
  unfold lsd
  by_cases h : j = i
  · subst h; simp [hj]
  · have : (i == j) = false := by simpa using fun e => h e.symm
    rw [this, Bool.false_or]
    simp [Array.getElem?_setIfInBounds_ne h]
def cnt (ops : Array Oper) (listed : Array Bool) : Nat := (List.range ops.size).countP fun i => !lsd listed i
theorem countP_lt {p q : Nat → Bool} : ∀ {l : List Nat} {x : Nat}, (∀ i, q i = true → p i = true) → x ∈ l → p x = true → q x = false → l.countP q < l.countP p
  | [], _, _, h, _, _ => by cases h
  | y :: l, x, hi, h, hp, hq => by
    rw [List.countP_cons, List.countP_cons]
    have hm : l.countP q ≤ l.countP p := List.countP_mono_left fun i _ hi' => hi i hi'
    rcases List.mem_cons.1 h with rfl | h
    · rw [hp, hq]; simp; omega
    · have := countP_lt hi h hp hq
      cases hqy : q y with
      | true => rw [hi y hqy]; simp; omega
      | false => simp; omega
theorem cnt_set {listed : Array Bool} (hs : listed.size = ops.size) {j : Nat} (hj : j < ops.size) (hu : lsd listed j = false) : cnt ops (listed.setIfInBounds j true) < cnt ops listed := by
  unfold cnt
  refine countP_lt (x := j) (fun i hi => ?_) (List.mem_range.2 hj) (by simp [hu]) ?_
  · rw [lsd_set (by omega)] at hi
    simp only [Bool.not_eq_true', Bool.or_eq_false_iff] at hi ⊢
    exact hi.2
  · rw [lsd_set (by omega)]; simp
theorem cnt_zero {listed : Array Bool} (h : cnt ops listed ≤ 0) {j : Nat} (hj : j < ops.size) : lsd listed j = true := by
  have : (List.range ops.size).countP (fun i => !lsd listed i) = 0 := by unfold cnt at h; omega
  rw [List.countP_eq_zero] at this
  have := this j (List.mem_range.2 hj)
  simpa using this
theorem ready_ex {listed : Array Bool} : ∀ {an : Anc}, Ord ops an → (∀ i, doneA an i = true → lsd listed i = true) ∨ ∃ i, doneA an i = true ∧ lsd listed i = false ∧ ∃ o, ops[i]? = some o ∧ ∀ e ∈ bnds o, lsd listed e = true
  | [], _ => .inl fun i h => by simp [doneA] at h
  | p :: l, ⟨⟨o, ho, hb⟩, hl⟩ => by
    rcases ready_ex (listed := listed) hl with h | ⟨i, h1, h2⟩
    · cases hp : lsd listed p.1 with
      | true =>
        refine .inl fun i hi => ?_
        simp only [doneA, List.any_cons, Bool.or_eq_true, beq_iff_eq] at hi
        rcases hi with rfl | hi
        · exact hp
        · exact h i hi
      | false => exact .inr ⟨p.1, by simp [doneA], hp, o, ho, fun e he => h e (hb e he)⟩
    · exact .inr ⟨i, by simp only [doneA, List.any_cons, Bool.or_eq_true]; exact .inr h1, h2⟩
theorem wpOp_in {Q : Exit → Act → World → Prop} {i : Nat} {o : Oper} (ho : ops[i]? = some o) (hg : o.guard = none) {K : Act → World → Prop} {a : Act} {w : World} (h : o.wp P a w K Q) : wpOp P ops Q i K a w := by
  unfold wpOp
  simp only [ho]
  rw [if_pos (by simp [Region.wanted, hg])]
  exact .inl h
theorem Pos.set {an an' : Anc} {fl fl' : List Fl} {listed : Array Bool} (h : Pos ops an fl listed) {j : Nat} {o : Oper} (ho : ops[j]? = some o) (hb : ∀ e ∈ bnds o, lsd listed e = true)
    (h1 : ∀ i, doneA an i = true → doneA an' i = true) (h2 : doneA an' j = true) (h3 : ∀ p ∈ an', (p.1 = j ∨ lsd listed p.1 = true) ∨ ∃ f ∈ fl', f.i = p.1) : Pos ops an' fl' (listed.setIfInBounds j true) := by
  have hj : j < listed.size := by rw [h.size]; exact (Array.getElem?_eq_some_iff.1 ho).1
  refine ⟨?_, ?_, ?_, by simp [h.size]⟩
  · rw [lsd_set hj]
    intro i o' ho' hi e he
    simp only [Bool.or_eq_true, beq_iff_eq] at hi ⊢
    rcases hi with rfl | hi
    · rw [ho] at ho'; simp only [Option.some.injEq] at ho'; subst ho'; exact .inr (hb e he)
    · exact .inr (h.down i o' ho' hi e he)
  · rw [lsd_set hj]
    intro i hi
    simp only [Bool.or_eq_true, beq_iff_eq] at hi
    rcases hi with rfl | hi
    · exact h2
    · exact h1 i (h.dn i hi)
  · rw [lsd_set hj]
    intro p hp
    simp only [Bool.or_eq_true, beq_iff_eq]
    exact h3 p hp
/-- The floats that are known are done one after the other, as the tape draws them. -/
theorem drain (hC : CtxOK P Φ C) {nb0 : Nat} {η0 : Env} {w0 : World} {ρ0 ρ : List Int} {σ : St} {an : Anc} {fl : List Fl} (hS : Stat P C Φ ops nb0 ρ σ an fl) {Q : Exit → Act → World → Prop}
    (hend : ∀ listed η a w, Pos ops an fl listed → Inv Φ nb0 η0 w0 ρ0 ρ η (σ.msk fl (lsd listed)) a w → Region.ready .any ops listed = [] → Q .normal a w)
    (hstep : ∀ fuel listed η a w j, Pos ops an fl listed → Inv Φ nb0 η0 w0 ρ0 ρ η (σ.msk fl (lsd listed)) a w → cnt ops listed ≤ fuel + 1 → j ∈ Region.ready .any ops listed → doneA an j = false → wpOp P ops Q j (wpAny P .any ops Q fuel (listed.setIfInBounds j true)) a w) :
    ∀ fuel listed η a w, Pos ops an fl listed → Inv Φ nb0 η0 w0 ρ0 ρ η (σ.msk fl (lsd listed)) a w → cnt ops listed ≤ fuel → wpAny P .any ops Q fuel listed a w := by
  intro fuel
  induction fuel with
  | zero =>
    intro listed η a w hp hi hc
    have hr : Region.ready .any ops listed = [] := by
      cases hr : Region.ready .any ops listed with
      | nil => rfl
      | cons j l =>
        obtain ⟨h1, o, h2, _⟩ := (ready_iff hp.size).1 (show j ∈ Region.ready .any ops listed by rw [hr]; exact List.mem_cons_self ..)
        rw [cnt_zero hc (Array.getElem?_eq_some_iff.1 h2).1] at h1; cases h1
    exact ⟨hr, hend _ _ _ _ hp hi hr⟩
  | succ fuel ih =>
    intro listed η a w hp hi hc
    refine ⟨fun hr => hend _ _ _ _ hp hi hr, fun j hj => ?_⟩
    cases hd : doneA an j with
    | false => exact hstep fuel listed η a w j hp hi hc hj hd
    | true =>
      obtain ⟨h1, o, h2, h3⟩ := (ready_iff hp.size).1 hj
      obtain ⟨p, hpm, rfl⟩ := doneA_iff.1 hd
      rcases hp.flt p hpm with hl | ⟨f, hf, hfi⟩
      · rw [h1] at hl; cases hl
      · obtain ⟨g1, g2, _⟩ := hS.fli f hf
        have hlt : p.1 < ops.size := (Array.getElem?_eq_some_iff.1 h2).1
        rw [← hfi] at h1 h2 hlt ⊢
        rw [g1] at h2; simp only [Option.some.injEq] at h2; subst h2
        refine exec_ok hC hS hi hp.down hf h1 h3 fun η' a' w' h' => ?_
        refine ih _ η' a' w' (hp.set g1 h3 (fun _ h => h) (doneA_iff.2 ⟨p, hpm, hfi.symm⟩) fun q hq => ?_) (by rw [lsd_set (by rw [hp.size]; exact hlt)]; exact h') ?_
        · rcases hp.flt q hq with h | h
          · exact .inl (.inr h)
          · exact .inr h
        · have := cnt_set hp.size hlt h1; omega
theorem maskT_all {p : Nat → Bool} (h : ∀ i, p i = true) : ∀ (l : List SV) (k : Nat), maskT p k l = l
  | [], _ => rfl
  | v :: l, k => by simp [maskT, h, maskT_all h l]
theorem maskB_all {p : Nat → Bool} (h : ∀ i, p i = true) : ∀ (l : Blks) (k : Nat), maskB p k l = l
  | [], _ => rfl
  | v :: l, k => by simp [maskB, h, maskB_all h l]
theorem Stat.know {nb0 : Nat} {ρ : List Int} {σ : St} {an : Anc} {fl : List Fl} (hS : Stat P C Φ ops nb0 ρ σ an fl) {b : B} (hb : clB σ.n b = true) (t : Bool) : Stat P C Φ ops nb0 ρ { σ with fx := assume σ.fx b t } an fl where
  pend := fun f hf => by
    have h := hS.pend f hf
    exact { ev := h.ev, gd := h.gd, fx := h.fx, cal := h.cal, asr := h.asr, len := h.len, clf := h.clf, cle := h.cle, cla := h.cla, kind := h.kind, nbl := h.nbl, tl := h.tl, dst := h.dst, tmps := h.tmps, ts := h.ts, blks := h.blks }
  anc := hS.anc
  fli := hS.fli
  inj := hS.inj
  clean := hS.clean
  len := hS.len
  cl := know_cl hS.cl hb t
theorem drawE_ok (hC : CtxOK P Φ C) {α : Type} {LL : List Int → α → Prop} {inl : Inl α} (hI : InlOK P Φ LL inl) {nb0 : Nat} {η0 : Env} {w0 : World} {ρ0 : List Int} {Q : Exit → Act → World → Prop} {K : St → T α}
    (hQ : ∀ ρ' η' σ' a' w', (K σ').ok Φ LL ρ' → Inv Φ nb0 η0 w0 ρ0 ρ' η' σ' a' w' → Q .normal a' w') :
    ∀ (m : Nat) (σ : St) (an : Anc) (fl : List Fl) (ρ : List Int), (drawE P C inl ops K m σ an fl).ok Φ LL ρ → Stat P C Φ ops nb0 ρ σ an fl → Ord ops an →
    ∀ fuel listed η a w, Pos ops an fl listed → Inv Φ nb0 η0 w0 ρ0 ρ η (σ.msk fl (lsd listed)) a w → cnt ops listed ≤ fuel → wpAny P .any ops Q fuel listed a w := by
  intro m
  induction m with
  | zero => intro σ an fl ρ ht; exact ht.elim
  | succ m ih =>
    intro σ an fl ρ ht hS hO
    unfold drawE at ht
    simp only [fL_eq fN_eq, fL_eq fId_eq, St.fS_eq, fRes_eq, fB_eq, St.putF_eq, St.skipF_eq, St.knowF_eq] at ht
    split at ht
    · -- a float's place
      rename_i i o hfind
      obtain ⟨h1, _, h3⟩ := find1_ok hfind
      simp only [Bool.and_eq_true, rdy, Bool.not_eq_true', List.all_eq_true] at h1
      obtain ⟨⟨hnd, hbd⟩, _⟩ := h1
      have hoi : ops[i]? = some o := by simpa using h3
      split at ht
      · rename_i r sk hr
        obtain ⟨hev, hgd⟩ := evG_ok hr
        split at ht
        · rename_i hc
          simp only [Bool.and_eq_true] at hc
          obtain ⟨⟨hc1, hc2⟩, hc3⟩ := hc
          obtain ⟨ha, ht⟩ := wrapA_ok ht
          have ht := wrapC_ok ht
          intro fuel listed η a w hp hi hcnt
          have hun : lsd listed i = false := by
            cases hl : lsd listed i with
            | false => rfl
            | true => rw [hp.dn i hl] at hnd; cases hnd
          obtain ⟨⟨η', h'⟩, hS'⟩ := logi_ok hC hS hi (g := { i, o, s := σ.sub fl (gTs ops o ++ opTs o) (some (footOf (opdF σ.fx σ.t) o.op)) (ancOf an (bnds o)), r, anc := ancOf an (bnds o), gt := gTs ops o, sk }) hoi
            (fun f hf he => by rw [doneA_iff.2 ⟨_, (hS.fli f hf).2.2, he⟩] at hnd; cases hnd) hun rfl rfl hev hgd hc1 hc2 hc3 ha
          refine ih _ _ _ _ ht hS' ⟨⟨o, hoi, hbd⟩, hO⟩ fuel listed η' a w ⟨hp.down, fun j hj => ?_, fun p hpm => ?_, hp.size⟩ h' hcnt
          · obtain ⟨q, hq, he⟩ := doneA_iff.1 (hp.dn j hj)
            exact doneA_iff.2 ⟨q, List.mem_cons_of_mem _ hq, he⟩
          · rcases List.mem_cons.1 hpm with rfl | hpm
            · exact .inr ⟨_, List.mem_cons_self .., rfl⟩
            · rcases hp.flt p hpm with h | ⟨f, hf, he⟩
              · exact .inl h
              · exact .inr ⟨f, List.mem_cons_of_mem _ hf, he⟩
        · exact ht.elim
      · exact ht.elim
    · split at ht
      · -- an operation of the chain
        rename_i i o hfind
        obtain ⟨h1, _, h3⟩ := find1_ok hfind
        simp only [Bool.and_eq_true, rdy, Bool.not_eq_true', List.all_eq_true] at h1
        obtain ⟨hnd, hbd⟩ := h1
        have hoi : ops[i]? = some o := by simpa using h3
        have hlt : i < ops.size := (Array.getElem?_eq_some_iff.1 hoi).1
        split at ht
        · rename_i hc
          have hc2 := hc
          refine drain hC hS (fun listed η a w hp hi hr => ?_) fun fuel listed η a w j hp hi hcnt hj hjd => ?_
          · -- something is always ready
            exfalso
            rcases ready_ex (listed := listed) hO with hall | ⟨k, _, hk, ok, hok, hkb⟩
            · have hun : lsd listed i = false := by
                cases hl : lsd listed i with
                | false => rfl
                | true => rw [hp.dn i hl] at hnd; cases hnd
              have : i ∈ Region.ready .any ops listed := (ready_iff hp.size).2 ⟨hun, o, hoi, fun e he => hall e (hbd e he)⟩
              rw [hr] at this; cases this
            · have : k ∈ Region.ready .any ops listed := (ready_iff hp.size).2 ⟨hk, ok, hok, hkb⟩
              rw [hr] at this; cases this
          · obtain ⟨g1, oj, g2, g3⟩ := (ready_iff hp.size).1 hj
            have hji : j = i := by
              have := allO_get hc2 (show ops.toList[j]? = some oj by simpa using g2)
              simp only [Nat.zero_add, hjd, Bool.false_or, Bool.or_eq_true, beq_iff_eq, Bool.not_eq_true'] at this
              rcases this with h | h
              · exact h
              · have : (bnds oj).all (doneA an) = true := List.all_eq_true.2 fun e he => hp.dn e (g3 e he)
                rw [this] at h; cases h
            subst hji
            rw [hoi] at g2; simp only [Option.some.injEq] at g2; subst g2
            have hanc : ∀ k ∈ ancOf an (bnds o), lsd listed k = true := AN_new hS.anc hoi _ hp.down fun o' ho' => by
              rw [hoi] at ho'; simp only [Option.some.injEq] at ho'; subst ho'; exact g3
            have hs := (sub_inv hi hanc (opTs o ++ gTs ops o) hS.cl).1
            -- behind the operation
            have nxt : ∀ ρ' η' a' w' σ1, (if chOK σ (σ.sub fl (opTs o ++ gTs ops o) none (ancOf an (bnds o))) σ1 o (fl.filter fun f => !(ancOf an (bnds o)).contains f.i) && clean (σ.mrg σ1 o) (fl.filter fun f => !(ancOf an (bnds o)).contains f.i) then drawE P C inl ops K m (σ.mrg σ1 o) ((j, ancOf an (bnds o)) :: an) (fl.filter fun f => !(ancOf an (bnds o)).contains f.i) else .bad).ok Φ LL ρ' →
                Inv Φ (σ.sub fl (opTs o ++ gTs ops o) none (ancOf an (bnds o))).b.length η w ρ ρ' η' σ1 a' w' → (∃ v, a' = a.put o.dst v) → wpAny P .any ops Q fuel (listed.setIfInBounds j true) a' w' := by
              intro ρ' η' a' w' σ1 ht' h1 hst
              split at ht'
              · rename_i hck
                simp only [Bool.and_eq_true] at hck
                obtain ⟨h', hS'⟩ := chain_ok hS hi hoi hnd rfl hanc rfl hst h1 hck.1 hck.2
                refine ih _ _ _ _ ht' hS' ⟨⟨o, hoi, hbd⟩, hO⟩ fuel _ η' a' w' (hp.set hoi g3 (fun k hk => ?_) (doneA_iff.2 ⟨_, List.mem_cons_self .., rfl⟩) fun p hpm => ?_) (by rw [lsd_set (by rw [hp.size]; exact hlt)]; exact h') ?_
                · obtain ⟨q, hq, he⟩ := doneA_iff.1 hk
                  exact doneA_iff.2 ⟨q, List.mem_cons_of_mem _ hq, he⟩
                · rcases List.mem_cons.1 hpm with rfl | hpm
                  · exact .inl (.inl rfl)
                  · rcases hp.flt p hpm with h | ⟨f, hf, he⟩
                    · exact .inl (.inr h)
                    · by_cases ha : f.i ∈ ancOf an (bnds o)
                      · exact .inl (.inr (he ▸ hanc _ ha))
                      · exact .inr ⟨f, by simp [hf, ha], he⟩
                · have := cnt_set hp.size hlt g1; omega
              · exact ht'.elim
            split at ht
            · exact ht.elim
            · rename_i hg
              exact wpOp_yes hoi (guardB_ok hs.ft hg) (run1_ok hC hI ht hs nxt)
            · rename_i g hg
              have hw := guardB_ok hs.ft hg
              have hgc := guardB_cl (by have := hs.cl; simp only [St.cl, Bool.and_eq_true] at this; exact this.1.1) hg
              split at ht
              · rename_i hd
                exact wpOp_yes hoi (hw.trans (decB_ok hs.fx _ _ hd)) (run1_ok hC hI ht hs nxt)
              · rename_i hd
                exact wpOp_no hoi (hw.trans (decB_ok hs.fx _ _ hd)) (nxt _ _ _ _ _ ht (hs.skip o) ⟨_, rfl⟩)
              · cases hv : denB ρ g with
                | true => exact wpOp_yes hoi (hw.trans hv) (run1_ok hC hI (ht.1 hv) (hs.know hv hgc) nxt)
                | false => exact wpOp_no hoi (hw.trans hv) (nxt _ _ _ _ _ (ht.2 hv) ((hs.know hv hgc).skip o) ⟨_, rfl⟩)
        · -- nothing can be taken yet: the guard is asked first
          split at ht
          · rename_i g hg
            intro fuel listed η a w hp hi hcnt
            have hgc : clB σ.n g = true := guardB_cl (p := ltB σ.b.length) (by have := hS.cl; simp only [St.cl, Bool.and_eq_true] at this; exact this.1.1) hg
            cases hv : denB ρ g with
            | true => exact ih _ _ _ _ (ht.1 hv) (hS.know hgc true) hO fuel listed η a w hp (hi.know hv hgc) hcnt
            | false => exact ih _ _ _ _ (ht.2 hv) (hS.know hgc false) hO fuel listed η a w hp (hi.know hv hgc) hcnt
          · exact ht.elim
      · -- the end
        split at ht
        · rename_i hall
          have hdone : ∀ j, j < ops.size → doneA an j = true := fun j hj => by
            have := allO_get hall (show ops.toList[j]? = some ops[j] by simp [hj])
            simpa using this
          refine drain hC hS (fun listed η a w hp hi hr => ?_) fun fuel listed η a w j hp hi hcnt hj hjd => ?_
          · rcases ready_ex (listed := listed) hO with hl | ⟨k, _, hk, ok, hok, hkb⟩
            · have hon : ∀ f ∈ fl, lsd listed f.i = true := fun f hf => hl _ (doneA_iff.2 ⟨_, (hS.fli f hf).2.2, rfl⟩)
              have e : σ.msk fl (lsd listed) = σ := by
                unfold St.msk
                rw [maskT_all fun i => tmpOn_iff.2 fun f hf _ => hon f hf, maskB_all fun i => blkOn_iff.2 fun f hf _ => hon f hf]
              rw [e] at hi
              exact hQ _ _ _ _ _ ht hi
            · have : k ∈ Region.ready .any ops listed := (ready_iff hp.size).2 ⟨hk, ok, hok, hkb⟩
              rw [hr] at this; cases this
          · obtain ⟨_, oj, g2, _⟩ := (ready_iff hp.size).1 hj
            rw [hdone j (Array.getElem?_eq_some_iff.1 g2).1] at hjd; cases hjd
        · exact ht.elim
end
/-- The walk of a region that draws its order. -/
def drawD (P : Program) (C : Ctx) {α : Type} (inl : Inl α) : Array Oper → St → (St → T α) → T α := fun ops σ K =>
  if P.follows .mixedOrders = true then drawE P C inl ops K (2 * ops.size + 1) { σ with wd := σ.wd } [] [] else .bad
theorem drawD_ok {P : Program} {C : Ctx} {Φ : Sig} (hC : CtxOK P Φ C) {α : Type} {LL : List Int → α → Prop} {inl : Inl α} (hI : InlOK P Φ LL inl) : DrawOK P Φ LL (drawD P C inl) := by
  intro id ops nb0 η0 w0 ρ0 Q σ K ρ η a w ht h hQ
  unfold drawD at ht
  split at ht
  · rename_i hm
    refine wp_region_any hm ?_
    have e0 : lsd (Array.replicate ops.size false) = fun _ => false := by
      funext i
      unfold lsd
      by_cases hi : i < ops.size <;> simp [hi]
    have h' : Inv Φ nb0 η0 w0 ρ0 ρ η σ a { w with drawn := w.drawn + 1 } := by
      exact { len := h.len, pre := h.pre, fx := h.fx, ft := h.ft
              rb := { al := h.rb.al, pf := h.rb.pf, gh := Φ.stable _ _ h.rb.gh fun _ _ => rfl, ap := h.rb.ap, holds := h.rb.holds, inj := h.rb.inj }
              nb := h.nb, env := h.env, size := h.size, io := h.io, newb := h.newb, newo := h.newo, frame := h.frame, cs := h.cs, cl := h.cl }
    have e : ∀ L, σ.msk [] L = σ := fun L => by
      unfold St.msk
      rw [maskT_all fun i => tmpOn_iff.2 fun f hf _ => (by cases hf), maskB_all fun i => blkOn_iff.2 fun f hf _ => (by cases hf)]
    refine drawE_ok hC hI hQ _ _ _ _ _ ht ⟨(fun f hf => by cases hf), (fun p hp => by cases hp), (fun f hf => by cases hf), (fun f hf => by cases hf), rfl, h.len, h.cl⟩ trivial ops.size (Array.replicate ops.size false) η a _
      ⟨fun i o _ hi => ?_, fun i hi => ?_, (fun p hp => by cases hp), by simp⟩ (by rw [e]; exact h') ?_
    · rw [e0] at hi; cases hi
    · rw [e0] at hi; cases hi
    · unfold cnt
      exact Nat.le_trans (List.countP_le_length) (by simp)
  · exact ht.elim
end Go.Proofs.Ytnnnmdmniceenaa.Ev
