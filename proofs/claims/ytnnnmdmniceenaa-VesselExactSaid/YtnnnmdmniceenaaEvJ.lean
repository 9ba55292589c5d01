/- Regions that draw their order: the walk's law. -/
import Derived.Test.YtnnnmdmniceenaaEvI
set_option linter.unusedSimpArgs false
set_option linter.unusedVariables false
namespace Go.Proofs.Ytnnnmdmniceenaa.Ev

theorem put_size (a : Act) (d : Option Tmp) (x : Value) : (a.put d x).tmps.size = a.tmps.size := by cases d <;> simp [Act.put]
theorem put_ne (a : Act) {d : Option Tmp} {j : Nat} (x : Value) (h : d ≠ some j) : (a.put d x).tmps[j]? = a.tmps[j]? := by
  cases d with
  | none => rfl
  | some d =>
    have : d ≠ j := fun e => h (e ▸ rfl)
    simp [Act.put, Array.getElem?_setIfInBounds_ne this]
theorem put_eq (a : Act) {j : Nat} (x : Value) (h : j < a.tmps.size) : (a.put (some j) x).tmps[j]? = some x := by simp [Act.put, h]
theorem put_def (a : Act) (d : Option Tmp) (x : Value) : (a.put d x).defers = a.defers := by cases d <;> rfl
theorem setT_length (t : List SV) (d : Option Tmp) (v : SV) : (setT t d v).length = t.length := by cases d <;> simp [setT]
theorem setT_ne (t : List SV) {d : Option Tmp} {j : Nat} (v : SV) (h : d ≠ some j) : (setT t d v)[j]? = t[j]? := by
  cases d with
  | none => rfl
  | some d =>
    have : d ≠ j := fun e => h (e ▸ rfl)
    simp [setT, List.getElem?_set_ne this]

section
variable {P : Program} {C : Ctx} {Φ : Sig} {ops : Array Oper}
/-- What a float that may still be to come has promised. -/
structure Pend (P : Program) (C : Ctx) (Φ : Sig) (ops : Array Oper) (nb0 : Nat) (ρ : List Int) (σ : St) (fl : List Fl) (f : Fl) : Prop where
  ev : (f.sk = false ∧ evOp P C f.s.fx f.s.n f.s.b.length (getB f.s.b) (opdF f.s.fx f.s.t) f.o.op = some f.r) ∨ (f.sk = true ∧ f.r = val .undef)
  gd : (guardB ops f.s.t f.o = some none ∧ f.sk = false) ∨ ∃ g, guardB ops f.s.t f.o = some (some g) ∧ clB f.s.n g = true ∧ denB ρ g = !f.sk
  fx : FxOK ρ f.s.fx
  cal : CalOK Φ ρ f.s.n f.r.cal
  asr : ∀ y ∈ f.r.asr, denB ρ y = true
  len : f.s.n + calN f.r.cal ≤ ρ.length
  clf : clFx f.s.n f.s.fx = true
  cle : (esOf f.r.cal).all (clE f.s.n) = true
  cla : f.r.asr.all (clB f.s.n) = true
  kind : (f.r.nn = 0 ∧ f.r.wr = []) ∨ (f.r.nn = 1 ∧ ∃ c, f.r.wr = [(f.s.b.length, some c)] ∧ getB σ.b f.s.b.length = some c)
  nbl : nb0 ≤ f.s.b.length
  tl : f.s.t.length = σ.t.length
  dst : ∀ d, f.o.dst = some d → d < σ.t.length → σ.t[d]? = some f.r.v
  tmps : ∀ j v, f.s.t[j]? = some v → v.isAny = false → σ.t[j]? = some v ∧ ∀ g ∈ fl, g.o.dst = some j → g.i ∈ f.anc
  ts : ∀ d, (fTs f).contains d = false → (f.s.t.getD d .any).isAny = true
  blks : ∀ j c, getB f.s.b j = some c → getB σ.b j = some c ∧ ∀ g ∈ fl, lays g j = true → g.i ∈ f.anc
theorem CalOK.more {ρ : List Int} {n : Nat} {c : Option (Nat × List E × Nat)} (h : CalOK Φ ρ n c) (hl : n + calN c ≤ ρ.length) (hc : (esOf c).all (clE n) = true) (s : List Int) : CalOK Φ (ρ ++ s) n c := by
  intro k es m hk i hi
  subst hk
  have hl' : n + m ≤ ρ.length := hl
  have e : es.map (den (ρ ++ s)) = es.map (den ρ) := List.map_congr_left fun e he => clE_ok (List.all_eq_true.1 hc e he) (by omega) _
  rw [e, ← h k es m rfl i hi]
  simp only [List.getD_eq_getElem?_getD]
  rw [List.getElem?_append_left (by omega)]
theorem Pend.ext {nb0 : Nat} {ρ : List Int} {σ σ' : St} {fl fl' : List Fl} {f : Fl} (h : Pend P C Φ ops nb0 ρ σ fl f) (s : List Int) (ht : σ'.t.length = σ.t.length)
    (h1 : ∀ j, (f.o.dst = some j ∨ ∃ v, f.s.t[j]? = some v ∧ v.isAny = false) → σ'.t[j]? = σ.t[j]?)
    (h2 : ∀ j c, (lays f j = true ∨ (getB f.s.b j).isSome = true) → getB σ.b j = some c → getB σ'.b j = some c)
    (h3 : ∀ g ∈ fl', g ∈ fl ∨ ((∀ j v, f.s.t[j]? = some v → v.isAny = false → g.o.dst ≠ some j) ∧ ∀ j, (getB f.s.b j).isSome = true → lays g j = false)) : Pend P C Φ ops nb0 (ρ ++ s) σ' fl' f where
  ev := h.ev
  gd := h.gd.imp id fun ⟨g, h1, h2, h3⟩ => ⟨g, h1, h2, by rw [clB_ok h2 (by have := h.len; omega)]; exact h3⟩
  fx := clFx_ok h.clf (by have := h.len; omega) s h.fx
  cal := h.cal.more h.len h.cle s
  asr := fun y hy => by rw [clB_ok (List.all_eq_true.1 h.cla y hy) (by have := h.len; omega)]; exact h.asr y hy
  len := by have := h.len; rw [List.length_append]; omega
  clf := h.clf
  cle := h.cle
  cla := h.cla
  kind := by
    rcases h.kind with hk | ⟨hk, c, hc, hg⟩
    · exact .inl hk
    · exact .inr ⟨hk, c, hc, h2 _ _ (.inl (by simp [lays, hk])) hg⟩
  nbl := h.nbl
  ts := h.ts
  tl := by rw [h.tl, ht]
  dst := fun d hd hl => by rw [h1 d (.inl hd)]; exact h.dst d hd (by rw [← ht]; exact hl)
  tmps := fun j v hv hn => by
    obtain ⟨e1, e2⟩ := h.tmps j v hv hn
    refine ⟨by rw [h1 j (.inr ⟨v, hv, hn⟩)]; exact e1, fun g hg hgd => ?_⟩
    rcases h3 g hg with hg' | hg'
    · exact e2 g hg' hgd
    · exact absurd hgd (hg'.1 j v hv hn)
  blks := fun j c hc => by
    obtain ⟨e1, e2⟩ := h.blks j c hc
    refine ⟨h2 j c (.inr (by rw [hc]; rfl)) e1, fun g hg hgd => ?_⟩
    rcases h3 g hg with hg' | hg'
    · exact e2 g hg' hgd
    · rw [hg'.2 j (by rw [hc]; rfl)] at hgd; cases hgd
/-- What is known at a place of the walk, whatever floats are done. -/
structure Stat (P : Program) (C : Ctx) (Φ : Sig) (ops : Array Oper) (nb0 : Nat) (ρ : List Int) (σ : St) (an : Anc) (fl : List Fl) : Prop where
  pend : ∀ f ∈ fl, Pend P C Φ ops nb0 ρ σ fl f
  anc : AN ops an
  fli : ∀ f ∈ fl, ops[f.i]? = some f.o ∧ True ∧ (f.i, f.anc) ∈ an
  inj : ∀ f ∈ fl, ∀ g ∈ fl, f.i = g.i → f = g
  clean : clean σ fl = true
  len : ρ.length = σ.n
  cl : σ.cl = true
theorem Stat.free {nb0 : Nat} {ρ : List Int} {σ : St} {an : Anc} {fl : List Fl} (hS : Stat P C Φ ops nb0 ρ σ an fl) {L : Nat → Bool} (hd : DownC ops L) {f g : Fl} (hg : g ∈ fl)
    (hun : L f.i = false) (hL : L g.i = true) (hc : (g.i == f.i || g.anc.contains f.i) = true) : False := by
  simp only [Bool.or_eq_true, beq_iff_eq, List.contains_iff_mem] at hc
  rcases hc with hc | hc
  · rw [hc, hun] at hL; cases hL
  · obtain ⟨h1, _, h3⟩ := hS.fli g hg
    have := hS.anc _ h3 L hd (fun o ho => by rw [h1] at ho; simp only [Option.some.injEq] at ho; subst ho; exact hd _ _ h1 hL) _ hc
    rw [hun] at this; cases this
theorem wpOp_yes {Q : Exit → Act → World → Prop} {i : Nat} {o : Oper} (ho : ops[i]? = some o) {K : Act → World → Prop} {a : Act} {w : World} (hg : Region.wanted o (yielded ops a.tmps) = true) (h : o.wp P a w K Q) : wpOp P ops Q i K a w := by
  unfold wpOp
  simp only [ho]
  rw [if_pos hg]
  exact .inl h
theorem wpOp_no {Q : Exit → Act → World → Prop} {i : Nat} {o : Oper} (ho : ops[i]? = some o) {K : Act → World → Prop} {a : Act} {w : World} (hg : Region.wanted o (yielded ops a.tmps) = false) (h : K (a.put o.dst Go.undef) w) : wpOp P ops Q i K a w := by
  unfold wpOp
  simp only [ho]
  rw [if_neg (by simp [hg])]
  exact h
theorem exec_ok (hC : CtxOK P Φ C) {nb0 : Nat} {η0 : Env} {w0 : World} {ρ0 ρ : List Int} {η : Env} {σ : St} {an : Anc} {fl : List Fl} {L : Nat → Bool} {a : Act} {w : World} {f : Fl}
    (hS : Stat P C Φ ops nb0 ρ σ an fl) (h : Inv Φ nb0 η0 w0 ρ0 ρ η (σ.msk fl L) a w) (hd : DownC ops L) (hf : f ∈ fl) (hun : L f.i = false) (hdep : ∀ e ∈ bnds f.o, L e = true)
    {K : Act → World → Prop} {Q : Exit → Act → World → Prop} (hK : ∀ η' a' w', Inv Φ nb0 η0 w0 ρ0 ρ η' (σ.msk fl fun i => i == f.i || L i) a' w' → K a' w') : wpOp P ops Q f.i K a w := by
  have hp := hS.pend f hf
  have hfl := hS.fli f hf
  have hanc : ∀ k ∈ f.anc, L k = true := hS.anc _ hfl.2.2 L hd fun o ho => by
    rw [hfl.1] at ho; simp only [Option.some.injEq] at ho; subst ho; exact hdep
  have hFt : Ft ρ η f.s.t a := ⟨by rw [h.ft.len]; simp [St.msk, maskT_length, hp.tl], fun j v hv hn => by
    obtain ⟨e1, e2⟩ := hp.tmps j v hv hn
    refine h.ft.at_ j v ?_ hn
    show (maskT (tmpOn fl L) 0 σ.t)[j]? = some v
    rw [maskT_get, e1]
    simp [tmpOn_iff.2 fun g hg hgd => hanc _ (e2 g hg hgd)], h.ft.defers⟩
  have sub : ∀ j c, getB f.s.b j = some c → getB (σ.msk fl L).b j = some c := fun j c hc => by
    obtain ⟨e1, e2⟩ := hp.blks j c hc
    show getB (maskB (blkOn fl L) 0 σ.b) j = some c
    rw [getB_mask, if_pos (blkOn_iff.2 fun g hg hgd => hanc _ (e2 g hg hgd)), e1]
  have subS : ∀ j, (getB f.s.b j).isSome = true → (getB (σ.msk fl L).b j).isSome = true := fun j hj => by
    obtain ⟨c, hc⟩ := Option.isSome_iff_exists.1 hj
    rw [sub j c hc]; rfl
  have hRb : Rb Φ ρ η (getB f.s.b) w := { al := h.rb.al, pf := h.rb.pf, gh := h.rb.gh, ap := fun i hi => h.rb.ap i (subS i hi), holds := fun i T cs hi => h.rb.holds i T cs (sub i _ hi), inj := fun i j hi hj => h.rb.inj i j (subS i hi) (subS j hj) }
  suffices main : ∀ η' w', Eff ρ η η' (getB f.s.b) f.s.b.length f.r w w' → Inv Φ nb0 η0 w0 ρ0 ρ η' (σ.msk fl fun i => i == f.i || L i) (a.put f.o.dst (denV ρ η' f.r.v)) w' by
    rcases hp.gd with ⟨hg, hsk⟩ | ⟨b, hg, hbc, hbv⟩
    · rcases hp.ev with ⟨_, hev⟩ | ⟨hsk', _⟩
      · exact wpOp_yes hfl.1 (guardB_ok hFt hg) (evOp_ok hC hev hp.fx hp.cal hp.asr hRb (fun i hi => getB_none hi) (fun y v hy => opdF_ok hp.fx hFt hy) fun η' w' hE => hK η' _ w' (main η' w' hE))
      · rw [hsk] at hsk'; cases hsk'
    · have hw := guardB_ok hFt hg
      rcases hp.ev with ⟨hsk, hev⟩ | ⟨hsk, hr⟩
      · exact wpOp_yes hfl.1 (hw.trans (by simp only; rw [hbv, hsk]; rfl)) (evOp_ok hC hev hp.fx hp.cal hp.asr hRb (fun i hi => getB_none hi) (fun y v hy => opdF_ok hp.fx hFt hy) fun η' w' hE => hK η' _ w' (main η' w' hE))
      · refine wpOp_no hfl.1 (hw.trans (by simp only; rw [hbv, hsk]; rfl)) ?_
        have := main η w (Eff.pure (by rw [hr]; rfl) (by rw [hr]; rfl))
        rw [show denV ρ η f.r.v = Go.undef by rw [hr]; simp [val, denV]] at this
        exact hK η _ w this
  intro η' w' hE
  have hwr : ∀ p ∈ f.r.wr, p.1 = f.s.b.length := by
    rcases hp.kind with ⟨_, hk⟩ | ⟨_, c, hk, _⟩
    · rw [hk]; intro p hp; cases hp
    · rw [hk]; intro p hp; rw [List.mem_singleton.1 hp]
  have hnn : f.r.nn ≤ 1 := by rcases hp.kind with ⟨hk, _⟩ | ⟨hk, _⟩ <;> omega
  have lay1 : ∀ i, lays f i = true ↔ f.r.nn = 1 ∧ i = f.s.b.length := fun i => by
    simp only [lays, Bool.and_eq_true, bne_iff_ne, ne_eq, beq_iff_eq]
    constructor
    · rintro ⟨h1, h2⟩; exact ⟨by omega, h2.symm⟩
    · rintro ⟨h1, h2⟩; exact ⟨by omega, h2.symm⟩
  have hsame : ∀ i, lays f i = false → η'.β i = η.β i ∧ η'.κ i = η.κ i := fun i hi => by
    refine hE.same i ?_
    have : ¬ (f.r.nn = 1 ∧ i = f.s.b.length) := fun hc => by rw [(lay1 i).2 hc] at hi; cases hi
    omega
  have hfresh : ∀ i, lays f i = true → w.heap.size ≤ η'.β i := fun i hi => by
    obtain ⟨h1, h2⟩ := (lay1 i).1 hi
    rcases hE.fresh i (by omega) (by omega) with hf | ⟨j, hj, _⟩
    · exact hf
    · exfalso
      rcases hp.kind with ⟨_, hk⟩ | ⟨_, c, hk, _⟩
      · rw [hk] at hj; cases hj
      · rw [hk] at hj; simp at hj
  have hheap : ∀ b, b < w.heap.size → w'.heap[b]? = w.heap[b]? := fun b hb => hE.frame b hb fun p hp' hlt => by have := hwr p hp'; omega
  have dsame : ∀ v, (f.r.nn = 0 ∨ clV σ.n (neB f.s.b.length) v = true) → denV ρ η' v = denV ρ η v := fun v hv => by
    rcases hv with h0 | hv
    · rw [hE.eqEnv h0]
    · have := clV_ok v hv (ρ := ρ) (η := η) (η' := η') (by have := hS.len; omega) ⟨hE.al, fun i hi => hsame i (by
        cases hl : lays f i with
        | false => rfl
        | true => have := ((lay1 i).1 hl).2; simp [neB, this] at hi)⟩ []
      simpa using this
  have hcl := List.all_eq_true.1 hS.clean f hf
  have tclean : ∀ j v, σ.t[j]? = some v → tmpOn fl L j = true → f.r.nn = 0 ∨ clV σ.n (neB f.s.b.length) v = true := fun j v hv hon => by
    unfold clean1 at hcl
    simp only [Bool.or_eq_true, beq_iff_eq, Bool.and_eq_true] at hcl
    rcases hcl with h0 | ⟨h1, _⟩
    · exact .inl h0
    · have := allT_get h1 hv
      simp only [Nat.zero_add, Bool.or_eq_true] at this
      rcases this with h2 | h2
      · exact .inr h2
      · obtain ⟨g, hg, hgc⟩ := List.any_eq_true.1 h2
        simp only [Bool.and_eq_true] at hgc
        exact (hS.free hd hg hun (tmpOn_iff.1 hon g hg (dstIs_iff.1 hgc.1)) hgc.2).elim
  have bclean : ∀ j T cs, getB σ.b j = some (T, cs) → blkOn fl L j = true → cs.map (denV ρ η') = cs.map (denV ρ η) := fun j T cs hv hon => by
    unfold clean1 at hcl
    simp only [Bool.or_eq_true, beq_iff_eq, Bool.and_eq_true] at hcl
    rcases hcl with h0 | ⟨_, h1⟩
    · rw [hE.eqEnv h0]
    · have := allB_get h1 hv
      simp only [Nat.zero_add, Bool.or_eq_true] at this
      rcases this with h2 | h2
      · exact List.map_congr_left fun x hx => dsame x (.inr (clL_mem h2 x hx))
      · obtain ⟨g, hg, hgc⟩ := List.any_eq_true.1 h2
        simp only [Bool.and_eq_true] at hgc
        exact (hS.free hd hg hun (blkOn_iff.1 hon g hg hgc.1) hgc.2).elim
  -- what the new mask lets through
  have tOn : ∀ j, tmpOn fl (fun i => i == f.i || L i) j = true → f.o.dst ≠ some j → tmpOn fl L j = true := fun j hj hne => tmpOn_iff.2 fun g hg hgd => by
    have := tmpOn_iff.1 hj g hg hgd
    simp only [Bool.or_eq_true, beq_iff_eq] at this
    rcases this with h1 | h1
    · exact absurd (hS.inj g hg f hf h1 ▸ hgd) hne
    · exact h1
  have bOn : ∀ j, blkOn fl (fun i => i == f.i || L i) j = true → lays f j = false → blkOn fl L j = true := fun j hj hne => blkOn_iff.2 fun g hg hgd => by
    have := blkOn_iff.1 hj g hg hgd
    simp only [Bool.or_eq_true, beq_iff_eq] at this
    rcases this with h1 | h1
    · have := hS.inj g hg f hf h1; subst this; rw [hne] at hgd; cases hgd
    · exact h1
  -- blocks: the new one, or one that was known
  have entry : ∀ j T cs, getB (σ.msk fl fun i => i == f.i || L i).b j = some (T, cs) →
      (lays f j = true ∧ (j, some (T, cs)) ∈ f.r.wr) ∨ (lays f j = false ∧ getB (σ.msk fl L).b j = some (T, cs) ∧ cs.map (denV ρ η') = cs.map (denV ρ η)) := fun j T cs hj => by
    have hj : getB (maskB (blkOn fl fun i => i == f.i || L i) 0 σ.b) j = some (T, cs) := hj
    rw [getB_mask] at hj
    split at hj
    · rename_i hon
      cases hl : lays f j with
      | true =>
        obtain ⟨h1, h2⟩ := (lay1 j).1 hl
        rcases hp.kind with ⟨hk, _⟩ | ⟨_, c, hk, hg⟩
        · omega
        · refine .inl ⟨rfl, ?_⟩
          rw [h2, hg] at hj
          rw [hk, h2, hj]; exact List.mem_singleton.2 rfl
      | false =>
        have hb := bOn j hon hl
        refine .inr ⟨rfl, ?_, bclean j T cs hj hb⟩
        show getB (maskB (blkOn fl L) 0 σ.b) j = some (T, cs)
        rw [getB_mask, if_pos hb, hj]
    · cases hj
  have entryS : ∀ j, (getB (σ.msk fl fun i => i == f.i || L i).b j).isSome = true → lays f j = true ∨ (lays f j = false ∧ (getB (σ.msk fl L).b j).isSome = true) := fun j hj => by
    obtain ⟨⟨T, cs⟩, hc⟩ := Option.isSome_iff_exists.1 hj
    rcases entry j T cs hc with ⟨h1, _⟩ | ⟨h1, h2, _⟩
    · exact .inl h1
    · exact .inr ⟨h1, by rw [h2]; rfl⟩
  have old : ∀ j, (getB (σ.msk fl L).b j).isSome = true → η.β j < w.heap.size := fun j hj => by
    obtain ⟨⟨T, cs⟩, hc⟩ := Option.isSome_iff_exists.1 hj
    exact (h.rb.holds j T cs hc).lt
  exact {
    cl := msk_cl hS.cl fl _
    cs := h.cs
    len := h.len
    pre := h.pre
    fx := h.fx
    ft := ⟨by rw [put_size, h.ft.len]; simp [St.msk, maskT_length], fun j v hv hn => by
      obtain ⟨h1, h2⟩ := maskT_some (show (maskT (tmpOn fl fun i => i == f.i || L i) 0 σ.t)[j]? = some v from hv) hn
      by_cases hdj : f.o.dst = some j
      · have hl : j < σ.t.length := (List.getElem?_eq_some_iff.1 h2).1
        have := hp.dst j hdj hl
        rw [h2] at this
        simp only [Option.some.injEq] at this
        subst this
        rw [hdj, put_eq]
        rw [h.ft.len]; simp [St.msk, maskT_length, hl]
      · rw [put_ne _ _ hdj, dsame v (tclean j v h2 (tOn j h1 hdj))]
        refine h.ft.at_ j v ?_ hn
        show (maskT (tmpOn fl L) 0 σ.t)[j]? = some v
        rw [maskT_get, h2]; simp [tOn j h1 hdj], by rw [put_def]; exact h.ft.defers⟩
    rb := {
      al := hE.al.trans h.rb.al
      pf := h.rb.pf
      gh := Φ.stable _ _ h.rb.gh fun b hb => hheap b (Φ.lt _ h.rb.gh b hb)
      ap := fun i hi hm => by
        rcases entryS i hi with h1 | ⟨h1, h2⟩
        · have := hfresh i h1; have := Φ.lt _ h.rb.gh _ hm; omega
        · rw [(hsame i h1).1] at hm; exact h.rb.ap i h2 hm
      holds := fun i T cs hi => by
        rcases entry i T cs hi with ⟨_, h2⟩ | ⟨h1, h2, h3⟩
        · exact hE.made i T cs h2
        · rw [h3, (hsame i h1).1, (hsame i h1).2]
          obtain ⟨rest, hr, hk2⟩ := h.rb.holds i T cs h2
          exact ⟨rest, by rw [hheap _ (h.rb.holds i T cs h2).lt]; exact hr, hk2⟩
      inj := fun i j hi hj hne => by
        rcases entryS i hi with h1 | ⟨h1, h2⟩ <;> rcases entryS j hj with g1 | ⟨g1, g2⟩
        · have := ((lay1 i).1 h1).2; have := ((lay1 j).1 g1).2; omega
        · have := hfresh i h1; have := old j g2; rw [(hsame j g1).1]; omega
        · have := hfresh j g1; have := old i h2; rw [(hsame i h1).1]; omega
        · rw [(hsame i h1).1, (hsame j g1).1]; exact h.rb.inj i j h2 g2 hne }
    nb := by have := h.nb; simpa [St.msk, maskB_length] using this
    env := h.env.trans ⟨hE.al, fun i hi => hsame i (by
      cases hl : lays f i with
      | false => rfl
      | true => have := ((lay1 i).1 hl).2; have := ltB_iff.1 hi; have := hp.nbl; omega)⟩
    size := Nat.le_trans h.size hE.size
    io := h.io.trans hE.io
    newb := fun i hi hs => by
      rcases entryS i hs with h1 | ⟨h1, h2⟩
      · exact .inl (Nat.le_trans h.size (hfresh i h1))
      · rw [(hsame i h1).1]; exact h.newb i hi h2
    newo := fun i hi hl => by
      cases h1 : lays f i with
      | true => exact .inl (Nat.le_trans h.size (hfresh i h1))
      | false => rw [(hsame i h1).1]; exact h.newo i hi (by simpa [St.msk, maskB_length] using hl)
    frame := fun b hb hw => by rw [hheap b (Nat.lt_of_lt_of_le hb h.size)]; exact h.frame b hb hw }
end
end Go.Proofs.Ytnnnmdmniceenaa.Ev
