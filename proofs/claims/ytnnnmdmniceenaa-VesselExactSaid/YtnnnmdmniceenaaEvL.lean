/- Regions that draw their order: all orders. -/
import Derived.Test.YtnnnmdmniceenaaEvK
set_option linter.unusedSimpArgs false
set_option linter.unusedVariables false
namespace Go.Proofs.Ytnnnmdmniceenaa.Ev
section
variable {P : Program} {C : Ctx} {Φ : Sig} {ops : Array Oper}
/-- What an operation of the chain sees. -/
theorem sub_inv {nb0 : Nat} {η0 : Env} {w0 : World} {ρ0 ρ : List Int} {η : Env} {σ : St} {fl : List Fl} {L : Nat → Bool} {a : Act} {w : World} (h : Inv Φ nb0 η0 w0 ρ0 ρ η (σ.msk fl L) a w) {anc : List Nat} (hanc : ∀ k ∈ anc, L k = true) (ts : List Nat) (hcl : σ.cl = true) :
    Inv Φ (σ.sub fl ts none anc).b.length η w ρ ρ η (σ.sub fl ts none anc) a w ∧ ∀ j, (getB (σ.sub fl ts none anc).b j).isSome = true → (getB (σ.msk fl L).b j).isSome = true := by
  have sub : ∀ j c, getB (σ.sub fl ts none anc).b j = some c → getB (σ.msk fl L).b j = some c := fun j c hc => by
    simp only [St.sub, getB_mask, Bool.true_and] at hc
    show getB (maskB (blkOn fl L) 0 σ.b) j = some c
    rw [getB_mask]
    split at hc
    · rename_i hon
      rw [if_pos (blkOn_iff.2 fun f hf hfd => hanc _ (by have := blkOn_iff.1 hon f hf hfd; simpa using this)), hc]
    · cases hc
  have subS : ∀ j, (getB (σ.sub fl ts none anc).b j).isSome = true → (getB (σ.msk fl L).b j).isSome = true := fun j hj => by
    obtain ⟨c, hc⟩ := Option.isSome_iff_exists.1 hj
    rw [sub j c hc]; rfl
  refine ⟨?_, subS⟩
  exact {
    cl := sub_cl hcl _ _ _ _
    len := h.len, pre := ⟨[], by simp⟩, fx := h.fx
    ft := ⟨by rw [h.ft.len]; simp [St.msk, St.sub, maskT_length], fun j v hv hn => by
      obtain ⟨h1, h2⟩ := maskT_some hv hn
      simp only [Bool.and_eq_true] at h1
      refine h.ft.at_ j v ?_ hn
      show (maskT (tmpOn fl L) 0 σ.t)[j]? = some v
      rw [maskT_get, h2]
      simp [tmpOn_iff.2 fun f hf hfd => hanc _ (by have := tmpOn_iff.1 h1.2 f hf hfd; simpa using this)], h.ft.defers⟩
    rb := { al := h.rb.al, pf := h.rb.pf, gh := h.rb.gh, ap := fun i hi => h.rb.ap i (subS i hi), holds := fun i T cs hi => h.rb.holds i T cs (sub i _ hi), inj := fun i j hi hj => h.rb.inj i j (subS i hi) (subS j hj) }
    nb := Nat.le_refl _, env := .refl _ _, size := Nat.le_refl _, io := .refl _
    newb := fun i hi hs => by rw [getB_none hi] at hs; cases hs
    newo := fun i hi hl => by omega
    frame := fun _ _ _ => rfl
    cs := h.cs }
/-- Behind an operation of the chain. -/
theorem chain_ok {nb0 : Nat} {η0 : Env} {w0 : World} {ρ0 ρ : List Int} {η : Env} {σ : St} {an : Anc} {fl : List Fl} {L : Nat → Bool} {a : Act} {w : World}
    (hS : Stat P C Φ ops nb0 ρ σ an fl) (h : Inv Φ nb0 η0 w0 ρ0 ρ η (σ.msk fl L) a w) {i : Nat} {o : Oper} (hoi : ops[i]? = some o) (hnd : doneA an i = false) {anc : List Nat} (han : anc = ancOf an (bnds o)) (hanc : ∀ k ∈ anc, L k = true)
    {fl' : List Fl} (hfl' : fl' = fl.filter fun f => !anc.contains f.i) {ρ' : List Int} {η' : Env} {σ1 : St} {a' : Act} {w' : World} (hst : ∃ v, a' = a.put o.dst v)
    {ts : List Nat} (h1 : Inv Φ (σ.sub fl ts none anc).b.length η w ρ ρ' η' σ1 a' w') (hok : chOK σ (σ.sub fl ts none anc) σ1 o fl' = true) (hclean : clean (σ.mrg σ1 o) fl' = true) :
    Inv Φ nb0 η0 w0 ρ0 ρ' η' ((σ.mrg σ1 o).msk fl' fun j => j == i || L j) a' w' ∧ Stat P C Φ ops nb0 ρ' (σ.mrg σ1 o) ((i, anc) :: an) fl' := by
  have hcl := hS.cl
  have hcl' := hcl
  simp only [St.cl, Bool.and_eq_true] at hcl'
  obtain ⟨⟨hc1, hc2⟩, _⟩ := hcl'
  have hlen : ρ.length = σ.n := hS.len
  have hle : σ.n ≤ ρ.length := by omega
  have subS := (sub_inv h hanc ts hcl).2
  have wl : (σ.sub fl ts none anc).b.length = σ.b.length := by simp [St.sub, maskB_length]
  rw [wl] at h1
  have hag : agree (ltB σ.b.length) η η' := h1.env
  obtain ⟨s, hρ⟩ := h1.pre
  have hb1 : σ.b.length ≤ σ1.b.length := h1.nb
  have hmrg : (σ.mrg σ1 o).cl = true := mrg_cl hcl h1.cl (by have := h1.len; rw [hρ, List.length_append] at this; omega) hb1
  unfold chOK at hok
  simp only [Bool.and_eq_true, List.all_eq_true, Bool.or_eq_true, decide_eq_true_eq] at hok
  obtain ⟨⟨hwd, _⟩, hfk⟩ := hok
  have mem' : ∀ f, f ∈ fl' ↔ f ∈ fl ∧ f.i ∉ anc := fun f => by rw [hfl']; simp
  have inot : ∀ f ∈ fl, f.i ≠ i := fun f hf he => by
    have : doneA an i = true := doneA_iff.2 ⟨_, (hS.fli f hf).2.2, he⟩
    rw [hnd] at this; cases this
  have tOn : ∀ j, tmpOn fl' (fun j => j == i || L j) j = true → tmpOn fl L j = true := fun j hj => tmpOn_iff.2 fun f hf hfd => by
    by_cases ha : f.i ∈ anc
    · exact hanc _ ha
    · have := tmpOn_iff.1 hj f ((mem' f).2 ⟨hf, ha⟩) hfd
      simp only [Bool.or_eq_true, beq_iff_eq] at this
      exact this.resolve_left (inot f hf)
  have bOn : ∀ j, blkOn fl' (fun j => j == i || L j) j = true → blkOn fl L j = true := fun j hj => blkOn_iff.2 fun f hf hfd => by
    by_cases ha : f.i ∈ anc
    · exact hanc _ ha
    · have := blkOn_iff.1 hj f ((mem' f).2 ⟨hf, ha⟩) hfd
      simp only [Bool.or_eq_true, beq_iff_eq] at this
      exact this.resolve_left (inot f hf)
  -- a block behind the operation: one that it has not touched, or one of its own
  have entry : ∀ j c, getB ((σ.mrg σ1 o).msk fl' fun j => j == i || L j).b j = some c →
      (j < σ.b.length ∧ j ∉ σ1.wd ∧ getB σ.b j = some c ∧ getB (σ.msk fl L).b j = some c) ∨ ((σ.b.length ≤ j ∨ j ∈ σ1.wd) ∧ getB σ1.b j = some c) := fun j c hj => by
    have hj : getB (maskB (blkOn fl' fun j => j == i || L j) 0 (mrgB σ1.wd 0 σ.b σ1.b)) j = some c := hj
    rw [getB_mask] at hj
    split at hj
    · rename_i hon
      rw [getB_mrg _ _ _ _ _ hb1] at hj
      split at hj
      · rename_i hc
        simp only [Nat.zero_add, List.contains_eq_mem, decide_eq_false_iff_not] at hc
        refine .inl ⟨hc.1, hc.2, hj, ?_⟩
        show getB (maskB (blkOn fl L) 0 σ.b) j = some c
        rw [getB_mask, if_pos (bOn j hon), hj]
      · rename_i hc
        refine .inr ⟨?_, hj⟩
        simp only [Nat.zero_add, List.contains_eq_mem, decide_eq_false_iff_not, not_and, Decidable.not_not] at hc
        rcases Nat.lt_or_ge j σ.b.length with hl | hl
        · exact .inr (hc hl)
        · exact .inl hl
    · cases hj
  have entryS : ∀ j, (getB ((σ.mrg σ1 o).msk fl' fun j => j == i || L j).b j).isSome = true →
      (j < σ.b.length ∧ j ∉ σ1.wd ∧ (getB (σ.msk fl L).b j).isSome = true) ∨ ((σ.b.length ≤ j ∨ j ∈ σ1.wd) ∧ (getB σ1.b j).isSome = true) := fun j hj => by
    obtain ⟨c, hc⟩ := Option.isSome_iff_exists.1 hj
    rcases entry j c hc with ⟨h1, h2, _, h3⟩ | ⟨h1, h2⟩
    · exact .inl ⟨h1, h2, by rw [h3]; rfl⟩
    · exact .inr ⟨h1, by rw [h2]; rfl⟩
  have old : ∀ j, (getB (σ.msk fl L).b j).isSome = true → η.β j < w.heap.size := fun j hj => by
    obtain ⟨⟨T, cs⟩, hc⟩ := Option.isSome_iff_exists.1 hj
    exact (h.rb.holds j T cs hc).lt
  have wdk : ∀ j ∈ σ1.wd, j < σ.b.length → (getB (σ.msk fl L).b j).isSome = true := fun j hj hl => by
    rcases hwd j hj with hk | hk
    · omega
    · exact subS j hk
  have apart : ∀ j k, j < σ.b.length → j ∉ σ1.wd → (getB (σ.msk fl L).b j).isSome = true → (σ.b.length ≤ k ∨ k ∈ σ1.wd) → (getB σ1.b k).isSome = true → η'.β j ≠ η'.β k := fun j k hj hjn hjs hk hks => by
    rw [(hag.at_ j (ltB_iff.2 hj)).1]
    rcases Nat.lt_or_ge k σ.b.length with hl | hl
    · have hkw : k ∈ σ1.wd := by rcases hk with hk | hk; (· omega); (· exact hk)
      rw [(hag.at_ k (ltB_iff.2 hl)).1]
      exact h.rb.inj j k hjs (wdk k hkw hl) fun e => hjn (e ▸ hkw)
    · exact (h1.newb k hl hks).ne (old j hjs) fun i hi hil e => h.rb.inj j i hjs (wdk i hi (by simpa [St.sub, maskB_length] using hil)) (fun e' => hjn (e' ▸ hi)) e
  have hnb : nb0 ≤ σ.b.length := by have := h.nb; simpa [St.msk, maskB_length] using this
  have onew : ∀ j, nb0 ≤ j → j < σ.b.length → Frs w0.heap.size (σ1.wd ++ σ.wd) nb0 η0 (η'.β j) := fun j hj hl => by
    rw [(hag.at_ j (ltB_iff.2 hl)).1]; exact (h.newo j hj (by simpa [St.msk, maskB_length] using hl)).more fun j hj _ => List.mem_append_right _ hj
  have up : ∀ i, Frs w.heap.size σ1.wd σ.b.length η (η'.β i) → Frs w0.heap.size (σ1.wd ++ σ.wd) nb0 η0 (η'.β i) := fun i hi => by
    rcases hi with hi | ⟨j, j1, j2, j3⟩
    · exact .inl (Nat.le_trans h.size hi)
    · rw [j3]
      by_cases hj : j < nb0
      · rw [(h.env.lt j hj).1]
        exact .inr ⟨j, List.mem_append_left _ j1, hj, rfl⟩
      · exact (h.newo j (by omega) (by simpa [St.msk, maskB_length] using j2)).more fun j hj _ => List.mem_append_right _ hj
  obtain ⟨u, hu⟩ := hst
  refine ⟨?_, ?_⟩
  · exact {
      cl := msk_cl hmrg _ _
      cs := h1.cs
      len := h1.len
      pre := by obtain ⟨s', e⟩ := h.pre; exact ⟨s' ++ s, by rw [hρ, e, List.append_assoc]⟩
      fx := h1.fx
      ft := ⟨by rw [hu, put_size, h.ft.len]; simp only [St.msk, maskT_length, St.mrg]; cases o.dst <;> simp, fun j v hv hn => by
        obtain ⟨h2, h3⟩ := maskT_some (show (maskT (tmpOn fl' fun j => j == i || L j) 0 (σ.mrg σ1 o).t)[j]? = some v from hv) hn
        have oldT : o.dst ≠ some j → σ.t[j]? = some v → a'.tmps[j]? = some (denV ρ' η' v) := fun hne hv' => by
          rw [hu, put_ne _ _ hne, hρ, clV_ok v (clL_mem hc1 v (List.mem_of_getElem? hv')) hle hag]
          refine h.ft.at_ j v ?_ hn
          show (maskT (tmpOn fl L) 0 σ.t)[j]? = some v
          rw [maskT_get, hv']; simp [tOn j h2]
        simp only [St.mrg] at h3
        cases hd : o.dst with
        | none =>
          rw [hd] at h3
          exact oldT (by rw [hd]; simp) h3
        | some d =>
          rw [hd] at h3
          simp only at h3
          by_cases hdj : d = j
          · subst hdj
            have hl : d < σ.t.length := by have := (List.getElem?_eq_some_iff.1 h3).1; simpa using this
            rw [List.getElem?_set_self hl] at h3
            simp only [Option.some.injEq] at h3
            refine h1.ft.at_ d v ?_ hn
            rw [List.getD_eq_getElem?_getD] at h3
            cases hg : σ1.t[d]? with
            | none => rw [hg] at h3; simp at h3; subst h3; simp [SV.isAny] at hn
            | some x => rw [hg] at h3; simp at h3; rw [h3]
          · rw [List.getElem?_set_ne hdj] at h3
            exact oldT (by rw [hd]; simpa using hdj) h3, h1.ft.defers⟩
      rb := {
        al := h1.rb.al
        pf := h1.rb.pf
        gh := h1.rb.gh
        ap := fun j hj => by
          rcases entryS j hj with ⟨g1, _, g2⟩ | ⟨_, g2⟩
          · rw [(hag.at_ j (ltB_iff.2 g1)).1]; exact h.rb.ap j g2
          · exact h1.rb.ap j g2
        holds := fun j T cs hj => by
          rcases entry j _ hj with ⟨g1, g2, g3, g4⟩ | ⟨_, g2⟩
          · rw [(hag.at_ j (ltB_iff.2 g1)).1, (hag.at_ j (ltB_iff.2 g1)).2, hρ, clL_map (getB_cl hc2 g3) hle hag]
            obtain ⟨rest, hr⟩ := h.rb.holds j T cs g4
            refine ⟨rest, ?_⟩
            rw [h1.frame _ (h.rb.holds j T cs g4).lt fun k hk hkl => h.rb.inj j k (by rw [g4]; rfl) (wdk k hk hkl) fun e => g2 (e ▸ hk)]
            exact hr
          · exact h1.rb.holds j T cs g2
        inj := fun j k hj hk hne => by
          rcases entryS j hj with ⟨g1, g2, g3⟩ | ⟨g1, g2⟩ <;> rcases entryS k hk with ⟨k1, k2, k3⟩ | ⟨k1, k2⟩
          · rw [(hag.at_ j (ltB_iff.2 g1)).1, (hag.at_ k (ltB_iff.2 k1)).1]; exact h.rb.inj j k g3 k3 hne
          · exact apart j k g1 g2 g3 k1 k2
          · exact (apart k j k1 k2 k3 g1 g2).symm
          · exact h1.rb.inj j k g2 k2 hne }
      nb := by simp only [St.msk, maskB_length, St.mrg, mrgB_length _ _ _ _ hb1]; omega
      env := h.env.trans (hag.sub fun i hi => ltB_iff.2 (by have := ltB_iff.1 hi; omega))
      size := Nat.le_trans h.size h1.size
      io := h.io.trans h1.io
      newb := fun j hj hs => by
        rcases Nat.lt_or_ge j σ.b.length with hl | hl
        · exact onew j hj hl
        · rcases entryS j hs with ⟨g1, _, _⟩ | ⟨_, g2⟩
          · omega
          · exact up j (by simpa [St.sub, maskB_length] using h1.newb j (by simpa [St.sub, maskB_length] using hl) g2)
      newo := fun j hj hl => by
        rcases Nat.lt_or_ge j σ.b.length with hl' | hl'
        · exact onew j hj hl'
        · exact up j (by simpa [St.sub, maskB_length] using h1.newo j (by simpa [St.sub, maskB_length] using hl') (by simpa only [St.msk, maskB_length, St.mrg, mrgB_length _ _ _ _ hb1] using hl))
      frame := fun b hb hw => by
        have hb' : b < w.heap.size := Nat.lt_of_lt_of_le hb h.size
        rw [h1.frame b hb' fun k hk hkl => ?_]
        · exact h.frame b hb fun k hk => hw k (List.mem_append_right _ hk)
        · by_cases hk0 : k < nb0
          · rw [(h.env.lt k hk0).1]; exact hw k (List.mem_append_left _ hk) hk0
          · exact (h.newo k (by omega) (by simpa [St.msk, maskB_length] using hkl)).ne hb fun i hi => hw i (List.mem_append_right _ hi) }
  · exact {
      pend := fun f hf => by
        have hf0 := ((mem' f).1 hf).1
        obtain ⟨k1, k2⟩ := hfk f hf
        rw [hρ]
        refine (hS.pend f hf0).ext s (by simp only [St.mrg]; cases o.dst <;> simp) (fun j hj => ?_) (fun j c hj hc => ?_) (fun g hg => .inl ((mem' g).1 hg).1)
        · simp only [St.mrg]
          cases hd : o.dst with
          | none => rfl
          | some d =>
            have hdj : d ≠ j := fun e => by
              subst e
              unfold keepT at k1
              rw [hd] at k1
              simp only [Bool.and_eq_true, Bool.not_eq_true'] at k1
              rcases hj with hj | ⟨v, hv, hn⟩
              · rw [dstIs_iff.2 hj] at k1; cases k1.1
              · have := AnyT ((hS.pend f hf0).ts d k1.2) hv; rw [hn] at this; cases this
            simp only
            rw [List.getElem?_set_ne hdj]
        · have hlt : j < σ.b.length := by
            rcases Nat.lt_or_ge j σ.b.length with hl | hl
            · exact hl
            · rw [getB_none hl] at hc; cases hc
          have hnw : j ∉ σ1.wd := fun hm => by
            obtain ⟨q1, q2⟩ := k2 j hm
            rcases hj with hj | hj
            · rw [hj] at q2; cases q2
            · cases hq : getB f.s.b j with
              | none => rw [hq] at hj; cases hj
              | some c => rw [hq] at q1; cases q1
          simp only [St.mrg]
          rw [getB_mrg _ _ _ _ _ hb1, if_pos ⟨hlt, by simpa using hnw⟩]
          exact hc
      anc := fun p hp => by
        rcases List.mem_cons.1 hp with rfl | hp
        · simp only; rw [han]; exact AN_new hS.anc hoi
        · exact hS.anc p hp
      fli := fun f hf => by
        obtain ⟨h1, h2, h3⟩ := hS.fli f ((mem' f).1 hf).1
        exact ⟨h1, h2, List.mem_cons_of_mem _ h3⟩
      inj := fun f hf g hg he => hS.inj f ((mem' f).1 hf).1 g ((mem' g).1 hg).1 he
      clean := hclean
      cl := hmrg
      len := h1.len }
end
end Go.Proofs.Ytnnnmdmniceenaa.Ev
