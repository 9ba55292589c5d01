/- Regions that draw their order: floats at their places, operations that may change blocks. -/
import Derived.Test.YtnnnmdmniceenaaEvJ
set_option linter.unusedSimpArgs false
set_option linter.unusedVariables false
namespace Go.Proofs.Ytnnnmdmniceenaa.Ev
section
variable {P : Program} {C : Ctx} {Φ : Sig} {ops : Array Oper}

theorem putB_old {b : Blks} {nn : Nat} {wr : List (Nat × Option (TypeId × List SV))} (h : (nn = 0 ∧ wr = []) ∨ (nn = 1 ∧ ∃ c, wr = [(b.length, some c)])) {j : Nat} (hj : j < b.length) : getB (putB b nn wr) j = getB b j := by
  rcases h with ⟨rfl, rfl⟩ | ⟨rfl, c, rfl⟩
  · simp [putB, setBs]
  · rw [putB, setBs_other _ _ _ (fun p hp => by rw [List.mem_singleton.1 hp]; simp only; omega), getB_append]
theorem putB_new {b : Blks} {c : TypeId × List SV} : getB (putB b 1 [(b.length, some c)]) b.length = some c := by
  rw [putB]; exact setBs_here _ _ _ _ (by simp) (List.mem_singleton.2 rfl) (by simp)
theorem evFl_rng (hC : CtxOK P Φ C) {fx : Fx} {n nb : Nat} {bl : Blk} {x : Operand → Option SV} {op : Op} {r : Res} (h : evOp P C fx n nb bl x op = some r) (hfl : isFloat op = true) (hc : isCall op = true)
    {ρ : List Int} {η : Env} {bl' : Blk} {w : World} (hf : FxOK ρ fx) (hcal : CalOK Φ ρ n r.cal) (hasr : ∀ y ∈ r.asr, denB ρ y = true) (hb : Rb Φ ρ η bl' w) : ∀ p ∈ r.rng, p.2.1 ≤ den ρ p.1 ∧ den ρ p.1 ≤ p.2.2 := by
  cases op with
  | call c =>
    obtain ⟨callee, cargs, ctys⟩ := c
    cases callee <;> first | (simp [isCall] at hc; done) | (simp [isFloat] at hfl; done)
  | load T y =>
    simp only [evOp] at h
    obtain ⟨v, hv, h⟩ := bind1_some h
    split at h
    · exact (evLd_ok (nb := nb) hC.ld h hf hcal hasr hb).2
    · rw [evLoad_rng h]; intro p hp; cases hp
  | _ => simp [isCall] at hc
theorem AnyT {t : List SV} {j : Nat} {v : SV} (h : (t.getD j .any).isAny = true) (hj : t[j]? = some v) : v.isAny = true := by
  simpa [List.getD_eq_getElem?_getD, hj] using h
/-- A float's place in the walk: what it will make is known, but it need not be done. -/
theorem logi_ok (hC : CtxOK P Φ C) {nb0 : Nat} {η0 : Env} {w0 : World} {ρ0 ρ : List Int} {η : Env} {σ : St} {an : Anc} {fl : List Fl} {L : Nat → Bool} {a : Act} {w : World}
    (hS : Stat P C Φ ops nb0 ρ σ an fl) (h : Inv Φ nb0 η0 w0 ρ0 ρ η (σ.msk fl L) a w) {g : Fl} (hoi : ops[g.i]? = some g.o)
    (hnd : ∀ f ∈ fl, f.i ≠ g.i) (hun : L g.i = false) (hanc : g.anc = ancOf an (bnds g.o)) {foot : List Nat} (hs : g.s = σ.sub fl (fTs g) (some foot) g.anc)
    (hev : (g.sk = false ∧ isFloat g.o.op = true ∧ evOp P C g.s.fx g.s.n g.s.b.length (getB g.s.b) (opdF g.s.fx g.s.t) g.o.op = some g.r) ∨ (g.sk = true ∧ g.r = val .undef)) (hgd : (guardB ops g.s.t g.o = some none ∧ g.sk = false) ∨ ∃ b, guardB ops g.s.t g.o = some (some b) ∧ decB g.s.fx b = some (!g.sk)) (hloc : resLoc σ g.r = true) (hok : flOK σ fl g = true) (hclean : clean (σ.put g.o g.r) (g :: fl) = true) (hasr : ∀ y ∈ g.r.asr, denB ρ y = true) :
    (∃ η', Inv Φ nb0 η0 w0 ρ0 (ρ ++ resL Φ ρ g.r.cal) η' ((σ.put g.o g.r).msk (g :: fl) L) a w) ∧ Stat P C Φ ops nb0 (ρ ++ resL Φ ρ g.r.cal) (σ.put g.o g.r) ((g.i, g.anc) :: an) (g :: fl) := by
  have hcl := hS.cl
  have hput : (σ.put g.o g.r).cl = true := put_cl (St.cl_more hcl) hloc
  have hcl' := hcl
  simp only [St.cl, Bool.and_eq_true] at hcl'
  obtain ⟨⟨hc1, hc2⟩, hc3⟩ := hcl'
  unfold flOK at hok
  simp only [Bool.and_eq_true, Bool.or_eq_true, beq_iff_eq, List.isEmpty_iff] at hok
  obtain ⟨⟨⟨⟨hk, hes⟩, has⟩, hkeep⟩, hown⟩ := hok
  have hkind : (g.r.nn = 0 ∧ g.r.wr = []) ∨ (g.r.nn = 1 ∧ ∃ c, g.r.wr = [(σ.b.length, some c)]) := by
    rcases hk with hk | ⟨hk, hm⟩
    · exact .inl hk
    · refine .inr ⟨hk, ?_⟩
      split at hm
      · rename_i j c hw
        have : j = σ.b.length := by simpa using hm
        subst this
        exact ⟨c, hw⟩
      · cases hm
  have sfx : g.s.fx = σ.fx := by rw [hs]; rfl
  have sn : g.s.n = σ.n := by rw [hs]; rfl
  have sb : g.s.b.length = σ.b.length := by rw [hs]; simp [St.sub, maskB_length]
  have st : g.s.t.length = σ.t.length := by rw [hs]; simp [St.sub, maskT_length]
  have hlen : ρ.length = σ.n := hS.len
  have hle : σ.n ≤ ρ.length := by omega
  have hcal : CalOK Φ (ρ ++ resL Φ ρ g.r.cal) σ.n g.r.cal := CalOK_of hlen hes
  have hfx : FxOK (ρ ++ resL Φ ρ g.r.cal) σ.fx := clFx_ok hc3 hle _ h.fx
  have hasr' : ∀ y ∈ g.r.asr, denB (ρ ++ resL Φ ρ g.r.cal) y = true := fun y hy => by rw [clB_ok (List.all_eq_true.1 has y hy) hle]; exact hasr y hy
  have layg : ∀ j, lays g j = true → j = σ.b.length := fun j hj => by
    simp only [lays, Bool.and_eq_true, beq_iff_eq] at hj
    rw [← hj.2, sb]
  have layb : g.r.nn = 1 → lays g σ.b.length = true := fun h1 => by simp [lays, h1, sb]
  have gany : ∀ d, (fTs g).contains d = false → (g.s.t.getD d .any).isAny = true := fun d hd => by rw [hs]; exact sub_any _ _ _ _ _ hd
  have ne_dst : ∀ j v, g.s.t[j]? = some v → v.isAny = false → g.o.dst ≠ some j := fun j v hv hn hd => by
    rw [hd] at hown
    have := AnyT (gany _ (by simpa using hown)) hv
    rw [hn] at this; cases this
  have hagree : agree (ltB σ.b.length) η (η.lay σ.b.length w.heap.size 0) := ⟨rfl, fun i hi => Env.lay_ne η _ _ (by have := ltB_iff.1 hi; omega)⟩
  have hnew : putB σ.b g.r.nn g.r.wr = (σ.put g.o g.r).b := rfl
  -- a block that the new mask lets through was known
  have entry : ∀ j c, getB ((σ.put g.o g.r).msk (g :: fl) L).b j = some c → j < σ.b.length ∧ getB σ.b j = some c ∧ getB (σ.msk fl L).b j = some c := fun j c hj => by
    have hj : getB (maskB (blkOn (g :: fl) L) 0 (putB σ.b g.r.nn g.r.wr)) j = some c := hj
    rw [getB_mask] at hj
    split at hj
    · rename_i hon
      have hon := blkOn_iff.1 hon
      have hlt : j < σ.b.length := by
        rcases Nat.lt_or_ge j σ.b.length with hl | hl
        · exact hl
        · rcases hkind with ⟨h0, h1⟩ | ⟨h0, c', h1⟩
          · rw [h0, h1] at hj
            simp only [putB, setBs, List.replicate_zero, List.append_nil] at hj
            rw [getB_none hl] at hj; cases hj
          · rcases Nat.lt_or_ge j (σ.b.length + 1) with h2 | h2
            · have : j = σ.b.length := by omega
              subst this
              have := hon g (List.mem_cons_self ..) (layb h0)
              rw [hun] at this; cases this
            · rw [getB_none (by rw [putB_length, h0]; exact h2)] at hj; cases hj
      rw [putB_old hkind hlt] at hj
      refine ⟨hlt, hj, ?_⟩
      show getB (maskB (blkOn fl L) 0 σ.b) j = some c
      rw [getB_mask, if_pos (blkOn_iff.2 fun f hf => hon f (List.mem_cons_of_mem _ hf)), hj]
    · cases hj
  have entryS : ∀ j, (getB ((σ.put g.o g.r).msk (g :: fl) L).b j).isSome = true → j < σ.b.length ∧ (getB (σ.msk fl L).b j).isSome = true := fun j hj => by
    obtain ⟨c, hc⟩ := Option.isSome_iff_exists.1 hj
    obtain ⟨h1, _, h2⟩ := entry j c hc
    exact ⟨h1, by rw [h2]; rfl⟩
  have hnb : nb0 ≤ σ.b.length := by have := h.nb; simpa [St.msk, maskB_length] using this
  refine ⟨⟨η.lay σ.b.length w.heap.size 0, ?_⟩, ?_⟩
  · exact {
      cl := msk_cl hput _ _
      cs := (h.cs.more hle (resL Φ ρ g.r.cal) (calN g.r.cal)).add hcal (fun k es m he => by rw [he] at hes; exact hes)
      len := by
        show (ρ ++ resL Φ ρ g.r.cal).length = σ.n + calN g.r.cal
        rw [List.length_append, resL_length, hlen]
      pre := by obtain ⟨s', e⟩ := h.pre; exact ⟨s' ++ resL Φ ρ g.r.cal, by rw [e, List.append_assoc]⟩
      fx := by
        show FxOK (ρ ++ resL Φ ρ g.r.cal) (if isCall g.o.op then addR g.r.rng (assumeL σ.fx g.r.asr) else assumeL σ.fx g.r.asr)
        have hf := assumeL_ok g.r.asr σ.fx hfx hasr'
        split
        · rename_i hc
          refine addR_ok (fun p hp => ?_) hf
          · rcases hev with ⟨_, hfloat, hev⟩ | ⟨_, hr0⟩
            rotate_left
            · rw [hr0] at hp; cases hp
            refine evFl_rng hC hev hfloat hc (by rw [sfx]; exact hfx) (by rw [sn]; exact hcal) hasr' (η := η) (bl' := fun _ => none) (w := w) ?_ p hp
            exact { al := h.rb.al, pf := by { obtain ⟨s', e⟩ := h.rb.pf; exact ⟨s' ++ resL Φ ρ g.r.cal, by rw [e, List.append_assoc]⟩ }, gh := h.rb.gh, ap := fun i hi => (by cases hi), holds := fun i T cs hi => (by cases hi), inj := fun i j hi => (by cases hi) }
        · exact hf
      ft := ⟨by rw [h.ft.len]; simp [St.msk, St.put, maskT_length, setT_length], fun j v hv hn => by
        obtain ⟨h1, h2⟩ := maskT_some (show (maskT (tmpOn (g :: fl) L) 0 (setT σ.t g.o.dst g.r.v))[j]? = some v from hv) hn
        have h1 := tmpOn_iff.1 h1
        have hne : g.o.dst ≠ some j := fun hd => by
          have := h1 g (List.mem_cons_self ..) hd
          rw [hun] at this; cases this
        rw [setT_ne _ _ hne] at h2
        rw [clV_ok v (clL_mem hc1 v (List.mem_of_getElem? h2)) hle hagree]
        refine h.ft.at_ j v ?_ hn
        show (maskT (tmpOn fl L) 0 σ.t)[j]? = some v
        rw [maskT_get, h2]
        simp [tmpOn_iff.2 fun f hf => h1 f (List.mem_cons_of_mem _ hf)], h.ft.defers⟩
      rb := {
        al := h.rb.al
        pf := by obtain ⟨s', e⟩ := h.rb.pf; exact ⟨s' ++ resL Φ ρ g.r.cal, by rw [e, List.append_assoc]⟩
        gh := h.rb.gh
        ap := fun i hi => by
          obtain ⟨h1, h2⟩ := entryS i hi
          rw [(hagree.at_ i (ltB_iff.2 h1)).1]; exact h.rb.ap i h2
        holds := fun i T cs hi => by
          obtain ⟨h1, h2, h3⟩ := entry i _ hi
          rw [(hagree.at_ i (ltB_iff.2 h1)).1, (hagree.at_ i (ltB_iff.2 h1)).2, clL_map (getB_cl hc2 h2) hle hagree]
          exact h.rb.holds i T cs h3
        inj := fun i j hi hj hne => by
          obtain ⟨h1, h2⟩ := entryS i hi
          obtain ⟨g1, g2⟩ := entryS j hj
          rw [(hagree.at_ i (ltB_iff.2 h1)).1, (hagree.at_ j (ltB_iff.2 g1)).1]
          exact h.rb.inj i j h2 g2 hne }
      nb := by simp only [St.msk, maskB_length]; rw [← hnew, putB_length]; omega
      env := h.env.trans (hagree.sub fun i hi => ltB_iff.2 (by have := ltB_iff.1 hi; omega))
      size := h.size
      io := h.io
      newb := fun i hi hs' => by
        obtain ⟨h1, h2⟩ := entryS i hs'
        rw [(hagree.at_ i (ltB_iff.2 h1)).1]; exact (h.newb i hi h2).more fun j hj _ => List.mem_append_right _ hj
      newo := fun i hi hl => by
        rcases Nat.lt_or_ge i σ.b.length with h1 | h1
        · rw [(hagree.at_ i (ltB_iff.2 h1)).1]; exact (h.newo i hi (by simpa [St.msk, maskB_length] using h1)).more fun j hj _ => List.mem_append_right _ hj
        · simp only [St.msk, maskB_length] at hl
          rw [← hnew, putB_length] at hl
          have : i = σ.b.length := by rcases hkind with ⟨h0, _⟩ | ⟨h0, _⟩ <;> omega
          subst this
          rw [Env.lay_same]; exact .inl h.size
      frame := fun b hb hw => h.frame b hb fun i hi => hw i (List.mem_append_right _ hi) }
  · have keep : ∀ f ∈ fl, (∀ d, g.o.dst = some d → f.o.dst ≠ some d ∧ (f.s.t.getD d .any).isAny = true) := fun f hf d hd => by
      have := List.all_eq_true.1 hkeep f hf
      unfold keepT at this
      rw [hd] at this
      simp only [Bool.and_eq_true, Bool.not_eq_true'] at this
      refine ⟨fun hfd => ?_, (hS.pend f hf).ts d this.2⟩
      rw [dstIs_iff.2 hfd] at this; cases this.1
    exact {
      pend := fun f hf => by
        rcases List.mem_cons.1 hf with rfl | hq
        · exact {
            ev := hev.imp (fun h => ⟨h.1, h.2.2⟩) id
            gd := hgd.imp id fun ⟨b, h1, h2⟩ => ⟨b, h1, by { rw [sn]; exact guardB_cl (p := ltB σ.b.length) (by rw [hs]; exact clL_maskT hc1) h1 }, decB_ok (by rw [sfx]; exact hfx) _ _ h2⟩
            fx := by rw [sfx]; exact hfx
            cal := by rw [sn]; exact hcal
            asr := hasr'
            len := by rw [List.length_append, resL_length, sn]; omega
            clf := by rw [sn, sfx]; exact hc3
            cle := by rw [sn]; exact hes
            cla := by rw [sn]; exact has
            kind := by
              rcases hkind with hk | ⟨hk, c, hw⟩
              · exact .inl hk
              · exact .inr ⟨hk, c, by rw [sb]; exact hw, by rw [sb, ← hnew, hk, hw]; exact putB_new⟩
            nbl := by rw [sb]; exact hnb
            ts := gany
            tl := by rw [st]; simp [St.put, setT_length]
            dst := fun d hd hl => by
              simp only [St.put, hd, setT] at hl ⊢
              rw [List.getElem?_set_self (by simpa using hl)]
            tmps := fun j v hv hn => by
              have hne := ne_dst j v hv hn
              rw [hs] at hv
              obtain ⟨h1, h2⟩ := maskT_some hv hn
              simp only [Bool.and_eq_true] at h1
              refine ⟨by simp only [St.put]; rw [setT_ne _ _ hne]; exact h2, fun f' hf' hfd => ?_⟩
              rcases List.mem_cons.1 hf' with rfl | hf'
              · exact absurd hfd hne
              · have := tmpOn_iff.1 h1.2 f' hf' hfd; simpa using this
            blks := fun j c hc => by
              rw [hs] at hc
              simp only [St.sub, getB_mask] at hc
              split at hc
              · rename_i hon
                simp only [Bool.and_eq_true] at hon
                have hlt : j < σ.b.length := by
                  rcases Nat.lt_or_ge j σ.b.length with hl | hl
                  · exact hl
                  · rw [getB_none hl] at hc; cases hc
                refine ⟨by rw [← hnew, putB_old hkind hlt]; exact hc, fun f' hf' hfd => ?_⟩
                rcases List.mem_cons.1 hf' with rfl | hf'
                · have := layg j hfd; omega
                · have := blkOn_iff.1 hon.2 f' hf' hfd; simpa using this
              · cases hc }
        · refine (hS.pend f hq).ext _ (by simp [St.put, setT_length]) (fun j hj => ?_) (fun j c hj hc => ?_) (fun f' hf' => ?_)
          · simp only [St.put]
            refine setT_ne _ _ fun hd => ?_
            obtain ⟨k1, k2⟩ := keep f hq j hd
            rcases hj with hj | ⟨v, hv, hn⟩
            · exact k1 hj
            · have := AnyT k2 hv; rw [hn] at this; cases this
          · have hlt : j < σ.b.length := by
              rcases Nat.lt_or_ge j σ.b.length with hl | hl
              · exact hl
              · rw [getB_none hl] at hc; cases hc
            rw [← hnew, putB_old hkind hlt]; exact hc
          · rcases List.mem_cons.1 hf' with rfl | hf'
            · refine .inr ⟨fun j v hv hn hd => ?_, fun j hj => ?_⟩
              · have := AnyT (keep f hq j hd).2 hv; rw [hn] at this; cases this
              · cases hl : lays f' j with
                | false => rfl
                | true =>
                  have := layg j hl
                  obtain ⟨c, hc⟩ := Option.isSome_iff_exists.1 hj
                  have := ((hS.pend f hq).blks j c hc).1
                  rw [getB_none (by omega)] at this; cases this
            · exact .inl hf'
      anc := fun p hp => by
        rcases List.mem_cons.1 hp with rfl | hp
        · simp only; rw [hanc]; exact AN_new hS.anc hoi
        · exact hS.anc p hp
      fli := fun f hf => by
        rcases List.mem_cons.1 hf with rfl | hf
        · exact ⟨hoi, trivial, List.mem_cons_self ..⟩
        · obtain ⟨h1, h2, h3⟩ := hS.fli f hf
          exact ⟨h1, h2, List.mem_cons_of_mem _ h3⟩
      inj := fun f hf f' hf' he => by
        rcases List.mem_cons.1 hf with rfl | hq <;> rcases List.mem_cons.1 hf' with rfl | hq'
        · rfl
        · exact absurd he.symm (hnd f' hq')
        · exact absurd he (hnd f hq)
        · exact hS.inj f hq f' hq' he
      clean := hclean
      cl := hput
      len := by
        show (ρ ++ resL Φ ρ g.r.cal).length = σ.n + calN g.r.cal
        rw [List.length_append, resL_length, hlen] }
end
end Go.Proofs.Ytnnnmdmniceenaa.Ev
