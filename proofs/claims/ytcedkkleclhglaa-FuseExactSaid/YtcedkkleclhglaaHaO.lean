/- Regions that draw their order: every order ends as the one that is walked. -/
import Derived.Test.YtcedkkleclhglaaHaN
set_option linter.unusedSimpArgs false
set_option linter.unusedVariables false
set_option linter.unusedSectionVars false
namespace Go.Proofs.Ytcedkkleclhglaa.H
section
variable {P : Program} {N m : Nat} {il : List Ins} {an : List (List Nat)} {pi : List Nat} {w0 : World} {K0 : Nat → Prop} {β0 : Nat → Loc} {s0 : St}
theorem isFl_isAl {n : Ins} (h : isFl n = true) : isAl n = false := by
  cases n with
  | f d g o => rfl
  | k d g o =>
    cases o with
    | bslice => cases d <;> cases g <;> rfl
    | _ => cases h
theorem al_isFl {o : KO} {t k n : Nat} {z : List Value} {sl : Bool} (h : alOf o = some (t, k, n, z, sl)) (d : Option Nat) (g : Option (Nat × Bool)) : isFl (.k d g o) = false := by
  cases o <;> first | rfl | (simp [alOf] at h)
theorem R_al {w : World} {K : Nat → Prop} {β : Nat → Loc} {s : St} {b k c m : Nat} {sl : Bool} (hm : s.length < m) : R w K (lay β s.length ⟨b, 0, k, c⟩) m (alV s.length c sl) (alU b c sl) := by
  cases sl
  · simp only [alV, alU, Bool.false_eq_true, if_false, R, lay_same]
    exact ⟨hm, by simp⟩
  · simp only [alV, alU, if_true, R, lay_same]
    exact ⟨hm, _, c, rfl, Nat.le_refl _, by simp, fun _ => by simp⟩
theorem Cz.adopt {w : World} {K : Nat → Prop} {β : Nat → Loc} {s : St} (hz : Cz w K β s) {b t k c : Nat} {z : List Value} (hz0 : zeroOf P t = some z) (hzk : z.length = k) (hb : w.heap[b]? = some (.cells ((List.replicate c z).flatten).toArray t (0, 0))) (hK : ¬ K b) (hno : ∀ j, Alive s j → (β j).b ≠ b) :
    Cz w K (lay β s.length ⟨b, 0, k, c⟩) (s ++ [some (.cells t k (List.replicate c (zeroA z)))]) := by
  have hbb : ∀ i, i < s.length → lay β s.length ⟨b, 0, k, c⟩ i = β i := fun i hi => lay_ne _ _ (by omega)
  have alive : ∀ i, Alive (s ++ [some (.cells t k (List.replicate c (zeroA z)))]) i → Alive s i ∨ i = s.length := fun i ⟨x, h⟩ => by
    rcases get_app h with h | h
    · exact .inl ⟨x, h⟩
    · exact .inr h.1
  refine ⟨?_, ?_, ?_, hz.kb⟩
  · intro i x hi
    rcases get_app hi with hi | ⟨rfl, he⟩
    · rw [hbb i (alive_lt ⟨x, hi⟩)]
      exact hz.old (.refl _ _) (by simp) hbb hi rfl
    · simp only [Option.some.injEq] at he; subst he
      rw [lay_same]
      refine ⟨[], (List.replicate c z).flatten, [], by simpa using hb, rfl, RL_zeros hz0 c, ?_, rfl, zeros_one, fun r hr => by rw [(List.mem_replicate.1 hr).2]; simpa [zeroA] using hzk⟩
      rw [List.nil_append, List.append_nil, flatten_length (k := k) (fun r hr => by rw [(List.mem_replicate.1 hr).2]; exact hzk), List.length_replicate, Nat.zero_add]
  · intro i j hi hj hij
    rcases alive i hi with hi | hi <;> rcases alive j hj with hj | hj
    · rw [hbb i (alive_lt hi), hbb j (alive_lt hj)]; exact hz.inj i j hi hj hij
    · subst hj; rw [hbb i (alive_lt hi), lay_same]; exact hno i hi
    · subst hi; rw [hbb j (alive_lt hj), lay_same]; exact fun e => hno j hj e.symm
    · omega
  · intro i hi
    rcases alive i hi with hi | hi
    · rw [hbb i (alive_lt hi)]; exact hz.dis i hi
    · subst hi; rw [lay_same]; exact hK
theorem Cz.kd {w w' : World} {K : Nat → Prop} {β : Nat → Loc} {s : St} (hz : Cz w K β s) (h : w'.heap = w.heap) : Cz w' K β s := by
  refine ⟨fun i b hi => ?_, hz.inj, hz.dis, fun b hb => by rw [h]; exact hz.kb b hb⟩
  exact hz.old ⟨fun _ h => h, fun b _ => by rw [h]⟩ (Nat.le_refl _) (fun _ _ => rfl) hi (by rw [h])
theorem take_succ' {x p : Nat} (hx : pi[p]? = some x) {y : Nat} : y ∈ pi.take (p + 1) ↔ y ∈ pi.take p ∨ y = x := by
  have hp := (List.getElem?_eq_some_iff.1 hx)
  obtain ⟨hl, e⟩ := hp
  rw [List.take_succ_eq_append_getElem hl, e]; simp
theorem nd_take (hO : Ord an il pi) {x p : Nat} (hx : pi[p]? = some x) : x ∉ pi.take p := by
  intro h
  obtain ⟨q, hq⟩ := List.getElem?_of_mem h
  rw [List.getElem?_take] at hq
  split at hq
  · rename_i hqp
    obtain ⟨h1, e1⟩ := List.getElem?_eq_some_iff.1 hx
    obtain ⟨h2, e2⟩ := List.getElem?_eq_some_iff.1 hq
    exact (List.pairwise_iff_getElem.1 hO.nd) q p h2 h1 hqp (e2.trans e1.symm)
  · cases hq
structure Ch (P : Program) (an : List (List Nat)) (il : List Ins) (pi : List Nat) : Prop where
  ord : Ord an il pi
  tmp : tmpOK an il = true
  self : ∀ (x : Nat) n, il[x]? = some n → isFl n = true → ∀ d, n.d = some d → d ∉ n.reads
  all : ∀ i, i < il.length → i ∈ pi
/-- Ancestors of what has been reckoned with have been reckoned with. -/
theorem anc_take (hc : Ch P an il pi) {p f y : Nat} (hf : f ∈ pi.take p) (hy : y ∈ getL an f) : y ∈ pi.take p := by
  obtain ⟨q, hq⟩ := List.getElem?_of_mem hf
  rw [List.getElem?_take] at hq
  split at hq
  · rename_i hqp
    have := hc.ord.anc q f hq y hy
    exact (List.take_subset_take_left pi (Nat.le_of_lt hqp)) this
  · cases hq
theorem apart_fl (hc : Ch P an il pi) {p x : Nat} (hx : pi[p]? = some x) {n : Ins} (hn : il[x]? = some n) (hk : isFl n = true ∨ isAl n = true) {f : Nat} {k : Ins} (hf : f ∈ pi.take p) (hkf : il[f]? = some k) : ∀ d, n.d = some d → k.d ≠ some d ∧ d ∉ k.reads := by
  intro d hd
  have hfx : f ≠ x := fun e => nd_take hc.ord hx (e ▸ hf)
  obtain ⟨h1, h2⟩ := (tmpOK_get hc.tmp hn hkf hfx hd).1 hk
  exact ⟨h1, fun hr => nd_take hc.ord hx (anc_take hc hf (h2 hr))⟩
theorem apart_ch (hc : Ch P an il pi) {p x : Nat} (hx : pi[p]? = some x) {n : Ins} (hn : il[x]? = some n) {f : Nat} {k : Ins} (hf : f ∈ pi.take p) (hkf : il[f]? = some k) (hna : f ∉ getL an x) : ∀ d, n.d = some d → k.d ≠ some d ∧ d ∉ k.reads := by
  intro d hd
  have hfx : f ≠ x := fun e => nd_take hc.ord hx (e ▸ hf)
  have h2 := (tmpOK_get hc.tmp hn hkf hfx hd).2
  have h3 : ¬ (x ∈ getL an f ∨ f ∈ getL an x) := fun h => by
    rcases h with h | h
    · exact nd_take hc.ord hx (anc_take hc hf h)
    · exact hna h
  exact ⟨fun e => h3 (h2 (.inl e)), fun e => h3 (h2 (.inr e))⟩
/-- What a step leaves of what is still to be carried out. -/
theorem pend_step {n k : Ins} (hap : ∀ d, n.d = some d → k.d ≠ some d ∧ d ∉ k.reads) {T : Tm} {s s' : St} {v : AV} (hr : Replay k T s) (hs : floatV s' T k = floatV s T k) : Replay k (tput n.d v T) s' := by
  have key : ∀ t, (t ∈ k.reads ∨ k.d = some t) → tget (tput n.d v T) t = tget T t := by
    intro t ht
    cases hd : n.d with
    | none => rfl
    | some d =>
      simp only [tput, tget_tset]
      rw [if_neg]
      intro e
      subst e
      rcases ht with h | h
      · exact (hap d hd).2 h
      · exact (hap d hd).1 h
  exact hr.congr (fun t ht => key t (.inl ht)) (fun d hd => key d (.inr hd)) hs
theorem drop_cons {l : List DI} {p : Nat} {x : DI} (h : l[p]? = some x) : l.drop p = x :: l.drop (p + 1) := by
  obtain ⟨hl, e⟩ := List.getElem?_eq_some_iff.1 h
  rw [← e]; exact (List.getElem_cons_drop hl).symm
theorem RT_sub {w : World} {K : Nat → Prop} {β : Nat → Loc} {n : Nat} {T T' : Tm} {a : Act} (h : RT w K β n T a) (hs : ∀ i v, tget T' i = some v → tget T i = some v) : RT w K β n T' a := fun i v hv => h i v (hs i v hv)
theorem advance (hc : Ch P an il pi) {dl : List DI} (hdl : dl = mkD an il [] pi) {Q : Tm → St → Prop} {p : Nat} {L : Nat → Bool} {T : Tm} {s : St} {w : World} {K : Nat → Prop} {β : Nat → Loc} {a : Act} {bl : Nat → Nat} (hi : DInv P N m il an pi w0 K0 β0 s0 p L T s w K β a bl)
    (hr : RunD P (dl.drop p) T s Q) {x : Nat} (hx : pi[p]? = some x) {n : Ins} (hn : il[x]? = some n) (hk : isFl n = true ∨ (isAl n = true ∧ L x = true)) :
    ∃ T' s' β', DInv P N m il an pi w0 K0 β0 s0 (p + 1) L T' s' w K β' a bl ∧ RunD P (dl.drop (p + 1)) T' s' Q := by
  obtain ⟨m1, m2⟩ := mkD_get (an := an) (il := il) (r := pi) (pre := []) hc.ord.mem
  have hd := m2 p x n hx hn
  rw [← hdl] at hd
  simp only [List.nil_append] at hd
  rw [drop_cons hd] at hr
  simp only [RunD, StepD] at hr
  have hxt := nd_take hc.ord hx
  have tk := fun {y : Nat} => take_succ' (pi := pi) hx (y := y)
  by_cases hfl : isFl n = true
  · have hLx : L x = false := by
      cases h : L x with
      | false => rfl
      | true => exact absurd (hi.lst x n h hn (isFl_isAl hfl)) hxt
    have step : ∀ v, (∀ T', T' = tput n.d v T → Replay n T' s) → DInv P N m il an pi w0 K0 β0 s0 (p + 1) L (tput n.d v T) s w K β a bl := by
      intro v hrep
      refine { down := hi.down, lt := hi.lt, cz := hi.cz, sz := hi.sz, df := hi.df, ext := hi.ext, done := ?_, lst := ?_, early := ?_, einj := ?_, rt := ?_, pend := ?_ }
      · intro i k hm hk' hfk
        rcases tk.1 hm with hm | rfl
        · exact hi.done i k hm hk' hfk
        · rw [hn] at hk'; cases hk'; rw [hfl] at hfk; cases hfk
      · exact fun i k h1 h2 h3 => tk.2 (.inl (hi.lst i k h1 h2 h3))
      · exact fun i k h1 h2 h3 => hi.early i k h1 (fun h => h2 (tk.2 (.inl h))) h3
      · exact fun i j h1 h2 h3 h4 => hi.einj i j h1 h2 (fun h => h3 (tk.2 (.inl h))) (fun h => h4 (tk.2 (.inl h)))
      · refine RT_sub hi.rt fun t u ht => ?_
        rw [tget_filter] at ht ⊢
        split at ht
        · rename_i hv
          rw [vis_iff] at hv
          have hnd : n.d ≠ some t := fun hd => by
            have := (hv x n hn hd).1 (tk.2 (.inr rfl))
            rw [hLx] at this; cases this
          have hv' : vis il (pi.take p) L t = true := vis_iff.2 fun i k hk' hd => by
            rw [← hv i k hk' hd, tk]
            constructor
            · exact fun h => .inl h
            · rintro (h | rfl)
              · exact h
              · rw [hn] at hk'; cases hk'; exact absurd hd hnd
          rw [if_pos hv']
          cases hd : n.d with
          | none => rw [hd] at ht; exact ht
          | some d =>
            rw [hd] at ht hnd
            simp only [tput, tget_tset] at ht
            rw [if_neg (fun e => hnd (by rw [e]))] at ht
            exact ht
        · cases ht
      · intro i k hm hk' hfk hLi
        rcases tk.1 hm with hm | rfl
        · exact pend_step (apart_fl hc hx hn (.inl hfl) hm hk') (hi.pend i k hm hk' hfk hLi) rfl
        · rw [hn] at hk'; cases hk'; exact hrep _ rfl
    have own : ∀ v T', T' = tput n.d v T → ∀ d, n.d = some d → tget T' d = some v := by
      intro v T' e d hd
      rw [e, hd]; simp [tput, tget_tset]
    have rd : ∀ v, ∀ t ∈ n.reads, tget (tput n.d v T) t = tget T t := by
      intro v t ht
      cases hd : n.d with
      | none => rfl
      | some d =>
        simp only [tput, tget_tset]
        rw [if_neg]
        intro e; subst e
        exact hc.self x n hn hfl d hd ht
    split at hr
    · rename_i hg
      rw [if_pos hfl] at hr
      split at hr
      · rename_i C v hv
        refine ⟨tput n.d v T, s, β, step v fun T' e => .inl ⟨?_, C, v, ?_, hr.1, own v T' e⟩, hr.2⟩
        · rw [e, gate_congr (rd v)]; exact hg
        · rw [e, floatV_congr (rd v)]; exact hv
      · exact hr.elim
    · rename_i hg
      refine ⟨tput n.d (.tup []) T, s, β, step _ fun T' e => .inr ⟨?_, own _ T' e⟩, hr⟩
      rw [e, gate_congr (rd _)]; exact hg
    · exact hr.elim
  · obtain ⟨hal, hLx⟩ := hk.resolve_left hfl
    obtain ⟨d, o, t, kz, c, z, sl, rfl, hao, hz0, hzk, htm, hb, hnk, hno, hnew⟩ : ∃ d o t k c z sl, n = .k (some d) none o ∧ alOf o = some (t, k, c, z, sl) ∧ zeroOf P t = some z ∧ z.length = k ∧ a.tmps[d]? = some (alU (bl x) c sl) ∧ w.heap[bl x]? = some (.cells ((List.replicate c z).flatten).toArray t (0, 0)) ∧
        ¬ K (bl x) ∧ (∀ j, Alive s j → (β j).b ≠ bl x) ∧ w0.heap.size ≤ bl x := by
      obtain ⟨⟨d, o, t, k, c, z, sl, e1, e2, e3, e4, e5, e6⟩, e7, e8, e9⟩ := hi.early x n hLx hxt hn
      exact ⟨d, o, t, k, c, z, sl, e1, e2, e3, e4, e5, e6, e7, e8, e9⟩
    simp only [Ins.g, gate, al_isFl hao, Bool.false_eq_true, if_false, Ins.d, tput] at hr
    obtain ⟨hst, hrun⟩ := stepV_al hao hr
    have hbb : ∀ i, i < s.length → lay β s.length ⟨bl x, 0, kz, c⟩ i = β i := fun i hi => lay_ne _ _ (by omega)
    have hcz' := hi.cz.adopt hz0 hzk hb hnk hno
    have alive : ∀ i, Alive (s ++ [some (.cells t kz (List.replicate c (zeroA z)))]) i → Alive s i ∨ i = s.length := fun i ⟨y, h⟩ => by
      rcases get_app h with h | h
      · exact .inl ⟨y, h⟩
      · exact .inr h.1
    refine ⟨_, _, lay β s.length ⟨bl x, 0, kz, c⟩, ?_, hrun⟩
    refine { down := hi.down, lt := hi.lt, cz := hcz', sz := hi.sz, df := hi.df, ext := ?_, done := ?_, lst := ?_, early := ?_, einj := ?_, rt := ?_, pend := ?_ }
    · intro i k hm hk' hfk
      rcases tk.1 hm with hm | rfl
      · exact hi.done i k hm hk' hfk
      · exact hLx
    · exact fun i k h1 h2 h3 => tk.2 (.inl (hi.lst i k h1 h2 h3))
    · intro i k h1 h2 h3
      have h2' : i ∉ pi.take p := fun h => h2 (tk.2 (.inl h))
      have hix : i ≠ x := fun e => h2 (tk.2 (.inr e))
      have := hi.early i k h1 h2' h3
      refine { ex := this.ex, nk := this.nk, new := this.new, no := fun j hj => ?_ }
      rcases alive j hj with hj | hj
      · rw [hbb j (alive_lt hj)]; exact this.no j hj
      · subst hj; rw [lay_same]; exact hi.einj x i hLx h1 hxt h2' (Ne.symm hix)
    · exact fun i j h1 h2 h3 h4 => hi.einj i j h1 h2 (fun h => h3 (tk.2 (.inl h))) (fun h => h4 (tk.2 (.inl h)))
    · exact { size := hi.ext.size, io := hi.ext.io, frame := hi.ext.frame, kmono := hi.ext.kmono, knew := hi.ext.knew
              fix := fun i hi' => by rw [hbb i (Nat.lt_of_lt_of_le hi' hi.ext.len)]; exact hi.ext.fix i hi'
              len := Nat.le_trans hi.ext.len (by simp)
              onew := fun i hi' => by
                rcases alive i hi' with h | h
                · rw [hbb i (alive_lt h)]; exact hi.ext.onew i h
                · subst h; rw [lay_same]; exact .inl hnew }
    · intro y v hv
      rw [tget_filter] at hv
      split at hv
      · rename_i hvis
        rw [tget_tset] at hv
        split at hv
        · rename_i e
          subst e
          simp only [Option.some.injEq] at hv; subst hv
          exact ⟨_, htm, R_al (by simp)⟩
        · rename_i e
          have hv' : vis il (pi.take p) L y = true := vis_iff.2 fun i k hk' hd => by
            rw [← (vis_iff.1 hvis) i k hk' hd, tk]
            constructor
            · exact fun h => .inl h
            · rintro (h | rfl)
              · exact h
              · rw [hn] at hk'; cases hk'
                simp only [Ins.d, Option.some.injEq] at hd
                exact absurd hd e
          obtain ⟨u, h1, h2⟩ := hi.rt y v (by rw [tget_filter, if_pos hv']; exact hv)
          exact ⟨u, h1, h2.mono (.refl _ _) (by simp) hbb⟩
      · cases hv
    · intro i k hm hk' hfk hLi
      rcases tk.1 hm with hm | rfl
      · refine pend_step (n := .k (some d) none o) (apart_fl hc hx hn (.inr hal) hm hk') (hi.pend i k hm hk' hfk hLi) ?_
        by_cases hu : usesS k = true
        · refine allP_mem (p := fun f => floatV (s ++ [some (.cells t kz (List.replicate c (zeroA z)))]) T f = floatV s T f) hst ?_
          unfold stOf
          rw [List.mem_filterMap]
          refine ⟨i, List.mem_filter.2 ⟨hm, ?_⟩, by simp [hk', hfk, hu]⟩
          simp only [Bool.not_eq_true', ← Bool.not_eq_true, List.contains_iff_mem]
          intro h
          have := hi.down x i hLx h
          rw [hLi] at this; cases this
        · exact floatV_pure (by simpa using hu) _ _ _
      · rw [hn] at hk'; cases hk'; rw [al_isFl hao] at hfk; cases hfk
end
end Go.Proofs.Ytcedkkleclhglaa.H
