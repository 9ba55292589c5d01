/- Regions that draw their order: the law. -/
import Derived.Test.YtcedkkleclhglaaHaO
set_option linter.unusedSimpArgs false
set_option linter.unusedVariables false
set_option linter.unusedSectionVars false
namespace Go.Proofs.Ytcedkkleclhglaa.H
section
variable {P : Program} {N m : Nat} {il : List Ins} {an : List (List Nat)} {pi : List Nat} {w0 : World} {K0 : Nat → Prop} {β0 : Nat → Loc} {s0 : St}
theorem mem_take_iff (hO : Ord an il pi) {x q p : Nat} (hx : pi[q]? = some x) : x ∈ pi.take p ↔ q < p := by
  constructor
  · intro h
    obtain ⟨r, hr⟩ := List.getElem?_of_mem h
    rw [List.getElem?_take] at hr
    split at hr
    · rename_i hrp
      rcases Nat.lt_trichotomy q r with h1 | h1 | h1
      · omega
      · omega
      · have : x ∈ pi.take q := List.mem_of_getElem? (i := r) (by rw [List.getElem?_take, if_pos h1]; exact hr)
        exact absurd this (nd_take hO hx)
    · cases hr
  · intro h
    exact List.mem_of_getElem? (i := q) (by rw [List.getElem?_take, if_pos h]; exact hx)
theorem advance_to (hc : Ch P an il pi) {dl : List DI} (hdl : dl = mkD an il [] pi) {Q : Tm → St → Prop} {L : Nat → Bool} {w : World} {K : Nat → Prop} {a : Act} {bl : Nat → Nat} {q : Nat} (hq : q ≤ pi.length) :
    ∀ (k p : Nat), p + k = q → ∀ {T : Tm} {s : St} {β : Nat → Loc}, DInv P N m il an pi w0 K0 β0 s0 p L T s w K β a bl → RunD P (dl.drop p) T s Q →
      (∀ r x n, p ≤ r → r < q → pi[r]? = some x → il[x]? = some n → isFl n = true ∨ (isAl n = true ∧ L x = true)) →
      ∃ T' s' β', DInv P N m il an pi w0 K0 β0 s0 q L T' s' w K β' a bl ∧ RunD P (dl.drop q) T' s' Q
  | 0, p, h, T, s, β, hi, hr, _ => by
    have : p = q := by omega
    subst this
    exact ⟨T, s, β, hi, hr⟩
  | k + 1, p, h, T, s, β, hi, hr, hall => by
    have hp : p < pi.length := by omega
    obtain ⟨n, hn⟩ := hc.ord.mem pi[p] (List.getElem_mem hp)
    obtain ⟨T1, s1, β1, h1, h2⟩ := advance hc hdl hi hr (x := pi[p]) (by simp [hp]) hn (hall p pi[p] n (Nat.le_refl _) (by omega) (by simp [hp]) hn)
    exact advance_to hc hdl hq k (p + 1) (by omega) h1 h2 fun r x n h3 => hall r x n (by omega)
/-- Everything ahead of an operation that is ready can be reckoned with. -/
theorem ahead (hc : Ch P an il pi) {p : Nat} {L : Nat → Bool} {T : Tm} {s : St} {w : World} {K : Nat → Prop} {β : Nat → Loc} {a : Act} {bl : Nat → Nat} (hi : DInv P N m il an pi w0 K0 β0 s0 p L T s w K β a bl)
    {i q : Nat} {n : Ins} (hq : pi[q]? = some i) (hn : il[i]? = some n) (hal : isAl n = false) (hrd : ∀ j ∈ getL an i, L j = true) :
    ∀ r x k, p ≤ r → r < q → pi[r]? = some x → il[x]? = some k → isFl k = true ∨ (isAl k = true ∧ L x = true) := by
  intro r x k hpr hrq hx hk
  by_cases hf : isFl k = true
  · exact .inl hf
  · right
    have hx' : x ∈ getL an i := hc.ord.kind q i n hq hn hal x k ((mem_take_iff hc.ord hx).2 hrq) hk (by simpa using hf)
    have hL := hrd x hx'
    refine ⟨?_, hL⟩
    cases h : isAl k with
    | true => rfl
    | false => exact absurd ((mem_take_iff hc.ord hx).1 (hi.lst x k hL hk h)) (by omega)
theorem vis_reads (hc : Ch P an il pi) {p : Nat} {L : Nat → Bool} {T : Tm} {s : St} {w : World} {K : Nat → Prop} {β : Nat → Loc} {a : Act} {bl : Nat → Nat} (hi : DInv P N m il an pi w0 K0 β0 s0 p L T s w K β a bl)
    {i : Nat} {n : Ins} (hn : il[i]? = some n) (hL : L i = false) (hrd : ∀ j ∈ getL an i, L j = true) (han : ∀ j ∈ getL an i, j ∈ pi.take p) (hself : ∀ d, n.d = some d → d ∈ n.reads → i ∉ pi.take p) :
    ∀ t ∈ n.reads, tget (T.filter fun q => vis il (pi.take p) L q.1) t = tget T t := by
  intro t ht
  rw [tget_filter, if_pos]
  rw [vis_iff]
  intro j k hk hd
  by_cases hji : j = i
  · subst hji
    rw [hn] at hk; cases hk
    have := hself t hd ht
    simp [hL, this]
  · have hcase := tmpOK_get hc.tmp hk hn (Ne.symm hji) hd
    have both : j ∈ getL an i → (j ∈ pi.take p ↔ L j = true) := fun h => ⟨fun _ => hrd j h, fun _ => han j h⟩
    rcases hcase.2 (.inr ht) with h | h
    · exact both h
    · by_cases hf : isFl k = true ∨ isAl k = true
      · exact both ((hcase.1 hf).2 ht)
      · have hLj : L j = false := by
          cases hh : L j with
          | false => rfl
          | true => have := hi.down j i hh h; rw [hL] at this; cases this
        refine ⟨fun hm => hi.done j k hm hk ?_, fun hh => by rw [hLj] at hh; cases hh⟩
        cases hh : isFl k with
        | false => rfl
        | true => exact absurd (.inl hh) hf
def upd (L : Nat → Bool) (i : Nat) : Nat → Bool := fun j => j == i || L j
theorem upd_iff {L : Nat → Bool} {i j : Nat} : upd L i j = true ↔ j = i ∨ L j = true := by simp [upd]
/-- What a step of the model leaves of the early blocks. -/
theorem early_keep {L : Nat → Bool} {s s' : St} {w w' : World} {K K' : Nat → Prop} {β β' : Nat → Loc} {a : Act} {d : Option Nat} {u : Value} {n : Ins} {b : Nat} (he : Early P w0 w K β s a n b) (hx : Ext s.length w K β s w' K' β' s') (hd : ∀ e, n.d = some e → d ≠ some e) :
    Early P w0 w' K' β' s' (a.put d u) n b := by
  obtain ⟨⟨e, o, t, k, c, z, sl, rfl, e1, e2, e8, e3, e4⟩, e5, e6, e7⟩ := he
  have hb : b < w.heap.size := (Array.getElem?_eq_some_iff.1 e4).1
  refine ⟨⟨e, o, t, k, c, z, sl, rfl, e1, e2, e8, ?_, by rw [hx.frame b hb e6]; exact e4⟩, fun h => ?_, fun j hj h => ?_, e7⟩
  · cases d with
    | none => exact e3
    | some d =>
      simp only [Act.put]
      rw [Array.getElem?_setIfInBounds_ne fun h => hd e rfl (by rw [h])]
      exact e3
  · rcases hx.knew b h with h | h | ⟨j, hj, h⟩
    · exact e5 h
    · omega
    · exact e6 j hj h
  · rcases hx.onew j hj with h1 | ⟨k, hk, h1⟩
    · omega
    · exact e6 k hk (h1.trans h)
theorem exec_float (hc : Ch P an il pi) {p : Nat} {L : Nat → Bool} {T : Tm} {s : St} {w : World} {K : Nat → Prop} {β : Nat → Loc} {a : Act} {bl : Nat → Nat} (hi : DInv P N m il an pi w0 K0 β0 s0 p L T s w K β a bl)
    {ops : Array Oper} {i : Nat} {n : Ins} (hn : il[i]? = some n) {o : Oper} (ho : ops[i]? = some o) (hins : insOf P N ops o = some n) (hfl : isFl n = true) (hL : L i = false) (hip : i ∈ pi.take p) (hrd : ∀ j ∈ getL an i, L j = true) {Q' : Exit → Act → World → Prop}
    {next : Act → World → Prop} (hk : ∀ w' K' β' a', DInv P N m il an pi w0 K0 β0 s0 p (upd L i) T s w' K' β' a' bl → next a' w') : wpOp P ops Q' i next a w := by
  have hrep := hi.pend i n hip hn hfl hL
  have hvis := vis_reads hc hi hn hL hrd (fun j hj => anc_take hc hip hj) (fun d hd hr => absurd hr (hc.self i n hn hfl d hd))
  obtain ⟨hd1, hd2, hg⟩ := insOf_d hins
  have inv : ∀ v u w' K' β', R w' K' β' s.length v u → Cz w' K' β' s → Ext s.length w K β s w' K' β' s → (∀ d, n.d = some d → tget T d = some v) → DInv P N m il an pi w0 K0 β0 s0 p (upd L i) T s w' K' β' (a.put o.dst u) bl := by
    intro v u w' K' β' hR hz hx hT
    have hs := hx.stays hi.cz
    refine { down := ?_, lt := ?_, done := ?_, lst := ?_, early := ?_, einj := ?_, cz := hz, sz := by rw [put_size]; exact hi.sz, df := by rw [put_defers']; exact hi.df, ext := hi.ext.trans hi.ext.len hx, rt := ?_, pend := ?_ }
    · intro j k hj hkj
      rcases upd_iff.1 hj with rfl | hj
      · exact upd_iff.2 (.inr (hrd k hkj))
      · exact upd_iff.2 (.inr (hi.down j k hj hkj))
    · intro j hj
      rcases upd_iff.1 hj with rfl | hj
      · exact (List.getElem?_eq_some_iff.1 hn).1
      · exact hi.lt j hj
    · exact fun j k h1 h2 h3 => upd_iff.2 (.inr (hi.done j k h1 h2 h3))
    · intro j k h1 h2 h3
      rcases upd_iff.1 h1 with rfl | h1
      · exact hip
      · exact hi.lst j k h1 h2 h3
    · intro j k h1 h2 h3
      rcases upd_iff.1 h1 with rfl | h1
      · exact absurd hip h2
      · have he := hi.early j k h1 h2 h3
        refine early_keep (L := L) he hx fun e hke => ?_
        obtain ⟨d, oo, t, kk, cc, z, sl, rfl, hao, _⟩ := he.ex
        have hji : i ≠ j := fun e => h2 (e ▸ hip)
        have := ((tmpOK_get hc.tmp h3 hn hji hke).1 (.inr (by simp [isAl, hao]))).1
        rw [← hd1]; exact this
    · intro j k h1 h2 h3 h4
      rcases upd_iff.1 h1 with rfl | h1
      · exact absurd hip h3
      · rcases upd_iff.1 h2 with rfl | h2
        · exact absurd hip h4
        · exact hi.einj j k h1 h2 h3 h4
    · intro t x ht
      rw [tget_filter] at ht
      split at ht
      · rename_i hv
        rw [vis_iff] at hv
        by_cases htd : n.d = some t
        · rw [hT t htd] at ht; cases ht
          have hlt : t < a.tmps.size := by rw [← hd1, htd] at hd2; rw [hi.sz]; simpa [okDst] using hd2
          refine ⟨u, ?_, hR⟩
          rw [← hd1, htd]; simp [Act.put, hlt]
        · have hv' : vis il (pi.take p) L t = true := vis_iff.2 fun j k hk' hd => by
            rw [hv j k hk' hd, upd_iff]
            constructor
            · rintro (rfl | h)
              · rw [hn] at hk'; cases hk'; exact absurd hd htd
              · exact h
            · exact fun h => .inr h
          obtain ⟨u', h1, h2⟩ := hi.rt t x (by rw [tget_filter, if_pos hv']; exact ht)
          refine ⟨u', ?_, h2.mono hs (Nat.le_refl _) hx.fix⟩
          rw [← hd1]
          cases hd : n.d with
          | none => exact h1
          | some d =>
            simp only [Act.put]
            rw [Array.getElem?_setIfInBounds_ne fun e => htd (by rw [hd, e])]
            exact h1
      · cases ht
    · intro j k h1 h2 h3 h4
      refine hi.pend j k h1 h2 h3 ?_
      cases hh : L j with
      | false => rfl
      | true => rw [upd_iff.2 (.inr hh)] at h4; cases h4
  simp only [wpOp, ho]
  rcases hrep with ⟨hgt, C, v, hv, hC, hT⟩ | ⟨hgt, hT⟩
  · rw [if_pos (gate_ok hg (by rw [gate_congr hvis]; exact hgt) hi.rt)]
    refine .inl (stepV_ok hins (k := fun v' s' => v' = v ∧ s' = s) (float_stepV (by rw [floatV_congr hvis]; exact hv) hC ⟨rfl, rfl⟩) ⟨hi.cz, hi.rt, hi.sz, hi.df⟩ fun v' s' w' K' β' u hks hz hR hx => ?_)
    obtain ⟨rfl, rfl⟩ := hks
    exact hk _ _ _ _ (inv _ u w' K' β' hR hz hx hT)
  · rw [if_neg (by rw [gate_ok hg (by rw [gate_congr hvis]; exact hgt) hi.rt]; simp)]
    exact hk _ _ _ _ (inv _ undef w K β R_undef hi.cz (.refl (Nat.le_refl _)) hT)
theorem exec_chain (hc : Ch P an il pi) {dl : List DI} (hdl : dl = mkD an il [] pi) {Q : Tm → St → Prop} {p : Nat} {L : Nat → Bool} {T : Tm} {s : St} {w : World} {K : Nat → Prop} {β : Nat → Loc} {a : Act} {bl : Nat → Nat} (hi : DInv P N m il an pi w0 K0 β0 s0 p L T s w K β a bl)
    (hr : RunD P (dl.drop p) T s Q) {ops : Array Oper} {i : Nat} {n : Ins} (hx : pi[p]? = some i) (hn : il[i]? = some n) {o : Oper} (ho : ops[i]? = some o) (hins : insOf P N ops o = some n) (hfl : isFl n = false) (hal : isAl n = false) (hL : L i = false) (hrd : ∀ j ∈ getL an i, L j = true) {Q' : Exit → Act → World → Prop}
    {next : Act → World → Prop} (hk : ∀ T' s' w' K' β' a', DInv P N m il an pi w0 K0 β0 s0 (p + 1) (upd L i) T' s' w' K' β' a' bl → RunD P (dl.drop (p + 1)) T' s' Q → next a' w') : wpOp P ops Q' i next a w := by
  have hip := nd_take hc.ord hx
  have tk := fun {y : Nat} => take_succ' (pi := pi) hx (y := y)
  have hvis := vis_reads hc hi hn hL hrd (fun j hj => hc.ord.anc p i hx j hj) (fun d hd hr => hip)
  obtain ⟨hd1, hd2, hg⟩ := insOf_d hins
  obtain ⟨m1, m2⟩ := mkD_get (an := an) (il := il) (r := pi) (pre := []) hc.ord.mem
  have hd := m2 p i n hx hn
  rw [← hdl] at hd
  simp only [List.nil_append, hfl, Bool.false_eq_true, if_false] at hd
  rw [drop_cons hd] at hr
  simp only [RunD, StepD, hfl, Bool.false_eq_true, if_false] at hr
  have inv : ∀ v s' u w' K' β', R w' K' β' s'.length v u → Cz w' K' β' s' → Ext s.length w K β s w' K' β' s' → (∀ f ∈ stOf an il (pi.take p) i, floatV s' T f = floatV s T f) → DInv P N m il an pi w0 K0 β0 s0 (p + 1) (upd L i) (tput n.d v T) s' w' K' β' (a.put o.dst u) bl := by
    intro v s' u w' K' β' hR hz hx' hst
    have hs := hx'.stays hi.cz
    refine { down := ?_, lt := ?_, done := ?_, lst := ?_, early := ?_, einj := ?_, cz := hz, sz := by rw [put_size]; exact hi.sz, df := by rw [put_defers']; exact hi.df, ext := hi.ext.trans hi.ext.len hx', rt := ?_, pend := ?_ }
    · intro j k hj hkj
      rcases upd_iff.1 hj with rfl | hj
      · exact upd_iff.2 (.inr (hrd k hkj))
      · exact upd_iff.2 (.inr (hi.down j k hj hkj))
    · intro j hj
      rcases upd_iff.1 hj with rfl | hj
      · exact (List.getElem?_eq_some_iff.1 hn).1
      · exact hi.lt j hj
    · intro j k h1 h2 h3
      rcases tk.1 h1 with h1 | rfl
      · exact upd_iff.2 (.inr (hi.done j k h1 h2 h3))
      · exact upd_iff.2 (.inl rfl)
    · intro j k h1 h2 h3
      rcases upd_iff.1 h1 with rfl | h1
      · exact tk.2 (.inr rfl)
      · exact tk.2 (.inl (hi.lst j k h1 h2 h3))
    · intro j k h1 h2 h3
      rcases upd_iff.1 h1 with rfl | h1
      · exact absurd (tk.2 (.inr rfl)) h2
      · have h2' : j ∉ pi.take p := fun h => h2 (tk.2 (.inl h))
        have he := hi.early j k h1 h2' h3
        refine early_keep (L := L) he hx' fun e hke => ?_
        obtain ⟨d, oo, t, kk, cc, z, sl, rfl, hao, _⟩ := he.ex
        have hji : i ≠ j := fun e => h2 (tk.2 (.inr e.symm))
        have := ((tmpOK_get hc.tmp h3 hn hji hke).1 (.inr (by simp [isAl, hao]))).1
        rw [← hd1]; exact this
    · intro j k h1 h2 h3 h4
      rcases upd_iff.1 h1 with rfl | h1
      · exact absurd (tk.2 (.inr rfl)) h3
      · rcases upd_iff.1 h2 with rfl | h2
        · exact absurd (tk.2 (.inr rfl)) h4
        · exact hi.einj j k h1 h2 (fun h => h3 (tk.2 (.inl h))) (fun h => h4 (tk.2 (.inl h)))
    · intro t x ht
      rw [tget_filter] at ht
      split at ht
      · rename_i hv
        rw [vis_iff] at hv
        by_cases htd : n.d = some t
        · rw [htd] at ht
          simp only [tput, tget_tset, if_true] at ht
          cases ht
          have hlt : t < a.tmps.size := by rw [← hd1, htd] at hd2; rw [hi.sz]; simpa [okDst] using hd2
          refine ⟨u, ?_, hR⟩
          rw [← hd1, htd]; simp [Act.put, hlt]
        · have hv' : vis il (pi.take p) L t = true := vis_iff.2 fun j k hk' hd => by
            have := hv j k hk' hd
            have hji : j ≠ i := fun e => by subst e; rw [hn] at hk'; cases hk'; exact htd hd
            rw [tk, upd_iff] at this
            simpa [hji] using this
          have htT : tget T t = some x := by
            cases hd : n.d with
            | none => rw [hd] at ht; exact ht
            | some d =>
              rw [hd] at ht htd
              simp only [tput, tget_tset] at ht
              rw [if_neg (fun e => htd (by rw [e]))] at ht
              exact ht
          obtain ⟨u', h1, h2⟩ := hi.rt t x (by rw [tget_filter, if_pos hv']; exact htT)
          refine ⟨u', ?_, h2.mono hs hx'.len hx'.fix⟩
          rw [← hd1]
          cases hd : n.d with
          | none => exact h1
          | some d =>
            simp only [Act.put]
            rw [Array.getElem?_setIfInBounds_ne fun e => htd (by rw [hd, e])]
            exact h1
      · cases ht
    · intro j k h1 h2 h3 h4
      have hLj : L j = false := by
        cases hh : L j with
        | false => rfl
        | true => rw [upd_iff.2 (.inr hh)] at h4; cases h4
      rcases tk.1 h1 with h1 | rfl
      · have hna : j ∉ getL an i := fun h => by have := hrd j h; rw [hLj] at this; cases this
        refine pend_step (apart_ch hc hx hn h1 h2 hna) (hi.pend j k h1 h2 h3 hLj) ?_
        by_cases hu : usesS k = true
        · refine hst k ?_
          unfold stOf
          rw [List.mem_filterMap]
          exact ⟨j, List.mem_filter.2 ⟨h1, by simpa using hna⟩, by simp [h2, h3, hu]⟩
        · exact floatV_pure (by simpa using hu) _ _ _
      · rw [hn] at h2; cases h2; rw [hfl] at h3; cases h3
  simp only [wpOp, ho]
  split at hr
  · rename_i hgt
    rw [if_pos (gate_ok hg (by rw [gate_congr hvis]; exact hgt) hi.rt)]
    refine .inl (stepV_ok hins (stepV_congr (fun t ht => (hvis t ht).symm) hr) ⟨hi.cz, hi.rt, hi.sz, hi.df⟩ fun v s' w' K' β' u hks hz hR hx' => ?_)
    exact hk _ _ _ _ _ _ (inv v s' u w' K' β' hR hz hx' fun f hf => allP_mem (p := fun f => floatV s' T f = floatV s T f) hks.1 hf) hks.2
  · rename_i hgt
    rw [if_neg (by rw [gate_ok hg (by rw [gate_congr hvis]; exact hgt) hi.rt]; simp)]
    exact hk _ _ _ _ _ _ (inv _ s undef w K β R_undef hi.cz (.refl (Nat.le_refl _)) fun _ _ => rfl) hr
  · exact hr.elim
end
end Go.Proofs.Ytcedkkleclhglaa.H
