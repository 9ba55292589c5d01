/- Regions that draw their order: the whole region. -/
import Derived.Test.YtcedkkleclhglaaHaP
set_option linter.unusedSimpArgs false
set_option linter.unusedVariables false
set_option linter.unusedSectionVars false
namespace Go.Proofs.Ytcedkkleclhglaa.H
section
variable {P : Program} {N m : Nat} {il : List Ins} {an : List (List Nat)} {pi : List Nat} {w0 : World} {K0 : Nat → Prop} {β0 : Nat → Loc} {s0 : St}
/-- What lays a new block of zeros, in the model. -/
theorem al_run {ops : Array Oper} {o : Oper} {d : Option Nat} {g : Option (Nat × Bool)} {c : KO} (h : insOf P N ops o = some (.k d g c)) {t k n : Nat} {z : List Value} {sl : Bool} (ha : alOf c = some (t, k, n, z, sl)) (a : Act) (w : World) :
    zeroOf P t = some z ∧ z.length = k ∧ (execOp a.eval o).run P w = .ok (.value (alU w.heap.size n sl)) (w.alloc (.cells ((List.replicate n z).flatten).toArray t)) := by
  have hk : kop P o.op = some c := by
    unfold insOf at h
    split at h
    · split at h
      · split at h
        · simp at h
        · split at h
          · rename_i c' hc
            simp only [Option.some.injEq, Ins.k.injEq] at h
            obtain ⟨_, _, rfl⟩ := h
            exact hc
          · cases h
      · cases h
    · cases h
  obtain ⟨dst, op, ty, pos, aft, grd⟩ := o
  simp only at hk
  cases op with
  | alloc T =>
    simp only [kop] at hk
    split at hk
    · rename_i z' hz
      simp only [Option.some.injEq] at hk; subst hk
      simp only [alOf, Option.some.injEq, Prod.mk.injEq] at ha
      obtain ⟨rfl, rfl, rfl, rfl, rfl⟩ := ha
      obtain ⟨iz, zv, hi1, hzv, hzc, _⟩ := zeroOf_info hz
      refine ⟨hz, rfl, ?_⟩
      have : execOp a.eval { dst := dst, op := .alloc T, type := ty, pos := pos, after := aft, guard := grd } = (do pure (.value (← Instr.alloc T true (.tuple #[])))) := rfl
      rw [this]
      simp [Instr.alloc, zeroValue, typeInfo, hi1, hzv, newVar, newRow, hzc, alU]
    · cases hk
  | makeSlice T' l cc =>
    simp only [kop] at hk
    split at hk
    · rename_i el hu
      split at hk
      · rename_i i z' hi hz0
        split at hk
        · rename_i hcd
          split at hk
          · rename_i na nb hna hnb
            split at hk
            · rename_i hab
              simp only [Option.some.injEq] at hk; subst hk
              simp only [alOf, Option.some.injEq, Prod.mk.injEq] at ha
              obtain ⟨rfl, rfl, rfl, rfl, rfl⟩ := ha
              refine ⟨hz0, hcd.1, ?_⟩
              have : execOp a.eval { dst := dst, op := .makeSlice T' l cc, type := ty, pos := pos, after := aft, guard := grd } = (do pure (.value (← Instr.makeSlice T' (a.eval l) (a.eval cc)))) := rfl
              rw [this]
              simp only [Sem.run_bind, mkz_run hu hi hz0 hcd hna hnb hab w, Result.andThen_ok, Sem.run_pure]
              simp [alU]
            · cases hk
          · simp only [Option.some.injEq] at hk; subst hk; simp [alOf] at ha
        · cases hk
      · cases hk
    · cases hk
  | call cl =>
    obtain ⟨callee, cargs, ctys⟩ := cl
    cases callee with
    | builtin b => cases b <;> simp only [kop] at hk <;> (try cases hk) <;> (repeat' split at hk) <;> simp at hk <;> (subst hk; simp [alOf] at ha)
    | value x =>
      cases x with
      | func f => simp only [kop] at hk; split at hk <;> simp at hk; subst hk; simp [alOf] at ha
      | _ => simp [kop] at hk; subst hk; simp [alOf] at ha
    | invoke r m => simp [kop] at hk
  | _ => simp only [kop] at hk <;> (try cases hk) <;> (try ((repeat' split at hk) <;> simp at hk <;> (subst hk; simp [alOf] at ha))) <;> (simp [alOf] at ha)
theorem exec_alloc (hc : Ch P an il pi) {p : Nat} {L : Nat → Bool} {T : Tm} {s : St} {w : World} {K : Nat → Prop} {β : Nat → Loc} {a : Act} {bl : Nat → Nat} (hi : DInv P N m il an pi w0 K0 β0 s0 p L T s w K β a bl)
    {ops : Array Oper} {i : Nat} {n : Ins} (hn : il[i]? = some n) {o : Oper} (ho : ops[i]? = some o) (hins : insOf P N ops o = some n) (hal : isAl n = true) (hL : L i = false) (hrd : ∀ j ∈ getL an i, L j = true) {Q' : Exit → Act → World → Prop}
    {next : Act → World → Prop} (hk : ∀ w' a' bl', DInv P N m il an pi w0 K0 β0 s0 p (upd L i) T s w' K β a' bl' → next a' w') : wpOp P ops Q' i next a w := by
  have hfl : isFl n = false := by
    cases h : isFl n with
    | false => rfl
    | true => have := isFl_isAl h; rw [hal] at this; cases this
  have hip : i ∉ pi.take p := fun h => by have := hi.done i n h hn hfl; rw [hL] at this; cases this
  obtain ⟨d, oo, t, kz, c, z, sl, rfl, hao⟩ : ∃ d o t k c z sl, n = .k (some d) none o ∧ alOf o = some (t, k, c, z, sl) := by
    cases n with
    | f d g o => cases hal
    | k d g o =>
      cases d with
      | none => cases hal
      | some d =>
        cases g with
        | some g => cases hal
        | none =>
          simp only [isAl] at hal
          obtain ⟨⟨t, k, c, z, sl⟩, h⟩ := Option.isSome_iff_exists.1 hal
          exact ⟨d, o, t, k, c, z, sl, rfl, h⟩
  obtain ⟨hd1, hd2, hg⟩ := insOf_d hins
  simp only [Ins.d, Ins.g] at hd1 hg
  obtain ⟨hz0, hzk, hrun⟩ := al_run hins hao a w
  have hpush : (w.alloc (.cells ((List.replicate c z).flatten).toArray t)).heap = w.heap.push (.cells ((List.replicate c z).flatten).toArray t (0, 0)) := rfl
  have hcz : Cz (w.alloc (.cells ((List.replicate c z).flatten).toArray t)) K β s := ⟨fun j b hj => hi.cz.old (stays_push hi.cz hpush) (Nat.le_refl _) (fun _ _ => rfl) hj (push_old hpush (hi.cz.lt ⟨b, hj⟩)), hi.cz.inj, hi.cz.dis, fun b hb => by have := hi.cz.kb b hb; rw [hpush]; simp; omega⟩
  have hx : Ext s.length w K β s (w.alloc (.cells ((List.replicate c z).flatten).toArray t)) K β s :=
    { size := by rw [hpush]; simp, io := io_alloc .., fix := fun _ _ => rfl, len := Nat.le_refl _, frame := fun b hb _ => push_old hpush hb, kmono := fun _ h => h, knew := fun _ h => .inl h, onew := fun j hj => .inr ⟨j, hj, rfl⟩ }
  have hlt : d < a.tmps.size := by rw [← hd1] at hd2; rw [hi.sz]; simpa [okDst] using hd2
  simp only [wpOp, ho]
  rw [if_pos (by
    unfold guardOf at hg
    split at hg
    · rename_i h0; simp [Region.wanted, h0]
    · split at hg <;> simp at hg)]
  left
  unfold Oper.wp
  rw [hrun]
  simp only [Oper.upon]
  refine hk _ _ (fun j => if j = i then w.heap.size else bl j) ?_
  have hs := hx.stays hi.cz
  refine { down := ?_, lt := ?_, done := ?_, lst := ?_, early := ?_, einj := ?_, cz := hcz, sz := by rw [put_size]; exact hi.sz, df := by rw [put_defers']; exact hi.df, ext := hi.ext.trans hi.ext.len hx, rt := ?_, pend := ?_ }
  · intro j k hj hkj
    rcases upd_iff.1 hj with rfl | hj
    · exact upd_iff.2 (.inr (hrd k hkj))
    · exact upd_iff.2 (.inr (hi.down j k hj hkj))
  · intro j hj
    rcases upd_iff.1 hj with rfl | hj
    · exact (List.getElem?_eq_some_iff.1 hn).1
    · exact hi.lt j hj
  · exact fun j k h1 h2 h3 => upd_iff.2 (.inr (hi.done j k h1 h2 h3))
  · intro j k h1 h2 h3
    rcases upd_iff.1 h1 with rfl | h1
    · rw [hn] at h2; cases h2; rw [hal] at h3; cases h3
    · exact hi.lst j k h1 h2 h3
  · intro j k h1 h2 h3
    by_cases hji : j = i
    · subst hji
      rw [hn] at h3; cases h3
      simp only [if_true]
      refine ⟨⟨d, oo, t, kz, c, z, sl, rfl, hao, hz0, hzk, ?_, ?_⟩, fun h => ?_, fun k hk h => ?_, hi.ext.size⟩
      · rw [← hd1]; simp [Act.put, hlt]
      · rw [hpush]; simp
      · have := hi.cz.kb _ h; omega
      · have := hi.cz.lt hk; omega
    · have h1 := (upd_iff.1 h1).resolve_left hji
      have he := hi.early j k h1 h2 h3
      rw [if_neg hji]
      refine early_keep (L := L) he hx fun e hke => ?_
      obtain ⟨d', o', t', k', c', z', sl', rfl, hao', _⟩ := he.ex
      have := ((tmpOK_get hc.tmp h3 hn (Ne.symm hji) hke).1 (.inr (by simp [isAl, hao']))).1
      rw [← hd1]; exact this
  · intro j k h1 h2 h3 h4 hjk
    have size : ∀ j, j ≠ i → upd L i j = true → j ∉ pi.take p → bl j < w.heap.size := fun j hj h1 h3 => by
      have h1 := (upd_iff.1 h1).resolve_left hj
      obtain ⟨n', hn'⟩ : ∃ n', il[j]? = some n' := ⟨_, List.getElem?_eq_getElem (hi.lt j h1)⟩
      obtain ⟨_, _, _, _, _, _, _, _, _, _, _, _, h⟩ := (hi.early j n' h1 h3 hn').ex
      exact (Array.getElem?_eq_some_iff.1 h).1
    by_cases hj : j = i <;> by_cases hk : k = i
    · omega
    · subst hj; simp only [if_true, if_neg hk]; have := size k hk h2 h4; omega
    · subst hk; simp only [if_true, if_neg hj]; have := size j hj h1 h3; omega
    · simp only [if_neg hj, if_neg hk]
      exact hi.einj j k ((upd_iff.1 h1).resolve_left hj) ((upd_iff.1 h2).resolve_left hk) h3 h4 hjk
  · intro y x ht
    rw [tget_filter] at ht
    split at ht
    · rename_i hv
      rw [vis_iff] at hv
      have hyd : y ≠ d := fun e => by
        subst e
        have := (hv i _ hn rfl).2 (upd_iff.2 (.inl rfl))
        exact hip this
      have hv' : vis il (pi.take p) L y = true := vis_iff.2 fun j k hk' hd => by
        have := hv j k hk' hd
        have hji : j ≠ i := fun e => by subst e; rw [hn] at hk'; cases hk'; simp only [Ins.d, Option.some.injEq] at hd; exact hyd hd.symm
        rw [upd_iff] at this
        simpa [hji] using this
      obtain ⟨u', h1, h2⟩ := hi.rt y x (by rw [tget_filter, if_pos hv']; exact ht)
      refine ⟨u', ?_, h2.mono hs (Nat.le_refl _) hx.fix⟩
      rw [← hd1]
      simp only [Act.put]
      rw [Array.getElem?_setIfInBounds_ne fun e => hyd e.symm]
      exact h1
    · cases ht
  · intro j k h1 h2 h3 h4
    refine hi.pend j k h1 h2 h3 ?_
    cases hh : L j with
    | false => rfl
    | true => rw [upd_iff.2 (.inr hh)] at h4; cases h4
/-- Nothing is ready: everything has been carried out. -/
theorem all_listed {ops : Array Oper} (han : ancOK an ops.toList = true) {l : Array Bool} (hs : l.size = ops.size) (h : Region.ready .any ops l = []) : ∀ i, i < ops.size → lsd l i = true := by
  intro i
  induction i using Nat.strongRecOn with
  | _ i ih =>
    intro hi
    cases hl : lsd l i with
    | true => rfl
    | false =>
      exfalso
      have ho : ops[i]? = some ops[i] := by simp [hi]
      have : i ∈ Region.ready .any ops l := mem_ready.2 ⟨by
        unfold lsd at hl
        simp only [Array.getD_eq_getD_getElem?] at hl ⊢
        rw [show l[i]? = some l[i] by simp [hs, hi]] at hl ⊢
        exact hl, ops[i], ho, fun e he hb => by
        have hb' : e.on ∈ bnds ops[i] := by
          unfold bnds
          rw [List.mem_map]
          exact ⟨e, List.mem_filter.2 ⟨by simpa using he, hb⟩, rfl⟩
        have := (ancOK_get (ops := ops.toList) han (o := ops[i]) (i := i) (by simp [hi])).1 e.on hb'
        exact ih e.on this.1 (by omega)⟩
      rw [h] at this; cases this
theorem lsd_set {l : Array Bool} {i : Nat} (hi : i < l.size) : lsd (l.setIfInBounds i true) = upd (lsd l) i := by
  funext j
  unfold lsd upd
  by_cases h : i = j
  · subst h; simp [hi]
  · have h' : (j == i) = false := beqN (Ne.symm h)
    simp [h', Array.getElem?_setIfInBounds_ne h]
def cnt (l : Array Bool) : Nat := l.toList.countP (· == false)
theorem cnt_set {l : Array Bool} {i : Nat} (hi : i < l.size) (h : lsd l i = false) : cnt (l.setIfInBounds i true) + 1 = cnt l := by
  unfold cnt
  rw [Array.toList_setIfInBounds]
  have hi' : i < l.toList.length := by simpa using hi
  have hv : l.toList[i] = false := by
    unfold lsd at h
    simpa [hi] using h
  have key : ∀ (l : List Bool) (i : Nat) (hi : i < l.length), l[i] = false → (l.set i true).countP (· == false) + 1 = l.countP (· == false) := by
    intro l
    induction l with
    | nil => intro i hi; simp at hi
    | cons b l ih =>
      intro i hi hb
      cases i with
      | zero => simp at hb; subst hb; simp
      | succ i =>
        have := ih i (by simpa using hi) (by simpa using hb)
        simp only [List.set_cons_succ, List.countP_cons]
        omega
  exact key l.toList i hi' hv
theorem draw_any (hc : Ch P an il pi) {dl : List DI} (hdl : dl = mkD an il [] pi) {ops : Array Oper} (hil : insL P N ops ops.toList = some il) (han : ancOK an ops.toList = true) {Q : Fl → Tm → St → Prop} : ∀ (fuel : Nat) (l : Array Bool), l.size = ops.size → cnt l ≤ fuel →
    ∀ {p : Nat} {T : Tm} {s : St} {w : World} {K : Nat → Prop} {β : Nat → Loc} {a : Act} {bl : Nat → Nat}, DInv P N m il an pi w0 K0 β0 s0 p (lsd l) T s w K β a bl → RunD P (dl.drop p) T s (Q .normal) → p ≤ pi.length →
      wpAny P .any ops (After N m w0 K0 β0 s0 Q) fuel l a w := by
  obtain ⟨q1, q2⟩ := insL_get hil
  have hlen : il.length = ops.size := by simpa using q1
  obtain ⟨m1, m2⟩ := mkD_get (an := an) (il := il) (r := pi) (pre := []) hc.ord.mem
  have fin : ∀ (l : Array Bool), l.size = ops.size → (∀ i, i < ops.size → lsd l i = true) → ∀ {p : Nat} {T : Tm} {s : St} {w : World} {K : Nat → Prop} {β : Nat → Loc} {a : Act} {bl : Nat → Nat}, DInv P N m il an pi w0 K0 β0 s0 p (lsd l) T s w K β a bl → RunD P (dl.drop p) T s (Q .normal) → p ≤ pi.length →
      After N m w0 K0 β0 s0 Q .normal a w := by
    intro l hs hall p T s w K β a bl hi hr hp
    have hmem : ∀ (r x : Nat) n, pi[r]? = some x → il[x]? = some n → lsd l x = true := fun r x n _ hx => hall x (by rw [← hlen]; exact (List.getElem?_eq_some_iff.1 hx).1)
    obtain ⟨T1, s1, β1, h1, h2⟩ := advance_to hc hdl (q := pi.length) (Nat.le_refl _) (pi.length - p) p (by omega) hi hr fun r x n hpr hrq hx hn => by
      by_cases hf : isFl n = true
      · exact .inl hf
      · right
        have hL := hmem r x n hx hn
        refine ⟨?_, hL⟩
        cases h : isAl n with
        | true => rfl
        | false => exact absurd ((mem_take_iff hc.ord hx).1 (hi.lst x n hL hn h)) (by omega)
    have hnil : dl.drop pi.length = [] := by rw [hdl]; exact List.drop_eq_nil_of_le (by rw [m1]; exact Nat.le_refl _)
    rw [hnil] at h2
    refine ⟨.normal, T1, s1, K, β1, rfl, h2, ⟨h1.cz, ?_, h1.sz, h1.df⟩, h1.ext⟩
    intro i v hv
    refine h1.rt i v ?_
    rw [tget_filter, if_pos]
    · exact hv
    · refine vis_iff.2 fun j k hk hd => ?_
      have hjl := (List.getElem?_eq_some_iff.1 hk).1
      rw [List.take_of_length_le (Nat.le_refl _)]
      exact ⟨fun _ => hall j (by omega), fun _ => hc.all j hjl⟩
  have zero : ∀ (l : Array Bool), l.size = ops.size → cnt l = 0 → ∀ i, i < ops.size → lsd l i = true := by
    intro l hs hcn i hi
    cases h : lsd l i with
    | true => rfl
    | false => have := cnt_set (l := l) (i := i) (by omega) h; omega
  intro fuel
  induction fuel with
  | zero =>
    intro l hs hcn p T s w K β a bl hi hr hp
    have hall := zero l hs (by omega)
    refine ⟨?_, fin l hs hall hi hr hp⟩
    unfold Region.ready
    rw [List.filter_eq_nil_iff]
    intro i hi'
    have := hall i (by simpa using hi')
    have hil : i < ops.size := by simpa using hi'
    unfold lsd at this
    have e : l.getD i true = true := by
      simp only [Array.getD_eq_getD_getElem?] at this ⊢
      rw [show l[i]? = some l[i] by simp [hs, hil]] at this ⊢
      exact this
    simp [e]
  | succ fuel ih =>
    intro l hs hcn p T s w K β a bl hi hr hp
    refine ⟨fun h0 => fin l hs (all_listed han hs h0) hi hr hp, fun i hrdy => ?_⟩
    obtain ⟨h0, o, ho, hdep⟩ := mem_ready.1 hrdy
    have hio : i < ops.size := (Array.getElem?_eq_some_iff.1 ho).1
    have hL : lsd l i = false := by
      unfold lsd
      simp only [Array.getD_eq_getD_getElem?] at h0 ⊢
      rw [show l[i]? = some l[i] by simp [hs, hio]] at h0 ⊢
      exact h0
    obtain ⟨n, hn⟩ : ∃ n, il[i]? = some n := ⟨_, List.getElem?_eq_getElem (by omega)⟩
    obtain ⟨o', ho', hins⟩ := q2 i n hn
    have : o' = o := by
      have : ops.toList[i]? = some o := by simpa using ho
      rw [this] at ho'; exact (Option.some.inj ho').symm
    subst this
    have hrd : ∀ j ∈ getL an i, lsd l j = true := by
      have hget := ancOK_get (ops := ops.toList) han (o := o') (i := i) (by simpa using ho)
      intro j hj
      obtain ⟨_, _, e, he, h⟩ := hget.2 j hj
      have hLe : lsd l e = true := by
        unfold bnds at he
        obtain ⟨x, hx, rfl⟩ := List.mem_map.1 he
        obtain ⟨h1, h2⟩ := List.mem_filter.1 hx
        exact hdep x (by simpa using h1) h2
      rcases h with rfl | h
      · exact hLe
      · exact hi.down e j hLe h
    have hset : lsd (l.setIfInBounds i true) = upd (lsd l) i := lsd_set (by omega)
    have hcn' : cnt (l.setIfInBounds i true) ≤ fuel := by have := cnt_set (l := l) (i := i) (by omega) hL; omega
    have hs' : (l.setIfInBounds i true).size = ops.size := by simpa using hs
    obtain ⟨q, hq⟩ := List.getElem?_of_mem (hc.all i (by omega))
    have hql := (List.getElem?_eq_some_iff.1 hq).1
    by_cases hal : isAl n = true
    · exact exec_alloc hc hi hn ho hins hal hL hrd fun w' a' bl' h => ih _ hs' hcn' (by rw [hset]; exact h) hr hp
    · have hal : isAl n = false := by simpa using hal
      have hah := ahead hc hi hq hn hal hrd
      by_cases hfl : isFl n = true
      · by_cases hqp : q < p
        · exact exec_float hc hi hn ho hins hfl hL ((mem_take_iff hc.ord hq).2 hqp) hrd fun w' K' β' a' h => ih _ hs' hcn' (by rw [hset]; exact h) hr hp
        · obtain ⟨T1, s1, β1, h1, h2⟩ := advance_to hc hdl (q := q + 1) (by omega) (q + 1 - p) p (by omega) hi hr fun r x k hpr hrq hx hk => by
            by_cases hrq' : r = q
            · subst hrq'
              rw [hq] at hx; cases hx
              rw [hn] at hk; cases hk
              exact .inl hfl
            · exact hah r x k hpr (by omega) hx hk
          exact exec_float hc h1 hn ho hins hfl hL ((mem_take_iff hc.ord hq).2 (by omega)) hrd fun w' K' β' a' h => ih _ hs' hcn' (by rw [hset]; exact h) h2 (by omega)
      · have hfl : isFl n = false := by simpa using hfl
        have hqp : ¬ q < p := fun h => by
          have := hi.done i n ((mem_take_iff hc.ord hq).2 h) hn hfl
          rw [hL] at this; cases this
        obtain ⟨T1, s1, β1, h1, h2⟩ := advance_to hc hdl (q := q) (by omega) (q - p) p (by omega) hi hr hah
        exact exec_chain hc hdl h1 h2 hq hn ho hins hfl hal hL hrd fun T' s' w' K' β' a' h hr' => ih _ hs' hcn' (by rw [hset]; exact h) hr' (by omega)
theorem region_draw {id : Nat} {ops : Array Oper} {dl : List DI} (hd : compD P N ops = some dl) {m : Nat} {Q : Fl → Tm → St → Prop} {T : Tm} {s : St} (h : RunD P dl T s (Q .normal)) {w : World} {K : Nat → Prop} {β : Nat → Loc} {a : Act} (hf : Fr N w K β s T a)
    (hm : m ≤ s.length) : (Code.region id ops true).wp P (After N m w K β s Q) a w := by
  unfold compD at hd
  split at hd
  · rename_i il hil
    simp only [] at hd
    split at hd
    · rename_i hck
      simp only [Option.some.injEq] at hd
      obtain ⟨c1, c2, c3, c4, c5, c6⟩ := hck
      have hc : Ch P (ancsOf [] (ops.toList.map bnds)) il (orderOf (ancsOf [] (ops.toList.map bnds)) il il.length []) :=
        ⟨Ord.of c3, c4, fun x n hx hfl d hd => by
          have := List.all_eq_true.1 c2 n (List.mem_of_getElem? hx)
          simpa [hfl, hd] using this, fun i hi => by
          have := List.all_eq_true.1 c1 i (List.mem_range.2 hi)
          simpa using this⟩
      obtain ⟨q1, q2⟩ := insL_get hil
      have hlen : il.length = ops.size := by simpa using q1
      refine wp_region_any c6 ?_
      have e0 : lsd (Array.replicate ops.size false) = fun _ => false := by
        funext i
        unfold lsd
        by_cases hi : i < ops.size <;> simp [hi]
      refine draw_any hc hd.symm hil c5 (Q := Q) ops.size (Array.replicate ops.size false) (by simp) (by unfold cnt; exact Nat.le_trans List.countP_le_length (by simp)) (p := 0) (T := T) (s := s) (K := K) (β := β) (bl := fun _ => 0) ?_ (by simpa using h) (Nat.zero_le _)
      rw [e0]
      have hs : Stays w K { w with drawn := w.drawn + 1 } K := ⟨fun _ h => h, fun _ _ => rfl⟩
      exact { down := (fun _ _ h => by cases h), lt := (fun _ h => by cases h), done := (fun _ _ h => by simp at h), lst := (fun _ _ h => by cases h), early := (fun _ _ h => by cases h), einj := (fun _ _ h => by cases h)
              cz := hf.cz.kd rfl, sz := hf.sz, df := hf.df, pend := (fun _ _ h => by simp at h)
              ext := { size := Nat.le_refl _, io := ⟨rfl, rfl, rfl⟩, fix := fun _ _ => rfl, len := hm, frame := fun _ _ _ => rfl, kmono := fun _ h => h, knew := fun _ h => .inl h, onew := fun i h => .inr ⟨i, h, rfl⟩ }
              rt := fun i v hv => by
                rw [tget_filter] at hv
                split at hv
                · obtain ⟨u, h1, h2⟩ := hf.rt i v hv
                  exact ⟨u, h1, h2.mono hs (Nat.le_refl _) fun _ _ => rfl⟩
                · cases hv }
    · cases hd
  · cases hd
end
end Go.Proofs.Ytcedkkleclhglaa.H
