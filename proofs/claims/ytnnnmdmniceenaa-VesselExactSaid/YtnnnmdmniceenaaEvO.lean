/- Loops by an invariant: states at a loop's head. -/
import Derived.Test.YtnnnmdmniceenaaEvM
set_option linter.unusedSimpArgs false
set_option linter.unusedVariables false
namespace Go.Proofs.Ytnnnmdmniceenaa.Ev
variable {Φ : Sig}
def getP (σ : St) : Ps → SV
  | .tmp t => σ.t.getD t .undef
  | .fld t i => match σ.t.getD t .undef with
    | .agg l => l.getD i .undef
    | _ => .undef
  | .cell t off => match σ.t.getD t .undef with
    | .ptr i o => match getB σ.b i with
      | some (_, cs) => cs.getD (o + off) .undef
      | none => .undef
    | _ => .undef
def setP (p : Ps) (v : SV) (σ : St) : St := match p with
  | .tmp t => { σ with t := σ.t.set t v }
  | .fld t i => match σ.t.getD t .undef with
    | .agg l => { σ with t := σ.t.set t (.agg (l.set i v)) }
    | _ => σ
  | .cell t off => match σ.t.getD t .undef with
    | .ptr i o => match getB σ.b i with
      | some (T, cs) => { σ with b := σ.b.set i (some (T, cs.set (o + off) v)), wd := i :: σ.wd }
      | none => σ
    | _ => σ
def freshV (n : Nat) : SV → SV
  | .int k _ => .int k (.v n)
  | .bool _ => .bool (.nz (.v n))
  | v => v
def exprV (fx : Fx) : SV → E
  | .int _ e => e
  | .bool b => match decB fx b with
    | some true => .lit 1
    | some false => .lit 0
    | none => bE b
  | _ => .lit 0
def cdst : Code → List Nat
  | .region _ ops _ => ops.toList.filterMap (·.dst)
  | .seq a b => cdst a ++ cdst b
  | .cond _ a b => cdst a ++ cdst b
  | .block _ c => cdst c
  | .loop c => cdst c
  | _ => []
def psT : Ps → Nat
  | .tmp t => t
  | .fld t _ => t
  | .cell t _ => t
def setPs (σ : St) : Nat → List Ps → St → St
  | _, [], σ' => σ'
  | n, p :: l, σ' => setPs σ (n + 1) l (setP p (freshV n (getP σ p)) σ')
/-- What is there only behind a guard is given up. -/
def noG : SV → SV
  | .grd _ _ => .any
  | v => v
/-- The head's state: what the loop changes is made a variable, what it makes anew is not known. -/
def genS (σ : St) (h : Hint) (ds : List Nat) : St :=
  let keep := h.ps.map psT ++ h.keep
  let σ1 := setPs σ σ.n h.ps { σ with t := maskT (fun j => !ds.contains j || keep.contains j) 0 σ.t }
  { t := σ1.t.map noG, b := σ1.b, fx := ⟨putAll (rngE σ.n h.rg) σ.fx.iv, σ.fx.bs⟩, n := σ.n + h.rg.length, wd := σ1.wd, cs := σ.cs }

/-! ### A later state fits a head -/
section
variable (n : Nat) (es : List E) (fx : Fx)
def okE (e f : E) : Bool := (clE n e && e.eqb f) || match e with
  | .v i => Nat.ble n i && match es[i - n]? with
    | some g => g.eqb f
    | none => false
  | _ => false
def okB (b c : B) : Bool := (clB n b && b.eqb c) || match b with
  | .nz (.v i) => Nat.ble n i && match es[i - n]?, c with
    | some g, .nz f => g.eqb f
    | some (.lit 0), c => match decB fx c with
      | some false => true
      | _ => false
    | some (.lit 1), c => match decB fx c with
      | some true => true
      | _ => false
    | some g, c => g.eqb (bE c)
    | _, _ => false
  | _ => false
mutual
def okV : SV → SV → Bool
  | .int k e, .int l f => keq k l && okE n es e f
  | .bool b, .bool c => okB n es fx b c
  | .undef, .undef | .nilp, .nilp | .nils, .nils | .nilfn, .nilfn => true
  | .ptr i o, .ptr j p => i == j && o == p
  | .ptx i o s e, .ptx j p s' f => i == j && o == p && s == s' && okE n es e f
  | .slc i o k c, .slc j p k' c' => i == j && o == p && k == k' && c == c'
  | .fn f a b, .fn g c d => f == g && okL a c && okL b d
  | .agg l, .agg r => okL l r
  | .tup l, .tup r => okL l r
  | .sls k a b, .sls k' c d => k == k' && okE n es a c && okE n es b d
  | .xp k s o e, .xp k' s' o' f => k == k' && s == s' && o == o' && okE n es e f
  | _, _ => false
def okL : List SV → List SV → Bool
  | [], [] => true
  | v :: l, u :: r => okV v u && okL l r
  | _, _ => false
end
def okTs : List SV → List SV → Bool
  | [], [] => true
  | v :: l, u :: r => (v.isAny || okV n es fx v u) && okTs l r
  | _, _ => false
def okBs : Blks → Blks → Bool
  | [], _ => true
  | none :: l, r => okBs l r.tail
  | some (T, cs) :: l, some (T', cs') :: r => T == T' && okL n es fx cs cs' && okBs l r
  | _, _ => false
end
def okSt (n : Nat) (es : List E) (h c : St) : Bool :=
  okTs n es c.fx h.t c.t && okBs n es c.fx h.b c.b && Nat.ble h.b.length c.b.length && c.wd.all fun i => Nat.ble h.b.length i || h.wd.contains i
section
variable {n : Nat} {es : List E} {fx : Fx} {ρ s : List Int}
theorem okE_ok (hn : ρ.length = n) {e f : E} (h : okE n es e f = true) : den (ρ ++ es.map (den (ρ ++ s))) e = den (ρ ++ s) f := by
  unfold okE at h
  simp only [Bool.or_eq_true, Bool.and_eq_true] at h
  rcases h with ⟨h1, h2⟩ | h
  · rw [clE_ok h1 (by omega), ← E.eqb_eq h2, clE_ok h1 (by omega)]
  · split at h
    · rename_i i
      simp only [Bool.and_eq_true, Nat.ble_eq] at h
      obtain ⟨h1, h2⟩ := h
      split at h2
      · rename_i g hg
        rw [← E.eqb_eq h2]
        simp only [den, List.getD_eq_getElem?_getD]
        rw [List.getElem?_append_right (by omega), hn, List.getElem?_map, hg]
        rfl
      · cases h2
    · cases h
theorem okB_ok (hn : ρ.length = n) (hf : FxOK (ρ ++ s) fx) {b c : B} (h : okB n es fx b c = true) : denB (ρ ++ es.map (den (ρ ++ s))) b = denB (ρ ++ s) c := by
  unfold okB at h
  simp only [Bool.or_eq_true, Bool.and_eq_true] at h
  rcases h with ⟨h1, h2⟩ | h
  · rw [clB_ok h1 (by omega), ← B.eqb_eq h2, clB_ok h1 (by omega)]
  · split at h
    · rename_i i
      simp only [Bool.and_eq_true, Nat.ble_eq] at h
      obtain ⟨h1, h2⟩ := h
      have key : ∀ g, es[i - n]? = some g → den (ρ ++ es.map (den (ρ ++ s))) (.v i) = den (ρ ++ s) g := fun g hg => by
        simp only [den, List.getD_eq_getElem?_getD]
        rw [List.getElem?_append_right (by omega), hn, List.getElem?_map, hg]
        rfl
      split at h2
      · rename_i g f hg
        simp only [denB]; rw [key g hg, E.eqb_eq h2]
      · rename_i hg _
        split at h2
        · rename_i hd
          simp only [denB]; rw [key _ hg, decB_ok hf _ _ hd]; simp [den]
        · cases h2
      · rename_i hg _
        split at h2
        · rename_i hd
          simp only [denB]; rw [key _ hg, decB_ok hf _ _ hd]; simp [den]
        · cases h2
      · simp only [denB]; rw [key _ (by assumption), E.eqb_eq h2]; exact bE_ok _ _
      · cases h2
    · cases h
variable {η : Env}
mutual
theorem okV_ok (hn : ρ.length = n) (hf : FxOK (ρ ++ s) fx) : ∀ (v u : SV), okV n es fx v u = true → denV (ρ ++ es.map (den (ρ ++ s))) η v = denV (ρ ++ s) η u
  | .int k e, .int l f, h => by
    simp only [okV, Bool.and_eq_true] at h
    simp only [denV, keq_eq h.1, okE_ok hn h.2]
  | .bool b, .bool c, h => by simp only [denV, okB_ok hn hf h]
  | .undef, .undef, _ => rfl
  | .nilp, .nilp, _ => rfl
  | .nils, .nils, _ => rfl
  | .nilfn, .nilfn, _ => rfl
  | .ptr i o, .ptr j p, h => by
    simp only [okV, Bool.and_eq_true, beq_iff_eq] at h
    simp only [denV, h.1, h.2]
  | .ptx i o z e, .ptx j p z' f, h => by
    simp only [okV, Bool.and_eq_true, beq_iff_eq] at h
    simp only [denV, h.1.1.1, h.1.1.2, h.1.2, okE_ok hn h.2]
  | .slc i o k c, .slc j p k' c', h => by
    simp only [okV, Bool.and_eq_true, beq_iff_eq] at h
    simp only [denV, h.1.1.1, h.1.1.2, h.1.2, h.2]
  | .fn f a b, .fn g c d, h => by
    simp only [okV, Bool.and_eq_true, beq_iff_eq] at h
    simp only [denV, h.1.1, okL_ok hn hf a c h.1.2, okL_ok hn hf b d h.2]
  | .agg l, .agg r, h => by
    simp only [okV] at h
    simp only [denV, okL_ok hn hf l r h]
  | .tup l, .tup r, h => by
    simp only [okV] at h
    simp only [denV, okL_ok hn hf l r h]
  | .sls k a b, .sls k' c d, h => by
    simp only [okV, Bool.and_eq_true, beq_iff_eq] at h
    simp only [denV, h.1.1, okE_ok hn h.1.2, okE_ok hn h.2]
  | .xp k z o e, .xp k' z' o' f, h => by
    simp only [okV, Bool.and_eq_true, beq_iff_eq] at h
    simp only [denV, h.1.1.1, h.1.1.2, h.1.2, okE_ok hn h.2]
theorem okL_ok (hn : ρ.length = n) (hf : FxOK (ρ ++ s) fx) : ∀ (l r : List SV), okL n es fx l r = true → denL (ρ ++ es.map (den (ρ ++ s))) η l = denL (ρ ++ s) η r
  | [], [], _ => by simp [denL]
  | v :: l, u :: r, h => by
    simp only [okL, Bool.and_eq_true] at h
    simp only [denL, okV_ok hn hf v u h.1, okL_ok hn hf l r h.2]
  | [], _ :: _, h => by simp [okL] at h
  | _ :: _, [], h => by simp [okL] at h
end
theorem okTs_get : ∀ {l r : List SV} {i : Nat} {v : SV}, okTs n es fx l r = true → l[i]? = some v → v.isAny = false → ∃ u, r[i]? = some u ∧ okV n es fx v u = true
  | [], _, _, _, _, h, _ => by simp at h
  | v :: l, [], _, _, ho, _, _ => by simp [okTs] at ho
  | v :: l, u :: r, 0, w, ho, h, hw => by
    simp only [okTs, Bool.and_eq_true, Bool.or_eq_true] at ho
    simp only [List.getElem?_cons_zero, Option.some.injEq] at h; subst h
    refine ⟨u, rfl, ho.1.resolve_left fun h => by rw [hw] at h; cases h⟩
  | v :: l, u :: r, i + 1, w, ho, h, hw => by
    simp only [okTs, Bool.and_eq_true] at ho
    simpa using okTs_get ho.2 (by simpa using h) hw
theorem okTs_length : ∀ {l r : List SV}, okTs n es fx l r = true → l.length = r.length
  | [], [], _ => rfl
  | [], _ :: _, h => by simp [okTs] at h
  | _ :: _, [], h => by simp [okTs] at h
  | v :: l, u :: r, h => by
    simp only [okTs, Bool.and_eq_true] at h
    simp [okTs_length h.2]
theorem okBs_get : ∀ {l r : Blks} {i : Nat} {T : TypeId} {cs : List SV}, okBs n es fx l r = true → getB l i = some (T, cs) → ∃ cs', getB r i = some (T, cs') ∧ okL n es fx cs cs' = true
  | [], _, _, _, _, _, h => by simp [getB] at h
  | none :: l, r, 0, T, cs, ho, h => by simp [getB] at h
  | none :: l, [], i + 1, T, cs, ho, h => by
    simp only [okBs, List.tail_nil] at ho
    obtain ⟨cs', h1, h2⟩ := okBs_get ho (i := i) (by simpa [getB] using h)
    simp [getB] at h1
  | none :: l, c :: r, i + 1, T, cs, ho, h => by
    simp only [okBs, List.tail_cons] at ho
    obtain ⟨cs', h1, h2⟩ := okBs_get ho (i := i) (by simpa [getB] using h)
    exact ⟨cs', by simpa [getB] using h1, h2⟩
  | some (T0, c0) :: l, [], _, T, cs, ho, h => by simp [okBs] at ho
  | some (T0, c0) :: l, none :: r, _, T, cs, ho, h => by simp [okBs] at ho
  | some (T0, c0) :: l, some (T1, c1) :: r, 0, T, cs, ho, h => by
    simp only [okBs, Bool.and_eq_true, beq_iff_eq] at ho
    simp only [getB, List.getD_cons_zero, Option.some.injEq, Prod.mk.injEq] at h
    obtain ⟨rfl, rfl⟩ := h
    exact ⟨c1, by simp [getB, ho.1.1], ho.1.2⟩
  | some (T0, c0) :: l, some (T1, c1) :: r, i + 1, T, cs, ho, h => by
    simp only [okBs, Bool.and_eq_true] at ho
    obtain ⟨cs', h1, h2⟩ := okBs_get ho.2 (i := i) (by simpa [getB] using h)
    exact ⟨cs', by simpa [getB] using h1, h2⟩
end
theorem RngOK_get : ∀ {r : List (Int × Int)} {xs : List Int}, RngOK r xs → ∀ i l h, r[i]? = some (l, h) → l ≤ xs.getD i 0 ∧ xs.getD i 0 ≤ h
  | [], _, _, i, l, h, hi => by simp at hi
  | (a, b) :: r, x :: xs, ho, i, l, h, hi => by
    cases i with
    | zero => simp at hi; obtain ⟨rfl, rfl⟩ := hi; simpa using ho.1
    | succ i => simpa using RngOK_get ho.2 i l h (by simpa using hi)
  | _ :: _, [], ho, _, _, _, _ => ho.elim
/-- A state that fits a head, said in the head's words. -/
theorem Inv.fit {nb0 : Nat} {η0 η η' : Env} {w0 w w' : World} {ρ0 ρ ρ1 s : List Int} {σ h σ' : St} {a a' : Act} {es : List E} (hI : Inv Φ nb0 η0 w0 ρ0 ρ η σ a w) (hcl : σ.cl = true) (hI' : Inv Φ nb0 η0 w0 ρ1 (ρ ++ s) η' σ' a' w')
    (hok : okSt σ.n es h σ' = true) (hb : h.b.length = σ.b.length) (hn : h.n = σ.n + es.length) (hcs : h.cs = σ.cs) {rg : List (Int × Int)} (hfx : h.fx = ⟨putAll (rngE σ.n rg) σ.fx.iv, σ.fx.bs⟩) (hhcl : h.cl = true)
    (hrg : RngOK rg (es.map (den (ρ ++ s)))) : Inv Φ nb0 η0 w0 ρ0 (ρ ++ es.map (den (ρ ++ s))) η' h a' w' := by
  have hlen : ρ.length = σ.n := hI.len
  unfold okSt at hok
  simp only [Bool.and_eq_true, List.all_eq_true, Bool.or_eq_true, Nat.ble_eq] at hok
  obtain ⟨⟨⟨h1, h2⟩, h3⟩, h4⟩ := hok
  have entry : ∀ i T cs, getB h.b i = some (T, cs) → ∃ cs', getB σ'.b i = some (T, cs') ∧ cs.map (denV (ρ ++ es.map (den (ρ ++ s))) η') = cs'.map (denV (ρ ++ s) η') := fun i T cs hi => by
    obtain ⟨cs', g1, g2⟩ := okBs_get h2 hi
    refine ⟨cs', g1, ?_⟩
    have := okL_ok (η := η') hlen hI'.fx cs cs' g2
    rw [denL_map, denL_map] at this; exact this
  have entryS : ∀ i, (getB h.b i).isSome = true → (getB σ'.b i).isSome = true := fun i hi => by
    obtain ⟨⟨T, cs⟩, hc⟩ := Option.isSome_iff_exists.1 hi
    obtain ⟨cs', g1, _⟩ := entry i T cs hc
    rw [g1]; rfl
  have hcl' := hcl
  simp only [St.cl, Bool.and_eq_true] at hcl'
  have fwd : ∀ j, j ∈ σ'.wd → j < nb0 → j ∈ h.wd := fun j hj hlt => by
    rcases h4 j hj with h5 | h5
    · have := hI.nb; omega
    · simpa using h5
  exact {
    cl := hhcl
    cs := by rw [hcs, hn]; exact hI.cs.more (by omega) _ _
    len := by rw [hn, List.length_append, List.length_map, hlen]
    pre := by obtain ⟨s', e⟩ := hI.pre; exact ⟨s' ++ es.map (den (ρ ++ s)), by rw [e, List.append_assoc]⟩
    fx := by
      have hf := clFx_ok hcl'.2 (by omega) (es.map (den (ρ ++ s))) hI.fx
      rw [hfx]
      refine ⟨FsOK.putAll (fun p hp => ?_) hf.1, hf.2⟩
      · obtain ⟨i, l, u, hi, rfl⟩ := rngE_mem hp
        have hr := RngOK_get hrg i l u hi
        have : den (ρ ++ es.map (den (ρ ++ s))) (.v (σ.n + i)) = (es.map (den (ρ ++ s))).getD i 0 := by
          simp only [den, List.getD_eq_getElem?_getD]
          rw [List.getElem?_append_right (by omega), hlen, Nat.add_sub_cancel_left]
        rw [this]; exact hr
    ft := ⟨by rw [hI'.ft.len, okTs_length h1], fun i v hv hn => by
      obtain ⟨u, g1, g2⟩ := okTs_get h1 hv hn
      rw [okV_ok hlen hI'.fx v u g2]
      exact hI'.ft.at_ i u g1 (by cases u <;> first | rfl | (exfalso; cases v <;> simp [okV] at g2)), hI'.ft.defers⟩
    rb := {
      al := hI'.rb.al
      pf := by obtain ⟨s', e⟩ := hI.rb.pf; exact ⟨s' ++ es.map (den (ρ ++ s)), by rw [e, List.append_assoc]⟩
      gh := hI'.rb.gh
      ap := fun i hi => hI'.rb.ap i (entryS i hi)
      holds := fun i T cs hi => by
        obtain ⟨cs', g1, g2⟩ := entry i T cs hi
        rw [g2]; exact hI'.rb.holds i T cs' g1
      inj := fun i j hi hj => hI'.rb.inj i j (entryS i hi) (entryS j hj) }
    nb := by rw [hb]; exact hI.nb
    env := hI'.env
    size := hI'.size
    io := hI'.io
    newb := fun i hi hs => (hI'.newb i hi (entryS i hs)).more fwd
    newo := fun i hi hl => (hI'.newo i hi (by omega)).more fwd
    frame := fun b hb' hw => hI'.frame b hb' fun i hi hlt => by
      rcases h4 i hi with h5 | h5
      · have := hI.nb; omega
      · exact hw i (by simpa using h5) hlt }

/-! ### The number that gets less -/
def sbE (es : List E) (m : Nat) : E → E
  | .lit z => .lit z
  | .v i => if i < m then es.getD i (.lit 0) else .v (i - m)
  | .add a b => .add (sbE es m a) (sbE es m b)
  | .sub a b => .sub (sbE es m a) (sbE es m b)
  | .mul a b => .mul (sbE es m a) (sbE es m b)
  | .quo a b => .quo (sbE es m a) (sbE es m b)
  | .rem a b => .rem (sbE es m a) (sbE es m b)
  | .mx a b => .mx (sbE es m a) (sbE es m b)
  | .mn a b => .mn (sbE es m a) (sbE es m b)
  | .sw i k a b => .sw (sbE es m i) k (sbE es m a) (sbE es m b)
  | .wr k a => .wr k (sbE es m a)
theorem sbE_ok {es : List E} {m : Nat} (hm : es.length = m) {ρ s : List Int} {me : E} (hc : clE (m + ρ.length) me = true) : den (ρ ++ s) (sbE es m me) = den (es.map (den (ρ ++ s)) ++ ρ) me := by
  induction me with
  | lit z => rfl
  | v i =>
    simp only [clE, Nat.blt_eq] at hc
    simp only [sbE]
    split
    · rename_i hi
      have : i < es.length := by omega
      simp only [den, List.getD_eq_getElem?_getD]
      rw [List.getElem?_append_left (by simpa using this), List.getElem?_map, List.getElem?_eq_getElem this]
      simp
    · rename_i hi
      simp only [den, List.getD_eq_getElem?_getD]
      have e1 : (ρ ++ s)[i - m]? = ρ[i - m]? := List.getElem?_append_left (by omega)
      have e2 : (es.map (den (ρ ++ s)) ++ ρ)[i]? = ρ[i - m]? := by rw [List.getElem?_append_right (by rw [List.length_map]; omega), List.length_map, hm]
      rw [e1, e2]
  | wr k a ih => simp only [sbE, den, ih hc]
  | sw i k a b h1 h2 h3 =>
    simp only [clE, Bool.and_eq_true] at hc
    simp only [sbE, den, h1 hc.1.1, h2 hc.1.2, h3 hc.2]
  | add a b iha ihb | sub a b iha ihb | mul a b iha ihb | quo a b iha ihb | rem a b iha ihb | mx a b iha ihb | mn a b iha ihb =>
    simp only [clE, Bool.and_eq_true] at hc
    simp only [sbE, den, iha hc.1, ihb hc.2]
theorem askR_rng {ρ : List Int} : ∀ {rg : List (Int × Int)} {es : List E}, rg.length = es.length → (∀ b ∈ askR rg es, denB ρ b = true) → RngOK rg (es.map (den ρ))
  | [], _, _, _ => by simp [RngOK]
  | (l, h) :: r, [], hl, _ => by simp at hl
  | (l, h) :: r, e :: es, hl, hb => by
    simp only [askR] at hb
    have b1 : l ≤ den ρ e := of_decide_eq_true (hb _ (List.mem_cons_self ..))
    have b2 : den ρ e ≤ h := of_decide_eq_true (hb _ (List.mem_cons_of_mem _ (List.mem_cons_self ..)))
    exact ⟨⟨b1, b2⟩, askR_rng (by simpa using hl) fun b hb' => hb b (List.mem_cons_of_mem _ (List.mem_cons_of_mem _ hb'))⟩
end Go.Proofs.Ytnnnmdmniceenaa.Ev
