/- Tables of contracts off trees; laws with such tables. -/
import Derived.Test.YtnnnmdmniceenaaEvY
set_option linter.unusedSimpArgs false
set_option linter.unusedVariables false
namespace Go.Proofs.Ytnnnmdmniceenaa
open Go.RowKit Ev
namespace Ev
/-- A function, its contract, and the tree of its own walk. -/
abbrev En := FuncId × MC × T (List E)
/-- The contract, or another one, if something is left to be asked. -/
def orC (c : Con) (o : Option Con) : Con := fun vs bl fx n nb => match c vs bl fx n nb with
  | some r => match r.asr with
    | [] => some r
    | _ => match o with
      | some c' => match c' vs bl fx n nb with
        | some r' => some r'
        | none => some r
      | none => some r
  | none => match o with
    | some c' => c' vs bl fx n nb
    | none => none
theorem orC_ok {P : Program} {Φ : Sig} {f : FuncId} {c : Con} {o : Option Con} (h : ConOK P Φ f c) (ho : ∀ c', o = some c' → ConOK P Φ f c') : ConOK P Φ f (orC c o) := by
  refine ⟨h.1, fun args bl fx n nb r hr => ?_⟩
  unfold orC at hr
  split at hr
  · rename_i r0 h0
    split at hr
    · simp only [Option.some.injEq] at hr; subst hr; exact h.2 _ _ _ _ _ _ h0
    · split at hr
      · rename_i c'
        split at hr
        · rename_i r1 h1
          simp only [Option.some.injEq] at hr; subst hr; exact (ho c' rfl).2 _ _ _ _ _ _ h1
        · simp only [Option.some.injEq] at hr; subst hr; exact h.2 _ _ _ _ _ _ h0
      · simp only [Option.some.injEq] at hr; subst hr; exact h.2 _ _ _ _ _ _ h0
  · split at hr
    · rename_i c'
      exact (ho c' rfl).2 _ _ _ _ _ _ hr
    · cases hr
def exL : List En → FuncId → Option Con
  | [], _ => none
  | (f, c, _) :: r, g => if f = g then some (orC c.con (exL r g)) else exL r g
/-- The contracts' functions give what their trees give. -/
def EnOK (g : Nat → List Int → List Int) (len cap : Int) (z : List Int) : List En → Prop
  | [] => True
  | (_, c, t) :: r => (∀ xs, rowF g z c.key xs = runT (rowF g z) (len :: cap :: xs) t) ∧ EnOK g len cap z r
/-- The contracts' loops give what their trees give. -/
def EnLp (g : Nat → List Int → List Int) (z : List Int) : List En → Prop
  | [] => True
  | (_, _, t) :: r => LpOK (rowF g z) t ∧ EnLp g z r
/-- The table is good, whatever the functions are, if they give what the trees give. -/
def EnCon (es : List En) : Prop := ∀ {w0 : World} {a : Option Addr} {len cap : Nat} {z : List Int}, IsRow .i64 w0 a len cap z → ∀ {g : Nat → List Int → List Int}, EnOK g len cap z es → EnLp g z es →
  ∀ f c, exL es f = some c → ConOK Try.prog (rowSig g a len cap z) f c
theorem EnCon.nil : EnCon [] := fun _ _ _ _ f c h => by cases h
theorem rowCtxX_ok {w0 : World} {a : Option Addr} {len cap : Nat} {z : List Int} (hrow : IsRow .i64 w0 a len cap z) {g : Nat → List Int → List Int} {es : List En} (h : EnCon es) (hg : EnOK g len cap z es) (hl : EnLp g z es) (lh : FuncId → Nat → Option Hint) :
    CtxOK Try.prog (rowSig g a len cap z) (rowCtxE (exL es) [] lh) := rowCtxE_ok hrow (g := g) (l := []) trivial rfl (h hrow hg hl)
/-- One more contract. -/
theorem EnCon.consX {es : List En} (h : EnCon es) {f : FuncId} {c : MC} {F d : Nat} {t : T (List E)} {lh : FuncId → Nat → Option Hint} (ht : c.tree Try.prog (rowCtxE (exL es) [] lh) F d f = t) (hbody : BodyOK Try.prog f = true) (hwf : c.wf = true) (hdet : t.det c.M = true)
    (hx : c.rgx = [] ∨ (c.rgx.length ≤ c.M ∧ ∀ {g : Nat → List Int → List Int} {len cap : Int} {z : List Int}, EnOK g len cap z ((f, c, t) :: es) → EnLp g z ((f, c, t) :: es) → ∀ xs : List Int, xs.length = c.W → RngOK c.rg xs → (∀ b ∈ c.dom, denB (len :: cap :: xs) b = true) → RngOK c.rgx (rowF g z c.key xs))) : EnCon ((f, c, t) :: es) :=
  fun hrow g hg hl f' c' hf => by
    unfold exL at hf
    split at hf
    · rename_i he
      subst he
      simp only [Option.some.injEq] at hf; subst hf; subst ht
      exact orC_ok (MC.conOK hrow (rowCtxX_ok hrow h hg.2 hl.2 lh) hbody hwf hdet (hx.imp id fun hx => ⟨hx.1, hx.2 hg hl⟩) hl.1 hg.1) fun c' hc' => h hrow hg.2 hl.2 _ c' hc'
    · exact h hrow hg.2 hl.2 f' c' hf
theorem EnCon.cons {es : List En} (h : EnCon es) {f : FuncId} {c : MC} {F d : Nat} {t : T (List E)} {lh : FuncId → Nat → Option Hint} (ht : c.tree Try.prog (rowCtxE (exL es) [] lh) F d f = t) (hbody : BodyOK Try.prog f = true) (hwf : c.wf = true) (hdet : t.det c.M = true) (hx : c.rgx = [] := by rfl) : EnCon ((f, c, t) :: es) :=
  h.consX ht hbody hwf hdet (.inl hx)
/-- The tree calls only functions of lesser keys, the source, and loops of its own. -/
def T.kl {α : Type} (K : Nat) : T α → Bool
  | .call k _ _ t => (Nat.blt k K || Nat.beq k 900 || Nat.beq k 1000) && t.kl K
  | .ite _ t e => t.kl K && e.kl K
  | .asr _ t => t.kl K
  | .loop id _ _ t => Nat.beq (Nat.div id 10) K && t.kl K
  | .again id _ _ => Nat.beq (Nat.div id 10) K
  | _ => true
theorem kl_ok {F F' : Nat → List Int → List Int} {K : Nat} (h : ∀ k, k < K ∨ k = 900 ∨ k = 1000 ∨ (2000 ≤ k ∧ (k - 2000) / 10 = K) → F k = F' k) : ∀ (t : T (List E)) (ρ : List Int), t.kl K = true → runT F ρ t = runT F' ρ t
  | .leaf es, ρ, _ => rfl
  | .ite b t e, ρ, hk => by
    simp only [T.kl, Bool.and_eq_true] at hk
    simp only [runT, kl_ok h t ρ hk.1, kl_ok h e ρ hk.2]
  | .call k es m t, ρ, hk => by
    simp only [T.kl, Bool.and_eq_true, Bool.or_eq_true] at hk
    have : k < K ∨ k = 900 ∨ k = 1000 ∨ (2000 ≤ k ∧ (k - 2000) / 10 = K) := by
      rcases hk.1 with (h1 | h1) | h1
      · exact .inl (blt_iff.1 h1)
      · exact .inr (.inl (Nat.eq_of_beq_eq_true h1))
      · exact .inr (.inr (.inl (Nat.eq_of_beq_eq_true h1)))
    simp only [runT, h k this, kl_ok h t _ hk.2]
  | .loop id es rg t, ρ, hk => by
    simp only [T.kl, Bool.and_eq_true] at hk
    have e : id / 10 = K := Nat.eq_of_beq_eq_true hk.1
    simp only [runT, h (2000 + id) (.inr (.inr (.inr ⟨by omega, by rw [Nat.add_sub_cancel_left]; exact e⟩)))]
  | .again id n es, ρ, hk => by
    have e : id / 10 = K := Nat.eq_of_beq_eq_true hk
    simp only [runT, h (2000 + id) (.inr (.inr (.inr ⟨by omega, by rw [Nat.add_sub_cancel_left]; exact e⟩)))]
  | .asr _ _, _, _ | .bad, _, _ => rfl
theorem kl_lps {K : Nat} : ∀ {t : T (List E)}, t.kl K = true → ∀ p ∈ t.lps, p.1 / 10 = K ∧ p.2.kl K = true
  | .leaf _, _, p, hp => by cases hp
  | .bad, _, p, hp => by cases hp
  | .again .., _, p, hp => by cases hp
  | .asr _ t, h, p, hp => kl_lps (t := t) h p hp
  | .ite b t e, h, p, hp => by
    simp only [T.kl, Bool.and_eq_true] at h
    rcases List.mem_append.1 hp with hp | hp
    · exact kl_lps h.1 p hp
    · exact kl_lps h.2 p hp
  | .call k es m t, h, p, hp => by
    simp only [T.kl, Bool.and_eq_true] at h
    exact kl_lps (t := t) h.2 p hp
  | .loop id es rg t, h, p, hp => by
    simp only [T.kl, Bool.and_eq_true] at h
    rcases List.mem_cons.1 hp with rfl | hp
    · exact ⟨Nat.eq_of_beq_eq_true h.1, h.2⟩
    · exact kl_lps h.2 p hp
/-! ### Loops: such functions exist -/
def stepT (F : Nat → List Int → List Int) : List Int → T (List E) → List Int ⊕ (Nat × List Int)
  | ρ, .leaf es => .inl (es.map (den ρ))
  | ρ, .ite b t e => if denB ρ b = true then stepT F ρ t else stepT F ρ e
  | ρ, .call k es m t => stepT F (ρ ++ fit m (F k (es.map (den ρ)))) t
  | ρ, .loop id es _ _ => .inr (id, ρ ++ es.map (den ρ))
  | ρ, .again id n es => .inr (id, ρ.take n ++ es.map (den ρ))
  | _, _ => .inl []
def lkT : List (Nat × T (List E)) → Nat → Option (T (List E))
  | [], _ => none
  | (i, t) :: r, k => if i = k then some t else lkT r k
theorem lkT_mem : ∀ {l : List (Nat × T (List E))}, (l.map (·.1)).Nodup → ∀ p ∈ l, lkT l p.1 = some p.2
  | [], _, p, hp => by cases hp
  | (i, t) :: r, h, p, hp => by
    simp only [List.map_cons, List.nodup_cons] at h
    rcases List.mem_cons.1 hp with rfl | hp
    · simp [lkT]
    · have : i ≠ p.1 := fun e => h.1 (e ▸ List.mem_map.2 ⟨p, hp, rfl⟩)
      simp only [lkT, if_neg this]
      exact lkT_mem h.2 p hp
def itN (F : Nat → List Int → List Int) (tab : List (Nat × T (List E))) : Nat → List Int ⊕ (Nat × List Int) → Option (List Int)
  | _, .inl l => some l
  | 0, .inr _ => none
  | n + 1, .inr (id, ρ) => match lkT tab id with
    | some t => itN F tab n (stepT F ρ t)
    | none => some []
theorem itN_succ {F : Nat → List Int → List Int} {tab : List (Nat × T (List E))} : ∀ (n : Nat) (x : List Int ⊕ (Nat × List Int)) (v : List Int), itN F tab n x = some v → itN F tab (n + 1) x = some v
  | n, .inl l, v, h => by cases n <;> exact h
  | 0, .inr _, v, h => by cases h
  | n + 1, .inr (id, ρ), v, h => by
    simp only [itN] at h ⊢
    split at h
    · exact itN_succ n _ v h
    · exact h
theorem itN_le {F : Nat → List Int → List Int} {tab : List (Nat × T (List E))} {n m : Nat} (hnm : n ≤ m) {x : List Int ⊕ (Nat × List Int)} {v : List Int} (h : itN F tab n x = some v) : itN F tab m x = some v := by
  induction hnm with
  | refl => exact h
  | step _ ih => exact itN_succ _ _ _ ih
theorem lim_ex (F : Nat → List Int → List Int) (tab : List (Nat × T (List E))) : ∃ V : List Int ⊕ (Nat × List Int) → List Int, (∀ l, V (.inl l) = l) ∧ ∀ id ρ t, lkT tab id = some t → V (.inr (id, ρ)) = V (stepT F ρ t) := by
  have hex : ∀ x : List Int ⊕ (Nat × List Int), ∃ v : List Int, (∃ n, itN F tab n x = some v) ∨ ((∀ n, itN F tab n x = none) ∧ v = []) := fun x => by
    rcases Classical.em (∃ v n, itN F tab n x = some v) with ⟨v, n, h⟩ | h
    · exact ⟨v, .inl ⟨n, h⟩⟩
    · refine ⟨[], .inr ⟨fun n => ?_, rfl⟩⟩
      cases hi : itN F tab n x with
      | none => rfl
      | some v => exact absurd ⟨v, n, hi⟩ h
  obtain ⟨V, hV⟩ := Classical.axiomOfChoice hex
  have uniq : ∀ x n v, itN F tab n x = some v → V x = v := fun x n v h => by
    rcases hV x with ⟨m, hm⟩ | ⟨hno, _⟩
    · have h1 := itN_le (Nat.le_max_left n m) h
      have h2 := itN_le (Nat.le_max_right n m) hm
      rw [h1] at h2
      exact (Option.some.inj h2).symm
    · rw [hno n] at h; cases h
  refine ⟨V, fun l => uniq _ 0 l rfl, fun id ρ t ht => ?_⟩
  rcases hV (stepT F ρ t) with ⟨n, hn⟩ | ⟨hno, he⟩
  · exact uniq _ (n + 1) _ (by simp only [itN, ht]; exact hn)
  · rcases hV (.inr (id, ρ)) with ⟨n, hn⟩ | ⟨_, he'⟩
    · exfalso
      cases n with
      | zero => cases hn
      | succ n =>
        simp only [itN, ht] at hn
        rw [hno n] at hn; cases hn
    · rw [he, he']
theorem runT_step {F : Nat → List Int → List Int} {V : List Int ⊕ (Nat × List Int) → List Int} (hV : ∀ l, V (.inl l) = l) {K : Nat} (hK : K < 900) : ∀ (t : T (List E)) (ρ : List Int), t.kl K = true →
    runT (fun k => if 2000 ≤ k then fun xs => V (.inr (k - 2000, xs)) else F k) ρ t = V (stepT F ρ t)
  | .leaf es, ρ, _ => (hV _).symm
  | .ite b t e, ρ, hk => by
    simp only [T.kl, Bool.and_eq_true] at hk
    simp only [runT, stepT]
    split
    · exact runT_step hV hK t ρ hk.1
    · exact runT_step hV hK e ρ hk.2
  | .call k es m t, ρ, hk => by
    simp only [T.kl, Bool.and_eq_true, Bool.or_eq_true] at hk
    have hk2 : ¬ 2000 ≤ k := by
      rcases hk.1 with (h1 | h1) | h1
      · have := blt_iff.1 h1; omega
      · have := Nat.eq_of_beq_eq_true h1; omega
      · have := Nat.eq_of_beq_eq_true h1; omega
    simp only [runT, stepT, if_neg hk2]
    exact runT_step hV hK t _ hk.2
  | .loop id es rg t, ρ, hk => by
    simp only [runT, stepT]
    rw [if_pos (by omega), Nat.add_sub_cancel_left]
  | .again id n es, ρ, hk => by
    simp only [runT, stepT]
    rw [if_pos (by omega), Nat.add_sub_cancel_left]
  | .asr _ _, _, _ => (hV _).symm
  | .bad, _, _ => (hV _).symm
/-- Each tree calls only functions of lesser keys; the keys differ, and are none of the source's; so do the loops' numbers. -/
def EnKl : List En → Bool
  | [] => true
  | (_, c, t) :: r => t.kl c.key && ndup (t.lps.map (·.1)) && Nat.blt c.key 900 && r.all (fun e => Nat.blt e.2.1.key c.key) && EnKl r
theorem rowF_eq {g : Nat → List Int → List Int} {z : List Int} {k : Nat} (h : k ≠ 900) (h' : k ≠ 1000) : rowF g z k = g k := by
  unfold rowF
  rw [if_neg h', if_neg h]
/-- There are functions that give what the trees give. -/
theorem gEx : ∀ {es : List En}, EnKl es = true → ∀ (z : List Int) (len cap : Int), ∃ g, EnOK g len cap z es ∧ EnLp g z es
  | [], _, _, _, _ => ⟨fun _ _ => [], trivial, trivial⟩
  | (f, c, t) :: r, h, z, len, cap => by
    simp only [EnKl, Bool.and_eq_true, List.all_eq_true] at h
    obtain ⟨⟨⟨⟨hkl, hnd⟩, hlt⟩, hall⟩, hr⟩ := h
    have hlt := blt_iff.1 hlt
    obtain ⟨g0, h0, h1⟩ := gEx hr z len cap
    obtain ⟨V, hV, hV2⟩ := lim_ex (rowF g0 z) t.lps
    let F1 : Nat → List Int → List Int := fun k => if 2000 ≤ k then fun xs => V (.inr (k - 2000, xs)) else rowF g0 z k
    let g : Nat → List Int → List Int := fun k => if k = c.key then fun xs => runT F1 (len :: cap :: xs) t else if 2000 ≤ k ∧ (k - 2000) / 10 = c.key then fun xs => V (.inr (k - 2000, xs)) else g0 k
    have hg : ∀ k, k < c.key ∨ k = 900 ∨ k = 1000 ∨ (2000 ≤ k ∧ (k - 2000) / 10 = c.key) → rowF g z k = F1 k := by
      intro k hk
      by_cases e1 : k = 900
      · subst e1; rfl
      by_cases e2 : k = 1000
      · subst e2; rfl
      rw [rowF_eq e1 e2]
      show (if k = c.key then _ else if 2000 ≤ k ∧ (k - 2000) / 10 = c.key then _ else _) = if 2000 ≤ k then _ else _
      rcases hk with hk | hk | hk | hk
      · rw [if_neg (by omega), if_neg (by omega), if_neg (by omega), rowF_eq e1 e2]
      · exact absurd hk e1
      · exact absurd hk e2
      · rw [if_neg (by omega), if_pos hk, if_pos hk.1]
    have hold : ∀ K, K < c.key → ∀ k, k < K ∨ k = 900 ∨ k = 1000 ∨ (2000 ≤ k ∧ (k - 2000) / 10 = K) → rowF g z k = rowF g0 z k := by
      intro K hK k hk
      by_cases e1 : k = 900
      · subst e1; rfl
      by_cases e2 : k = 1000
      · subst e2; rfl
      rw [rowF_eq e1 e2, rowF_eq e1 e2]
      show (if k = c.key then _ else if 2000 ≤ k ∧ (k - 2000) / 10 = c.key then _ else _) = _
      rw [if_neg (by omega), if_neg (by omega)]
    have rest : ∀ l : List En, (∀ e ∈ l, e ∈ r) → EnKl l = true → EnOK g0 len cap z l → EnLp g0 z l → EnOK g len cap z l ∧ EnLp g z l := by
      intro l
      induction l with
      | nil => intro _ _ _ _; exact ⟨trivial, trivial⟩
      | cons e l ih =>
        obtain ⟨f', c', t'⟩ := e
        intro hm hk k0 k1
        simp only [EnKl, Bool.and_eq_true] at hk
        obtain ⟨⟨⟨⟨hkl', hnd'⟩, hlt'⟩, hall'⟩, hr'⟩ := hk
        have hK : c'.key < c.key := blt_iff.1 (hall _ (hm _ (List.mem_cons_self ..)))
        obtain ⟨i1, i2⟩ := ih (fun e he => hm e (List.mem_cons_of_mem _ he)) hr' k0.2 k1.2
        refine ⟨⟨fun xs => ?_, i1⟩, fun p hp ρ => ?_, i2⟩
        · rw [kl_ok (hold _ hK) t' _ hkl', ← k0.1 xs, rowF_eq (by omega) (by omega), rowF_eq (by omega) (by omega)]
          show (if c'.key = c.key then _ else if 2000 ≤ c'.key ∧ (c'.key - 2000) / 10 = c.key then _ else _ : List Int → List Int) xs = _
          rw [if_neg (by omega), if_neg (by omega)]
        · obtain ⟨e1, e2⟩ := kl_lps hkl' p hp
          rw [kl_ok (hold _ hK) p.2 _ e2, ← k1.1 p hp ρ, hold _ hK (2000 + p.1) (.inr (.inr (.inr ⟨by omega, by rw [Nat.add_sub_cancel_left]; exact e1⟩)))]
    obtain ⟨i1, i2⟩ := rest r (fun _ he => he) hr h0 h1
    refine ⟨g, ⟨fun xs => ?_, i1⟩, fun p hp ρ => ?_, i2⟩
    · rw [kl_ok hg t _ hkl, rowF_eq (by omega) (by omega)]
      show (if c.key = c.key then _ else _ : List Int → List Int) xs = _
      rw [if_pos rfl]
    · obtain ⟨e1, e2⟩ := kl_lps hkl p hp
      rw [kl_ok hg p.2 _ e2, runT_step hV hlt p.2 ρ e2, ← hV2 p.1 ρ p.2 (lkT_mem (ndup_ok hnd) p hp), hg (2000 + p.1) (.inr (.inr (.inr ⟨by omega, by rw [Nat.add_sub_cancel_left]; exact e1⟩)))]
      show (if 2000 ≤ 2000 + p.1 then _ else _ : List Int → List Int) ρ = _
      rw [if_pos (by omega), Nat.add_sub_cancel_left]
end Ev
namespace Ev
/-- A tree that gives numbers, and calls only functions of lesser keys. -/
def T.chk (c : MC) (t : T (List E)) : Bool := t.det c.M && (t.kl c.key && ndup (t.lps.map (·.1))) && (!c.clamp || t.rgd c.rng)
theorem chk_det {c : MC} {t : T (List E)} (h : t.chk c = true) : t.det c.M = true := by simp only [T.chk, Bool.and_eq_true] at h; exact h.1.1
theorem chk_kl {c : MC} {t : T (List E)} (h : t.chk c = true) : t.kl c.key = true ∧ ndup (t.lps.map (·.1)) = true := by simp only [T.chk, Bool.and_eq_true] at h; exact h.1.2
theorem chk_rgd {c : MC} {t : T (List E)} (h : t.chk c = true) (hc : c.clamp = true) : t.rgd c.rng = true := by
  simp only [T.chk, Bool.and_eq_true, hc] at h; simpa using h.2
theorem EnKl.cons {es : List En} (h : EnKl es = true) {f : FuncId} {c : MC} {t : T (List E)} (hc : t.chk c = true) (hk : (Nat.blt c.key 900 && (es.map fun e => e.2.1.key).all fun k => Nat.blt k c.key) = true) : EnKl ((f, c, t) :: es) = true := by
  simp only [Bool.and_eq_true, List.all_map] at hk
  simp only [EnKl, Bool.and_eq_true]
  exact ⟨⟨⟨⟨(chk_kl hc).1, (chk_kl hc).2⟩, hk.1⟩, hk.2⟩, h⟩
/-- What such a function gives is in its ranges. -/
theorem rng_of {g : Nat → List Int → List Int} {len cap : Int} {z : List Int} {c : MC} {t : T (List E)} (h : ∀ xs, rowF g z c.key xs = runT (rowF g z) (len :: cap :: xs) t) (hc : t.chk c = true) (hcl : c.clamp = true) (hk : Nat.blt c.key 900 = true) (xs : List Int) : RngOK c.rng (g c.key xs) := by
  have e : g c.key xs = rowF g z c.key xs := by
    have := blt_iff.1 hk
    unfold rowF
    rw [if_neg (by omega), if_neg (by omega)]
  rw [e, h]
  exact rgd_ok t _ (chk_rgd hc hcl)
end Ev
/-- A law with a list, ints, bools and structs, off its tree, with a table of contracts off trees. -/
theorem row_lawXL {w : World} {a : Option Addr} {len cap : Nat} {z : List Int} (hrow : IsRow .i64 w a len cap z) {J : Nat → List Int → List Int → Prop} {es : List En} (hes : EnCon es) (hkl : EnKl es = true)
    {f : FuncId} {ss : List Sh} {F d : Nat} {r : List Int} {lh : FuncId → Nat → Option Hint} {t : T Leaf} (he : (evFn Try.prog (rowCtxE (exL es) [] lh) F d f (.sls 0 (.v 0) (.v 1) :: shsS ss 2) [] (rowFx (rngE 2 (ksRg (shsKs ss)))) (shsW ss + 2)).strip = t)
    (ht : ∀ g, EnOK g len cap z es → EnLp g z es → T.okJ J g LTrue ((len : Int) :: (cap : Int) :: r) t) (hr : KsOK (shsKs ss) r) :
    Calls Try.prog f (.slice a len cap :: shsV ss r).toArray w fun e w' => e = .returned (.bool true) ∧ Below w.heap.size w w' := by
  obtain ⟨g, h1, h2⟩ := gEx hkl z len cap
  exact row_lawE hrow (g := g) (l := []) trivial rfl (ex := exL es) (hes hrow h1 h2) he (ht _ h1 h2) hr
theorem row_lawX {w : World} {a : Option Addr} {len cap : Nat} {z : List Int} (hrow : IsRow .i64 w a len cap z) {J : Nat → List Int → List Int → Prop} {es : List En} (hes : EnCon es) (hkl : EnKl es = true)
    {f : FuncId} {ss : List Sh} {F d : Nat} {r : List Int} {lh : FuncId → Nat → Option Hint} {t : T Leaf} (he : (evFn Try.prog (rowCtxE (exL es) [] lh) F d f (.sls 0 (.v 0) (.v 1) :: shsS ss 2) [] (rowFx (rngE 2 (ksRg (shsKs ss)))) (shsW ss + 2)).strip = t)
    (ht : ∀ g, EnOK g len cap z es → T.okJ J g LTrue ((len : Int) :: (cap : Int) :: r) t) (hr : KsOK (shsKs ss) r) :
    Calls Try.prog f (.slice a len cap :: shsV ss r).toArray w fun e w' => e = .returned (.bool true) ∧ Below w.heap.size w w' :=
  row_lawXL hrow hes hkl he (fun g hg _ => ht g hg) hr
/-- The same, where all leaves are plainly true. -/
theorem row_trivX {w : World} {a : Option Addr} {len cap : Nat} {z : List Int} (hrow : IsRow .i64 w a len cap z) {es : List En} (hes : EnCon es) (hkl : EnKl es = true)
    {f : FuncId} {ss : List Sh} {F d : Nat} {r : List Int} {lh : FuncId → Nat → Option Hint} (ht : (evFn Try.prog (rowCtxE (exL es) [] lh) F d f (.sls 0 (.v 0) (.v 1) :: shsS ss 2) [] (rowFx (rngE 2 (ksRg (shsKs ss)))) (shsW ss + 2)).triv = true) (hr : KsOK (shsKs ss) r) :
    Calls Try.prog f (.slice a len cap :: shsV ss r).toArray w fun e w' => e = .returned (.bool true) ∧ Below w.heap.size w w' := by
  obtain ⟨g, h1, h2⟩ := gEx hkl z len cap
  exact row_trivE hrow (g := g) (l := []) trivial rfl (ex := exL es) (hes hrow h1 h2) ht hr
end Go.Proofs.Ytnnnmdmniceenaa
