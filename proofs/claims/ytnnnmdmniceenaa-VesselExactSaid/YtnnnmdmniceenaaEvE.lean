/- The evaluator: states, trees, operations one after the other. -/
import Derived.Test.YtnnnmdmniceenaaEvD
import Derived.Test.YtnnnmdmniceenaaEvS
set_option linter.unusedSimpArgs false
set_option linter.unusedVariables false
namespace Go.Proofs.Ytnnnmdmniceenaa.Ev
variable {Φ : Sig}

/-! ### What a term, a value, a state may name -/
def clE (n : Nat) : E → Bool
  | .lit _ => true
  | .v i => Nat.blt i n
  | .add a b | .sub a b | .mul a b | .quo a b | .rem a b | .mx a b | .mn a b => clE n a && clE n b
  | .sw i _ a b => clE n i && clE n a && clE n b
  | .wr _ a => clE n a
theorem clE_ok {n : Nat} {e : E} (h : clE n e = true) {ρ : List Int} (hl : n ≤ ρ.length) (s : List Int) : den (ρ ++ s) e = den ρ e := by
  induction e with
  | lit z => rfl
  | v i =>
    simp only [clE, Nat.blt_eq] at h
    have hi : i < ρ.length := by omega
    simp [den, List.getElem?_append_left hi]
  | wr k a ih => simp only [den, ih h]
  | sw i k a b h1 h2 h3 =>
    simp only [clE, Bool.and_eq_true] at h
    simp only [den, h1 h.1.1, h2 h.1.2, h3 h.2]
  | add a b iha ihb | sub a b iha ihb | mul a b iha ihb | quo a b iha ihb | rem a b iha ihb | mx a b iha ihb | mn a b iha ihb =>
    simp only [clE, Bool.and_eq_true] at h
    simp only [den, iha h.1, ihb h.2]
def clB (n : Nat) : B → Bool
  | .lit _ => true
  | .eq a b | .le a b | .lt a b => clE n a && clE n b
  | .nz a => clE n a
  | .not a => clB n a
  | .and a b | .or a b | .iff a b => clB n a && clB n b
theorem clB_ok {n : Nat} {e : B} (h : clB n e = true) {ρ : List Int} (hl : n ≤ ρ.length) (s : List Int) : denB (ρ ++ s) e = denB ρ e := by
  induction e with
  | lit z => rfl
  | eq a b | le a b | lt a b =>
    simp only [clB, Bool.and_eq_true] at h
    simp only [denB, clE_ok h.1 hl, clE_ok h.2 hl]
  | nz a => simp only [denB, clE_ok h hl]
  | not a ih => simp only [denB, ih h]
  | and a b iha ihb | or a b iha ihb | iff a b iha ihb =>
    simp only [clB, Bool.and_eq_true] at h
    simp only [denB, iha h.1, ihb h.2]
theorem clE_more {n m : Nat} (h : n ≤ m) : ∀ (e : E), clE n e = true → clE m e = true
  | .lit _, _ => rfl
  | .v i, hc => by simp only [clE, Nat.blt_eq] at hc ⊢; omega
  | .wr _ a, hc => clE_more h a hc
  | .sw i _ a b, hc => by
    simp only [clE, Bool.and_eq_true] at hc ⊢
    exact ⟨⟨clE_more h i hc.1.1, clE_more h a hc.1.2⟩, clE_more h b hc.2⟩
  | .add a b, hc | .sub a b, hc | .mul a b, hc | .quo a b, hc | .rem a b, hc | .mx a b, hc | .mn a b, hc => by
    simp only [clE, Bool.and_eq_true] at hc ⊢
    exact ⟨clE_more h a hc.1, clE_more h b hc.2⟩
theorem clB_more {n m : Nat} (h : n ≤ m) : ∀ (e : B), clB n e = true → clB m e = true
  | .lit _, _ => rfl
  | .eq a b, hc | .le a b, hc | .lt a b, hc => by
    simp only [clB, Bool.and_eq_true] at hc ⊢
    exact ⟨clE_more h a hc.1, clE_more h b hc.2⟩
  | .nz a, hc => clE_more h a hc
  | .not a, hc => clB_more h a hc
  | .and a b, hc | .or a b, hc | .iff a b, hc => by
    simp only [clB, Bool.and_eq_true] at hc ⊢
    exact ⟨clB_more h a hc.1, clB_more h b hc.2⟩
mutual
def clV (n : Nat) (p : Nat → Bool) : SV → Bool
  | .int _ e => clE n e
  | .bool b => clB n b
  | .undef | .nilp | .nils | .nilfn | .any => true
  | .ptr i _ => p i
  | .ptx i _ _ e => p i && clE n e
  | .slc i _ _ _ => p i
  | .fn _ a b => clL n p a && clL n p b
  | .agg l | .tup l => clL n p l
  | .grd c v => clB n c && clV n p v
  | .sls _ a b => clE n a && clE n b
  | .xp _ _ _ e => clE n e
def clL (n : Nat) (p : Nat → Bool) : List SV → Bool
  | [] => true
  | v :: l => clV n p v && clL n p l
end
/-- The same places for the blocks that a test lets through. -/
structure agree (p : Nat → Bool) (η η' : Env) : Prop where
  al : η'.α = η.α
  at_ : ∀ i, p i = true → η'.β i = η.β i ∧ η'.κ i = η.κ i
def ltB (nb : Nat) : Nat → Bool := fun i => Nat.blt i nb
theorem ltB_iff {nb i : Nat} : ltB nb i = true ↔ i < nb := by simp [ltB]
abbrev sameEnv (nb : Nat) (η η' : Env) : Prop := agree (ltB nb) η η'
theorem sameEnv.lt {nb : Nat} {η η' : Env} (h : sameEnv nb η η') (i : Nat) (hi : i < nb) : η'.β i = η.β i ∧ η'.κ i = η.κ i := h.at_ i (ltB_iff.2 hi)
theorem agree.refl (p : Nat → Bool) (η : Env) : agree p η η := ⟨rfl, fun _ _ => ⟨rfl, rfl⟩⟩
theorem agree.trans {p : Nat → Bool} {η η' η'' : Env} (h : agree p η η') (k : agree p η' η'') : agree p η η'' :=
  ⟨k.al.trans h.al, fun i hi => ⟨(k.at_ i hi).1.trans (h.at_ i hi).1, (k.at_ i hi).2.trans (h.at_ i hi).2⟩⟩
theorem agree.sub {p q : Nat → Bool} {η η' : Env} (h : agree p η η') (hq : ∀ i, q i = true → p i = true) : agree q η η' := ⟨h.al, fun i hi => h.at_ i (hq i hi)⟩
mutual
theorem clV_ok {n : Nat} {p : Nat → Bool} : ∀ (v : SV), clV n p v = true → ∀ {ρ : List Int} {η η' : Env}, n ≤ ρ.length → agree p η η' → ∀ s, denV (ρ ++ s) η' v = denV ρ η v
  | .int k e, h, ρ, η, η', hl, he, s => by simp only [denV, clE_ok h hl]
  | .bool b, h, ρ, η, η', hl, he, s => by simp only [denV, clB_ok h hl]
  | .undef, _, _, _, _, _, _, _ => rfl
  | .any, _, _, _, _, _, _, _ => rfl
  | .nilp, _, _, _, _, _, _, _ => rfl
  | .nils, _, _, _, _, _, _, _ => rfl
  | .nilfn, _, _, _, _, _, _, _ => rfl
  | .sls k a b, h, ρ, η, η', hl, he, s => by
    simp only [clV, Bool.and_eq_true] at h
    simp only [denV, he.al, clE_ok h.1 hl, clE_ok h.2 hl]
  | .xp k z o e, h, ρ, η, η', hl, he, s => by
    simp only [clV] at h
    simp only [denV, he.al, clE_ok h hl]
  | .ptr i o, h, ρ, η, η', hl, he, s => by
    simp only [clV] at h
    simp only [denV, (he.at_ i h).1]
  | .ptx i o z e, h, ρ, η, η', hl, he, s => by
    simp only [clV, Bool.and_eq_true] at h
    simp only [denV, (he.at_ i h.1).1, clE_ok h.2 hl]
  | .slc i o m c, h, ρ, η, η', hl, he, s => by
    simp only [clV] at h
    simp only [denV, (he.at_ i h).1, (he.at_ i h).2]
  | .fn f a b, h, ρ, η, η', hl, he, s => by
    simp only [clV, Bool.and_eq_true] at h
    simp only [denV, clL_ok a h.1 hl he, clL_ok b h.2 hl he]
  | .agg l, h, ρ, η, η', hl, he, s => by
    simp only [clV] at h
    simp only [denV, clL_ok l h hl he]
  | .tup l, h, ρ, η, η', hl, he, s => by
    simp only [clV] at h
    simp only [denV, clL_ok l h hl he]
  | .grd c v, h, ρ, η, η', hl, he, s => by
    simp only [clV, Bool.and_eq_true] at h
    simp only [denV, clB_ok h.1 hl, clV_ok v h.2 hl he]
theorem clL_ok {n : Nat} {p : Nat → Bool} : ∀ (l : List SV), clL n p l = true → ∀ {ρ : List Int} {η η' : Env}, n ≤ ρ.length → agree p η η' → ∀ s, denL (ρ ++ s) η' l = denL ρ η l
  | [], _, _, _, _, _, _, _ => by simp [denL]
  | v :: l, h, ρ, η, η', hl, he, s => by
    simp only [clL, Bool.and_eq_true] at h
    simp only [denL, clV_ok v h.1 hl he, clL_ok l h.2 hl he]
end
def clFx (n : Nat) (fx : Fx) : Bool := Nat.ble fx.iv.vn n && fx.iv.l.all (fun p => clE n p.1) && fx.bs.all (fun p => clB n p.1)
theorem clFx_ok {n : Nat} {fx : Fx} (h : clFx n fx = true) {ρ : List Int} (hl : n ≤ ρ.length) (s : List Int) (hf : FxOK ρ fx) : FxOK (ρ ++ s) fx := by
  simp only [clFx, Bool.and_eq_true] at h
  refine ⟨⟨fun p hp => ?_, fun i p hp => ?_⟩, fun p hp => ?_⟩
  · rw [clE_ok (List.all_eq_true.1 h.1.2 p hp) hl]; exact hf.1.1 p hp
  · obtain ⟨h1, h2⟩ := hf.1.2 i p hp
    have := Nat.le_of_ble_eq_true h.1.1
    simp only [List.getD_eq_getElem?_getD] at h2 ⊢
    rw [List.getElem?_append_left (by omega)]
    exact ⟨h1, h2⟩
  · rw [clB_ok (List.all_eq_true.1 h.2 p hp) hl]; exact hf.2 p hp

/-! ### States -/
abbrev Blks := List (Option (TypeId × List SV))
structure St where
  t : List SV
  b : Blks
  fx : Fx
  n : Nat
  wd : List Nat
  cs : List (Nat × List E × Nat × Nat) := []
def getB (b : Blks) : Blk := fun i => b.getD i none
def clBs (n : Nat) (p : Nat → Bool) (b : Blks) : Bool := b.all fun o => match o with
  | some (_, cs) => clL n p cs
  | none => true
def St.cl (σ : St) : Bool := clL σ.n (ltB σ.b.length) σ.t && clBs σ.n (ltB σ.b.length) σ.b && clFx σ.n σ.fx
def setBs : List (Nat × Option (TypeId × List SV)) → Blks → Blks
  | [], b => b
  | (i, c) :: r, b => setBs r (b.set i c)
def putB (b : Blks) (nn : Nat) (wr : List (Nat × Option (TypeId × List SV))) : Blks := setBs wr (b ++ List.replicate nn none)
theorem setBs_length : ∀ (wr : List (Nat × Option (TypeId × List SV))) (b : Blks), (setBs wr b).length = b.length
  | [], _ => rfl
  | (i, c) :: r, b => by simp [setBs, setBs_length r]
theorem putB_length (b : Blks) (nn : Nat) (wr : List (Nat × Option (TypeId × List SV))) : (putB b nn wr).length = b.length + nn := by simp [putB, setBs_length]
theorem setBs_other : ∀ (wr : List (Nat × Option (TypeId × List SV))) (b : Blks) (i : Nat), (∀ p ∈ wr, p.1 ≠ i) → getB (setBs wr b) i = getB b i
  | [], _, _, _ => rfl
  | (j, c) :: r, b, i, h => by
    simp only [setBs]
    rw [setBs_other r _ i fun p hp => h p (List.mem_cons_of_mem _ hp)]
    have : j ≠ i := h _ (List.mem_cons_self ..)
    simp [getB, List.getElem?_set_ne this]
theorem setBs_here : ∀ (wr : List (Nat × Option (TypeId × List SV))) (b : Blks) (i : Nat) (c : Option (TypeId × List SV)), (wr.map (·.1)).Nodup → (i, c) ∈ wr → i < b.length → getB (setBs wr b) i = c
  | [], _, _, _, _, h, _ => by cases h
  | (j, d) :: r, b, i, c, hn, h, hl => by
    simp only [List.map_cons, List.nodup_cons] at hn
    simp only [setBs]
    rcases List.mem_cons.1 h with h | h
    · simp only [Prod.mk.injEq] at h
      obtain ⟨rfl, rfl⟩ := h
      rw [setBs_other r _ i fun p hp he => hn.1 (List.mem_map.2 ⟨p, hp, he⟩)]
      simp [getB, hl]
    · exact setBs_here r _ i c hn.2 h (by simpa using hl)
theorem getB_append (b : Blks) (nn i : Nat) : getB (b ++ List.replicate nn none) i = getB b i := by
  unfold getB
  by_cases h : i < b.length
  · simp [List.getElem?_append_left h]
  · simp only [List.getD_eq_getElem?_getD]
    rw [List.getElem?_append_right (by omega), List.getElem?_eq_none (by omega : b.length ≤ i)]
    by_cases h2 : i - b.length < nn <;> simp [h2]
theorem getB_none {b : Blks} {i : Nat} (h : b.length ≤ i) : getB b i = none := by simp [getB, List.getElem?_eq_none h]
def assumeL (fx : Fx) : List B → Fx
  | [] => fx
  | b :: l => assumeL (assume fx b true) l
theorem assumeL_ok {ρ : List Int} : ∀ (l : List B) (fx : Fx), FxOK ρ fx → (∀ x ∈ l, denB ρ x = true) → FxOK ρ (assumeL fx l)
  | [], _, hf, _ => hf
  | b :: l, fx, hf, h => assumeL_ok l _ (assume_ok b fx true hf (h b (List.mem_cons_self ..))) fun x hx => h x (List.mem_cons_of_mem _ hx)
def calN : Option (Nat × List E × Nat) → Nat
  | some (_, _, m) => m
  | none => 0
def isCall : Op → Bool
  | .call { callee := .value _, .. } => true
  | .load _ _ => true
  | _ => false
theorem evLoad_rng {P : Program} {fx : Fx} {bl : Blk} {T : TypeId} {x : SV} {r : Res} (h : evLoad P fx bl T x = some r) : r.rng = [] := by
  unfold evLoad at h
  dsimp only at h
  repeat' split at h
  all_goals first
    | (simp only [Option.some.injEq] at h; subst h; rfl)
    | simp at h
def setT (t : List SV) (d : Option Tmp) (v : SV) : List SV := match d with
  | some d => t.set d v
  | none => t
/-- The calls made last: what was called, with what, and the variables that hold what it gave. -/
abbrev Cs := List (Nat × List E × Nat × Nat)
def addC (n : Nat) (c : Option (Nat × List E × Nat)) (cs : Cs) : Cs := match c with
  | some (k, es, m) => ((k, es, n, m) :: cs).take 10
  | none => cs
def CsOK (Φ : Sig) (ρ : List Int) (n : Nat) (cs : Cs) : Prop := ∀ p ∈ cs, p.2.2.1 + p.2.2.2 ≤ n ∧ p.2.1.all (clE n) = true ∧ CalOK Φ ρ p.2.2.1 (some (p.1, p.2.1, p.2.2.2))
theorem CsOK.more {ρ : List Int} {n : Nat} {cs : Cs} (h : CsOK Φ ρ n cs) (hl : n ≤ ρ.length) (s : List Int) (k : Nat) : CsOK Φ (ρ ++ s) (n + k) cs := fun p hp => by
  obtain ⟨h1, h2, h3⟩ := h p hp
  refine ⟨by omega, List.all_eq_true.2 fun e he => clE_more (Nat.le_add_right _ _) e (List.all_eq_true.1 h2 e he), ?_⟩
  intro k es m hk i hi
  simp only [Option.some.injEq, Prod.mk.injEq] at hk
  obtain ⟨rfl, rfl, rfl⟩ := hk
  have e : p.2.1.map (den (ρ ++ s)) = p.2.1.map (den ρ) := List.map_congr_left fun e he => clE_ok (List.all_eq_true.1 h2 e he) hl _
  rw [e, ← h3 _ _ _ rfl i hi]
  simp only [List.getD_eq_getElem?_getD]
  rw [List.getElem?_append_left (by omega)]
theorem CsOK.same {ρ : List Int} {n k : Nat} {cs : Cs} (h : CsOK Φ ρ n cs) : CsOK Φ ρ (n + k) cs := fun p hp => by
  obtain ⟨h1, h2, h3⟩ := h p hp
  exact ⟨by omega, List.all_eq_true.2 fun e he => clE_more (Nat.le_add_right _ _) e (List.all_eq_true.1 h2 e he), h3⟩
theorem CsOK.add {ρ : List Int} {n : Nat} {cs : Cs} {c : Option (Nat × List E × Nat)} (h : CsOK Φ ρ (n + calN c) cs) (hc : CalOK Φ ρ n c) (he : ∀ k es m, c = some (k, es, m) → es.all (clE n) = true) : CsOK Φ ρ (n + calN c) (addC n c cs) := by
  cases c with
  | none => exact h
  | some q =>
    obtain ⟨k, es, m⟩ := q
    intro p hp
    rcases List.mem_cons.1 (List.mem_of_mem_take hp) with rfl | hp
    · exact ⟨Nat.le_refl _, List.all_eq_true.2 fun e hm => clE_more (Nat.le_add_right _ _) e (List.all_eq_true.1 (he _ _ _ rfl) e hm), hc⟩
    · exact h p hp
def putAll : List (E × Int × Int) → Fs → Fs
  | [], s => s
  | p :: r, s => putAll r (s.put p)
theorem FsOK.putAll {ρ : List Int} : ∀ {l : List (E × Int × Int)} {s : Fs}, (∀ p ∈ l, p.2.1 ≤ den ρ p.1 ∧ den ρ p.1 ≤ p.2.2) → FsOK ρ s → FsOK ρ (putAll l s)
  | [], _, _, h => h
  | p :: r, s, hl, h => show FsOK ρ (Ev.putAll r (s.put p)) from FsOK.putAll (fun q hq => hl q (List.mem_cons_of_mem _ hq)) (h.put (hl p (List.mem_cons_self ..)))
def addR (r : List (E × Int × Int)) (fx : Fx) : Fx := { fx with iv := putAll r fx.iv }
theorem addR_ok {ρ : List Int} {r : List (E × Int × Int)} {fx : Fx} (hr : ∀ p ∈ r, p.2.1 ≤ den ρ p.1 ∧ den ρ p.1 ≤ p.2.2) (hf : FxOK ρ fx) : FxOK ρ (addR r fx) := ⟨FsOK.putAll hr hf.1, hf.2⟩
def St.put (σ : St) (o : Oper) (r : Res) : St :=
  let fx := assumeL σ.fx r.asr
  { t := setT σ.t o.dst r.v, b := putB σ.b r.nn r.wr, fx := if isCall o.op then addR r.rng fx else fx, n := σ.n + calN r.cal, wd := r.wr.map (·.1) ++ σ.wd, cs := addC σ.n r.cal σ.cs }
mutual
theorem clV_more {n m : Nat} {p : Nat → Bool} (h : n ≤ m) : ∀ (v : SV), clV n p v = true → clV m p v = true
  | .int k e, hc => clE_more h e hc
  | .bool b, hc => clB_more h b hc
  | .undef, _ => rfl
  | .any, _ => rfl
  | .sls k a b, hc => by
    simp only [clV, Bool.and_eq_true] at hc ⊢
    exact ⟨clE_more h a hc.1, clE_more h b hc.2⟩
  | .xp k z o e, hc => clE_more h e hc
  | .nilp, _ => rfl
  | .nils, _ => rfl
  | .nilfn, _ => rfl
  | .ptr i o, hc => hc
  | .ptx i o z e, hc => by
    simp only [clV, Bool.and_eq_true] at hc ⊢
    exact ⟨hc.1, clE_more h e hc.2⟩
  | .slc i o k c, hc => hc
  | .fn f a b, hc => by
    simp only [clV, Bool.and_eq_true] at hc ⊢
    exact ⟨clL_more h a hc.1, clL_more h b hc.2⟩
  | .agg l, hc => clL_more h l hc
  | .tup l, hc => clL_more h l hc
  | .grd c v, hc => by
    simp only [clV, Bool.and_eq_true] at hc ⊢
    exact ⟨clB_more h c hc.1, clV_more h v hc.2⟩
theorem clL_more {n m : Nat} {p : Nat → Bool} (h : n ≤ m) : ∀ (l : List SV), clL n p l = true → clL m p l = true
  | [], _ => rfl
  | v :: l, hc => by
    simp only [clL, Bool.and_eq_true] at hc ⊢
    exact ⟨clV_more h v hc.1, clL_more h l hc.2⟩
end
theorem St.cl_more {σ : St} (h : σ.cl = true) {k : Nat} : St.cl { σ with n := σ.n + k } = true := by
  simp only [St.cl, Bool.and_eq_true] at h ⊢
  obtain ⟨⟨h1, h2⟩, h3⟩ := h
  refine ⟨⟨clL_more (Nat.le_add_right _ _) _ h1, List.all_eq_true.2 fun o ho => ?_⟩, ?_⟩
  · have := List.all_eq_true.1 h2 o ho
    cases o with
    | none => rfl
    | some p => exact clL_more (Nat.le_add_right _ _) _ this
  · simp only [clFx, Bool.and_eq_true, List.all_eq_true] at h3 ⊢
    exact ⟨⟨Nat.ble_eq_true_of_le (Nat.le_trans (Nat.le_of_ble_eq_true h3.1.1) (Nat.le_add_right _ _)), fun p hp => clE_more (Nat.le_add_right _ _) _ (h3.1.2 p hp)⟩, fun p hp => clB_more (Nat.le_add_right _ _) _ (h3.2 p hp)⟩
theorem blt_lt {a b : Nat} : Nat.blt a b = true ↔ a < b := ⟨fun h => Nat.le_of_ble_eq_true h, fun h => Nat.ble_eq_true_of_le h⟩
theorem clFx_iff {n : Nat} {fx : Fx} : clFx n fx = true ↔ fx.iv.vn ≤ n ∧ (∀ p ∈ fx.iv.l, clE n p.1 = true) ∧ ∀ p ∈ fx.bs, clB n p.1 = true := by
  simp only [clFx, Bool.and_eq_true, List.all_eq_true]
  exact ⟨fun h => ⟨Nat.le_of_ble_eq_true h.1.1, h.1.2, h.2⟩, fun h => ⟨⟨Nat.ble_eq_true_of_le h.1, h.2.1⟩, h.2.2⟩⟩
theorem put_clF {n : Nat} {fx : Fx} (h : clFx n fx = true) {p : E × Int × Int} (hp : clE n p.1 = true) : clFx n { fx with iv := fx.iv.put p } = true := by
  rw [clFx_iff] at h ⊢
  obtain ⟨e, l, u⟩ := p
  have gen : ∀ s : Fs, s = fx.iv.put (e, l, u) → s.vn ≤ n ∧ ∀ p ∈ s.l, clE n p.1 = true := by
    intro s hs
    unfold Fs.put at hs
    split at hs
    · rename_i i l' u' heq
      simp only [Prod.mk.injEq] at heq
      obtain ⟨rfl, rfl, rfl⟩ := heq
      subst hs
      refine ⟨?_, h.2.1⟩
      show (if Nat.ble fx.iv.vn i = true then Nat.succ i else fx.iv.vn) ≤ n
      have hi : i < n := blt_lt.1 hp
      split
      · omega
      · exact h.1
    · subst hs
      refine ⟨h.1, fun q hq => ?_⟩
      rcases List.mem_cons.1 hq with rfl | hq
      · exact hp
      · exact h.2.1 q hq
  obtain ⟨g1, g2⟩ := gen _ rfl
  exact ⟨g1, g2, h.2.2⟩
theorem addIv0_cl {n : Nat} {fx : Fx} (h : clFx n fx = true) {e : E} (he : clE n e = true) (i : Iv) : clFx n (addIv0 fx e i) = true := by
  unfold addIv0
  split
  · exact h
  · split
    · exact put_clF h he
    · exact h
theorem spread_cl {n : Nat} : ∀ (e : E) (fx : Fx), clFx n fx = true → clE n e = true → clFx n (spread e fx) = true
  | .mx a b, fx, h, he => by
    simp only [clE, Bool.and_eq_true] at he
    unfold spread
    split
    · exact spread_cl b _ (addIv0_cl (spread_cl a _ (addIv0_cl h he.1 _) he.1) he.2 _) he.2
    · exact h
  | .mn a b, fx, h, he => by
    simp only [clE, Bool.and_eq_true] at he
    unfold spread
    split
    · exact spread_cl b _ (addIv0_cl (spread_cl a _ (addIv0_cl h he.1 _) he.1) he.2 _) he.2
    · exact h
  | .lit _, _, h, _ | .v _, _, h, _ | .add _ _, _, h, _ | .sub _ _, _, h, _ | .mul _ _, _, h, _ | .quo _ _, _, h, _ | .rem _ _, _, h, _ | .sw _ _ _ _, _, h, _ | .wr _ _, _, h, _ => h
theorem addIv_cl {n : Nat} {fx : Fx} (h : clFx n fx = true) {e : E} (he : clE n e = true) (i : Iv) : clFx n (addIv fx e i) = true := spread_cl e _ (addIv0_cl h he i) he
theorem add2_cl {n : Nat} {fx : Fx} (h : clFx n fx = true) {a b : E} (ha : clE n a = true) (hb : clE n b = true) (p : Iv × Iv) : clFx n (add2 fx a b p) = true := addIv_cl (addIv_cl h ha _) hb _
theorem refine1_cl {n : Nat} {fx : Fx} (h : clFx n fx = true) (b : B) (t : Bool) (hb : clB n b = true) : clFx n (refine1 fx b t) = true := by
  unfold refine1
  split <;> first
    | exact h
    | (simp only [clB, Bool.and_eq_true] at hb; first
        | exact add2_cl h hb.1 hb.2 _
        | exact add2_cl h hb.2 hb.1 _
        | exact addIv_cl h hb _
        | (split <;> first | exact h | exact add2_cl h hb.1 hb.2 _ | exact addIv_cl h hb.1 _ | exact addIv_cl h hb.2 _ | exact addIv_cl (addIv_cl h hb.1 _) hb.2 _))
theorem bs_cl {n : Nat} {fx : Fx} (h : clFx n fx = true) {b : B} (hb : clB n b = true) (t : Bool) : clFx n { fx with bs := (b, t) :: fx.bs } = true := by
  rw [clFx_iff] at h ⊢
  refine ⟨h.1, h.2.1, fun p hp => ?_⟩
  rcases List.mem_cons.1 hp with rfl | hp
  · exact hb
  · exact h.2.2 p hp
theorem assume_cl {n : Nat} (b : B) : ∀ (fx : Fx) (t : Bool), clFx n fx = true → clB n b = true → clFx n (assume fx b t) = true := by
  induction b with
  | not a ih => intro fx t h hb; exact ih fx (!t) h hb
  | and a b iha ihb =>
    intro fx t h hb
    have hb' := hb
    simp only [clB, Bool.and_eq_true] at hb'
    cases t
    · exact refine1_cl (bs_cl h hb _) _ _ hb
    · exact ihb _ _ (iha _ _ h hb'.1) hb'.2
  | or a b iha ihb =>
    intro fx t h hb
    have hb' := hb
    simp only [clB, Bool.and_eq_true] at hb'
    cases t
    · exact ihb _ _ (iha _ _ h hb'.1) hb'.2
    · exact refine1_cl (bs_cl h hb _) _ _ hb
  | lit b => intro fx t h hb; exact refine1_cl (bs_cl h hb _) _ _ hb
  | eq a b => intro fx t h hb; exact refine1_cl (bs_cl h hb _) _ _ hb
  | le a b => intro fx t h hb; exact refine1_cl (bs_cl h hb _) _ _ hb
  | lt a b => intro fx t h hb; exact refine1_cl (bs_cl h hb _) _ _ hb
  | nz a => intro fx t h hb; exact refine1_cl (bs_cl h hb _) _ _ hb
  | iff a b => intro fx t h hb; exact refine1_cl (bs_cl h hb _) _ _ hb
theorem assumeL_cl {n : Nat} : ∀ (l : List B) (fx : Fx), clFx n fx = true → l.all (clB n) = true → clFx n (assumeL fx l) = true
  | [], _, h, _ => h
  | b :: l, fx, h, hl => by
    simp only [List.all_cons, Bool.and_eq_true] at hl
    exact assumeL_cl l _ (assume_cl b _ _ h hl.1) hl.2
theorem addR_cl {n : Nat} : ∀ (r : List (E × Int × Int)) (fx : Fx), clFx n fx = true → r.all (fun p => clE n p.1) = true → clFx n (addR r fx) = true
  | [], _, h, _ => h
  | p :: r, fx, h, hl => by
    simp only [List.all_cons, Bool.and_eq_true] at hl
    exact addR_cl r { fx with iv := fx.iv.put p } (put_clF h hl.1) hl.2
/-! ### Values, frames, blocks -/
mutual
theorem clV_sub {n : Nat} {p q : Nat → Bool} (h : ∀ i, p i = true → q i = true) : ∀ (v : SV), clV n p v = true → clV n q v = true
  | .int _ _, hv | .bool _, hv | .undef, hv | .nilp, hv | .nils, hv | .nilfn, hv | .any, hv | .sls _ _ _, hv | .xp _ _ _ _, hv => hv
  | .ptr i _, hv => h i hv
  | .slc i _ _ _, hv => h i hv
  | .ptx i _ _ e, hv => by
    simp only [clV, Bool.and_eq_true] at hv ⊢
    exact ⟨h i hv.1, hv.2⟩
  | .fn _ a b, hv => by
    simp only [clV, Bool.and_eq_true] at hv ⊢
    exact ⟨clL_sub h a hv.1, clL_sub h b hv.2⟩
  | .agg l, hv => by simp only [clV] at hv ⊢; exact clL_sub h l hv
  | .tup l, hv => by simp only [clV] at hv ⊢; exact clL_sub h l hv
  | .grd c v, hv => by
    simp only [clV, Bool.and_eq_true] at hv ⊢
    exact ⟨hv.1, clV_sub h v hv.2⟩
theorem clL_sub {n : Nat} {p q : Nat → Bool} (h : ∀ i, p i = true → q i = true) : ∀ (l : List SV), clL n p l = true → clL n q l = true
  | [], _ => rfl
  | v :: l, hv => by
    simp only [clL, Bool.and_eq_true] at hv ⊢
    exact ⟨clV_sub h v hv.1, clL_sub h l hv.2⟩
end
theorem ltB_le {a b : Nat} (h : a ≤ b) : ∀ i, ltB a i = true → ltB b i = true := fun i hi => ltB_iff.2 (Nat.lt_of_lt_of_le (ltB_iff.1 hi) h)
theorem clL_set {n : Nat} {p : Nat → Bool} {v : SV} (hv : clV n p v = true) : ∀ (l : List SV) (d : Nat), clL n p l = true → clL n p (l.set d v) = true
  | [], _, h => h
  | a :: l, 0, h => by
    simp only [clL, Bool.and_eq_true] at h
    simp only [List.set_cons_zero, clL, Bool.and_eq_true]; exact ⟨hv, h.2⟩
  | a :: l, d + 1, h => by
    simp only [clL, Bool.and_eq_true] at h
    simp only [List.set_cons_succ, clL, Bool.and_eq_true]; exact ⟨h.1, clL_set hv l d h.2⟩
theorem setT_cl {n : Nat} {p : Nat → Bool} {t : List SV} {v : SV} (ht : clL n p t = true) (hv : clV n p v = true) (d : Option Tmp) : clL n p (setT t d v) = true := by
  cases d with
  | none => exact ht
  | some d => exact clL_set hv t d ht
def clO (n : Nat) (p : Nat → Bool) : Option (TypeId × List SV) → Bool
  | some (_, cs) => clL n p cs
  | none => true
theorem clBs_iff {n : Nat} {p : Nat → Bool} {b : Blks} : clBs n p b = true ↔ ∀ o ∈ b, clO n p o = true := by
  unfold clBs
  rw [List.all_eq_true]
  constructor <;> intro h o ho <;> have := h o ho <;> rcases o with _ | ⟨T, cs⟩ <;> first | rfl | exact this
theorem setBs_cl {n : Nat} {p : Nat → Bool} : ∀ (wr : List (Nat × Option (TypeId × List SV))) (b : Blks), clBs n p b = true → (∀ e ∈ wr, clO n p e.2 = true) → clBs n p (setBs wr b) = true
  | [], b, h, _ => h
  | (i, c) :: r, b, h, hw => by
    refine setBs_cl r _ ?_ fun e he => hw e (List.mem_cons_of_mem _ he)
    rw [clBs_iff] at h ⊢
    intro o ho
    rcases List.mem_or_eq_of_mem_set ho with ho | rfl
    · exact h o ho
    · exact hw _ (List.mem_cons_self ..)
theorem putB_cl {n : Nat} {p : Nat → Bool} {b : Blks} (h : clBs n p b = true) (nn : Nat) {wr : List (Nat × Option (TypeId × List SV))} (hw : ∀ e ∈ wr, clO n p e.2 = true) : clBs n p (putB b nn wr) = true := by
  refine setBs_cl wr _ ?_ hw
  rw [clBs_iff] at h ⊢
  intro o ho
  rcases List.mem_append.1 ho with ho | ho
  · exact h o ho
  · rw [List.eq_of_mem_replicate ho]; rfl
/-- What an operation has made names only what is there. -/
def resLoc (σ : St) (r : Res) : Bool :=
  clV (σ.n + calN r.cal) (ltB (σ.b.length + r.nn)) r.v && r.wr.all (fun e => clO (σ.n + calN r.cal) (ltB (σ.b.length + r.nn)) e.2) && r.asr.all (clB (σ.n + calN r.cal)) && r.rng.all (fun p => clE (σ.n + calN r.cal) p.1)
theorem clFx_more {n m : Nat} (h : n ≤ m) {fx : Fx} (hf : clFx n fx = true) : clFx m fx = true := by
  rw [clFx_iff] at hf ⊢
  exact ⟨Nat.le_trans hf.1 h, fun p hp => clE_more h _ (hf.2.1 p hp), fun p hp => clB_more h _ (hf.2.2 p hp)⟩
theorem clBs_more {n m : Nat} {p q : Nat → Bool} (h : n ≤ m) (hp : ∀ i, p i = true → q i = true) {b : Blks} (hb : clBs n p b = true) : clBs m q b = true := by
  rw [clBs_iff] at hb ⊢
  intro o ho
  have := hb o ho
  rcases o with _ | ⟨T, cs⟩
  · rfl
  · exact clL_sub hp _ (clL_more h _ this)
theorem put_cl {σ : St} {o : Oper} {r : Res} (h : St.cl { σ with n := σ.n + calN r.cal } = true) (hr : resLoc σ r = true) : (σ.put o r).cl = true := by
  simp only [St.cl, Bool.and_eq_true] at h
  obtain ⟨⟨h1, h2⟩, h3⟩ := h
  simp only [resLoc, Bool.and_eq_true] at hr
  obtain ⟨⟨⟨r1, r2⟩, r3⟩, r4⟩ := hr
  have hlb := ltB_le (Nat.le_add_right σ.b.length r.nn)
  simp only [St.cl, Bool.and_eq_true, St.put, putB_length]
  refine ⟨⟨setT_cl (clL_sub hlb _ h1) r1 _, putB_cl (clBs_more (Nat.le_refl _) hlb h2) _ fun e he => List.all_eq_true.1 r2 e he⟩, ?_⟩
  have hf := assumeL_cl r.asr σ.fx h3 r3
  split
  · exact addR_cl _ _ hf r4
  · exact hf
theorem evOp_rng {P : Program} {C : Ctx} {Φ : Sig} (hC : CtxOK P Φ C) {fx : Fx} {n nb : Nat} {bl : Blk} {x : Operand → Option SV} {op : Op} {r : Res} (h : evOp P C fx n nb bl x op = some r) (hc : isCall op = true)
    {ρ : List Int} {η : Env} {w : World} (hf : FxOK ρ fx) (hcal : CalOK Φ ρ n r.cal) (hasr : ∀ y ∈ r.asr, denB ρ y = true) (hb : Rb Φ ρ η bl w) (hbn : ∀ i, nb ≤ i → bl i = none) :
    ∀ p ∈ r.rng, p.2.1 ≤ den ρ p.1 ∧ den ρ p.1 ≤ p.2.2 := by
  cases op with
  | call c =>
    obtain ⟨callee, cargs, ctys⟩ := c
    cases callee with
    | value f =>
      simp only [evOp, evCall] at h
      split at h
      · split at h
        · split at h
          · rename_i con hcon
            exact ((hC.fn _ _ hcon).2 _ _ _ _ _ _ h ρ η w hf hcal hasr hb hbn).1
          · simp at h
        · simp at h
      · simp at h
    | _ => simp [isCall] at hc
  | load T y =>
    simp only [evOp] at h
    obtain ⟨v, hv, h⟩ := bind1_some h
    split at h
    · exact (evLd_ok (nb := nb) hC.ld h hf hcal hasr hb).2
    · rw [evLoad_rng h]; intro p hp; cases hp
  | _ => simp [isCall] at hc
theorem Ft.set {ρ : List Int} {η : Env} {t : List SV} {a : Act} (h : Ft ρ η t a) (d : Option Tmp) (v : SV) : Ft ρ η (setT t d v) (a.put d (denV ρ η v)) := by
  cases d with
  | none => exact h
  | some d =>
    refine ⟨by simp [Act.put, setT, h.len], fun i u hu hn => ?_, h.defers⟩
    simp only [setT] at hu
    simp only [Act.put]
    by_cases hd : d = i
    · subst hd
      have hl : d < t.length := by
        have := (List.getElem?_eq_some_iff.1 hu).1
        simpa using this
      rw [List.getElem?_set_self hl] at hu
      simp only [Option.some.injEq] at hu; subst hu
      have : d < a.tmps.size := by rw [h.len]; exact hl
      simp [this]
    · rw [List.getElem?_set_ne hd] at hu
      have := h.at_ i u hu hn
      simp [Array.getElem?_setIfInBounds_ne hd, this]
theorem Ft.same {ρ ρ' : List Int} {η η' : Env} {t : List SV} {a : Act} (h : Ft ρ η t a) (he : ∀ x ∈ t, denV ρ' η' x = denV ρ η x) : Ft ρ' η' t a :=
  ⟨h.len, fun i v hv hn => by rw [he v (List.mem_of_getElem? hv)]; exact h.at_ i v hv hn, h.defers⟩
theorem Ft.skip {ρ : List Int} {η : Env} {t : List SV} {a : Act} (h : Ft ρ η t a) (d : Option Tmp) : Ft ρ η (setT t d .undef) (a.put d Go.undef) := h.set d .undef

/-- A block that is new, or in the place of one that has been given up. -/
def Frs (n0 : Nat) (wd : List Nat) (nb0 : Nat) (η0 : Env) (b : Nat) : Prop := n0 ≤ b ∨ ∃ j, j ∈ wd ∧ j < nb0 ∧ b = η0.β j
theorem Frs.more {n0 nb0 b : Nat} {wd wd' : List Nat} {η0 : Env} (h : Frs n0 wd nb0 η0 b) (hs : ∀ j, j ∈ wd → j < nb0 → j ∈ wd') : Frs n0 wd' nb0 η0 b := by
  rcases h with h | ⟨j, h1, h2, h3⟩
  · exact .inl h
  · exact .inr ⟨j, hs j h1 h2, h2, h3⟩
theorem Frs.ne {n0 nb0 b c : Nat} {wd : List Nat} {η0 : Env} (h : Frs n0 wd nb0 η0 b) (hc : c < n0) (hw : ∀ i ∈ wd, i < nb0 → c ≠ η0.β i) : c ≠ b := by
  rcases h with h | ⟨j, h1, h2, h3⟩
  · omega
  · rw [h3]; exact hw j h1 h2
/-- How a state of the evaluator speaks of a frame and a memory, and of what they were at the start. -/
structure Inv (Φ : Sig) (nb0 : Nat) (η0 : Env) (w0 : World) (ρ0 ρ : List Int) (η : Env) (σ : St) (a : Act) (w : World) : Prop where
  len : ρ.length = σ.n
  pre : ∃ s, ρ = ρ0 ++ s
  fx : FxOK ρ σ.fx
  ft : Ft ρ η σ.t a
  rb : Rb Φ ρ η (getB σ.b) w
  nb : nb0 ≤ σ.b.length
  env : sameEnv nb0 η0 η
  size : w0.heap.size ≤ w.heap.size
  io : SameIO w0 w
  newb : ∀ i, nb0 ≤ i → (getB σ.b i).isSome = true → Frs w0.heap.size σ.wd nb0 η0 (η.β i)
  newo : ∀ i, nb0 ≤ i → i < σ.b.length → Frs w0.heap.size σ.wd nb0 η0 (η.β i)
  frame : ∀ b, b < w0.heap.size → (∀ i ∈ σ.wd, i < nb0 → b ≠ η0.β i) → w.heap[b]? = w0.heap[b]?
  cs : CsOK Φ ρ σ.n σ.cs
  cl : σ.cl = true
theorem clL_mem {n : Nat} {p : Nat → Bool} : ∀ {l : List SV}, clL n p l = true → ∀ x ∈ l, clV n p x = true
  | [], _, _, h => by cases h
  | v :: l, hc, x, h => by
    simp only [clL, Bool.and_eq_true] at hc
    rcases List.mem_cons.1 h with rfl | h
    · exact hc.1
    · exact clL_mem hc.2 x h
theorem clL_map {n : Nat} {p : Nat → Bool} {l : List SV} (h : clL n p l = true) {ρ : List Int} {η η' : Env} (hl : n ≤ ρ.length) (he : agree p η η') (s : List Int) : l.map (denV (ρ ++ s) η') = l.map (denV ρ η) :=
  List.map_congr_left fun x hx => clV_ok x (clL_mem h x hx) hl he s
theorem getB_cl {n : Nat} {p : Nat → Bool} {b : Blks} (h : clBs n p b = true) {i : Nat} {T : TypeId} {cs : List SV} (hi : getB b i = some (T, cs)) : clL n p cs = true := by
  unfold getB at hi
  by_cases hl : i < b.length
  · have hm : b[i] ∈ b := List.getElem_mem hl
    have := List.all_eq_true.1 h _ hm
    simp [hl] at hi
    rw [hi] at this
    exact this
  · simp [hl] at hi
/-- More variables, and other places for blocks that are not yet there, change nothing. -/
theorem Inv.more {nb0 : Nat} {η0 : Env} {w0 : World} {ρ0 ρ : List Int} {η : Env} {σ : St} {a : Act} {w : World} (h : Inv Φ nb0 η0 w0 ρ0 ρ η σ a w) (hc : σ.cl = true) (s : List Int) :
    Inv Φ nb0 η0 w0 ρ0 (ρ ++ s) η { σ with n := σ.n + s.length } a w := by
  simp only [St.cl, Bool.and_eq_true] at hc
  obtain ⟨⟨h1, h2⟩, h3⟩ := hc
  have hl : σ.n ≤ ρ.length := by have := h.len; omega
  have he : sameEnv σ.b.length η η := .refl _ _
  have hc0 : St.cl { σ with n := σ.n + s.length } = true := St.cl_more (by simp only [St.cl, Bool.and_eq_true]; exact ⟨⟨h1, h2⟩, h3⟩)
  exact {
    cl := hc0
    len := by simp [h.len]
    pre := by obtain ⟨s', e⟩ := h.pre; exact ⟨s' ++ s, by rw [e, List.append_assoc]⟩
    fx := clFx_ok h3 hl s h.fx
    ft := h.ft.same fun x hx => clV_ok x (clL_mem h1 x hx) hl he s
    rb := { al := h.rb.al, pf := by { obtain ⟨s', e⟩ := h.rb.pf; exact ⟨s' ++ s, by rw [e, List.append_assoc]⟩ }, gh := h.rb.gh, ap := h.rb.ap, holds := fun i T cs hi => by { rw [clL_map (getB_cl h2 hi) hl he s]; exact h.rb.holds i T cs hi }, inj := h.rb.inj }
    nb := h.nb, env := h.env, size := h.size, io := h.io, newb := h.newb, newo := h.newo, frame := h.frame, cs := h.cs.more hl s s.length }
/-- An operation has been carried out. -/
theorem Inv.put {nb0 : Nat} {η0 : Env} {w0 : World} {ρ0 ρ : List Int} {η η' : Env} {σ : St} {a : Act} {w w' : World} {o : Oper} {r : Res}
    (h : Inv Φ nb0 η0 w0 ρ0 ρ η { σ with n := σ.n + calN r.cal } a w) (hloc : resLoc σ r = true) (hasr : ∀ y ∈ r.asr, denB ρ y = true)
    (hcs : CsOK Φ ρ (σ.n + calN r.cal) (addC σ.n r.cal σ.cs)) (hrng : isCall o.op = true → ∀ p ∈ r.rng, p.2.1 ≤ den ρ p.1 ∧ den ρ p.1 ≤ p.2.2) (hE : Eff ρ η η' (getB σ.b) σ.b.length r w w') :
    Inv Φ nb0 η0 w0 ρ0 ρ η' (σ.put o r) (a.put o.dst (denV ρ η' r.v)) w' := by
  have hcl : r.nn = 0 ∨ (St.cl { σ with n := σ.n + calN r.cal } = true) := .inr h.cl
  have hsame : sameEnv σ.b.length η η' := ⟨hE.al, fun i hi => hE.same i (.inl (ltB_iff.1 hi))⟩
  -- what was known denotes what it denoted
  have hdT : ∀ x ∈ σ.t, denV ρ η' x = denV ρ η x := by
    rcases hcl with h0 | h0
    · rw [hE.eqEnv h0]; exact fun _ _ => rfl
    · simp only [St.cl, Bool.and_eq_true] at h0
      intro x hx
      have := clV_ok x (clL_mem h0.1.1 x hx) (show σ.n + calN r.cal ≤ ρ.length by have := h.len; simp only at this; omega) hsame []
      simpa using this
  have hdB : ∀ i T cs, getB σ.b i = some (T, cs) → cs.map (denV ρ η') = cs.map (denV ρ η) := by
    intro i T cs hi
    rcases hcl with h0 | h0
    · rw [hE.eqEnv h0]
    · simp only [St.cl, Bool.and_eq_true] at h0
      have := clL_map (getB_cl h0.1.2 hi) (show σ.n + calN r.cal ≤ ρ.length by have := h.len; simp only at this; omega) hsame []
      simpa using this
  have hlt : ∀ i, (getB σ.b i).isSome = true → i < σ.b.length := fun i hi => by
    rcases Nat.lt_or_ge i σ.b.length with hl | hl
    · exact hl
    · rw [getB_none hl] at hi; simp at hi
  have hheap : ∀ i, (getB σ.b i).isSome = true → η.β i < w.heap.size := fun i hi => by
    obtain ⟨⟨T, cs⟩, e⟩ := Option.isSome_iff_exists.1 hi
    exact (h.rb.holds i T cs e).lt
  -- the block's entry behind the operation: the operation's own, or the old one
  have entry : ∀ i, (∃ c, (i, c) ∈ r.wr ∧ getB (putB σ.b r.nn r.wr) i = c) ∨ ((∀ p ∈ r.wr, p.1 ≠ i) ∧ getB (putB σ.b r.nn r.wr) i = getB σ.b i) := by
    intro i
    by_cases hi : ∃ p ∈ r.wr, p.1 = i
    · obtain ⟨⟨j, c⟩, hp, rfl⟩ := hi
      refine .inl ⟨c, hp, setBs_here _ _ _ _ hE.once hp ?_⟩
      rcases hE.known _ hp with hk | hk
      · simp; exact Nat.lt_of_lt_of_le hk.1 (Nat.le_add_right _ _)
      · simp; exact hk.2
    · have hi' : ∀ p ∈ r.wr, p.1 ≠ i := fun p hp he => hi ⟨p, hp, he⟩
      exact .inr ⟨hi', by rw [putB, setBs_other _ _ _ hi', getB_append]⟩
  have newlt : ∀ i, (getB (putB σ.b r.nn r.wr) i).isSome = true → i < σ.b.length + r.nn := fun i hi => by
    rcases Nat.lt_or_ge i (σ.b.length + r.nn) with hl | hl
    · exact hl
    · rw [getB_none (by rw [putB_length]; exact hl)] at hi; simp at hi
  have gone : ∀ i j, (getB (putB σ.b r.nn r.wr) i).isSome = true → (j, none) ∈ r.wr → i ≠ j := fun i j hi hj e => by
    subst e
    rcases entry i with ⟨c, hc, he⟩ | ⟨hno, _⟩
    · have : getB (putB σ.b r.nn r.wr) i = none := setBs_here _ _ _ _ hE.once hj (by
        rcases hE.known _ hj with hk | hk
        · simp; exact Nat.lt_of_lt_of_le hk.1 (Nat.le_add_right _ _)
        · simp; exact hk.2)
      rw [this] at hi; cases hi
    · exact hno _ hj rfl
  have where_ : ∀ i, (getB (putB σ.b r.nn r.wr) i).isSome = true → (i < σ.b.length ∧ (getB σ.b i).isSome = true ∧ η'.β i = η.β i) ∨ (σ.b.length ≤ i ∧ i < σ.b.length + r.nn ∧ (w.heap.size ≤ η'.β i ∨ ∃ j, (j, none) ∈ r.wr ∧ j < σ.b.length ∧ (getB σ.b j).isSome = true ∧ η'.β i = η.β j)) := by
    intro i hi
    rcases Nat.lt_or_ge i σ.b.length with hl | hl
    · refine .inl ⟨hl, ?_, (hE.same i (.inl hl)).1⟩
      rcases entry i with ⟨c, hc, _⟩ | ⟨_, he⟩
      · rcases hE.known _ hc with hk | hk
        · exact hk.2
        · have := hk.1; simp only at this; omega
      · rw [← he]; exact hi
    · exact .inr ⟨hl, newlt i hi, hE.fresh i hl (newlt i hi)⟩
  have mwd : ∀ j, j ∈ σ.wd → j < nb0 → j ∈ (σ.put o r).wd := fun j hj _ => List.mem_append_right _ hj
  have anew : ∀ i, (w.heap.size ≤ η'.β i ∨ ∃ j, (j, none) ∈ r.wr ∧ j < σ.b.length ∧ (getB σ.b j).isSome = true ∧ η'.β i = η.β j) → Frs w0.heap.size (σ.put o r).wd nb0 η0 (η'.β i) := fun i hi => by
    rcases hi with hi | ⟨j, j1, j2, j3, j4⟩
    · exact .inl (Nat.le_trans h.size hi)
    · rw [j4]
      by_cases hj : j < nb0
      · rw [(h.env.lt j hj).1]
        exact .inr ⟨j, List.mem_append_left _ (List.mem_map.2 ⟨_, j1, rfl⟩), hj, rfl⟩
      · exact (h.newb j (by omega) j3).more mwd
  exact {
    cl := put_cl h.cl hloc
    cs := hcs
    len := h.len
    pre := h.pre
    fx := by
      have hf := assumeL_ok r.asr σ.fx h.fx hasr
      simp only [St.put]
      split
      · rename_i hc
        exact addR_ok (hrng hc) hf
      · exact hf
    ft := (h.ft.same hdT).set o.dst r.v
    rb := {
      al := hE.al.trans h.rb.al
      pf := h.rb.pf
      gh := Φ.stable _ _ h.rb.gh fun b hb => hE.frame b (Φ.lt _ h.rb.gh b hb) fun p hp hp1 he => by
        rcases hE.known _ hp with hk | hk
        · exact h.rb.ap _ hk.2 (he ▸ hb)
        · omega
      ap := fun i hi hm => by
        rcases where_ i hi with ⟨_, h2, h3⟩ | ⟨_, _, h3⟩
        · exact h.rb.ap i h2 (h3 ▸ hm)
        · rcases h3 with h3 | ⟨j, _, _, g2, g3⟩
          · have := Φ.lt _ h.rb.gh _ hm
            omega
          · exact h.rb.ap j g2 (g3 ▸ hm)
      holds := fun i T cs hi => by
        rcases entry i with ⟨c, hc, he⟩ | ⟨hno, he⟩
        · have hi' : getB (putB σ.b r.nn r.wr) i = some (T, cs) := hi
          rw [he] at hi'
          subst hi'
          exact hE.made i T cs hc
        · have hi' : getB (putB σ.b r.nn r.wr) i = some (T, cs) := hi
          rw [he] at hi'
          have hk : (getB σ.b i).isSome = true := by rw [hi']; rfl
          rw [hdB i T cs hi', (hE.same i (.inl (hlt i hk))).1]
          obtain ⟨rest, hr, hk2⟩ := h.rb.holds i T cs hi'
          rw [(hE.same i (.inl (hlt i hk))).2]
          refine ⟨rest, ?_, hk2⟩
          rw [hE.frame _ (hheap i hk) fun p hp hp1 => h.rb.inj i p.1 hk (by
            rcases hE.known _ hp with hk' | hk'
            · exact hk'.2
            · omega) (Ne.symm (hno p hp))]
          exact hr
      inj := fun i j hi hj hne => by
        rcases where_ i hi with ⟨_, h2, h3⟩ | ⟨h1, h2, h3⟩ <;> rcases where_ j hj with ⟨_, g2, g3⟩ | ⟨g1, g2, g3⟩
        · rw [h3, g3]; exact h.rb.inj i j h2 g2 hne
        · rcases g3 with g3 | ⟨k, k1, _, k2, k3⟩
          · have := hheap i h2; omega
          · rw [h3, k3]; exact h.rb.inj i k h2 k2 (gone i k hi k1)
        · rcases h3 with h3 | ⟨k, k1, _, k2, k3⟩
          · have := hheap j g2; omega
          · rw [g3, k3]; exact (h.rb.inj j k g2 k2 (gone j k hj k1)).symm
        · exact hE.apart i j h1 h2 g1 g2 hne }
    nb := by have := h.nb; simp only at this; simp only [St.put, putB_length]; omega
    env := h.env.trans (hsame.sub fun i hi => ltB_iff.2 (by have := h.nb; simp only at this; have := ltB_iff.1 hi; omega))
    size := Nat.le_trans h.size hE.size
    io := h.io.trans hE.io
    newb := fun i hi hs => by
      rcases where_ i hs with ⟨_, h2, h3⟩ | ⟨_, _, h3⟩
      · rw [h3]; exact (h.newb i hi h2).more mwd
      · exact anew i h3
    newo := fun i hi hl => by
      rcases Nat.lt_or_ge i σ.b.length with hlt | hge
      · rw [(hE.same i (.inl hlt)).1]; exact (h.newo i hi hlt).more mwd
      · exact anew i (hE.fresh i hge (by simpa only [St.put, putB_length] using hl))
    frame := fun b hb hw => by
      rw [hE.frame b (by have := h.size; omega) fun p hp hp1 => ?_]
      · exact h.frame b hb fun i hi => hw i (List.mem_append_right _ hi)
      · by_cases hp0 : p.1 < nb0
        · rw [(h.env.lt p.1 hp0).1]
          exact hw p.1 (List.mem_append_left _ (List.mem_map.2 ⟨p, hp, rfl⟩)) hp0
        · have hk : (getB σ.b p.1).isSome = true := by
            rcases hE.known _ hp with hk' | hk'
            · exact hk'.2
            · omega
          exact (h.newb p.1 (by omega) hk).ne hb fun i hi => hw i (List.mem_append_right _ hi) }
/-- An operation has been passed over. -/
def St.skip (σ : St) (o : Oper) : St := { σ with t := setT σ.t o.dst .undef }
theorem skip_cl {σ : St} (h : σ.cl = true) (o : Oper) : (σ.skip o).cl = true := by
  simp only [St.cl, Bool.and_eq_true] at h ⊢
  exact ⟨⟨setT_cl h.1.1 rfl _, h.1.2⟩, h.2⟩
theorem know_cl {σ : St} (h : σ.cl = true) {b : B} (hb : clB σ.n b = true) (t : Bool) : St.cl { σ with fx := assume σ.fx b t } = true := by
  simp only [St.cl, Bool.and_eq_true] at h ⊢
  exact ⟨h.1, assume_cl b _ _ h.2 hb⟩
theorem Inv.skip {nb0 : Nat} {η0 : Env} {w0 : World} {ρ0 ρ : List Int} {η : Env} {σ : St} {a : Act} {w : World} (h : Inv Φ nb0 η0 w0 ρ0 ρ η σ a w) (o : Oper) :
    Inv Φ nb0 η0 w0 ρ0 ρ η (σ.skip o) (a.put o.dst Go.undef) w :=
  { len := h.len, pre := h.pre, fx := h.fx, ft := h.ft.skip o.dst, rb := h.rb, nb := h.nb, env := h.env, size := h.size, io := h.io, newb := h.newb, newo := h.newo, frame := h.frame, cs := h.cs, cl := skip_cl h.cl o }
theorem Inv.know {nb0 : Nat} {η0 : Env} {w0 : World} {ρ0 ρ : List Int} {η : Env} {σ : St} {a : Act} {w : World} (h : Inv Φ nb0 η0 w0 ρ0 ρ η σ a w) {b : B} {t : Bool} (hb : denB ρ b = t) (hbc : clB σ.n b = true) :
    Inv Φ nb0 η0 w0 ρ0 ρ η { σ with fx := assume σ.fx b t } a w :=
  { len := h.len, pre := h.pre, fx := assume_ok b σ.fx t h.fx hb, ft := h.ft, rb := h.rb, nb := h.nb, env := h.env, size := h.size, io := h.io, newb := h.newb, newo := h.newo, frame := h.frame, cs := h.cs, cl := know_cl h.cl hbc t }

/-! ### Trees -/
def RngOK : List (Int × Int) → List Int → Prop
  | [], _ => True
  | (l, h) :: r, x :: xs => (l ≤ x ∧ x ≤ h) ∧ RngOK r xs
  | _ :: _, [] => False
/-- The arguments are in their ranges. -/
def askR : List (Int × Int) → List E → List B
  | (l, h) :: r, e :: es => .le (.lit l) e :: .le e (.lit h) :: askR r es
  | _, _ => []
def rngE (n : Nat) : List (Int × Int) → List (E × Int × Int)
  | [] => []
  | (l, h) :: r => (.v n, l, h) :: rngE (n + 1) r
def askN (fx : Fx) : List B → List B
  | [] => []
  | b :: l => need fx b ++ askN fx l
theorem askN_ok {ρ : List Int} {fx : Fx} (hf : FxOK ρ fx) : ∀ {l : List B}, (∀ x ∈ askN fx l, denB ρ x = true) → ∀ x ∈ l, denB ρ x = true
  | [], _, _, h => by cases h
  | b :: l, ha, x, h => by
    simp only [askN, List.mem_append] at ha
    rcases List.mem_cons.1 h with rfl | h
    · exact need_ok hf fun y hy => ha y (.inl hy)
    · exact askN_ok hf (fun y hy => ha y (.inr hy)) x h
theorem rngE_mem {n : Nat} : ∀ {l : List (Int × Int)} {p : E × Int × Int}, p ∈ rngE n l → ∃ i a b, l[i]? = some (a, b) ∧ p = (.v (n + i), a, b)
  | [], _, h => by cases h
  | (a, b) :: l, p, h => by
    simp only [rngE] at h
    rcases List.mem_cons.1 h with rfl | h
    · exact ⟨0, a, b, rfl, rfl⟩
    · obtain ⟨i, a', b', h1, h2⟩ := rngE_mem h
      exact ⟨i + 1, a', b', by simpa using h1, by rw [h2]; congr 2; omega⟩
inductive T (α : Type) where
  | leaf (a : α) | ite (b : B) (t e : T α) | asr (b : B) (t : T α) | call (k : Nat) (es : List E) (m : Nat) (t : T α) | bad
  | loop (id : Nat) (es : List E) (rg : List (Int × Int)) (t : T α) | again (id n : Nat) (es : List E)
def fit (m : Nat) (l : List Int) : List Int := (List.range m).map fun i => l.getD i 0
def T.ok {α : Type} (Φ : Sig) (L : List Int → α → Prop) : List Int → T α → Prop
  | ρ, .leaf a => L ρ a
  | ρ, .ite b t e => (denB ρ b = true → t.ok Φ L ρ) ∧ (denB ρ b = false → e.ok Φ L ρ)
  | ρ, .asr b t => denB ρ b = true ∧ t.ok Φ L ρ
  | ρ, .call k es m t => t.ok Φ L (ρ ++ fit m (Φ k (es.map (den ρ))))
  | ρ, .loop id es rg t => Φ.js id ρ (es.map (den ρ)) ∧ ∀ xs, xs.length = es.length → RngOK rg xs → Φ.js id ρ xs → t.ok Φ L (ρ ++ xs)
  | ρ, .again id n es => Φ.js id (ρ.take n) (es.map (den ρ))
  | _, .bad => False
def wrapA {α : Type} : List B → T α → T α
  | [], t => t
  | b :: l, t => .asr b (wrapA l t)
def wrapC {α : Type} : Option (Nat × List E × Nat) → T α → T α
  | none, t => t
  | some (k, es, m), t => .call k es m t
theorem wrapA_ok {α : Type} {Φ : Sig} {L : List Int → α → Prop} {ρ : List Int} : ∀ {l : List B} {t : T α}, (wrapA l t).ok Φ L ρ → (∀ x ∈ l, denB ρ x = true) ∧ t.ok Φ L ρ
  | [], _, h => ⟨(fun _ hx => by cases hx), h⟩
  | b :: l, t, h => by
    have h2 := wrapA_ok (l := l) h.2
    refine ⟨fun x hx => ?_, h2.2⟩
    rcases List.mem_cons.1 hx with rfl | hx
    · exact h.1
    · exact h2.1 x hx
def resL (Φ : Sig) (ρ : List Int) : Option (Nat × List E × Nat) → List Int
  | none => []
  | some (k, es, m) => fit m (Φ k (es.map (den ρ)))
theorem wrapC_ok {α : Type} {Φ : Sig} {L : List Int → α → Prop} {ρ : List Int} {c : Option (Nat × List E × Nat)} {t : T α} (h : (wrapC c t).ok Φ L ρ) : t.ok Φ L (ρ ++ resL Φ ρ c) := by
  cases c with
  | none => simp only [resL, List.append_nil]; exact h
  | some p => obtain ⟨k, es, m⟩ := p; exact h
theorem resL_length {Φ : Sig} {ρ : List Int} {c : Option (Nat × List E × Nat)} : (resL Φ ρ c).length = calN c := by
  cases c with
  | none => rfl
  | some p => obtain ⟨k, es, m⟩ := p; simp [resL, fit, calN]
def esOf : Option (Nat × List E × Nat) → List E
  | some (_, es, _) => es
  | none => []
/-- What must be asked of the state ahead of a call, and of an operation that lays blocks. -/
def resCl (σ : St) (r : Res) : Bool := resLoc σ r && match r.cal with
  | some (_, es, _) => es.all (clE σ.n) && r.asr.all (clB σ.n)
  | none => true
theorem CalOK_of {Φ : Sig} {ρ : List Int} {n : Nat} {c : Option (Nat × List E × Nat)} (hn : ρ.length = n) (hc : (esOf c).all (clE n) = true) : CalOK Φ (ρ ++ resL Φ ρ c) n c := by
  intro k es m hk i hi
  subst hk
  have he : es.map (den (ρ ++ resL Φ ρ (some (k, es, m)))) = es.map (den ρ) :=
    List.map_congr_left fun e he => clE_ok (List.all_eq_true.1 hc e he) (by omega) _
  rw [he]
  simp [resL, fit, List.getD_eq_getElem?_getD, ← hn, hi]

/-! ### Operations one after the other -/
def opdF (fx : Fx) (t : List SV) (y : Operand) : Option SV := match opd t y with
  | some v => some (bare fx v)
  | none => none
theorem opdF_ok {fx : Fx} {ρ : List Int} {η : Env} {t : List SV} {a : Act} (hf : FxOK ρ fx) (h : Ft ρ η t a) {x : Operand} {v : SV} (hx : opdF fx t x = some v) : a.eval x = denV ρ η v := by
  unfold opdF at hx
  split at hx
  · rename_i u hu
    simp only [Option.some.injEq] at hx; subst hx
    rw [bare_ok hf]; exact opd_ok h hu
  · simp at hx
/-- A call whose callee is walked into: the function, the arguments. -/
def inlOf (x : Operand → Option SV) : Op → Option (FuncId × List SV)
  | .call { callee := .value f, args := as, .. } => match x f, opdL x as.toList with
    | some (.fn f first cap), some as => some (f, first ++ as ++ cap)
    | _, _ => none
  | _ => none
abbrev Inl (α : Type) := FuncId → List SV → St → (SV → St → T α) → T α
/-- Blocks that nobody can reach behind a call are given up. -/
def gcB (n0 n : Nat) (v : SV) (b : Blks) : Blks := if clV n (ltB n0) v && clBs n (ltB n0) (b.take n0) then b.take n0 ++ List.replicate (b.length - n0) none else b
theorem gcB_length (n0 n : Nat) (v : SV) (b : Blks) : (gcB n0 n v b).length = b.length := by
  unfold gcB
  split
  · simp; omega
  · rfl
theorem gcB_get {n0 n : Nat} {v : SV} {b : Blks} {i : Nat} {c : TypeId × List SV} (h : getB (gcB n0 n v b) i = some c) : getB b i = some c := by
  unfold gcB at h
  split at h
  · unfold getB at h ⊢
    rw [List.getD_eq_getElem?_getD] at h ⊢
    rcases Nat.lt_or_ge i (b.take n0).length with hl | hl
    · rw [List.getElem?_append_left hl, List.getElem?_take_of_lt (by simp at hl; omega)] at h
      exact h
    · rw [List.getElem?_append_right hl] at h
      rw [List.getElem?_replicate] at h
      split at h <;> simp at h
  · exact h
/-- Behind the callee: the caller's frame again. -/
def St.back (σ σ' : St) (o : Oper) (v : SV) : St := { σ' with t := setT σ.t o.dst v, b := gcB σ.b.length σ'.n v σ'.b, wd := σ'.wd ++ σ.wd }
/-- The variables that hold what the same call gave. -/
def eqEs : List E → List E → Bool
  | [], [] => true
  | a :: l, b :: r => a.eqb b && eqEs l r
  | _, _ => false
theorem eqEs_eq : ∀ {l r : List E}, eqEs l r = true → l = r
  | [], [], _ => rfl
  | a :: l, b :: r, h => by
    simp only [eqEs, Bool.and_eq_true] at h
    rw [E.eqb_eq h.1, eqEs_eq h.2]
  | [], _ :: _, h => by simp [eqEs] at h
  | _ :: _, [], h => by simp [eqEs] at h
def oldC (cs : Cs) : Option (Nat × List E × Nat) → Option Nat
  | none => none
  | some (k, es, m) => match cs.find? (fun p => p.1 == k && p.2.2.2 == m && eqEs p.2.1 es) with
    | some p => some p.2.2.1
    | none => none
theorem oldC_ok {ρ : List Int} {n n0 : Nat} {cs : Cs} {c : Option (Nat × List E × Nat)} (h : CsOK Φ ρ n cs) (ho : oldC cs c = some n0) : CalOK Φ ρ n0 c := by
  unfold oldC at ho
  split at ho
  · cases ho
  · split at ho
    · rename_i k es m p hp
      simp only [Option.some.injEq] at ho; subst ho
      have h1 := List.find?_some hp
      simp only [Bool.and_eq_true, beq_iff_eq] at h1
      have := (h p (List.mem_of_find?_eq_some hp)).2.2
      rw [h1.1.1, h1.1.2, eqEs_eq h1.2] at this
      exact this
    · cases ho
/-- A call whose results are known: no new variables. -/
def St.putO (σ : St) (o : Oper) (r : Res) : St := σ.put o { r with cal := none, rng := [] }
/-! ### The same, made plain -/
section
universe u
variable {β : Type u}
def fId {α : Type} (a : α) (k : α → β) : β := k a
theorem fId_eq {α : Type} (a : α) (k : α → β) : fId a k = k a := rfl
def setF : List SV → Nat → SV → (List SV → β) → β
  | [], _, _, k => k []
  | _ :: l, 0, v, k => k (v :: l)
  | a :: l, d + 1, v, k => setF l d v fun l => k (a :: l)
theorem setF_eq : ∀ (l : List SV) (d : Nat) (v : SV) (k : List SV → β), setF l d v k = k (l.set d v)
  | [], _, _, _ => rfl
  | _ :: _, 0, _, _ => rfl
  | a :: l, d + 1, v, k => by simp only [setF, List.set_cons_succ]; rw [setF_eq l]
def setTF (t : List SV) (d : Option Tmp) (v : SV) (k : List SV → β) : β := match d with
  | some d => setF t d v k
  | none => k t
@[simp] theorem setTF_eq (t : List SV) (d : Option Tmp) (v : SV) (k : List SV → β) : setTF t d v k = k (setT t d v) := by
  cases d
  · rfl
  · exact setF_eq _ _ _ _
def putBF (b : Blks) (nn : Nat) (wr : List (Nat × Option (TypeId × List SV))) (k : Blks → β) : β := match nn, wr with
  | 0, [] => k b
  | nn, wr => fL fId (putB b nn wr) k
@[simp] theorem putBF_eq (b : Blks) (nn : Nat) (wr : List (Nat × Option (TypeId × List SV))) (k : Blks → β) : putBF b nn wr k = k (putB b nn wr) := by
  unfold putBF
  split
  · simp [putB, setBs]
  · rw [fL_eq fId_eq]
def fxF (c : Bool) (asr : List B) (rng : List (E × Int × Int)) (fx : Fx) (k : Fx → β) : β := match asr, rng with
  | [], [] => k fx
  | asr, rng => fFx (if c then addR rng (assumeL fx asr) else assumeL fx asr) k
@[simp] theorem fxF_eq (c : Bool) (asr : List B) (rng : List (E × Int × Int)) (fx : Fx) (k : Fx → β) : fxF c asr rng fx k = k (if c then addR rng (assumeL fx asr) else assumeL fx asr) := by
  unfold fxF
  split
  · cases c <;> rfl
  · rw [fFx_eq]
def wdF (l : List (Nat × Option (TypeId × List SV))) (wd : List Nat) (k : List Nat → β) : β := match l with
  | [] => k wd
  | l => fL fN (l.map (·.1) ++ wd) k
@[simp] theorem wdF_eq (l : List (Nat × Option (TypeId × List SV))) (wd : List Nat) (k : List Nat → β) : wdF l wd k = k (l.map (·.1) ++ wd) := by
  unfold wdF
  split
  · rfl
  · rw [fL_eq fN_eq]
def addCF (n : Nat) (c : Option (Nat × List E × Nat)) (cs : Cs) (k : Cs → β) : β := match c with
  | none => k cs
  | c => fL fId (addC n c cs) k
@[simp] theorem addCF_eq (n : Nat) (c : Option (Nat × List E × Nat)) (cs : Cs) (k : Cs → β) : addCF n c cs k = k (addC n c cs) := by
  unfold addCF
  split
  · rfl
  · rw [fL_eq fId_eq]
def St.putF (σ : St) (o : Oper) (r : Res) (k : St → β) : β := match σ, r with
  | ⟨t, b, fx, n, wd, cs⟩, ⟨v, wr, nn, asr, cal, rng⟩ => setTF t o.dst v fun t' => putBF b nn wr fun b' => fxF (isCall o.op) asr rng fx fun fx' => fN (n + calN cal) fun n' => wdF wr wd fun wd' => addCF n cal cs fun cs' => k ⟨t', b', fx', n', wd', cs'⟩
@[simp] theorem St.putF_eq (σ : St) (o : Oper) (r : Res) (k : St → β) : σ.putF o r k = k (σ.put o r) := by
  obtain ⟨t, b, fx, n, wd, cs⟩ := σ; obtain ⟨v, wr, nn, asr, cal, rng⟩ := r
  simp only [St.putF, setTF_eq, putBF_eq, fxF_eq, fN_eq, wdF_eq, addCF_eq]; rfl
def St.skipF (σ : St) (o : Oper) (k : St → β) : β := match σ with
  | ⟨t, b, fx, n, wd, cs⟩ => setTF t o.dst .undef fun t' => k ⟨t', b, fx, n, wd, cs⟩
@[simp] theorem St.skipF_eq (σ : St) (o : Oper) (k : St → β) : σ.skipF o k = k (σ.skip o) := by
  obtain ⟨t, b, fx, n, wd, cs⟩ := σ
  simp only [St.skipF, setTF_eq]; rfl
def St.backF (σ σ' : St) (o : Oper) (v : SV) (k : St → β) : β := match σ' with
  | ⟨_, b, fx, n, wd, cs⟩ => fV v fun v => setTF σ.t o.dst v fun t' => fL fId (gcB σ.b.length n v b) fun b' => fL fN (wd ++ σ.wd) fun wd' => k ⟨t', b', fx, n, wd', cs⟩
@[simp] theorem St.backF_eq (σ σ' : St) (o : Oper) (v : SV) (k : St → β) : σ.backF σ' o v k = k (σ.back σ' o v) := by
  obtain ⟨t, b, fx, n, wd, cs⟩ := σ'
  simp only [St.backF, setTF_eq]
  rw [fV_eq, fL_eq fId_eq, fL_eq fN_eq]; rfl
def St.knowF (σ : St) (g : B) (v : Bool) (k : St → β) : β := fFx (assume σ.fx g v) fun fx => k { σ with fx := fx }
@[simp] theorem St.knowF_eq (σ : St) (g : B) (v : Bool) (k : St → β) : σ.knowF g v k = k { σ with fx := assume σ.fx g v } := by simp [St.knowF]
end
section
variable (P : Program) (C : Ctx) (ops : Array Oper) {α : Type} (inl : Inl α)
def run1 (σ : St) (o : Oper) (k : St → T α) : T α := match evOp P C σ.fx σ.n σ.b.length (getB σ.b) (opdF σ.fx σ.t) o.op with
  | some r => fRes r fun r => match oldC σ.cs r.cal with
    | some n0 => match evOp P C σ.fx n0 σ.b.length (getB σ.b) (opdF σ.fx σ.t) o.op with
      | some r' => fRes r' fun r' => if (oldC σ.cs r'.cal == some n0) && resLoc σ { r' with cal := none, rng := [] } then wrapA r'.asr (σ.putF o { r' with cal := none, rng := [] } k) else .bad
      | none => .bad
    | none => if resCl σ r = true then wrapA r.asr (wrapC r.cal (σ.putF o r k)) else .bad
  | none => match inlOf (opdF σ.fx σ.t) o.op with
    | some (f, args) => if clL σ.n (ltB σ.b.length) args = true ∧ BodyOK P f = true then inl f args σ (fun v σ' => if clV σ'.n (ltB σ'.b.length) v = true then σ.backF σ' o v k else .bad) else .bad
    | none => .bad
/-- The test of an operation's guard; 'none': not understood. -/
def guardB (t : List SV) (o : Oper) : Option (Option B) := match o.guard with
  | none => some none
  | some (j, want) => match (ops[j]?).bind (·.dst) with
    | some d => match t[d]? with
      | some (.bool b) => some (some (if want then b else .not b))
      | some (.grd c (.bool b)) => some (some (.and c (if want then b else .not b)))
      | some .undef => some (some (.lit false))
      | _ => none
    | none => none
/-- An operation under a guard that is not decided, if it only makes a value. -/
def grdRes (g : B) (r : Res) : Option Res := match r.wr, r.nn, r.cal with
  | [], 0, none => some { v := .grd g r.v, wr := [], nn := 0, asr := r.asr.map fun b => .or (.not g) b, cal := none, rng := [] }
  | _, _, _ => none
def evSeq : List Oper → St → (St → T α) → T α
  | [], σ, K => K σ
  | o :: l, σ, K => match guardB ops σ.t o with
    | none => .bad
    | some none => run1 P C inl σ o fun σ' => evSeq l σ' K
    | some (some g) => match decB σ.fx g with
      | some true => run1 P C inl σ o fun σ' => evSeq l σ' K
      | some false => σ.skipF o fun σ' => evSeq l σ' K
      | none => fB g fun g => σ.knowF g true fun σg =>
        match (match evOp P C σg.fx σ.n σ.b.length (getB σ.b) (opdF σg.fx σ.t) o.op with | some r => grdRes g r | none => none) with
        | some r => fRes r fun r => if clV σ.n (ltB σ.b.length) r.v = true then wrapA r.asr (setTF σ.t o.dst r.v fun t' => evSeq l { σ with t := t' } K) else .bad
        | none => .ite g (run1 P C inl σg o fun σ' => evSeq l σ' K) (σ.knowF g false fun σn => σn.skipF o fun σ' => evSeq l σ' K)
end

section
variable {P : Program} {C : Ctx} {ops : Array Oper} {α : Type} {Φ : Sig} {L : List Int → α → Prop} {inl : Inl α}
/-- What is asked of the walk into a callee. -/
def InlOK (P : Program) (Φ : Sig) (L : List Int → α → Prop) (inl : Inl α) : Prop :=
  ∀ (f : FuncId) (args : List SV) (σ : St) (K : SV → St → T α) (ρ : List Int) (η : Env) (w : World) (R : Ending → World → Prop), (inl f args σ K).ok Φ L ρ →
    ρ.length = σ.n → FxOK ρ σ.fx → CsOK Φ ρ σ.n σ.cs → Rb Φ ρ η (getB σ.b) w → σ.cl = true → clL σ.n (ltB σ.b.length) args = true →
    (∀ ρ' η' v σ' a' w', (K v σ').ok Φ L ρ' → Inv Φ σ.b.length η w ρ ρ' η' σ' a' w' → R (.returned (denV ρ' η' v)) w') → Calls P f (args.map (denV ρ η)).toArray w R
variable {nb0 : Nat} {η0 : Env} {w0 : World} {ρ0 : List Int}
theorem opdInv {ρ : List Int} {η : Env} {σ : St} {a : Act} {w : World} (h : Inv Φ nb0 η0 w0 ρ0 ρ η σ a w) : ∀ y v, opdF σ.fx σ.t y = some v → a.eval y = denV ρ η v := fun _ _ => opdF_ok h.fx h.ft
theorem Inv.back0 {ρ ρ' : List Int} {η η' : Env} {σ σ' : St} {a a' : Act} {w w' : World} (h : Inv Φ nb0 η0 w0 ρ0 ρ η σ a w) (hc : σ.cl = true) (h' : Inv Φ σ.b.length η w ρ ρ' η' σ' a' w') (o : Oper) (v : SV) (hv : clV σ'.n (ltB σ'.b.length) v = true) :
    Inv Φ nb0 η0 w0 ρ0 ρ' η' { σ' with t := setT σ.t o.dst v, wd := σ'.wd ++ σ.wd } (a.put o.dst (denV ρ' η' v)) w' := by
  obtain ⟨s, rfl⟩ := h'.pre
  simp only [St.cl, Bool.and_eq_true] at hc
  have hl : σ.n ≤ ρ.length := by have := h.len; omega
  have up : ∀ i, Frs w.heap.size σ'.wd σ.b.length η (η'.β i) → Frs w0.heap.size (σ'.wd ++ σ.wd) nb0 η0 (η'.β i) := fun i hi => by
    rcases hi with hi | ⟨j, j1, j2, j3⟩
    · exact .inl (Nat.le_trans h.size hi)
    · rw [j3]
      by_cases hj : j < nb0
      · rw [(h.env.lt j hj).1]
        exact .inr ⟨j, List.mem_append_left _ j1, hj, rfl⟩
      · exact (h.newo j (by omega) j2).more fun j hj _ => List.mem_append_right _ hj
  exact {
    cs := h'.cs
    cl := by
      have hcl' := h'.cl
      simp only [St.cl, Bool.and_eq_true] at hcl' ⊢
      have hnn : σ.n ≤ σ'.n := by have := h.len; have := h'.len; simp only [List.length_append] at this; omega
      exact ⟨⟨setT_cl (clL_sub (ltB_le h'.nb) _ (clL_more hnn _ hc.1.1)) hv _, hcl'.1.2⟩, hcl'.2⟩
    len := h'.len
    pre := by obtain ⟨s', e⟩ := h.pre; exact ⟨s' ++ s, by rw [e, List.append_assoc]⟩
    fx := h'.fx
    ft := (h.ft.same fun x hx => clV_ok x (clL_mem hc.1.1 x hx) hl h'.env s).set o.dst v
    rb := h'.rb
    nb := Nat.le_trans h.nb h'.nb
    env := h.env.trans (h'.env.sub fun i hi => ltB_iff.2 (Nat.lt_of_lt_of_le (ltB_iff.1 hi) h.nb))
    size := Nat.le_trans h.size h'.size
    io := h.io.trans h'.io
    newb := fun i hi hs => by
      rcases Nat.lt_or_ge i σ.b.length with hlt | hge
      · rw [(h'.env.lt i hlt).1]
        by_cases hk : (getB σ.b i).isSome = true
        · exact (h.newb i hi hk).more fun j hj _ => List.mem_append_right _ hj
        · exact (h.newo i hi hlt).more fun j hj _ => List.mem_append_right _ hj
      · exact up i (h'.newb i hge hs)
    newo := fun i hi hl => by
      rcases Nat.lt_or_ge i σ.b.length with hlt | hge
      · rw [(h'.env.lt i hlt).1]; exact (h.newo i hi hlt).more fun j hj _ => List.mem_append_right _ hj
      · exact up i (h'.newo i hge hl)
    frame := fun b hb hw => by
      have hb' : b < w.heap.size := Nat.lt_of_lt_of_le hb h.size
      rw [h'.frame b hb' fun i hi hlt => ?_]
      · exact h.frame b hb fun i hi => hw i (List.mem_append_right _ hi)
      · by_cases hi0 : i < nb0
        · rw [(h.env.lt i hi0).1]; exact hw i (List.mem_append_left _ hi) hi0
        · exact (h.newo i (by omega) hlt).ne hb fun i hi => hw i (List.mem_append_right _ hi) }
/-- Of some blocks no more is said. -/
theorem Inv.fewer {ρ : List Int} {η : Env} {σ : St} {a : Act} {w : World} (h : Inv Φ nb0 η0 w0 ρ0 ρ η σ a w) (b : Blks) (hl : b.length = σ.b.length) (hb : ∀ i c, getB b i = some c → getB σ.b i = some c) (hcb : clBs σ.n (ltB b.length) b = true) :
    Inv Φ nb0 η0 w0 ρ0 ρ η { σ with b := b } a w :=
  have hs : ∀ i, (getB b i).isSome = true → (getB σ.b i).isSome = true := fun i hi => by
    obtain ⟨c, hc⟩ := Option.isSome_iff_exists.1 hi
    rw [hb i c hc]; rfl
  { len := h.len, pre := h.pre, fx := h.fx, ft := h.ft
    rb := { al := h.rb.al, pf := h.rb.pf, gh := h.rb.gh, ap := fun i hi => h.rb.ap i (hs i hi), holds := fun i T cs hi => h.rb.holds i T cs (hb i _ hi), inj := fun i j hi hj => h.rb.inj i j (hs i hi) (hs j hj) }
    nb := by rw [hl]; exact h.nb
    env := h.env, size := h.size, io := h.io
    newb := fun i hi hi' => h.newb i hi (hs i hi')
    newo := fun i hi hi' => h.newo i hi (by rw [← hl]; exact hi')
    frame := h.frame, cs := h.cs
    cl := by
      have hcl := h.cl
      simp only [St.cl, Bool.and_eq_true] at hcl ⊢
      refine ⟨⟨?_, hcb⟩, hcl.2⟩
      rw [hl]; exact hcl.1.1 }
theorem gcB_cl {n0 n : Nat} {v : SV} {b : Blks} {p : Nat → Bool} {m : Nat} (h : clBs m p b = true) : clBs m p (gcB n0 n v b) = true := by
  unfold gcB
  split
  · rw [clBs_iff] at h ⊢
    intro o ho
    rcases List.mem_append.1 ho with ho | ho
    · exact h o (List.mem_of_mem_take ho)
    · rw [List.eq_of_mem_replicate ho]; rfl
  · exact h
theorem Inv.back {ρ ρ' : List Int} {η η' : Env} {σ σ' : St} {a a' : Act} {w w' : World} (h : Inv Φ nb0 η0 w0 ρ0 ρ η σ a w) (hc : σ.cl = true) (h' : Inv Φ σ.b.length η w ρ ρ' η' σ' a' w') (o : Oper) (v : SV) (hv : clV σ'.n (ltB σ'.b.length) v = true) :
    Inv Φ nb0 η0 w0 ρ0 ρ' η' (σ.back σ' o v) (a.put o.dst (denV ρ' η' v)) w' :=
  (h.back0 hc h' o v hv).fewer _ (gcB_length _ _ _ _) (fun _ _ hi => gcB_get hi) (by
    rw [gcB_length]
    refine gcB_cl ?_
    have hcl' := h'.cl
    simp only [St.cl, Bool.and_eq_true] at hcl'
    exact hcl'.1.2)
/-- One operation that is wanted. -/
theorem run1_ok (hC : CtxOK P Φ C) (hI : InlOK P Φ L inl) {ρ : List Int} {η : Env} {σ : St} {a : Act} {w : World} {o : Oper} {k : St → T α} (ht : (run1 P C inl σ o k).ok Φ L ρ) (h : Inv Φ nb0 η0 w0 ρ0 ρ η σ a w)
    {K : Act → World → Prop} {Q : Exit → Act → World → Prop}
    (hK : ∀ ρ' η' a' w' σ', (k σ').ok Φ L ρ' → Inv Φ nb0 η0 w0 ρ0 ρ' η' σ' a' w' → (∃ v, a' = a.put o.dst v) → K a' w') : o.wp P a w K Q := by
  unfold run1 at ht
  simp only [fRes_eq, St.putF_eq, St.backF_eq] at ht
  split at ht
  · rename_i r hr
    split at ht
    · -- the same call has been made before
      rename_i n0 hn0
      split at ht
      · rename_i r1 hr1
        split at ht
        · rename_i hc
          simp only [Bool.and_eq_true, beq_iff_eq] at hc
          obtain ⟨ha, ht⟩ := wrapA_ok ht
          have hco := oldC_ok h.cs hc.1
          refine evOp_ok hC hr1 h.fx hco ha h.rb (fun i hi => getB_none hi) (opdInv h) fun η' w' hE => ?_
          have hp := Inv.put (r := { r1 with cal := none, rng := [] }) (o := o) (σ := σ) (by
            exact { len := h.len, pre := h.pre, fx := h.fx, ft := h.ft, rb := h.rb, nb := h.nb, env := h.env, size := h.size, io := h.io, newb := h.newb, newo := h.newo, frame := h.frame, cs := h.cs, cl := h.cl }) hc.2 ha
            h.cs (fun _ p hp => by cases hp)
            { size := hE.size, io := hE.io, al := hE.al, same := hE.same, frame := hE.frame, made := hE.made, fresh := hE.fresh, apart := hE.apart, known := hE.known, once := hE.once }
          exact hK _ _ _ _ _ ht hp ⟨_, rfl⟩
        · exact ht.elim
      · exact ht.elim
    · rename_i hno
      split at ht
      · rename_i hcl
        obtain ⟨ha, ht⟩ := wrapA_ok ht
        have ht := wrapC_ok ht
        have hn : ρ.length = σ.n := h.len
        cases hcal : r.cal with
        | none =>
          rw [hcal] at ht
          simp only [resL, List.append_nil] at ht
          have h' : Inv Φ nb0 η0 w0 ρ0 ρ η { σ with n := σ.n + calN r.cal } a w := by
            rw [hcal]; exact { len := h.len, pre := h.pre, fx := h.fx, ft := h.ft, rb := h.rb, nb := h.nb, env := h.env, size := h.size, io := h.io, newb := h.newb, newo := h.newo, frame := h.frame, cs := h.cs, cl := h.cl }
          have hloc : resLoc σ r = true := by
            unfold resCl at hcl
            rw [hcal] at hcl
            simpa using hcl
          refine evOp_ok hC hr h.fx (by rw [hcal]; intro k es m he; cases he) ha h.rb (fun i hi => getB_none hi) (opdInv h) fun η' w' hE => ?_
          exact hK _ _ _ _ _ ht (h'.put hloc ha (by rw [hcal]; exact h.cs) (fun hc => evOp_rng hC hr hc h.fx (by rw [hcal]; intro k es m he; cases he) ha h.rb (fun i hi => getB_none hi)) hE) ⟨_, rfl⟩
        | some p =>
          obtain ⟨k', es, m⟩ := p
          unfold resCl at hcl
          rw [hcal] at hcl
          simp only [Bool.and_eq_true] at hcl
          obtain ⟨hloc, hc2, hc3⟩ := hcl
          have hm := h.more h.cl (resL Φ ρ r.cal)
          rw [resL_length] at hm
          have hco : CalOK Φ (ρ ++ resL Φ ρ r.cal) σ.n r.cal := CalOK_of hn (by rw [hcal]; exact hc2)
          have ha' : ∀ y ∈ r.asr, denB (ρ ++ resL Φ ρ r.cal) y = true := fun y hy => by
            rw [clB_ok (List.all_eq_true.1 hc3 y hy) (by omega)]; exact ha y hy
          refine evOp_ok hC hr hm.fx hco ha' hm.rb (fun i hi => getB_none hi) (fun y v hy => opdF_ok hm.fx hm.ft hy) fun η' w' hE => ?_
          exact hK _ _ _ _ _ ht (hm.put hloc ha' (hm.cs.add hco (fun k es m he => by rw [hcal] at he; simp only [Option.some.injEq, Prod.mk.injEq] at he; obtain ⟨rfl, rfl, rfl⟩ := he; exact hc2)) (fun hc => evOp_rng hC hr hc hm.fx hco ha' hm.rb (fun i hi => getB_none hi)) hE) ⟨_, rfl⟩
      · exact ht.elim
  · split at ht
    · rename_i f args hin
      split at ht
      · rename_i hc
        obtain ⟨dst, op, ty, pos, aft, grd⟩ := o
        simp only at hin hK
        unfold inlOf at hin
        split at hin
        · rename_i fo as ctys _
          split at hin
          · rename_i f' first cap as' hfv hasv
            simp only [Option.some.injEq, Prod.mk.injEq] at hin
            obtain ⟨rfl, rfl⟩ := hin
            have hev := opdInv h _ _ hfv
            have he := opdL_ok (opdInv h) _ _ hasv
            have hbody := hc.2
            unfold BodyOK at hbody
            split at hbody
            · rename_i fn hfn
              simp only [Bool.and_eq_true, bne_iff_ne, ne_eq] at hbody
              have hnone : ¬ fn.body = none := by cases hb' : fn.body <;> simp_all
              have hargs : as.map a.eval = (as'.map (denV ρ η)).toArray := by
                apply Array.ext'; simp [he]
              have e0 : ((first ++ as' ++ cap).map (denV ρ η)).toArray = (denL ρ η first).toArray ++ as.map a.eval ++ (denL ρ η cap).toArray := by
                rw [hargs]; simp [denL_map]
              have hrun : (do let d ← resolve a.eval { callee := .value fo, args := as, argTypes := ctys } ty; invoke d.target d.args).run P w =
                  .ok (.enter f' ((first ++ as' ++ cap).map (denV ρ η)).toArray) w := by
                rw [e0]
                simp [resolve, hev, denV, Deferred.ofValue, invoke, callFunc, hfn, hbody.2, hnone]
              unfold Oper.wp execOp
              simp only [hrun, Oper.upon]
              refine hI f' _ σ _ ρ η w _ ht h.len h.fx h.cs h.rb h.cl hc.1 fun ρ' η' v σ' a' w' ht' h' => ?_
              split at ht'
              · rename_i hv
                exact hK _ _ _ _ _ ht' (h.back h.cl h' _ v hv) ⟨_, rfl⟩
              · exact ht'.elim
            · simp at hbody
          · simp at hin
        · simp at hin
      · exact ht.elim
    · exact ht.elim
theorem guardB_ok {ρ : List Int} {η : Env} {t : List SV} {a : Act} (hf : Ft ρ η t a) {o : Oper} {g : Option B} (h : guardB ops t o = some g) :
    Region.wanted o (yielded ops a.tmps) = (match g with | none => true | some b => denB ρ b) := by
  unfold guardB at h
  unfold Region.wanted
  split at h
  · rename_i hg
    simp only [Option.some.injEq] at h; subst h
    simp [hg]
  · rename_i j want hg
    simp only [hg]
    split at h
    · rename_i d hd
      have hy : yielded ops a.tmps j = (match a.tmps[d]? with | some (.bool b) => some b | _ => none) := by unfold yielded; rw [hd]; rfl
      rw [hy]
      split at h
      · rename_i b hb
        simp only [Option.some.injEq] at h; subst h
        rw [hf.at_ _ _ hb rfl]
        simp only [denV]
        cases want <;> cases hbb : denB ρ b <;> simp [denB, hbb]
      · rename_i c b hb
        simp only [Option.some.injEq] at h; subst h
        rw [hf.at_ _ _ hb rfl]
        simp only [denV]
        cases want <;> cases hbb : denB ρ b <;> cases hcc : denB ρ c <;> simp [denB, hbb, hcc, Go.undef]
      · rename_i hb
        simp only [Option.some.injEq] at h; subst h
        rw [hf.at_ _ _ hb rfl]
        simp [denV, Go.undef, denB]
      · simp at h
    · simp at h
theorem guardB_cl {n : Nat} {p : Nat → Bool} {t : List SV} (ht : clL n p t = true) {o : Oper} {g : B} (h : guardB ops t o = some (some g)) : clB n g = true := by
  unfold guardB at h
  split at h
  · simp at h
  · split at h
    · split at h
      · rename_i b hb
        have := clL_mem ht _ (List.mem_of_getElem? hb)
        simp only [clV] at this
        simp only [Option.some.injEq] at h; subst h
        split <;> simpa [clB] using this
      · rename_i c b hb
        have := clL_mem ht _ (List.mem_of_getElem? hb)
        simp only [clV, Bool.and_eq_true] at this
        simp only [Option.some.injEq] at h; subst h
        split <;> simpa [clB] using this
      · simp only [Option.some.injEq] at h; subst h; rfl
      · simp at h
    · simp at h
/-- The operations, in the order of the text. -/
theorem evSeq_ok (hC : CtxOK P Φ C) (hI : InlOK P Φ L inl) {Q : Exit → Act → World → Prop} : ∀ (l : List Oper) (σ : St) (K : St → T α) (ρ : List Int) (η : Env) (a : Act) (w : World),
    (evSeq P C ops inl l σ K).ok Φ L ρ → Inv Φ nb0 η0 w0 ρ0 ρ η σ a w →
    (∀ ρ' η' σ' a' w', (K σ').ok Φ L ρ' → Inv Φ nb0 η0 w0 ρ0 ρ' η' σ' a' w' → Q .normal a' w') → wpList P ops Q l a w
  | [], σ, K, ρ, η, a, w, ht, h, hQ => hQ _ _ _ _ _ ht h
  | o :: l, σ, K, ρ, η, a, w, ht, h, hQ => by
    have next : ∀ {ρ' η' σ' a' w'}, (evSeq P C ops inl l σ' K).ok Φ L ρ' → Inv Φ nb0 η0 w0 ρ0 ρ' η' σ' a' w' → wpList P ops Q l a' w' := fun ht' h' => evSeq_ok hC hI l _ K _ _ _ _ ht' h' hQ
    refine wpList_step fun K' hK' => ?_
    unfold evSeq at ht
    simp only [fRes_eq, fB_eq, St.skipF_eq, St.knowF_eq, setTF_eq] at ht
    split at ht
    · exact ht.elim
    · rename_i hg
      rw [if_pos (guardB_ok h.ft hg)]
      exact run1_ok hC hI ht h fun ρ' η' a' w' _ ht' h' _ => hK' _ _ (next ht' h')
    · rename_i g hg
      have hw := guardB_ok h.ft hg
      have hgc : clB σ.n g = true := guardB_cl (by have := h.cl; simp only [St.cl, Bool.and_eq_true] at this; exact this.1.1) hg
      simp only at hw
      split at ht
      · rename_i hd
        rw [if_pos (by rw [hw]; exact decB_ok h.fx _ _ hd)]
        exact run1_ok hC hI ht h fun ρ' η' a' w' _ ht' h' _ => hK' _ _ (next ht' h')
      · rename_i hd
        rw [if_neg (by rw [hw, decB_ok h.fx _ _ hd]; simp)]
        exact hK' _ _ (next ht (h.skip o))
      · split at ht
        · rename_i r hr
          split at hr
          · rename_i r0 hr0
            unfold grdRes at hr
            split at hr
            · rename_i hwr hnn hcal
              simp only [Option.some.injEq] at hr; subst hr
              split at ht
              rotate_left
              · exact ht.elim
              rename_i hvc
              have hcl1 : ∀ t', t' = setT σ.t o.dst (.grd g r0.v) → St.cl { σ with t := t' } = true := fun t' e => by
                subst e
                have := h.cl
                simp only [St.cl, Bool.and_eq_true] at this ⊢
                exact ⟨⟨setT_cl this.1.1 hvc _, this.1.2⟩, this.2⟩
              have hloc0 : resLoc σ { r0 with rng := [], asr := [] } = true := by
                simp only [clV, Bool.and_eq_true] at hvc
                simp only [resLoc, hwr, hnn, hcal, calN, List.all_nil, Bool.and_true, Nat.add_zero]
                exact hvc.2
              obtain ⟨ha, ht⟩ := wrapA_ok ht
              have hgrd : ∀ η', denV ρ η' (.grd g r0.v) = if denB ρ g = true then denV ρ η' r0.v else Go.undef := fun η' => by simp [denV]
              split
              · rename_i hwant
                rw [hw] at hwant
                have ha' : ∀ y ∈ r0.asr, denB ρ y = true := fun y hy => by
                  have := ha _ (List.mem_map.2 ⟨y, hy, rfl⟩)
                  simpa [denB, hwant] using this
                refine evOp_ok hC hr0 (h.know hwant hgc).fx (by rw [hcal]; intro k es m he; cases he) ha' h.rb (fun i hi => getB_none hi) (fun y v hy => opdF_ok (h.know hwant hgc).fx h.ft hy) fun η' w' hE => ?_
                have hp := (Inv.put (r := { r0 with rng := [], asr := [] }) (o := o) (by
                  rw [hcal]; exact { len := h.len, pre := h.pre, fx := h.fx, ft := h.ft, rb := h.rb, nb := h.nb, env := h.env, size := h.size, io := h.io, newb := h.newb, newo := h.newo, frame := h.frame, cs := h.cs, cl := h.cl }) hloc0 (fun _ hy => by cases hy) (by rw [hcal]; exact h.cs) (fun _ p hp => by cases hp)
                  { size := hE.size, io := hE.io, al := hE.al, same := hE.same, frame := hE.frame, made := hE.made, fresh := hE.fresh, apart := hE.apart, known := hE.known, once := hE.once })
                refine hK' _ _ (next (η' := η') ht ?_)
                exact {
                  cl := hcl1 _ rfl
                  len := h.len, pre := h.pre, fx := h.fx
                  ft := by
                    have := h.ft.set o.dst (.grd g r0.v)
                    rw [hgrd, if_pos hwant] at this
                    rw [hE.eqEnv hnn]
                    exact this
                  cs := h.cs
                  rb := by
                    have e : η' = η := hE.eqEnv hnn
                    have := hp.rb
                    simp only [St.put, hwr, hnn, putB, setBs, List.replicate_zero, List.append_nil] at this
                    exact this
                  nb := h.nb, env := hp.env, size := hp.size, io := hp.io
                  newb := by
                    have := hp.newb
                    simp only [St.put, hwr, hnn, putB, setBs, List.replicate_zero, List.append_nil, List.map_nil, List.nil_append] at this
                    exact this
                  newo := by
                    have := hp.newo
                    simp only [St.put, hwr, hnn, putB, setBs, List.replicate_zero, List.append_nil, List.map_nil, List.nil_append] at this
                    exact this
                  frame := by
                    have := hp.frame
                    simp only [St.put, hwr, List.map_nil, List.nil_append] at this
                    exact this }
              · rename_i hwant
                rw [hw] at hwant
                refine hK' _ _ (next (η' := η) ht ?_)
                exact {
                  cl := hcl1 _ rfl
                  len := h.len, pre := h.pre, fx := h.fx
                  ft := by
                    have := h.ft.set o.dst (.grd g r0.v)
                    rw [hgrd, if_neg hwant] at this
                    exact this
                  rb := h.rb, nb := h.nb, env := h.env, size := h.size, io := h.io, newb := h.newb, newo := h.newo, frame := h.frame, cs := h.cs }
            · simp at hr
          · simp at hr
        · obtain ⟨h1, h2⟩ := ht
          split
          · rename_i hwant
            rw [hw] at hwant
            exact run1_ok hC hI (h1 hwant) (h.know hwant hgc) fun ρ' η' a' w' _ ht' h' _ => hK' _ _ (next ht' h')
          · rename_i hwant
            rw [hw] at hwant
            have hwant : denB ρ g = false := by simpa using hwant
            exact hK' _ _ (next (h2 hwant) ((h.know hwant hgc).skip o))
end
/-- What is asked of the way in which a region that draws its order is taken. -/
def DrawOK {α : Type} (P : Program) (Φ : Sig) (L : List Int → α → Prop) (draw : Array Oper → St → (St → T α) → T α) : Prop :=
  ∀ (id : Nat) (ops : Array Oper) (nb0 : Nat) (η0 : Env) (w0 : World) (ρ0 : List Int) (Q : Exit → Act → World → Prop) (σ : St) (K : St → T α) (ρ : List Int) (η : Env) (a : Act) (w : World),
  (draw ops σ K).ok Φ L ρ → Inv Φ nb0 η0 w0 ρ0 ρ η σ a w →
    (∀ ρ' η' σ' a' w', (K σ').ok Φ L ρ' → Inv Φ nb0 η0 w0 ρ0 ρ' η' σ' a' w' → Q .normal a' w') → (Code.region id ops true).wp P Q a w
end Go.Proofs.Ytnnnmdmniceenaa.Ev
