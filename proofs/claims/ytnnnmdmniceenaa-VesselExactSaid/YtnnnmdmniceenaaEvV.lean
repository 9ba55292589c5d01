/- Contracts off trees: functions that look at blocks of their caller, write some, and lay new ones; what they give is what the tree gives. -/
import Derived.Test.YtnnnmdmniceenaaEvU
set_option linter.unusedSimpArgs false
set_option linter.unusedVariables false
namespace Go.Proofs.Ytnnnmdmniceenaa.Ev
/-! ### Shapes -/
/-- A cell's shape: a number, a place in a block, a slice of a block's cells, a caller's list ('slo': one whose length and capacity are numbers of the arguments). -/
inductive Pc where
  | num (k : Ck) | ptr (i o : Nat) | slc (i o n c : Nat) | sln (i o n : Nat) | nils | nilp | sls (k : Nat) | slo (k j : Nat)
def Pc.w : Pc → Nat
  | .num _ => 1
  | .sls _ => 2
  | _ => 0
def Pc.lt (k W : Nat) : Pc → Bool
  | .ptr i _ => Nat.blt i k
  | .slc i _ _ _ => Nat.blt i k
  | .sln i _ _ => Nat.blt i k
  | .slo _ j => Nat.blt (j + 1) W
  | _ => true
def Pc.inp : Pc → Bool
  | .slo _ _ => false
  | _ => true
def Pc.pr : Pc → SV → List (Nat × Nat)
  | .ptr i _, .ptr j _ => [(i, j)]
  | .slc i _ _ _, .slc j _ _ _ => [(i, j)]
  | .sln i _ _, .slc j _ _ _ => [(i, j)]
  | _, _ => []
def Pc.get (m : Nat → Nat) (fx : Fx) : Pc → SV → Option (List E)
  | .num k, v => match cellE fx k v with
    | some e => some [e]
    | none => none
  | .ptr i o, .ptr j p => if j = m i ∧ p = o then some [] else none
  | .slc i o n c, .slc j p l (some d) => if j = m i ∧ p = o ∧ l = n ∧ d = c then some [] else none
  | .sln i o n, .slc j p l none => if j = m i ∧ p = o ∧ l = n then some [] else none
  | .nils, .nils => some []
  | .nilp, .nilp => some []
  | .sls k, .sls k' a b => if k' = k then some [a, b] else none
  | .slo k j, .sls k' a b => if k' = k ∧ a.eqb (.v (2 + j)) = true ∧ b.eqb (.v (2 + (j + 1))) = true then some [] else none
  | _, _ => none
def Pc.val (η : Env) (m : Nat → Nat) (xs : List Int) : Pc → List Int → Value
  | .num k, l => cellV k (l.headD 0)
  | .ptr i o, _ => .pointer (some ⟨η.β (m i), o, none⟩)
  | .slc i o n c, _ => .slice (some ⟨η.β (m i), o, none⟩) n c
  | .sln i o n, _ => .slice (some ⟨η.β (m i), 0, none⟩) n (η.κ (m i) / o)
  | .nils, _ => .slice none 0 0
  | .nilp, _ => .pointer none
  | .sls k, l => .slice (η.α k) (l.headD 0).toNat (l.tail.headD 0).toNat
  | .slo k j, _ => .slice (η.α k) (xs.getD j 0).toNat (xs.getD (j + 1) 0).toNat
def Pc.sv (m : Nat → Nat) (is : List E) : Pc → Nat → SV
  | .num k, n => cellS k n
  | .ptr i o, _ => .ptr (m i) o
  | .slc i o n c, _ => .slc (m i) o n (some c)
  | .sln i o n, _ => .slc (m i) o n none
  | .nils, _ => .nils
  | .nilp, _ => .nilp
  | .sls k, n => .sls k (.v n) (.v (n + 1))
  | .slo k j, _ => .sls k (is.getD j (.lit 0)) (is.getD (j + 1) (.lit 0))
/-- The numbers of the arguments are the variables from 2 on. -/
def XsOK (ρ : List Int) (k W : Nat) (xs : List Int) (p : Pc) : Prop := p.inp = true ∨ (p.lt k W = true ∧ ∀ j, j < W → ρ.getD (2 + j) 0 = xs.getD j 0)
theorem Pc.get_ok {m : Nat → Nat} {fx : Fx} {ρ : List Int} {η : Env} {k W : Nat} {xs : List Int} (hf : FxOK ρ fx) (p : Pc) (hx : XsOK ρ k W xs p) (v : SV) (es : List E) (h : p.get m fx v = some es) :
    es.length = p.w ∧ ∀ r, denV ρ η v = p.val η m xs (es.map (den ρ) ++ r) := by
  unfold Pc.get at h
  split at h
  · split at h
    · rename_i e he
      simp only [Option.some.injEq] at h; subst h
      exact ⟨rfl, fun r => by rw [cellE_ok he hf]; rfl⟩
    · cases h
  · split at h
    · rename_i hc
      simp only [Option.some.injEq] at h; subst h
      obtain ⟨rfl, rfl⟩ := hc
      exact ⟨rfl, fun r => by simp [denV, Pc.val]⟩
    · cases h
  · split at h
    · rename_i hc
      simp only [Option.some.injEq] at h; subst h
      obtain ⟨rfl, rfl, rfl, rfl⟩ := hc
      exact ⟨rfl, fun r => by simp [denV, Pc.val]⟩
    · cases h
  · split at h
    · rename_i hc
      simp only [Option.some.injEq] at h; subst h
      obtain ⟨rfl, rfl, rfl⟩ := hc
      exact ⟨rfl, fun r => by simp [denV, Pc.val, slcO, slcC]⟩
    · cases h
  · simp only [Option.some.injEq] at h; subst h
    exact ⟨rfl, fun r => by simp [denV, Pc.val]⟩
  · simp only [Option.some.injEq] at h; subst h
    exact ⟨rfl, fun r => by simp [denV, Pc.val]⟩
  · split at h
    · rename_i hc
      simp only [Option.some.injEq] at h; subst h
      subst hc
      exact ⟨rfl, fun r => by simp [denV, Pc.val]⟩
    · cases h
  · split at h
    · rename_i hc
      simp only [Option.some.injEq] at h; subst h
      obtain ⟨rfl, h1, h2⟩ := hc
      rcases hx with hx | ⟨h3, hx⟩
      · cases hx
      · have h3 : _ + 1 < W := Nat.le_of_ble_eq_true h3
        refine ⟨rfl, fun r => ?_⟩
        rw [E.eqb_eq h1, E.eqb_eq h2]
        simp only [denV, Pc.val, den]
        rw [hx _ (by omega), hx _ h3]
    · cases h
  · cases h
theorem getD_den (ρ : List Int) (is : List E) (j : Nat) : den ρ (is.getD j (.lit 0)) = (is.map (den ρ)).getD j 0 := by
  simp only [List.getD_eq_getElem?_getD, List.getElem?_map]
  cases is[j]? <;> rfl
theorem Pc.sv_ok {m : Nat → Nat} {ρ : List Int} {η : Env} {is : List E} {xs : List Int} (p : Pc) (hx : p.inp = true ∨ xs = is.map (den ρ)) (n : Nat) (l : List Int) (h : ∀ j, j < p.w → ρ.getD (n + j) 0 = l.getD j 0) : denV ρ η (p.sv m is n) = p.val η m xs l := by
  cases p with
  | num k =>
    have := h 0 (show 0 < 1 by decide)
    rw [Nat.add_zero] at this
    simp only [Pc.sv, Pc.val]
    rw [cellS_ok, this]; cases l <;> rfl
  | sls k =>
    have h0 := h 0 (show 0 < 2 by decide)
    have h1 := h 1 (show 1 < 2 by decide)
    rw [Nat.add_zero] at h0
    simp only [Pc.sv, Pc.val, denV, den, h0, h1]
    rcases l with _ | ⟨a, _ | ⟨b, l⟩⟩ <;> rfl
  | slo k j =>
    rcases hx with hx | hx
    · cases hx
    · simp only [Pc.sv, Pc.val, denV, hx, getD_den]
  | _ => simp [Pc.sv, Pc.val, denV, slcO, slcC]
theorem Pc.val_eq {η η' : Env} {m m' : Nat → Nat} {k W : Nat} {xs : List Int} (ha : η'.α = η.α) (h : ∀ i, i < k → η'.β (m' i) = η.β (m i) ∧ η'.κ (m' i) = η.κ (m i)) (p : Pc) (hp : p.lt k W = true) (l : List Int) : p.val η' m' xs l = p.val η m xs l := by
  have hb : ∀ i, Nat.blt i k = true → i < k := fun i hi => Nat.le_of_ble_eq_true hi
  cases p with
  | ptr i o => simp only [Pc.val, (h i (hb i hp)).1]
  | slc i o n c => simp only [Pc.val, (h i (hb i hp)).1]
  | sln i o n => simp only [Pc.val, (h i (hb i hp)).1, (h i (hb i hp)).2]
  | sls k => simp only [Pc.val, ha]
  | slo k j => simp only [Pc.val, ha]
  | _ => rfl
section
variable {α : Type} (wd : α → Nat) (ge : α → SV → Option (List E)) (va : α → List Int → Value) (sv : α → Nat → SV)
def lW : List α → Nat
  | [] => 0
  | a :: l => wd a + lW l
def lGet : List α → List SV → Option (List E)
  | [], [] => some []
  | a :: l, v :: vs => match ge a v, lGet l vs with
    | some e, some r => some (e ++ r)
    | _, _ => none
  | _, _ => none
def lVal : List α → List Int → List Value
  | [], _ => []
  | a :: l, xs => va a xs :: lVal l (xs.drop (wd a))
def lSv : List α → Nat → List SV
  | [], _ => []
  | a :: l, n => sv a n :: lSv l (n + wd a)
def lPr (pr : α → SV → List (Nat × Nat)) : List α → List SV → List (Nat × Nat)
  | a :: l, v :: vs => pr a v ++ lPr pr l vs
  | _, _ => []
end
section
variable {α : Type} {wd : α → Nat} {ge : α → SV → Option (List E)} {va va' : α → List Int → Value} {sv : α → Nat → SV}
theorem lGet_ok {q : α → Prop} {ρ : List Int} {η : Env} (hg : ∀ a, q a → ∀ v es, ge a v = some es → es.length = wd a ∧ ∀ r, denV ρ η v = va a (es.map (den ρ) ++ r)) :
    ∀ (l : List α), (∀ a ∈ l, q a) → ∀ (vs : List SV) (es : List E), lGet ge l vs = some es → vs.length = l.length ∧ es.length = lW wd l ∧ ∀ r, vs.map (denV ρ η) = lVal wd va l (es.map (den ρ) ++ r)
  | [], _, [], es, h => by
    simp only [lGet, Option.some.injEq] at h; subst h
    exact ⟨rfl, rfl, fun r => rfl⟩
  | a :: l, hq, v :: vs, es, h => by
    simp only [lGet] at h
    split at h
    · rename_i e r he hr
      simp only [Option.some.injEq] at h; subst h
      obtain ⟨h1, h2⟩ := hg a (hq a (List.mem_cons_self ..)) v e he
      obtain ⟨h0, h3, h4⟩ := lGet_ok hg l (fun b hb => hq b (List.mem_cons_of_mem _ hb)) vs r hr
      refine ⟨by simp [h0], by simp [lW, h1, h3], fun s => ?_⟩
      simp only [List.map_cons, lVal, List.map_append, List.append_assoc]
      rw [h2, h4 s]
      congr 2
      rw [List.drop_append_of_le_length (by simp [h1]), List.drop_of_length_le (by simp [h1]), List.nil_append]
    · cases h
  | [], _, _ :: _, es, h => by simp [lGet] at h
  | _ :: _, _, [], es, h => by simp [lGet] at h
theorem lSv_ok {q : α → Prop} {ρ : List Int} {η : Env} (hs : ∀ a, q a → ∀ n l, (∀ j, j < wd a → ρ.getD (n + j) 0 = l.getD j 0) → denV ρ η (sv a n) = va a l) :
    ∀ (l : List α), (∀ a ∈ l, q a) → ∀ (n : Nat) (xs : List Int), (∀ j, j < lW wd l → ρ.getD (n + j) 0 = xs.getD j 0) → (lSv wd sv l n).map (denV ρ η) = lVal wd va l xs
  | [], _, _, _, _ => rfl
  | a :: l, hq, n, xs, h => by
    simp only [lSv, List.map_cons, lVal]
    rw [hs a (hq a (List.mem_cons_self ..)) n xs fun j hj => h j (by simp only [lW]; omega), lSv_ok hs l (fun b hb => hq b (List.mem_cons_of_mem _ hb)) (n + wd a) (xs.drop (wd a)) fun j hj => ?_]
    rw [Nat.add_assoc, h (wd a + j) (by simp only [lW]; omega)]
    simp [List.getD_eq_getElem?_getD]
theorem lVal_eq {q : α → Bool} (h : ∀ a, q a = true → ∀ l, va' a l = va a l) : ∀ (l : List α) (xs : List Int), l.all q = true → lVal wd va' l xs = lVal wd va l xs
  | [], _, _ => rfl
  | a :: l, xs, hq => by
    simp only [List.all_cons, Bool.and_eq_true] at hq
    simp only [lVal, h a hq.1, lVal_eq h l _ hq.2]
end
/-- The shape of an argument or a result. -/
inductive Pt where
  | one (p : Pc) | agg (l : List Pc)
def Pt.w : Pt → Nat
  | .one p => p.w
  | .agg l => lW Pc.w l
def Pt.lt (k W : Nat) : Pt → Bool
  | .one p => p.lt k W
  | .agg l => l.all (Pc.lt k W)
def Pt.inp : Pt → Bool
  | .one p => p.inp
  | .agg l => l.all Pc.inp
def Pt.pr : Pt → SV → List (Nat × Nat)
  | .one p, v => p.pr v
  | .agg l, .agg vs => lPr Pc.pr l vs
  | _, _ => []
def Pt.get (m : Nat → Nat) (fx : Fx) : Pt → SV → Option (List E)
  | .one p, v => p.get m fx v
  | .agg l, .agg vs => lGet (Pc.get m fx) l vs
  | _, _ => none
def Pt.val (η : Env) (m : Nat → Nat) (xs : List Int) : Pt → List Int → Value
  | .one p, l => p.val η m xs l
  | .agg ps, l => .agg (lVal Pc.w (Pc.val η m xs) ps l).toArray
def Pt.sv (m : Nat → Nat) (is : List E) : Pt → Nat → SV
  | .one p, n => p.sv m is n
  | .agg ps, n => .agg (lSv Pc.w (Pc.sv m is) ps n)
def XtOK (ρ : List Int) (k W : Nat) (xs : List Int) (p : Pt) : Prop := p.inp = true ∨ (p.lt k W = true ∧ ∀ j, j < W → ρ.getD (2 + j) 0 = xs.getD j 0)
theorem Xs_all {ρ : List Int} {k W : Nat} {xs : List Int} {ps : List Pc} (h : ps.all Pc.inp = true ∨ (ps.all (Pc.lt k W) = true ∧ ∀ j, j < W → ρ.getD (2 + j) 0 = xs.getD j 0)) : ∀ a ∈ ps, XsOK ρ k W xs a := fun a ha => by
  rcases h with h | ⟨h, h2⟩
  · exact .inl (List.all_eq_true.1 h a ha)
  · exact .inr ⟨List.all_eq_true.1 h a ha, h2⟩
theorem Pt.get_ok {m : Nat → Nat} {fx : Fx} {ρ : List Int} {η : Env} {k W : Nat} {xs : List Int} (hf : FxOK ρ fx) (p : Pt) (hx : XtOK ρ k W xs p) (v : SV) (es : List E) (h : p.get m fx v = some es) :
    es.length = p.w ∧ ∀ r, denV ρ η v = p.val η m xs (es.map (den ρ) ++ r) := by
  unfold Pt.get at h
  split at h
  · exact Pc.get_ok hf _ hx _ _ h
  · obtain ⟨_, h1, h2⟩ := lGet_ok (Pc.get_ok (η := η) hf) _ (Xs_all hx) _ _ h
    exact ⟨h1, fun r => by simp only [denV, denL_map, Pt.val]; rw [h2 r]⟩
  · cases h
theorem Pt.sv_ok {m : Nat → Nat} {ρ : List Int} {η : Env} {is : List E} {xs : List Int} (p : Pt) (hx : p.inp = true ∨ xs = is.map (den ρ)) (n : Nat) (l : List Int) (h : ∀ j, j < p.w → ρ.getD (n + j) 0 = l.getD j 0) : denV ρ η (p.sv m is n) = p.val η m xs l := by
  cases p with
  | one p => exact Pc.sv_ok p hx n l h
  | agg ps =>
    simp only [Pt.sv, denV, denL_map, Pt.val]
    rw [lSv_ok (Pc.sv_ok (η := η)) ps (fun a ha => hx.imp (fun h => List.all_eq_true.1 h a ha) id) n l h]
theorem Pt.val_eq {η η' : Env} {m m' : Nat → Nat} {k W : Nat} {xs : List Int} (ha : η'.α = η.α) (h : ∀ i, i < k → η'.β (m' i) = η.β (m i) ∧ η'.κ (m' i) = η.κ (m i)) (p : Pt) (hp : p.lt k W = true) (l : List Int) : p.val η' m' xs l = p.val η m xs l := by
  cases p with
  | one p => exact Pc.val_eq ha h p hp l
  | agg ps => simp only [Pt.val]; rw [lVal_eq (Pc.val_eq ha h) ps l hp]
/-! ### Blocks -/
abbrev Bt := Nat × TypeId × List Pc
def bW : List Bt → Nat
  | [] => 0
  | (_, _, ps) :: r => lW Pc.w ps + bW r
def bGet (m : Nat → Nat) (fx : Fx) (bl : Blk) : List Bt → Option (List E)
  | [] => some []
  | (i, T, ps) :: r => match bl (m i) with
    | some (T', cs) => if T' = T then match lGet (Pc.get m fx) ps cs, bGet m fx bl r with
        | some a, some b => some (a ++ b)
        | _, _ => none
      else none
    | none => none
def bSv (m : Nat → Nat) (is : List E) : List Bt → Nat → List (Nat × Option (TypeId × List SV))
  | [], _ => []
  | (i, T, ps) :: r, n => (m i, some (T, lSv Pc.w (Pc.sv m is) ps n)) :: bSv m is r (n + lW Pc.w ps)
theorem bSv_fst (m : Nat → Nat) (is : List E) : ∀ (bs : List Bt) (n : Nat), (bSv m is bs n).map (·.1) = bs.map fun t => m t.1
  | [], _ => rfl
  | (i, T, ps) :: r, n => by simp only [bSv, List.map_cons, bSv_fst m is r]
theorem bGet_some {m : Nat → Nat} {fx : Fx} {bl : Blk} : ∀ {bs : List Bt} {es : List E}, bGet m fx bl bs = some es → ∀ t ∈ bs, (bl (m t.1)).isSome = true
  | [], _, _, t, ht => by cases ht
  | (i, T, ps) :: r, es, h, t, ht => by
    simp only [bGet] at h
    split at h
    · rename_i T' cs hb
      split at h
      · split at h
        · rename_i a b ha hr
          rcases List.mem_cons.1 ht with rfl | ht
          · rw [hb]; rfl
          · exact bGet_some hr t ht
        · cases h
      · cases h
    · cases h
theorem bGet_ok {m m2 : Nat → Nat} {fx : Fx} {bl : Blk} {ρ ρ2 : List Int} {η η2 : Env} {k W : Nat} {is : List E} {xs : List Int} (hf : FxOK ρ fx) (ha : η2.α = η.α) (hm : ∀ i, i < k → η2.β (m2 i) = η.β (m i) ∧ η2.κ (m2 i) = η.κ (m i)) :
    ∀ (bs : List Bt) (es : List E) (n : Nat), bGet m fx bl bs = some es → bs.all (fun t => t.2.2.all (Pc.lt k W)) = true → (bs.all (fun t => t.2.2.all Pc.inp) = true ∨ ((∀ j, j < W → ρ.getD (2 + j) 0 = xs.getD j 0) ∧ xs = is.map (den ρ2))) → es.length = bW bs ∧
      ((∀ j, j < bW bs → ρ2.getD (n + j) 0 = (es.map (den ρ)).getD j 0) → ∀ e ∈ bSv m2 is bs n, ∃ i T cs cs2, (∃ ps, (i, T, ps) ∈ bs) ∧ bl (m i) = some (T, cs) ∧ e = (m2 i, some (T, cs2)) ∧ cs2.map (denV ρ2 η2) = cs.map (denV ρ η))
  | [], es, n, h, _, _ => by
    simp only [bGet, Option.some.injEq] at h; subst h
    exact ⟨rfl, fun _ e he => by cases he⟩
  | (i, T, ps) :: r, es, n, h, hq, hx => by
    simp only [List.all_cons, Bool.and_eq_true] at hq hx
    simp only [bGet] at h
    split at h
    · rename_i T' cs hb
      split at h
      · rename_i hT
        subst hT
        split at h
        · rename_i a b hga hgb
          simp only [Option.some.injEq] at h; subst h
          have x1 : ∀ p ∈ ps, XsOK ρ k W xs p := Xs_all (hx.imp (fun h => h.1) fun h => ⟨hq.1, h.1⟩)
          have x2 : ∀ p ∈ ps, p.inp = true ∨ xs = is.map (den ρ2) := fun p hp => hx.imp (fun h => List.all_eq_true.1 h.1 p hp) fun h => h.2
          obtain ⟨_, h1, h2⟩ := lGet_ok (Pc.get_ok (η := η) hf) _ x1 _ _ hga
          obtain ⟨h3, h4⟩ := bGet_ok hf ha hm r b (n + lW Pc.w ps) hgb hq.2 (hx.imp (fun h => h.2) id)
          refine ⟨by simp [bW, h1, h3], fun hρ e he => ?_⟩
          simp only [bSv] at he
          rcases List.mem_cons.1 he with rfl | he
          · refine ⟨i, T', cs, _, ⟨ps, List.mem_cons_self ..⟩, hb, rfl, ?_⟩
            rw [h2 (b.map (den ρ)), lSv_ok (Pc.sv_ok (η := η2)) ps x2 n ((a ++ b).map (den ρ)) fun j hj => hρ j (by simp only [bW]; omega), List.map_append, lVal_eq (Pc.val_eq ha hm) ps _ hq.1]
          · obtain ⟨i', T2, cs', cs2, ⟨ps', hp'⟩, g1, g2, g3⟩ := h4 (fun j hj => by
              rw [Nat.add_assoc, hρ (lW Pc.w ps + j) (by simp only [bW]; omega), List.map_append, List.getD_eq_getElem?_getD, List.getElem?_append_right (by simp [h1])]
              simp [List.getD_eq_getElem?_getD, h1]) e he
            exact ⟨i', T2, cs', cs2, ⟨ps', List.mem_cons_of_mem _ hp'⟩, g1, g2, g3⟩
        · cases h
      · cases h
    · cases h
end Go.Proofs.Ytnnnmdmniceenaa.Ev
