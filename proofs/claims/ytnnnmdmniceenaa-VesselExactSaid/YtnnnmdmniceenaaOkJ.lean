/- Plain proofs along a tree: one call after the other. -/
import Derived.Test.YtnnnmdmniceenaaEvZ
set_option linter.unusedSimpArgs false
set_option linter.unusedVariables false
namespace Go.Proofs.Ytnnnmdmniceenaa
open Go.RowKit Ev
section
variable {α : Type} {J : Nat → List Int → List Int → Prop} {g : Nat → List Int → List Int} {L : List Int → α → Prop} {ρ : List Int} {k m : Nat} {es : List E} {t e : T α} {b : B}
theorem okJ_call (hk : k < 900) (h : T.okJ J g L (ρ ++ fit m (g k (es.map (den ρ)))) t) : T.okJ J g L ρ (.call k es m t) := by
  unfold T.okJ
  rw [if_neg (by omega), if_neg (by omega)]
  exact h
theorem okJ_src (h : ∀ v p : Int, 0 ≤ v → (1 ≤ (es.map (den ρ)).getD 0 0 → v < (es.map (den ρ)).getD 0 0) → T.okJ J g L (ρ ++ [v, p]) t) : T.okJ J g L ρ (.call 900 es 2 t) := by
  unfold T.okJ
  rw [if_pos rfl]
  exact fun v p h0 h1 _ => ⟨rfl, h v p h0 h1⟩
theorem okJ_ite (h1 : denB ρ b = true → T.okJ J g L ρ t) (h2 : denB ρ b = false → T.okJ J g L ρ e) : T.okJ J g L ρ (.ite b t e) := by
  unfold T.okJ
  exact ⟨h1, h2⟩
theorem okJ_c1 (hk : k < 900) (h : ∀ a, a = (g k (es.map (den ρ))).getD 0 0 → T.okJ J g L (ρ ++ [a]) t) : T.okJ J g L ρ (.call k es 1 t) := okJ_call hk (by rw [fit1]; exact h _ rfl)
theorem okJ_c2 (hk : k < 900) (h : ∀ a b, a = (g k (es.map (den ρ))).getD 0 0 → b = (g k (es.map (den ρ))).getD 1 0 → T.okJ J g L (ρ ++ [a, b]) t) : T.okJ J g L ρ (.call k es 2 t) := okJ_call hk (by rw [fit2]; exact h _ _ rfl rfl)
theorem okJ_c3 (hk : k < 900) (h : ∀ a b c, a = (g k (es.map (den ρ))).getD 0 0 → b = (g k (es.map (den ρ))).getD 1 0 → c = (g k (es.map (den ρ))).getD 2 0 → T.okJ J g L (ρ ++ [a, b, c]) t) : T.okJ J g L ρ (.call k es 3 t) := okJ_call hk (by rw [fit3]; exact h _ _ _ rfl rfl rfl)
theorem okJ_c4 (hk : k < 900) (h : ∀ a b c d, a = (g k (es.map (den ρ))).getD 0 0 → b = (g k (es.map (den ρ))).getD 1 0 → c = (g k (es.map (den ρ))).getD 2 0 → d = (g k (es.map (den ρ))).getD 3 0 → T.okJ J g L (ρ ++ [a, b, c, d]) t) : T.okJ J g L ρ (.call k es 4 t) := okJ_call hk (by rw [fit4]; exact h _ _ _ _ rfl rfl rfl rfl)
theorem okJ_cL (hk : k < 900) (h : ∀ xs : List Int, xs = fit m (g k (es.map (den ρ))) → T.okJ J g L (ρ ++ xs) t) : T.okJ J g L ρ (.call k es m t) := okJ_call hk (h _ rfl)
/-- Thirteen numbers of which nothing is to be known. -/
theorem okJ_c13 (hk : k < 900) (h : ∀ p a0 a1 a2 a3 a4 a5 a6 a7 a8 a9 a10 a11, [p, a0, a1, a2, a3, a4, a5, a6, a7, a8, a9, a10, a11] = fit 13 (g k (es.map (den ρ))) → T.okJ J g L (ρ ++ [p, a0, a1, a2, a3, a4, a5, a6, a7, a8, a9, a10, a11]) t) : T.okJ J g L ρ (.call k es 13 t) :=
  okJ_call hk (h _ _ _ _ _ _ _ _ _ _ _ _ _ rfl)
theorem fit_length (m : Nat) (l : List Int) : (fit m l).length = m := by simp [fit]
/-- Of the numbers only their count is kept. -/
theorem okJ_L {n : Nat} (hl : ρ.length = n) (hk : k < 900) (h : ∀ r : List Int, r.length = n + m → T.okJ J g L r t) : T.okJ J g L ρ (.call k es m t) :=
  okJ_call hk (h _ (by rw [List.length_append, fit_length, hl]))
theorem okJ_S {n : Nat} (hl : ρ.length = n) (h : ∀ r : List Int, r.length = n + 2 → T.okJ J g L r t) : T.okJ J g L ρ (.call 900 es 2 t) :=
  okJ_src fun _ _ _ _ => h _ (by rw [List.length_append, hl]; rfl)
end
theorem getD_app {ρ : List Int} {n : Nat} (h : ρ.length = n) (v : Int) (s : List Int) : (ρ ++ v :: s).getD n 0 = v := by
  subst h
  simp [List.getD_eq_getElem?_getD]
theorem getD_at {ρ : List Int} {n : Nat} (h : ρ.length = n) (k : Nat) (s : List Int) : (ρ ++ s).getD (n + k) 0 = s.getD k 0 := by
  subst h
  simp only [List.getD_eq_getElem?_getD]
  rw [List.getElem?_append_right (by omega), Nat.add_sub_cancel_left]
theorem fit_len {m : Nat} {l : List Int} (h : l.length = m) : fit m l = l := by
  subst h
  unfold fit
  apply List.ext_getElem?
  intro i
  rw [List.getElem?_map]
  by_cases hi : i < l.length
  · rw [List.getElem?_range hi]; simp [List.getD_eq_getElem?_getD, List.getElem?_eq_getElem hi]
  · rw [List.getElem?_eq_none (by simpa using hi), List.getElem?_eq_none (by omega)]; rfl
theorem rowF_lt {g : Nat → List Int → List Int} {z : List Int} {k : Nat} (h : k < 900) : rowF g z k = g k := by
  unfold rowF
  rw [if_neg (by omega), if_neg (by omega)]
end Go.Proofs.Ytnnnmdmniceenaa
