/- Tables of contracts off trees; laws with such tables. -/
import Derived.Test.YtnnnmdmniceenaaEvY
set_option linter.unusedSimpArgs false
set_option linter.unusedVariables false
namespace Go.Proofs.Ytnnnmdmniceenaa
open Go.RowKit Ev
namespace Ev
/-- A function, its contract, and the tree of its own walk. -/
abbrev En := FuncId × MC × T (List E)
/-- The contract, or another one, if something is left to be asked. -/
def orC (c : Con) (o : Option Con) : Con := fun vs bl fx n nb => match c vs bl fx n nb with
  | some r => match r.asr with
    | [] => some r
    | _ => match o with
      | some c' => match c' vs bl fx n nb with
        | some r' => some r'
        | none => some r
      | none => some r
  | none => match o with
    | some c' => c' vs bl fx n nb
    | none => none
theorem orC_ok {P : Program} {Φ : Sig} {f : FuncId} {c : Con} {o : Option Con} (h : ConOK P Φ f c) (ho : ∀ c', o = some c' → ConOK P Φ f c') : ConOK P Φ f (orC c o) := by
  refine ⟨h.1, fun args bl fx n nb r hr => ?_⟩
  unfold orC at hr
  split at hr
  · rename_i r0 h0
    split at hr
    · simp only [Option.some.injEq] at hr; subst hr; exact h.2 _ _ _ _ _ _ h0
    · split at hr
      · rename_i c'
        split at hr
        · rename_i r1 h1
          simp only [Option.some.injEq] at hr; subst hr; exact (ho c' rfl).2 _ _ _ _ _ _ h1
        · simp only [Option.some.injEq] at hr; subst hr; exact h.2 _ _ _ _ _ _ h0
      · simp only [Option.some.injEq] at hr; subst hr; exact h.2 _ _ _ _ _ _ h0
  · split at hr
    · rename_i c'
      exact (ho c' rfl).2 _ _ _ _ _ _ hr
    · cases hr
def exL : List En → FuncId → Option Con
  | [], _ => none
  | (f, c, _) :: r, g => if f = g then some (orC c.con (exL r g)) else exL r g
/-- The contracts' functions give what their trees give. -/
def EnOK (g : Nat → List Int → List Int) (len cap : Int) (z : List Int) : List En → Prop
  | [] => True
  | (_, c, t) :: r => (∀ xs, rowF g z c.key xs = runT (rowF g z) (len :: cap :: xs) t) ∧ EnOK g len cap z r
/-- The table is good, whatever the functions are, if they give what the trees give. -/
def EnCon (es : List En) : Prop := ∀ {w0 : World} {a : Option Addr} {len cap : Nat} {z : List Int}, IsRow .i64 w0 a len cap z → ∀ {g : Nat → List Int → List Int}, EnOK g len cap z es →
  ∀ f c, exL es f = some c → ConOK Try.prog (rowSig g a len cap z) f c
theorem EnCon.nil : EnCon [] := fun _ _ _ f c h => by cases h
theorem rowCtxX_ok {w0 : World} {a : Option Addr} {len cap : Nat} {z : List Int} (hrow : IsRow .i64 w0 a len cap z) {g : Nat → List Int → List Int} {es : List En} (h : EnCon es) (hg : EnOK g len cap z es) (lh : FuncId → Nat → Option Hint) :
    CtxOK Try.prog (rowSig g a len cap z) (rowCtxE (exL es) [] lh) := rowCtxE_ok hrow (g := g) (l := []) trivial rfl (h hrow hg)
/-- One more contract. -/
theorem EnCon.consX {es : List En} (h : EnCon es) {f : FuncId} {c : MC} {F d : Nat} {t : T (List E)} {lh : FuncId → Nat → Option Hint} (ht : c.tree Try.prog (rowCtxE (exL es) [] lh) F d f = t) (hbody : BodyOK Try.prog f = true) (hwf : c.wf = true) (hdet : t.det c.M = true)
    (hx : c.rgx = [] ∨ (c.rgx.length ≤ c.M ∧ ∀ {g : Nat → List Int → List Int} {len cap : Int} {z : List Int}, EnOK g len cap z ((f, c, t) :: es) → ∀ xs : List Int, xs.length = c.W → RngOK c.rg xs → (∀ b ∈ c.dom, denB (len :: cap :: xs) b = true) → RngOK c.rgx (rowF g z c.key xs))) : EnCon ((f, c, t) :: es) :=
  fun hrow g hg f' c' hf => by
    unfold exL at hf
    split at hf
    · rename_i he
      subst he
      simp only [Option.some.injEq] at hf; subst hf; subst ht
      exact orC_ok (MC.conOK hrow (rowCtxX_ok hrow h hg.2 lh) hbody hwf hdet (hx.imp id fun hx => ⟨hx.1, hx.2 hg⟩) hg.1) fun c' hc' => h hrow hg.2 _ c' hc'
    · exact h hrow hg.2 f' c' hf
theorem EnCon.cons {es : List En} (h : EnCon es) {f : FuncId} {c : MC} {F d : Nat} {t : T (List E)} {lh : FuncId → Nat → Option Hint} (ht : c.tree Try.prog (rowCtxE (exL es) [] lh) F d f = t) (hbody : BodyOK Try.prog f = true) (hwf : c.wf = true) (hdet : t.det c.M = true) (hx : c.rgx = [] := by rfl) : EnCon ((f, c, t) :: es) :=
  h.consX ht hbody hwf hdet (.inl hx)
/-- The tree calls only functions of lesser keys, and the source. -/
def T.kl {α : Type} (K : Nat) : T α → Bool
  | .call k _ _ t => (Nat.blt k K || Nat.beq k 900 || Nat.beq k 1000) && t.kl K
  | .ite _ t e => t.kl K && e.kl K
  | .asr _ t => t.kl K
  | .loop _ _ _ t => t.kl K
  | _ => true
theorem kl_ok {F F' : Nat → List Int → List Int} {K : Nat} (h : ∀ k, k < K ∨ k = 900 ∨ k = 1000 → F k = F' k) : ∀ (t : T (List E)) (ρ : List Int), t.kl K = true → runT F ρ t = runT F' ρ t
  | .leaf es, ρ, _ => rfl
  | .ite b t e, ρ, hk => by
    simp only [T.kl, Bool.and_eq_true] at hk
    simp only [runT, kl_ok h t ρ hk.1, kl_ok h e ρ hk.2]
  | .call k es m t, ρ, hk => by
    simp only [T.kl, Bool.and_eq_true, Bool.or_eq_true] at hk
    have : k < K ∨ k = 900 ∨ k = 1000 := by
      rcases hk.1 with (h1 | h1) | h1
      · exact .inl (blt_iff.1 h1)
      · exact .inr (.inl (Nat.eq_of_beq_eq_true h1))
      · exact .inr (.inr (Nat.eq_of_beq_eq_true h1))
    simp only [runT, h k this, kl_ok h t _ hk.2]
  | .asr _ _, _, _ | .bad, _, _ | .loop .., _, _ | .again .., _, _ => rfl
def findT : List En → Nat → Option (T (List E))
  | [], _ => none
  | (_, c, t) :: r, k => if c.key = k then some t else findT r k
/-- The functions that the trees tell. -/
def gFix (es : List En) (z : List Int) (len cap : Int) : Nat → Nat → List Int → List Int
  | 0, _, _ => []
  | n + 1, k, xs => match findT es k with
    | some t => runT (rowF (gFix es z len cap n) z) (len :: cap :: xs) t
    | none => []
def gAll (es : List En) (z : List Int) (len cap : Int) (k : Nat) : List Int → List Int := gFix es z len cap (k + 1) k
/-- Each tree calls only functions of lesser keys; the keys differ, and are none of the source's. -/
def EnKl : List En → Bool
  | [] => true
  | (_, c, t) :: r => t.kl c.key && Nat.blt c.key 900 && r.all (fun e => Nat.blt e.2.1.key c.key) && EnKl r
theorem findT_kl : ∀ {es : List En} {k : Nat} {t : T (List E)}, EnKl es = true → findT es k = some t → t.kl k = true ∧ k < 900
  | (_, c, u) :: r, k, t, h, hf => by
    simp only [EnKl, Bool.and_eq_true] at h
    simp only [findT] at hf
    split at hf
    · rename_i hk
      simp only [Option.some.injEq] at hf; subst hf; subst hk
      exact ⟨h.1.1.1, blt_iff.1 h.1.1.2⟩
    · exact findT_kl h.2 hf
theorem gFix_st {es : List En} (h : EnKl es = true) (z : List Int) (len cap : Int) : ∀ (k n m : Nat), k < n → k < m → gFix es z len cap n k = gFix es z len cap m k := by
  intro k
  induction k using Nat.strongRecOn with
  | _ k ih =>
    intro n m hn hm
    obtain ⟨n, rfl⟩ : ∃ n', n = n' + 1 := ⟨n - 1, by omega⟩
    obtain ⟨m, rfl⟩ : ∃ m', m = m' + 1 := ⟨m - 1, by omega⟩
    funext xs
    simp only [gFix]
    cases hf : findT es k with
    | none => rfl
    | some t =>
      obtain ⟨h1, h2⟩ := findT_kl h hf
      refine kl_ok (fun j hj => ?_) t _ h1
      unfold rowF
      by_cases e1 : j = 1000
      · rw [if_pos e1, if_pos e1]
      · by_cases e2 : j = 900
        · rw [if_neg e1, if_neg e1, if_pos e2, if_pos e2]
        · rw [if_neg e1, if_neg e1, if_neg e2, if_neg e2]
          exact ih j (by omega) n m (by omega) (by omega)
theorem gAll_find {es : List En} (h : EnKl es = true) (z : List Int) (len cap : Int) {k : Nat} {t : T (List E)} (hf : findT es k = some t) (xs : List Int) :
    rowF (gAll es z len cap) z k xs = runT (rowF (gAll es z len cap) z) (len :: cap :: xs) t := by
  obtain ⟨h1, h2⟩ := findT_kl h hf
  have : rowF (gAll es z len cap) z k xs = gAll es z len cap k xs := by
    unfold rowF
    rw [if_neg (by omega), if_neg (by omega)]
  rw [this]
  unfold gAll
  simp only [gFix, hf]
  refine kl_ok (fun j hj => ?_) t _ h1
  unfold rowF
  by_cases e1 : j = 1000
  · rw [if_pos e1, if_pos e1]
  · by_cases e2 : j = 900
    · rw [if_neg e1, if_neg e1, if_pos e2, if_pos e2]
    · rw [if_neg e1, if_neg e1, if_neg e2, if_neg e2]
      exact gFix_st h z len cap j k (j + 1) (by omega) (by omega)
theorem gAll_ok {es : List En} (h : EnKl es = true) (z : List Int) (len cap : Int) : EnOK (gAll es z len cap) len cap z es := by
  have key : ∀ (l : List En), EnKl l = true → (∀ e ∈ l, findT es e.2.1.key = some e.2.2) → EnOK (gAll es z len cap) len cap z l := by
    intro l
    induction l with
    | nil => intro _ _; trivial
    | cons e l ih =>
      obtain ⟨f, c, t⟩ := e
      intro hk hf
      simp only [EnKl, Bool.and_eq_true] at hk
      exact ⟨fun xs => gAll_find h z len cap (hf (f, c, t) (List.mem_cons_self ..)) xs, ih hk.2 fun e he => hf e (List.mem_cons_of_mem _ he)⟩
  refine key es h ?_
  have look : ∀ (l : List En), EnKl l = true → ∀ e ∈ l, findT l e.2.1.key = some e.2.2 := by
    intro l
    induction l with
    | nil => intro _ e he; cases he
    | cons e0 l ih =>
      obtain ⟨f, c, t⟩ := e0
      intro hk e he
      simp only [EnKl, Bool.and_eq_true, List.all_eq_true] at hk
      simp only [findT]
      rcases List.mem_cons.1 he with rfl | he
      · rw [if_pos rfl]
      · have := blt_iff.1 (hk.1.2 e he)
        rw [if_neg (by omega)]
        exact ih hk.2 e he
  exact look es h
end Ev
namespace Ev
/-- A tree that gives numbers, and calls only functions of lesser keys. -/
def T.chk (c : MC) (t : T (List E)) : Bool := t.det c.M && t.kl c.key && (!c.clamp || t.rgd c.rng)
theorem chk_det {c : MC} {t : T (List E)} (h : t.chk c = true) : t.det c.M = true := by simp only [T.chk, Bool.and_eq_true] at h; exact h.1.1
theorem chk_kl {c : MC} {t : T (List E)} (h : t.chk c = true) : t.kl c.key = true := by simp only [T.chk, Bool.and_eq_true] at h; exact h.1.2
theorem chk_rgd {c : MC} {t : T (List E)} (h : t.chk c = true) (hc : c.clamp = true) : t.rgd c.rng = true := by
  simp only [T.chk, Bool.and_eq_true, hc] at h; simpa using h.2
theorem EnKl.cons {es : List En} (h : EnKl es = true) {f : FuncId} {c : MC} {t : T (List E)} (hc : t.chk c = true) (hk : (Nat.blt c.key 900 && (es.map fun e => e.2.1.key).all fun k => Nat.blt k c.key) = true) : EnKl ((f, c, t) :: es) = true := by
  simp only [Bool.and_eq_true, List.all_map] at hk
  simp only [EnKl, Bool.and_eq_true]
  exact ⟨⟨⟨chk_kl hc, hk.1⟩, hk.2⟩, h⟩
/-- What such a function gives is in its ranges. -/
theorem rng_of {g : Nat → List Int → List Int} {len cap : Int} {z : List Int} {c : MC} {t : T (List E)} (h : ∀ xs, rowF g z c.key xs = runT (rowF g z) (len :: cap :: xs) t) (hc : t.chk c = true) (hcl : c.clamp = true) (hk : Nat.blt c.key 900 = true) (xs : List Int) : RngOK c.rng (g c.key xs) := by
  have e : g c.key xs = rowF g z c.key xs := by
    have := blt_iff.1 hk
    unfold rowF
    rw [if_neg (by omega), if_neg (by omega)]
  rw [e, h]
  exact rgd_ok t _ (chk_rgd hc hcl)
end Ev
/-- A law with a list, ints, bools and structs, off its tree, with a table of contracts off trees. -/
theorem row_lawX {w : World} {a : Option Addr} {len cap : Nat} {z : List Int} (hrow : IsRow .i64 w a len cap z) {J : Nat → List Int → List Int → Prop} {es : List En} (hes : EnCon es) (hkl : EnKl es = true)
    {f : FuncId} {ss : List Sh} {F d : Nat} {r : List Int} {lh : FuncId → Nat → Option Hint} {t : T Leaf} (he : (evFn Try.prog (rowCtxE (exL es) [] lh) F d f (.sls 0 (.v 0) (.v 1) :: shsS ss 2) [] (rowFx (rngE 2 (ksRg (shsKs ss)))) (shsW ss + 2)).strip = t)
    (ht : ∀ g, EnOK g len cap z es → T.okJ J g LTrue ((len : Int) :: (cap : Int) :: r) t) (hr : KsOK (shsKs ss) r) :
    Calls Try.prog f (.slice a len cap :: shsV ss r).toArray w fun e w' => e = .returned (.bool true) ∧ Below w.heap.size w w' :=
  row_lawE hrow (g := gAll es z len cap) (l := []) trivial rfl (ex := exL es) (hes hrow (gAll_ok hkl z len cap)) he (ht _ (gAll_ok hkl z len cap)) hr
/-- The same, where all leaves are plainly true. -/
theorem row_trivX {w : World} {a : Option Addr} {len cap : Nat} {z : List Int} (hrow : IsRow .i64 w a len cap z) {es : List En} (hes : EnCon es) (hkl : EnKl es = true)
    {f : FuncId} {ss : List Sh} {F d : Nat} {r : List Int} {lh : FuncId → Nat → Option Hint} (ht : (evFn Try.prog (rowCtxE (exL es) [] lh) F d f (.sls 0 (.v 0) (.v 1) :: shsS ss 2) [] (rowFx (rngE 2 (ksRg (shsKs ss)))) (shsW ss + 2)).triv = true) (hr : KsOK (shsKs ss) r) :
    Calls Try.prog f (.slice a len cap :: shsV ss r).toArray w fun e w' => e = .returned (.bool true) ∧ Below w.heap.size w w' :=
  row_trivE hrow (g := gAll es z len cap) (l := []) trivial rfl (ex := exL es) (hes hrow (gAll_ok hkl z len cap)) ht hr
end Go.Proofs.Ytnnnmdmniceenaa
