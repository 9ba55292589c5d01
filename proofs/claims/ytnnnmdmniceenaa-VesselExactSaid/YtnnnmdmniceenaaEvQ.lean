/- Laws with a list and numbers, structs among them; loops whose invariants say more than ranges. -/
import Derived.Test.YtnnnmdmniceenaaSrc
import Derived.Test.YtnnnmdmniceenaaEvP
import Derived.Test.YtnnnmdmniceenaaEvR
set_option linter.unusedSimpArgs false
set_option linter.unusedVariables false
namespace Go.Proofs.Ytnnnmdmniceenaa
open Go.RowKit Ev
/-- A signature with invariants of its loops. -/
def Ev.Sig.withJ (Φ : Sig) (J : Nat → List Int → List Int → Prop) : Sig := { Φ with js := J }
theorem rb_js {Φ : Sig} {J : Nat → List Int → List Int → Prop} {ρ : List Int} {η : Env} {bl : Blk} {w : World} (h : Rb (Φ.withJ J) ρ η bl w) : Rb Φ ρ η bl w :=
  { al := h.al, pf := h.pf, gh := h.gh, ap := h.ap, holds := h.holds, inj := h.inj }
theorem ctx_js {P : Program} {Φ : Sig} {C : Ctx} (h : CtxOK P Φ C) (J : Nat → List Int → List Int → Prop) : CtxOK P (Φ.withJ J) C where
  fn := fun f c hc => ⟨(h.fn f c hc).1, fun args bl fx n nb r hr ρ η w h1 h2 h3 h4 h5 => (h.fn f c hc).2 args bl fx n nb r hr ρ η w h1 h2 h3 (rb_js h4) h5⟩
  ld := { pre := h.ld.pre, cell := h.ld.cell, bd := h.ld.bd, nil := h.ld.nil }
/-- A tree's law, the source's numbers being any of their ranges, the loops' invariants being given. -/
def T.okJ {α : Type} (J : Nat → List Int → List Int → Prop) (g : Nat → List Int → List Int) (L : List Int → α → Prop) : List Int → T α → Prop
  | ρ, .leaf a => L ρ a
  | ρ, .ite b t e => (denB ρ b = true → T.okJ J g L ρ t) ∧ (denB ρ b = false → T.okJ J g L ρ e)
  | ρ, .asr b t => denB ρ b = true ∧ T.okJ J g L ρ t
  | ρ, .call k es m t => if k = 900 then ∀ v p : Int, 0 ≤ v → (1 ≤ (es.map (den ρ)).getD 0 0 → v < (es.map (den ρ)).getD 0 0) → ((es.map (den ρ)).getD 0 0 < 1 → v = 0) → m = 2 ∧ T.okJ J g L (ρ ++ [v, p]) t
      else if k = 1000 then False else T.okJ J g L (ρ ++ fit m (g k (es.map (den ρ)))) t
  | ρ, .loop id es rg t => J id ρ (es.map (den ρ)) ∧ ∀ xs, xs.length = es.length → RngOK rg xs → J id ρ xs → T.okJ J g L (ρ ++ xs) t
  | ρ, .again id n es => J id (ρ.take n) (es.map (den ρ))
  | _, .bad => False
theorem src_key (z xs : List Int) : 0 ≤ (srcF z xs).getD 0 0 ∧ (1 ≤ xs.getD 0 0 → (srcF z xs).getD 0 0 < xs.getD 0 0) ∧ (xs.getD 0 0 < 1 → (srcF z xs).getD 0 0 = 0) := by
  unfold srcF
  split
  · exact ⟨Int.le_refl _, fun h1 => by show (0 : Int) < _; omega, fun _ => rfl⟩
  · simp only [List.getD_cons_zero]
    refine ⟨?_, fun h1 => (mkMod_bd _ h1).2, fun h1 => by unfold mkMod; rw [if_pos h1]⟩
    by_cases h1 : 1 ≤ xs.getD 0 0
    · exact (mkMod_bd _ h1).1
    · unfold mkMod; rw [if_pos (by omega)]; exact Int.le_refl _
theorem okJ_ok {α : Type} {J : Nat → List Int → List Int → Prop} {g : Nat → List Int → List Int} {L : List Int → α → Prop} {a : Option Addr} {len cap : Nat} {z : List Int} : ∀ (t : T α) (ρ : List Int), T.okJ J g L ρ t → t.ok ((rowSig g a len cap z).withJ J) L ρ
  | .leaf _, _, h => h
  | .ite b t e, ρ, h => ⟨fun hb => okJ_ok t ρ (h.1 hb), fun hb => okJ_ok e ρ (h.2 hb)⟩
  | .asr b t, ρ, h => ⟨h.1, okJ_ok t ρ h.2⟩
  | .call k es m t, ρ, h => by
    simp only [T.okJ] at h
    show T.ok _ L (ρ ++ fit m (rowF g z k (es.map (den ρ)))) t
    split at h
    · rename_i hk
      subst hk
      have hs : rowF g z 900 = srcF z := rfl
      rw [hs]
      have key := src_key z (es.map (den ρ))
      obtain ⟨h1, h2⟩ := h _ ((srcF z (es.map (den ρ))).getD 1 0) key.1 key.2.1 key.2.2
      subst h1
      exact okJ_ok t _ h2
    · rename_i hk
      split at h
      · exact h.elim
      · rename_i hk2
        have hs : rowF g z k = g k := by unfold rowF; rw [if_neg hk2, if_neg hk]
        rw [hs]
        exact okJ_ok t _ h
  | .loop id es rg t, ρ, h => ⟨h.1, fun xs h1 h2 h3 => okJ_ok t _ (h.2 xs h1 h2 h3)⟩
  | .again _ _ _, _, h => h
  | .bad, _, h => h.elim
/-- A law with a list, off its tree, with the loops' invariants. -/
theorem row_lawJ {w : World} {a : Option Addr} {len cap : Nat} {z : List Int} (hrow : IsRow .i64 w a len cap z) {J : Nat → List Int → List Int → Prop} {g : Nat → List Int → List Int} {l : List (FuncId × PC)} (h : TabOK Try.prog { f := g } l) (hk : l.all (fun p => decide (p.2.key < 900)) = true)
    {f : FuncId} {args : List SV} {F d : Nat} {fl : List (E × Int × Int)} {r : List Int} {n : Nat} {lh : FuncId → Nat → Option Hint} {t : T Leaf} (he : evFn Try.prog (rowCtx l lh) F d f args [] (rowFx fl) n = t) (ht : T.okJ J g LTrue ((len : Int) :: (cap : Int) :: r) t) (hn : r.length + 2 = n)
    (hf : ∀ p ∈ fl, p.2.1 ≤ den ((len : Int) :: (cap : Int) :: r) p.1 ∧ den ((len : Int) :: (cap : Int) :: r) p.1 ≤ p.2.2) {vs : Array Value} (hv : (args.map (denV ((len : Int) :: (cap : Int) :: r) (envΦ (rowSig g a len cap z)))).toArray = vs) :
    Calls Try.prog f vs w fun e w' => e = .returned (.bool true) ∧ Below w.heap.size w w' :=
  law_okG (Φ := (rowSig g a len cap z).withJ J) (ctx_js (rowCtx_ok hrow h hk) J) he (okJ_ok _ _ ht) (by simpa using hn) (rowFx_ok hrow hf) hv ⟨r, rfl⟩ (isRow_sig hrow g).1
/-! ### Structs among the arguments -/
def shsKs (ss : List Sh) : List Ck := ss.flatMap Sh.ks
theorem shsW_ks : ∀ ss : List Sh, shsW ss = (shsKs ss).length
  | [] => rfl
  | s :: ss => by
    have h : shsKs (s :: ss) = s.ks ++ shsKs ss := rfl
    rw [h, List.length_append, ← shsW_ks ss]
    cases s <;> rfl
theorem shV_more {s : Sh} {xs : List Int} (h : KsOK s.ks xs) (r : List Int) : shV s (xs ++ r) = shV s xs ∧ (xs ++ r).drop s.w = r := by
  have hl := h.length
  cases s with
  | one k =>
    match xs, hl with
    | [x], _ => exact ⟨rfl, rfl⟩
  | agg ks =>
    simp only [Sh.ks] at hl
    refine ⟨?_, by simp [Sh.w, ← hl]⟩
    have := cellsV_append (ks := ks) (kr := []) (xs := xs) (xr := r) hl
    simp only [List.append_nil] at this
    simp [shV, this, cellsV]
theorem shs_nil : KsOK (shsKs []) [] ∧ ([] : List Value) = shsV [] [] := ⟨trivial, rfl⟩
theorem shs_cons {s : Sh} {ss : List Sh} {v : Value} {vs : List Value} (h : ∃ xs, KsOK s.ks xs ∧ v = shV s xs) (h' : ∃ l, KsOK (shsKs ss) l ∧ vs = shsV ss l) : ∃ l, KsOK (shsKs (s :: ss)) l ∧ v :: vs = shsV (s :: ss) l := by
  obtain ⟨xs, h1, rfl⟩ := h
  obtain ⟨l, h2, rfl⟩ := h'
  refine ⟨xs ++ l, by simpa [shsKs] using h1.append h2, ?_⟩
  simp only [shsV, (shV_more h1 l).1, (shV_more h1 l).2]
/-- The ranges of kinds. -/
def ksRg (ks : List Ck) : List (Int × Int) := ks.map kB
theorem ksRg_ok : ∀ {ks : List Ck} {l : List Int} (pre : List Int), KsOK ks l → ∀ p ∈ rngE pre.length (ksRg ks), p.2.1 ≤ den (pre ++ l) p.1 ∧ den (pre ++ l) p.1 ≤ p.2.2
  | [], _, _, _ => fun p hp => by cases hp
  | k :: ks, x :: l, pre, h => fun p hp => by
    simp only [ksRg, List.map_cons, rngE] at hp
    rcases List.mem_cons.1 hp with rfl | hp
    · simpa [den] using h.1
    · have := ksRg_ok (ks := ks) (l := l) (pre ++ [x]) h.2 p (by simpa [ksRg] using hp)
      simpa using this
  | _ :: _, [], _, h => h.elim
theorem shs_den {ss : List Sh} {l : List Int} (h : KsOK (shsKs ss) l) (pre : List Int) (η : Env) : (shsS ss pre.length).map (denV (pre ++ l) η) = shsV ss l :=
  shsS_ok _ _ _ _ _ fun j hj => by
    rw [List.getD_eq_getElem?_getD, List.getD_eq_getElem?_getD, List.getElem?_append_right (by omega)]
    congr 2
    omega
/-- A law with a list and structs whose walk's leaves are all plainly true. -/
theorem row_trivS {w : World} {a : Option Addr} {len cap : Nat} {z : List Int} (hrow : IsRow .i64 w a len cap z) {g : Nat → List Int → List Int} {l : List (FuncId × PC)} (h : TabOK Try.prog { f := g } l) (hk : l.all (fun p => decide (p.2.key < 900)) = true)
    {f : FuncId} {ss : List Sh} {F d : Nat} {r : List Int} {lh : FuncId → Nat → Option Hint} (ht : (evFn Try.prog (rowCtx l lh) F d f (.sls 0 (.v 0) (.v 1) :: shsS ss 2) [] (rowFx (rngE 2 (ksRg (shsKs ss)))) (shsW ss + 2)).triv = true) (hr : KsOK (shsKs ss) r) :
    Calls Try.prog f (.slice a len cap :: shsV ss r).toArray w fun e w' => e = .returned (.bool true) ∧ Below w.heap.size w w' :=
  row_triv hrow h hk ht (show r.length + 2 = shsW ss + 2 by rw [hr.length, shsW_ks]) (ksRg_ok [(len : Int), (cap : Int)] hr) (by
    have := shs_den hr [(len : Int), (cap : Int)] (envΦ (rowSig g a len cap z))
    have e : denV ([(len : Int), (cap : Int)] ++ r) (envΦ (rowSig g a len cap z)) (.sls 0 (.v 0) (.v 1)) = .slice a len cap := by simp [denV, den, envΦ, rowSig]
    exact congrArg List.toArray (congr (congrArg List.cons e) this))
/-- A law with a list and structs, off its tree, with the loops' invariants. -/
theorem row_lawS {w : World} {a : Option Addr} {len cap : Nat} {z : List Int} (hrow : IsRow .i64 w a len cap z) {J : Nat → List Int → List Int → Prop} {g : Nat → List Int → List Int} {l : List (FuncId × PC)} (h : TabOK Try.prog { f := g } l) (hk : l.all (fun p => decide (p.2.key < 900)) = true)
    {f : FuncId} {ss : List Sh} {F d : Nat} {r : List Int} {lh : FuncId → Nat → Option Hint} {t : T Leaf} (he : evFn Try.prog (rowCtx l lh) F d f (.sls 0 (.v 0) (.v 1) :: shsS ss 2) [] (rowFx (rngE 2 (ksRg (shsKs ss)))) (shsW ss + 2) = t)
    (ht : T.okJ J g LTrue ((len : Int) :: (cap : Int) :: r) t) (hr : KsOK (shsKs ss) r) :
    Calls Try.prog f (.slice a len cap :: shsV ss r).toArray w fun e w' => e = .returned (.bool true) ∧ Below w.heap.size w w' :=
  row_lawJ hrow h hk he ht (show r.length + 2 = shsW ss + 2 by rw [hr.length, shsW_ks]) (ksRg_ok [(len : Int), (cap : Int)] hr) (by
    have := shs_den hr [(len : Int), (cap : Int)] (envΦ (rowSig g a len cap z))
    have e : denV ([(len : Int), (cap : Int)] ++ r) (envΦ (rowSig g a len cap z)) (.sls 0 (.v 0) (.v 1)) = .slice a len cap := by simp [denV, den, envΦ, rowSig]
    exact congrArg List.toArray (congr (congrArg List.cons e) this))
theorem strip_okJ {J : Nat → List Int → List Int → Prop} {g : Nat → List Int → List Int} : ∀ (t : T Leaf) (ρ : List Int), T.okJ J g LTrue ρ t.strip → T.okJ J g LTrue ρ t
  | .leaf _, ρ, h => h
  | .ite b t e, ρ, h => ⟨fun hb => strip_okJ t ρ (h.1 hb), fun hb => strip_okJ e ρ (h.2 hb)⟩
  | .asr b t, ρ, h => ⟨h.1, strip_okJ t ρ h.2⟩
  | .call k es m t, ρ, h => by
    simp only [T.strip, T.okJ] at h ⊢
    split
    · rename_i hk
      rw [if_pos hk] at h
      exact fun v p h1 h2 h3 => ⟨(h v p h1 h2 h3).1, strip_okJ t _ (h v p h1 h2 h3).2⟩
    · rename_i hk
      rw [if_neg hk] at h
      split
      · rename_i hk2; rw [if_pos hk2] at h; exact h
      · rename_i hk2; rw [if_neg hk2] at h; exact strip_okJ t _ h
  | .loop id es rg t, ρ, h => ⟨h.1, fun xs h1 h2 h3 => strip_okJ t _ (h.2 xs h1 h2 h3)⟩
  | .again _ _ _, _, h => h
  | .bad, _, h => h
/-- A law with a list and structs, off its tree, the leaves' values alone. -/
theorem row_lawSS {w : World} {a : Option Addr} {len cap : Nat} {z : List Int} (hrow : IsRow .i64 w a len cap z) {J : Nat → List Int → List Int → Prop} {g : Nat → List Int → List Int} {l : List (FuncId × PC)} (h : TabOK Try.prog { f := g } l) (hk : l.all (fun p => decide (p.2.key < 900)) = true)
    {f : FuncId} {ss : List Sh} {F d : Nat} {r : List Int} {lh : FuncId → Nat → Option Hint} {t : T Leaf} (he : (evFn Try.prog (rowCtx l lh) F d f (.sls 0 (.v 0) (.v 1) :: shsS ss 2) [] (rowFx (rngE 2 (ksRg (shsKs ss)))) (shsW ss + 2)).strip = t)
    (ht : T.okJ J g LTrue ((len : Int) :: (cap : Int) :: r) t) (hr : KsOK (shsKs ss) r) :
    Calls Try.prog f (.slice a len cap :: shsV ss r).toArray w fun e w' => e = .returned (.bool true) ∧ Below w.heap.size w w' :=
  row_lawS hrow h hk rfl (strip_okJ _ _ (he ▸ ht)) hr
end Go.Proofs.Ytnnnmdmniceenaa
