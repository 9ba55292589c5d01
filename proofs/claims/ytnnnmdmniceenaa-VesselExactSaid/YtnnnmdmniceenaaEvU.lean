/- Contracts whose values are told by a template; laws with such contracts. -/
import Derived.Test.YtnnnmdmniceenaaEvQ
set_option linter.unusedSimpArgs false
set_option linter.unusedVariables false
namespace Go.Proofs.Ytnnnmdmniceenaa
open Go.RowKit Ev
namespace Ev
/-- What a template says at a call: what it asks, how many numbers it draws, its value, and what is known of the numbers. -/
structure Tpl where
  asr : List B
  m : Nat
  v : SV
  rng : List (E × Int × Int)
def tcon (c : PC) (key : Nat) (tp : Fx → List E → Nat → Option Tpl) : Con := fun vs _ fx n _ => match shsE fx c.args vs with
  | some es => match tp fx es n with
    | some t => some { v := t.v, wr := [], nn := 0, asr := askN fx (t.asr ++ askR c.dom es), cal := some (key, es, t.m), rng := t.rng }
    | none => none
  | none => none
/-- What is to be proved of a template. -/
def TplOK (c : PC) (g gx : List Int → List Int) (tp : Fx → List E → Nat → Option Tpl) : Prop :=
  ∀ fx es n t, tp fx es n = some t → ∀ ρ, FxOK ρ fx → es.length = shsW c.args → (∀ b ∈ t.asr, denB ρ b = true) → (∀ b ∈ askR c.dom es, denB ρ b = true) →
    (∀ i, i < t.m → ρ.getD (n + i) 0 = (gx (es.map (den ρ))).getD i 0) →
    (∀ p ∈ t.rng, p.2.1 ≤ den ρ p.1 ∧ den ρ p.1 ≤ p.2.2) ∧ ∀ η, denV ρ η t.v = retV c.res (g (es.map (den ρ)))
theorem tcon_ok {P : Program} {Φ : Sig} {f : FuncId} {c : PC} {g : List Int → List Int} (h : PCOK P f c g) {key : Nat} {gx : List Int → List Int} (hk : Φ key = gx) {tp : Fx → List E → Nat → Option Tpl} (ht : TplOK c g gx tp) : ConOK P Φ f (tcon c key tp) := by
  refine ⟨h.body, fun vs bl fx n nb r hr ρ η w hf hcal hasr hb hbn => ?_⟩
  unfold tcon at hr
  split at hr
  · rename_i es hes
    split at hr
    · rename_i t hte
      simp only [Option.some.injEq] at hr; subst hr
      obtain ⟨h1, h2⟩ := shsE_ok hf η hes
      have hres := hcal _ _ _ rfl
      rw [hk] at hres
      have hall := askN_ok hf hasr
      obtain ⟨_, hr2⟩ := h.call es ρ h1 fun b hb' => hall b (List.mem_append_right _ hb')
      obtain ⟨k1, k2⟩ := ht fx es n t hte ρ hf h1 (fun b hb' => hall b (List.mem_append_left _ hb')) (fun b hb' => hall b (List.mem_append_right _ hb')) hres
      refine ⟨k1, ?_⟩
      rw [h2]
      refine (hr2 w).mono fun e w' ⟨he, hB⟩ => ⟨η, ?_, ?_⟩
      · rw [he, k2]
      · exact { size := hB.size, io := ⟨hB.os, hB.tape, hB.output⟩, al := rfl, same := fun _ _ => ⟨rfl, rfl⟩, frame := fun b hb' _ => hB.block b hb'
                made := fun i T cs hm => by cases hm
                fresh := fun i h1 h2 => by simp only [] at h2; omega
                apart := fun i j h1 h2 => by simp only [] at h2; omega
                known := fun p hp => by cases hp
                once := by simp }
    · simp at hr
  · simp at hr
end Ev
/-- The table of a law with a list, and further contracts ahead of it. -/
def rowCtxE (ex : FuncId → Option Con) (l : List (FuncId × PC)) (lh : FuncId → Nat → Option Hint := fun _ _ => none) : Ctx := { fn := fun f => match ex f with | some c => some c | none => (rowCtx l lh).fn f, ld := rowLd, lh := lh }
theorem rowCtxE_ok {w0 : World} {a : Option Addr} {len cap : Nat} {z : List Int} (hrow : IsRow .i64 w0 a len cap z) {g : Nat → List Int → List Int} {l : List (FuncId × PC)} (h : TabOK Try.prog { f := g } l) (hk : l.all (fun p => decide (p.2.key < 900)) = true) {lh : FuncId → Nat → Option Hint}
    {ex : FuncId → Option Con} (hex : ∀ f c, ex f = some c → ConOK Try.prog (rowSig g a len cap z) f c) : CtxOK Try.prog (rowSig g a len cap z) (rowCtxE ex l lh) where
  fn := fun f c hc => by
    simp only [rowCtxE] at hc
    split at hc
    · rename_i c' hc'
      simp only [Option.some.injEq] at hc; subst hc
      exact hex f _ hc'
    · exact (rowCtx_ok hrow h hk (lh := lh)).fn f c hc
  ld := (rowCtx_ok hrow h hk (lh := lh)).ld
theorem row_key {g : Nat → List Int → List Int} {a : Option Addr} {len cap : Nat} {z : List Int} {k : Nat} (h : k < 900) : (rowSig g a len cap z) k = g k := by
  show rowF g z k = g k
  unfold rowF
  rw [if_neg (by omega), if_neg (by omega)]
/-- A law with a list and structs whose walk's leaves are all plainly true. -/
theorem row_trivE {w : World} {a : Option Addr} {len cap : Nat} {z : List Int} (hrow : IsRow .i64 w a len cap z) {g : Nat → List Int → List Int} {l : List (FuncId × PC)} (h : TabOK Try.prog { f := g } l) (hk : l.all (fun p => decide (p.2.key < 900)) = true)
    {ex : FuncId → Option Con} (hex : ∀ f c, ex f = some c → ConOK Try.prog (rowSig g a len cap z) f c)
    {f : FuncId} {ss : List Sh} {F d : Nat} {r : List Int} {lh : FuncId → Nat → Option Hint} (ht : (evFn Try.prog (rowCtxE ex l lh) F d f (.sls 0 (.v 0) (.v 1) :: shsS ss 2) [] (rowFx (rngE 2 (ksRg (shsKs ss)))) (shsW ss + 2)).triv = true) (hr : KsOK (shsKs ss) r) :
    Calls Try.prog f (.slice a len cap :: shsV ss r).toArray w fun e w' => e = .returned (.bool true) ∧ Below w.heap.size w w' :=
  law_okG (ρ := (len : Int) :: (cap : Int) :: r) (rowCtxE_ok hrow h hk hex) rfl (triv_ok rfl _ _ ht) (show r.length + 2 = shsW ss + 2 by rw [hr.length, shsW_ks]) (rowFx_ok hrow (ksRg_ok [(len : Int), (cap : Int)] hr)) (by
    have := shs_den hr [(len : Int), (cap : Int)] (envΦ (rowSig g a len cap z))
    have e : denV ([(len : Int), (cap : Int)] ++ r) (envΦ (rowSig g a len cap z)) (.sls 0 (.v 0) (.v 1)) = .slice a len cap := by simp [denV, den, envΦ, rowSig]
    exact congrArg List.toArray (congr (congrArg List.cons e) this)) ⟨r, rfl⟩ (isRow_sig hrow g).1
/-- A law with a list and structs, off its tree, with the loops' invariants. -/
theorem row_lawE {w : World} {a : Option Addr} {len cap : Nat} {z : List Int} (hrow : IsRow .i64 w a len cap z) {J : Nat → List Int → List Int → Prop} {g : Nat → List Int → List Int} {l : List (FuncId × PC)} (h : TabOK Try.prog { f := g } l) (hk : l.all (fun p => decide (p.2.key < 900)) = true)
    {ex : FuncId → Option Con} (hex : ∀ f c, ex f = some c → ConOK Try.prog (rowSig g a len cap z) f c)
    {f : FuncId} {ss : List Sh} {F d : Nat} {r : List Int} {lh : FuncId → Nat → Option Hint} {t : T Leaf} (he : (evFn Try.prog (rowCtxE ex l lh) F d f (.sls 0 (.v 0) (.v 1) :: shsS ss 2) [] (rowFx (rngE 2 (ksRg (shsKs ss)))) (shsW ss + 2)).strip = t)
    (ht : T.okJ J g LTrue ((len : Int) :: (cap : Int) :: r) t) (hr : KsOK (shsKs ss) r) :
    Calls Try.prog f (.slice a len cap :: shsV ss r).toArray w fun e w' => e = .returned (.bool true) ∧ Below w.heap.size w w' :=
  law_okG (Φ := (rowSig g a len cap z).withJ J) (ρ := (len : Int) :: (cap : Int) :: r) (ctx_js (rowCtxE_ok hrow h hk hex) J) rfl (okJ_ok _ _ (strip_okJ _ _ (he ▸ ht))) (show r.length + 2 = shsW ss + 2 by rw [hr.length, shsW_ks]) (rowFx_ok hrow (ksRg_ok [(len : Int), (cap : Int)] hr)) (by
    have := shs_den hr [(len : Int), (cap : Int)] (envΦ (rowSig g a len cap z))
    have e : denV ([(len : Int), (cap : Int)] ++ r) (envΦ (rowSig g a len cap z)) (.sls 0 (.v 0) (.v 1)) = .slice a len cap := by simp [denV, den, envΦ, rowSig]
    exact congrArg List.toArray (congr (congrArg List.cons e) this)) ⟨r, rfl⟩ (isRow_sig hrow g).1
end Go.Proofs.Ytnnnmdmniceenaa
