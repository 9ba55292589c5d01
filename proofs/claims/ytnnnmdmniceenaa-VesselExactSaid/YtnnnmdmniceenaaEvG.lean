/- The evaluator: from a tree to a law's walk. -/
import Derived.Test.YtnnnmdmniceenaaEvF
set_option linter.unusedSimpArgs false
set_option linter.unusedVariables false
namespace Go.Proofs.Ytnnnmdmniceenaa.Ev
open Go.RowKit
/-- The leaf says: true. -/
def LTrue : List Int → Leaf → Prop := fun ρ l => match l.1 with
  | .bool b => denB ρ b = true
  | _ => False
def env0 : Env := ⟨fun _ => 0, fun _ => 0, fun _ => none⟩
/-- The environment of a law: the caller's lists lie where they lie. -/
def envΦ (Φ : Sig) : Env := ⟨fun _ => 0, fun _ => 0, Φ.α⟩
theorem Rb_nil {Φ : Sig} {ρ : List Int} {w : World} (hp : ∃ s, ρ = Φ.pre ++ s) (hg : Φ.good w) : Rb Φ ρ (envΦ Φ) (getB []) w :=
  ⟨rfl, hp, hg, fun i h => by simp [getB] at h, fun i T cs h => by simp [getB] at h, fun i j h => by simp [getB] at h⟩
theorem law_okG {P : Program} {C : Ctx} {Φ : Sig} (hC : CtxOK P Φ C) {F d : Nat} {f : FuncId} {args : List SV} {fx : Fx} {n : Nat} {ρ : List Int}
    {t : T Leaf} (he : evFn P C F d f args [] fx n = t) (ht : t.ok Φ LTrue ρ) (hn : ρ.length = n) (hf : FxOK ρ fx) {vs : Array Value} (hv : (args.map (denV ρ (envΦ Φ))).toArray = vs) {w : World}
    (hp : ∃ s, ρ = Φ.pre ++ s) (hg : Φ.good w) :
    Calls P f vs w fun e w' => e = .returned (.bool true) ∧ Below w.heap.size w w' := by
  subst hv
  exact (evFn_ok hC (he ▸ ht) hn hf (Rb_nil hp hg)).mono fun e w' ⟨ρ', η', v, b', wd, he, hL, hd⟩ => by
    subst he
    refine ⟨?_, hd.io.1, hd.io.2.1, hd.io.2.2, hd.size, fun k hk => hd.frame k hk fun i _ hi => by simp at hi⟩
    unfold LTrue at hL
    split at hL
    · rename_i b hb
      simp only at hb
      rw [hb, denV, hL]
    · exact hL.elim
/-- A law of numbers alone. -/
theorem law_ok {P : Program} {C : Ctx} {g : Nat → List Int → List Int} (hC : CtxOK P { f := g } C) {F d : Nat} {f : FuncId} {args : List SV} {fx : Fx} {n : Nat} {ρ : List Int}
    {t : T Leaf} (he : evFn P C F d f args [] fx n = t) (ht : t.ok { f := g } LTrue ρ) (hn : ρ.length = n) (hf : FxOK ρ fx) {vs : Array Value} (hv : (args.map (denV ρ env0)).toArray = vs) (w : World) :
    Calls P f vs w fun e w' => e = .returned (.bool true) ∧ Below w.heap.size w w' :=
  law_okG hC he ht hn hf hv ⟨ρ, rfl⟩ trivial
/-- No contract. -/
theorem noLd (Φ : Sig) : LdOK Φ fun _ => none := ⟨(fun _ _ _ h => by cases h), (fun _ _ _ h => by cases h), (fun _ _ _ h => by cases h), (fun _ _ _ h => by cases h)⟩
def noCtx : Ctx := { fn := fun _ => none }
theorem noCtx_ok {P : Program} {Φ : Sig} : CtxOK P Φ noCtx := ⟨(fun _ _ h => by cases h), noLd Φ⟩
def noSig : Sig := { f := fun _ _ => [] }
theorem FxOK_nil (ρ : List Int) : FxOK ρ fx0 := ⟨FsOK.of (fun _ h => by cases h), (fun _ h => by cases h)⟩
theorem FxOK_of {ρ : List Int} {l : List (E × Int × Int)} (h : ∀ p ∈ l, p.2.1 ≤ den ρ p.1 ∧ den ρ p.1 ≤ p.2.2) : FxOK ρ ⟨Fs.of l, []⟩ := ⟨FsOK.of h, (fun _ h => by cases h)⟩
theorem FxOK_cons {ρ : List Int} {e : E} {l h : Int} {r : List (E × Int × Int)} (h1 : l ≤ den ρ e) (h2 : den ρ e ≤ h) (hr : FxOK ρ ⟨Fs.of r, []⟩) : FxOK ρ ⟨Fs.of ((e, l, h) :: r), []⟩ := ⟨hr.1.put ⟨h1, h2⟩, (fun _ h => by cases h)⟩
theorem wf_bd {k : IntKind} {n : Int} (h : (Lit.int k n).wf = true) : k.min ≤ n ∧ n ≤ k.max := by
  simpa [Lit.wf] using h
end Go.Proofs.Ytnnnmdmniceenaa.Ev
