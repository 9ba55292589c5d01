/- Trees whose leaves bear the value alone. -/
import Derived.Test.YtnnnmdmniceenaaEvH
set_option linter.unusedSimpArgs false
set_option linter.unusedVariables false
namespace Go.Proofs.Ytnnnmdmniceenaa.Ev
open Go.RowKit
/-- The value alone, its test not said again if it is known. -/
def T.strip : T Leaf → T Leaf
  | .leaf l => .leaf (l.1, [], [])
  | .ite b t e => .ite b t.strip e.strip
  | .asr b t => .asr b t.strip
  | .call k es m t => .call k es m t.strip
  | .bad => .bad
  | .loop id es rg t => .loop id es rg t.strip
  | .again id n es => .again id n es
theorem strip_ok {Φ : Sig} {L : List Int → Leaf → Prop} (hL : ∀ ρ l, L ρ (l.1, [], []) → L ρ l) : ∀ (t : T Leaf) (ρ : List Int), t.strip.ok Φ L ρ → t.ok Φ L ρ
  | .leaf _, ρ, h => hL ρ _ h
  | .ite b t e, ρ, h => ⟨fun hb => strip_ok hL t ρ (h.1 hb), fun hb => strip_ok hL e ρ (h.2 hb)⟩
  | .asr b t, ρ, h => ⟨h.1, strip_ok hL t ρ h.2⟩
  | .call k es m t, ρ, h => strip_ok hL t _ h
  | .loop id es rg t, ρ, h => ⟨h.1, fun xs h1 h2 h3 => strip_ok hL t _ (h.2 xs h1 h2 h3)⟩
  | .again _ _ _, _, h => h
  | .bad, _, h => h
theorem LVal_strip {x : Value} (ρ : List Int) (l : Leaf) (h : LVal x ρ (l.1, [], [])) : LVal x ρ l := h
theorem LTrue_strip (ρ : List Int) (l : Leaf) (h : LTrue ρ (l.1, [], [])) : LTrue ρ l := h
/-- A contract off a tree, the leaves' values alone. -/
theorem pc_of_treeS {P : Program} {C : Ctx} {Φ : Sig} (hC : CtxOK P Φ C) (hpre : Φ.pre = []) (hgood : ∀ w, Φ.good w) {F d : Nat} {f : FuncId} {c : PC} {g : List Int → List Int}
    (hb : BodyOK P f = true) (hw : decide (c.rng.length ≤ shsW c.res) = true) (hdl : c.dom.length = shsW c.args) {t : T Leaf} (he : (evFn P C F d f (shsS c.args 0) [] ⟨rngE 0 c.dom, []⟩ c.dom.length).strip = t)
    (hok : ∀ xs : List Int, xs.length = c.dom.length → (∀ p ∈ rngE 0 c.dom, p.2.1 ≤ den xs p.1 ∧ den xs p.1 ≤ p.2.2) →
      RngOK c.rng (g xs) ∧ t.ok Φ (LVal (retV c.res (g xs))) xs) : PCOK P f c g :=
  pc_of_tree hC hpre hgood hb hw hdl rfl fun xs h1 h2 => ⟨(hok xs h1 h2).1, strip_ok LVal_strip _ _ (by rw [he]; exact (hok xs h1 h2).2)⟩
end Go.Proofs.Ytnnnmdmniceenaa.Ev
