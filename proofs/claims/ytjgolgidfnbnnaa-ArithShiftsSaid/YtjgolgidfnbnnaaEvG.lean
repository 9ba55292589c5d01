/- The evaluator: from a tree to a law's walk. -/
import Derived.Test.YtjgolgidfnbnnaaEvF
namespace Go.Proofs.Ytjgolgidfnbnnaa.Ev
open Go.RowKit
/-- The leaf says: true. -/
def LTrue : List Int → Leaf → Prop := fun ρ l => match l.1 with
  | .bool b => denB ρ b = true
  | _ => False
def env0 : Env := ⟨fun _ => 0, fun _ => 0⟩
theorem Rb_nil (ρ : List Int) (η : Env) (w : World) : Rb ρ η (getB []) w :=
  ⟨fun i T cs h => by simp [getB] at h, fun i j h => by simp [getB] at h⟩
theorem law_ok {P : Program} {C : Ctx} {Φ : Sig} (hC : CtxOK P Φ C) {draw : Array Oper → St → (St → T Leaf) → T Leaf} (hD : DrawOK P Φ LTrue draw) {F d : Nat} {f : FuncId} {args : List SV} {fx : Fx} {n : Nat} {ρ : List Int}
    {t : T Leaf} (he : evFn P C F d draw f args [] fx n = t) (ht : t.ok Φ LTrue ρ) (hn : ρ.length = n) (hf : FxOK ρ fx) {vs : Array Value} (hv : (args.map (denV ρ env0)).toArray = vs) (w : World) :
    Calls P f vs w fun e w' => e = .returned (.bool true) ∧ Below w.heap.size w w' := by
  subst hv
  exact (evFn_ok hC hD (he ▸ ht) hn hf (Rb_nil ρ env0 w)).mono fun e w' ⟨ρ', η', v, b', wd, he, hL, hd⟩ => by
    subst he
    refine ⟨?_, hd.io.1, hd.io.2.1, hd.io.2.2, hd.size, fun k hk => hd.frame k hk fun i _ hi => by simp at hi⟩
    unfold LTrue at hL
    split at hL
    · rename_i b hb
      simp only at hb
      rw [hb, denV, hL]
    · exact hL.elim
/-- No contract. -/
def noCtx : Ctx := fun _ => none
theorem noCtx_ok {P : Program} {Φ : Sig} : CtxOK P Φ noCtx := fun _ _ h => by cases h
def noSig : Sig := fun _ _ => []
theorem FxOK_nil (ρ : List Int) : FxOK ρ ⟨[], []⟩ := ⟨(fun _ h => by cases h), (fun _ h => by cases h)⟩
theorem FxOK_cons {ρ : List Int} {e : E} {l h : Int} {r : List (E × Int × Int)} (h1 : l ≤ den ρ e) (h2 : den ρ e ≤ h) (hr : FxOK ρ ⟨r, []⟩) : FxOK ρ ⟨(e, l, h) :: r, []⟩ :=
  ⟨fun p hp => by
    rcases List.mem_cons.1 hp with rfl | hp
    · exact ⟨h1, h2⟩
    · exact hr.1 p hp, (fun _ h => by cases h)⟩
theorem wf_bd {k : IntKind} {n : Int} (h : (Lit.int k n).wf = true) : k.min ≤ n ∧ n ≤ k.max := by
  simpa [Lit.wf] using h
end Go.Proofs.Ytjgolgidfnbnnaa.Ev
