/- Laws whose first argument is a list of numbers, and the source that gives them out. -/
import Derived.Test.YtnnnmdmniceenaaEvH
set_option linter.unusedSimpArgs false
set_option linter.unusedVariables false
namespace Go.Proofs.Ytnnnmdmniceenaa
open Go.RowKit
/-- What the walk is told of a slice of integers that came in (the kit's own wording). -/
def IsRow (k : IntKind) (w : World) (a : Option Addr) (len cap : Nat) (zs : List Int) : Prop :=
  (a = none ∧ len = 0 ∧ cap = 0 ∧ zs = []) ∨
  ∃ x, a = some x ∧ len ≤ cap ∧ cap ≤ maxLen ∧ zs.length = cap ∧ (∀ i, i < zs.length → w.cell? (x.add i) = some (.int k (zs.getD i 0))) ∧ ∀ n ∈ zs, (Lit.int k n).wf = true
namespace Ev

/-! ### Trees whose calls are told by a relation -/
def T.okR {α : Type} (J R : Nat → List Int → List Int → Prop) (L : List Int → α → Prop) : List Int → T α → Prop
  | ρ, .leaf a => L ρ a
  | ρ, .ite b t e => (denB ρ b = true → t.okR J R L ρ) ∧ (denB ρ b = false → e.okR J R L ρ)
  | ρ, .asr b t => denB ρ b = true ∧ t.okR J R L ρ
  | ρ, .call k es m t => ∀ rs, rs.length = m → R k (es.map (den ρ)) rs → t.okR J R L (ρ ++ rs)
  | ρ, .loop id es rg t => J id ρ (es.map (den ρ)) ∧ ∀ xs, xs.length = es.length → RngOK rg xs → J id ρ xs → t.okR J R L (ρ ++ xs)
  | ρ, .again id n es => J id (ρ.take n) (es.map (den ρ))
  | _, .bad => False
theorem okR_ok {α : Type} {Φ : Sig} {J R : Nat → List Int → List Int → Prop} (hJ : Φ.js = J) {L : List Int → α → Prop} (hR : ∀ k as m, R k as (fit m (Φ k as))) : ∀ (t : T α) (ρ : List Int), t.okR J R L ρ → t.ok Φ L ρ
  | .leaf _, _, h => h
  | .ite b t e, ρ, h => ⟨fun hb => okR_ok hJ hR t ρ (h.1 hb), fun hb => okR_ok hJ hR e ρ (h.2 hb)⟩
  | .asr b t, ρ, h => ⟨h.1, okR_ok hJ hR t ρ h.2⟩
  | .call k es m t, ρ, h => okR_ok hJ hR t _ (h _ (by simp [fit]) (hR _ _ _))
  | .loop id es rg t, ρ, h => ⟨by rw [hJ]; exact h.1, fun xs h1 h2 h3 => okR_ok hJ hR t _ (h.2 xs h1 h2 (by rw [← hJ]; exact h3))⟩
  | .again id n es, ρ, h => by show Φ.js id _ _; rw [hJ]; exact h
  | .bad, _, h => h.elim
/-- Every leaf is plainly true. -/
def trueLeaf (l : Leaf) : Bool := match l.1 with
  | .bool (.lit b) => b
  | _ => false
theorem trueLeaf_ok {l : Leaf} (h : trueLeaf l = true) (ρ : List Int) : LTrue ρ l := by
  unfold trueLeaf at h
  unfold LTrue
  split at h
  · rename_i b hb
    rw [hb]; exact h
  · cases h
def T.triv : T Leaf → Bool
  | .leaf l => trueLeaf l
  | .ite _ t e => t.triv && e.triv
  | .asr _ _ => false
  | .call _ _ _ t => t.triv
  | .loop _ _ _ t => t.triv
  | .again _ _ _ => true
  | .bad => false
theorem triv_ok {Φ : Sig} (hJ : Φ.js = fun _ _ _ => True) : ∀ (t : T Leaf) (ρ : List Int), t.triv = true → t.ok Φ LTrue ρ
  | .leaf l, ρ, h => trueLeaf_ok h ρ
  | .ite b t e, ρ, h => by
    simp only [T.triv, Bool.and_eq_true] at h
    exact ⟨fun _ => triv_ok hJ t ρ h.1, fun _ => triv_ok hJ e ρ h.2⟩
  | .asr b t, ρ, h => by simp [T.triv] at h
  | .call k es m t, ρ, h => triv_ok hJ t _ h
  | .loop id es rg t, ρ, h => ⟨by rw [hJ]; trivial, fun xs _ _ _ => triv_ok hJ t _ h⟩
  | .again id n es, ρ, h => by show Φ.js id _ _; rw [hJ]; trivial
  | .bad, _, h => by simp [T.triv] at h

/-! ### A caller's list -/
theorem add_block (x : Addr) (i : Nat) : (x.add i).block = x.block := by unfold Addr.add; split <;> rfl
theorem cell_block {w w' : World} {x : Addr} (h : w'.heap[x.block]? = w.heap[x.block]?) : w'.cell? x = w.cell? x := by
  unfold World.cell?; rw [h]
theorem cell_lt {w : World} {x : Addr} {v : Value} (h : w.cell? x = some v) : x.block < w.heap.size := by
  unfold World.cell? at h
  split at h
  · rename_i c _ _ hc; exact (Array.getElem?_eq_some_iff.1 hc).1
  · cases h
def mkMod (x n : Int) : Int := if n < 1 then 0 else (x.tmod n + n).tmod n
/-- What the source gives: [the number, its new place] of [the bound, the list's length, the place]. -/
def srcF (z : List Int) (l : List Int) : List Int :=
  if l.getD 1 0 ≤ l.getD 2 0 then [0, l.getD 2 0] else [mkMod (z.getD (l.getD 2 0).toNat 0) (l.getD 0 0), l.getD 2 0 + 1]
def rowF (g : Nat → List Int → List Int) (z : List Int) (k : Nat) : List Int → List Int :=
  if k = 1000 then fun l => [z.getD (l.getD 0 0).toNat 0] else if k = 900 then srcF z else g k
def rowSig (g : Nat → List Int → List Int) (a : Option Addr) (len cap : Nat) (z : List Int) : Sig where
  f := rowF g z
  α := fun _ => a
  pre := [(len : Int), (cap : Int)]
  raw := if cap = 0 then [] else a.toList.map (·.block)
  good := fun w => ∀ x, a = some x → ∀ i, i < cap → w.cell? (x.add i) = some (.int .i64 (z.getD i 0))
  lt := fun w h b hb => by
    split at hb
    · cases hb
    · rename_i hc
      cases a with
      | none => cases hb
      | some x =>
        simp only [Option.toList, List.map_cons, List.map_nil, List.mem_singleton] at hb
        subst hb
        have := cell_lt (h x rfl 0 (by omega))
        rwa [add_block] at this
  stable := fun w w' h hs x hx i hi => by
    rw [cell_block (w := w) (by
      rw [add_block]
      refine hs _ ?_
      rw [if_neg (by omega), hx]
      simp)]
    exact h x hx i hi
abbrev rowLd : Ld := fun k => if k = 0 then some ([some .i64], 0) else none
theorem isRow_sig {w : World} {a : Option Addr} {len cap : Nat} {z : List Int} (h : IsRow .i64 w a len cap z) (g : Nat → List Int → List Int) :
    (rowSig g a len cap z).good w ∧ LdOK (rowSig g a len cap z) rowLd ∧ len ≤ cap ∧ cap ≤ maxLen := by
  have hw : ∀ i : Nat, (IntKind.min .i64 ≤ z.getD i 0 ∧ z.getD i 0 ≤ IntKind.max .i64) := fun i => by
    by_cases hi : i < z.length
    · rcases h with ⟨_, _, _, rfl⟩ | ⟨x, _, _, _, _, _, hz⟩
      · simp at hi
      · have := wf_bd (hz z[i] (List.getElem_mem hi))
        simpa [List.getD_eq_getElem?_getD, hi] using this
    · rw [List.getD_eq_getElem?_getD, List.getElem?_eq_none (by omega)]
      simp [IntKind.min, IntKind.max, IntKind.signed, IntKind.bits]
  have hc : len ≤ cap ∧ cap ≤ maxLen := by
    rcases h with ⟨_, rfl, rfl, _⟩ | ⟨x, _, h1, h2, _⟩
    · exact ⟨Nat.le_refl _, Nat.zero_le _⟩
    · exact ⟨h1, h2⟩
  have hg : (rowSig g a len cap z).good w := by
    intro x hx i hi
    rcases h with ⟨h0, _⟩ | ⟨y, h0, _, _, hl, hcell, _⟩
    · rw [h0] at hx; cases hx
    · rw [h0] at hx; simp only [Option.some.injEq] at hx; subst hx
      exact hcell i (by omega)
  refine ⟨hg, ?_, hc.1, hc.2⟩
  have one : ∀ {k ks j}, rowLd k = some (ks, j) → k = 0 ∧ ks = [some .i64] ∧ j = 0 := fun hk => by
    unfold rowLd at hk
    split at hk
    · rename_i h0; simp only [Option.some.injEq, Prod.mk.injEq] at hk; exact ⟨h0, hk.1.symm, hk.2.symm⟩
    · cases hk
  exact {
    pre := fun k ks j hk => by obtain ⟨_, _, rfl⟩ := one hk; simp [rowSig]
    nil := fun k ks j hk hp => by
      obtain ⟨rfl, rfl, rfl⟩ := one hk
      simp only [rowSig, List.getD_cons_zero] at hp
      rcases h with ⟨_, h0, _⟩ | ⟨x, h0, _⟩
      · omega
      · exact ⟨x, h0⟩
    cell := fun k ks j hk w' hw' i hi c kd hkd => by
      obtain ⟨rfl, rfl, rfl⟩ := one hk
      have hi : (i : Int) < len := by simpa [rowSig] using hi
      obtain ⟨x, hx⟩ : ∃ x, a = some x := by
        rcases h with ⟨_, h0, _⟩ | ⟨x, h0, _⟩
        · omega
        · exact ⟨x, h0⟩
      have hc0 : c = 0 := by
        have := (List.getElem?_eq_some_iff.1 hkd).1
        simpa using this
      subst hc0
      simp only [List.getElem?_cons_zero, Option.some.injEq] at hkd
      subst hkd
      have := hw' x hx i (by omega)
      simp [rowSig, rowF, ldKey, hx, kV, this]
    bd := fun k ks j hk i hi c kd hkd => by
      obtain ⟨rfl, rfl, rfl⟩ := one hk
      have hc0 : c = 0 := by
        have := (List.getElem?_eq_some_iff.1 hkd).1
        simpa using this
      subst hc0
      simp only [List.getElem?_cons_zero, Option.some.injEq] at hkd
      subst hkd
      have := hw i
      simpa [rowSig, rowF, ldKey, kB] using this }
/-- The contracts of numbers alone hold for a law with a list, too. -/
theorem rowTab {P : Program} {g : Nat → List Int → List Int} {a : Option Addr} {len cap : Nat} {z : List Int} : ∀ {l : List (FuncId × PC)}, TabOK P { f := g } l → l.all (fun p => decide (p.2.key < 900)) = true → TabOK P (rowSig g a len cap z) l
  | [], _, _ => trivial
  | (f, c) :: l, h, hk => by
    simp only [List.all_cons, Bool.and_eq_true, decide_eq_true_eq] at hk
    refine ⟨?_, rowTab h.2 hk.2⟩
    have : (rowSig g a len cap z) c.key = g c.key := by
      show rowF g z c.key = g c.key
      unfold rowF
      rw [if_neg (by omega), if_neg (by omega)]
    rw [this]; exact h.1
end Ev
end Go.Proofs.Ytnnnmdmniceenaa
