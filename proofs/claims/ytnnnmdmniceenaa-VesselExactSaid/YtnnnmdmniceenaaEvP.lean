/- Arguments of ints, bools and structs of these: their cells. -/
import Derived.Test.YtnnnmdmniceenaaEvN
import Derived.ChangeArms
import Derived.WideShapes
import Derived.RowKit
set_option linter.unusedSimpArgs false
set_option linter.unusedVariables false
namespace Go.Proofs.Ytnnnmdmniceenaa.Ev
open Go.RowKit Go.ChangeShapes Go.WideShapes
/-- The kinds of a type's cells: ints, bools and structs of these. -/
def fldKs (g : TypeId → Option (List Ck)) (P : Program) : Nat → List Field → Option (List Ck)
  | _, [] => some []
  | o, f :: fs => match g f.type, fldKs g P (o + P.cellsOf f.type) fs with
    | some ks, some r => if f.offset = o ∧ P.cellsOf f.type = ks.length then some (ks ++ r) else none
    | _, _ => none
def tyKs (P : Program) : Nat → TypeId → Option (List Ck)
  | 0, _ => none
  | d + 1, t => match P.underlying t with
    | some (.int k) => some [some k]
    | some .bool => some [none]
    | some (.struct fs) => match fldKs (tyKs P d) P 0 fs.toList with
      | some ks => if P.cellsOf t = ks.length then some ks else none
      | none => none
    | _ => none
/-- Numbers that fit kinds. -/
def KsOK : List Ck → List Int → Prop
  | [], [] => True
  | k :: ks, x :: xs => ((kB k).1 ≤ x ∧ x ≤ (kB k).2) ∧ KsOK ks xs
  | _, _ => False
theorem KsOK.length : ∀ {ks : List Ck} {xs : List Int}, KsOK ks xs → xs.length = ks.length
  | [], [], _ => rfl
  | _ :: ks, _ :: xs, h => by simp [KsOK.length (ks := ks) (xs := xs) h.2]
  | [], _ :: _, h => h.elim
  | _ :: _, [], h => h.elim
theorem KsOK.append : ∀ {ks kr : List Ck} {xs xr : List Int}, KsOK ks xs → KsOK kr xr → KsOK (ks ++ kr) (xs ++ xr)
  | [], _, [], _, _, h' => h'
  | _ :: ks, _, _ :: xs, _, h, h' => ⟨h.1, KsOK.append (ks := ks) (xs := xs) h.2 h'⟩
  | [], _, _ :: _, _, h, _ => h.elim
  | _ :: _, _, [], _, h, _ => h.elim
theorem cellsV_append : ∀ {ks kr : List Ck} {xs xr : List Int}, xs.length = ks.length → cellsV (ks ++ kr) (xs ++ xr) = cellsV ks xs ++ cellsV kr xr
  | [], _, [], _, _ => rfl
  | k :: ks, kr, x :: xs, xr, h => by
    have := cellsV_append (ks := ks) (kr := kr) (xs := xs) (xr := xr) (by simpa using h)
    simp [cellsV, this]
  | [], _, _ :: _, _, h => by simp at h
  | _ :: _, _, [], _, h => by simp at h
theorem cellsV_length : ∀ (ks : List Ck) (xs : List Int), (cellsV ks xs).length = ks.length
  | [], _ => rfl
  | k :: ks, xs => by simp [cellsV, cellsV_length ks]
variable {H : Type} {enc : TypeId × Value → H} {P : Program} {w : World} {base : Nat} {spare : Nat → Bool} {held : Bool}
theorem fldKs_ok {g : TypeId → Option (List Ck)} {n : Nat}
    (hg : ∀ (t : TypeId) (ks : List Ck) (cs : List Value) (x : DataW H × List MemPlace), g t = some ks → DataW.trod enc P w base spare held n t cs = some x → ∃ xs, KsOK ks xs ∧ cs = cellsV ks xs) :
    ∀ (fs : List Field) (o : Nat) (ks : List Ck) (cs : List Value), fldKs g P o fs = some ks → cs.length = o + ks.length →
      (∀ f ∈ fs, ∃ y, DataW.trod enc P w base spare held n f.type ((cs.drop f.offset).take (P.cellsOf f.type)) = some y) → ∃ xs, KsOK ks xs ∧ cs.drop o = cellsV ks xs
  | [], o, ks, cs, h, hl, _ => by
    simp only [fldKs, Option.some.injEq] at h
    subst h
    refine ⟨[], trivial, ?_⟩
    simp only [cellsV, List.drop_eq_nil_iff]
    simp at hl; omega
  | f :: fs, o, ks, cs, h, hl, hf => by
    unfold fldKs at h
    split at h
    · rename_i k1 r h1 h2
      split at h
      · rename_i hc
        simp only [Option.some.injEq] at h
        subst h
        obtain ⟨y, hy⟩ := hf f (by simp)
        obtain ⟨xs, hx, ex⟩ := hg _ _ _ _ h1 hy
        rw [hc.2] at h2
        obtain ⟨xr, hr, er⟩ := fldKs_ok hg fs (o + k1.length) r cs h2 (by simp at hl; omega) fun f' hf' => hf f' (List.mem_cons_of_mem _ hf')
        refine ⟨xs ++ xr, hx.append hr, ?_⟩
        rw [cellsV_append hx.length, ← er, ← ex, hc.1, hc.2, ← List.drop_drop, List.take_append_drop]
      · cases h
    · cases h
theorem tyKs_ok : ∀ (d : Nat) (t : TypeId) (ks : List Ck) (n : Nat) (cs : List Value) (x : DataW H × List MemPlace), tyKs P d t = some ks → DataW.trod enc P w base spare held n t cs = some x → ∃ xs, KsOK ks xs ∧ cs = cellsV ks xs
  | 0, _, _, _, _, _, h, _ => by simp [tyKs] at h
  | d + 1, t, ks, n, cs, x, h, hx => by
    unfold tyKs at h
    split at h
    · rename_i k ht
      simp only [Option.some.injEq] at h
      subst h
      obtain ⟨z, rfl, _, hw⟩ := DataW.trod_int ht hx
      exact ⟨[z], ⟨wf_bd hw, trivial⟩, rfl⟩
    · rename_i ht
      simp only [Option.some.injEq] at h
      subst h
      obtain ⟨b, rfl, _⟩ := DataW.trod_bool ht hx
      cases b
      · exact ⟨[0], ⟨⟨by decide, by decide⟩, trivial⟩, by simp [cellsV, cellV]⟩
      · exact ⟨[1], ⟨⟨by decide, by decide⟩, trivial⟩, by simp [cellsV, cellV]⟩
    · rename_i fs ht
      split at h
      · rename_i ks' hk
        split at h
        · rename_i hc
          simp only [Option.some.injEq] at h
          subst h
          obtain ⟨ys, m, rfl, _, hlen, hyl, hfl⟩ := DataW.trod_struct ht hx
          have := fldKs_ok (P := P) (w := w) (base := base) (spare := spare) (held := held) (enc := enc) (n := m) (g := tyKs P d) (fun t ks cs x h1 h2 => tyKs_ok d t ks m cs x h1 h2) fs.toList 0 ks' cs hk (by omega) fun f hf => by
            obtain ⟨i, hi, e⟩ := List.getElem_of_mem hf
            have hi' : i < fs.size := by simpa using hi
            have e' : fs[i]? = some f := by rw [Array.getElem?_eq_getElem hi']; simpa using e
            have := hfl i f e'
            rw [List.getElem?_eq_getElem (by omega)] at this
            exact ⟨_, this⟩
          simpa using this
        · cases h
      · cases h
    · cases h
/-- The shape of a type. -/
def shOf (P : Program) (t : TypeId) : Option Sh := match P.underlying t with
  | some (.int k) => some (.one (some k))
  | some .bool => some (.one none)
  | some (.struct _) => match tyKs P 10 t with
    | some ks => some (.agg ks)
    | none => none
  | _ => none
def Sh.ks : Sh → List Ck
  | .one k => [k]
  | .agg l => l
/-- An argument of such a type is told by its numbers. -/
theorem open_sh {t : TypeId} {s : Sh} {r : Reach} {b0 : Nat} {v : Value} {d : DataW H} {p : List MemPlace} (hs : shOf P t = some s) (hv : Value.okWide P w r b0 t v) (h : DataW.Trod enc P w base spare held t v d p) :
    ∃ xs, KsOK s.ks xs ∧ v = shV s xs := by
  obtain ⟨n, hn⟩ := h
  unfold shOf at hs
  split at hs
  · rename_i k ht
    simp only [Option.some.injEq] at hs
    subst hs
    obtain ⟨z, rfl⟩ := okWide_int ht hv
    obtain ⟨z', e, _, hw⟩ := DataW.trod_int ht hn
    simp [Value.cells] at e
    subst e
    exact ⟨[z], ⟨wf_bd hw, trivial⟩, rfl⟩
  · rename_i ht
    simp only [Option.some.injEq] at hs
    subst hs
    obtain ⟨b, rfl⟩ := okWide_bool ht hv
    cases b
    · exact ⟨[0], ⟨⟨by decide, by decide⟩, trivial⟩, by simp [shV, cellV]⟩
    · exact ⟨[1], ⟨⟨by decide, by decide⟩, trivial⟩, by simp [shV, cellV]⟩
  · rename_i fs ht
    split at hs
    · rename_i ks hk
      simp only [Option.some.injEq] at hs
      subst hs
      obtain ⟨cs, rfl, _⟩ := okWide_struct ht hv
      obtain ⟨xs, hx, e⟩ := tyKs_ok 10 t ks n _ _ hk hn
      refine ⟨xs, hx, ?_⟩
      simp only [Value.cells] at e
      simp only [shV, ← e]
    · cases hs
  · cases hs
end Go.Proofs.Ytnnnmdmniceenaa.Ev
