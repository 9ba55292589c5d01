/- The library's functions of strings, told ahead to the interpreter. -/
import Derived.Test.YtipanehdmhachaaGreatDoorHtL
import Derived.Test.YtipanehdmhachaaGreatDoorHzX
set_option linter.unusedSimpArgs false
set_option linter.unusedVariables false
set_option linter.unusedSectionVars false
namespace Go.Proofs.YtipanehdmhachaaGreatDoor.H
namespace X
open Go.RowKit
instance (priority := low) noDR : DR := ⟨False⟩
theorem same_calls {P : Program} {f : FuncId} {vs : List AV} {us : List Value} {u : Value} (hu : u.oneCell' = true) (h1 : ∀ w K β us', RL w K β 0 vs us' → us' = us) (h : ∀ w, Calls P f us.toArray w fun e w' => e = .returned u ∧ w' = w) : ACalls P f vs [] fun r s' => r = .d (.v u) := by
  intro w K β us' hz hr
  obtain rfl := h1 w K β us' hr
  refine (h w).mono fun e w' ⟨he, hw⟩ => ?_
  subst hw
  exact ⟨.d (.v u), [], K, β, u, he, rfl, hz, by simp only [R, RD]; exact ⟨trivial, hu⟩, .refl (Nat.le_refl _)⟩
theorem RL_two {w : World} {K : Nat → Prop} {β : Nat → Loc} {x y : Value} {us : List Value} (h : RL w K β 0 [.d (.v x), .d (.v y)] us) : us = [x, y] := by
  simp only [RL, R, RD] at h
  obtain ⟨u, us', e1, ⟨rfl, -⟩, v, us2, e2, ⟨rfl, -⟩, rfl⟩ := h
  rw [e1, e2]
def strsOf : List (List D) → Option (List ByteArray)
  | [] => some []
  | [.v (.string s)] :: l => match strsOf l with
    | some r => some (s :: r)
    | none => none
  | _ :: _ => none
theorem strsOf_ok : ∀ {l : List (List D)} {r : List ByteArray}, strsOf l = some r → l = r.map fun s => [.v (.string s)]
  | [], r, h => by simp only [strsOf, Option.some.injEq] at h; subst h; rfl
  | x :: l, r, h => by
    unfold strsOf at h
    split at h
    · rename_i e; cases e
    · rename_i z l' e
      simp only [List.cons.injEq] at e
      obtain ⟨rfl, rfl⟩ := e
      split at h
      · rename_i q hq
        simp only [Option.some.injEq] at h; subst h
        rw [List.map_cons, ← strsOf_ok hq]
      · cases h
    · cases h
theorem RRows_str {w : World} {K : Nat → Prop} {a : Addr} : ∀ {xs : List ByteArray} {i : Nat}, RRows w K 1 (xs.map fun s => [.v (.string s)]) (a.add i) → ∀ (j : Nat) x, xs[j]? = some x → w.cell? (a.add (i + j)) = some (.string x)
  | b :: bs, i, h, 0, x, hx => by
    simp only [List.getElem?_cons_zero, Option.some.injEq] at hx; subst hx
    simp only [List.map_cons, RRows, RCells, RD] at h
    obtain ⟨-, ⟨-, ⟨u, h1, h2, -⟩, -⟩, -⟩ := h
    rw [Nat.add_zero, h1, h2]
  | b :: bs, i, h, j + 1, x, hx => by
    simp only [List.map_cons, RRows] at h
    have := RRows_str (xs := bs) (i := i + 1) (by rw [← Addr_add_add]; exact h.2.2) j x (by simpa using hx)
    rw [show i + (j + 1) = i + 1 + j by omega, this]
  | [], i, _, j, x, hx => by simp at hx
theorem below_calls {w w' : World} {K : Nat → Prop} {β : Nat → Loc} (hz : Cz w K β []) (h : Below w.heap.size w w') {u : Value} (hu : u.oneCell' = true) : Cz w' K β [] ∧ R w' K β 0 (.d (.v u)) u ∧ Ext 0 w K β [] w' K β [] := by
  have hst : Stays w K w' K := ⟨fun _ h => h, fun b hb => h.block b (hz.kb b hb)⟩
  refine ⟨⟨fun i b h => by simp at h, fun i j ⟨b, h⟩ => by simp at h, fun i ⟨b, h⟩ => by simp at h, fun b hb => Nat.lt_of_lt_of_le (hz.kb b hb) h.size, hz.gl.mono hst⟩, by simp only [R, RD]; exact ⟨trivial, hu⟩, ?_⟩
  exact { size := h.size, io := ⟨h.os, h.tape, h.output, fun hd => hd.elim⟩, fix := fun _ hi => by omega, len := Nat.le_refl _, frame := fun b hb _ => h.block b hb, kmono := fun _ h => h, knew := fun _ h => .inl h, onew := fun i ⟨b, h⟩ => by simp at h }
theorem join_calls {xs : List ByteArray} {sep : ByteArray} (h0 : xs ≠ []) (hN : xs.length ≤ 140737488355328) (hlen : (Lib.join (xs.map (·.data.toList)) sep.data.toList).length ≤ 140737488355328) :
    ACalls Tryz.prog 48 [.d (.lst 1 (xs.map fun s => [.v (.string s)])), .d (.v (.string sep))] [] fun r s' => r = .d (.v (.string ⟨(Lib.join (xs.map (·.data.toList)) sep.data.toList).toArray⟩)) := by
  intro w K β us hz hr
  simp only [RL, R, RD] at hr
  obtain ⟨u, us', e1, ⟨a, c, rfl, hc, hrow⟩, v, us2, e2, ⟨rfl, -⟩, rfl⟩ := hr
  have hl : (xs.map fun s => [D.v (.string s)]).length = xs.length := List.length_map ..
  rw [hl] at hc hrow e1
  rcases hrow with hrow | ⟨x, rfl, hrow⟩
  · exact absurd (List.length_eq_zero_iff.1 hrow) h0
  have hcell := RRows_str (a := x) (i := 0) (by rw [add_zero]; exact hrow)
  obtain ⟨y, ys, hxs⟩ := List.exists_cons_of_ne_nil h0
  have hc0 := hcell 0 y (by rw [hxs]; rfl)
  rw [Nat.zero_add, add_zero] at hc0
  obtain ⟨bk, o, spot⟩ := x
  have hspot : spot = none := by
    cases spot with
    | none => rfl
    | some z =>
      unfold World.cell? at hc0
      split at hc0
      · simp at hc0
      · cases hc0
  subst hspot
  have hbk : bk < w.heap.size := by
    refine Classical.byContradiction fun hn => ?_
    unfold World.cell? at hc0
    rw [Array.getElem?_eq_none (by simpa using hn)] at hc0
    cases hc0
  have h := strings_Join bk o c xs sep w (fun j x hx => by have := hcell j x hx; rwa [Nat.zero_add, add_addr] at this) hbk hN hc hlen
  rw [e1, e2]
  refine h.mono fun e w' ⟨he, hb⟩ => ?_
  obtain ⟨g1, g2, g3⟩ := below_calls hz hb (u := .string ⟨(Lib.join (xs.map (·.data.toList)) sep.data.toList).toArray⟩) rfl
  exact ⟨_, [], K, β, _, he, rfl, g1, g2, g3⟩
def valT (f : FuncId) (vs : List AV) : Option AV := if f = 96 then match vs with
    | [.d (.v (.string s)), .d (.v (.int .u8 c))] => some (.d (.v (.int .i64 (Lib.indexByte s.data.toList c.toNat.toUInt8))))
    | _ => none
  else if f = 176 then match vs with
    | [.d (.v (.string s)), .d (.v (.string t))] => match t.data.toList with
      | [c] => some (.d (.v (.int .i64 (Lib.indexByte s.data.toList c))))
      | _ => none
    | _ => none
  else if f = 175 then match vs with
    | [.d (.v (.string s)), .d (.v (.string t))] => match t.data.toList with
      | [c] => some (.d (.v (.int .i64 (Lib.countByte s.data.toList c))))
      | _ => none
    | _ => none
  else if f = 48 then match vs with
    | [.d (.lst 1 rows), .d (.v (.string sep))] => match strsOf rows with
      | some (x :: xs) => if (x :: xs).length ≤ 1000 ∧ (Lib.join ((x :: xs).map (·.data.toList)) sep.data.toList).length ≤ 100000 then some (.d (.v (.string ⟨(Lib.join ((x :: xs).map (·.data.toList)) sep.data.toList).toArray⟩))) else none
      | _ => none
    | _ => none
  else none
def GT : Giv := ⟨fun f => f == 96 || f == 176 || f == 175 || f == 48, valT⟩
theorem one_of {t : ByteArray} {c : UInt8} (h : t.data.toList = [c]) : t = ⟨#[c]⟩ := by
  obtain ⟨⟨l⟩⟩ := t
  simp only at h; subst h; rfl
theorem GT_ok (f : FuncId) (vs : List AV) (v : AV) (h : GT.val f vs = some v) : GivOK Tryz.prog f vs v := by
  replace h : valT f vs = some v := h
  unfold valT at h
  split at h
  · rename_i hf; subst hf
    split at h
    · rename_i s c
      simp only [Option.some.injEq] at h; subst h
      exact ⟨same_calls rfl (fun _ _ _ _ h => RL_two h) fun w => strings_IndexByte s c w, rfl⟩
    · cases h
  · split at h
    · rename_i hf; subst hf
      split at h
      · rename_i s t
        split at h
        · rename_i c ht
          simp only [Option.some.injEq] at h; subst h
          rw [one_of ht]
          exact ⟨same_calls rfl (fun _ _ _ _ h => RL_two h) fun w => strings_Index_one s c w, rfl⟩
        · cases h
      · cases h
    · split at h
      · rename_i hf; subst hf
        split at h
        · rename_i s t
          split at h
          · rename_i c ht
            simp only [Option.some.injEq] at h; subst h
            rw [one_of ht]
            exact ⟨same_calls rfl (fun _ _ _ _ h => RL_two h) fun w => strings_Count_one s c w, rfl⟩
          · cases h
        · cases h
      · split at h
        · rename_i hf; subst hf
          split at h
          · rename_i rows sep
            split at h
            · rename_i x xs hs
              split at h
              · rename_i hb
                simp only [Option.some.injEq] at h; subst h
                rw [strsOf_ok hs]
                exact ⟨join_calls (by simp) (by omega) (by omega), rfl⟩
              · cases h
            · cases h
          · cases h
        · cases h
end X
end Go.Proofs.YtipanehdmhachaaGreatDoor.H
