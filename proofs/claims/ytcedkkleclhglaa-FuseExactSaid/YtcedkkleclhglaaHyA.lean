/- The caller's arguments as data. -/
import Derived.Test.YtcedkkleclhglaaHxD
import Derived.ChangeSlices
import Derived.ChangeArms
import Derived.WideShapes
import Derived.RowKit
set_option linter.unusedSimpArgs false
set_option linter.unusedVariables false
namespace Go.Proofs.Ytcedkkleclhglaa.H
open Go.RowKit Go.ChangeShapes Go.WideShapes
abbrev Kw (w : World) : Nat → Prop := fun b => b < w.heap.size
theorem cell?_lt {w : World} {a : Addr} {v : Value} (h : w.cell? a = some v) : a.block < w.heap.size := by
  by_cases hb : a.block < w.heap.size
  · exact hb
  · exfalso
    unfold World.cell? at h
    rw [Array.getElem?_eq_none (by omega)] at h
    simp at h
theorem RD_list {w : World} {x : Addr} {len cap : Nat} {zs : List Int} (hc : len ≤ cap) (hl : len ≤ zs.length) (h : ∀ i, i < zs.length → w.cell? (x.add i) = some (.int .i64 (zs.getD i 0))) : RD w (Kw w) (.lst 1 (ints (zs.take len))) (.slice (some x) len cap) := by
  have hlen : (ints (zs.take len)).length = len := by simp; omega
  refine ⟨some x, cap, by rw [hlen], by rw [hlen]; exact hc, ?_⟩
  by_cases h0 : len = 0
  · left; rw [hlen]; exact h0
  right
  refine ⟨x, rfl, RRows_of fun i r hi => ?_⟩
  have hi' : i < len := by have := (List.getElem?_eq_some_iff.1 hi).1; rw [hlen] at this; exact this
  have hz : i < zs.length := by omega
  have hr : r = [dI (zs.getD i 0)] := by
    rw [List.getElem?_map, List.getElem?_take, if_pos hi', List.getElem?_eq_getElem hz] at hi
    simp at hi; rw [← hi]; simp [hz]
  have hcell := h i hz
  have hk := cell?_lt hcell
  rw [block_add] at hk
  subst hr
  refine ⟨rfl, ?_⟩
  rw [Nat.mul_one]
  refine ⟨by rw [add_block]; exact hk, ⟨_, hcell, by simp only [RD]; exact ⟨trivial, rfl⟩⟩, trivial⟩
section
variable {H : Type} {enc : TypeId × Value → H} {P : Program} {w : World} {base : Nat} {spare : Nat → Bool} {held : Bool}
theorem RD_ints {t e : TypeId} {fuel : Nat} {cs : List Value} {x : DataW H × List MemPlace} (ht : P.underlying t = some (.slice e)) (he : P.underlying e = some (.int .i64)) (hc : P.cellsOf e = 1)
    (h : DataW.trod enc P w base spare held fuel t cs = some x) : ∃ (l : List Int) (u : Value), cs = [u] ∧ RD w (Kw w) (.lst 1 (ints l)) u := by
  rcases open_ints ht he hc h with ⟨rfl, _⟩ | ⟨a, len, cap, zs, rfl, _, hl, _, hz, _, hcell, _⟩
  · exact ⟨[], _, rfl, none, 0, rfl, Nat.le_refl _, .inl rfl⟩
  · refine ⟨zs.take len, _, rfl, RD_list hl ?_ hcell⟩
    rw [hz]; split <;> omega
/-- A struct of three lists of ints. -/
theorem R_three {t e1 e : TypeId} {f0 f1 f2 : Field} {r : Reach} {b0 : Nat} {v : Value} {d : DataW H} {p : List MemPlace} (ht : P.underlying t = some (.struct #[f0, f1, f2])) (h0 : P.underlying f0.type = some (.slice e)) (h1 : P.underlying f1.type = some (.slice e)) (h2 : P.underlying f2.type = some (.slice e)) (he : P.underlying e = some (.int .i64)) (hc : P.cellsOf e = 1)
    (ho : f0.offset = 0 ∧ f1.offset = 1 ∧ f2.offset = 2 ∧ P.cellsOf f0.type = 1 ∧ P.cellsOf f1.type = 1 ∧ P.cellsOf f2.type = 1 ∧ P.cellsOf t = 3)
    (hv : Value.okWide P w r b0 t v) (h : DataW.Trod enc P w base spare held t v d p) {β : Nat → Loc} : ∃ a b c : List Int, R w (Kw w) β 0 (.agg [LI a, LI b, LI c]) v := by
  obtain ⟨n, hn⟩ := h
  obtain ⟨cs, rfl, _⟩ := okWide_struct ht hv
  obtain ⟨ys, m, _, _, hlen, hyl, hf⟩ := DataW.trod_struct ht hn
  obtain ⟨cs⟩ := cs
  have hl : cs.length = 3 := by simpa [Value.cells, ho.2.2.2.2.2.2] using hlen
  simp only [Value.cells] at hf
  have hy : ys.length = 3 := hyl
  have g0 := hf 0 f0 rfl
  have g1 := hf 1 f1 rfl
  have g2 := hf 2 f2 rfl
  rw [List.getElem?_eq_getElem (by omega)] at g0 g1 g2
  obtain ⟨a, ua, ea, ra⟩ := RD_ints h0 he hc g0
  obtain ⟨b, ub, eb, rb⟩ := RD_ints h1 he hc g1
  obtain ⟨c, uc, ec, rc⟩ := RD_ints h2 he hc g2
  obtain ⟨o0, o1, o2, c0, c1, c2, -⟩ := ho
  rw [o0, c0] at ea
  rw [o1, c1] at eb
  rw [o2, c2] at ec
  match cs, hl with
  | [x, y, z], _ =>
    simp at ea eb ec
    subst ea eb ec
    refine ⟨a, b, c, ?_⟩
    simp only [R, RL]
    exact ⟨[x, y, z], rfl, x, [y, z], rfl, ra, y, [z], rfl, rb, z, [], rfl, rc, rfl⟩
theorem R_ints {t e : TypeId} {r : Reach} {b0 : Nat} {v : Value} {d : DataW H} {p : List MemPlace} (ht : P.underlying t = some (.slice e)) (he : P.underlying e = some (.int .i64)) (hc : P.cellsOf e = 1)
    (hv : Value.okWide P w r b0 t v) (h : DataW.Trod enc P w base spare held t v d p) {β : Nat → Loc} : ∃ l : List Int, R w (Kw w) β 0 (LI l) v := by
  obtain ⟨n, hn⟩ := h
  obtain ⟨a, len, cap, rfl⟩ := okWide_slice ht hv
  obtain ⟨l, u, e1, e2⟩ := RD_ints ht he hc hn
  simp [Value.cells] at e1
  subst e1
  exact ⟨l, by simpa only [R] using e2⟩
theorem R_i64 {t : TypeId} {r : Reach} {b0 : Nat} {v : Value} (ht : P.underlying t = some (.int .i64)) (hv : Value.okWide P w r b0 t v) {β : Nat → Loc} : ∃ z : Int, R w (Kw w) β 0 (AI .i64 z) v := by
  obtain ⟨z, rfl⟩ := okWide_int ht hv
  exact ⟨z, by simp only [R, RD]; exact ⟨trivial, rfl⟩⟩
/-- A struct of two ints. -/
theorem R_two {t : TypeId} {f0 f1 : Field} {r : Reach} {b0 : Nat} {v : Value} {d : DataW H} {p : List MemPlace} (ht : P.underlying t = some (.struct #[f0, f1])) (h0 : P.underlying f0.type = some (.int .i64)) (h1 : P.underlying f1.type = some (.int .i64))
    (ho : f0.offset = 0 ∧ f1.offset = 1 ∧ P.cellsOf f0.type = 1 ∧ P.cellsOf f1.type = 1 ∧ P.cellsOf t = 2)
    (hv : Value.okWide P w r b0 t v) (h : DataW.Trod enc P w base spare held t v d p) {β : Nat → Loc} : ∃ a b : Int, R w (Kw w) β 0 (.agg [AI .i64 a, AI .i64 b]) v := by
  obtain ⟨n, hn⟩ := h
  obtain ⟨cs, rfl, _⟩ := okWide_struct ht hv
  obtain ⟨ys, m, _, _, hlen, hyl, hf⟩ := DataW.trod_struct ht hn
  obtain ⟨cs⟩ := cs
  have hl : cs.length = 2 := by simpa [Value.cells, ho.2.2.2.2] using hlen
  simp only [Value.cells] at hf
  have hy : ys.length = 2 := hyl
  have g0 := hf 0 f0 rfl
  have g1 := hf 1 f1 rfl
  rw [List.getElem?_eq_getElem (by omega)] at g0 g1
  obtain ⟨a, ea, _, _⟩ := DataW.trod_int h0 g0
  obtain ⟨b, eb, _, _⟩ := DataW.trod_int h1 g1
  obtain ⟨o0, o1, c0, c1, -⟩ := ho
  rw [o0, c0] at ea
  rw [o1, c1] at eb
  match cs, hl with
  | [x, y], _ =>
    simp at ea eb
    subst ea eb
    refine ⟨a, b, ?_⟩
    simp only [R, RL]
    exact ⟨_, rfl, _, _, rfl, by simp only [RD]; exact ⟨trivial, rfl⟩, _, _, rfl, by simp only [RD]; exact ⟨trivial, rfl⟩, rfl⟩
end
def isSl (P : Program) (e t : TypeId) : Bool := match P.underlying t with
  | some (.slice e') => decide (e' = e)
  | _ => false
def isI (P : Program) (t : TypeId) : Bool := match P.underlying t with
  | some (.int .i64) => true
  | _ => false
theorem isSl_of {P : Program} {e t : TypeId} (h : isSl P e t = true) : P.underlying t = some (.slice e) := by
  unfold isSl at h
  split at h
  · rename_i e' he; rw [he, of_decide_eq_true h]
  · cases h
theorem isI_of {P : Program} {t : TypeId} (h : isI P t = true) : P.underlying t = some (.int .i64) := by
  unfold isI at h
  split at h
  · assumption
  · cases h
def three (P : Program) (e t : TypeId) : Bool := match P.underlying t with
  | some (.struct ⟨[f0, f1, f2]⟩) => isSl P e f0.type && isSl P e f1.type && isSl P e f2.type && isI P e && decide (P.cellsOf e = 1) && decide (f0.offset = 0 ∧ f1.offset = 1 ∧ f2.offset = 2 ∧ P.cellsOf f0.type = 1 ∧ P.cellsOf f1.type = 1 ∧ P.cellsOf f2.type = 1 ∧ P.cellsOf t = 3)
  | _ => false
def two (P : Program) (t : TypeId) : Bool := match P.underlying t with
  | some (.struct ⟨[f0, f1]⟩) => isI P f0.type && isI P f1.type && decide (f0.offset = 0 ∧ f1.offset = 1 ∧ P.cellsOf f0.type = 1 ∧ P.cellsOf f1.type = 1 ∧ P.cellsOf t = 2)
  | _ => false
section
variable {H : Type} {enc : TypeId × Value → H} {P : Program} {w : World} {base : Nat} {spare : Nat → Bool} {held : Bool}
theorem R_three' {e t : TypeId} (hh : three P e t = true) {r : Reach} {b0 : Nat} {v : Value} {d : DataW H} {p : List MemPlace}
    (hv : Value.okWide P w r b0 t v) (h : DataW.Trod enc P w base spare held t v d p) {β : Nat → Loc} : ∃ a b c : List Int, R w (Kw w) β 0 (.agg [LI a, LI b, LI c]) v := by
  unfold three at hh
  split at hh
  · rename_i f0 f1 f2 ht
    simp only [Bool.and_eq_true, decide_eq_true_eq] at hh
    obtain ⟨⟨⟨⟨⟨h0, h1⟩, h2⟩, h3⟩, h4⟩, h5⟩ := hh
    exact R_three (e1 := e) ht (isSl_of h0) (isSl_of h1) (isSl_of h2) (isI_of h3) h4 h5 hv h
  · cases hh
theorem R_two' {t : TypeId} (hh : two P t = true) {r : Reach} {b0 : Nat} {v : Value} {d : DataW H} {p : List MemPlace}
    (hv : Value.okWide P w r b0 t v) (h : DataW.Trod enc P w base spare held t v d p) {β : Nat → Loc} : ∃ a b : Int, R w (Kw w) β 0 (.agg [AI .i64 a, AI .i64 b]) v := by
  unfold two at hh
  split at hh
  · rename_i f0 f1 ht
    simp only [Bool.and_eq_true, decide_eq_true_eq] at hh
    exact R_two ht (isI_of hh.1.1) (isI_of hh.1.2) hh.2 hv h
  · cases hh
end
end Go.Proofs.Ytcedkkleclhglaa.H
