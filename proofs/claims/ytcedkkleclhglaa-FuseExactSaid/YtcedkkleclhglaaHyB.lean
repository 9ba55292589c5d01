/- The caller's arguments as data, of any types of ints, bools, strings, structs and slices. -/
import Derived.Test.YtcedkkleclhglaaHyA
import Derived.DataReads
set_option linter.unusedSimpArgs false
set_option linter.unusedVariables false
namespace Go.Proofs.Ytcedkkleclhglaa.H
open Go.RowKit Go.ChangeShapes Go.WideShapes
/-- What a cell holds. -/
inductive Sk where
  | int (k : IntKind) | bool | str | sl (l : List Sk)
instance : Inhabited Sk := ⟨.bool⟩
def skFs (P : Program) (g : TypeId → Option (List Sk)) : Nat → List Field → Option (List Sk)
  | _, [] => some []
  | off, f :: fs => match g f.type with
    | some l => if f.offset = off ∧ P.cellsOf f.type = l.length then (match skFs P g (off + l.length) fs with
      | some r => some (l ++ r)
      | none => none) else none
    | none => none
def skOf (P : Program) : Nat → TypeId → Option (List Sk)
  | 0, _ => none
  | n + 1, t => match P.underlying t with
    | some (.int k) => some [.int k]
    | some .bool => some [.bool]
    | some .string => some [.str]
    | some (.slice e) => match skOf P n e with
      | some l => if P.cellsOf e = l.length ∧ 0 < l.length then some [.sl l] else none
      | none => none
    | some (.struct fs) => match skFs P (skOf P n) 0 fs.toList with
      | some l => if P.cellsOf t = l.length then some l else none
      | none => none
    | _ => none
mutual
def okD : Sk → D → Prop
  | .int k, .v (.int k' z) => k' = k ∧ (Lit.int k z).wf = true
  | .bool, .v (.bool _) => True
  | .str, .v (.string s) => s.size ≤ maxLen
  | .sl l, .lst k rows => k = l.length ∧ rows.length ≤ maxLen ∧ okRs l rows
  | _, _ => False
def okDs : List Sk → List D → Prop
  | [], [] => True
  | s :: l, d :: ds => okD s d ∧ okDs l ds
  | _, _ => False
def okRs (l : List Sk) : List (List D) → Prop
  | [] => True
  | r :: rs => okDs l r ∧ okRs l rs
end
theorem okDs_len : ∀ {l : List Sk} {ds : List D}, okDs l ds → ds.length = l.length
  | [], [], _ => rfl
  | _ :: l, _ :: ds, h => by simp only [okDs] at h; simp [okDs_len h.2]
  | [], _ :: _, h => by simp [okDs] at h
  | _ :: _, [], h => by simp [okDs] at h
theorem okDs_append : ∀ {l m : List Sk} {ds es : List D}, okDs l ds → okDs m es → okDs (l ++ m) (ds ++ es)
  | [], m, [], es, _, h => h
  | s :: l, m, d :: ds, es, h, g => by
    simp only [okDs, List.cons_append] at h ⊢
    exact ⟨h.1, okDs_append h.2 g⟩
  | [], _, _ :: _, _, h, _ => by simp [okDs] at h
  | _ :: _, _, [], _, h, _ => by simp [okDs] at h
theorem okRs_iff {l : List Sk} : ∀ {rows : List (List D)}, okRs l rows ↔ ∀ r ∈ rows, okDs l r
  | [] => by simp [okRs]
  | r :: rs => by simp [okRs, okRs_iff (rows := rs)]
/-- These cells are told by these data. -/
def RCs (w : World) (ds : List D) (cs : List Value) : Prop := ds.length = cs.length ∧ ∀ (i : Nat) d u, ds[i]? = some d → cs[i]? = some u → RD w (Kw w) d u
theorem RCs_append {w : World} {ds es : List D} {cs bs : List Value} (h : RCs w ds cs) (g : RCs w es bs) : RCs w (ds ++ es) (cs ++ bs) := by
  refine ⟨by simp [h.1, g.1], fun i d u hd hu => ?_⟩
  by_cases hi : i < ds.length
  · rw [List.getElem?_append_left hi] at hd
    rw [List.getElem?_append_left (by have := h.1; omega)] at hu
    exact h.2 i d u hd hu
  · rw [List.getElem?_append_right (by omega)] at hd
    rw [List.getElem?_append_right (by have := h.1; omega), ← h.1] at hu
    exact g.2 _ d u hd hu
theorem RCs_one {w : World} {d : D} {u : Value} (h : RD w (Kw w) d u) : RCs w [d] [u] := by
  refine ⟨rfl, fun i d' u' hd hu => ?_⟩
  match i with
  | 0 => simp at hd hu; subst hd hu; exact h
  | i + 1 => simp at hd
theorem exists_list {α : Type} {p : Nat → α → Prop} : ∀ (n : Nat), (∀ i, i < n → ∃ x, p i x) → ∃ l : List α, l.length = n ∧ ∀ i x, l[i]? = some x → p i x
  | 0, _ => ⟨[], rfl, fun i x h => by simp at h⟩
  | n + 1, h => by
    obtain ⟨l, h1, h2⟩ := exists_list n fun i hi => h i (by omega)
    obtain ⟨x, hx⟩ := h n (by omega)
    refine ⟨l ++ [x], by simp [h1], fun i y hy => ?_⟩
    by_cases hi : i < l.length
    · rw [List.getElem?_append_left hi] at hy; exact h2 i y hy
    · rw [List.getElem?_append_right (by omega)] at hy
      have : i - l.length = 0 := by
        have := (List.getElem?_eq_some_iff.1 hy).1; simp at this; omega
      rw [this] at hy; simp at hy; subst hy
      rw [show i = n by omega]; exact hx
theorem map_of {α β : Type} {f : α → β} : ∀ {l : List β}, (∀ x ∈ l, ∃ a, x = f a) → ∃ m : List α, l = m.map f
  | [], _ => ⟨[], rfl⟩
  | x :: l, h => by
    obtain ⟨a, ha⟩ := h x (List.mem_cons_self ..)
    obtain ⟨m, hm⟩ := map_of (l := l) fun y hy => h y (List.mem_cons_of_mem _ hy)
    exact ⟨a :: m, by rw [ha, hm]; rfl⟩
section
variable {H : Type} {enc : TypeId × Value → H} {P : Program} {w : World} {base : Nat} {spare : Nat → Bool} {held : Bool}
theorem skFs_ok {n : Nat} {g : TypeId → Option (List Sk)} {cs : List Value} {total : Nat} (hl : cs.length = total)
    (hg : ∀ f l, g f = some l → ∀ cs x, DataW.trod enc P w base spare held n f cs = some x → ∃ ds, okDs l ds ∧ RCs w ds cs) : ∀ (fs : List Field) (off : Nat) (l : List Sk), skFs P g off fs = some l → off + l.length = total →
    (∀ f ∈ fs, ∃ x, DataW.trod enc P w base spare held n f.type ((cs.drop f.offset).take (P.cellsOf f.type)) = some x) → ∃ ds, okDs l ds ∧ RCs w ds (cs.drop off)
  | [], off, l, h, ht, _ => by
    simp only [skFs, Option.some.injEq] at h; subst h
    refine ⟨[], trivial, ?_⟩
    rw [List.drop_eq_nil_of_le (by simp at ht; omega)]
    exact ⟨rfl, fun i d u hd => by simp at hd⟩
  | f :: fs, off, l, h, ht, hf => by
    simp only [skFs] at h
    split at h
    · rename_i l1 h1
      split at h
      · rename_i ho
        split at h
        · rename_i r hr
          simp only [Option.some.injEq] at h; subst h
          simp only [List.length_append] at ht
          obtain ⟨x, hx⟩ := hf f (List.mem_cons_self ..)
          rw [ho.1, ho.2] at hx
          obtain ⟨ds, d1, d2⟩ := hg _ _ h1 _ _ hx
          obtain ⟨es, e1, e2⟩ := skFs_ok hl hg fs (off + l1.length) r hr (by omega) fun f hf' => hf f (List.mem_cons_of_mem _ hf')
          refine ⟨ds ++ es, okDs_append d1 e1, ?_⟩
          have := RCs_append d2 e2
          rw [← List.drop_drop, List.take_append_drop] at this
          exact this
        · cases h
      · cases h
    · cases h
theorem trod_D : ∀ (n : Nat) (t : TypeId) (l : List Sk) (fuel : Nat) (cs : List Value) (x : DataW H × List MemPlace), skOf P n t = some l → DataW.trod enc P w base spare held fuel t cs = some x → ∃ ds, okDs l ds ∧ RCs w ds cs
  | 0, t, l, fuel, cs, x, h, _ => by simp [skOf] at h
  | n + 1, t, l, fuel, cs, x, h, hx => by
    simp only [skOf] at h
    split at h
    · rename_i k hu
      simp only [Option.some.injEq] at h; subst h
      obtain ⟨z, rfl, _, hw⟩ := DataW.trod_int hu hx
      exact ⟨[.v (.int k z)], by simp only [okDs, okD]; exact ⟨⟨trivial, hw⟩, trivial⟩, RCs_one (by simp only [RD]; exact ⟨trivial, rfl⟩)⟩
    · rename_i hu
      simp only [Option.some.injEq] at h; subst h
      obtain ⟨b, rfl, _⟩ := DataW.trod_bool hu hx
      exact ⟨[.v (.bool b)], by simp [okDs, okD], RCs_one (by simp only [RD]; exact ⟨trivial, rfl⟩)⟩
    · rename_i hu
      simp only [Option.some.injEq] at h; subst h
      obtain ⟨s, rfl, _, hs⟩ := DataW.trod_string hu hx
      exact ⟨[.v (.string s)], by simp only [okDs, okD]; exact ⟨hs, trivial⟩, RCs_one (by simp only [RD]; exact ⟨trivial, rfl⟩)⟩
    · rename_i e hu
      split at h
      · rename_i l1 h1
        split at h
        · rename_i hc
          simp only [Option.some.injEq] at h; subst h
          rcases DataW.trod_slice hu hx with ⟨rfl, _⟩ | ⟨a, len, cap, elems, rest, n', _, rfl, _, _, hlc, hcm, hlen, hel, _, _⟩
          · exact ⟨[.lst l1.length []], by simp [okDs, okD, okRs], RCs_one (by simp only [RD]; exact ⟨none, 0, rfl, Nat.le_refl _, .inl rfl⟩)⟩
          · have each : ∀ i, i < len → ∃ ds, okDs l1 ds ∧ RCells w (Kw w) ds (a.add (i * l1.length)) := by
              intro i hi
              have h2 := hel i hi
              rw [List.getElem?_eq_getElem (by omega), Option.bind_eq_some_iff, hc.1] at h2
              obtain ⟨c, h3, h4⟩ := h2
              obtain ⟨ds, d1, d2⟩ := trod_D n e l1 n' c _ h1 h4
              obtain ⟨_, g1, g2⟩ := World.cells?_some h3
              refine ⟨ds, d1, RCells_of fun j d hd => ?_⟩
              have hj : j < c.length := by have := (List.getElem?_eq_some_iff.1 hd).1; have := d2.1; omega
              have hcell := g2 j (by omega)
              rw [List.getElem?_eq_getElem hj] at hcell
              refine ⟨?_, _, hcell, d2.2 j d _ hd (List.getElem?_eq_getElem hj)⟩
              have := cell?_lt hcell
              simp only [add_block] at this ⊢
              exact this
            obtain ⟨rows, r1, r2⟩ := exists_list len each
            refine ⟨[.lst l1.length rows], ?_, RCs_one ?_⟩
            · simp only [okDs, okD]
              exact ⟨⟨trivial, by omega, okRs_iff.2 fun r hr => by obtain ⟨i, hi⟩ := List.mem_iff_getElem?.1 hr; exact (r2 i r hi).1⟩, trivial⟩
            · simp only [RD]
              exact ⟨some a, cap, by rw [r1], by omega, .inr ⟨a, rfl, RRows_of fun i r hr => ⟨okDs_len (r2 i r hr).1, (r2 i r hr).2⟩⟩⟩
        · cases h
      · cases h
    · rename_i fs hu
      split at h
      · rename_i l1 h1
        split at h
        · rename_i hc
          simp only [Option.some.injEq] at h; subst h
          obtain ⟨xs, m, _, _, hl, hxl, hf⟩ := DataW.trod_struct hu hx
          have := skFs_ok (n := m) (cs := cs) (total := l1.length) (by rw [hl, hc]) (fun f l hg cs x hx => trod_D n f l m cs x hg hx) fs.toList 0 l1 h1 (by omega) fun f hm => by
            obtain ⟨i, hi⟩ := List.mem_iff_getElem?.1 hm
            have hi' : fs[i]? = some f := by simpa using hi
            have hlt : i < xs.length := by rw [hxl]; exact (Array.getElem?_eq_some_iff.1 hi').1
            exact ⟨xs[i], by rw [hf i f hi', List.getElem?_eq_getElem hlt]⟩
          simpa using this
        · cases h
      · cases h
    · cases h
theorem RL_ds {β : Nat → Loc} : ∀ {ds : List D} {cs : List Value}, RCs w ds cs → RL w (Kw w) β 0 (ds.map .d) cs := fun {ds cs} h =>
  RL_of (by simp [h.1]) fun i v u hv hu => by
    rw [List.getElem?_map, Option.map_eq_some_iff] at hv
    obtain ⟨d, hd, rfl⟩ := hv
    simp only [R]
    exact h.2 i d u hd hu
def isSt (P : Program) (t : TypeId) : Bool := match P.underlying t with
  | some (.struct _) => true
  | _ => false
theorem R_arg1 {t : TypeId} {s : Sk} {n : Nat} {v : Value} {d : DataW H} {p : List MemPlace} {u : Value} (hs : skOf P n t = some [s]) (hv : v.cells = #[u]) (hvu : v = u) (h : DataW.Trod enc P w base spare held t v d p) {β : Nat → Loc} :
    ∃ x, okD s x ∧ R w (Kw w) β 0 (.d x) v := by
  obtain ⟨fuel, hf⟩ := h
  obtain ⟨ds, d1, d2⟩ := trod_D n t _ fuel _ _ hs hf
  rw [hv] at d2
  match ds, d1 with
  | [x], d1 =>
    simp only [okDs] at d1
    exact ⟨x, d1.1, by simp only [R]; rw [hvu]; exact d2.2 0 x u rfl rfl⟩
theorem R_argS {t : TypeId} {fs : Array Field} {l : List Sk} {n : Nat} {r : Reach} {b0 : Nat} {v : Value} {d : DataW H} {p : List MemPlace} (hu : P.underlying t = some (.struct fs)) (hs : skOf P n t = some l) (hv : Value.okWide P w r b0 t v) (h : DataW.Trod enc P w base spare held t v d p) {β : Nat → Loc} :
    ∃ ds, okDs l ds ∧ R w (Kw w) β 0 (.agg (ds.map .d)) v := by
  obtain ⟨cs, rfl, _⟩ := okWide_struct hu hv
  obtain ⟨fuel, hf⟩ := h
  obtain ⟨ds, d1, d2⟩ := trod_D n t _ fuel _ _ hs hf
  exact ⟨ds, d1, by simp only [R]; exact ⟨cs.toList, by simp, RL_ds d2⟩⟩
theorem R_argL {t e : TypeId} {s : Sk} {n : Nat} {r : Reach} {b0 : Nat} {v : Value} {d : DataW H} {p : List MemPlace} (hu : P.underlying t = some (.slice e)) (hs : skOf P n t = some [s]) (hv : Value.okWide P w r b0 t v) (h : DataW.Trod enc P w base spare held t v d p) {β : Nat → Loc} :
    ∃ x, okD s x ∧ R w (Kw w) β 0 (.d x) v := by
  obtain ⟨a, len, cap, rfl⟩ := okWide_slice hu hv
  exact R_arg1 hs rfl rfl h
theorem R_argI {t : TypeId} {k : IntKind} {r : Reach} {b0 : Nat} {v : Value} {d : DataW H} {p : List MemPlace} (hu : P.underlying t = some (.int k)) (hv : Value.okWide P w r b0 t v) (h : DataW.Trod enc P w base spare held t v d p) {β : Nat → Loc} :
    ∃ z, (Lit.int k z).wf = true ∧ R w (Kw w) β 0 (AI k z) v := by
  obtain ⟨z, rfl⟩ := okWide_int hu hv
  obtain ⟨fuel, hf⟩ := h
  obtain ⟨z', h1, _, h2⟩ := DataW.trod_int hu hf
  simp [Value.cells] at h1; subst h1
  exact ⟨z, h2, by simp only [R, RD]; exact ⟨trivial, rfl⟩⟩
end
theorem maxLen_eq : maxLen = 9223372036854775807 := by decide
theorem okD_int {k : IntKind} {d : D} (h : okD (.int k) d) : ∃ z, d = .v (.int k z) ∧ (Lit.int k z).wf = true := by
  unfold okD at h
  split at h <;> first | (obtain ⟨rfl, h⟩ := h; exact ⟨_, rfl, h⟩) | (exfalso; simp_all; done) | (rename_i e; cases e; obtain ⟨rfl, h⟩ := h; exact ⟨_, rfl, h⟩)
theorem okD_bool {d : D} (h : okD .bool d) : ∃ b, d = .v (.bool b) := by
  unfold okD at h
  split at h <;> first | exact ⟨_, rfl⟩ | (exfalso; simp_all; done)
theorem okD_str {d : D} (h : okD .str d) : ∃ s, d = .v (.string s) ∧ s.size ≤ maxLen := by
  unfold okD at h
  split at h <;> first | exact ⟨_, rfl, h⟩ | (exfalso; simp_all; done)
theorem okD_sl {l : List Sk} {d : D} (h : okD (.sl l) d) : ∃ rows, d = .lst l.length rows ∧ rows.length ≤ 9223372036854775807 ∧ ∀ r ∈ rows, okDs l r := by
  unfold okD at h
  split at h <;> first | (rename_i e; cases e; obtain ⟨rfl, h1, h2⟩ := h; exact ⟨_, rfl, by rw [← maxLen_eq]; exact h1, okRs_iff.1 h2⟩) | (exfalso; simp_all; done)
theorem okDs_cons {s : Sk} {l : List Sk} {ds : List D} (h : okDs (s :: l) ds) : ∃ d ds', ds = d :: ds' ∧ okD s d ∧ okDs l ds' := by
  match ds, h with
  | d :: ds, h => simp only [okDs] at h; exact ⟨d, ds, rfl, h.1, h.2⟩
  | [], h => simp [okDs] at h
theorem okDs_nil {ds : List D} (h : okDs [] ds) : ds = [] := by
  match ds, h with
  | [], _ => rfl
  | d :: ds, h => simp [okDs] at h
/-- A list of ints. -/
theorem dec_ints {x : D} (h : okD (.sl [.int .i64]) x) : ∃ l : List Int, x = .lst 1 (ints l) ∧ l.length ≤ 9223372036854775807 := by
  obtain ⟨rows, rfl, hl, h⟩ := okD_sl h
  obtain ⟨l, rfl⟩ := map_of (f := fun z : Int => [dI z]) (l := rows) fun r hr => by
    obtain ⟨d, ds, rfl, h1, h2⟩ := okDs_cons (h r hr)
    obtain ⟨z, rfl, _⟩ := okD_int h1
    obtain rfl := okDs_nil h2
    exact ⟨z, rfl⟩
  exact ⟨l, rfl, by simpa using hl⟩
end Go.Proofs.Ytcedkkleclhglaa.H
