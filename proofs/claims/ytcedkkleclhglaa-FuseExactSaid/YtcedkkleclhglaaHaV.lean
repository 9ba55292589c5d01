/- Functions of pure data; lists that are lent; laws. -/
import Derived.Test.YtcedkkleclhglaaHaU
set_option linter.unusedSimpArgs false
set_option linter.unusedVariables false
set_option linter.unusedSectionVars false
namespace Go.Proofs.Ytcedkkleclhglaa.H

mutual
theorem renA_bel0 (r : Nat → Nat) : ∀ {v : AV}, belA 0 v = true → renA r v = v
  | .d _, _ | .ful .., _ | .elm .., _ => rfl
  | .ptr .., h | .own .., h | .osl .., h | .mp _, h => by simp [belA] at h
  | .agg l, h => by simp only [renA, renL_bel0 r (by simpa [belA] using h)]
  | .tup l, h => by simp only [renA, renL_bel0 r (by simpa [belA] using h)]
  | .fn f a c, h => by
    simp only [belA, Bool.and_eq_true] at h
    simp only [renA, renL_bel0 r h.1, renL_bel0 r h.2]
theorem renL_bel0 (r : Nat → Nat) : ∀ {l : List AV}, belL 0 l = true → renL r l = l
  | [], _ => rfl
  | v :: l, h => by
    simp only [belL, Bool.and_eq_true] at h
    simp only [renL, renA_bel0 r h.1, renL_bel0 r h.2]
end
theorem backS_nil (s : St) : backS [] s [] = s := by
  unfold backS
  simp only [List.idxOf?_nil, List.drop_nil, List.map_nil, List.append_nil]
  refine List.ext_getElem? fun i => ?_
  by_cases hi : i < s.length
  · simp [List.getElem?_range hi, hi]
  · rw [List.getElem?_eq_none (by simp; omega), List.getElem?_eq_none (by omega)]
/-- A function of pure data. -/
def Fn (P : Program) (f : FuncId) (vs : List AV) (v : AV) : Prop := ACalls P f vs [] fun r s' => r = v ∧ s' = []
theorem given_nil {s : St} {vs : List AV} (hb : belL 0 vs = true) : Given [] s vs [] vs :=
  ⟨rfl, (fun _ h => by cases h), List.nodup_nil, (fun i b h => by simp at h), hb, (renL_bel0 _ hb).symm⟩
theorem ACalls.pure {P : Program} {f : FuncId} {vs : List AV} {s : St} {Qc Q : AV → St → Prop} (h : ACalls P f vs [] Qc) (hb : belL 0 vs = true) (hq : ∀ v s', Qc v s' → belA 0 v = true ∧ s' = [] ∧ Q v s) : ACalls P f vs s Q :=
  ACalls.frame h (given_nil hb) fun v s' hv => by
    obtain ⟨h1, rfl, h3⟩ := hq v s' hv
    rw [renA_bel0 _ h1, backS_nil]; exact h3
theorem Fn.call {P : Program} {f : FuncId} {vs : List AV} {v : AV} (h : Fn P f vs v) (hb : belL 0 vs = true) (hv : belA 0 v = true) {s : St} {Q : AV → St → Prop} (hq : Q v s) : ACalls P f vs s Q :=
  ACalls.pure h hb fun r s' ⟨h1, h2⟩ => by subst h1 h2; exact ⟨hv, rfl, hq⟩
/-- The function makes a new list. -/
def FnNew (P : Program) (f : FuncId) (vs : List AV) (t k : Nat) (rows : List (List D)) : Prop := ACalls P f vs [] fun r s' => r = .own 0 0 rows.length ∧ s' = [some (.cells t k (rowsA rows))]
theorem renL_rowsA (r : Nat → Nat) (rows : List (List D)) : (rowsA rows).map (renL r) = rowsA rows := by
  unfold rowsA
  rw [List.map_map]
  refine List.map_congr_left fun l _ => ?_
  simp only [Function.comp, renL_map, List.map_map]
  rfl
theorem belB_rowsA (n t k : Nat) (rows : List (List D)) : belB n (.cells t k (rowsA rows)) = true := by
  simp only [belB, List.all_eq_true, belL_iff]
  intro l hl v hv
  unfold rowsA at hl
  obtain ⟨r, _, rfl⟩ := List.mem_map.1 hl
  obtain ⟨d, _, rfl⟩ := List.mem_map.1 hv
  rfl
theorem FnNew.call {P : Program} {f : FuncId} {vs : List AV} {t k : Nat} {rows : List (List D)} (h : FnNew P f vs t k rows) (hb : belL 0 vs = true) {s : St} {Q : AV → St → Prop} (hq : Q (.own s.length 0 rows.length) (s ++ [some (.cells t k (rowsA rows))])) : ACalls P f vs s Q :=
  ACalls.frame h (given_nil hb) fun r s' ⟨h1, h2⟩ => by
    subst h1 h2
    have e : backS [] s [some (.cells t k (rowsA rows))] = s ++ [some (.cells t k (rowsA rows))] := by
      have := backS_nil s
      unfold backS at this ⊢
      simp only [List.idxOf?_nil, List.drop_nil, List.map_nil, List.append_nil] at this ⊢
      rw [this]
      simp [renB, renL_rowsA]
    rw [e]
    simpa [renA, nmR] using hq

/-! ### Lists that are lent -/
inductive Bor (s : St) : List AV → List AV → Prop where
  | nil : Bor s [] []
  | same {v : AV} {l m : List AV} : belA 0 v = true → Bor s l m → Bor s (v :: l) (v :: m)
  | own {id t k off len : Nat} {rows : List (List D)} {l m : List AV} : s[id]? = some (some (.cells t k (rowsA rows))) → off + len ≤ rows.length → Bor s l m → Bor s (.own id off len :: l) (.d (.lst k ((rows.drop off).take len)) :: m)
mutual
/-- No lists in it. -/
def scA : AV → Bool
  | .d (.v _) => true
  | .agg l => scL l
  | .tup l => scL l
  | _ => false
def scL : List AV → Bool
  | [] => true
  | v :: l => scA v && scL l
end
section
variable {w w' : World} {K K' : Nat → Prop} {β β' : Nat → Loc} {n n' : Nat}
mutual
theorem R_sc : ∀ {v : AV} {u : Value}, scA v = true → R w K β n v u → R w' K' β' n' v u
  | .d (.v x), u, _, h => by simpa only [R, RD] using h
  | .d (.lst ..), u, hs, _ => by cases hs
  | .agg l, u, hs, h => by
    simp only [R] at h ⊢
    obtain ⟨us, h1, h2⟩ := h
    exact ⟨us, h1, RL_sc (by simpa [scA] using hs) h2⟩
  | .tup l, u, hs, h => by
    simp only [R] at h ⊢
    obtain ⟨us, h1, h2⟩ := h
    exact ⟨us, h1, RL_sc (by simpa [scA] using hs) h2⟩
  | .ful .., u, hs, _ | .elm .., u, hs, _ | .ptr .., u, hs, _ | .own .., u, hs, _ | .osl .., u, hs, _ | .mp _, u, hs, _ | .fn .., u, hs, _ => by cases hs
theorem RL_sc : ∀ {l : List AV} {us : List Value}, scL l = true → RL w K β n l us → RL w' K' β' n' l us
  | [], us, _, h => by simpa only [RL] using h
  | v :: l, us, hs, h => by
    simp only [scL, Bool.and_eq_true] at hs
    simp only [RL] at h ⊢
    obtain ⟨u, us', h1, h2, h3⟩ := h
    exact ⟨u, us', h1, R_sc hs.1 h2, RL_sc hs.2 h3⟩
end
end
theorem ACalls.lend {P : Program} {f : FuncId} {s : St} {vs vc : List AV} {Qc Q : AV → St → Prop} (h : ACalls P f vc [] Qc) (hb : Bor s vs vc) (hq : ∀ v s', Qc v s' → scA v = true ∧ Q v s) : ACalls P f vs s Q := by
  intro w K β us hz hr
  let Kc : Nat → Prop := fun b => K b ∨ ∃ i, Alive s i ∧ (β i).b = b
  have hK : Stays w K w Kc := ⟨fun _ h => .inl h, fun _ _ => rfl⟩
  have hcz : Cz w Kc β [] := ⟨(fun i b h => by simp at h), (fun i j ⟨b, h⟩ => by simp at h), (fun i ⟨b, h⟩ => by simp at h), fun b hb => by
    rcases hb with hb | ⟨i, hi, rfl⟩
    · exact hz.kb b hb
    · exact hz.lt hi⟩
  have hrc : RL w Kc β 0 vc us := by
    clear h hq
    induction hb generalizing us with
    | nil => exact hr
    | @same v l m h1 _ ih =>
      simp only [RL] at hr ⊢
      obtain ⟨u, us', e, h2, h3⟩ := hr
      refine ⟨u, us', e, ?_, ih us' h3⟩
      have := R_unren (w := w) (K := Kc) (β := β) (β' := β) (n := s.length) (n' := 0) (r := id) (fun i hi => by omega) (v := v) (u := u) (by rw [renA_bel0 _ h1]; exact h2.mono hK (Nat.le_refl _) fun _ _ => rfl) h1
      exact this
    | @own id t k off len rows l m h1 h2 _ ih =>
      simp only [RL] at hr ⊢
      obtain ⟨u, us', e, h3, h4⟩ := hr
      refine ⟨u, us', e, ?_, ih us' h4⟩
      have hal : Alive s id := ⟨_, h1⟩
      have hF : FrzH w Kc β id k rows := .of hz h1 hK (.inr ⟨id, hal, rfl⟩)
      have := R_frz hK hF h3 (by simp only [fitA]; exact fun _ => h2)
      simp only [frzA, if_true] at this
      simpa only [R] using this
  refine (h w Kc β us hcz hrc).mono fun e w' ⟨v, sc', K', βc', u, e1, q, hz', hR, hx⟩ => ?_
  subst e1
  obtain ⟨hs, hQ⟩ := hq v sc' q
  have hfr : ∀ b, b < w.heap.size → w'.heap[b]? = w.heap[b]? := fun b hb => hx.frame b hb fun i ⟨x, h⟩ => by simp at h
  have hst : Stays w K w' K := ⟨fun _ h => h, fun b hb => hfr b (hz.kb b hb)⟩
  refine ⟨v, s, K, β, u, rfl, hQ, ⟨fun i b hi => hz.old hst (Nat.le_refl _) (fun _ _ => rfl) hi (hfr _ (hz.lt ⟨b, hi⟩)), hz.inj, hz.dis, fun b hb => Nat.lt_of_lt_of_le (hz.kb b hb) hx.size⟩, R_sc hs hR, ?_⟩
  exact { size := hx.size, io := hx.io, fix := fun _ _ => rfl, len := Nat.le_refl _, frame := fun b hb _ => hfr b hb, kmono := fun _ h => h, knew := fun _ h => .inl h, onew := fun i hi => .inr ⟨i, hi, rfl⟩ }
theorem Fn.lend {P : Program} {f : FuncId} {vs vc : List AV} {v : AV} {s : St} (h : Fn P f vc v) (hb : Bor s vs vc) (hv : scA v = true) {Q : AV → St → Prop} (hq : Q v s) : ACalls P f vs s Q :=
  ACalls.lend h hb fun r s' ⟨h1, _⟩ => by subst h1; exact ⟨hv, hq⟩

/-! ### Laws -/
def loc0 : Nat → Loc := fun _ => ⟨0, 0, 0, 0⟩
theorem law_ok {P : Program} {f : FuncId} {vs : List AV} (h : ACalls P f vs [] fun v _ => v = AB true) {w : World} {us : List Value} (hr : RL w (fun b => b < w.heap.size) loc0 0 vs us) :
    Calls P f us.toArray w fun e w' => e = .returned (.bool true) ∧ Go.RowKit.Below w.heap.size w w' := by
  have hcz : Cz w (fun b => b < w.heap.size) loc0 [] := ⟨(fun i b h => by simp at h), (fun i j ⟨b, h⟩ => by simp at h), (fun i ⟨b, h⟩ => by simp at h), fun _ h => h⟩
  refine (h w _ loc0 us hcz hr).mono fun e w' ⟨v, s', K', β', u, e1, q, _, hR, hx⟩ => ?_
  subst e1 q
  exact ⟨by rw [R_AB hR], hx.io.1, hx.io.2.1, hx.io.2.2, hx.size, fun k hk => hx.frame k hk fun i ⟨x, h⟩ => by simp at h⟩
end Go.Proofs.Ytcedkkleclhglaa.H
