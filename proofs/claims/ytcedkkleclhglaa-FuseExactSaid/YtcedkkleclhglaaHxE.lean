/- Values that tell less; methods that make a list of their own. -/
import Derived.Test.YtcedkkleclhglaaHxD
set_option linter.unusedSimpArgs false
set_option linter.unusedVariables false
set_option linter.unusedSectionVars false
namespace Go.Proofs.Ytcedkkleclhglaa.H

mutual
/-- The second tells no more than the first. -/
inductive Wk : AV → AV → Prop where
  | same (v : AV) : Wk v v
  | ful (k : Nat) (rows : List (List D)) : Wk (.ful k rows) (.d (.lst k rows))
  | nil (k k' : Nat) : Wk (.ful k []) (.d (.lst k' []))
  | agg {l m : List AV} : WkL l m → Wk (.agg l) (.agg m)
inductive WkL : List AV → List AV → Prop where
  | nil : WkL [] []
  | cons {u v : AV} {l m : List AV} : Wk u v → WkL l m → WkL (u :: l) (v :: m)
end
section
variable {w : World} {K : Nat → Prop} {β : Nat → Loc} {n : Nat}
mutual
theorem R_wk : ∀ {v v' : AV} {u : Value}, Wk v v' → R w K β n v u → R w K β n v' u
  | _, _, u, .same _, h => h
  | _, _, u, .ful k rows, h => by
    simp only [R] at h ⊢
    obtain ⟨a, h1, h3⟩ := h
    exact ⟨a, rows.length, h1, Nat.le_refl _, h3⟩
  | _, _, u, .nil k k', h => by
    simp only [R] at h ⊢
    obtain ⟨a, h1, h3⟩ := h
    exact ⟨a, 0, h1, Nat.le_refl _, .inl rfl⟩
  | _, _, u, .agg hl, h => by
    simp only [R] at h ⊢
    obtain ⟨us, h1, h2⟩ := h
    exact ⟨us, h1, RL_wk hl h2⟩
theorem RL_wk : ∀ {l m : List AV} {us : List Value}, WkL l m → RL w K β n l us → RL w K β n m us
  | _, _, us, .nil, h => h
  | _, _, us, .cons hv hl, h => by
    simp only [RL] at h ⊢
    obtain ⟨u, us', h1, h2, h3⟩ := h
    exact ⟨u, us', h1, R_wk hv h2, RL_wk hl h3⟩
end
end
theorem WkL.refl : ∀ l, WkL l l
  | [] => .nil
  | v :: l => .cons (.same v) (.refl l)
theorem ACalls.weaken {P : Program} {f : FuncId} {vs vc : List AV} {s : St} {Q : AV → St → Prop} (h : ACalls P f vc s Q) (hw : WkL vs vc) : ACalls P f vs s Q :=
  fun w K β us hz hr => h w K β us hz (RL_wk hw hr)
theorem Fn.callW {P : Program} {f : FuncId} {vs vc : List AV} {v : AV} (h : Fn P f vc v) (hw : WkL vs vc) (hb : belL 0 vc = true) (hv : belA 0 v = true) {s : St} {Q : AV → St → Prop} (hq : Q v s) : ACalls P f vs s Q :=
  (h.call hb hv hq).weaken hw
/-- A call's end told with less. -/
theorem ACalls.endW {P : Program} {f : FuncId} {vs : List AV} {s : St} {Q Q' : AV → St → Prop} (h : ACalls P f vs s Q) (hq : ∀ v s', Q v s' → ∃ v', Wk v v' ∧ Q' v' s') : ACalls P f vs s Q' := by
  intro w K β us hz hr
  refine (h w K β us hz hr).mono fun e w' ⟨v, s', K', β', u, e1, q, hz', hR, hx⟩ => ?_
  obtain ⟨v', hw, hq'⟩ := hq v s' q
  exact ⟨v', s', K', β', u, e1, hq', hz', R_wk hw hR, hx⟩
section
variable {P : Program} {N m : Nat} {T : Tm} {s : St} {Q : Fl → Tm → St → Prop}
/-- Temporaries told with less. -/
theorem AW.weak {c : Cd} {T' : Tm} (h : AW P N m c T' s Q) (hT : ∀ i v', tget T' i = some v' → ∃ v, tget T i = some v ∧ Wk v v') : AW P N m c T s Q := by
  intro code hc w K β a hf hm
  refine h code hc w K β a ⟨hf.cz, fun i v' hv => ?_, hf.sz, hf.df⟩ hm
  obtain ⟨v, h1, h2⟩ := hT i v' hv
  obtain ⟨u, h3, h4⟩ := hf.rt i v h1
  exact ⟨u, h3, R_wk h2 h4⟩
end
/-- What is kept when an own block is given up to lists. -/
def FT (id k : Nat) (rows : List (List D)) (T : Tm) : Tm → Prop
  | [] => True
  | (i, v') :: l => (∃ v, tget T i = some v ∧ v' = frzA id k rows v ∧ fitA id rows.length v) ∧ FT id k rows T l
def FS (id k : Nat) (rows : List (List D)) (s : St) : Nat → St → Prop
  | _, [] => True
  | i, none :: l => FS id k rows s (i + 1) l
  | i, some b' :: l => (i ≠ id ∧ ∃ b, s[i]? = some (some b) ∧ b' = frzB id k rows b ∧ fitB id rows.length b) ∧ FS id k rows s (i + 1) l
theorem FT_get {id k : Nat} {rows : List (List D)} {T : Tm} : ∀ {T' : Tm} {i : Nat} {v' : AV}, FT id k rows T T' → tget T' i = some v' → ∃ v, tget T i = some v ∧ v' = frzA id k rows v ∧ fitA id rows.length v
  | (j, u) :: l, i, v, h, hv => by
    simp only [tget] at hv
    simp only [FT] at h
    by_cases e : j = i
    · subst e; simp at hv; subst hv; exact h.1
    · simp only [beqN e, cond_false] at hv; exact FT_get h.2 hv
theorem FS_get {id k : Nat} {rows : List (List D)} {s : St} : ∀ {s' : St} {m i : Nat} {b' : Blk}, FS id k rows s m s' → s'[i]? = some (some b') → m + i ≠ id ∧ ∃ b, s[m + i]? = some (some b) ∧ b' = frzB id k rows b ∧ fitB id rows.length b
  | none :: l, m, 0, b, h, hb => by simp at hb
  | some c :: l, m, 0, b, h, hb => by simp at hb; subst hb; exact h.1
  | none :: l, m, i + 1, b, h, hb => by
    have := FS_get (m := m + 1) (i := i) h (by simpa using hb)
    rwa [Nat.add_assoc, Nat.add_comm 1 i] at this
  | some c :: l, m, i + 1, b, h, hb => by
    have := FS_get (m := m + 1) (i := i) h.2 (by simpa using hb)
    rwa [Nat.add_assoc, Nat.add_comm 1 i] at this
theorem AW.frz {P : Program} {N m : Nat} {T : Tm} {s : St} {Q : Fl → Tm → St → Prop} {c : Cd} {id t k : Nat} {rows : List (List D)} (hid : s[id]? = some (some (.cells t k (rowsA rows)))) (T' : Tm) (s' : St) (hT : FT id k rows T T') (hs : FS id k rows s 0 s') (hl : s'.length = s.length) (h : AW P N m c T' s' Q) : AW P N m c T s Q :=
  AW.freezeB hid h hl (fun i v' hv => FT_get hT hv) fun i b' hb => by
    have := FS_get (m := 0) (i := i) hs hb
    rwa [Nat.zero_add] at this
/-- A method of a source that makes a list; the list is the caller's own. -/
def SFnO (P : Program) (T : Nat) (L : List Int) (f : FuncId) (vc : List AV) (t k : Nat) (V : List (List D) → Prop) : Prop :=
  ∀ p, p ≤ L.length → ACalls P f (.ptr 0 0 0 :: vc) [SrcS T L p] fun v s' => ∃ p' rows, p' ≤ L.length ∧ V rows ∧
    ((rows = [] ∧ v = .ful 0 [] ∧ s' = [SrcS T L p']) ∨ (v = .own 1 0 rows.length ∧ s' = [SrcS T L p', some (.cells t k (rowsA rows))]))
theorem back2 {T p i : Nat} {L : List Int} {s : St} {b : Blk} (hi : i < s.length) (hb : ∀ r, renB r b = b) : backS [i] s [SrcS T L p, some b] = s.set i (SrcS T L p) ++ [some b] := by
  have h := back1 (T := T) (p := p) (L := L) hi
  have h2 : backS [i] s [SrcS T L p, some b] = backS [i] s [SrcS T L p] ++ [some b] := by
    unfold backS
    simp only [List.length_singleton, List.drop_one, List.tail_cons, List.map_nil, List.append_nil, List.map_cons, hb]
    congr 1
    refine List.map_congr_left fun j _ => ?_
    by_cases e : i = j
    · subst e
      have : [i].idxOf? i = some 0 := by simp [List.idxOf?, List.findIdx?_cons]
      simp [this]
    · have : [i].idxOf? j = none := by simp [List.idxOf?_eq_none_iff]; exact fun h => e (h ▸ rfl)
      simp [this]
  rw [h2, h]
theorem renB_rowsA (r : Nat → Nat) (t k : Nat) (rows : List (List D)) : renB r (.cells t k (rowsA rows)) = .cells t k (rowsA rows) := by
  simp only [renB, renL_rowsA]
theorem SFnO.call {P : Program} {T : Nat} {L : List Int} {f : FuncId} {vc : List AV} {t k : Nat} {V : List (List D) → Prop} (h : SFnO P T L f vc t k V) {s : St} {i p : Nat} (hi : s[i]? = some (SrcS T L p)) (hb : belL 0 vc = true) (hp : p ≤ L.length) {Q : AV → St → Prop}
    (hq : ∀ p', p' ≤ L.length → V [] → Q (.ful 0 []) (s.set i (SrcS T L p'))) (hq2 : ∀ p' rows, p' ≤ L.length → V rows → Q (.own s.length 0 rows.length) (s.set i (SrcS T L p') ++ [some (.cells t k (rowsA rows))])) : ACalls P f (.ptr i 0 0 :: vc) s Q :=
  ACalls.frame (h p hp) (given1 hi hb) fun v s' ⟨p', rows, h1, h2, h3⟩ => by
    have hlt := (List.getElem?_eq_some_iff.1 hi).1
    rcases h3 with ⟨rfl, rfl, rfl⟩ | ⟨rfl, rfl⟩
    · rw [back1 hlt]; exact hq p' h1 h2
    · rw [back2 hlt fun r => renB_rowsA r t k rows]
      exact hq2 p' rows h1 h2
/-- The list is given up at once. -/
theorem SFnO.frozen {P : Program} {T : Nat} {L : List Int} {f : FuncId} {vc : List AV} {t k : Nat} {V : List (List D) → Prop} (h : SFnO P T L f vc t k V) : SFn P T L f vc fun v => ∃ rows, V rows ∧ v = .d (.lst k rows) := by
  intro p hp
  have h1 : ACalls P f (.ptr 0 0 0 :: vc) [SrcS T L p] fun v s' => ∃ p', p' ≤ L.length ∧ s'[0]? = some (SrcS T L p') ∧ ∃ rows, V rows ∧ v = .d (.lst k rows) := by
    refine ACalls.freeze (ACalls.endW (Q' := fun v s' => (∃ p', p' ≤ L.length ∧ s'[0]? = some (SrcS T L p') ∧ ∃ rows, V rows ∧ v = .d (.lst k rows)) ∨ ∃ p' rows, p' ≤ L.length ∧ V rows ∧ v = .own 1 0 rows.length ∧ s' = [SrcS T L p', some (.cells t k (rowsA rows))]) (h p hp) fun v s' ⟨p', rows, g1, g2, g3⟩ => ?_) fun v s' hv => ?_
    · rcases g3 with ⟨rfl, rfl, rfl⟩ | ⟨rfl, rfl⟩
      · exact ⟨_, .nil 0 k, .inl ⟨p', g1, rfl, [], g2, rfl⟩⟩
      · exact ⟨_, .same _, .inr ⟨p', rows, g1, g2, rfl, rfl⟩⟩
    · rcases hv with hv | ⟨p', rows, g1, g2, rfl, rfl⟩
      · exact .inl hv
      · refine .inr ⟨1, t, k, rows, rfl, by simp [fitA], p', g1, rfl, rows, g2, ?_⟩
        simp [frzA]
  refine ACalls.take h1 fun v s' ⟨p', g1, g2, rows, g3, g4⟩ => ⟨by rw [g4]; rfl, fun i b hi hb => ?_, p', g1, ⟨rows, g3, g4⟩, by rw [g4]; rfl, ?_⟩
  · have : i = 0 := by simp at hi; omega
    subst this
    rw [g2] at hb
    simp only [Option.some.injEq] at hb; subst hb; rfl
  · cases s' with
    | nil => simp at g2
    | cons x l => simp at g2; simp [g2]
end Go.Proofs.Ytcedkkleclhglaa.H
