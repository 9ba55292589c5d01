/- Chapter 8: lists given up, of any rows; to a call. -/
import Derived.Test.YtipanehdmhachaaGreatDoorHvT
set_option linter.unusedSimpArgs false
set_option linter.unusedVariables false
set_option linter.unusedSectionVars false
namespace Go.Proofs.YtipanehdmhachaaGreatDoor.H
variable [DR]
/-- Temporaries kept when a list is given up. -/
def GX (id : Nat) (v u : AV) (T : Tm) : Tm → Prop
  | [] => True
  | (i, v') :: l => ((tget T i = some v' ∧ FrA id v') ∨ (tget T i = some v ∧ v' = u)) ∧ GX id v u T l
theorem GX_get {id : Nat} {x y : AV} {T : Tm} : ∀ {T' : Tm} {i : Nat} {v' : AV}, GX id x y T T' → tget T' i = some v' → (tget T i = some v' ∧ FrA id v') ∨ (tget T i = some x ∧ v' = y)
  | (j, u) :: l, i, v, h, hv => by
    simp only [tget] at hv
    simp only [GX] at h
    by_cases e : j = i
    · subst e; simp at hv; subst hv; exact h.1
    · simp only [beqN e, cond_false] at hv; exact GX_get h.2 hv
theorem AW.frzX {α : Type} {t k : Nat} {f : α → List D} {P : Program} {N m : Nat} {c : Cd} {T : Tm} {s : St} {Q : Fl → Tm → St → Prop} {id : Nat} {mem : List α} (hid : s[id]? = some (gBg t k f mem)) (T' : Tm) (s' : St) (hT : GX id (gVg id mem) (.d (.lst k (mem.map f))) T T') (hs' : s' = s.set id none)
    (hS : ∀ (i : Nat) b, i ≠ id → s[i]? = some (some b) → FrB id b) (h : AW P N m c T' s' Q) : AW P N m c T s Q := by
  have hlt := (List.getElem?_eq_some_iff.1 hid).1
  cases mem with
  | nil =>
    have e : s' = s := by
      rw [hs']
      refine List.ext_getElem? fun j => ?_
      rw [List.getElem?_set]
      by_cases e : id = j
      · subst e; rw [if_pos rfl, if_pos hlt, hid]; rfl
      · rw [if_neg e]
    rw [e] at h
    refine AW.weak h fun i v' hv => ?_
    rcases GX_get hT hv with ⟨h1, -⟩ | ⟨h1, rfl⟩
    · exact ⟨v', h1, .same _⟩
    · exact ⟨_, h1, .nil 0 k⟩
  | cons x r =>
    refine AW.freezeB (id := id) (t := t) (k := k) (rows := (x :: r).map f) hid h (by rw [hs', List.length_set]) (fun i v' hv => ?_) fun i b' hb => ?_
    · rcases GX_get hT hv with ⟨h1, h2⟩ | ⟨h1, rfl⟩
      · exact ⟨v', h1, h2 _ _⟩
      · refine ⟨_, h1, ?_, ?_⟩
        · simp [gVg, frzA, List.take_of_length_le]
        · simp [gVg, fitA]
    · rw [hs', List.getElem?_set] at hb
      by_cases e : id = i
      · subst e; rw [if_pos rfl, if_pos hlt] at hb; cases hb
      · rw [if_neg e] at hb
        exact ⟨Ne.symm e, b', hb, hS i b' (Ne.symm e) hb _ _⟩
/-- An own list given up to a call. -/
theorem ACalls.give {P : Program} {f : FuncId} {vs vs' : List AV} {s s' : St} {Q : AV → St → Prop} {id t k : Nat} {rows : List (List D)} (hid : s[id]? = some (some (.cells t k (rowsA rows)))) (hv : vs' = frzL id k rows vs) (hf : fitL id rows.length vs) (hs' : s' = s.set id none)
    (hS : ∀ (i : Nat) b, i ≠ id → s[i]? = some (some b) → FrB id b) (h : ACalls P f vs' s' Q) : ACalls P f vs s Q := by
  intro w K β us hz hr
  subst hv
  have hlt := (List.getElem?_eq_some_iff.1 hid).1
  have hl : s'.length = s.length := by rw [hs', List.length_set]
  let K' : Nat → Prop := fun b => K b ∨ b = (β id).b
  have hK : Stays w K w K' := ⟨fun _ h => .inl h, fun _ _ => rfl⟩
  have hF : FrzH w K' β id k rows := .of hz hid hK (.inr rfl)
  have hal : Alive s id := ⟨_, hid⟩
  have al : ∀ (i : Nat) b, s'[i]? = some (some b) → i ≠ id ∧ s[i]? = some (some b) := fun i b hb => by
    rw [hs', List.getElem?_set] at hb
    by_cases e : id = i
    · subst e; rw [if_pos rfl, if_pos hlt] at hb; cases hb
    · rw [if_neg e] at hb; exact ⟨Ne.symm e, hb⟩
  have hcz : Cz w K' β s' := by
    refine ⟨fun i b hi => ?_, fun i j ⟨b, hi⟩ ⟨b', hj⟩ => hz.inj i j ⟨b, (al i b hi).2⟩ ⟨b', (al j b' hj).2⟩, fun i ⟨b, hi⟩ hk => ?_, fun b hb => ?_, hz.gl.mono hK⟩
    · obtain ⟨h1, h2⟩ := al i b hi
      rw [hl]
      have hb := hz.blk i b h2
      have hfr := hS i b h1 h2
      cases b with
      | cells T0 k0 rs =>
        obtain ⟨pre, us, post, e1, e2, e3, e4, e5, e6, e7⟩ := hb
        have hfb := hfr k rows
        have efl : (rs.map (frzL id k rows)).flatten = frzL id k rows rs.flatten := by
          rw [frzL_map, List.map_flatten]
          congr 1
          exact List.map_congr_left fun l _ => frzL_map l
        have ers : rs.map (frzL id k rows) = rs := by
          have := hfb.1
          simp only [frzB, Blk.cells.injEq, true_and] at this
          exact this.symm
        refine ⟨pre, us, post, e1, e2, ?_, e4, e5, e6, e7⟩
        have := RL_frz hK hF e3 (fitL_iff.2 fun v hv => by
            obtain ⟨r, hr, hv⟩ := List.mem_flatten.1 hv
            exact fitL_iff.1 (hfb.2 r hr) v hv)
        rw [← efl, ers] at this
        exact this
      | mp es => exact hb
      | it m c seen => exact hb
    · obtain ⟨h1, h2⟩ := al i b hi
      rcases hk with hk | hk
      · exact hz.dis i ⟨b, h2⟩ hk
      · exact hz.inj i id ⟨b, h2⟩ hal h1 hk
    · rcases hb with hb | hb
      · exact hz.kb b hb
      · rw [hb]; exact hz.lt hal
  refine (h w K' β us hcz (by rw [hl]; exact RL_frz hK hF hr hf)).mono fun e w' ⟨v, s'', K'', β', u, e1, q, hz', hR, hx⟩ => ?_
  refine ⟨v, s'', K'', β', u, e1, q, hz', hR, ?_⟩
  have hnew : ∀ b, K' b → K b ∨ w.heap.size ≤ b ∨ ∃ i, Alive s i ∧ (β i).b = b := fun b hb => by
    rcases hb with hb | hb
    · exact .inl hb
    · exact .inr (.inr ⟨id, hal, hb.symm⟩)
  have h0 : Ext s.length w K β s w K' β s' := { size := Nat.le_refl _, io := .refl _, fix := fun _ _ => rfl, len := by omega, frame := fun _ _ _ => rfl, kmono := fun _ h => .inl h, knew := hnew, onew := fun i ⟨b, hi⟩ => .inr ⟨i, ⟨b, (al i b hi).2⟩, rfl⟩ }
  rw [hl] at hx
  exact h0.trans (Nat.le_refl _) hx
end Go.Proofs.YtipanehdmhachaaGreatDoor.H
