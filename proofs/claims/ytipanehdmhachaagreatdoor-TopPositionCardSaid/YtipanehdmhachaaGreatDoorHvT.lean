/- Chapter 8: lists that grow from nothing: as parts of a state; given up to lists. -/
import Derived.Test.YtipanehdmhachaaGreatDoorHvF
set_option linter.unusedSimpArgs false
set_option linter.unusedVariables false
set_option linter.unusedSectionVars false
namespace Go.Proofs.YtipanehdmhachaaGreatDoor.H
variable [DR]
theorem AW.cut2 {P : Program} {N m : Nat} {c : Cd} {T : Tm} {s : St} {M R : Tm → St → Prop} {Q : Fl → Tm → St → Prop} (h : AW P N m c T s (thenQ M Q)) (hM : ∀ T s, M T s → R T s) : AW P N m c T s (thenQ R Q) :=
  AW.mono h fun fl T s hq => by
    cases fl with
    | normal => exact hM T s hq
    | ret => exact hq
    | exit j => exact hq
section
variable {α : Type} {T k n i : Nat} {f : α → List D} {S : List α} {r : Nat → Nat} {s l : St}
theorem NS.g (h : s[r i]? = some (gBg T k f S)) (t : NS n r s (i + 1) l) : NS n r s i (gBg T k f S :: l) := by
  cases S with
  | nil => rw [gBg_nil]; exact t
  | cons x S => exact ⟨⟨belB_rowsA .., by rw [h, gBg_cons, renB_rowsA]⟩, t⟩
theorem belA_gVg (h : i < n) : belA n (gVg i S) = true := by
  cases S with
  | nil => rfl
  | cons x S => simpa [gVg, belA] using h
end
theorem frzB_rowsA {id k T k' : Nat} {rows R : List (List D)} : frzB id k rows (.cells T k' (rowsA R)) = .cells T k' (rowsA R) := by
  simp only [frzB]
  congr 1
  unfold rowsA
  rw [List.map_map]
  refine List.map_congr_left fun r _ => ?_
  simp [Function.comp, frzL_map, frzA]
theorem fitB_rowsA {id n T k' : Nat} {R : List (List D)} : fitB id n (.cells T k' (rowsA R)) := by
  simp only [fitB]
  intro r hr
  unfold rowsA at hr
  obtain ⟨x, _, rfl⟩ := List.mem_map.1 hr
  rw [fitL_iff]
  intro v hv
  obtain ⟨d, _, rfl⟩ := List.mem_map.1 hv
  trivial
/-- A value that knows nothing of a block. -/
def FrA (id : Nat) (v : AV) : Prop := ∀ k rows, v = frzA id k rows v ∧ fitA id rows.length v
def FrB (id : Nat) (b : Blk) : Prop := ∀ k rows, b = frzB id k rows b ∧ fitB id rows.length b
theorem FrA.d {id : Nat} {d : D} : FrA id (.d d) := fun _ _ => ⟨rfl, trivial⟩
theorem FrA.ptr {id i j k : Nat} : FrA id (.ptr i j k) := fun _ _ => ⟨rfl, trivial⟩
theorem FrA.g {α : Type} {id i : Nat} {S : List α} (h : i ≠ id) : FrA id (gVg i S) := fun k rows => by
  cases S with
  | nil => exact ⟨rfl, trivial⟩
  | cons x S => exact ⟨by simp [gVg, frzA, h], fun e => absurd e h⟩
theorem FrB.rows {id T k : Nat} {R : List (List D)} : FrB id (.cells T k (rowsA R)) := fun _ _ => ⟨frzB_rowsA.symm, fitB_rowsA⟩
theorem FrB.g {α : Type} {id T k : Nat} {f : α → List D} {S : List α} {b : Blk} (h : gBg T k f S = some b) : FrB id b := by
  cases S with
  | nil => cases h
  | cons x S => rw [gBg_cons, Option.some.injEq] at h; subst h; exact FrB.rows
/-- Temporaries kept when the list is given up. -/
def GT (id : Nat) (mem : List Int) (T : Tm) : Tm → Prop
  | [] => True
  | (i, v') :: l => ((tget T i = some v' ∧ FrA id v') ∨ (tget T i = some (gVg id mem) ∧ v' = LI mem)) ∧ GT id mem T l
theorem GT_get {id : Nat} {mem : List Int} {T : Tm} : ∀ {T' : Tm} {i : Nat} {v' : AV}, GT id mem T T' → tget T' i = some v' → (tget T i = some v' ∧ FrA id v') ∨ (tget T i = some (gVg id mem) ∧ v' = LI mem)
  | (j, u) :: l, i, v, h, hv => by
    simp only [tget] at hv
    simp only [GT] at h
    by_cases e : j = i
    · subst e; simp at hv; subst hv; exact h.1
    · simp only [beqN e, cond_false] at hv; exact GT_get h.2 hv
theorem AW.frzI {P : Program} {N m : Nat} {c : Cd} {T : Tm} {s : St} {Q : Fl → Tm → St → Prop} {id : Nat} {mem : List Int} (hid : s[id]? = some (gBg 3 1 inR1 mem)) (T' : Tm) (s' : St) (hT : GT id mem T T') (hs' : s' = s.set id none)
    (hS : ∀ (i : Nat) b, i ≠ id → s[i]? = some (some b) → FrB id b) (h : AW P N m c T' s' Q) : AW P N m c T s Q := by
  have hlt := (List.getElem?_eq_some_iff.1 hid).1
  cases mem with
  | nil =>
    have e : s' = s := by
      rw [hs']
      refine List.ext_getElem? fun j => ?_
      rw [List.getElem?_set]
      by_cases e : id = j
      · subst e; rw [if_pos rfl, if_pos hlt, hid]; rfl
      · rw [if_neg e]
    rw [e] at h
    refine AW.weak h fun i v' hv => ?_
    rcases GT_get hT hv with ⟨h1, -⟩ | ⟨h1, rfl⟩
    · exact ⟨v', h1, .same _⟩
    · exact ⟨_, h1, .nil 0 1⟩
  | cons x r =>
    refine AW.freezeB (id := id) (t := 3) (k := 1) (rows := ints (x :: r)) hid h (by rw [hs', List.length_set]) (fun i v' hv => ?_) fun i b' hb => ?_
    · rcases GT_get hT hv with ⟨h1, h2⟩ | ⟨h1, rfl⟩
      · exact ⟨v', h1, h2 _ _⟩
      · refine ⟨_, h1, ?_, ?_⟩
        · simp [gVg, frzA, List.take_of_length_le]
        · simp [gVg, fitA]
    · rw [hs', List.getElem?_set] at hb
      by_cases e : id = i
      · subst e; rw [if_pos rfl, if_pos hlt] at hb; cases hb
      · rw [if_neg e] at hb
        exact ⟨Ne.symm e, b', hb, hS i b' (Ne.symm e) hb _ _⟩
end Go.Proofs.YtipanehdmhachaaGreatDoor.H
