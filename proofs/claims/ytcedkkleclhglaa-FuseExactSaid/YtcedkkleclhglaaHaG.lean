/- What becomes of memory: a new block, a frozen one, a block rewritten, a block that grows in its place. -/
import Derived.Test.YtcedkkleclhglaaHaF
set_option linter.unusedSimpArgs false
set_option linter.unusedVariables false
set_option linter.unusedSectionVars false
namespace Go.Proofs.Ytcedkkleclhglaa.H
section
variable {P : Program} {w : World} {K : Nat → Prop} {β : Nat → Loc} {s : St}
theorem Cz.old (hz : Cz w K β s) {w' : World} {K' : Nat → Prop} {β' : Nat → Loc} {n' : Nat} (hs : Stays w K w' K') (hn : s.length ≤ n') (hb : ∀ i, i < s.length → β' i = β i) {i : Nat} {b : Blk} (hi : s[i]? = some (some b))
    (hh : w'.heap[(β i).b]? = w.heap[(β i).b]?) : BlkOK w' K' β' n' (β i) b := by
  have h := hz.blk i b hi
  cases b with
  | cells T k rows =>
    obtain ⟨pre, us, post, h1, h2, h3, h4, h5, h6, h7⟩ := h
    exact ⟨pre, us, post, by rw [hh]; exact h1, h2, h3.mono hs hn hb, h4, h5, h6, h7⟩
def lay (β : Nat → Loc) (n : Nat) (p : Loc) : Nat → Loc := fun i => if i = n then p else β i
theorem lay_same (β : Nat → Loc) (n : Nat) (p : Loc) : lay β n p n = p := by simp [lay]
theorem lay_ne (β : Nat → Loc) {n i : Nat} (p : Loc) (h : i ≠ n) : lay β n p i = β i := by simp [lay, h]
theorem get_app {s : St} {o b : Option Blk} {i : Nat} (h : (s ++ [o])[i]? = some b) : s[i]? = some b ∨ (i = s.length ∧ b = o) := by
  by_cases hi : i < s.length
  · rw [List.getElem?_append_left hi] at h; exact .inl h
  · rw [List.getElem?_append_right (by omega)] at h
    right
    have : i - s.length = 0 := by
      have h' : i - s.length < 1 := (List.getElem?_eq_some_iff.1 h).1
      omega
    rw [this] at h; simp at h
    exact ⟨by omega, h.symm⟩
theorem alive_lt {s : St} {i : Nat} (h : Alive s i) : i < s.length := by obtain ⟨b, h⟩ := h; exact (List.getElem?_eq_some_iff.1 h).1
theorem stays_push {w' : World} {o : Obj} (hz : Cz w K β s) (hw : w'.heap = w.heap.push o) : Stays w K w' K := ⟨fun _ h => h, fun b hb => by
  have := hz.kb b hb
  rw [hw, Array.getElem?_push_lt this, Array.getElem?_eq_getElem this]⟩
theorem push_old {w' : World} {o : Obj} (hw : w'.heap = w.heap.push o) {b : Nat} (hb : b < w.heap.size) : w'.heap[b]? = w.heap[b]? := by
  rw [hw, Array.getElem?_push_lt hb, Array.getElem?_eq_getElem hb]
theorem Cz.new (hz : Cz w K β s) {w' : World} {us post : List Value} {T k cap : Nat} {rows : List (List AV)} (hw : w'.heap = w.heap.push (.cells (us ++ post).toArray T (0, 0))) (hio : SameIO w w')
    (hr : RL w K β s.length rows.flatten us) (h1 : ∀ v ∈ rows.flatten, v.one = true) (hk : ∀ r ∈ rows, r.length = k) (hl : (us ++ post).length = cap * k) :
    Cz w' K (lay β s.length ⟨w.heap.size, 0, k, cap⟩) (s ++ [some (.cells T k rows)]) ∧ Ext s.length w K β s w' K (lay β s.length ⟨w.heap.size, 0, k, cap⟩) (s ++ [some (.cells T k rows)]) := by
  have hs := stays_push hz hw
  have hb : ∀ i, i < s.length → lay β s.length ⟨w.heap.size, 0, k, cap⟩ i = β i := fun i hi => lay_ne _ _ (by omega)
  have alive : ∀ i, Alive (s ++ [some (.cells T k rows)]) i → Alive s i ∨ i = s.length := fun i ⟨b, h⟩ => by
    rcases get_app h with h | h
    · exact .inl ⟨b, h⟩
    · exact .inr h.1
  have hlt : ∀ i, Alive s i → (β i).b < w.heap.size := fun i hi => hz.lt hi
  refine ⟨⟨?_, ?_, ?_, ?_⟩, ?_⟩
  · intro i b hi
    rcases get_app hi with hi | ⟨rfl, he⟩
    · have hil := alive_lt ⟨b, hi⟩
      rw [hb i hil]
      exact hz.old hs (by simp) hb hi (push_old hw (hlt i ⟨b, hi⟩))
    · simp only [Option.some.injEq] at he; subst he
      rw [lay_same]
      refine ⟨[], us, post, ?_, rfl, hr.mono hs (by simp) hb, by simpa using hl, rfl, h1, hk⟩
      rw [hw]; simp
  · intro i j hi hj hij
    rcases alive i hi with hi | hi <;> rcases alive j hj with hj | hj
    · rw [hb i (alive_lt hi), hb j (alive_lt hj)]; exact hz.inj i j hi hj hij
    · subst hj; rw [hb i (alive_lt hi), lay_same]; have := hlt i hi; simp only []; omega
    · subst hi; rw [hb j (alive_lt hj), lay_same]; have := hlt j hj; simp only []; omega
    · omega
  · intro i hi hK
    rcases alive i hi with hi | hi
    · rw [hb i (alive_lt hi)] at hK; exact hz.dis i hi hK
    · subst hi; rw [lay_same] at hK; have := hz.kb _ hK; simp only [] at this; omega
  · intro b hK; have := hz.kb b hK; rw [hw]; simp; omega
  · exact { size := by rw [hw]; simp
            io := hio
            fix := hb
            len := by simp
            frame := fun b hb' _ => push_old hw hb'
            kmono := fun _ h => h
            knew := fun _ h => .inl h
            onew := fun i hi => by
              rcases alive i hi with hi | hi
              · right; exact ⟨i, hi, by rw [hb i (alive_lt hi)]⟩
              · left; subst hi; rw [lay_same]; exact Nat.le_refl _ }
theorem Cz.froz (hz : Cz w K β s) {w' : World} {us : List Value} {T : TypeId} (hw : w'.heap = w.heap.push (.cells us.toArray T (0, 0))) (hio : SameIO w w') :
    Cz w' (fun b => K b ∨ b = w.heap.size) β s ∧ Ext s.length w K β s w' (fun b => K b ∨ b = w.heap.size) β s := by
  have hs : Stays w K w' (fun b => K b ∨ b = w.heap.size) := ⟨fun _ h => .inl h, (stays_push hz hw).h⟩
  refine ⟨⟨?_, hz.inj, ?_, ?_⟩, ?_⟩
  · intro i b hi
    exact hz.old hs (Nat.le_refl _) (fun _ _ => rfl) hi (push_old hw (hz.lt ⟨b, hi⟩))
  · intro i hi hK
    rcases hK with hK | hK
    · exact hz.dis i hi hK
    · have := hz.lt hi; omega
  · intro b hK
    rw [hw]
    rcases hK with hK | hK
    · have := hz.kb b hK; simp; omega
    · simp; omega
  · exact { size := by rw [hw]; simp
            io := hio
            fix := fun _ _ => rfl
            len := Nat.le_refl _
            frame := fun b hb' _ => push_old hw hb'
            kmono := fun _ h => .inl h
            knew := fun b h => by
              rcases h with h | h
              · exact .inl h
              · right; left; omega
            onew := fun i hi => .inr ⟨i, hi, rfl⟩ }
theorem io_setRow (w : World) (g : Nat) (cs : Array Value) : SameIO w (w.setRow g cs) := ⟨rfl, rfl, rfl⟩
theorem size_setRow (w : World) (g : Nat) (cs : Array Value) : (w.setRow g cs).heap.size = w.heap.size := by simp [World.setRow]
theorem Cz.set (hz : Cz w K β s) {id T k : Nat} {rows rows' : List (List AV)} (hid : s[id]? = some (some (.cells T k rows))) {pre us us' post : List Value} (h1 : w.heap[(β id).b]? = some (.cells (pre ++ us ++ post).toArray T (0, 0)))
    (h2 : pre.length = (β id).base) (h4 : (pre ++ us ++ post).length = (β id).base + (β id).cap * k) (hl : us'.length = us.length) (hr : RL w K β s.length rows'.flatten us') (ho : ∀ v ∈ rows'.flatten, v.one = true) (hk : ∀ r ∈ rows', r.length = k) :
    Cz (w.setRow (β id).b (pre ++ us' ++ post).toArray) K β (s.set id (some (.cells T k rows'))) ∧ Ext s.length w K β s (w.setRow (β id).b (pre ++ us' ++ post).toArray) K β (s.set id (some (.cells T k rows'))) := by
  have hal : Alive s id := ⟨_, hid⟩
  have hs : Stays w K (w.setRow (β id).b (pre ++ us' ++ post).toArray) K := ⟨fun _ h => h, fun b hb => setRow_other w _ b _ (fun e => hz.dis id hal (by rw [← e]; exact hb))⟩
  have get : ∀ {i b}, (s.set id (some (.cells T k rows')))[i]? = some (some b) → (i ≠ id ∧ s[i]? = some (some b)) ∨ (i = id ∧ b = .cells T k rows') := fun {i b} h => by
    rw [List.getElem?_set] at h
    split at h
    · rename_i e
      split at h
      · simp only [Option.some.injEq] at h; exact .inr ⟨e.symm, h.symm⟩
      · cases h
    · rename_i e; exact .inl ⟨fun e' => e e'.symm, h⟩
  have alive : ∀ i, Alive (s.set id (some (.cells T k rows'))) i → Alive s i := fun i ⟨b, h⟩ => by
    rcases get h with ⟨_, h⟩ | ⟨rfl, _⟩
    · exact ⟨b, h⟩
    · exact hal
  have hkk : (β id).k = k := by obtain ⟨_, _, _, _, _, _, _, h5, _⟩ := hz.cells hid; exact h5
  refine ⟨⟨?_, fun i j hi hj => hz.inj i j (alive i hi) (alive j hj), fun i hi => hz.dis i (alive i hi), fun b hb => by rw [size_setRow]; exact hz.kb b hb⟩, ?_⟩
  · intro i b hi
    rw [List.length_set]
    rcases get hi with ⟨hne, hi⟩ | ⟨rfl, rfl⟩
    · exact hz.old hs (Nat.le_refl _) (fun _ _ => rfl) hi (setRow_other w _ _ _ (hz.inj i id ⟨_, hi⟩ hal hne))
    · refine ⟨pre, us', post, setRow_heap w _ _ _ _ _ h1, h2, hr.mono hs (Nat.le_refl _) (fun _ _ => rfl), ?_, hkk, ho, hk⟩
      rw [← h4]; simp [hl]
  · exact { size := by rw [size_setRow]; exact Nat.le_refl _
            io := io_setRow ..
            fix := fun _ _ => rfl
            len := by simp
            frame := fun b _ hn => setRow_other w _ b _ (fun e => hn id hal e.symm)
            kmono := fun _ h => h
            knew := fun _ h => .inl h
            onew := fun i hi => .inr ⟨i, alive i hi, rfl⟩ }
/-- A block that grows in its place gets a new name; what lies ahead of its slice is given up. -/
theorem Cz.move (hz : Cz w K β s) {id T k : Nat} {rows rows' : List (List AV)} (hid : s[id]? = some (some (.cells T k rows))) {pre us post : List Value} {old : Array Value} (h1 : w.heap[(β id).b]? = some (.cells old T (0, 0)))
    {base cap : Nat} (h2 : pre.length = base) (h4 : (pre ++ us ++ post).length = base + cap * k) (hr : RL w K β s.length rows'.flatten us) (ho : ∀ v ∈ rows'.flatten, v.one = true) (hk : ∀ r ∈ rows', r.length = k) :
    Cz (w.setRow (β id).b (pre ++ us ++ post).toArray) K (lay β s.length ⟨(β id).b, base, k, cap⟩) (s.set id none ++ [some (.cells T k rows')]) ∧
      Ext s.length w K β s (w.setRow (β id).b (pre ++ us ++ post).toArray) K (lay β s.length ⟨(β id).b, base, k, cap⟩) (s.set id none ++ [some (.cells T k rows')]) := by
  have hal : Alive s id := ⟨_, hid⟩
  have hs : Stays w K (w.setRow (β id).b (pre ++ us ++ post).toArray) K := ⟨fun _ h => h, fun b hb => setRow_other w _ b _ (fun e => hz.dis id hal (by rw [← e]; exact hb))⟩
  have hb : ∀ i, i < s.length → lay β s.length ⟨(β id).b, base, k, cap⟩ i = β i := fun i hi => lay_ne _ _ (by omega)
  have get : ∀ {i b}, (s.set id none ++ [some (.cells T k rows')])[i]? = some (some b) → (i ≠ id ∧ s[i]? = some (some b)) ∨ (i = s.length ∧ b = .cells T k rows') := fun {i b} h => by
    rcases get_app h with h | ⟨h, e⟩
    · left
      rw [List.getElem?_set] at h
      split at h
      · split at h <;> simp at h
      · rename_i e; exact ⟨fun e' => e e'.symm, h⟩
    · right; simp only [Option.some.injEq] at e; exact ⟨by simpa using h, e⟩
  have alive : ∀ i, Alive (s.set id none ++ [some (.cells T k rows')]) i → (i ≠ id ∧ Alive s i) ∨ i = s.length := fun i ⟨b, h⟩ => by
    rcases get h with ⟨h1, h⟩ | ⟨h, _⟩
    · exact .inl ⟨h1, b, h⟩
    · exact .inr h
  refine ⟨⟨?_, ?_, ?_, fun b hb => by rw [size_setRow]; exact hz.kb b hb⟩, ?_⟩
  · intro i b hi
    rcases get hi with ⟨hne, hi⟩ | ⟨rfl, rfl⟩
    · rw [hb i (alive_lt ⟨b, hi⟩)]
      exact hz.old hs (by simp) hb hi (setRow_other w _ _ _ (hz.inj i id ⟨_, hi⟩ hal hne))
    · rw [lay_same]
      exact ⟨pre, us, post, setRow_heap w _ _ _ _ _ h1, h2, hr.mono hs (by simp) hb, h4, rfl, ho, hk⟩
  · intro i j hi hj hij
    rcases alive i hi with ⟨ne, hi⟩ | hi <;> rcases alive j hj with ⟨ne', hj⟩ | hj
    · rw [hb i (alive_lt hi), hb j (alive_lt hj)]; exact hz.inj i j hi hj hij
    · subst hj; rw [hb i (alive_lt hi), lay_same]; exact hz.inj i id hi hal ne
    · subst hi; rw [hb j (alive_lt hj), lay_same]; exact hz.inj id j hal hj (Ne.symm ne')
    · omega
  · intro i hi
    rcases alive i hi with ⟨_, hi⟩ | hi
    · rw [hb i (alive_lt hi)]; exact hz.dis i hi
    · subst hi; rw [lay_same]; exact hz.dis id hal
  · exact { size := by rw [size_setRow]; exact Nat.le_refl _
            io := io_setRow ..
            fix := hb
            len := by simp
            frame := fun b _ hn => setRow_other w _ b _ (fun e => hn id hal e.symm)
            kmono := fun _ h => h
            knew := fun _ h => .inl h
            onew := fun i hi => by
              rcases alive i hi with ⟨_, hi⟩ | hi
              · exact .inr ⟨i, hi, by rw [hb i (alive_lt hi)]⟩
              · subst hi; exact .inr ⟨id, hal, by rw [lay_same]⟩ }
/-- A block that grows elsewhere: the old one is given up. -/
theorem Cz.drop1 (hz : Cz w K β s) (id : Nat) : Cz w K β (s.set id none) ∧ Ext s.length w K β s w K β (s.set id none) := by
  have get : ∀ {i b}, (s.set id none)[i]? = some (some b) → s[i]? = some (some b) := fun {i b} h => by
    rw [List.getElem?_set] at h
    split at h
    · split at h <;> simp at h
    · exact h
  have alive : ∀ i, Alive (s.set id none) i → Alive s i := fun i ⟨b, h⟩ => ⟨b, get h⟩
  refine ⟨⟨fun i b hi => by rw [List.length_set]; exact hz.blk i b (get hi), fun i j hi hj => hz.inj i j (alive i hi) (alive j hj), fun i hi => hz.dis i (alive i hi), hz.kb⟩, ?_⟩
  exact { size := Nat.le_refl _, io := .refl _, fix := fun _ _ => rfl, len := by simp, frame := fun _ _ _ => rfl, kmono := fun _ h => h, knew := fun _ h => .inl h, onew := fun i hi => .inr ⟨i, alive i hi, rfl⟩ }
end
end Go.Proofs.Ytcedkkleclhglaa.H
