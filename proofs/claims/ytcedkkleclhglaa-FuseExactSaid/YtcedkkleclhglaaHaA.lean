/- Values told by pure data, a heap of our own blocks, and how they stand for the model's values and memory. -/
import Derived.WalkKit
import Derived.Deep.Quiet
set_option linter.unusedSimpArgs false
set_option linter.unusedVariables false
set_option linter.unusedSectionVars false
namespace Go.Proofs.Ytcedkkleclhglaa.H

/-- Pure data: the value of one cell, or a list of rows of so many cells, of which no cell will ever be written again. -/
inductive D where
  | v (x : Value) | lst (k : Nat) (rows : List (List D))
instance : Inhabited D := ⟨.lst 0 []⟩
/-- Values. 'ful': a list whose capacity is its length. 'elm': a place in a list. 'ptr': a place in a block of our own (a row, a cell of it). 'own': a slice of a block of our own, from a row on, so many rows, with room to the block's end; 'osl': one of cells of a row, without room behind it. -/
inductive AV where
  | d (x : D) | ful (k : Nat) (rows : List (List D)) | elm (k : Nat) (rows : List (List D)) (i off : Nat)
  | ptr (id i off : Nat) | own (id off len : Nat) | osl (id i off len : Nat)
  | agg (l : List AV) | tup (l : List AV) | fn (f : FuncId) (a c : List AV) | mp (id : Nat)
instance : Inhabited AV := ⟨.tup []⟩
/-- Where a block lies: the block, the first cell, an element's cells, room for so many elements. -/
structure Loc where
  b : Nat
  base : Nat
  k : Nat
  cap : Nat
instance : Inhabited Loc := ⟨⟨0, 0, 0, 0⟩⟩

theorem Addr_add_add (a : Addr) (m n : Nat) : (a.add m).add n = a.add (m + n) := by
  unfold Addr.add
  by_cases hm : m = 0 <;> by_cases hn : n = 0 <;> simp [hm, hn, Nat.add_assoc]
theorem add_addr (b o j : Nat) : (⟨b, o, none⟩ : Addr).add j = ⟨b, o + j, none⟩ := by
  unfold Addr.add; split <;> simp_all
theorem add_block (x : Addr) (i : Nat) : (x.add i).block = x.block := by unfold Addr.add; split <;> rfl
theorem add_zero (x : Addr) : x.add 0 = x := by simp [Addr.add]
theorem cell_same {w w' : World} {x : Addr} (h : w'.heap[x.block]? = w.heap[x.block]?) : w'.cell? x = w.cell? x := by
  unfold World.cell?; rw [h]

section
variable (w : World) (K : Nat → Prop)
mutual
def RD : D → Value → Prop
  | .v x, u => u = x ∧ x.oneCell' = true
  | .lst k rows, u => ∃ a cap, u = .slice a rows.length cap ∧ rows.length ≤ cap ∧ (rows.length = 0 ∨ ∃ x, a = some x ∧ RRows k rows x)
def RRows (k : Nat) : List (List D) → Addr → Prop
  | [], _ => True
  | r :: rs, x => r.length = k ∧ RCells r x ∧ RRows k rs (x.add k)
def RCells : List D → Addr → Prop
  | [], _ => True
  | d :: ds, x => K x.block ∧ (∃ u, w.cell? x = some u ∧ RD d u) ∧ RCells ds (x.add 1)
end
variable (β : Nat → Loc) (n : Nat)
mutual
def R : AV → Value → Prop
  | .d x, u => RD w K x u
  | .ful k rows, u => ∃ a, u = .slice a rows.length rows.length ∧ (rows.length = 0 ∨ ∃ x, a = some x ∧ RRows w K k rows x)
  | .elm k rows i off, u => ∃ x, u = .pointer (some (x.add (i * k + off))) ∧ RRows w K k rows x ∧ i < rows.length
  | .ptr id i off, u => id < n ∧ u = .pointer (some ⟨(β id).b, (β id).base + (i * (β id).k + off), none⟩)
  | .own id off len, u => id < n ∧ ∃ x c, u = .slice (some x) len c ∧ len ≤ c ∧ off + c = (β id).cap ∧ (0 < c → x = ⟨(β id).b, (β id).base + off * (β id).k, none⟩)
  | .osl id i off len, u => id < n ∧ u = .slice (some ⟨(β id).b, (β id).base + (i * (β id).k + off), none⟩) len len
  | .agg l, u => ∃ us, u = .agg us.toArray ∧ RL l us
  | .tup l, u => ∃ us, u = .tuple us.toArray ∧ RL l us
  | .fn f a c, u => ∃ us vs, u = .func (.func f) us.toArray vs.toArray ∧ RL a us ∧ RL c vs
  | .mp id, u => id < n ∧ u = .map (some (β id).b)
def RL : List AV → List Value → Prop
  | [], us => us = []
  | v :: l, us => ∃ u us', us = u :: us' ∧ R v u ∧ RL l us'
end
end

/-! ### Lists of cells -/
theorem RCells_get {w : World} {K : Nat → Prop} : ∀ {r : List D} {x : Addr} {c : Nat} {d : D}, RCells w K r x → r[c]? = some d → K x.block ∧ ∃ u, w.cell? (x.add c) = some u ∧ RD w K d u
  | d :: ds, x, 0, d', h, hc => by
    simp only [RCells] at h
    simp at hc; subst hc
    rw [add_zero]
    exact ⟨h.1, h.2.1⟩
  | d :: ds, x, c + 1, d', h, hc => by
    simp only [RCells] at h
    have := RCells_get (c := c) h.2.2 (by simpa using hc)
    rw [add_block, Addr_add_add, Nat.add_comm 1 c] at this
    exact this
theorem RCells_of {w : World} {K : Nat → Prop} : ∀ {r : List D} {x : Addr}, (∀ (c : Nat) d, r[c]? = some d → K x.block ∧ ∃ u, w.cell? (x.add c) = some u ∧ RD w K d u) → RCells w K r x
  | [], x, _ => by simp [RCells]
  | d :: ds, x, h => by
    simp only [RCells]
    have h0 := h 0 d rfl
    rw [add_zero] at h0
    refine ⟨h0.1, h0.2, RCells_of fun c d' hc => ?_⟩
    have := h (c + 1) d' (by simpa using hc)
    rw [add_block, Addr_add_add, Nat.add_comm 1 c]
    exact this
theorem RRows_get {w : World} {K : Nat → Prop} {k : Nat} : ∀ {rows : List (List D)} {x : Addr} {i : Nat} {r : List D}, RRows w K k rows x → rows[i]? = some r → r.length = k ∧ RCells w K r (x.add (i * k))
  | r :: rs, x, 0, r', h, hi => by
    simp only [RRows] at h
    simp at hi; subst hi
    rw [Nat.zero_mul, add_zero]
    exact ⟨h.1, h.2.1⟩
  | r :: rs, x, i + 1, r', h, hi => by
    simp only [RRows] at h
    have := RRows_get (i := i) h.2.2 (by simpa using hi)
    rw [Addr_add_add, show k + i * k = (i + 1) * k by rw [Nat.succ_mul]; omega] at this
    exact this
theorem RRows_of {w : World} {K : Nat → Prop} {k : Nat} : ∀ {rows : List (List D)} {x : Addr}, (∀ (i : Nat) r, rows[i]? = some r → r.length = k ∧ RCells w K r (x.add (i * k))) → RRows w K k rows x
  | [], x, _ => by simp [RRows]
  | r :: rs, x, h => by
    simp only [RRows]
    have h0 := h 0 r rfl
    rw [Nat.zero_mul, add_zero] at h0
    refine ⟨h0.1, h0.2, RRows_of fun i r' hi => ?_⟩
    have := h (i + 1) r' (by simpa using hi)
    rw [Addr_add_add, show k + i * k = (i + 1) * k by rw [Nat.succ_mul]; omega]
    exact this
theorem RRows_drop {w : World} {K : Nat → Prop} {k : Nat} {rows : List (List D)} {x : Addr} (h : RRows w K k rows x) (j : Nat) : RRows w K k (rows.drop j) (x.add (j * k)) :=
  RRows_of fun i r hi => by
    rw [List.getElem?_drop] at hi
    have := RRows_get h hi
    rw [Addr_add_add, show j * k + i * k = (j + i) * k by rw [Nat.add_mul]]
    exact this
theorem RRows_take {w : World} {K : Nat → Prop} {k : Nat} {rows : List (List D)} {x : Addr} (h : RRows w K k rows x) (j : Nat) : RRows w K k (rows.take j) x :=
  RRows_of fun i r hi => by
    rw [List.getElem?_take] at hi
    split at hi
    · exact RRows_get h hi
    · cases hi

/-! ### What lasts -/
structure Stays (w : World) (K : Nat → Prop) (w' : World) (K' : Nat → Prop) : Prop where
  k : ∀ b, K b → K' b
  h : ∀ b, K b → w'.heap[b]? = w.heap[b]?
theorem Stays.refl (w : World) (K : Nat → Prop) : Stays w K w K := ⟨fun _ h => h, fun _ _ => rfl⟩
theorem Stays.trans {w w' w'' : World} {K K' K'' : Nat → Prop} (h : Stays w K w' K') (g : Stays w' K' w'' K'') : Stays w K w'' K'' :=
  ⟨fun b hb => g.k b (h.k b hb), fun b hb => (g.h b (h.k b hb)).trans (h.h b hb)⟩
section
variable {w w' : World} {K K' : Nat → Prop} (hs : Stays w K w' K')
include hs
mutual
theorem RD.mono : ∀ {d : D} {u : Value}, RD w K d u → RD w' K' d u
  | .v x, u, h => by simpa only [RD] using h
  | .lst k rows, u, h => by
    simp only [RD] at h ⊢
    obtain ⟨a, cap, h1, h2, h3⟩ := h
    refine ⟨a, cap, h1, h2, ?_⟩
    rcases h3 with h3 | ⟨x, hx, h3⟩
    · exact .inl h3
    · exact .inr ⟨x, hx, RRows.mono h3⟩
theorem RRows.mono : ∀ {k : Nat} {rows : List (List D)} {x : Addr}, RRows w K k rows x → RRows w' K' k rows x
  | k, [], x, h => by simp [RRows]
  | k, r :: rs, x, h => by
    simp only [RRows] at h ⊢
    exact ⟨h.1, RCells.mono h.2.1, RRows.mono h.2.2⟩
theorem RCells.mono : ∀ {r : List D} {x : Addr}, RCells w K r x → RCells w' K' r x
  | [], x, h => by simp [RCells]
  | d :: ds, x, h => by
    simp only [RCells] at h ⊢
    obtain ⟨h1, ⟨u, h2, h3⟩, h4⟩ := h
    exact ⟨hs.k _ h1, ⟨u, by rw [cell_same (hs.h _ h1)]; exact h2, RD.mono h3⟩, RCells.mono h4⟩
end
variable {β β' : Nat → Loc} {n n' : Nat} (hn : n ≤ n') (hb : ∀ i, i < n → β' i = β i)
include hn hb
mutual
theorem R.mono : ∀ {v : AV} {u : Value}, R w K β n v u → R w' K' β' n' v u
  | .d x, u, h => by simp only [R] at h ⊢; exact RD.mono hs h
  | .ful k rows, u, h => by
    simp only [R] at h ⊢
    obtain ⟨a, h1, h3⟩ := h
    refine ⟨a, h1, ?_⟩
    rcases h3 with h3 | ⟨x, hx, h3⟩
    · exact .inl h3
    · exact .inr ⟨x, hx, RRows.mono hs h3⟩
  | .elm k rows i off, u, h => by
    simp only [R] at h ⊢
    obtain ⟨x, h1, h2, h3⟩ := h
    exact ⟨x, h1, RRows.mono hs h2, h3⟩
  | .ptr id i off, u, h => by
    simp only [R] at h ⊢
    rw [hb _ h.1]; exact ⟨Nat.lt_of_lt_of_le h.1 hn, h.2⟩
  | .own id off len, u, h => by
    simp only [R] at h ⊢
    rw [hb _ h.1]; exact ⟨Nat.lt_of_lt_of_le h.1 hn, h.2⟩
  | .osl id i off len, u, h => by
    simp only [R] at h ⊢
    rw [hb _ h.1]; exact ⟨Nat.lt_of_lt_of_le h.1 hn, h.2⟩
  | .agg l, u, h => by
    simp only [R] at h ⊢
    obtain ⟨us, h1, h2⟩ := h
    exact ⟨us, h1, RL.mono h2⟩
  | .tup l, u, h => by
    simp only [R] at h ⊢
    obtain ⟨us, h1, h2⟩ := h
    exact ⟨us, h1, RL.mono h2⟩
  | .fn f a c, u, h => by
    simp only [R] at h ⊢
    obtain ⟨us, vs, h1, h2, h3⟩ := h
    exact ⟨us, vs, h1, RL.mono h2, RL.mono h3⟩
  | .mp id, u, h => by
    simp only [R] at h ⊢
    rw [hb _ h.1]; exact ⟨Nat.lt_of_lt_of_le h.1 hn, h.2⟩
theorem RL.mono : ∀ {l : List AV} {us : List Value}, RL w K β n l us → RL w' K' β' n' l us
  | [], us, h => by simpa only [RL] using h
  | v :: l, us, h => by
    simp only [RL] at h ⊢
    obtain ⟨u, us', h1, h2, h3⟩ := h
    exact ⟨u, us', h1, R.mono h2, RL.mono h3⟩
end
end

/-! ### Lists of values -/
section
variable {w : World} {K : Nat → Prop} {β : Nat → Loc} {n : Nat}
theorem RL_length : ∀ {l : List AV} {us : List Value}, RL w K β n l us → us.length = l.length
  | [], us, h => by simp only [RL] at h; subst h; rfl
  | v :: l, us, h => by
    simp only [RL] at h
    obtain ⟨u, us', rfl, _, h3⟩ := h
    simp [RL_length h3]
theorem RL_get : ∀ {l : List AV} {us : List Value} {i : Nat} {v : AV}, RL w K β n l us → l[i]? = some v → ∃ u, us[i]? = some u ∧ R w K β n v u
  | v :: l, us, 0, v', h, hi => by
    simp only [RL] at h
    obtain ⟨u, us', rfl, h2, h3⟩ := h
    simp at hi; subst hi
    exact ⟨u, rfl, h2⟩
  | v :: l, us, i + 1, v', h, hi => by
    simp only [RL] at h
    obtain ⟨u, us', rfl, h2, h3⟩ := h
    simpa using RL_get h3 (by simpa using hi)
theorem RL_of : ∀ {l : List AV} {us : List Value}, us.length = l.length → (∀ (i : Nat) v u, l[i]? = some v → us[i]? = some u → R w K β n v u) → RL w K β n l us
  | [], us, hl, h => by simp only [RL]; exact List.length_eq_zero_iff.1 hl
  | v :: l, [], hl, h => by simp at hl
  | v :: l, u :: us, hl, h => by
    simp only [RL]
    exact ⟨u, us, rfl, h 0 v u rfl rfl, RL_of (by simpa using hl) fun i v' u' hi hu => h (i + 1) v' u' (by simpa using hi) (by simpa using hu)⟩
theorem RL_iff {l : List AV} {us : List Value} : RL w K β n l us ↔ us.length = l.length ∧ ∀ (i : Nat) v u, l[i]? = some v → us[i]? = some u → R w K β n v u :=
  ⟨fun h => ⟨RL_length h, fun i v u hv hu => by obtain ⟨u', e, h'⟩ := RL_get h hv; rw [e] at hu; cases hu; exact h'⟩, fun h => RL_of h.1 h.2⟩
theorem RL_append {l m : List AV} {us vs : List Value} (h : RL w K β n l us) (g : RL w K β n m vs) : RL w K β n (l ++ m) (us ++ vs) := by
  refine RL_of (by simp [RL_length h, RL_length g]) fun i v u hv hu => ?_
  have hl := RL_length h
  by_cases hi : i < l.length
  · rw [List.getElem?_append_left hi] at hv
    rw [List.getElem?_append_left (by omega)] at hu
    exact (RL_iff.1 h).2 i v u hv hu
  · rw [List.getElem?_append_right (by omega)] at hv
    rw [List.getElem?_append_right (by omega), hl] at hu
    exact (RL_iff.1 g).2 _ v u hv hu
theorem RL_take {l : List AV} {us : List Value} (h : RL w K β n l us) (j : Nat) : RL w K β n (l.take j) (us.take j) := by
  refine RL_of (by simp [RL_length h]) fun i v u hv hu => ?_
  rw [List.getElem?_take] at hv hu
  split at hv
  · rename_i hij; rw [if_pos hij] at hu; exact (RL_iff.1 h).2 i v u hv hu
  · cases hv
theorem RL_drop {l : List AV} {us : List Value} (h : RL w K β n l us) (j : Nat) : RL w K β n (l.drop j) (us.drop j) := by
  refine RL_of (by simp [RL_length h]) fun i v u hv hu => ?_
  rw [List.getElem?_drop] at hv hu
  exact (RL_iff.1 h).2 _ v u hv hu
theorem RL_map {α : Type} {f : α → AV} {g : α → Value} (l : List α) (h : ∀ x ∈ l, R w K β n (f x) (g x)) : RL w K β n (l.map f) (l.map g) := by
  refine RL_of (by simp) fun i v u hv hu => ?_
  simp only [List.getElem?_map, Option.map_eq_some_iff] at hv hu
  obtain ⟨x, hx, rfl⟩ := hv
  obtain ⟨y, hy, rfl⟩ := hu
  rw [hx] at hy; cases hy
  exact h x (List.mem_of_getElem? hx)
theorem RL_exists : ∀ {l : List AV}, (∀ v ∈ l, ∃ u, R w K β n v u) → ∃ us, RL w K β n l us
  | [], _ => ⟨[], by simp [RL]⟩
  | v :: l, h => by
    obtain ⟨u, hu⟩ := h v (List.mem_cons_self ..)
    obtain ⟨us, hus⟩ := RL_exists (l := l) fun v hv => h v (List.mem_cons_of_mem _ hv)
    exact ⟨u :: us, by simp only [RL]; exact ⟨u, us, rfl, hu, hus⟩⟩
/-- A value of one cell. -/
def AV.one : AV → Bool
  | .agg _ | .tup _ => false
  | _ => true
theorem RD.one {d : D} {u : Value} (h : RD w K d u) : u.oneCell' = true := by
  cases d with
  | v x => simp only [RD] at h; rw [h.1]; exact h.2
  | lst k rows => simp only [RD] at h; obtain ⟨a, c, rfl, _⟩ := h; rfl
theorem R.one {v : AV} {u : Value} (h : R w K β n v u) (hv : v.one = true) : u.oneCell' = true := by
  cases v with
  | d x => simp only [R] at h; exact h.one
  | ful k rows => simp only [R] at h; obtain ⟨a, rfl, _⟩ := h; rfl
  | elm k rows i off => simp only [R] at h; obtain ⟨a, rfl, _⟩ := h; rfl
  | ptr id i off => simp only [R] at h; rw [h.2]; rfl
  | own id off len => simp only [R] at h; obtain ⟨_, a, c, rfl, _⟩ := h; rfl
  | osl id i off len => simp only [R] at h; rw [h.2]; rfl
  | agg l => cases hv
  | tup l => cases hv
  | fn f a c => simp only [R] at h; obtain ⟨us, vs, rfl, _⟩ := h; rfl
  | mp id => simp only [R] at h; rw [h.2]; rfl
/-- The cells of a value. -/
def AV.flat : AV → Option (List AV)
  | .agg l => if l.all AV.one then some l else none
  | .tup _ => none
  | v => some [v]
theorem flat_ok {v : AV} {u : Value} {l : List AV} (hf : v.flat = some l) (h : R w K β n v u) : ∃ us, u.cells = us.toArray ∧ RL w K β n l us ∧ ∀ x ∈ l, x.one = true := by
  cases v with
  | agg l' =>
    simp only [AV.flat] at hf
    split at hf
    · rename_i ha
      simp only [Option.some.injEq] at hf; subst hf
      simp only [R] at h
      obtain ⟨us, rfl, h2⟩ := h
      exact ⟨us, rfl, h2, fun x hx => List.all_eq_true.1 ha x hx⟩
    · cases hf
  | tup l' => cases hf
  | _ =>
    simp only [AV.flat, Option.some.injEq] at hf; subst hf
    have h1 := h.one rfl
    refine ⟨[u], ?_, by simp only [RL]; exact ⟨u, [], rfl, h, rfl⟩, fun x hx => by simp at hx; subst hx; rfl⟩
    cases u <;> first | rfl | (simp [Value.oneCell'] at h1)
end

/-! ### States -/
/-- A block of our own: its elements' type, an element's cells, its rows. -/
inductive Blk where
  | cells (T : TypeId) (k : Nat) (rows : List (List AV))
abbrev St := List (Option Blk)
def BlkOK (w : World) (K : Nat → Prop) (β : Nat → Loc) (n : Nat) (p : Loc) : Blk → Prop
  | .cells T k rows => ∃ pre us post, w.heap[p.b]? = some (.cells (pre ++ us ++ post).toArray T (0, 0)) ∧ pre.length = p.base ∧ RL w K β n rows.flatten us ∧ (pre ++ us ++ post).length = p.base + p.cap * k ∧ p.k = k ∧
    (∀ v ∈ rows.flatten, v.one = true) ∧ ∀ r ∈ rows, r.length = k
theorem flatten_get {α : Type} {k : Nat} : ∀ {rows : List (List α)} (h : ∀ r ∈ rows, r.length = k) {i c : Nat} {r : List α} {v : α}, rows[i]? = some r → r[c]? = some v → rows.flatten[i * k + c]? = some v
  | r :: rs, h, 0, c, r', v, hi, hc => by
    simp at hi; subst hi
    have := (List.getElem?_eq_some_iff.1 hc).1
    simp [List.flatten_cons, List.getElem?_append_left this, hc]
  | r :: rs, h, i + 1, c, r', v, hi, hc => by
    have hr : r.length = k := h r (List.mem_cons_self ..)
    have := flatten_get (rows := rs) (fun r hr => h r (List.mem_cons_of_mem _ hr)) (i := i) (by simpa using hi) hc
    rw [List.flatten_cons, List.getElem?_append_right (by rw [Nat.succ_mul]; omega), hr]
    rw [← this]; congr 1; rw [Nat.succ_mul]; omega
theorem flatten_length {α : Type} {k : Nat} : ∀ {rows : List (List α)} (h : ∀ r ∈ rows, r.length = k), rows.flatten.length = rows.length * k
  | [], _ => by simp
  | r :: rs, h => by
    rw [List.flatten_cons, List.length_append, h r (List.mem_cons_self ..), flatten_length (fun r hr => h r (List.mem_cons_of_mem _ hr)), List.length_cons, Nat.succ_mul]; omega
theorem flatten_take {α : Type} {k : Nat} : ∀ {rows : List (List α)} (h : ∀ r ∈ rows, r.length = k) (j : Nat), (rows.take j).flatten = rows.flatten.take (j * k)
  | [], _, j => by simp
  | r :: rs, h, 0 => by simp
  | r :: rs, h, j + 1 => by
    have hr : r.length = k := h r (List.mem_cons_self ..)
    have e : r.take ((j + 1) * k) = r := List.take_of_length_le (by rw [hr, Nat.succ_mul]; omega)
    rw [List.take_succ_cons, List.flatten_cons, List.flatten_cons, flatten_take (fun r hr => h r (List.mem_cons_of_mem _ hr)) j, List.take_append, e, hr, show (j + 1) * k - k = j * k by rw [Nat.succ_mul]; omega]
theorem flatten_drop {α : Type} {k : Nat} : ∀ {rows : List (List α)} (h : ∀ r ∈ rows, r.length = k) (j : Nat), (rows.drop j).flatten = rows.flatten.drop (j * k)
  | [], _, j => by simp
  | r :: rs, h, 0 => by simp
  | r :: rs, h, j + 1 => by
    have hr : r.length = k := h r (List.mem_cons_self ..)
    have e : r.drop ((j + 1) * k) = [] := List.drop_eq_nil_of_le (by rw [hr, Nat.succ_mul]; omega)
    rw [List.drop_succ_cons, List.flatten_cons, flatten_drop (fun r hr => h r (List.mem_cons_of_mem _ hr)) j, List.drop_append, e, hr, List.nil_append, show (j + 1) * k - k = j * k by rw [Nat.succ_mul]; omega]
theorem flatten_set {α : Type} {k : Nat} {rows : List (List α)} (h : ∀ r ∈ rows, r.length = k) (j : Nat) (r' : List α) (hj : j < rows.length) : (rows.set j r').flatten = rows.flatten.take (j * k) ++ r' ++ rows.flatten.drop (j * k + k) := by
  rw [List.set_eq_take_append_cons_drop, if_pos hj, List.flatten_append, List.flatten_cons, flatten_take h, flatten_drop h, List.append_assoc, Nat.succ_mul]
def Alive (s : St) (i : Nat) : Prop := ∃ b, s[i]? = some (some b)
structure Cz (w : World) (K : Nat → Prop) (β : Nat → Loc) (s : St) : Prop where
  blk : ∀ i b, s[i]? = some (some b) → BlkOK w K β s.length (β i) b
  inj : ∀ i j, Alive s i → Alive s j → i ≠ j → (β i).b ≠ (β j).b
  dis : ∀ i, Alive s i → ¬ K (β i).b
  kb : ∀ b, K b → b < w.heap.size
def SameIO (w w' : World) : Prop := w'.os = w.os ∧ w'.tape = w.tape ∧ w'.output = w.output
theorem SameIO.refl (w : World) : SameIO w w := ⟨rfl, rfl, rfl⟩
theorem SameIO.trans {a b c : World} (h : SameIO a b) (k : SameIO b c) : SameIO a c := ⟨k.1.trans h.1, k.2.1.trans h.2.1, k.2.2.trans h.2.2⟩
/-- What has become of memory: the first 'm' blocks stay where they are. -/
structure Ext (m : Nat) (w : World) (K : Nat → Prop) (β : Nat → Loc) (s : St) (w' : World) (K' : Nat → Prop) (β' : Nat → Loc) (s' : St) : Prop where
  size : w.heap.size ≤ w'.heap.size
  io : SameIO w w'
  fix : ∀ i, i < m → β' i = β i
  len : m ≤ s'.length
  frame : ∀ b, b < w.heap.size → (∀ i, Alive s i → (β i).b ≠ b) → w'.heap[b]? = w.heap[b]?
  kmono : ∀ b, K b → K' b
  knew : ∀ b, K' b → K b ∨ w.heap.size ≤ b ∨ ∃ i, Alive s i ∧ (β i).b = b
  onew : ∀ i, Alive s' i → w.heap.size ≤ (β' i).b ∨ ∃ j, Alive s j ∧ (β j).b = (β' i).b
theorem Ext.refl {m : Nat} {w : World} {K : Nat → Prop} {β : Nat → Loc} {s : St} (h : m ≤ s.length) : Ext m w K β s w K β s where
  size := Nat.le_refl _
  io := .refl _
  fix := fun _ _ => rfl
  len := h
  frame := fun _ _ _ => rfl
  kmono := fun _ h => h
  knew := fun _ h => .inl h
  onew := fun i h => .inr ⟨i, h, rfl⟩
theorem Ext.trans {m m' : Nat} (hm : m ≤ m') {w w' w'' : World} {K K' K'' : Nat → Prop} {β β' β'' : Nat → Loc} {s s' s'' : St} (h : Ext m w K β s w' K' β' s') (g : Ext m' w' K' β' s' w'' K'' β'' s'') :
    Ext m w K β s w'' K'' β'' s'' where
  size := Nat.le_trans h.size g.size
  io := h.io.trans g.io
  fix := fun i hi => (g.fix i (Nat.lt_of_lt_of_le hi hm)).trans (h.fix i hi)
  len := Nat.le_trans hm g.len
  frame := fun b hb hn => by
    rw [g.frame b (Nat.lt_of_lt_of_le hb h.size) fun i hi he => ?_, h.frame b hb hn]
    rcases h.onew i hi with h1 | ⟨j, hj, h1⟩
    · omega
    · exact hn j hj (h1.trans he)
  kmono := fun b hb => g.kmono b (h.kmono b hb)
  knew := fun b hb => by
    rcases g.knew b hb with h1 | h1 | ⟨i, hi, h1⟩
    · exact h.knew b h1
    · exact .inr (.inl (Nat.le_trans h.size h1))
    · subst h1
      rcases h.onew i hi with h2 | ⟨j, hj, h2⟩
      · exact .inr (.inl h2)
      · exact .inr (.inr ⟨j, hj, h2⟩)
  onew := fun i hi => by
    rcases g.onew i hi with h1 | ⟨j, hj, h1⟩
    · exact .inl (Nat.le_trans h.size h1)
    · rw [← h1]; exact h.onew j hj
theorem Ext.stays {m : Nat} {w w' : World} {K K' : Nat → Prop} {β β' : Nat → Loc} {s s' : St} (h : Ext m w K β s w' K' β' s') (hc : Cz w K β s) : Stays w K w' K' :=
  ⟨h.kmono, fun b hb => h.frame b (hc.kb b hb) fun i hi he => hc.dis i hi (by rw [he]; exact hb)⟩
theorem Ext.weaken {m m' : Nat} (hm : m ≤ m') {w w' : World} {K K' : Nat → Prop} {β β' : Nat → Loc} {s s' : St} (h : Ext m' w K β s w' K' β' s') : Ext m w K β s w' K' β' s' :=
  { h with fix := fun i hi => h.fix i (Nat.lt_of_lt_of_le hi hm), len := Nat.le_trans hm h.len }
end Go.Proofs.Ytcedkkleclhglaa.H
