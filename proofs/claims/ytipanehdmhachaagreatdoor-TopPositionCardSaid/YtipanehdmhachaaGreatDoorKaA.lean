/- The logic H, generic: texts HaA to HaK. -/
import Derived.WalkKit
import Derived.Deep.Quiet
import Derived.Test.YtipanehdmhachaaGreatDoorKaT
import Derived.Laws.IdiomStrings
set_option linter.unusedSimpArgs false
set_option linter.unusedVariables false
set_option linter.unusedSectionVars false
namespace Go.Proofs.YtipanehdmhachaaGreatDoor.H
/-- Whether the count of draws is told to grow: it is, but of functions that are told by a contract that does not say so. -/
class DR where
  dr : Prop
variable [DR]

/-- Pure data: the value of one cell, or a list of rows of so many cells, of which no cell will ever be written again. -/
inductive D where
  | v (x : Value) | lst (k : Nat) (rows : List (List D))
instance : Inhabited D := ⟨.lst 0 []⟩
/-- Values. 'ful': a list whose capacity is its length. 'elm': a place in a list. 'ptr': a place in a block of our own (a row, a cell of it). 'own': a slice of a block of our own, from a row on, so many rows, with room to the block's end; 'osl': one of cells of a row, without room behind it. -/
inductive AV where
  | d (x : D) | ful (k : Nat) (rows : List (List D)) | pre (k : Nat) (rows : List (List D)) (len : Nat) | elm (k : Nat) (rows : List (List D)) (i off : Nat)
  | ptr (id i off : Nat) | own (id off len : Nat) | osl (id i off len : Nat)
  | agg (l : List AV) | tup (l : List AV) | fn (f : FuncId) (a c : List AV) | mp (id : Nat)
instance : Inhabited AV := ⟨.tup []⟩
/-- Where a block lies: the block, the first cell, an element's cells, room for so many elements. -/
structure Loc where
  b : Nat
  base : Nat
  k : Nat
  cap : Nat
instance : Inhabited Loc := ⟨⟨0, 0, 0, 0⟩⟩

theorem Addr_add_add (a : Addr) (m n : Nat) : (a.add m).add n = a.add (m + n) := by
  unfold Addr.add
  by_cases hm : m = 0 <;> by_cases hn : n = 0 <;> simp [hm, hn, Nat.add_assoc]
theorem add_addr (b o j : Nat) : (⟨b, o, none⟩ : Addr).add j = ⟨b, o + j, none⟩ := by
  unfold Addr.add; split <;> simp_all
theorem add_block (x : Addr) (i : Nat) : (x.add i).block = x.block := by unfold Addr.add; split <;> rfl
theorem add_zero (x : Addr) : x.add 0 = x := by simp [Addr.add]
theorem cell_same {w w' : World} {x : Addr} (h : w'.heap[x.block]? = w.heap[x.block]?) : w'.cell? x = w.cell? x := by
  unfold World.cell?; rw [h]

section
variable (w : World) (K : Nat → Prop)
mutual
def RD : D → Value → Prop
  | .v x, u => u = x ∧ x.oneCell' = true
  | .lst k rows, u => ∃ a cap, u = .slice a rows.length cap ∧ rows.length ≤ cap ∧ (rows.length = 0 ∨ ∃ x, a = some x ∧ RRows k rows x)
def RRows (k : Nat) : List (List D) → Addr → Prop
  | [], _ => True
  | r :: rs, x => r.length = k ∧ RCells r x ∧ RRows k rs (x.add k)
def RCells : List D → Addr → Prop
  | [], _ => True
  | d :: ds, x => K x.block ∧ (∃ u, w.cell? x = some u ∧ RD d u) ∧ RCells ds (x.add 1)
end
variable (β : Nat → Loc) (n : Nat)
mutual
def R : AV → Value → Prop
  | .d x, u => RD w K x u
  | .ful k rows, u => ∃ a, u = .slice a rows.length rows.length ∧ (rows.length = 0 ∨ ∃ x, a = some x ∧ RRows w K k rows x)
  | .pre k rows len, u => ∃ a, u = .slice a len rows.length ∧ len ≤ rows.length ∧ (rows.length = 0 ∨ ∃ x, a = some x ∧ RRows w K k rows x)
  | .elm k rows i off, u => ∃ x, u = .pointer (some (x.add (i * k + off))) ∧ RRows w K k rows x ∧ i < rows.length
  | .ptr id i off, u => id < n ∧ u = .pointer (some ⟨(β id).b, (β id).base + (i * (β id).k + off), none⟩)
  | .own id off len, u => id < n ∧ ∃ x c, u = .slice (some x) len c ∧ len ≤ c ∧ off + c = (β id).cap ∧ (0 < c → x = ⟨(β id).b, (β id).base + off * (β id).k, none⟩)
  | .osl id i off len, u => id < n ∧ u = .slice (some ⟨(β id).b, (β id).base + (i * (β id).k + off), none⟩) len len
  | .agg l, u => ∃ us, u = .agg us.toArray ∧ RL l us
  | .tup l, u => ∃ us, u = .tuple us.toArray ∧ RL l us
  | .fn f a c, u => ∃ us vs, u = .func (.func f) us.toArray vs.toArray ∧ RL a us ∧ RL c vs
  | .mp id, u => id < n ∧ u = .map (some (β id).b)
def RL : List AV → List Value → Prop
  | [], us => us = []
  | v :: l, us => ∃ u us', us = u :: us' ∧ R v u ∧ RL l us'
end
end

/-! ### Lists of cells -/
theorem RCells_get {w : World} {K : Nat → Prop} : ∀ {r : List D} {x : Addr} {c : Nat} {d : D}, RCells w K r x → r[c]? = some d → K x.block ∧ ∃ u, w.cell? (x.add c) = some u ∧ RD w K d u
  | d :: ds, x, 0, d', h, hc => by
    simp only [RCells] at h
    simp at hc; subst hc
    rw [add_zero]
    exact ⟨h.1, h.2.1⟩
  | d :: ds, x, c + 1, d', h, hc => by
    simp only [RCells] at h
    have := RCells_get (c := c) h.2.2 (by simpa using hc)
    rw [add_block, Addr_add_add, Nat.add_comm 1 c] at this
    exact this
theorem RCells_of {w : World} {K : Nat → Prop} : ∀ {r : List D} {x : Addr}, (∀ (c : Nat) d, r[c]? = some d → K x.block ∧ ∃ u, w.cell? (x.add c) = some u ∧ RD w K d u) → RCells w K r x
  | [], x, _ => by simp [RCells]
  | d :: ds, x, h => by
    simp only [RCells]
    have h0 := h 0 d rfl
    rw [add_zero] at h0
    refine ⟨h0.1, h0.2, RCells_of fun c d' hc => ?_⟩
    have := h (c + 1) d' (by simpa using hc)
    rw [add_block, Addr_add_add, Nat.add_comm 1 c]
    exact this
theorem RRows_get {w : World} {K : Nat → Prop} {k : Nat} : ∀ {rows : List (List D)} {x : Addr} {i : Nat} {r : List D}, RRows w K k rows x → rows[i]? = some r → r.length = k ∧ RCells w K r (x.add (i * k))
  | r :: rs, x, 0, r', h, hi => by
    simp only [RRows] at h
    simp at hi; subst hi
    rw [Nat.zero_mul, add_zero]
    exact ⟨h.1, h.2.1⟩
  | r :: rs, x, i + 1, r', h, hi => by
    simp only [RRows] at h
    have := RRows_get (i := i) h.2.2 (by simpa using hi)
    rw [Addr_add_add, show k + i * k = (i + 1) * k by rw [Nat.succ_mul]; omega] at this
    exact this
theorem RRows_of {w : World} {K : Nat → Prop} {k : Nat} : ∀ {rows : List (List D)} {x : Addr}, (∀ (i : Nat) r, rows[i]? = some r → r.length = k ∧ RCells w K r (x.add (i * k))) → RRows w K k rows x
  | [], x, _ => by simp [RRows]
  | r :: rs, x, h => by
    simp only [RRows]
    have h0 := h 0 r rfl
    rw [Nat.zero_mul, add_zero] at h0
    refine ⟨h0.1, h0.2, RRows_of fun i r' hi => ?_⟩
    have := h (i + 1) r' (by simpa using hi)
    rw [Addr_add_add, show k + i * k = (i + 1) * k by rw [Nat.succ_mul]; omega]
    exact this
theorem RRows_drop {w : World} {K : Nat → Prop} {k : Nat} {rows : List (List D)} {x : Addr} (h : RRows w K k rows x) (j : Nat) : RRows w K k (rows.drop j) (x.add (j * k)) :=
  RRows_of fun i r hi => by
    rw [List.getElem?_drop] at hi
    have := RRows_get h hi
    rw [Addr_add_add, show j * k + i * k = (j + i) * k by rw [Nat.add_mul]]
    exact this
theorem RRows_take {w : World} {K : Nat → Prop} {k : Nat} {rows : List (List D)} {x : Addr} (h : RRows w K k rows x) (j : Nat) : RRows w K k (rows.take j) x :=
  RRows_of fun i r hi => by
    rw [List.getElem?_take] at hi
    split at hi
    · exact RRows_get h hi
    · cases hi

/-! ### What lasts -/
structure Stays (w : World) (K : Nat → Prop) (w' : World) (K' : Nat → Prop) : Prop where
  k : ∀ b, K b → K' b
  h : ∀ b, K b → w'.heap[b]? = w.heap[b]?
theorem Stays.refl (w : World) (K : Nat → Prop) : Stays w K w K := ⟨fun _ h => h, fun _ _ => rfl⟩
theorem Stays.trans {w w' w'' : World} {K K' K'' : Nat → Prop} (h : Stays w K w' K') (g : Stays w' K' w'' K'') : Stays w K w'' K'' :=
  ⟨fun b hb => g.k b (h.k b hb), fun b hb => (g.h b (h.k b hb)).trans (h.h b hb)⟩
section
variable {w w' : World} {K K' : Nat → Prop} (hs : Stays w K w' K')
include hs
mutual
theorem RD.mono : ∀ {d : D} {u : Value}, RD w K d u → RD w' K' d u
  | .v x, u, h => by simpa only [RD] using h
  | .lst k rows, u, h => by
    simp only [RD] at h ⊢
    obtain ⟨a, cap, h1, h2, h3⟩ := h
    refine ⟨a, cap, h1, h2, ?_⟩
    rcases h3 with h3 | ⟨x, hx, h3⟩
    · exact .inl h3
    · exact .inr ⟨x, hx, RRows.mono h3⟩
theorem RRows.mono : ∀ {k : Nat} {rows : List (List D)} {x : Addr}, RRows w K k rows x → RRows w' K' k rows x
  | k, [], x, h => by simp [RRows]
  | k, r :: rs, x, h => by
    simp only [RRows] at h ⊢
    exact ⟨h.1, RCells.mono h.2.1, RRows.mono h.2.2⟩
theorem RCells.mono : ∀ {r : List D} {x : Addr}, RCells w K r x → RCells w' K' r x
  | [], x, h => by simp [RCells]
  | d :: ds, x, h => by
    simp only [RCells] at h ⊢
    obtain ⟨h1, ⟨u, h2, h3⟩, h4⟩ := h
    exact ⟨hs.k _ h1, ⟨u, by rw [cell_same (hs.h _ h1)]; exact h2, RD.mono h3⟩, RCells.mono h4⟩
end
variable {β β' : Nat → Loc} {n n' : Nat} (hn : n ≤ n') (hb : ∀ i, i < n → β' i = β i)
include hn hb
mutual
theorem R.mono : ∀ {v : AV} {u : Value}, R w K β n v u → R w' K' β' n' v u
  | .d x, u, h => by simp only [R] at h ⊢; exact RD.mono hs h
  | .ful k rows, u, h => by
    simp only [R] at h ⊢
    obtain ⟨a, h1, h3⟩ := h
    refine ⟨a, h1, ?_⟩
    rcases h3 with h3 | ⟨x, hx, h3⟩
    · exact .inl h3
    · exact .inr ⟨x, hx, RRows.mono hs h3⟩
  | .pre k rows len, u, h => by
    simp only [R] at h ⊢
    obtain ⟨a, h1, h2, h3⟩ := h
    refine ⟨a, h1, h2, ?_⟩
    rcases h3 with h3 | ⟨x, hx, h3⟩
    · exact .inl h3
    · exact .inr ⟨x, hx, RRows.mono hs h3⟩
  | .elm k rows i off, u, h => by
    simp only [R] at h ⊢
    obtain ⟨x, h1, h2, h3⟩ := h
    exact ⟨x, h1, RRows.mono hs h2, h3⟩
  | .ptr id i off, u, h => by
    simp only [R] at h ⊢
    rw [hb _ h.1]; exact ⟨Nat.lt_of_lt_of_le h.1 hn, h.2⟩
  | .own id off len, u, h => by
    simp only [R] at h ⊢
    rw [hb _ h.1]; exact ⟨Nat.lt_of_lt_of_le h.1 hn, h.2⟩
  | .osl id i off len, u, h => by
    simp only [R] at h ⊢
    rw [hb _ h.1]; exact ⟨Nat.lt_of_lt_of_le h.1 hn, h.2⟩
  | .agg l, u, h => by
    simp only [R] at h ⊢
    obtain ⟨us, h1, h2⟩ := h
    exact ⟨us, h1, RL.mono h2⟩
  | .tup l, u, h => by
    simp only [R] at h ⊢
    obtain ⟨us, h1, h2⟩ := h
    exact ⟨us, h1, RL.mono h2⟩
  | .fn f a c, u, h => by
    simp only [R] at h ⊢
    obtain ⟨us, vs, h1, h2, h3⟩ := h
    exact ⟨us, vs, h1, RL.mono h2, RL.mono h3⟩
  | .mp id, u, h => by
    simp only [R] at h ⊢
    rw [hb _ h.1]; exact ⟨Nat.lt_of_lt_of_le h.1 hn, h.2⟩
theorem RL.mono : ∀ {l : List AV} {us : List Value}, RL w K β n l us → RL w' K' β' n' l us
  | [], us, h => by simpa only [RL] using h
  | v :: l, us, h => by
    simp only [RL] at h ⊢
    obtain ⟨u, us', h1, h2, h3⟩ := h
    exact ⟨u, us', h1, R.mono h2, RL.mono h3⟩
end
end

/-! ### Lists of values -/
section
variable {w : World} {K : Nat → Prop} {β : Nat → Loc} {n : Nat}
theorem RL_length : ∀ {l : List AV} {us : List Value}, RL w K β n l us → us.length = l.length
  | [], us, h => by simp only [RL] at h; subst h; rfl
  | v :: l, us, h => by
    simp only [RL] at h
    obtain ⟨u, us', rfl, _, h3⟩ := h
    simp [RL_length h3]
theorem RL_get : ∀ {l : List AV} {us : List Value} {i : Nat} {v : AV}, RL w K β n l us → l[i]? = some v → ∃ u, us[i]? = some u ∧ R w K β n v u
  | v :: l, us, 0, v', h, hi => by
    simp only [RL] at h
    obtain ⟨u, us', rfl, h2, h3⟩ := h
    simp at hi; subst hi
    exact ⟨u, rfl, h2⟩
  | v :: l, us, i + 1, v', h, hi => by
    simp only [RL] at h
    obtain ⟨u, us', rfl, h2, h3⟩ := h
    simpa using RL_get h3 (by simpa using hi)
theorem RL_of : ∀ {l : List AV} {us : List Value}, us.length = l.length → (∀ (i : Nat) v u, l[i]? = some v → us[i]? = some u → R w K β n v u) → RL w K β n l us
  | [], us, hl, h => by simp only [RL]; exact List.length_eq_zero_iff.1 hl
  | v :: l, [], hl, h => by simp at hl
  | v :: l, u :: us, hl, h => by
    simp only [RL]
    exact ⟨u, us, rfl, h 0 v u rfl rfl, RL_of (by simpa using hl) fun i v' u' hi hu => h (i + 1) v' u' (by simpa using hi) (by simpa using hu)⟩
theorem RL_iff {l : List AV} {us : List Value} : RL w K β n l us ↔ us.length = l.length ∧ ∀ (i : Nat) v u, l[i]? = some v → us[i]? = some u → R w K β n v u :=
  ⟨fun h => ⟨RL_length h, fun i v u hv hu => by obtain ⟨u', e, h'⟩ := RL_get h hv; rw [e] at hu; cases hu; exact h'⟩, fun h => RL_of h.1 h.2⟩
theorem RL_append {l m : List AV} {us vs : List Value} (h : RL w K β n l us) (g : RL w K β n m vs) : RL w K β n (l ++ m) (us ++ vs) := by
  refine RL_of (by simp [RL_length h, RL_length g]) fun i v u hv hu => ?_
  have hl := RL_length h
  by_cases hi : i < l.length
  · rw [List.getElem?_append_left hi] at hv
    rw [List.getElem?_append_left (by omega)] at hu
    exact (RL_iff.1 h).2 i v u hv hu
  · rw [List.getElem?_append_right (by omega)] at hv
    rw [List.getElem?_append_right (by omega), hl] at hu
    exact (RL_iff.1 g).2 _ v u hv hu
theorem RL_take {l : List AV} {us : List Value} (h : RL w K β n l us) (j : Nat) : RL w K β n (l.take j) (us.take j) := by
  refine RL_of (by simp [RL_length h]) fun i v u hv hu => ?_
  rw [List.getElem?_take] at hv hu
  split at hv
  · rename_i hij; rw [if_pos hij] at hu; exact (RL_iff.1 h).2 i v u hv hu
  · cases hv
theorem RL_drop {l : List AV} {us : List Value} (h : RL w K β n l us) (j : Nat) : RL w K β n (l.drop j) (us.drop j) := by
  refine RL_of (by simp [RL_length h]) fun i v u hv hu => ?_
  rw [List.getElem?_drop] at hv hu
  exact (RL_iff.1 h).2 _ v u hv hu
theorem RL_map {α : Type} {f : α → AV} {g : α → Value} (l : List α) (h : ∀ x ∈ l, R w K β n (f x) (g x)) : RL w K β n (l.map f) (l.map g) := by
  refine RL_of (by simp) fun i v u hv hu => ?_
  simp only [List.getElem?_map, Option.map_eq_some_iff] at hv hu
  obtain ⟨x, hx, rfl⟩ := hv
  obtain ⟨y, hy, rfl⟩ := hu
  rw [hx] at hy; cases hy
  exact h x (List.mem_of_getElem? hx)
/-- A value of one cell. -/
def AV.one : AV → Bool
  | .agg _ | .tup _ => false
  | _ => true
theorem RD.one {d : D} {u : Value} (h : RD w K d u) : u.oneCell' = true := by
  cases d with
  | v x => simp only [RD] at h; rw [h.1]; exact h.2
  | lst k rows => simp only [RD] at h; obtain ⟨a, c, rfl, _⟩ := h; rfl
theorem R.one {v : AV} {u : Value} (h : R w K β n v u) (hv : v.one = true) : u.oneCell' = true := by
  cases v with
  | d x => simp only [R] at h; exact h.one
  | ful k rows => simp only [R] at h; obtain ⟨a, rfl, _⟩ := h; rfl
  | pre k rows m => simp only [R] at h; obtain ⟨a, rfl, _⟩ := h; rfl
  | elm k rows i off => simp only [R] at h; obtain ⟨a, rfl, _⟩ := h; rfl
  | ptr id i off => simp only [R] at h; rw [h.2]; rfl
  | own id off len => simp only [R] at h; obtain ⟨_, a, c, rfl, _⟩ := h; rfl
  | osl id i off len => simp only [R] at h; rw [h.2]; rfl
  | agg l => cases hv
  | tup l => cases hv
  | fn f a c => simp only [R] at h; obtain ⟨us, vs, rfl, _⟩ := h; rfl
  | mp id => simp only [R] at h; rw [h.2]; rfl
/-- The cells of a value. -/
def AV.flat : AV → Option (List AV)
  | .agg l => if l.all AV.one then some l else none
  | .tup _ => none
  | v => some [v]
theorem flat_ok {v : AV} {u : Value} {l : List AV} (hf : v.flat = some l) (h : R w K β n v u) : ∃ us, u.cells = us.toArray ∧ RL w K β n l us ∧ ∀ x ∈ l, x.one = true := by
  cases v with
  | agg l' =>
    simp only [AV.flat] at hf
    split at hf
    · rename_i ha
      simp only [Option.some.injEq] at hf; subst hf
      simp only [R] at h
      obtain ⟨us, rfl, h2⟩ := h
      exact ⟨us, rfl, h2, fun x hx => List.all_eq_true.1 ha x hx⟩
    · cases hf
  | tup l' => cases hf
  | _ =>
    simp only [AV.flat, Option.some.injEq] at hf; subst hf
    have h1 := h.one rfl
    refine ⟨[u], ?_, by simp only [RL]; exact ⟨u, [], rfl, h, rfl⟩, fun x hx => by simp at hx; subst hx; rfl⟩
    cases u <;> first | rfl | (simp [Value.oneCell'] at h1)
end

/-! ### States -/
/-- A block of our own: its elements' type, an element's cells, its rows. -/
inductive Blk where
  | cells (T : TypeId) (k : Nat) (rows : List (List AV))
  | mp (es : List (Value × Value))
  | it (m c : Nat) (seen : List Nat)
abbrev St := List (Option Blk)
def BlkOK (w : World) (K : Nat → Prop) (β : Nat → Loc) (n : Nat) (p : Loc) : Blk → Prop
  | .cells T k rows => ∃ pre us post, w.heap[p.b]? = some (.cells (pre ++ us ++ post).toArray T (0, 0)) ∧ pre.length = p.base ∧ RL w K β n rows.flatten us ∧ (pre ++ us ++ post).length = p.base + p.cap * k ∧ p.k = k ∧
    (∀ v ∈ rows.flatten, v.one = true) ∧ ∀ r ∈ rows, r.length = k
  | .mp es => ∃ ents : Array MapEntry, w.heap[p.b]? = some (.map ents es.length) ∧ ents.toList.map (fun e => (e.key, e.val)) = es ∧ ents.toList.map (·.born) = List.range es.length
  | .it m c seen => w.heap[p.b]? = some (.mapIter (some (β m).b) c seen.toArray c) ∧ m < n ∧ p.base = 0
theorem flatten_get {α : Type} {k : Nat} : ∀ {rows : List (List α)} (h : ∀ r ∈ rows, r.length = k) {i c : Nat} {r : List α} {v : α}, rows[i]? = some r → r[c]? = some v → rows.flatten[i * k + c]? = some v
  | r :: rs, h, 0, c, r', v, hi, hc => by
    simp at hi; subst hi
    have := (List.getElem?_eq_some_iff.1 hc).1
    simp [List.flatten_cons, List.getElem?_append_left this, hc]
  | r :: rs, h, i + 1, c, r', v, hi, hc => by
    have hr : r.length = k := h r (List.mem_cons_self ..)
    have := flatten_get (rows := rs) (fun r hr => h r (List.mem_cons_of_mem _ hr)) (i := i) (by simpa using hi) hc
    rw [List.flatten_cons, List.getElem?_append_right (by rw [Nat.succ_mul]; omega), hr]
    rw [← this]; congr 1; rw [Nat.succ_mul]; omega
theorem flatten_length {α : Type} {k : Nat} : ∀ {rows : List (List α)} (h : ∀ r ∈ rows, r.length = k), rows.flatten.length = rows.length * k
  | [], _ => by simp
  | r :: rs, h => by
    rw [List.flatten_cons, List.length_append, h r (List.mem_cons_self ..), flatten_length (fun r hr => h r (List.mem_cons_of_mem _ hr)), List.length_cons, Nat.succ_mul]; omega
theorem flatten_take {α : Type} {k : Nat} : ∀ {rows : List (List α)} (h : ∀ r ∈ rows, r.length = k) (j : Nat), (rows.take j).flatten = rows.flatten.take (j * k)
  | [], _, j => by simp
  | r :: rs, h, 0 => by simp
  | r :: rs, h, j + 1 => by
    have hr : r.length = k := h r (List.mem_cons_self ..)
    have e : r.take ((j + 1) * k) = r := List.take_of_length_le (by rw [hr, Nat.succ_mul]; omega)
    rw [List.take_succ_cons, List.flatten_cons, List.flatten_cons, flatten_take (fun r hr => h r (List.mem_cons_of_mem _ hr)) j, List.take_append, e, hr, show (j + 1) * k - k = j * k by rw [Nat.succ_mul]; omega]
theorem flatten_drop {α : Type} {k : Nat} : ∀ {rows : List (List α)} (h : ∀ r ∈ rows, r.length = k) (j : Nat), (rows.drop j).flatten = rows.flatten.drop (j * k)
  | [], _, j => by simp
  | r :: rs, h, 0 => by simp
  | r :: rs, h, j + 1 => by
    have hr : r.length = k := h r (List.mem_cons_self ..)
    have e : r.drop ((j + 1) * k) = [] := List.drop_eq_nil_of_le (by rw [hr, Nat.succ_mul]; omega)
    rw [List.drop_succ_cons, List.flatten_cons, flatten_drop (fun r hr => h r (List.mem_cons_of_mem _ hr)) j, List.drop_append, e, hr, List.nil_append, show (j + 1) * k - k = j * k by rw [Nat.succ_mul]; omega]
theorem flatten_set {α : Type} {k : Nat} {rows : List (List α)} (h : ∀ r ∈ rows, r.length = k) (j : Nat) (r' : List α) (hj : j < rows.length) : (rows.set j r').flatten = rows.flatten.take (j * k) ++ r' ++ rows.flatten.drop (j * k + k) := by
  rw [List.set_eq_take_append_cons_drop, if_pos hj, List.flatten_append, List.flatten_cons, flatten_take h, flatten_drop h, List.append_assoc, Nat.succ_mul]
def Alive (s : St) (i : Nat) : Prop := ∃ b, s[i]? = some (some b)
/-- The library's tables (laid package variables) lie in their blocks, and nobody writes there. -/
def GL (w : World) (K : Nat → Prop) : Prop := ∀ x ∈ tbs, RRows w K 1 (x.2.map fun v => [D.v v]) ⟨x.1, 0, none⟩
theorem GL.mono {w w' : World} {K K' : Nat → Prop} (hs : Stays w K w' K') (h : GL w K) : GL w' K' := fun x hx => RRows.mono hs (h x hx)
structure Cz (w : World) (K : Nat → Prop) (β : Nat → Loc) (s : St) : Prop where
  blk : ∀ i b, s[i]? = some (some b) → BlkOK w K β s.length (β i) b
  inj : ∀ i j, Alive s i → Alive s j → i ≠ j → (β i).b ≠ (β j).b
  dis : ∀ i, Alive s i → ¬ K (β i).b
  kb : ∀ b, K b → b < w.heap.size
  gl : GL w K
def SameIO (w w' : World) : Prop := w'.os = w.os ∧ w'.tape = w.tape ∧ w'.output = w.output ∧ (DR.dr → w.drawn ≤ w'.drawn)
theorem SameIO.refl (w : World) : SameIO w w := ⟨rfl, rfl, rfl, fun _ => Nat.le_refl _⟩
theorem SameIO.trans {a b c : World} (h : SameIO a b) (k : SameIO b c) : SameIO a c := ⟨k.1.trans h.1, k.2.1.trans h.2.1, k.2.2.1.trans h.2.2.1, fun d => Nat.le_trans (h.2.2.2 d) (k.2.2.2 d)⟩
/-- What has become of memory: the first 'm' blocks stay where they are. -/
structure Ext (m : Nat) (w : World) (K : Nat → Prop) (β : Nat → Loc) (s : St) (w' : World) (K' : Nat → Prop) (β' : Nat → Loc) (s' : St) : Prop where
  size : w.heap.size ≤ w'.heap.size
  io : SameIO w w'
  fix : ∀ i, i < m → β' i = β i
  len : m ≤ s'.length
  frame : ∀ b, b < w.heap.size → (∀ i, Alive s i → (β i).b ≠ b) → w'.heap[b]? = w.heap[b]?
  kmono : ∀ b, K b → K' b
  knew : ∀ b, K' b → K b ∨ w.heap.size ≤ b ∨ ∃ i, Alive s i ∧ (β i).b = b
  onew : ∀ i, Alive s' i → w.heap.size ≤ (β' i).b ∨ ∃ j, Alive s j ∧ (β j).b = (β' i).b
theorem Ext.refl {m : Nat} {w : World} {K : Nat → Prop} {β : Nat → Loc} {s : St} (h : m ≤ s.length) : Ext m w K β s w K β s where
  size := Nat.le_refl _
  io := .refl _
  fix := fun _ _ => rfl
  len := h
  frame := fun _ _ _ => rfl
  kmono := fun _ h => h
  knew := fun _ h => .inl h
  onew := fun i h => .inr ⟨i, h, rfl⟩
theorem Ext.trans {m m' : Nat} (hm : m ≤ m') {w w' w'' : World} {K K' K'' : Nat → Prop} {β β' β'' : Nat → Loc} {s s' s'' : St} (h : Ext m w K β s w' K' β' s') (g : Ext m' w' K' β' s' w'' K'' β'' s'') :
    Ext m w K β s w'' K'' β'' s'' where
  size := Nat.le_trans h.size g.size
  io := h.io.trans g.io
  fix := fun i hi => (g.fix i (Nat.lt_of_lt_of_le hi hm)).trans (h.fix i hi)
  len := Nat.le_trans hm g.len
  frame := fun b hb hn => by
    rw [g.frame b (Nat.lt_of_lt_of_le hb h.size) fun i hi he => ?_, h.frame b hb hn]
    rcases h.onew i hi with h1 | ⟨j, hj, h1⟩
    · omega
    · exact hn j hj (h1.trans he)
  kmono := fun b hb => g.kmono b (h.kmono b hb)
  knew := fun b hb => by
    rcases g.knew b hb with h1 | h1 | ⟨i, hi, h1⟩
    · exact h.knew b h1
    · exact .inr (.inl (Nat.le_trans h.size h1))
    · subst h1
      rcases h.onew i hi with h2 | ⟨j, hj, h2⟩
      · exact .inr (.inl h2)
      · exact .inr (.inr ⟨j, hj, h2⟩)
  onew := fun i hi => by
    rcases g.onew i hi with h1 | ⟨j, hj, h1⟩
    · exact .inl (Nat.le_trans h.size h1)
    · rw [← h1]; exact h.onew j hj
theorem Ext.stays {m : Nat} {w w' : World} {K K' : Nat → Prop} {β β' : Nat → Loc} {s s' : St} (h : Ext m w K β s w' K' β' s') (hc : Cz w K β s) : Stays w K w' K' :=
  ⟨h.kmono, fun b hb => h.frame b (hc.kb b hb) fun i hi he => hc.dis i hi (by rw [he]; exact hb)⟩
theorem Ext.weaken {m m' : Nat} (hm : m ≤ m') {w w' : World} {K K' : Nat → Prop} {β β' : Nat → Loc} {s s' : St} (h : Ext m' w K β s w' K' β' s') : Ext m w K β s w' K' β' s' :=
  { h with fix := fun i hi => h.fix i (Nat.lt_of_lt_of_le hi hm), len := Nat.le_trans hm h.len }
end Go.Proofs.YtipanehdmhachaaGreatDoor.H

set_option linter.unusedSimpArgs false
set_option linter.unusedVariables false
set_option linter.unusedSectionVars false
set_option linter.unusedSectionVars false
namespace Go.Proofs.YtipanehdmhachaaGreatDoor.H
variable [DR]

/-! ### Temporaries -/
abbrev Tm := List (Nat × AV)
def tget : Tm → Nat → Option AV
  | [], _ => none
  | (j, v) :: l, i => bif j == i then some v else tget l i
def tset (d : Nat) (v : AV) : Tm → Tm
  | [] => [(d, v)]
  | (j, u) :: l => bif j == d then (d, v) :: l else (j, u) :: tset d v l
theorem beqN {i j : Nat} (h : ¬ i = j) : (i == j) = false := beq_eq_false_iff_ne.2 h
theorem tget_tset (d : Nat) (v : AV) (i : Nat) : ∀ T : Tm, tget (tset d v T) i = if d = i then some v else tget T i
  | [] => by by_cases h : d = i <;> simp [tset, tget, h, beqN]
  | (j, u) :: l => by
    simp only [tset]
    by_cases hj : j = d
    · subst hj
      simp only [beq_self_eq_true, cond_true, tget]
      by_cases h : j = i <;> simp [h, beqN]
    · simp only [beqN hj, cond_false, tget, tget_tset d v i l]
      by_cases h : j = i
      · subst h; simp [show ¬ d = j from fun h => hj h.symm]
      · simp [beqN h]
def tput (d : Option Nat) (v : AV) (T : Tm) : Tm := match d with
  | some d => tset d v T
  | none => T
def constA : Value → Option AV
  | .slice none 0 0 => some (.ful 0 [])
  | .slice .. | .pointer (some _) | .tuple _ | .func .. => none
  | .agg cs => if cs.all (fun c => c.oneCell' && !(c matches .slice ..)) then some (.agg (cs.toList.map fun c => .d (.v c))) else none
  | v => some (.d (.v v))
def opd (T : Tm) : Operand → Option AV
  | .tmp i => tget T i
  | .const v => constA v
  | .func f => some (.fn f [] [])
  | .global _ => none
def opdL (T : Tm) : List Operand → Option (List AV)
  | [] => some []
  | x :: l => match opd T x, opdL T l with
    | some v, some r => some (v :: r)
    | _, _ => none
section
variable {w : World} {K : Nat → Prop} {β : Nat → Loc} {n : Nat}
def RT (w : World) (K : Nat → Prop) (β : Nat → Loc) (n : Nat) (T : Tm) (a : Act) : Prop := ∀ i v, tget T i = some v → ∃ u, a.tmps[i]? = some u ∧ R w K β n v u
theorem constA_ok {x : Value} {v : AV} (h : constA x = some v) : R w K β n v x := by
  unfold constA at h
  split at h
  · simp only [Option.some.injEq] at h; subst h
    simp only [R]; exact ⟨none, rfl, .inl rfl⟩
  · cases h
  · cases h
  · cases h
  · cases h
  · rename_i cs
    split at h
    · rename_i hc
      simp only [Option.some.injEq] at h; subst h
      simp only [R]
      refine ⟨cs.toList, by simp, ?_⟩
      have := RL_map (w := w) (K := K) (β := β) (n := n) (f := fun c => AV.d (.v c)) (g := fun c => c) cs.toList fun c hc' => by
        have := Array.all_eq_true'.1 hc c (by simpa using hc')
        simp only [Bool.and_eq_true] at this
        simp only [R, RD]; exact ⟨trivial, this.1⟩
      simpa using this
    · cases h
  · rename_i h1 h2 h3 h4 h5 h6
    simp only [Option.some.injEq] at h; subst h
    simp only [R, RD]
    refine ⟨trivial, ?_⟩
    cases x <;> first | rfl | (exfalso; first | exact h4 _ rfl | exact h6 _ rfl)
theorem opd_ok {T : Tm} {a : Act} (hT : RT w K β n T a) {x : Operand} {v : AV} (h : opd T x = some v) : R w K β n v (a.eval x) := by
  cases x with
  | tmp i =>
    obtain ⟨u, hu, hr⟩ := hT i v h
    simp only [Act.eval]
    rw [Array.getD_eq_getD_getElem?, hu]; exact hr
  | const u => exact constA_ok h
  | func f => simp only [opd, Option.some.injEq] at h; subst h; simp only [Act.eval, R]; exact ⟨[], [], rfl, by simp [RL], by simp [RL]⟩
  | global g => cases h
theorem opdL_ok {T : Tm} {a : Act} (hT : RT w K β n T a) : ∀ {l : List Operand} {r : List AV}, opdL T l = some r → RL w K β n r (l.map a.eval)
  | [], r, h => by simp [opdL] at h; subst h; simp [RL]
  | x :: l, r, h => by
    simp only [opdL] at h
    split at h
    · rename_i v r' h1 h2
      simp only [Option.some.injEq] at h; subst h
      simp only [List.map_cons, RL]
      exact ⟨_, _, rfl, opd_ok hT h1, opdL_ok hT h2⟩
    · cases h
end

/-! ### Shapes of types -/
def aggT (P : Program) (T : TypeId) : Option Bool := match P.underlying T with
  | some (.struct _) | some (.array _ _) => some true
  | some _ => some false
  | none => none
def sizeT (P : Program) (T : TypeId) : Option Nat := (P.info? T).map (·.size)
theorem run_isAgg {P : Program} {T : TypeId} {b : Bool} (h : aggT P T = some b) (w : World) : (isAgg T).run P w = .ok b w := by
  unfold aggT at h
  unfold isAgg
  split at h
  · rename_i hu; rw [Sem.run_bind, run_underlying hu w]; simp at h; subst h; rfl
  · rename_i hu; rw [Sem.run_bind, run_underlying hu w]; simp at h; subst h; rfl
  · rename_i d h1 h2 hu
    rw [Sem.run_bind, run_underlying hu w]
    simp at h; subst h
    cases d <;> first | rfl | (exfalso; first | exact h1 _ rfl | exact h2 _ _ rfl)
  · simp at h
theorem run_sizeOf {P : Program} {T : TypeId} {n : Nat} (h : sizeT P T = some n) (w : World) : (sizeOf T).run P w = .ok n w := by
  unfold sizeT at h
  cases hi : P.info? T with
  | none => simp [hi] at h
  | some i => simp [hi] at h; simp [sizeOf, typeInfo, hi, h]
/-- How a variable of a type is read: 'none': one cell; else so many cells. -/
def rdT (P : Program) (T : TypeId) : Option (Option Nat) := match aggT P T, sizeT P T with
  | some true, some n => some (some n)
  | some false, some _ => some none
  | _, _ => none
/-- Cells from a place on. -/
def cut (sz : Option Nat) (l : List AV) (off : Nat) : Option AV := match sz with
  | none => l[off]?
  | some n => if off + n ≤ l.length then some (.agg ((l.drop off).take n)) else none
def cutD (sz : Option Nat) (r : List D) (off : Nat) : AV := match sz with
  | none => .d (r.getD off default)
  | some n => .agg ((List.range n).map fun c => .d (r.getD (off + c) default))
theorem run_part {P : Program} {T : TypeId} {sz : Option Nat} (h : rdT P T = some sz) {w : World} {K : Nat → Prop} {β : Nat → Loc} {n : Nat} {l : List AV} {us : List Value} (hr : RL w K β n l us) {off : Nat} {v : AV}
    (hv : cut sz l off = some v) (w' : World) : ∃ u, (part T us.toArray off).run P w' = .ok u w' ∧ R w K β n v u := by
  unfold rdT at h
  have hl := RL_length hr
  split at h
  · rename_i m ha hs
    simp only [Option.some.injEq] at h; subst h
    simp only [cut] at hv
    split at hv
    · rename_i hle
      simp only [Option.some.injEq] at hv; subst hv
      refine ⟨.agg ((us.drop off).take m).toArray, ?_, ?_⟩
      · simp [part, run_isAgg ha, run_sizeOf hs, List.extract_eq_take_drop]
      · simp only [R]; exact ⟨_, rfl, RL_take (RL_drop hr off) m⟩
    · cases hv
  · rename_i m ha hs
    simp only [Option.some.injEq] at h; subst h
    simp only [cut] at hv
    obtain ⟨u, hu, hr'⟩ := RL_get hr hv
    exact ⟨u, by simp [part, run_isAgg ha, hu], hr'⟩
  · cases h

/-! ### Equality -/
inductive Sh where
  | num | bool | str | st (fs : List (Nat × Option Nat × Sh))
instance : Inhabited Sh := ⟨.num⟩
def shFs (P : Program) (g : TypeId → Option Sh) : List Field → Option (List (Nat × Option Nat × Sh))
  | [] => some []
  | f :: fs => if f.name ≠ "_" then match rdT P f.type, g f.type, shFs P g fs with
      | some r, some s, some l => some ((f.offset, r, s) :: l)
      | _, _, _ => none
    else shFs P g fs
def shOf (P : Program) : Nat → TypeId → Option Sh
  | 0, _ => none
  | d + 1, t => match P.underlying t with
    | some (.int _) => some .num
    | some .bool => some .bool
    | some .string => some .str
    | some (.struct fs) => if P.stoodInHeld t = true then none else (shFs P (shOf P d) fs.toList).map .st
    | _ => none
def asI : AV → Option (IntKind × Int)
  | .d (.v (.int k z)) => some (k, z)
  | _ => none
def asB : AV → Option Bool
  | .d (.v (.bool b)) => some b
  | _ => none
def asS : AV → Option ByteArray
  | .d (.v (.string s)) => some s
  | _ => none
abbrev AI (k : IntKind) (z : Int) : AV := .d (.v (.int k z))
abbrev AB (b : Bool) : AV := .d (.v (.bool b))
theorem asI_some {v : AV} {k : IntKind} {z : Int} (h : asI v = some (k, z)) : v = AI k z := by
  unfold asI at h; split at h
  · simp only [Option.some.injEq, Prod.mk.injEq] at h; obtain ⟨rfl, rfl⟩ := h; rfl
  · cases h
theorem asB_some {v : AV} {b : Bool} (h : asB v = some b) : v = AB b := by
  unfold asB at h; split at h
  · simp only [Option.some.injEq] at h; subst h; rfl
  · cases h
theorem asS_some {v : AV} {s : ByteArray} (h : asS v = some s) : v = .d (.v (.string s)) := by
  unfold asS at h; split at h
  · simp only [Option.some.injEq] at h; subst h; rfl
  · cases h
mutual
def eqA : Sh → AV → AV → Option Bool
  | .num, x, y => match asI x, asI y with
    | some (k, a), some (l, b) => if k = l then some (decide (a = b)) else none
    | _, _ => none
  | .bool, x, y => match asB x, asB y with
    | some a, some b => some (a == b)
    | _, _ => none
  | .str, x, y => match asS x, asS y with
    | some a, some b => some (a == b)
    | _, _ => none
  | .st fs, x, y => match x, y with
    | .agg xs, .agg ys => eqAs fs xs ys
    | _, _ => none
def eqAs : List (Nat × Option Nat × Sh) → List AV → List AV → Option Bool
  | [], _, _ => some true
  | (off, sz, sh) :: fs, xs, ys => match cut sz xs off, cut sz ys off with
    | some a, some b => match eqA sh a b, eqAs fs xs ys with
      | some p, some q => some (p && q)
      | _, _ => none
    | _, _ => none
end
section
variable {w : World} {K : Nat → Prop} {β : Nat → Loc} {n : Nat}
theorem R_AI {k : IntKind} {z : Int} {u : Value} (h : R w K β n (AI k z) u) : u = .int k z := by simp only [R, RD] at h; exact h.1
theorem R_AB {b : Bool} {u : Value} (h : R w K β n (AB b) u) : u = .bool b := by simp only [R, RD] at h; exact h.1
theorem R_AS {s : ByteArray} {u : Value} (h : R w K β n (.d (.v (.string s))) u) : u = .string s := by simp only [R, RD] at h; exact h.1
theorem R_int (k : IntKind) (z : Int) : R w K β n (AI k z) (.int k z) := by simp [R, RD, Value.oneCell']
theorem R_bool (b : Bool) : R w K β n (AB b) (.bool b) := by simp [R, RD, Value.oneCell']
theorem R_str (s : ByteArray) : R w K β n (.d (.v (.string s))) (.string s) := by simp [R, RD, Value.oneCell']
theorem run_equalIn_string' {P : Program} (w : World) (d : Nat) (t : TypeId) (x y : ByteArray) (hu : P.underlying t = some .string) : (Op.equalIn (d + 1) t (.string x) (.string y)).run P w = .ok (x == y) w := by
  simp [Op.equalIn, run_underlying hu]
theorem eqA_ok {P : Program} : ∀ (d : Nat) (t : TypeId) (sh : Sh) (x y : AV) (ux uy : Value) (b : Bool), shOf P d t = some sh → eqA sh x y = some b → R w K β n x ux → R w K β n y uy → ∀ w', (Op.equalIn d t ux uy).run P w' = .ok b w'
  | 0, _, _, _, _, _, _, _, h, _, _, _ => by simp [shOf] at h
  | d + 1, t, sh, x, y, ux, uy, b, h, he, hx, hy => by
    intro w'
    unfold shOf at h
    split at h
    · rename_i k hu
      simp only [Option.some.injEq] at h; subst h
      simp only [eqA] at he
      split at he
      · rename_i k1 a l1 c h1 h2
        split at he
        · rename_i hk
          subst hk
          simp only [Option.some.injEq] at he; subst he
          rw [asI_some h1] at hx; rw [asI_some h2] at hy
          rw [R_AI hx, R_AI hy, run_equalIn_int w' d t _ k _ _ hu]
          rfl
        · cases he
      · cases he
    · rename_i hu
      simp only [Option.some.injEq] at h; subst h
      simp only [eqA] at he
      split at he
      · rename_i a c h1 h2
        simp only [Option.some.injEq] at he; subst he
        rw [asB_some h1] at hx; rw [asB_some h2] at hy
        rw [R_AB hx, R_AB hy, run_equalIn_bool' w' d t _ _ hu]
      · cases he
    · rename_i hu
      simp only [Option.some.injEq] at h; subst h
      simp only [eqA] at he
      split at he
      · rename_i a c h1 h2
        simp only [Option.some.injEq] at he; subst he
        rw [asS_some h1] at hx; rw [asS_some h2] at hy
        rw [R_AS hx, R_AS hy, run_equalIn_string' w' d t _ _ hu]
      · cases he
    · rename_i fs hu
      split at h
      · cases h
      · rename_i hst
        simp only [Option.map_eq_some_iff] at h
        obtain ⟨l, hl, rfl⟩ := h
        simp only [eqA] at he
        split at he
        · rename_i xs ys
          simp only [R] at hx hy
          obtain ⟨us, rfl, hx⟩ := hx
          obtain ⟨vs, rfl, hy⟩ := hy
          have hfs : P.fieldsOf t = fs := by simp [Program.fieldsOf, hu]
          rw [run_equalIn_struct w' d t _ _ (by rw [hfs]; exact hu) (by simpa using hst), hfs]
          revert hl he
          generalize fs.toList = fl
          intro hl he
          induction fl generalizing b l with
          | nil => simp only [shFs, Option.some.injEq] at hl; subst hl; simp only [eqAs, Option.some.injEq] at he; subst he; simp [Op.eqFields]
          | cons f fl ihl =>
            simp only [shFs] at hl
            split at hl
            · rename_i hn
              split at hl
              · rename_i r s l' hr hs hl'
                simp only [Option.some.injEq] at hl; subst hl
                simp only [eqAs] at he
                split at he
                · rename_i a c ha hc
                  split at he
                  · rename_i p q hp hq
                    simp only [Option.some.injEq] at he; subst he
                    obtain ⟨ua, ea, ra⟩ := run_part hr hx ha w'
                    obtain ⟨uc, ec, rc⟩ := run_part hr hy hc w'
                    have e1 := eqA_ok d _ _ _ _ _ _ _ hs hp ra rc w'
                    have e2 := ihl _ _ hl' hq
                    simp only [Op.eqFields, if_pos hn, Sem.run_bind, ea, ec, Result.andThen_ok, e1, Sem.run_ite] at e2 ⊢
                    cases p with
                    | false => simp
                    | true => simpa using e2
                  · cases he
                · cases he
              · cases hl
            · rename_i hn
              have e2 := ihl _ _ hl he
              simp only [Op.eqFields, if_neg hn]
              exact e2
        · cases he
    · cases h
end
end Go.Proofs.YtipanehdmhachaaGreatDoor.H

set_option linter.unusedSimpArgs false
set_option linter.unusedVariables false
set_option linter.unusedSectionVars false
set_option linter.unusedSectionVars false
namespace Go.Proofs.YtipanehdmhachaaGreatDoor.H
variable [DR]

inductive FO where
  | mv (x : Operand) | pick (c a b : Operand) | bin (op : BinOp) (x y : Operand) | binb (op : BinOp) (x y : Operand) | bins (op : BinOp) (x y : Operand) | shf (op : BinOp) (x y : Operand) | eql (neg : Bool) (sh : Sh) (x y : Operand)
  | un (op : UnOp) (x : Operand) | conv (k : IntKind) (x : Operand) | nilc (x : Operand) | field (off : Nat) (sz : Option Nat) (x : Operand) | extract (i : Nat) (x : Operand)
  | build (z : List Value) (ps : List (Nat × Nat × Operand)) | mkfn (f : FuncId) (a c : List Operand)
  | faddr (off : Nat) (x : Operand) | iaddr (sz : Nat) (arr : Option Nat) (x i : Operand) | idx (sz : Nat) (rd : Option Nat) (n : Nat) (x i : Operand) | sidx (x i : Operand)
  | len (x : Operand) | lens (x : Operand) | mm (mx : Bool) (l : List Operand) | load (sz : Option Nat) (x : Operand)
  | slc (sz : Nat) (x : Operand) (lo hi mx : Option Operand) | slca (sz n : Nat) (x : Operand) | slcs (x : Operand) (lo hi : Option Operand) | b2s (x : Operand)

/-! ### Values -/
abbrev PA := Option (Prop × AV)
def intA (op : BinOp) (k : IntKind) (a b : Int) : PA := match op with
  | .add => some (True, AI k (k.wrap (a + b)))
  | .sub => some (True, AI k (k.wrap (a - b)))
  | .mul => some (True, AI k (k.wrap (a * b)))
  | .quo => some (b ≠ 0, AI k (k.wrap (a.tdiv b)))
  | .rem => some (b ≠ 0, AI k (a.tmod b))
  | .eql => some (True, AB (decide (a = b)))
  | .neq => some (True, AB (!decide (a = b)))
  | .lss => some (True, AB (decide (a < b)))
  | .leq => some (True, AB (decide (a ≤ b)))
  | .gtr => some (True, AB (decide (b < a)))
  | .geq => some (True, AB (decide (b ≤ a)))
  | .and => some (True, AI k (k.wrap (BitVec.ofInt k.bits a &&& BitVec.ofInt k.bits b).toNat))
  | .or => some (True, AI k (k.wrap (BitVec.ofInt k.bits a ||| BitVec.ofInt k.bits b).toNat))
  | .xor => some (True, AI k (k.wrap (BitVec.ofInt k.bits a ^^^ BitVec.ofInt k.bits b).toNat))
  | .andNot => some (True, AI k (k.wrap (BitVec.ofInt k.bits a &&& ~~~BitVec.ofInt k.bits b).toNat))
  | _ => none
def boolA (op : BinOp) (a b : Bool) : PA := match op with
  | .eql => some (True, AB (a == b))
  | .neq => some (True, AB (!(a == b)))
  | _ => none
def strA (op : BinOp) (a b : ByteArray) : PA := match op with
  | .eql => some (True, AB (a.toList == b.toList))
  | .neq => some (True, AB (!(a.toList == b.toList)))
  | .lss => some (True, AB (Op.bytesLess a.toList b.toList))
  | .add => some (((a.size + b.size : Nat) : Int) ≤ IntKind.i64.max, .d (.v (.string (a ++ b))))
  | _ => none
def binA (op : BinOp) (x y : AV) : PA := match asI x, asI y with
  | some (k, a), some (l, b) => if k = l then intA op k a b else none
  | _, _ => none
def binbA (op : BinOp) (x y : AV) : PA := match asB x, asB y with
  | some a, some b => boolA op a b
  | _, _ => none
def binsA (op : BinOp) (x y : AV) : PA := match asS x, asS y with
  | some a, some b => strA op a b
  | _, _ => none
def shfA (op : BinOp) (x y : AV) : PA := match asI x, asI y with
  | some (k, a), some (_, b) => match op with
    | .shl => some (0 ≤ b, AI k (k.wrap (a * 2 ^ (min b.toNat k.bits))))
    | .shr => some (0 ≤ b, AI k (a.fdiv (2 ^ (min b.toNat k.bits))))
    | _ => none
  | _, _ => none
def eqlA (neg : Bool) (sh : Sh) (x y : AV) : PA := match eqA sh x y with
  | some b => some (True, AB (if neg then !b else b))
  | none => none
def unA (op : UnOp) (x : AV) : PA := match op with
  | .neg => match asI x with
    | some (k, a) => some (True, AI k (k.wrap (0 - a)))
    | none => none
  | .not => match asB x with
    | some b => some (True, AB (!b))
    | none => none
  | _ => none
def convA (k : IntKind) (x : AV) : PA := match asI x with
  | some (_, a) => some (True, AI k (k.wrap a))
  | none => none
def setA (cs : List AV) (off : Nat) (l : List AV) : Option (List AV) := if off + l.length ≤ cs.length then some (cs.take off ++ l ++ cs.drop (off + l.length)) else none
def fillA : List AV → List (Nat × Nat × AV) → Option (List AV)
  | cs, [] => some cs
  | cs, (off, size, v) :: r => match v.flat with
    | some l => if l.length = size then match setA cs off l with
        | some cs' => fillA cs' r
        | none => none
      else none
    | none => none
def zA1 : Value → AV
  | .slice none 0 0 => .ful 0 []
  | x => .d (.v x)
def zeroA (z : List Value) : List AV := z.map zA1
def cellsOf (s : St) (id : Nat) : Option (TypeId × Nat × List (List AV)) := match s[id]? with
  | some (some (.cells T k l)) => some (T, k, l)
  | _ => none
def cutA (sz : Option Nat) (r : List AV) (off : Nat) : AV := match sz with
  | none => r.getD off default
  | some n => .agg ((List.range n).map fun c => r.getD (off + c) default)
def loadA (s : St) (sz : Option Nat) (x : AV) : PA := match x with
  | .ptr id i off => match cellsOf s id with
    | some (_, k, rows) => if off + sz.getD 1 ≤ k then some (i < rows.length, cutA sz (rows.getD i []) off) else none
    | none => none
  | .elm k rows i off => if off + sz.getD 1 ≤ k then some (True, cutD sz (rows.getD i []) off) else none
  | _ => none
def iaddrA (s : St) (sz : Nat) (arr : Option Nat) (x i : AV) : PA := match asI i with
  | some (_, z) => match arr with
    | some n => match x with
      | .ptr id j off => some (0 ≤ z ∧ z < n, .ptr id j (off + z.toNat * sz))
      | _ => none
    | none => match x with
      | .d (.lst k rows) => some (0 ≤ z ∧ z < rows.length ∧ k = sz, .elm k rows z.toNat 0)
      | .ful k rows => some (0 ≤ z ∧ z < rows.length ∧ k = sz, .elm k rows z.toNat 0)
      | .own id off len => match cellsOf s id with
        | some (_, k, _) => if k = sz then some (0 ≤ z ∧ z < len, .ptr id (off + z.toNat) 0) else none
        | none => none
      | .osl id j off len => some (0 ≤ z ∧ z < len, .ptr id j (off + z.toNat * sz))
      | .pre k rows n => some (0 ≤ z ∧ z < n ∧ n ≤ rows.length ∧ k = sz, .elm k rows z.toNat 0)
      | _ => none
  | none => none
/-- A laid table. -/
def tabR (g : Nat) : Option (List (List D)) := (tbs.find? fun x => x.1 == g).map fun x => x.2.map fun v => [D.v v]
/-- A place in a laid table. -/
def gadrA (sz : Nat) (arr : Option Nat) (x : Operand) (i : AV) : PA := match x, arr, asI i with
  | .global g, some n, some (_, z) => match tabR g with
    | some rows => if sz = 1 ∧ rows.length = n then some (0 ≤ z ∧ z < n, .elm 1 rows z.toNat 0) else none
    | none => none
  | _, _, _ => none
def idxA (sz : Nat) (rd : Option Nat) (n : Nat) (x i : AV) : PA := match asI i, x with
  | some (_, z), .agg l => match rd with
    | some m => some (0 ≤ z ∧ z < n ∧ z.toNat * sz + m ≤ l.length, .agg ((l.drop (z.toNat * sz)).take m))
    | none => some (0 ≤ z ∧ z < n ∧ z.toNat * sz < l.length, l.getD (z.toNat * sz) default)
  | _, _ => none
def sidxA (x i : AV) : PA := match asS x, asI i with
  | some s, some (_, z) => some (0 ≤ z ∧ z < s.size, AI .u8 (s.data.toList.getD z.toNat 0).toNat)
  | _, _ => none
def lenA (x : AV) : PA := match x with
  | .d (.lst _ rows) => some (True, AI .i64 rows.length)
  | .ful _ rows => some (True, AI .i64 rows.length)
  | .own _ _ len => some (True, AI .i64 len)
  | .osl _ _ _ len => some (True, AI .i64 len)
  | .pre _ _ len => some (True, AI .i64 len)
  | _ => none
def lensA (x : AV) : PA := match asS x with
  | some s => some (True, AI .i64 s.size)
  | none => none
def mmF (mx : Bool) (a b : Int) : Int := if mx then max a b else min a b
def mmL (mx : Bool) (k : IntKind) (acc : Int) : List AV → Option Int
  | [] => some acc
  | x :: l => match asI x with
    | some (j, b) => if j = k then mmL mx k (mmF mx acc b) l else none
    | none => none
def mmA (mx : Bool) : List AV → PA
  | [] => none
  | x :: l => match asI x with
    | some (k, a) => match mmL mx k a l with
      | some z => some (True, AI k z)
      | none => none
    | none => none
def optI (T : Tm) : Option Operand → Option (Option Int)
  | none => some none
  | some x => match opd T x with
    | some v => match asI v with
      | some (_, z) => some (some z)
      | none => none
    | none => none
def slcA (s : St) (sz : Nat) (x : AV) (lo hi mx : Option Int) : PA := match mx with
  | none => match x with
    | .own id off len => match cellsOf s id with
      | some (_, k, _) => if k = sz then some (0 ≤ lo.getD 0 ∧ lo.getD 0 ≤ hi.getD len ∧ hi.getD len ≤ len, .own id (off + (lo.getD 0).toNat) ((hi.getD len).toNat - (lo.getD 0).toNat)) else none
      | none => none
    | .d (.lst k rows) => some (0 ≤ lo.getD 0 ∧ lo.getD 0 ≤ hi.getD rows.length ∧ hi.getD rows.length ≤ rows.length ∧ (k = sz ∨ rows = []),
        .d (.lst k ((rows.drop (lo.getD 0).toNat).take ((hi.getD rows.length).toNat - (lo.getD 0).toNat))))
    | .ful k rows => match hi with
      | none => some (0 ≤ lo.getD 0 ∧ lo.getD 0 ≤ rows.length ∧ (k = sz ∨ rows = []), .ful k (rows.drop (lo.getD 0).toNat))
      | some h => match rows with
        | [] => some (0 ≤ lo.getD 0 ∧ lo.getD 0 ≤ h ∧ h ≤ 0, .ful k [])
        | r :: rows => match lo with
        | none => some (0 ≤ h ∧ h ≤ (r :: rows).length ∧ k = sz, .pre k (r :: rows) h.toNat)
        | some _ => some (0 ≤ lo.getD 0 ∧ lo.getD 0 ≤ h ∧ h ≤ (r :: rows).length ∧ k = sz, .d (.lst k (((r :: rows).drop (lo.getD 0).toNat).take (h.toNat - (lo.getD 0).toNat))))
    | _ => none
  | some m => match x with
    | .own _ _ len => some (0 = lo.getD 0 ∧ m = 0 ∧ hi = some 0, .ful sz [])
    | .d (.lst k rows) => some (0 = lo.getD 0 ∧ m = 0 ∧ hi = some 0, .ful sz [])
    | .ful k rows => some (0 = lo.getD 0 ∧ m = 0 ∧ hi = some 0, .ful sz [])
    | _ => none
def slcsA (x : AV) (lo hi : Option Int) : PA := match asS x with
  | some s => some (0 ≤ lo.getD 0 ∧ lo.getD 0 ≤ hi.getD s.size ∧ hi.getD s.size ≤ s.size, .d (.v (.string (s.extract (lo.getD 0).toNat (hi.getD s.size).toNat))))
  | none => none
def byteA : AV → Option UInt8
  | .d (.v (.int .u8 z)) => if 0 ≤ z ∧ z < 256 then some (UInt8.ofNat z.toNat) else none
  | _ => none
def bytesA : List AV → Option (List UInt8)
  | [] => some []
  | v :: l => match byteA v, bytesA l with
    | some b, some r => some (b :: r)
    | _, _ => none
def strB : Option (List UInt8) → Option AV
  | some (b :: bs) => some (.d (.v (.string ⟨(b :: bs).toArray⟩)))
  | _ => none
/-- The string of a list of bytes. -/
def b2sA (s : St) (x : AV) : PA := match x with
  | .d (.lst k rows) => if k = 1 then (strB (bytesA (rows.flatten.map .d))).map fun v => (True, v) else none
  | .ful k rows => if k = 1 then (strB (bytesA (rows.flatten.map .d))).map fun v => (True, v) else none
  | .own id off len => match cellsOf s id with
    | some (_, k, rows) => if k = 1 then (strB (bytesA ((rows.flatten.drop off).take len))).map fun v => (off + len ≤ rows.flatten.length, v) else none
    | none => none
  | _ => none
def opdP (T : Tm) : List (Nat × Nat × Operand) → Option (List (Nat × Nat × AV))
  | [] => some []
  | (o, z, x) :: l => match opd T x, opdP T l with
    | some v, some r => some ((o, z, v) :: r)
    | _, _ => none
def pickA (c a b : AV) : PA := match asB c with
  | some t => some (True, bif t then a else b)
  | none => none
def nilcA (x : AV) : PA := match x with
  | .ptr .. => some (True, x)
  | .elm .. => some (True, x)
  | .fn .. => some (True, x)
  | _ => none
def evF (s : St) (T : Tm) : FO → PA
  | .mv x => match opd T x with
    | some v => some (True, v)
    | none => none
  | .pick c x y => match opd T c with
    | some vc => match asB vc with
      | some true => match opd T x with
        | some v => some (True, v)
        | none => none
      | some false => match opd T y with
        | some v => some (True, v)
        | none => none
      | none => none
    | none => none
  | .bin op x y => match opd T x, opd T y with
    | some a, some b => binA op a b
    | _, _ => none
  | .binb op x y => match opd T x, opd T y with
    | some a, some b => binbA op a b
    | _, _ => none
  | .bins op x y => match opd T x, opd T y with
    | some a, some b => binsA op a b
    | _, _ => none
  | .shf op x y => match opd T x, opd T y with
    | some a, some b => shfA op a b
    | _, _ => none
  | .eql neg sh x y => match opd T x, opd T y with
    | some a, some b => eqlA neg sh a b
    | _, _ => none
  | .un op x => match opd T x with
    | some a => unA op a
    | none => none
  | .conv k x => match opd T x with
    | some a => convA k a
    | none => none
  | .nilc x => match opd T x with
    | some a => nilcA a
    | none => none
  | .field off sz x => match opd T x with
    | some (.agg l) => match cut sz l off with
      | some v => some (True, v)
      | none => none
    | _ => none
  | .extract i x => match opd T x with
    | some (.tup l) => match l[i]? with
      | some v => some (True, v)
      | none => none
    | _ => none
  | .build z ps => match opdP T ps with
    | some l => match fillA (zeroA z) l with
      | some cs => some (True, .agg cs)
      | none => none
    | none => none
  | .mkfn f x y => match opdL T x, opdL T y with
    | some a, some c => some (True, .fn f a c)
    | _, _ => none
  | .faddr off x => match opd T x with
    | some (.ptr id i o) => some (True, .ptr id i (o + off))
    | some (.elm k rows i o) => some (True, .elm k rows i (o + off))
    | _ => none
  | .iaddr sz arr x i => match opd T x, opd T i with
    | some a, some b => iaddrA s sz arr a b
    | none, some b => gadrA sz arr x b
    | _, _ => none
  | .idx sz rd n x i => match opd T x, opd T i with
    | some a, some b => idxA sz rd n a b
    | _, _ => none
  | .sidx x i => match opd T x, opd T i with
    | some a, some b => sidxA a b
    | _, _ => none
  | .len x => match opd T x with
    | some a => lenA a
    | none => none
  | .lens x => match opd T x with
    | some a => lensA a
    | none => none
  | .mm mx l => match opdL T l with
    | some r => mmA mx r
    | none => none
  | .load sz x => match opd T x with
    | some a => loadA s sz a
    | none => none
  | .slc sz x lo hi mx => match opd T x, optI T lo, optI T hi, optI T mx with
    | some a, some l, some h, some m => slcA s sz a l h m
    | _, _, _, _ => none
  | .slca sz n x => match opd T x with
    | some (.ptr id i off) => if 0 < n then some (True, .osl id i off n) else none
    | _ => none
  | .slcs x lo hi => match opd T x, optI T lo, optI T hi with
    | some a, some l, some h => slcsA a l h
    | _, _, _ => none
  | .b2s x => match opd T x with
    | some a => b2sA s a
    | none => none

/-! ### From the model's operations -/
def isShift : BinOp → Bool
  | .shl | .shr => true
  | _ => false
def zeroOf (P : Program) (T : TypeId) : Option (List Value) := match P.info? T with
  | some i => match i.zero with
    | some z => if z.cells.toList.all (fun c => c.oneCell') then some z.cells.toList else none
    | none => none
  | none => none
def placesA (P : Program) (T : TypeId) : Option (Nat → Option (Nat × Nat)) := match P.underlying T with
  | some (.array _ el) => match sizeT P el with
    | some n => some fun i => some (i * n, n)
    | none => none
  | some (.struct fs) => match fs.toList.mapM (fun f => (P.info? f.type).map fun i => (f.offset, i.size)) with
    | some l => some (l.toArray[·]?)
    | none => none
  | _ => none
def putP (g : Nat → Option (Nat × Nat)) : List (Nat × Operand) → Option (List (Nat × Nat × Operand))
  | [] => some []
  | (i, x) :: l => match g i, putP g l with
    | some (o, z), some r => some ((o, z, x) :: r)
    | _, _ => none
def cop (P : Program) : Op → Option FO
  | .move x => some (.mv x)
  | .pick c x y => some (.pick c x y)
  | .binOp op T x y _ => match P.underlying T with
    | some (.int _) => if isShift op then some (.shf op x y) else some (.bin op x y)
    | some .bool => some (.binb op x y)
    | some .string => some (.bins op x y)
    | some (.struct _) => if P.eqGuardType P.depth T = true then none else match op, shOf P 10000 T with
      | .eql, some sh => some (.eql false sh x y)
      | .neq, some sh => some (.eql true sh x y)
      | _, _ => none
    | _ => none
  | .unOp op _ x => some (.un op x)
  | .convert src dst x => match P.underlying src, P.underlying dst with
    | some (.int _), some (.int k) => some (.conv k x)
    | some (.slice e), some .string => match P.underlying e with
      | some (.int .u8) => some (.b2s x)
      | _ => none
    | _, _ => none
  | .nilCheck x => some (.nilc x)
  | .field T x f => match P.underlying T with
    | some (.struct fs) => match fs[f]? with
      | some fd => match rdT P fd.type with
        | some r => some (.field fd.offset r x)
        | none => none
      | none => none
    | _ => none
  | .extract x i => some (.extract i x)
  | .build T ps => match zeroOf P T, placesA P T with
    | some z, some g => match putP g ps.toList with
      | some l => some (.build z l)
      | none => none
    | _, _ => none
  | .makeFunc (.func f) x y => some (.mkfn f x.toList y.toList)
  | .fieldAddr T x f => match P.underlying T with
    | some (.struct fs) => match fs[f]? with
      | some fd => match sizeT P fd.type with
        | some (_ + 1) => some (.faddr fd.offset x)
        | _ => none
      | none => none
    | _ => none
  | .indexAddr T x i => match P.underlying T with
    | some (.slice el) => match sizeT P el with
      | some sz => some (.iaddr sz none x i)
      | none => none
    | some (.array n el) => match sizeT P el with
      | some sz => some (.iaddr sz (some n) x i)
      | none => none
    | _ => none
  | .index T x i => match P.underlying T with
    | some (.array n el) => match sizeT P el, rdT P el with
      | some sz, some r => some (.idx sz r n x i)
      | _, _ => none
    | some .string => some (.sidx x i)
    | _ => none
  | .load T x => match rdT P T with
    | some r => some (.load r x)
    | none => none
  | .slice T x lo hi mx => match P.underlying T with
    | some (.slice el) => match sizeT P el with
      | some sz => some (.slc sz x lo hi mx)
      | none => none
    | some (.array n el) => match sizeT P el, lo, hi, mx with
      | some sz, none, none, none => some (.slca sz n x)
      | _, _, _, _ => none
    | some .string => match mx with
      | none => some (.slcs x lo hi)
      | some _ => none
    | _ => none
  | .call { callee := .builtin .len, args := as, argTypes := ts } => match ts.toList, as.toList with
    | [T], [x] => match P.underlying T with
      | some (.slice _) => some (.len x)
      | some .string => some (.lens x)
      | some (.array n _) => some (.mv (.const (.int .i64 n)))
      | _ => none
    | _, _ => none
  | .call { callee := .builtin .min, args := as, .. } => some (.mm false as.toList)
  | .call { callee := .builtin .max, args := as, .. } => some (.mm true as.toList)
  | _ => none
end Go.Proofs.YtipanehdmhachaaGreatDoor.H

set_option linter.unusedSimpArgs false
set_option linter.unusedVariables false
set_option linter.unusedSectionVars false
set_option linter.unusedSectionVars false
namespace Go.Proofs.YtipanehdmhachaaGreatDoor.H
variable [DR]
section
variable {P : Program} {w : World} {K : Nat → Prop} {β : Nat → Loc} {n : Nat}
theorem run_eqGuard_int (op : BinOp) (t : TypeId) (x y : Operand) (k l : IntKind) (m n : Int) (w : World) : (eqGuard op t x y (.int k m) (.int l n)).run P w = .ok () w := by
  unfold eqGuard; split <;> rfl
theorem run_eqGuard_bool (op : BinOp) (t : TypeId) (x y : Operand) (m n : Bool) (w : World) : (eqGuard op t x y (.bool m) (.bool n)).run P w = .ok () w := by
  unfold eqGuard; split <;> rfl
theorem run_eqGuard_str (op : BinOp) (t : TypeId) (x y : Operand) (m n : ByteArray) (w : World) : (eqGuard op t x y (.string m) (.string n)).run P w = .ok () w := by
  unfold eqGuard; split <;> rfl
/-- A run that gives a value that 'v' tells, and changes nothing. -/
def Gives (P : Program) (w : World) (K : Nat → Prop) (β : Nat → Loc) (n : Nat) (v : AV) (s : Sem Value) : Prop := ∃ u, s.run P w = .ok u w ∧ R w K β n v u

theorem intA_ok {op : BinOp} {k : IntKind} {a b : Int} {C : Prop} {v : AV} (h : intA op k a b = some (C, v)) (hC : C) (t : TypeId) (xo yo : Operand) :
    Gives P w K β n v (do eqGuard op t xo yo (.int k a) (.int k b); binOp op t (.int k a) (.int k b)) := by
  have hg := fun op => run_eqGuard_int (P := P) op t xo yo k k a b w
  unfold intA at h
  split at h <;> simp only [Option.some.injEq, Prod.mk.injEq, reduceCtorEq] at h <;> obtain ⟨rfl, rfl⟩ := h <;>
    refine ⟨_, ?_, by first | exact R_int _ _ | exact R_bool _⟩ <;> simp only [Sem.run_bind, hg, Result.andThen_ok]
  case h_4 => simp [binOp, Op.intDiv, hC]
  case h_5 => simp [binOp, Op.intDiv, hC]
  case h_6 => simp only [binOp, Op.intCmp, ne_eq, not_true, if_false]; rfl
  case h_7 => simp only [binOp, Op.intCmp, ne_eq, not_true, if_false]; rfl
  case h_10 => simp only [binOp, Op.intCmp, ne_eq, not_true, if_false]; rfl
  case h_11 => simp only [binOp, Op.intCmp, ne_eq, not_true, if_false]; rfl
  all_goals first
    | (simp [binOp, Op.intArith]; done)
    | (simp [binOp, Op.intCmp]; done)
    | (simp [binOp, Op.intBits]; done)
theorem boolA_ok {op : BinOp} {a b : Bool} {C : Prop} {v : AV} (h : boolA op a b = some (C, v)) (t : TypeId) (ht : P.underlying t = some .bool) (xo yo : Operand) :
    Gives P w K β n v (do eqGuard op t xo yo (.bool a) (.bool b); binOp op t (.bool a) (.bool b)) := by
  have hg := fun op => run_eqGuard_bool (P := P) op t xo yo a b w
  have he : (Op.equalIn 10000 t (.bool a) (.bool b)).run P w = .ok (a == b) w := run_equalIn_bool' w 9999 t _ _ ht
  unfold boolA at h
  split at h <;> simp only [Option.some.injEq, Prod.mk.injEq, reduceCtorEq] at h <;> obtain ⟨rfl, rfl⟩ := h <;>
    refine ⟨_, ?_, R_bool _⟩ <;> simp only [Sem.run_bind, hg, Result.andThen_ok] <;>
    simp only [binOp, Op.equal, Op.maxDepth, Sem.run_bind, he, Result.andThen_ok, Sem.run_pure]
theorem strA_ok {op : BinOp} {a b : ByteArray} {C : Prop} {v : AV} (h : strA op a b = some (C, v)) (hC : C) (t : TypeId) (xo yo : Operand) :
    Gives P w K β n v (do eqGuard op t xo yo (.string a) (.string b); binOp op t (.string a) (.string b)) := by
  have hg := fun op => run_eqGuard_str (P := P) op t xo yo a b w
  unfold strA at h
  split at h <;> simp only [Option.some.injEq, Prod.mk.injEq, reduceCtorEq] at h <;> obtain ⟨rfl, rfl⟩ := h <;>
    refine ⟨_, ?_, by first | exact R_str _ | exact R_bool _⟩ <;> simp only [Sem.run_bind, hg, Result.andThen_ok]
  case h_4 =>
    have : ¬ (((a.size + b.size : Nat) : Int) > IntKind.i64.max) := by omega
    simp only [binOp, Op.stringOp, if_neg this, Sem.run_pure]
  all_goals (simp only [binOp, Op.stringOp, Sem.run_pure])
theorem R_asI {x : AV} {u : Value} {k : IntKind} {z : Int} (h : R w K β n x u) (hx : asI x = some (k, z)) : u = .int k z := by
  rw [asI_some hx] at h; exact R_AI h
theorem R_asB {x : AV} {u : Value} {b : Bool} (h : R w K β n x u) (hx : asB x = some b) : u = .bool b := by
  rw [asB_some hx] at h; exact R_AB h
theorem R_asS {x : AV} {u : Value} {b : ByteArray} (h : R w K β n x u) (hx : asS x = some b) : u = .string b := by
  rw [asS_some hx] at h; exact R_AS h
theorem binA_ok {op : BinOp} {x y : AV} {ux uy : Value} {C : Prop} {v : AV} (h : binA op x y = some (C, v)) (hC : C) (hx : R w K β n x ux) (hy : R w K β n y uy) (t : TypeId)
    (xo yo : Operand) : Gives P w K β n v (do eqGuard op t xo yo ux uy; binOp op t ux uy) := by
  unfold binA at h
  split at h
  · rename_i k a l b h1 h2
    split at h
    · rename_i hk
      subst hk
      rw [R_asI hx h1, R_asI hy h2]
      exact intA_ok h hC t xo yo
    · cases h
  · cases h
theorem binbA_ok {op : BinOp} {x y : AV} {ux uy : Value} {C : Prop} {v : AV} (h : binbA op x y = some (C, v)) (hx : R w K β n x ux) (hy : R w K β n y uy) (t : TypeId)
    (ht : P.underlying t = some .bool) (xo yo : Operand) : Gives P w K β n v (do eqGuard op t xo yo ux uy; binOp op t ux uy) := by
  unfold binbA at h
  split at h
  · rename_i a b h1 h2
    rw [R_asB hx h1, R_asB hy h2]
    exact boolA_ok h t ht xo yo
  · cases h
theorem binsA_ok {op : BinOp} {x y : AV} {ux uy : Value} {C : Prop} {v : AV} (h : binsA op x y = some (C, v)) (hC : C) (hx : R w K β n x ux) (hy : R w K β n y uy) (t : TypeId)
    (xo yo : Operand) : Gives P w K β n v (do eqGuard op t xo yo ux uy; binOp op t ux uy) := by
  unfold binsA at h
  split at h
  · rename_i a b h1 h2
    rw [R_asS hx h1, R_asS hy h2]
    exact strA_ok h hC t xo yo
  · cases h
theorem shfA_ok {op : BinOp} {x y : AV} {ux uy : Value} {C : Prop} {v : AV} (h : shfA op x y = some (C, v)) (hC : C) (hx : R w K β n x ux) (hy : R w K β n y uy) (t : TypeId)
    (xo yo : Operand) : Gives P w K β n v (do eqGuard op t xo yo ux uy; binOp op t ux uy) := by
  unfold shfA at h
  split at h
  · rename_i k a l b h1 h2
    rw [R_asI hx h1, R_asI hy h2]
    have hg := fun op => run_eqGuard_int (P := P) op t xo yo k l a b w
    split at h <;> simp only [Option.some.injEq, Prod.mk.injEq, reduceCtorEq] at h <;> obtain ⟨rfl, rfl⟩ := h <;>
      refine ⟨_, ?_, R_int _ _⟩ <;> simp only [Sem.run_bind, hg, Result.andThen_ok] <;>
      simp [binOp, Op.shift, Int.not_lt.2 hC]
  · cases h
theorem run_eqGuard_agg' (w : World) (op : BinOp) (t : TypeId) (xo yo : Operand) (xs ys : Array Value) (h : P.eqGuardType P.depth t = false) : (eqGuard op t xo yo (.agg xs) (.agg ys)).run P w = .ok () w := run_eqGuard_agg w _ _ _ _ _ _ h
theorem eqlA_ok {op : BinOp} {neg : Bool} {sh : Sh} {x y : AV} {ux uy : Value} {C : Prop} {v : AV} (h : eqlA neg sh x y = some (C, v)) (hx : R w K β n x ux) (hy : R w K β n y uy) (t : TypeId)
    {fs : Array Field} (hu : P.underlying t = some (.struct fs)) (hg : P.eqGuardType P.depth t = false) (hs : shOf P 10000 t = some sh) (ho : op = if neg then .neq else .eql) (xo yo : Operand) :
    Gives P w K β n v (do eqGuard op t xo yo ux uy; binOp op t ux uy) := by
  unfold eqlA at h
  split at h
  · rename_i b hb
    simp only [Option.some.injEq, Prod.mk.injEq] at h; obtain ⟨rfl, rfl⟩ := h
    have he := eqA_ok 10000 t sh x y ux uy b hs hb hx hy w
    have hagg : ∃ xs ys, ux = .agg xs ∧ uy = .agg ys := by
      have : ∃ l, sh = .st l := by
        unfold shOf at hs
        simp only [hu] at hs
        split at hs
        · cases hs
        · simp only [Option.map_eq_some_iff] at hs
          obtain ⟨l, _, h⟩ := hs
          exact ⟨l, h.symm⟩
      obtain ⟨l, rfl⟩ := this
      simp only [eqA] at hb
      split at hb
      · simp only [R] at hx hy
        obtain ⟨us, rfl, _⟩ := hx
        obtain ⟨vs, rfl, _⟩ := hy
        exact ⟨_, _, rfl, rfl⟩
      · cases hb
    obtain ⟨xs, ys, rfl, rfl⟩ := hagg
    refine ⟨_, ?_, R_bool _⟩
    subst ho
    cases neg
    · simp only [Bool.false_eq_true, if_false, Sem.run_bind, run_eqGuard_agg' w _ _ _ _ _ _ hg, Result.andThen_ok, run_eql_struct, he]
    · simp only [if_true, Sem.run_bind, run_eqGuard_agg' w _ _ _ _ _ _ hg, Result.andThen_ok, run_neq_struct, he]
  · cases h
theorem unA_ok {op : UnOp} {x : AV} {ux : Value} {C : Prop} {v : AV} (h : unA op x = some (C, v)) (hx : R w K β n x ux) : Gives P w K β n v (Op.unary op ux) := by
  unfold unA at h
  split at h
  · split at h
    · rename_i k a h1
      simp only [Option.some.injEq, Prod.mk.injEq] at h; obtain ⟨rfl, rfl⟩ := h
      rw [R_asI hx h1]
      exact ⟨_, by simp [Op.unary, Op.intArith], R_int _ _⟩
    · cases h
  · split at h
    · rename_i b h1
      simp only [Option.some.injEq, Prod.mk.injEq] at h; obtain ⟨rfl, rfl⟩ := h
      rw [R_asB hx h1]
      exact ⟨_, by simp [Op.unary], R_bool _⟩
    · cases h
  · cases h
theorem convA_ok {k : IntKind} {x : AV} {ux : Value} {C : Prop} {v : AV} (h : convA k x = some (C, v)) (hx : R w K β n x ux) {src dst : TypeId} {k' : IntKind} (hs : P.underlying src = some (.int k')) (hd : P.underlying dst = some (.int k)) :
    Gives P w K β n v (convert src dst ux) := by
  unfold convA at h
  split at h
  · rename_i j a h1
    simp only [Option.some.injEq, Prod.mk.injEq] at h; obtain ⟨rfl, rfl⟩ := h
    rw [R_asI hx h1]
    exact ⟨_, by simp [convert, run_underlying hs, run_underlying hd, Conv.intToInt], R_int _ _⟩
  · cases h

/-! ### Literals of structs and arrays -/
theorem foldl_set (l : List Value) (off : Nat) : ∀ (cs : Array Value) (k : Nat), off + k + l.length ≤ cs.size →
    (l.zipIdx k).foldl (fun cs (c, j) => cs.setIfInBounds (off + j) c) cs = (cs.toList.take (off + k) ++ l ++ cs.toList.drop (off + k + l.length)).toArray := by
  induction l with
  | nil => intro cs k _; simp
  | cons v l ih =>
    intro cs k hk
    simp only [List.length_cons] at hk
    simp only [List.zipIdx_cons, List.foldl_cons]
    rw [ih _ _ (by simp; omega)]
    congr 1
    rw [Array.toList_setIfInBounds]
    have a1 : (cs.toList.set (off + k) v).take (off + (k + 1)) = cs.toList.take (off + k) ++ [v] := by
      rw [show off + (k + 1) = (off + k) + 1 by omega, List.take_succ_eq_append_getElem (by simp; omega), List.take_set_of_le (Nat.le_refl _)]
      simp
    have a2 : (cs.toList.set (off + k) v).drop (off + (k + 1) + l.length) = cs.toList.drop (off + k + (l.length + 1)) := by
      rw [List.drop_set_of_lt (by omega)]
      congr 1; omega
    rw [a1, a2]; simp
theorem setA_ok {cs l cs' : List AV} {off : Nat} {us vs : List Value} (h : setA cs off l = some cs') (hc : RL w K β n cs us) (hl : RL w K β n l vs) :
    off + vs.length ≤ us.length ∧ RL w K β n cs' (us.take off ++ vs ++ us.drop (off + vs.length)) := by
  unfold setA at h
  split at h
  · rename_i hle
    simp only [Option.some.injEq] at h; subst h
    rw [RL_length hl, RL_length hc]
    exact ⟨hle, RL_append (RL_append (RL_take hc _) hl) (RL_drop hc _)⟩
  · cases h
theorem fillA_ok {g : Nat → Option (Nat × Nat)} {T : Tm} {a : Act} (hT : RT w K β n T a) : ∀ (ps : List (Nat × Operand)) (qs : List (Nat × Nat × Operand)) (rs : List (Nat × Nat × AV)) (cells cs : List AV) (us : List Value),
    putP g ps = some qs → opdP T qs = some rs → fillA cells rs = some cs → RL w K β n cells us →
    ∃ vs, Instr.fill g us.toArray (ps.map fun p => (p.1, a.eval p.2)) = some vs.toArray ∧ RL w K β n cs vs
  | [], qs, rs, cells, cs, us, h1, h2, h3, hr => by
    simp only [putP, Option.some.injEq] at h1; subst h1
    simp only [opdP, Option.some.injEq] at h2; subst h2
    simp only [fillA, Option.some.injEq] at h3; subst h3
    exact ⟨us, by simp [Instr.fill], hr⟩
  | (i, x) :: ps, qs, rs, cells, cs, us, h1, h2, h3, hr => by
    simp only [putP] at h1
    split at h1
    · rename_i o z r hg hp
      simp only [Option.some.injEq] at h1; subst h1
      simp only [opdP] at h2
      split at h2
      · rename_i v r' hv hr'
        simp only [Option.some.injEq] at h2; subst h2
        simp only [fillA] at h3
        split at h3
        · rename_i l hl
          split at h3
          · rename_i hz
            split at h3
            · rename_i cs1 h4
              obtain ⟨vs, e1, e2, _⟩ := flat_ok hl (opd_ok hT hv)
              obtain ⟨q1, q2⟩ := setA_ok h4 hr e2
              obtain ⟨ws, e3, e4⟩ := fillA_ok (g := g) hT ps r r' cs1 cs _ hp hr' h3 q2
              refine ⟨ws, ?_, e4⟩
              have hf := foldl_set vs o us.toArray 0 (by simpa using q1)
              have hvl := RL_length e2
              simp only [List.map_cons, Instr.fill, hg, e1]
              rw [if_neg (by simp; omega)]
              rw [Array.zipIdx_toArray, List.foldl_toArray, hf]
              simpa using e3
            · cases h3
          · cases h3
        · cases h3
      · cases h2
    · cases h1
theorem zeroA_ok {P : Program} {T : TypeId} {z : List Value} (h : zeroOf P T = some z) : RL w K β n (zeroA z) z := by
  unfold zeroOf at h
  split at h
  · split at h
    · split at h
      · rename_i hc
        simp only [Option.some.injEq] at h; subst h
        rename_i i zz hz
        have := RL_map (w := w) (K := K) (β := β) (n := n) (f := zA1) (g := fun c => c) zz.cells.toList fun c hc' => by
            have := List.all_eq_true.1 hc c hc'
            unfold zA1
            split
            · simp only [R]; exact ⟨none, rfl, .inl rfl⟩
            · simp only [R, RD]; exact ⟨trivial, this⟩
        simpa [zeroA] using this
      · cases h
    · cases h
  · cases h
theorem zeroOf_info {P : Program} {T : TypeId} {z : List Value} (h : zeroOf P T = some z) : ∃ i zv, P.info? T = some i ∧ i.zero = some zv ∧ zv.cells = z.toArray ∧ ∀ x ∈ z, x.oneCell' = true := by
  unfold zeroOf at h
  split at h
  · rename_i i hi
    split at h
    · rename_i zv hz
      split at h
      · rename_i hc
        simp only [Option.some.injEq] at h; subst h
        exact ⟨i, zv, hi, hz, by simp, fun x hx => List.all_eq_true.1 hc x hx⟩
      · cases h
    · cases h
  · cases h
theorem build_ok {T : TypeId} {Tm' : Tm} {a : Act} (hT : RT w K β n Tm' a) {z : List Value} {g : Nat → Option (Nat × Nat)} {ps : Array (Nat × Operand)} {qs : List (Nat × Nat × Operand)} {rs : List (Nat × Nat × AV)} {cs : List AV}
    (hz : zeroOf P T = some z) (hg : placesA P T = some g) (hp : putP g ps.toList = some qs) (ho : opdP Tm' qs = some rs) (hf : fillA (zeroA z) rs = some cs) :
    Gives P w K β n (.agg cs) (Instr.build T (ps.map fun (i, x) => (i, a.eval x))) := by
  obtain ⟨i, zv, hi, hzv, hc, _⟩ := zeroOf_info hz
  obtain ⟨vs, e1, e2⟩ := fillA_ok hT ps.toList qs rs _ cs z hp ho hf (zeroA_ok hz)
  refine ⟨.agg vs.toArray, ?_, by simp only [R]; exact ⟨vs, rfl, e2⟩⟩
  have e0 : (ps.map fun (i, x) => (i, a.eval x)).toList = ps.toList.map fun p => (p.1, a.eval p.2) := by simp
  unfold placesA at hg
  split at hg
  · rename_i m el hu
    split at hg
    · rename_i sz hs
      simp only [Option.some.injEq] at hg; subst hg
      cases hie : P.info? el with
      | none => simp [sizeT, hie] at hs
      | some ie =>
        have hm : ie.size = sz := by simpa [sizeT, hie] using hs
        refine run_build w T _ vs.toArray ?_
        simp only [Program.built, hi, hu, hzv, hie, hc, e0, hm]
        exact e1
    · cases hg
  · rename_i fs hu
    split at hg
    · rename_i l hl
      simp only [Option.some.injEq] at hg; subst hg
      refine run_build w T _ vs.toArray ?_
      simp only [Program.built, hi, hu, hzv, hl, hc, e0]
      exact e1
    · cases hg
  · cases hg
end
end Go.Proofs.YtipanehdmhachaaGreatDoor.H

set_option linter.unusedSimpArgs false
set_option linter.unusedVariables false
set_option linter.unusedSectionVars false
namespace Go.Proofs.YtipanehdmhachaaGreatDoor.H
variable [DR]
section
variable {P : Program} {w : World} {K : Nat → Prop} {β : Nat → Loc} {s : St}
theorem cellsOf_some {id T k : Nat} {l : List (List AV)} (h : cellsOf s id = some (T, k, l)) : s[id]? = some (some (.cells T k l)) := by
  unfold cellsOf at h
  split at h
  · rename_i T k l hl
    simp only [Option.some.injEq, Prod.mk.injEq] at h; obtain ⟨rfl, rfl, rfl⟩ := h; exact hl
  · cases h
theorem Cz.cells (hz : Cz w K β s) {id T k : Nat} {rows : List (List AV)} (h : s[id]? = some (some (.cells T k rows))) :
    ∃ pre us post, w.heap[(β id).b]? = some (.cells (pre ++ us ++ post).toArray T (0, 0)) ∧ pre.length = (β id).base ∧ RL w K β s.length rows.flatten us ∧ (pre ++ us ++ post).length = (β id).base + (β id).cap * k ∧ (β id).k = k ∧
      (∀ v ∈ rows.flatten, v.one = true) ∧ ∀ r ∈ rows, r.length = k := hz.blk id _ h
theorem Cz.lt (hz : Cz w K β s) {id : Nat} (h : Alive s id) : (β id).b < w.heap.size := by
  obtain ⟨b, hb⟩ := h
  cases b with
  | cells T k l =>
    obtain ⟨pre, us, post, h1, _⟩ := hz.blk id _ hb
    exact (Array.getElem?_eq_some_iff.1 h1).1
  | mp es => obtain ⟨_, h1, _⟩ := hz.blk id _ hb; exact (Array.getElem?_eq_some_iff.1 h1).1
  | it m c seen => obtain ⟨h1, _⟩ := hz.blk id _ hb; exact (Array.getElem?_eq_some_iff.1 h1).1
/-- The cells of a block of our own, as the model reads them. -/
theorem cell_own {b base : Nat} {pre us post : List Value} {T : TypeId} (h : w.heap[b]? = some (.cells (pre ++ us ++ post).toArray T (0, 0))) (hp : pre.length = base) {j : Nat} {u : Value} (hj : us[j]? = some u) :
    w.cell? ⟨b, base + j, none⟩ = some u := by
  have hl : j < us.length := (List.getElem?_eq_some_iff.1 hj).1
  simp only [World.cell?, h]
  simp [List.getElem?_append_right (show pre.length ≤ base + j by omega), hp, List.getElem?_append_left hl, hj]
theorem loadVar_none {T : TypeId} (h : rdT P T = some none) {x : Addr} {u : Value} (hc : w.cell? x = some u) : (loadVar T x).run P w = .ok u w := by
  unfold rdT at h
  split at h
  · simp at h
  · rename_i ha _
    simp [loadVar, run_isAgg ha, hc]
  · cases h
theorem loadVar_some {T : TypeId} {m : Nat} (h : rdT P T = some (some m)) {x : Addr} {us : List Value} (hl : us.length = m) (hc : ∀ j u, us[j]? = some u → w.cell? (x.add j) = some u) :
    (loadVar T x).run P w = .ok (.agg us.toArray) w := by
  unfold rdT at h
  split at h
  · rename_i n ha hs
    simp only [Option.some.injEq] at h; subst h
    have := run_loadCells_list (P := P) w x us hc
    rw [hl] at this
    simp [loadVar, run_isAgg ha, run_sizeOf hs, this]
  · simp at h
  · cases h
theorem getD_lt {α : Type} {l : List α} {i : Nat} {d : α} (h : i < l.length) : l[i]? = some (l.getD i d) := by simp [h]
theorem load_ok {T : TypeId} {sz : Option Nat} (hr : rdT P T = some sz) {x : AV} {ux : Value} {C : Prop} {v : AV} (h : loadA s sz x = some (C, v)) (hC : C) (hz : Cz w K β s) (hx : R w K β s.length x ux) :
    Gives P w K β s.length v (Instr.loadAt T ux) := by
  unfold loadA at h
  split at h
  · rename_i id i off
    simp only [R] at hx
    obtain ⟨hid, rfl⟩ := hx
    split at h
    · rename_i T' k rows hc
      split at h
      · rename_i hle
        simp only [Option.some.injEq, Prod.mk.injEq] at h; obtain ⟨rfl, rfl⟩ := h
        obtain ⟨pre, us, post, h1, h2, h3, h4, h5, h6, h7⟩ := hz.cells (cellsOf_some hc)
        have hrow := getD_lt (d := ([] : List AV)) hC
        have hlen : (rows.getD i []).length = k := h7 _ (List.mem_of_getElem? hrow)
        have get : ∀ c, c < k → ∃ u, w.cell? ⟨(β id).b, (β id).base + (i * (β id).k + c), none⟩ = some u ∧ R w K β s.length ((rows.getD i []).getD c default) u := fun c hc => by
          obtain ⟨u, hu, hR⟩ := RL_get h3 (flatten_get h7 hrow (getD_lt (d := default) (by rw [hlen]; exact hc)))
          rw [h5]
          exact ⟨u, cell_own h1 h2 hu, hR⟩
        cases sz with
        | none =>
          obtain ⟨u, hu, hd⟩ := get off (by simp at hle; omega)
          exact ⟨u, by simp [Instr.loadAt, Instr.sureAddr, loadVar_none hr hu], by simpa only [cutA] using hd⟩
        | some m =>
          simp only [Option.getD_some] at hle
          have hx : ∀ c, ∃ u, c < m → w.cell? ⟨(β id).b, (β id).base + (i * (β id).k + (off + c)), none⟩ = some u ∧ R w K β s.length ((rows.getD i []).getD (off + c) default) u := fun c => by
            by_cases hc : c < m
            · obtain ⟨u, h1, h2⟩ := get (off + c) (by omega); exact ⟨u, fun _ => ⟨h1, h2⟩⟩
            · exact ⟨.nilFunc, fun h => absurd h hc⟩
          obtain ⟨f, hf⟩ := Classical.axiomOfChoice hx
          have := loadVar_some (w := w) hr (x := ⟨(β id).b, (β id).base + (i * (β id).k + off), none⟩) (us := (List.range m).map f) (by simp) fun j u hj => by
            simp only [List.getElem?_map, Option.map_eq_some_iff] at hj
            obtain ⟨j', hj', rfl⟩ := hj
            have hlt : j < m := by have := (List.getElem?_eq_some_iff.1 hj').1; simpa using this
            have : j' = j := by rw [List.getElem?_range hlt] at hj'; simpa using hj'.symm
            subst this
            rw [add_addr, Nat.add_assoc, Nat.add_assoc]
            exact (hf j' hlt).1
          refine ⟨.agg ((List.range m).map f).toArray, by simp [Instr.loadAt, Instr.sureAddr, this], ?_⟩
          simp only [cutA, R]
          exact ⟨_, rfl, RL_map _ fun c hc => (hf c (by simpa using hc)).2⟩
      · cases h
    · cases h
  · rename_i k rows i off
    split at h
    · rename_i hle
      simp only [Option.some.injEq, Prod.mk.injEq] at h; obtain ⟨rfl, rfl⟩ := h
      simp only [R] at hx
      obtain ⟨x, rfl, hrows, hi⟩ := hx
      obtain ⟨hlen, hcells⟩ := RRows_get hrows (getD_lt (d := []) hi)
      have get : ∀ c, c < k → ∃ u, w.cell? (x.add (i * k + c)) = some u ∧ RD w K ((rows.getD i []).getD c default) u := fun c hc => by
        obtain ⟨_, u, hu, hd⟩ := RCells_get hcells (getD_lt (d := default) (by rw [hlen]; exact hc))
        rw [Addr_add_add] at hu
        exact ⟨u, hu, hd⟩
      cases sz with
      | none =>
        obtain ⟨u, hu, hd⟩ := get off (by simp at hle; omega)
        exact ⟨u, by simp [Instr.loadAt, Instr.sureAddr, loadVar_none hr hu], by simp only [cutD, R]; exact hd⟩
      | some m =>
        simp only [Option.getD_some] at hle
        have hx : ∀ c, ∃ u, c < m → w.cell? (x.add (i * k + (off + c))) = some u ∧ RD w K ((rows.getD i []).getD (off + c) default) u := fun c => by
          by_cases hc : c < m
          · obtain ⟨u, h1, h2⟩ := get (off + c) (by omega); exact ⟨u, fun _ => ⟨h1, h2⟩⟩
          · exact ⟨.nilFunc, fun h => absurd h hc⟩
        obtain ⟨f, hf⟩ := Classical.axiomOfChoice hx
        have := loadVar_some (w := w) hr (x := x.add (i * k + off)) (us := (List.range m).map f) (by simp) fun j u hj => by
          simp only [List.getElem?_map, Option.map_eq_some_iff] at hj
          obtain ⟨j', hj', rfl⟩ := hj
          have hlt : j < m := by have := (List.getElem?_eq_some_iff.1 hj').1; simpa using this
          have : j' = j := by rw [List.getElem?_range hlt] at hj'; simpa using hj'.symm
          subst this
          rw [Addr_add_add, Nat.add_assoc]
          exact (hf j' hlt).1
        refine ⟨.agg ((List.range m).map f).toArray, by simp [Instr.loadAt, Instr.sureAddr, this], ?_⟩
        simp only [cutD, R]
        refine ⟨_, rfl, RL_map _ fun c hc => ?_⟩
        simp only [R]
        exact (hf c (by simpa using hc)).2
    · cases h
  · cases h
theorem gadr_ok {T : TypeId} {sz : Nat} {arr : Option Nat} {x : Operand} {i : AV} {ui : Value} {C : Prop} {v : AV} (a : Act) (h : gadrA sz arr x i = some (C, v)) (hC : C) (hz : Cz w K β s) (hi : R w K β s.length i ui)
    {el : TypeId} {n : Nat} (hs : sizeT P el = some sz) (hu : P.underlying T = some (.array n el)) (hn : arr = some n) : Gives P w K β s.length v (Instr.indexAt T (a.eval x) ui) := by
  unfold gadrA at h
  split at h
  · rename_i g m k z h1
    rw [R_asI hi h1]
    cases hn
    split at h
    · rename_i rows ht
      split at h
      · rename_i hc
        obtain ⟨rfl, hc⟩ := hc
        simp only [Option.some.injEq, Prod.mk.injEq] at h; obtain ⟨rfl, rfl⟩ := h
        unfold tabR at ht
        obtain ⟨⟨g', vs⟩, hf, rfl⟩ := Option.map_eq_some_iff.1 ht
        have hg : g' = g := by simpa using List.find?_some hf
        subst hg
        have hr := hz.gl _ (List.mem_of_find?_eq_some hf)
        obtain ⟨c1, c2⟩ := hC
        have c3 : z.toNat < (vs.map fun v => [D.v v]).length := by simp only [List.length_map] at hc ⊢; omega
        refine ⟨_, ?_, by simp only [R]; exact ⟨_, rfl, hr, c3⟩⟩
        simp [Act.eval, Instr.indexAt, asIntOf, run_underlying hu, Instr.sureAddr, run_sizeOf hs, c1, c2, add_addr]
      · cases h
    · cases h
  · cases h
theorem iaddr_ok {T : TypeId} {sz : Nat} {arr : Option Nat} {x i : AV} {ux ui : Value} {C : Prop} {v : AV} (h : iaddrA s sz arr x i = some (C, v)) (hC : C) (hz : Cz w K β s) (hx : R w K β s.length x ux) (hi : R w K β s.length i ui)
    {el : TypeId} (hs : sizeT P el = some sz) (hu : P.underlying T = some (match arr with | some n => .array n el | none => .slice el)) : Gives P w K β s.length v (Instr.indexAt T ux ui) := by
  unfold iaddrA at h
  split at h
  · rename_i k z h1
    rw [R_asI hi h1]
    split at h
    · rename_i n
      simp only [] at hu
      split at h
      · rename_i id j off
        simp only [Option.some.injEq, Prod.mk.injEq] at h; obtain ⟨rfl, rfl⟩ := h
        simp only [R] at hx
        obtain ⟨hid, rfl⟩ := hx
        refine ⟨_, ?_, by simp only [R]; exact ⟨hid, rfl⟩⟩
        simp [Instr.indexAt, asIntOf, run_underlying hu, Instr.sureAddr, run_sizeOf hs, hC.1, hC.2, add_addr, Nat.add_assoc]
      · cases h
    · simp only [] at hu
      have lst : ∀ {a : Option Addr} {cap k : Nat} {rows : List (List D)}, (rows.length = 0 ∨ ∃ x, a = some x ∧ RRows w K k rows x) → 0 ≤ z → z < rows.length → k = sz →
          Gives P w K β s.length (.elm k rows z.toNat 0) (Instr.indexAt T (.slice a rows.length cap) (.int ‹IntKind› z)) := by
        intro a cap k rows hr h0 h1 hk
        rcases hr with hr | ⟨x, rfl, hr⟩
        · omega
        · subst hk
          refine ⟨_, ?_, by simp only [R]; exact ⟨x, rfl, hr, by omega⟩⟩
          simp [Instr.indexAt, asIntOf, run_underlying hu, run_sizeOf hs, h0, h1]
      split at h
      · simp only [Option.some.injEq, Prod.mk.injEq] at h; obtain ⟨rfl, rfl⟩ := h
        simp only [R, RD] at hx
        obtain ⟨a, cap, rfl, _, hr⟩ := hx
        exact lst hr hC.1 hC.2.1 hC.2.2
      · simp only [Option.some.injEq, Prod.mk.injEq] at h; obtain ⟨rfl, rfl⟩ := h
        simp only [R] at hx
        obtain ⟨a, rfl, hr⟩ := hx
        exact lst hr hC.1 hC.2.1 hC.2.2
      · rename_i id off len _
        split at h
        · rename_i T' k' l hc
          split at h
          · rename_i hk
            simp only [Option.some.injEq, Prod.mk.injEq] at h; obtain ⟨rfl, rfl⟩ := h
            simp only [R] at hx
            obtain ⟨hid, x, c, rfl, h2, h3, h4⟩ := hx
            have := h4 (by omega)
            subst this
            have hkk : (β id).k = sz := by obtain ⟨_, _, _, _, _, _, _, h5, _⟩ := hz.cells (cellsOf_some hc); exact h5.trans hk
            refine ⟨_, ?_, by simp only [R]; exact ⟨hid, rfl⟩⟩
            simp [Instr.indexAt, asIntOf, run_underlying hu, run_sizeOf hs, hC.1, hC.2, add_addr, Nat.add_assoc, hkk, Nat.add_mul]
          · cases h
        · cases h
      · rename_i id j off len
        simp only [Option.some.injEq, Prod.mk.injEq] at h; obtain ⟨rfl, rfl⟩ := h
        simp only [R] at hx
        obtain ⟨hid, rfl⟩ := hx
        refine ⟨_, ?_, by simp only [R]; exact ⟨hid, rfl⟩⟩
        simp [Instr.indexAt, asIntOf, run_underlying hu, run_sizeOf hs, hC.1, hC.2, add_addr, Nat.add_assoc]
      · simp only [Option.some.injEq, Prod.mk.injEq] at h; obtain ⟨rfl, rfl⟩ := h
        simp only [R] at hx
        obtain ⟨a, rfl, hle, hr⟩ := hx
        obtain ⟨h0, h1, h2, hk⟩ := hC
        rcases hr with hr | ⟨x, rfl, hr⟩
        · omega
        · subst hk
          refine ⟨_, ?_, by simp only [R]; exact ⟨x, rfl, hr, by omega⟩⟩
          simp [Instr.indexAt, asIntOf, run_underlying hu, run_sizeOf hs, h0, h1]
      · cases h
  · cases h
theorem idx_ok {T el : TypeId} {sz m : Nat} {rd : Option Nat} {x i : AV} {ux ui : Value} {C : Prop} {v : AV} {n : Nat} (h : idxA sz rd m x i = some (C, v)) (hC : C) (hx : R w K β n x ux) (hi : R w K β n i ui)
    (hs : sizeT P el = some sz) (hr : rdT P el = some rd) (hu : P.underlying T = some (.array m el)) : Gives P w K β n v (Instr.index T ux ui) := by
  unfold idxA at h
  split at h
  · rename_i k z l h1
    rw [R_asI hi h1]
    simp only [R] at hx
    obtain ⟨us, rfl, hl⟩ := hx
    split at h
    · rename_i m'
      simp only [Option.some.injEq, Prod.mk.injEq] at h; obtain ⟨rfl, rfl⟩ := h
      obtain ⟨u, e, r⟩ := run_part hr hl (off := z.toNat * sz) (by simp only [cut]; rw [if_pos hC.2.2]) w
      exact ⟨u, by simp [Instr.index, asIntOf, run_underlying hu, hC.1, hC.2.1, run_sizeOf hs, e], r⟩
    · simp only [Option.some.injEq, Prod.mk.injEq] at h; obtain ⟨rfl, rfl⟩ := h
      obtain ⟨u, e, r⟩ := run_part hr hl (off := z.toNat * sz) (v := l.getD (z.toNat * sz) default) (by simp only [cut]; exact getD_lt hC.2.2) w
      exact ⟨u, by simp [Instr.index, asIntOf, run_underlying hu, hC.1, hC.2.1, run_sizeOf hs, e], r⟩
  · cases h
theorem sidx_ok {T : TypeId} {x i : AV} {ux ui : Value} {C : Prop} {v : AV} {n : Nat} (h : sidxA x i = some (C, v)) (hC : C) (hx : R w K β n x ux) (hi : R w K β n i ui)
    (hu : P.underlying T = some .string) : Gives P w K β n v (Instr.index T ux ui) := by
  unfold sidxA at h
  split at h
  · rename_i b k z h1 h2
    simp only [Option.some.injEq, Prod.mk.injEq] at h; obtain ⟨rfl, rfl⟩ := h
    rw [R_asI hi h2, R_asS hx h1]
    refine ⟨_, ?_, R_int _ _⟩
    have hlt : z.toNat < b.size := by omega
    have hg : b[z.toNat]? = some (b.data.toList.getD z.toNat 0) := by
      have hlt' : z.toNat < b.data.size := hlt
      simp [getElem?_pos, hlt, ByteArray.getElem_eq_getElem_data, hlt']
    simp [Instr.index, asIntOf, run_underlying hu, hC.1, hg]
  · cases h
theorem len_ok {T ty el : TypeId} {x : AV} {ux : Value} {C : Prop} {v : AV} {n : Nat} (h : lenA x = some (C, v)) (hx : R w K β n x ux) (hu : P.underlying T = some (.slice el)) :
    Gives P w K β n v (Builtin.len_ #[T] ty #[ux]) := by
  have sl : ∀ a (m c : Nat), Gives P w K β n (AI .i64 m) (Builtin.len_ #[T] ty #[.slice a m c]) := fun a m c =>
    ⟨_, by simp [Builtin.len_, run_underlying hu, goInt], R_int _ _⟩
  unfold lenA at h
  split at h
  · simp only [Option.some.injEq, Prod.mk.injEq] at h; obtain ⟨rfl, rfl⟩ := h
    simp only [R, RD] at hx; obtain ⟨a, cap, rfl, _⟩ := hx; exact sl _ _ _
  · simp only [Option.some.injEq, Prod.mk.injEq] at h; obtain ⟨rfl, rfl⟩ := h
    simp only [R] at hx; obtain ⟨a, rfl, _⟩ := hx; exact sl _ _ _
  · simp only [Option.some.injEq, Prod.mk.injEq] at h; obtain ⟨rfl, rfl⟩ := h
    simp only [R] at hx; obtain ⟨_, a, c, rfl, _⟩ := hx; exact sl _ _ _
  · simp only [Option.some.injEq, Prod.mk.injEq] at h; obtain ⟨rfl, rfl⟩ := h
    simp only [R] at hx; obtain ⟨_, rfl⟩ := hx; exact sl _ _ _
  · simp only [Option.some.injEq, Prod.mk.injEq] at h; obtain ⟨rfl, rfl⟩ := h
    simp only [R] at hx; obtain ⟨a, rfl, _⟩ := hx; exact sl _ _ _
  · cases h
theorem lens_ok {T ty : TypeId} {x : AV} {ux : Value} {C : Prop} {v : AV} {n : Nat} (h : lensA x = some (C, v)) (hx : R w K β n x ux) (hu : P.underlying T = some .string) :
    Gives P w K β n v (Builtin.len_ #[T] ty #[ux]) := by
  unfold lensA at h
  split at h
  · rename_i b hb
    simp only [Option.some.injEq, Prod.mk.injEq] at h; obtain ⟨rfl, rfl⟩ := h
    rw [R_asS hx hb]
    exact ⟨_, by simp [Builtin.len_, run_underlying hu, goInt], R_int _ _⟩
  · cases h
theorem mmL_ok {mx : Bool} {g : Value → Value → Sem Value} {n : Nat} (hg : ∀ k a b w, (g (.int k a) (.int k b)).run P w = .ok (.int k (mmF mx a b)) w) : ∀ (l : List AV) (us : List Value) (k : IntKind) (acc z : Int),
    mmL mx k acc l = some z → RL w K β n l us → (us.foldlM g (.int k acc)).run P w = .ok (.int k z) w
  | [], us, k, acc, z, h, hr => by
    simp only [mmL, Option.some.injEq] at h; subst h
    simp only [RL] at hr; subst hr; simp
  | x :: l, us, k, acc, z, h, hr => by
    simp only [mmL] at h
    split at h
    · rename_i j b h1
      split at h
      · rename_i hk
        subst hk
        simp only [RL] at hr
        obtain ⟨u, us', rfl, hu, hr⟩ := hr
        rw [R_asI hu h1]
        simp only [List.foldlM_cons, Sem.run_bind, hg, Result.andThen_ok, mmL_ok hg l us' j _ z h hr]
      · cases h
    · cases h
theorem mm_ok {mx : Bool} {l : List AV} {us : List Value} {C : Prop} {v : AV} {n : Nat} (h : mmA mx l = some (C, v)) (hr : RL w K β n l us) (ts : Array TypeId) (ty : TypeId) (vs : Array Value) (hv : vs.toList = us) :
    Gives P w K β n v (if mx then Builtin.max_ ts ty vs else Builtin.min_ ts ty vs) := by
  cases l with
  | nil => cases h
  | cons x l =>
    simp only [mmA] at h
    split at h
    · rename_i k a h1
      split at h
      · rename_i z h2
        simp only [Option.some.injEq, Prod.mk.injEq] at h; obtain ⟨rfl, rfl⟩ := h
        simp only [RL] at hr
        obtain ⟨u, us', rfl, hu, hr⟩ := hr
        refine ⟨_, ?_, R_int _ _⟩
        rw [R_asI hu h1] at hv
        cases mx with
        | true =>
          have := mmL_ok (P := P) (g := Builtin.max2) (mx := true) (fun k a b w => by
            have e : mmF true a b = if a < b then b else a := by simp only [mmF, if_true]; split <;> omega
            rw [e]; simp [Builtin.max2]) l us' k a z h2 hr
          simp only [if_true, Builtin.max_, hv]
          exact this
        | false =>
          have := mmL_ok (P := P) (g := Builtin.min2) (mx := false) (fun k a b w => by
            have e : mmF false a b = if b < a then b else a := by simp only [mmF, Bool.false_eq_true, if_false]; split <;> omega
            rw [e]; simp [Builtin.min2]) l us' k a z h2 hr
          simp only [Bool.false_eq_true, if_false, Builtin.min_, hv]
          exact this
      · cases h
    · cases h
end
end Go.Proofs.YtipanehdmhachaaGreatDoor.H

set_option linter.unusedSimpArgs false
set_option linter.unusedVariables false
set_option linter.unusedSectionVars false
namespace Go.Proofs.YtipanehdmhachaaGreatDoor.H
variable [DR]
section
variable {P : Program} {w : World} {K : Nat → Prop} {β : Nat → Loc} {s : St}
/-- The values of an operation's operands that may be missing. -/
def OI (lo : Option Value) (l : Option Int) : Prop := (lo = none ∧ l = none) ∨ ∃ k z, lo = some (.int k z) ∧ l = some z
theorem optI_ok {n : Nat} {T : Tm} {a : Act} (hT : RT w K β n T a) {lo : Option Operand} {l : Option Int} (h : optI T lo = some l) : OI (lo.map a.eval) l := by
  cases lo with
  | none => simp only [optI, Option.some.injEq] at h; subst h; exact .inl ⟨rfl, rfl⟩
  | some x =>
    simp only [optI] at h
    split at h
    · rename_i v hv
      split at h
      · rename_i k z hz
        simp only [Option.some.injEq] at h; subst h
        exact .inr ⟨k, z, by simp [R_asI (opd_ok hT hv) hz], rfl⟩
      · cases h
    · cases h
theorem run_bounds {lo hi : Option Value} {l h : Option Int} (hl : OI lo l) (hh : OI hi h) (b : Bool) (n c : Nat) (h0 : 0 ≤ l.getD 0) (h1 : l.getD 0 ≤ h.getD n) (h2 : h.getD n ≤ c) (hn : n ≤ c) :
    (Instr.sliceBounds b n c lo hi none).run P w = .ok ((l.getD 0).toNat, (h.getD n).toNat, c) w := by
  have bd := fun (k : IntKind) (z : Int) (y : Nat) (code : BoundsCode) (g0 : 0 ≤ z) (g1 : z ≤ y) => run_sliceBound (P := P) w k z y code g0 g1
  rcases hh with ⟨rfl, rfl⟩ | ⟨k', zh, rfl, rfl⟩
  · simp only [Option.getD_none] at h1 h2 ⊢
    rcases hl with ⟨rfl, rfl⟩ | ⟨k, z, rfl, rfl⟩
    · simp [Instr.sliceBounds]
    · simp only [Option.getD_some] at h0 h1 ⊢
      simp [Instr.sliceBounds, bd k z n _ h0 h1]
  · simp only [Option.getD_some] at h1 h2 ⊢
    rcases hl with ⟨rfl, rfl⟩ | ⟨k, z, rfl, rfl⟩
    · simp only [Option.getD_none] at h1
      simp [Instr.sliceBounds, bd k' zh c _ h1 h2]
    · simp only [Option.getD_some] at h0 h1 ⊢
      simp [Instr.sliceBounds, bd k' zh c _ (by omega) h2, bd k z zh.toNat _ h0 (by omega)]
theorem run_bounds3 {lo : Option Value} {l : Option Int} {k k' : IntKind} (hl : OI lo l) (n c : Nat) (h0 : 0 = l.getD 0) :
    (Instr.sliceBounds true n c lo (some (.int k 0)) (some (.int k' 0))).run P w = .ok (0, 0, 0) w := by
  have bd := fun (k : IntKind) (y : Nat) (code : BoundsCode) => run_sliceBound (P := P) w k 0 y code (by omega) (by omega)
  rcases hl with ⟨rfl, rfl⟩ | ⟨k, z, rfl, rfl⟩
  · simp [Instr.sliceBounds, bd]
  · simp only [Option.getD_some] at h0; subst h0
    simp [Instr.sliceBounds, bd]
theorem slc_ok {T el : TypeId} {sz : Nat} {x : AV} {ux : Value} {lo hi mx : Option Value} {l h m : Option Int} {C : Prop} {v : AV} (he : slcA s sz x l h m = some (C, v)) (hC : C) (hz : Cz w K β s) (hx : R w K β s.length x ux)
    (hl : OI lo l) (hh : OI hi h) (hm : OI mx m) (hs : sizeT P el = some sz) (hu : P.underlying T = some (.slice el)) : Gives P w K β s.length v (Instr.sliceAt T ux lo hi mx) := by
  unfold slcA at he
  split at he
  · obtain rfl : mx = none := by
      rcases hm with ⟨h, _⟩ | ⟨_, _, _, h⟩
      · exact h
      · cases h
    -- a list that is pure
    have lst : ∀ (a : Option Addr) (cap k : Nat) (rows : List (List D)) (H : Int), H = h.getD rows.length → rows.length ≤ cap → (rows.length = 0 ∨ ∃ x, a = some x ∧ RRows w K k rows x) →
        0 ≤ l.getD 0 → l.getD 0 ≤ H → H ≤ rows.length → (k = sz ∨ rows = []) →
        ∃ a', (Instr.sliceAt T (.slice a rows.length cap) lo hi none).run P w = .ok (.slice a' (H.toNat - (l.getD 0).toNat) (cap - (l.getD 0).toNat)) w ∧
          (H.toNat - (l.getD 0).toNat = 0 ∨ ∃ x, a' = some x ∧ RRows w K k ((rows.drop (l.getD 0).toNat).take (H.toNat - (l.getD 0).toNat)) x) := by
      intro a cap k rows H hH hcap hr h0 h1 h2 hk
      subst hH
      have hb := run_bounds (P := P) (w := w) hl hh true rows.length cap h0 h1 (by omega) hcap
      refine ⟨if cap = (l.getD 0).toNat then a else a.map (·.add ((l.getD 0).toNat * sz)), ?_, ?_⟩
      · simp only [Instr.sliceAt, Sem.run_bind, run_underlying hu, Result.andThen_ok, Instr.slice, hb, run_sizeOf hs, Sem.run_pure]
      · by_cases h9 : (h.getD rows.length).toNat - (l.getD 0).toNat = 0
        · exact .inl h9
        · right
          have hne : rows.length ≠ 0 := by omega
          rcases hr with hr | ⟨x, rfl, hr⟩
          · exact absurd hr hne
          · rw [if_neg (by omega)]
            have hk : k = sz := by
              rcases hk with hk | hk
              · exact hk
              · subst hk; simp at hne
            subst hk
            exact ⟨_, rfl, RRows_take (RRows_drop hr _) _⟩
    split at he
    · rename_i id off len
      split at he
      · rename_i T' k' cs hc
        split at he
        · rename_i hk
          simp only [Option.some.injEq, Prod.mk.injEq] at he; obtain ⟨rfl, rfl⟩ := he
          simp only [R] at hx
          obtain ⟨hid, x, c, rfl, h2, h3, h4⟩ := hx
          have hkk : (β id).k = sz := by obtain ⟨_, _, _, _, _, _, _, h5, _⟩ := hz.cells (cellsOf_some hc); exact h5.trans hk
          have hb := run_bounds (P := P) (w := w) hl hh true len c hC.1 hC.2.1 (by omega) h2
          refine ⟨_, by simp only [Instr.sliceAt, Sem.run_bind, run_underlying hu, Result.andThen_ok, Instr.slice, hb, run_sizeOf hs, Sem.run_pure]; rfl, ?_⟩
          simp only [R]
          refine ⟨hid, if c = (l.getD 0).toNat then x else x.add ((l.getD 0).toNat * sz), c - (l.getD 0).toNat, ?_, ?_, ?_, ?_⟩
          · split <;> rfl
          · have := hC.2.2; omega
          · have : (l.getD 0).toNat ≤ c := by have := hC.2.2; omega
            omega
          · intro hpos
            rw [if_neg (by omega), h4 (by omega), add_addr, Nat.add_assoc, hkk, Nat.add_mul]
        · cases he
      · cases he
    · rename_i k rows
      simp only [Option.some.injEq, Prod.mk.injEq] at he; obtain ⟨rfl, rfl⟩ := he
      simp only [R, RD] at hx
      obtain ⟨a, cap, rfl, hcap, hr⟩ := hx
      obtain ⟨a', e1, e2⟩ := lst a cap k rows _ rfl hcap hr hC.1 hC.2.1 hC.2.2.1 hC.2.2.2
      have hlen : ((rows.drop (l.getD 0).toNat).take ((h.getD rows.length).toNat - (l.getD 0).toNat)).length = (h.getD rows.length).toNat - (l.getD 0).toNat := by
        simp only [List.length_take, List.length_drop]; have := hC.2.2.1; omega
      refine ⟨_, e1, ?_⟩
      simp only [R, RD]
      refine ⟨a', cap - (l.getD 0).toNat, by rw [hlen], by rw [hlen]; have := hC.2.2.1; omega, ?_⟩
      rw [hlen]; exact e2
    · rename_i k rows
      simp only [R] at hx
      obtain ⟨a, rfl, hr⟩ := hx
      split at he
      · simp only [Option.some.injEq, Prod.mk.injEq] at he; obtain ⟨rfl, rfl⟩ := he
        obtain ⟨a', e1, e2⟩ := lst a rows.length k rows rows.length (by simp) (Nat.le_refl _) hr hC.1 hC.2.1 (Int.le_refl _) hC.2.2
        refine ⟨_, e1, ?_⟩
        simp only [R]
        refine ⟨a', by simp, ?_⟩
        simp only [List.length_drop]
        rcases e2 with e2 | ⟨x, e2, e3⟩
        · left; simpa using e2
        · right
          refine ⟨x, e2, ?_⟩
          have : List.take ((rows.length : Int).toNat - (l.getD 0).toNat) (List.drop (l.getD 0).toNat rows) = List.drop (l.getD 0).toNat rows := by
            apply List.take_of_length_le; simp
          rw [this] at e3; exact e3
      · rename_i hv
        split at he
        · simp only [Option.some.injEq, Prod.mk.injEq] at he; obtain ⟨rfl, rfl⟩ := he
          obtain ⟨a', e1, e2⟩ := lst a 0 k [] hv rfl (Nat.le_refl _) (.inl rfl) hC.1 hC.2.1 (by simpa using hC.2.2) (.inr rfl)
          have h9 : hv.toNat - (l.getD 0).toNat = 0 := by have := hC.2.2; omega
          refine ⟨_, e1, ?_⟩
          simp only [R]
          exact ⟨a', by simp only [h9, Nat.zero_sub, List.length_nil], .inl rfl⟩
        · rename_i r rows
          obtain hln | ⟨lv, hlv⟩ : l = none ∨ ∃ lv, l = some lv := by
            cases l
            · exact .inl rfl
            · exact .inr ⟨_, rfl⟩
          · subst hln
            dsimp only at he
            simp only [Option.some.injEq, Prod.mk.injEq] at he; obtain ⟨rfl, rfl⟩ := he
            have hb := run_bounds (P := P) (w := w) hl hh true (r :: rows).length (r :: rows).length (Int.le_refl _) (by simpa using hC.1) (by simpa using hC.2.1) (Nat.le_refl _)
            refine ⟨_, by simp only [Instr.sliceAt, Sem.run_bind, run_underlying hu, Result.andThen_ok, Instr.slice, hb, run_sizeOf hs, Sem.run_pure]; rfl, ?_⟩
            simp only [R]
            refine ⟨_, rfl, by have := hC.2.1; omega, ?_⟩
            rcases hr with hr | ⟨x, rfl, hr⟩
            · simp at hr
            · right
              refine ⟨x, ?_, hr⟩
              simp [add_zero]
          rw [hlv] at he
          dsimp only at he
          rw [← hlv] at he
          simp only [Option.some.injEq, Prod.mk.injEq] at he; obtain ⟨rfl, rfl⟩ := he
          obtain ⟨a', e1, e2⟩ := lst a (r :: rows).length k (r :: rows) hv rfl (Nat.le_refl _) hr hC.1 hC.2.1 hC.2.2.1 (.inl hC.2.2.2)
          have hlen : (((r :: rows).drop (l.getD 0).toNat).take (hv.toNat - (l.getD 0).toNat)).length = hv.toNat - (l.getD 0).toNat := by
            rw [List.length_take, List.length_drop]; have := hC.2.2.1; omega
          refine ⟨_, e1, ?_⟩
          simp only [R, RD]
          refine ⟨a', (r :: rows).length - (l.getD 0).toNat, by rw [hlen], by rw [hlen]; have := hC.2.2.1; omega, ?_⟩
          rw [hlen]; exact e2
    · cases he
  · rename_i m'
    obtain ⟨k3, rfl⟩ : ∃ k3, mx = some (.int k3 m') := by
      rcases hm with ⟨_, h⟩ | ⟨k, z, h1, h2⟩
      · cases h
      · simp only [Option.some.injEq] at h2; subst h2; exact ⟨k, h1⟩
    have go : ∀ (a : Option Addr) (len cap : Nat), 0 = l.getD 0 → m' = 0 → h = some 0 → Gives P w K β s.length (.ful sz []) (Instr.sliceAt T (.slice a len cap) lo hi (some (.int k3 m'))) := by
      intro a len cap h0 h1 h2
      subst h1 h2
      obtain ⟨k4, rfl⟩ : ∃ k4, hi = some (.int k4 0) := by
        rcases hh with ⟨_, h⟩ | ⟨k, z, h1, h2⟩
        · cases h
        · simp only [Option.some.injEq] at h2; subst h2; exact ⟨k, h1⟩
      refine ⟨_, by simp only [Instr.sliceAt, Sem.run_bind, run_underlying hu, Result.andThen_ok, Instr.slice, run_bounds3 (P := P) (w := w) hl len cap h0, run_sizeOf hs, Sem.run_pure]; rfl, ?_⟩
      simp only [R]
      exact ⟨a, by simp, .inl rfl⟩
    split at he
    · simp only [Option.some.injEq, Prod.mk.injEq] at he; obtain ⟨rfl, rfl⟩ := he
      simp only [R] at hx
      obtain ⟨_, a, c, rfl, _⟩ := hx
      exact go _ _ _ hC.1 hC.2.1 hC.2.2
    · simp only [Option.some.injEq, Prod.mk.injEq] at he; obtain ⟨rfl, rfl⟩ := he
      simp only [R, RD] at hx
      obtain ⟨a, c, rfl, _⟩ := hx
      exact go _ _ _ hC.1 hC.2.1 hC.2.2
    · simp only [Option.some.injEq, Prod.mk.injEq] at he; obtain ⟨rfl, rfl⟩ := he
      simp only [R] at hx
      obtain ⟨a, rfl, _⟩ := hx
      exact go _ _ _ hC.1 hC.2.1 hC.2.2
    · cases he
theorem slcs_ok {T : TypeId} {x : AV} {ux : Value} {lo hi : Option Value} {l h : Option Int} {C : Prop} {v : AV} {n : Nat} (he : slcsA x l h = some (C, v)) (hC : C) (hx : R w K β n x ux)
    (hl : OI lo l) (hh : OI hi h) (hu : P.underlying T = some .string) : Gives P w K β n v (Instr.sliceAt T ux lo hi none) := by
  unfold slcsA at he
  split at he
  · rename_i b hb
    simp only [Option.some.injEq, Prod.mk.injEq] at he; obtain ⟨rfl, rfl⟩ := he
    rw [R_asS hx hb]
    have hbd := run_bounds (P := P) (w := w) hl hh false b.size b.size hC.1 hC.2.1 hC.2.2 (Nat.le_refl _)
    refine ⟨_, ?_, R_str _⟩
    simp only [Instr.sliceAt, Sem.run_bind, run_underlying hu, Result.andThen_ok, Instr.slice, Option.isSome_none, Bool.false_eq_true, if_false, hbd, Sem.run_pure]
  · cases he
theorem opdL_arr {n : Nat} {T : Tm} {a : Act} (hT : RT w K β n T a) {x : Array Operand} {l : List AV} (h : opdL T x.toList = some l) : ∃ us, (x.map a.eval) = us.toArray ∧ RL w K β n l us :=
  ⟨x.toList.map a.eval, by apply Array.ext'; simp, opdL_ok hT h⟩
/-- The law of all of them. -/
theorem bytesA_get : ∀ {l : List AV} {bs : List UInt8}, bytesA l = some bs → l.length = bs.length ∧ ∀ (j : Nat) (h : j < bs.length), l[j]? = some (.d (.v (.int .u8 (bs[j].toNat : Int))))
  | [], bs, h => by simp only [bytesA, Option.some.injEq] at h; subst h; exact ⟨rfl, fun j h => by simp at h⟩
  | v :: l, bs, h => by
    simp only [bytesA] at h
    split at h
    · rename_i b r hb hr
      simp only [Option.some.injEq] at h; subst h
      obtain ⟨q1, q2⟩ := bytesA_get hr
      refine ⟨by simp [q1], fun j hj => ?_⟩
      cases j with
      | zero =>
        unfold byteA at hb
        split at hb
        · rename_i z
          split at hb
          · rename_i hz
            simp only [Option.some.injEq] at hb; subst hb
            have h1 : (UInt8.ofNat z.toNat).toNat = z.toNat % 2 ^ 8 := UInt8.toNat_ofNat' ..
            have h2 : (((UInt8.ofNat z.toNat).toNat : Nat) : Int) = z := by rw [h1]; omega
            simp only [List.getElem?_cons_zero, List.getElem_cons_zero, h2]
          · cases hb
        · cases hb
      | succ j =>
        have := q2 j (by simpa using hj)
        simpa using this
    · cases h
theorem strB_some {o : Option (List UInt8)} {v : AV} (h : strB o = some v) : ∃ bs, o = some bs ∧ bs ≠ [] ∧ v = .d (.v (.string ⟨bs.toArray⟩)) := by
  unfold strB at h
  split at h
  · simp only [Option.some.injEq] at h; exact ⟨_, rfl, by simp, h.symm⟩
  · cases h
theorem RRows_flat {rows : List (List D)} {a : Addr} : RRows w K 1 rows a → rows.flatten.length = rows.length ∧ ∀ (j : Nat) x, rows.flatten[j]? = some x → ∃ u, w.cell? (a.add j) = some u ∧ RD w K x u := by
  induction rows generalizing a with
  | nil => intro _; exact ⟨rfl, fun j x h => by simp at h⟩
  | cons r rows ih =>
    intro h
    simp only [RRows] at h
    obtain ⟨h1, h2, h3⟩ := h
    obtain ⟨q1, q2⟩ := ih h3
    match r, h1 with
    | [y], _ =>
      simp only [RCells] at h2
      refine ⟨by simp [q1], fun j x hx => ?_⟩
      cases j with
      | zero =>
        simp at hx; subst hx
        rw [add_zero]; exact h2.2.1
      | succ j =>
        have := q2 j x (by simpa using hx)
        rw [Addr_add_add] at this
        rwa [Nat.add_comm 1 j] at this
theorem b2s_ok {src dst e : TypeId} {x : AV} {ux : Value} {C : Prop} {v : AV} (h : b2sA s x = some (C, v)) (hC : C) (hz : Cz w K β s) (hx : R w K β s.length x ux) (h1 : P.underlying src = some (.slice e)) (h2 : P.underlying dst = some .string) (h3 : P.underlying e = some (.int .u8)) :
    Gives P w K β s.length v (convert src dst ux) := by
  have key : ∀ {a : Addr} {c : Nat} {bs : List UInt8}, ux = .slice (some a) bs.length c → (∀ j (hj : j < bs.length), w.cell? (a.add j) = some (.int .u8 (bs[j].toNat : Int))) → v = .d (.v (.string ⟨bs.toArray⟩)) → Gives P w K β s.length v (convert src dst ux) := by
    intro a c bs hu hc hv
    subst hv
    refine ⟨_, ?_, by simp only [R, RD]; exact ⟨rfl, rfl⟩⟩
    rw [hu]
    exact run_convert_bytes_back (P := P) w src dst e a c bs h1 h3 h2 hc
  have lst : ∀ {rows : List (List D)} {a : Option Addr} {c : Nat} {bs : List UInt8}, bytesA (rows.flatten.map .d) = some bs → bs ≠ [] → ux = .slice a rows.length c → (rows.length = 0 ∨ ∃ x, a = some x ∧ RRows w K 1 rows x) → v = .d (.v (.string ⟨bs.toArray⟩)) → Gives P w K β s.length v (convert src dst ux) := by
    intro rows a c bs hb hne hu hr hv
    obtain ⟨q1, q2⟩ := bytesA_get hb
    rw [List.length_map] at q1
    have hb0 : 0 < bs.length := List.length_pos_iff.2 hne
    rcases hr with hr | ⟨y, rfl, hr⟩
    · have : rows = [] := List.length_eq_zero_iff.1 hr
      subst this
      simp at q1; omega
    · obtain ⟨g1, g2⟩ := RRows_flat hr
      refine key (by rw [hu, ← g1, q1]) (fun j hj => ?_) hv
      have h4 := q2 j hj
      rw [List.getElem?_map, Option.map_eq_some_iff] at h4
      obtain ⟨dd, h5, h6⟩ := h4
      simp only [AV.d.injEq] at h6; subst h6
      obtain ⟨u, h7, h8⟩ := g2 j _ h5
      simp only [RD] at h8
      rw [h7, h8.1]
  unfold b2sA at h
  split at h
  · split at h
    · rename_i hk; subst hk
      rw [Option.map_eq_some_iff] at h
      obtain ⟨v', h5, h6⟩ := h
      simp only [Prod.mk.injEq] at h6; obtain ⟨rfl, rfl⟩ := h6
      obtain ⟨bs, hb, hne, hv⟩ := strB_some h5
      simp only [R, RD] at hx
      obtain ⟨a, c, hu, _, hr⟩ := hx
      exact lst hb hne hu hr hv
    · cases h
  · split at h
    · rename_i hk; subst hk
      rw [Option.map_eq_some_iff] at h
      obtain ⟨v', h5, h6⟩ := h
      simp only [Prod.mk.injEq] at h6; obtain ⟨rfl, rfl⟩ := h6
      obtain ⟨bs, hb, hne, hv⟩ := strB_some h5
      simp only [R] at hx
      obtain ⟨a, hu, hr⟩ := hx
      exact lst hb hne hu hr hv
    · cases h
  · rename_i id off len
    split at h
    · rename_i T k rows hc
      split at h
      · rename_i hk; subst hk
        rw [Option.map_eq_some_iff] at h
        obtain ⟨v', h5, h6⟩ := h
        simp only [Prod.mk.injEq] at h6; obtain ⟨rfl, rfl⟩ := h6
        obtain ⟨bs, hb, hne, hv⟩ := strB_some h5
        obtain ⟨q1, q2⟩ := bytesA_get hb
        have hlen : len = bs.length := by rw [List.length_take, List.length_drop] at q1; omega
        have hb0 : 0 < bs.length := List.length_pos_iff.2 hne
        simp only [R] at hx
        obtain ⟨hid, y, c, rfl, g2, g3, g4⟩ := hx
        obtain ⟨pre, us, post, e1, e2, e3, e4, e5, e6, e7⟩ := hz.cells (cellsOf_some hc)
        have := g4 (by omega)
        subst this
        refine key (by rw [hlen]) (fun j hj => ?_) hv
        have h7 := q2 j hj
        rw [List.getElem?_take, if_pos (by omega), List.getElem?_drop] at h7
        obtain ⟨u, h8, h9⟩ := RL_get e3 h7
        simp only [R, RD] at h9
        rw [add_addr]
        unfold World.cell?
        simp only [e1, Option.isSome_none, Bool.false_eq_true, if_false, List.getElem?_toArray]
        rw [e5, Nat.mul_one, List.append_assoc, List.getElem?_append_right (by omega), List.getElem?_append_left (by have := (List.getElem?_eq_some_iff.1 h8).1; omega), show (β id).base + off + j - pre.length = off + j by omega, h8, h9.1]
      · cases h
    · cases h
  · cases h
theorem evF_ok {o : Op} {c : FO} (hc : cop P o = some c) {T : Tm} {C : Prop} {v : AV} (he : evF s T c = some (C, v)) (hC : C) (hz : Cz w K β s) {a : Act} (hT : RT w K β s.length T a) (dst : Option Nat) (ty : TypeId) (pos : String) (aft : Array Edge) (grd : Option (Nat × Bool)) :
    ∃ u, (execOp a.eval { dst := dst, op := o, type := ty, pos := pos, after := aft, guard := grd }).run P w = .ok (.value u) w ∧ R w K β s.length v u := by
  have fin : ∀ {r : Sem Value}, Gives P w K β s.length v r → (execOp a.eval { dst := dst, op := o, type := ty, pos := pos, after := aft, guard := grd } = (do pure (.value (← r)))) →
      ∃ u, (execOp a.eval { dst := dst, op := o, type := ty, pos := pos, after := aft, guard := grd }).run P w = .ok (.value u) w ∧ R w K β s.length v u := by
    intro r hr he
    obtain ⟨u, e1, e2⟩ := hr
    exact ⟨u, by rw [he]; simp only [Sem.run_bind, e1, Result.andThen_ok, Sem.run_pure], e2⟩
  have pu : ∀ {u : Value}, R w K β s.length v u → Gives P w K β s.length v (pure u) := fun h => ⟨_, by simp, h⟩
  cases o with
  | move x =>
    simp only [cop, Option.some.injEq] at hc; subst hc
    simp only [evF] at he
    split at he
    · rename_i v' hv
      simp only [Option.some.injEq, Prod.mk.injEq] at he; obtain ⟨rfl, rfl⟩ := he
      exact fin (pu (opd_ok hT hv)) rfl
    · cases he
  | pick x y z =>
    simp only [cop, Option.some.injEq] at hc; subst hc
    simp only [evF] at he
    split at he
    · rename_i vc hvc
      have hr := opd_ok hT hvc
      split at he
      · rename_i hb
        rw [asB_some hb] at hr
        split at he
        · rename_i v' hv
          simp only [Option.some.injEq, Prod.mk.injEq] at he; obtain ⟨rfl, rfl⟩ := he
          refine fin (r := do pure (if ← asBool (a.eval x) then a.eval y else a.eval z)) ⟨a.eval y, ?_, opd_ok hT hv⟩ (by simp [execOp])
          rw [R_AB hr]; simp [asBool]
        · cases he
      · rename_i hb
        rw [asB_some hb] at hr
        split at he
        · rename_i v' hv
          simp only [Option.some.injEq, Prod.mk.injEq] at he; obtain ⟨rfl, rfl⟩ := he
          refine fin (r := do pure (if ← asBool (a.eval x) then a.eval y else a.eval z)) ⟨a.eval z, ?_, opd_ok hT hv⟩ (by simp [execOp])
          rw [R_AB hr]; simp [asBool]
        · cases he
      · cases he
    · cases he
  | binOp op ty' x y ty2 =>
    have f1 := fun h => fin (r := do eqGuard op ty' x y (a.eval x) (a.eval y); binOp op ty' (a.eval x) (a.eval y)) h rfl
    simp only [cop] at hc
    split at hc
    · rename_i k hu
      split at hc <;> simp only [Option.some.injEq] at hc <;> subst hc <;> simp only [evF] at he <;> split at he
      · rename_i va vb hva hvb
        exact f1 (shfA_ok he hC (opd_ok hT hva) (opd_ok hT hvb) ty' x y)
      · cases he
      · rename_i va vb hva hvb
        exact f1 (binA_ok he hC (opd_ok hT hva) (opd_ok hT hvb) ty' x y)
      · cases he
    · rename_i hu
      simp only [Option.some.injEq] at hc; subst hc; simp only [evF] at he; split at he
      · rename_i va vb hva hvb
        exact f1 (binbA_ok he (opd_ok hT hva) (opd_ok hT hvb) ty' hu x y)
      · cases he
    · rename_i hu
      simp only [Option.some.injEq] at hc; subst hc; simp only [evF] at he; split at he
      · rename_i va vb hva hvb
        exact f1 (binsA_ok he hC (opd_ok hT hva) (opd_ok hT hvb) ty' x y)
      · cases he
    · rename_i fs hu
      split at hc
      · cases hc
      · rename_i hg
        split at hc
        · rename_i sh hs
          simp only [Option.some.injEq] at hc; subst hc; simp only [evF] at he; split at he
          · rename_i va vb hva hvb
            exact f1 (eqlA_ok he (opd_ok hT hva) (opd_ok hT hvb) ty' hu (by simpa using hg) hs rfl x y)
          · cases he
        · rename_i sh hs
          simp only [Option.some.injEq] at hc; subst hc; simp only [evF] at he; split at he
          · rename_i va vb hva hvb
            exact f1 (eqlA_ok he (opd_ok hT hva) (opd_ok hT hvb) ty' hu (by simpa using hg) hs rfl x y)
          · cases he
        · cases hc
    · cases hc
  | unOp op ty' x =>
    simp only [cop, Option.some.injEq] at hc; subst hc; simp only [evF] at he; split at he
    · rename_i va hva
      exact fin (r := Op.unary op (a.eval x)) (unA_ok he (opd_ok hT hva)) rfl
    · cases he
  | convert src dst' x =>
    simp only [cop] at hc
    split at hc
    · rename_i k1 k2 h1 h2
      simp only [Option.some.injEq] at hc; subst hc; simp only [evF] at he; split at he
      · rename_i va hva
        exact fin (r := convert src dst' (a.eval x)) (convA_ok he (opd_ok hT hva) h1 h2) rfl
      · cases he
    · rename_i e h1 h2
      split at hc
      · rename_i h3
        simp only [Option.some.injEq] at hc; subst hc; simp only [evF] at he; split at he
        · rename_i va hva
          exact fin (r := convert src dst' (a.eval x)) (b2s_ok he hC hz (opd_ok hT hva) h1 h2 h3) rfl
        · cases he
      · cases hc
    · cases hc
  | nilCheck x =>
    simp only [cop, Option.some.injEq] at hc; subst hc; simp only [evF] at he; split at he
    · rename_i va hva
      have hr := opd_ok hT hva
      unfold nilcA at he
      split at he <;> simp only [Option.some.injEq, Prod.mk.injEq, reduceCtorEq] at he
      · obtain ⟨rfl, rfl⟩ := he
        have hr' := hr
        simp only [R] at hr'
        exact fin (r := pure (a.eval x)) (pu hr) (by simp [execOp, hr'.2])
      · obtain ⟨rfl, rfl⟩ := he
        have hr' := hr
        simp only [R] at hr'
        obtain ⟨_, hr', _⟩ := hr'
        exact fin (r := pure (a.eval x)) (pu hr) (by simp [execOp, hr'])
      · obtain ⟨rfl, rfl⟩ := he
        have hr' := hr
        simp only [R] at hr'
        obtain ⟨_, _, hr', _⟩ := hr'
        exact fin (r := pure (a.eval x)) (pu hr) (by simp [execOp, hr'])
    · cases he
  | field ty' x f =>
    simp only [cop] at hc
    split at hc
    · rename_i fs hu
      split at hc
      · rename_i fd hfd
        split at hc
        · rename_i r hr
          simp only [Option.some.injEq] at hc; subst hc; simp only [evF] at he; split at he
          · rename_i l hva
            split at he
            · rename_i v' hv
              simp only [Option.some.injEq, Prod.mk.injEq] at he; obtain ⟨rfl, rfl⟩ := he
              have hx := opd_ok hT hva
              simp only [R] at hx
              obtain ⟨us, hx, hl⟩ := hx
              obtain ⟨u, e1, e2⟩ := run_part (P := P) hr hl hv w
              exact fin (r := Instr.field ty' (a.eval x) f) ⟨u, by rw [hx]; simp [Instr.field, run_underlying hu, hfd, asAgg, e1], e2⟩ rfl
            · cases he
          · cases he
        · cases hc
      · cases hc
    · cases hc
  | extract x i =>
    simp only [cop, Option.some.injEq] at hc; subst hc; simp only [evF] at he; split at he
    · rename_i l hva
      split at he
      · rename_i v' hv
        simp only [Option.some.injEq, Prod.mk.injEq] at he; obtain ⟨rfl, rfl⟩ := he
        have hx := opd_ok hT hva
        simp only [R] at hx
        obtain ⟨us, hx, hl⟩ := hx
        obtain ⟨u, e1, e2⟩ := RL_get hl hv
        exact fin (r := Instr.extract (a.eval x) i) ⟨u, by rw [hx]; simp [Instr.extract, e1], e2⟩ rfl
      · cases he
    · cases he
  | build ty' ps =>
    simp only [cop] at hc
    split at hc
    · rename_i z g hz hg
      split at hc
      · rename_i qs hq
        simp only [Option.some.injEq] at hc; subst hc; simp only [evF] at he; split at he
        · rename_i rs hr
          split at he
          · rename_i cs hf
            simp only [Option.some.injEq, Prod.mk.injEq] at he; obtain ⟨rfl, rfl⟩ := he
            exact fin (build_ok hT hz hg hq hr hf) rfl
          · cases he
        · cases he
      · cases hc
    · cases hc
  | makeFunc f x y =>
    cases f with
    | func f =>
      simp only [cop, Option.some.injEq] at hc; subst hc; simp only [evF] at he; split at he
      · rename_i l r hl hr
        simp only [Option.some.injEq, Prod.mk.injEq] at he; obtain ⟨rfl, rfl⟩ := he
        obtain ⟨us, e1, e2⟩ := opdL_arr hT hl
        obtain ⟨vs, e3, e4⟩ := opdL_arr hT hr
        exact fin (r := Instr.makeFunc (.func f) (x.map a.eval) (y.map a.eval)) ⟨.func (.func f) us.toArray vs.toArray, by simp only [Instr.makeFunc, Sem.run_pure, e1, e3], by simp only [R]; exact ⟨us, vs, rfl, e2, e4⟩⟩ rfl
      · cases he
    | _ => simp [cop] at hc
  | fieldAddr ty' x f =>
    simp only [cop] at hc
    split at hc
    · rename_i fs hu
      split at hc
      · rename_i fd hfd
        split at hc
        · rename_i m hs
          simp only [Option.some.injEq] at hc; subst hc; simp only [evF] at he; split at he
          · rename_i id j o hva
            simp only [Option.some.injEq, Prod.mk.injEq] at he; obtain ⟨rfl, rfl⟩ := he
            have hx := opd_ok hT hva
            simp only [R] at hx
            refine fin (r := Instr.fieldAt ty' (a.eval x) f) ⟨_, ?_, by simp only [R]; exact ⟨hx.1, rfl⟩⟩ rfl
            rw [hx.2]
            simp [Instr.fieldAt, run_underlying hu, hfd, Instr.sureAddr, fieldPlace, run_sizeOf hs, add_addr, Nat.add_assoc]
          · rename_i k rows i o hva
            simp only [Option.some.injEq, Prod.mk.injEq] at he; obtain ⟨rfl, rfl⟩ := he
            have hx := opd_ok hT hva
            simp only [R] at hx
            obtain ⟨y, hx, h2, h3⟩ := hx
            refine fin (r := Instr.fieldAt ty' (a.eval x) f) ⟨_, ?_, by simp only [R]; exact ⟨y, rfl, h2, h3⟩⟩ rfl
            rw [hx]
            simp [Instr.fieldAt, run_underlying hu, hfd, Instr.sureAddr, fieldPlace, run_sizeOf hs, Addr_add_add, Nat.add_assoc]
          · cases he
        · cases hc
      · cases hc
    · cases hc
  | indexAddr ty' x i =>
    simp only [cop] at hc
    split at hc
    · rename_i el hu
      split at hc
      · rename_i sz hs
        simp only [Option.some.injEq] at hc; subst hc; simp only [evF] at he; split at he
        · rename_i va vb hva hvb
          exact fin (r := Instr.indexAt ty' (a.eval x) (a.eval i)) (iaddr_ok he hC hz (opd_ok hT hva) (opd_ok hT hvb) hs hu) rfl
        · simp only [gadrA] at he; cases he
        · cases he
      · cases hc
    · rename_i m el hu
      split at hc
      · rename_i sz hs
        simp only [Option.some.injEq] at hc; subst hc; simp only [evF] at he; split at he
        · rename_i va vb hva hvb
          exact fin (r := Instr.indexAt ty' (a.eval x) (a.eval i)) (iaddr_ok he hC hz (opd_ok hT hva) (opd_ok hT hvb) hs hu) rfl
        · rename_i vb _ hvb
          exact fin (r := Instr.indexAt ty' (a.eval x) (a.eval i)) (gadr_ok a he hC hz (opd_ok hT hvb) hs hu rfl) rfl
        · cases he
      · cases hc
    · cases hc
  | index ty' x i =>
    simp only [cop] at hc
    split at hc
    · rename_i m el hu
      split at hc
      · rename_i sz r hs hr
        simp only [Option.some.injEq] at hc; subst hc; simp only [evF] at he; split at he
        · rename_i va vb hva hvb
          exact fin (r := Instr.index ty' (a.eval x) (a.eval i)) (idx_ok he hC (opd_ok hT hva) (opd_ok hT hvb) hs hr hu) rfl
        · cases he
      · cases hc
    · rename_i hu
      simp only [Option.some.injEq] at hc; subst hc; simp only [evF] at he; split at he
      · rename_i va vb hva hvb
        exact fin (r := Instr.index ty' (a.eval x) (a.eval i)) (sidx_ok he hC (opd_ok hT hva) (opd_ok hT hvb) hu) rfl
      · cases he
    · cases hc
  | load ty' x =>
    simp only [cop] at hc
    split at hc
    · rename_i r hr
      simp only [Option.some.injEq] at hc; subst hc; simp only [evF] at he; split at he
      · rename_i va hva
        exact fin (r := Instr.loadAt ty' (a.eval x)) (load_ok hr he hC hz (opd_ok hT hva)) rfl
      · cases he
    · cases hc
  | slice ty' x lo hi mx =>
    simp only [cop] at hc
    split at hc
    · rename_i el hu
      split at hc
      · rename_i sz hs
        simp only [Option.some.injEq] at hc; subst hc; simp only [evF] at he; split at he
        · rename_i va l h m hva hl hh hm
          exact fin (r := Instr.sliceAt ty' (a.eval x) (lo.map a.eval) (hi.map a.eval) (mx.map a.eval)) (slc_ok he hC hz (opd_ok hT hva) (optI_ok hT hl) (optI_ok hT hh) (optI_ok hT hm) hs hu) rfl
        · cases he
      · cases hc
    · rename_i m el hu
      split at hc
      · rename_i sz hs
        simp only [Option.some.injEq] at hc; subst hc; simp only [evF] at he; split at he
        · rename_i id j off hva
          split at he
          · rename_i hpos
            simp only [Option.some.injEq, Prod.mk.injEq] at he; obtain ⟨rfl, rfl⟩ := he
            have hx := opd_ok hT hva
            simp only [R] at hx
            refine fin (r := Instr.sliceAt ty' (a.eval x) none none none) ⟨.slice (some ⟨(β id).b, (β id).base + (j * (β id).k + off), none⟩) m m, ?_, by simp [R, hx.1]⟩ rfl
            rw [hx.2]
            simp [Instr.sliceAt, run_underlying hu, Instr.sureAddr, Instr.sliceBounds, run_sizeOf hs, add_addr]
          · cases he
        · cases he
      · cases hc
    · rename_i hu
      split at hc
      · simp only [Option.some.injEq] at hc; subst hc; simp only [evF] at he; split at he
        · rename_i va l h hva hl hh
          exact fin (r := Instr.sliceAt ty' (a.eval x) (lo.map a.eval) (hi.map a.eval) none) (slcs_ok he hC (opd_ok hT hva) (optI_ok hT hl) (optI_ok hT hh) hu) rfl
        · cases he
      · cases hc
    · cases hc
  | call cl =>
    obtain ⟨callee, cargs, ctys⟩ := cl
    cases callee with
    | builtin b =>
      cases b with
      | len =>
        simp only [cop] at hc
        split at hc
        · rename_i T' x hts has
          have hT' : ctys = #[T'] := by apply Array.ext'; simpa using hts
          have hA : cargs = #[x] := by apply Array.ext'; simpa using has
          have f1 := fun h => fin (r := Builtin.len_ ctys ty (cargs.map a.eval)) h (by simp [execOp, resolve, invoke, builtin])
          have hM : cargs.map a.eval = #[a.eval x] := by rw [hA]; simp
          split at hc
          · rename_i el hu
            simp only [Option.some.injEq] at hc; subst hc; simp only [evF] at he; split at he
            · rename_i va hva
              exact f1 (by rw [hT', hM]; exact len_ok he (opd_ok hT hva) hu)
            · cases he
          · rename_i hu
            simp only [Option.some.injEq] at hc; subst hc; simp only [evF] at he; split at he
            · rename_i va hva
              exact f1 (by rw [hT', hM]; exact lens_ok he (opd_ok hT hva) hu)
            · cases he
          · rename_i m el hu
            simp only [Option.some.injEq] at hc; subst hc
            simp only [evF, opd, constA, Option.some.injEq, Prod.mk.injEq] at he; obtain ⟨rfl, rfl⟩ := he
            exact f1 ⟨_, by rw [hT', hA]; simp [Builtin.len_, run_underlying hu, goInt], R_int _ _⟩
          · cases hc
        · cases hc
      | min =>
        simp only [cop, Option.some.injEq] at hc; subst hc; simp only [evF] at he; split at he
        · rename_i l hl
          exact fin (r := Builtin.min_ ctys ty (cargs.map a.eval)) (mm_ok he (opdL_ok hT hl) ctys ty _ (by simp)) (by simp [execOp, resolve, invoke, builtin])
        · cases he
      | max =>
        simp only [cop, Option.some.injEq] at hc; subst hc; simp only [evF] at he; split at he
        · rename_i l hl
          exact fin (r := Builtin.max_ ctys ty (cargs.map a.eval)) (mm_ok he (opdL_ok hT hl) ctys ty _ (by simp)) (by simp [execOp, resolve, invoke, builtin])
        · cases he
      | _ => simp [cop] at hc
    | _ => simp [cop] at hc
  | _ => simp [cop] at hc
end
end Go.Proofs.YtipanehdmhachaaGreatDoor.H

set_option linter.unusedSimpArgs false
set_option linter.unusedVariables false
set_option linter.unusedSectionVars false
namespace Go.Proofs.YtipanehdmhachaaGreatDoor.H
variable [DR]
section
variable {P : Program} {w : World} {K : Nat → Prop} {β : Nat → Loc} {s : St}
theorem Cz.old (hz : Cz w K β s) {w' : World} {K' : Nat → Prop} {β' : Nat → Loc} {n' : Nat} (hs : Stays w K w' K') (hn : s.length ≤ n') (hb : ∀ i, i < s.length → β' i = β i) {i : Nat} {b : Blk} (hi : s[i]? = some (some b))
    (hh : w'.heap[(β i).b]? = w.heap[(β i).b]?) : BlkOK w' K' β' n' (β i) b := by
  have h := hz.blk i b hi
  cases b with
  | cells T k rows =>
    obtain ⟨pre, us, post, h1, h2, h3, h4, h5, h6, h7⟩ := h
    exact ⟨pre, us, post, by rw [hh]; exact h1, h2, h3.mono hs hn hb, h4, h5, h6, h7⟩
  | mp es => obtain ⟨ents, h1, h2⟩ := h; exact ⟨ents, by rw [hh]; exact h1, h2⟩
  | it m c seen => obtain ⟨h1, h2, h3⟩ := h; exact ⟨by rw [hh, hb m h2]; exact h1, Nat.lt_of_lt_of_le h2 hn, h3⟩
def lay (β : Nat → Loc) (n : Nat) (p : Loc) : Nat → Loc := fun i => if i = n then p else β i
theorem lay_same (β : Nat → Loc) (n : Nat) (p : Loc) : lay β n p n = p := by simp [lay]
theorem lay_ne (β : Nat → Loc) {n i : Nat} (p : Loc) (h : i ≠ n) : lay β n p i = β i := by simp [lay, h]
theorem get_app {s : St} {o b : Option Blk} {i : Nat} (h : (s ++ [o])[i]? = some b) : s[i]? = some b ∨ (i = s.length ∧ b = o) := by
  by_cases hi : i < s.length
  · rw [List.getElem?_append_left hi] at h; exact .inl h
  · rw [List.getElem?_append_right (by omega)] at h
    right
    have : i - s.length = 0 := by
      have h' : i - s.length < 1 := (List.getElem?_eq_some_iff.1 h).1
      omega
    rw [this] at h; simp at h
    exact ⟨by omega, h.symm⟩
theorem alive_lt {s : St} {i : Nat} (h : Alive s i) : i < s.length := by obtain ⟨b, h⟩ := h; exact (List.getElem?_eq_some_iff.1 h).1
theorem stays_push {w' : World} {o : Obj} (hz : Cz w K β s) (hw : w'.heap = w.heap.push o) : Stays w K w' K := ⟨fun _ h => h, fun b hb => by
  have := hz.kb b hb
  rw [hw, Array.getElem?_push_lt this, Array.getElem?_eq_getElem this]⟩
theorem push_old {w' : World} {o : Obj} (hw : w'.heap = w.heap.push o) {b : Nat} (hb : b < w.heap.size) : w'.heap[b]? = w.heap[b]? := by
  rw [hw, Array.getElem?_push_lt hb, Array.getElem?_eq_getElem hb]
theorem Cz.new (hz : Cz w K β s) {w' : World} {us post : List Value} {T k cap : Nat} {rows : List (List AV)} (hw : w'.heap = w.heap.push (.cells (us ++ post).toArray T (0, 0))) (hio : SameIO w w')
    (hr : RL w K β s.length rows.flatten us) (h1 : ∀ v ∈ rows.flatten, v.one = true) (hk : ∀ r ∈ rows, r.length = k) (hl : (us ++ post).length = cap * k) :
    Cz w' K (lay β s.length ⟨w.heap.size, 0, k, cap⟩) (s ++ [some (.cells T k rows)]) ∧ Ext s.length w K β s w' K (lay β s.length ⟨w.heap.size, 0, k, cap⟩) (s ++ [some (.cells T k rows)]) := by
  have hs := stays_push hz hw
  have hb : ∀ i, i < s.length → lay β s.length ⟨w.heap.size, 0, k, cap⟩ i = β i := fun i hi => lay_ne _ _ (by omega)
  have alive : ∀ i, Alive (s ++ [some (.cells T k rows)]) i → Alive s i ∨ i = s.length := fun i ⟨b, h⟩ => by
    rcases get_app h with h | h
    · exact .inl ⟨b, h⟩
    · exact .inr h.1
  have hlt : ∀ i, Alive s i → (β i).b < w.heap.size := fun i hi => hz.lt hi
  refine ⟨⟨?_, ?_, ?_, ?_, ?_⟩, ?_⟩
  · intro i b hi
    rcases get_app hi with hi | ⟨rfl, he⟩
    · have hil := alive_lt ⟨b, hi⟩
      rw [hb i hil]
      exact hz.old hs (by simp) hb hi (push_old hw (hlt i ⟨b, hi⟩))
    · simp only [Option.some.injEq] at he; subst he
      rw [lay_same]
      refine ⟨[], us, post, ?_, rfl, hr.mono hs (by simp) hb, by simpa using hl, rfl, h1, hk⟩
      rw [hw]; simp
  · intro i j hi hj hij
    rcases alive i hi with hi | hi <;> rcases alive j hj with hj | hj
    · rw [hb i (alive_lt hi), hb j (alive_lt hj)]; exact hz.inj i j hi hj hij
    · subst hj; rw [hb i (alive_lt hi), lay_same]; have := hlt i hi; simp only []; omega
    · subst hi; rw [hb j (alive_lt hj), lay_same]; have := hlt j hj; simp only []; omega
    · omega
  · intro i hi hK
    rcases alive i hi with hi | hi
    · rw [hb i (alive_lt hi)] at hK; exact hz.dis i hi hK
    · subst hi; rw [lay_same] at hK; have := hz.kb _ hK; simp only [] at this; omega
  · intro b hK; have := hz.kb b hK; rw [hw]; simp; omega
  · exact hz.gl.mono hs
  · exact { size := by rw [hw]; simp
            io := hio
            fix := hb
            len := by simp
            frame := fun b hb' _ => push_old hw hb'
            kmono := fun _ h => h
            knew := fun _ h => .inl h
            onew := fun i hi => by
              rcases alive i hi with hi | hi
              · right; exact ⟨i, hi, by rw [hb i (alive_lt hi)]⟩
              · left; subst hi; rw [lay_same]; exact Nat.le_refl _ }
theorem Cz.froz (hz : Cz w K β s) {w' : World} {us : List Value} {T : TypeId} (hw : w'.heap = w.heap.push (.cells us.toArray T (0, 0))) (hio : SameIO w w') :
    Cz w' (fun b => K b ∨ b = w.heap.size) β s ∧ Ext s.length w K β s w' (fun b => K b ∨ b = w.heap.size) β s := by
  have hs : Stays w K w' (fun b => K b ∨ b = w.heap.size) := ⟨fun _ h => .inl h, (stays_push hz hw).h⟩
  refine ⟨⟨?_, hz.inj, ?_, ?_, ?_⟩, ?_⟩
  · intro i b hi
    exact hz.old hs (Nat.le_refl _) (fun _ _ => rfl) hi (push_old hw (hz.lt ⟨b, hi⟩))
  · intro i hi hK
    rcases hK with hK | hK
    · exact hz.dis i hi hK
    · have := hz.lt hi; omega
  · intro b hK
    rw [hw]
    rcases hK with hK | hK
    · have := hz.kb b hK; simp; omega
    · simp; omega
  · exact hz.gl.mono hs
  · exact { size := by rw [hw]; simp
            io := hio
            fix := fun _ _ => rfl
            len := Nat.le_refl _
            frame := fun b hb' _ => push_old hw hb'
            kmono := fun _ h => .inl h
            knew := fun b h => by
              rcases h with h | h
              · exact .inl h
              · right; left; omega
            onew := fun i hi => .inr ⟨i, hi, rfl⟩ }
theorem io_setRow (w : World) (g : Nat) (cs : Array Value) : SameIO w (w.setRow g cs) := ⟨rfl, rfl, rfl, fun _ => Nat.le_refl _⟩
theorem size_setRow (w : World) (g : Nat) (cs : Array Value) : (w.setRow g cs).heap.size = w.heap.size := by simp [World.setRow]
theorem Cz.set (hz : Cz w K β s) {id T k : Nat} {rows rows' : List (List AV)} (hid : s[id]? = some (some (.cells T k rows))) {pre us us' post : List Value} (h1 : w.heap[(β id).b]? = some (.cells (pre ++ us ++ post).toArray T (0, 0)))
    (h2 : pre.length = (β id).base) (h4 : (pre ++ us ++ post).length = (β id).base + (β id).cap * k) (hl : us'.length = us.length) (hr : RL w K β s.length rows'.flatten us') (ho : ∀ v ∈ rows'.flatten, v.one = true) (hk : ∀ r ∈ rows', r.length = k) :
    Cz (w.setRow (β id).b (pre ++ us' ++ post).toArray) K β (s.set id (some (.cells T k rows'))) ∧ Ext s.length w K β s (w.setRow (β id).b (pre ++ us' ++ post).toArray) K β (s.set id (some (.cells T k rows'))) := by
  have hal : Alive s id := ⟨_, hid⟩
  have hs : Stays w K (w.setRow (β id).b (pre ++ us' ++ post).toArray) K := ⟨fun _ h => h, fun b hb => setRow_other w _ b _ (fun e => hz.dis id hal (by rw [← e]; exact hb))⟩
  have get : ∀ {i b}, (s.set id (some (.cells T k rows')))[i]? = some (some b) → (i ≠ id ∧ s[i]? = some (some b)) ∨ (i = id ∧ b = .cells T k rows') := fun {i b} h => by
    rw [List.getElem?_set] at h
    split at h
    · rename_i e
      split at h
      · simp only [Option.some.injEq] at h; exact .inr ⟨e.symm, h.symm⟩
      · cases h
    · rename_i e; exact .inl ⟨fun e' => e e'.symm, h⟩
  have alive : ∀ i, Alive (s.set id (some (.cells T k rows'))) i → Alive s i := fun i ⟨b, h⟩ => by
    rcases get h with ⟨_, h⟩ | ⟨rfl, _⟩
    · exact ⟨b, h⟩
    · exact hal
  have hkk : (β id).k = k := by obtain ⟨_, _, _, _, _, _, _, h5, _⟩ := hz.cells hid; exact h5
  refine ⟨⟨?_, fun i j hi hj => hz.inj i j (alive i hi) (alive j hj), fun i hi => hz.dis i (alive i hi), fun b hb => by rw [size_setRow]; exact hz.kb b hb, hz.gl.mono hs⟩, ?_⟩
  · intro i b hi
    rw [List.length_set]
    rcases get hi with ⟨hne, hi⟩ | ⟨rfl, rfl⟩
    · exact hz.old hs (Nat.le_refl _) (fun _ _ => rfl) hi (setRow_other w _ _ _ (hz.inj i id ⟨_, hi⟩ hal hne))
    · refine ⟨pre, us', post, setRow_heap w _ _ _ _ _ h1, h2, hr.mono hs (Nat.le_refl _) (fun _ _ => rfl), ?_, hkk, ho, hk⟩
      rw [← h4]; simp [hl]
  · exact { size := by rw [size_setRow]; exact Nat.le_refl _
            io := io_setRow ..
            fix := fun _ _ => rfl
            len := by simp
            frame := fun b _ hn => setRow_other w _ b _ (fun e => hn id hal e.symm)
            kmono := fun _ h => h
            knew := fun _ h => .inl h
            onew := fun i hi => .inr ⟨i, alive i hi, rfl⟩ }
/-- A block that grows in its place gets a new name; what lies ahead of its slice is given up. -/
theorem Cz.move (hz : Cz w K β s) {id T k : Nat} {rows rows' : List (List AV)} (hid : s[id]? = some (some (.cells T k rows))) {pre us post : List Value} {old : Array Value} (h1 : w.heap[(β id).b]? = some (.cells old T (0, 0)))
    {base cap : Nat} (h2 : pre.length = base) (h4 : (pre ++ us ++ post).length = base + cap * k) (hr : RL w K β s.length rows'.flatten us) (ho : ∀ v ∈ rows'.flatten, v.one = true) (hk : ∀ r ∈ rows', r.length = k) :
    Cz (w.setRow (β id).b (pre ++ us ++ post).toArray) K (lay β s.length ⟨(β id).b, base, k, cap⟩) (s.set id none ++ [some (.cells T k rows')]) ∧
      Ext s.length w K β s (w.setRow (β id).b (pre ++ us ++ post).toArray) K (lay β s.length ⟨(β id).b, base, k, cap⟩) (s.set id none ++ [some (.cells T k rows')]) := by
  have hal : Alive s id := ⟨_, hid⟩
  have hs : Stays w K (w.setRow (β id).b (pre ++ us ++ post).toArray) K := ⟨fun _ h => h, fun b hb => setRow_other w _ b _ (fun e => hz.dis id hal (by rw [← e]; exact hb))⟩
  have hb : ∀ i, i < s.length → lay β s.length ⟨(β id).b, base, k, cap⟩ i = β i := fun i hi => lay_ne _ _ (by omega)
  have get : ∀ {i b}, (s.set id none ++ [some (.cells T k rows')])[i]? = some (some b) → (i ≠ id ∧ s[i]? = some (some b)) ∨ (i = s.length ∧ b = .cells T k rows') := fun {i b} h => by
    rcases get_app h with h | ⟨h, e⟩
    · left
      rw [List.getElem?_set] at h
      split at h
      · split at h <;> simp at h
      · rename_i e; exact ⟨fun e' => e e'.symm, h⟩
    · right; simp only [Option.some.injEq] at e; exact ⟨by simpa using h, e⟩
  have alive : ∀ i, Alive (s.set id none ++ [some (.cells T k rows')]) i → (i ≠ id ∧ Alive s i) ∨ i = s.length := fun i ⟨b, h⟩ => by
    rcases get h with ⟨h1, h⟩ | ⟨h, _⟩
    · exact .inl ⟨h1, b, h⟩
    · exact .inr h
  refine ⟨⟨?_, ?_, ?_, fun b hb => by rw [size_setRow]; exact hz.kb b hb, hz.gl.mono hs⟩, ?_⟩
  · intro i b hi
    rcases get hi with ⟨hne, hi⟩ | ⟨rfl, rfl⟩
    · rw [hb i (alive_lt ⟨b, hi⟩)]
      exact hz.old hs (by simp) hb hi (setRow_other w _ _ _ (hz.inj i id ⟨_, hi⟩ hal hne))
    · rw [lay_same]
      exact ⟨pre, us, post, setRow_heap w _ _ _ _ _ h1, h2, hr.mono hs (by simp) hb, h4, rfl, ho, hk⟩
  · intro i j hi hj hij
    rcases alive i hi with ⟨ne, hi⟩ | hi <;> rcases alive j hj with ⟨ne', hj⟩ | hj
    · rw [hb i (alive_lt hi), hb j (alive_lt hj)]; exact hz.inj i j hi hj hij
    · subst hj; rw [hb i (alive_lt hi), lay_same]; exact hz.inj i id hi hal ne
    · subst hi; rw [hb j (alive_lt hj), lay_same]; exact hz.inj id j hal hj (Ne.symm ne')
    · omega
  · intro i hi
    rcases alive i hi with ⟨_, hi⟩ | hi
    · rw [hb i (alive_lt hi)]; exact hz.dis i hi
    · subst hi; rw [lay_same]; exact hz.dis id hal
  · exact { size := by rw [size_setRow]; exact Nat.le_refl _
            io := io_setRow ..
            fix := hb
            len := by simp
            frame := fun b _ hn => setRow_other w _ b _ (fun e => hn id hal e.symm)
            kmono := fun _ h => h
            knew := fun _ h => .inl h
            onew := fun i hi => by
              rcases alive i hi with ⟨_, hi⟩ | hi
              · exact .inr ⟨i, hi, by rw [hb i (alive_lt hi)]⟩
              · subst hi; exact .inr ⟨id, hal, by rw [lay_same]⟩ }
/-- A block that grows elsewhere: the old one is given up. -/
theorem Cz.drop1 (hz : Cz w K β s) (id : Nat) : Cz w K β (s.set id none) ∧ Ext s.length w K β s w K β (s.set id none) := by
  have get : ∀ {i b}, (s.set id none)[i]? = some (some b) → s[i]? = some (some b) := fun {i b} h => by
    rw [List.getElem?_set] at h
    split at h
    · split at h <;> simp at h
    · exact h
  have alive : ∀ i, Alive (s.set id none) i → Alive s i := fun i ⟨b, h⟩ => ⟨b, get h⟩
  refine ⟨⟨fun i b hi => by rw [List.length_set]; exact hz.blk i b (get hi), fun i j hi hj => hz.inj i j (alive i hi) (alive j hj), fun i hi => hz.dis i (alive i hi), hz.kb, hz.gl⟩, ?_⟩
  exact { size := Nat.le_refl _, io := .refl _, fix := fun _ _ => rfl, len := by simp, frame := fun _ _ _ => rfl, kmono := fun _ h => h, knew := fun _ h => .inl h, onew := fun i hi => .inr ⟨i, alive i hi, rfl⟩ }
end
end Go.Proofs.YtipanehdmhachaaGreatDoor.H

set_option linter.unusedSimpArgs false
set_option linter.unusedVariables false
set_option linter.unusedSectionVars false
set_option linter.unusedSectionVars false
namespace Go.Proofs.YtipanehdmhachaaGreatDoor.H
variable [DR]

/-- Operations whose laws are told one by one. -/
inductive GO where
  | mkmap (T : TypeId) | mset (T : TypeId) | mget (T : TypeId) (ok : Bool) | rng (T : TypeId) | nxt | ent
  | s2b (e : TypeId) | b2s | nili (neg : Bool) | nils (neg : Bool) | cap | clr (e : TypeId) | appmk (e : TypeId)
def toGO (P : Program) : Op → Option (GO × List Operand)
  | .makeMap t none => some (.mkmap t, [])
  | .mapUpdate t m k x => some (.mset t, [m, k, x])
  | .insert t m k x => some (.mset t, [m, k, x])
  | .lookup t m k ok => some (.mget t ok, [m, k])
  | .range t x => some (.rng t, [x])
  | .next it false => some (.nxt, [it])
  | .entry it => some (.ent, [it])
  | .convert src dst x => match P.underlying src, P.underlying dst with
    | some .string, some (.slice e) => match P.underlying e with
      | some (.int .u8) => some (.s2b e, [x])
      | _ => none
    | some (.slice e), some .string => match P.underlying e with
      | some (.int .u8) => some (.b2s, [x])
      | _ => none
    | _, _ => none
  | .binOp op T x (.const (.slice none 0 0)) _ => match P.underlying T, op with
    | some (.slice _), .eql => some (.nils false, [x])
    | some (.slice _), .neq => some (.nils true, [x])
    | _, _ => none
  | .binOp op T x (.const .nilIface) _ => match P.underlying T, op with
    | some (.interface _), .eql => some (.nili false, [x])
    | some (.interface _), .neq => some (.nili true, [x])
    | _, _ => none
  | .call { callee := .builtin .cap, args := as, argTypes := ts } => match ts.toList, as.toList with
    | [T], [x] => match P.underlying T with
      | some (.slice _) => some (.cap, [x])
      | _ => none
    | _, _ => none
  | .call { callee := .builtin .clear, args := as, argTypes := ts } => match ts.toList, as.toList with
    | [T], [x] => match P.underlying T with
      | some (.slice e) => some (.clr e, [x])
      | _ => none
    | _, _ => none
  | .call { callee := .builtin .append, args := as, argTypes := ts } => match ts.toList, as.toList with
    | [T, T'], [x, y] => match P.underlying T, P.underlying T' with
      | some (.slice e), some (.int _) => some (.appmk e, [x, y])
      | _, _ => none
    | _, _ => none
  | _ => none
inductive KO where
  | asg (x : Operand) | mkz (T k n : Nat) (z : List Value)
  | alloc (T : TypeId) (z : List Value) | box (T n : Nat) (x : Operand) | store (n : Nat) (x v : Operand)
  | bslice (T k n : Nat) (z : List Value) (ps : List (Nat × Nat × Operand)) | mkslice (T k bytes : Nat) (z : List Value) (l c : Operand)
  | append (T k bytes : Nat) (x y : Operand) | copy (k : Nat) (x y : Operand)
  | call (f : FuncId) (as : List Operand) | callv (x : Operand) (as : List Operand) | gen (g : GO) (as : List Operand)
def rowsA (rows : List (List D)) : List (List AV) := rows.map (List.map .d)
/-- The rows of a list. -/
def srcOf (s : St) (k : Nat) : AV → Option (Prop × List (List AV))
  | .d (.lst k' rows) => some (k' = k ∨ rows = [], rowsA rows)
  | .ful k' rows => some (k' = k ∨ rows = [], rowsA rows)
  | .own id off len => match cellsOf s id with
    | some (_, k', rows) => if k' = k then some (off + len ≤ rows.length, (rows.drop off).take len) else none
    | none => none
  | _ => none
def toD : AV → Option D
  | .d x => some x
  | .ful k rows => some (.lst k rows)
  | _ => none
def toDs : List AV → Option (List D)
  | [] => some []
  | v :: l => match toD v, toDs l with
    | some x, some r => some (x :: r)
    | _, _ => none
def chunk {α : Type} (k : Nat) : Nat → List α → List (List α)
  | 0, _ => []
  | n + 1, l => l.take k :: chunk k n (l.drop k)
def putRow (k : Nat) (r : List AV) (off : Nat) (l : List AV) : List AV := if off = 0 ∧ l.length = k then l else r.take off ++ l ++ r.drop (off + l.length)
abbrev PS := Option (Prop × AV × St)
def boxA (s : St) (T n : Nat) (v : AV) : PS := match v.flat with
  | some l => if l.length = n then some (True, .ptr s.length 0 0, s ++ [some (.cells T n [l])]) else none
  | none => none
def storeA (s : St) (n : Nat) (x v : AV) : PS := match x, v.flat with
  | .ptr id i off, some l => match cellsOf s id with
    | some (T, k, rows) => if l.length = n ∧ off + n ≤ k then some (i < rows.length, .tup [], s.set id (some (.cells T k (rows.set i (putRow k (rows.getD i []) off l))))) else none
    | none => none
  | _, _ => none
def bsliceA (s : St) (T k n : Nat) (z : List Value) (ps : List (Nat × Nat × AV)) : PS := match fillA ((List.replicate n (zeroA z)).flatten) ps with
  | some cs => match toDs cs with
    | some ds => some (True, .ful k (chunk k n ds), s)
    | none => if cs.all AV.one then some (True, .own s.length 0 n, s ++ [some (.cells T k (chunk k n cs))]) else none
  | none => none
def mksliceA (s : St) (T k bytes : Nat) (z : List Value) (l c : AV) : PS := match asI l, asI c with
  | some (_, a), some (_, b) => some (0 ≤ a ∧ a ≤ b ∧ (bytes : Int) * b ≤ 281474976710656 ∧ b ≤ 9223372036854775807, .own s.length 0 a.toNat, s ++ [some (.cells T k (List.replicate a.toNat (zeroA z)))])
  | _, _ => none
def appendA (s : St) (T k bytes : Nat) (x y : AV) : PS := match srcOf s k y with
  | some (C, ys) => match ys with
    | [] => match x with
      | .ful _ _ => some (C, x, s)
      | .own _ _ _ => some (C, x, s)
      | .d (.lst _ _) => some (C, x, s)
      | _ => none
    | _ :: _ => match x with
      | .ful k' rows => some (C ∧ (k' = k ∨ rows = []) ∧ (rows.length + ys.length) * bytes ≤ 140737488355328 ∧ rows.length + ys.length ≤ 1000000000000, .own s.length 0 (rows.length + ys.length), s ++ [some (.cells T k (rowsA rows ++ ys))])
      | .own id off len => match cellsOf s id with
        | some (T', k', rows) => if T' = T ∧ k' = k then
            some (C ∧ off + len ≤ rows.length ∧ (len + ys.length) * bytes ≤ 140737488355328 ∧ len + ys.length ≤ 1000000000000, .own s.length 0 (len + ys.length), s.set id none ++ [some (.cells T k ((rows.drop off).take len ++ ys))])
          else none
        | none => none
      | .pre k' rows n => some (C ∧ k' = k ∧ n ≤ rows.length ∧ rows.length < n + ys.length ∧ (n + ys.length) * bytes ≤ 140737488355328 ∧ n + ys.length ≤ 1000000000000, .own s.length 0 (n + ys.length), s ++ [some (.cells T k (rowsA (rows.take n) ++ ys))])
      | _ => none
  | none => none
def copyA (s : St) (k : Nat) (x y : AV) : PS := match x, srcOf s k y with
  | .osl id i off len, some (C, ys) => match cellsOf s id with
    | some (T, k', rows) => some (C ∧ ys.length = len ∧ i < rows.length ∧ off + len * k ≤ k', AI .i64 len, s.set id (some (.cells T k' (rows.set i (putRow k' (rows.getD i []) off ys.flatten)))))
    | none => none
  | _, _ => none
def evK (s : St) (T : Tm) : KO → PS
  | .asg x => match opd T x with
    | some v => some (True, v, s)
    | none => none
  | .mkz t k n z => some (True, .own s.length 0 n, s ++ [some (.cells t k (List.replicate n (zeroA z)))])
  | .alloc t z => some (True, .ptr s.length 0 0, s ++ [some (.cells t z.length [zeroA z])])
  | .box t n x => match opd T x with
    | some v => boxA s t n v
    | none => none
  | .store n x v => match opd T x, opd T v with
    | some a, some b => storeA s n a b
    | _, _ => none
  | .bslice t k n z ps => match opdP T ps with
    | some l => bsliceA s t k n z l
    | none => none
  | .mkslice t k by' z l c => match opd T l, opd T c with
    | some a, some b => mksliceA s t k by' z a b
    | _, _ => none
  | .append t k by' x y => match opd T x, opd T y with
    | some a, some b => appendA s t k by' a b
    | _, _ => none
  | .copy k x y => match opd T x, opd T y with
    | some a, some b => copyA s k a b
    | _, _ => none
  | .call .. => none
  | .callv .. => none
  | .gen .. => none
def BodyOK (P : Program) (f : FuncId) : Bool := match P.funcs[f]? with
  | some fn => fn.body.isSome && fn.name != "runtime.NumGoroutine"
  | none => false
/-- A length that is written out. -/
def litN : Operand → Option Nat
  | .const (.int _ z) => if 0 ≤ z ∧ z ≤ 16777216 then some z.toNat else none
  | _ => none
def kop (P : Program) : Op → Option KO
  | .assign x => some (.asg x)
  | .alloc T => match zeroOf P T with
    | some z => some (.alloc T z)
    | none => none
  | .box T x => match sizeT P T with
    | some n => some (.box T n x)
    | none => none
  | .store T x v => match sizeT P T with
    | some n => some (.store n x v)
    | none => none
  | .buildSlice T n ps => match P.underlying T with
    | some (.slice el) => match sizeT P el, zeroOf P el with
      | some k, some z => if n * k ≤ 16777216 ∧ z.length = k ∧ 0 < k then match putP (fun i => some (i * k, k)) ps.toList with
          | some l => some (.bslice el k n z l)
          | none => none
        else none
      | _, _ => none
    | _ => none
  | .makeSlice T l c => match P.underlying T with
    | some (.slice el) => match P.info? el, zeroOf P el with
      | some i, some z => if z.length = i.size ∧ 0 < i.size then (match litN l, litN c with
          | some a, some b => if a = b ∧ i.bytes * b ≤ 281474976710656 then some (.mkz el i.size a z) else none
          | _, _ => some (.mkslice el i.size i.bytes z l c)) else none
      | _, _ => none
    | _ => none
  | .call { callee := .builtin .append, args := as, argTypes := ts } => match ts.toList, as.toList with
    | [T, T'], [x, y] => if T = T' then match P.underlying T with
        | some (.slice el) => match P.info? el, zeroOf P el with
          | some i, some z => if z.length = i.size ∧ 0 < i.size then some (.append el i.size i.bytes x y) else none
          | _, _ => none
        | _ => none
      else none
    | _, _ => none
  | .call { callee := .builtin .copy, args := as, argTypes := ts } => match ts.toList, as.toList with
    | [T, _], [x, y] => match P.underlying T with
      | some (.slice el) => match sizeT P el with
        | some k => some (.copy k x y)
        | none => none
      | _ => none
    | _, _ => none
  | .call { callee := .value (.func f), args := as, .. } => if BodyOK P f then some (.call f as.toList) else none
  | .call { callee := .value x, args := as, .. } => some (.callv x as.toList)
  | _ => none
end Go.Proofs.YtipanehdmhachaaGreatDoor.H

set_option linter.unusedSimpArgs false
set_option linter.unusedVariables false
set_option linter.unusedSectionVars false
namespace Go.Proofs.YtipanehdmhachaaGreatDoor.H
variable [DR]
section
variable {P : Program} {w : World} {K : Nat → Prop} {β : Nat → Loc} {s : St}
/-- A run that gives a value that 'v' tells, and leaves memory as 's'' tells. -/
def KGives (P : Program) (w : World) (K : Nat → Prop) (β : Nat → Loc) (s : St) (v : AV) (s' : St) (r : Sem Value) : Prop :=
  ∃ u w' K' β', r.run P w = .ok u w' ∧ Cz w' K' β' s' ∧ R w' K' β' s'.length v u ∧ Ext s.length w K β s w' K' β' s'
theorem io_alloc (w : World) (o : Obj) : SameIO w (w.alloc o) := ⟨rfl, rfl, rfl, fun _ => Nat.le_refl _⟩
theorem io_drew (w : World) (o : Obj) : SameIO w (w.drew.alloc o) := ⟨rfl, rfl, rfl, fun _ => Nat.le_succ _⟩
theorem heap_alloc (w : World) (o : Obj) : (w.alloc o).heap = w.heap.push o := rfl
theorem heap_drew (w : World) (o : Obj) : (w.drew.alloc o).heap = w.heap.push o := rfl
theorem ptr_new {w' : World} {p : Loc} {n : Nat} (hn : s.length < n) (hp : p.base = 0) : R w' K (lay β s.length p) n (.ptr s.length 0 0) (.pointer (some ⟨p.b, 0, none⟩)) := by
  simp only [R, lay_same]
  exact ⟨hn, by simp [hp]⟩
theorem alloc_ok {T : TypeId} {z : List Value} (hz0 : zeroOf P T = some z) (hz : Cz w K β s) : KGives P w K β s (.ptr s.length 0 0) (s ++ [some (.cells T z.length [zeroA z])]) (Instr.alloc T true (.tuple #[])) := by
  obtain ⟨i, zv, hi, hzv, hc, h1⟩ := zeroOf_info hz0
  obtain ⟨c1, c2⟩ := hz.new (w' := w.alloc (.cells z.toArray T)) (us := z) (post := []) (T := T) (k := z.length) (cap := 1) (rows := [zeroA z]) (by simp [heap_alloc]) (io_alloc ..)
    (by simpa using zeroA_ok hz0) (by
      intro v hv
      simp only [List.flatten_cons, List.flatten_nil, List.append_nil, zeroA, List.mem_map] at hv
      obtain ⟨x, _, rfl⟩ := hv
      unfold zA1; split <;> rfl) (by simp [zeroA]) (by simp)
  refine ⟨_, _, _, _, ?_, c1, ptr_new (by simp) rfl, c2⟩
  simp [Instr.alloc, zeroValue, typeInfo, hi, hzv, newVar, newRow, hc]
theorem box_ok {T n : Nat} {x : AV} {ux : Value} {C : Prop} {v : AV} {s' : St} (h : boxA s T n x = some (C, v, s')) (hz : Cz w K β s) (hx : R w K β s.length x ux) : KGives P w K β s v s' (Instr.box T ux) := by
  unfold boxA at h
  split at h
  · rename_i l hl
    split at h
    · rename_i hn
      simp only [Option.some.injEq, Prod.mk.injEq] at h; obtain ⟨rfl, rfl, rfl⟩ := h
      obtain ⟨us, e1, e2, e3⟩ := flat_ok hl hx
      have hul := RL_length e2
      obtain ⟨c1, c2⟩ := hz.new (w' := w.alloc (.cells us.toArray T)) (us := us) (post := []) (T := T) (k := n) (cap := 1) (rows := [l]) (by simp [heap_alloc]) (io_alloc ..)
        (by simpa using e2) (by simpa using e3) (by simpa using hn) (by simp; omega)
      refine ⟨_, _, _, _, ?_, c1, ptr_new (by simp) rfl, c2⟩
      simp [Instr.box, newVar, newRow, e1]
    · cases h
  · cases h
theorem cells_split {L pre us post : List Value} {o m : Nat} (hL : L = pre ++ us ++ post) (ho : o + m ≤ us.length) : L.take (pre.length + o) = pre ++ us.take o ∧ (L.drop (pre.length + o)).take m = (us.drop o).take m ∧ L.drop (pre.length + o + m) = us.drop (o + m) ++ post := by
  subst hL
  refine ⟨?_, ?_, ?_⟩
  · rw [List.append_assoc, List.take_length_add_append, List.take_append_of_le_length (by omega)]
  · rw [List.append_assoc, List.drop_length_add_append, List.drop_append_of_le_length (by omega), List.take_append_of_le_length (by simp; omega)]
  · rw [Nat.add_assoc, List.append_assoc, List.drop_length_add_append, List.drop_append_of_le_length (by omega)]
/-- Rewriting some cells of a row. -/
theorem setRow_ok (hz : Cz w K β s) {id T k i off : Nat} {rows : List (List AV)} (hid : s[id]? = some (some (.cells T k rows))) (hi : i < rows.length) {l : List AV} {vs : List Value} (hl : RL w K β s.length l vs) (h1 : ∀ v ∈ l, v.one = true) (hle : off + l.length ≤ k) :
    ∃ w', (storeCells ⟨(β id).b, (β id).base + (i * (β id).k + off), none⟩ vs 0).run P w = .ok () w' ∧ Cz w' K β (s.set id (some (.cells T k (rows.set i (putRow k (rows.getD i []) off l))))) ∧
      Ext s.length w K β s w' K β (s.set id (some (.cells T k (rows.set i (putRow k (rows.getD i []) off l))))) := by
  obtain ⟨pre, us, post, e1, e2, e3, e4, e5, e6, e7⟩ := hz.cells hid
  have hvl := RL_length hl
  have hul := RL_length e3
  rw [flatten_length e7] at hul
  have hik : i * k + k ≤ us.length := by rw [hul, ← Nat.succ_mul]; exact Nat.mul_le_mul_right _ hi
  have hrow := getD_lt (d := ([] : List AV)) hi
  have hrl : (rows.getD i []).length = k := e7 _ (List.mem_of_getElem? hrow)
  have hrf : rows.getD i [] = (rows.flatten.drop (i * k)).take k := by
    rw [← flatten_drop e7 i]
    have : rows.drop i = rows.getD i [] :: rows.drop (i + 1) := by
      rw [← List.getElem_cons_drop hi]; simp [hi]
    rw [this, List.flatten_cons, List.take_append_of_le_length (by omega), List.take_of_length_le (by omega)]
  have hput : putRow k (rows.getD i []) off l = (rows.getD i []).take off ++ l ++ (rows.getD i []).drop (off + l.length) := by
    unfold putRow
    split
    · rename_i hc
      obtain ⟨rfl, hc⟩ := hc
      rw [List.drop_eq_nil_of_le (by omega)]; simp
    · rfl
  have hlen' : (putRow k (rows.getD i []) off l).length = k := by rw [hput]; simp only [List.length_append, List.length_take, List.length_drop]; omega
  have hold : ∀ v ∈ rows.getD i [], v.one = true := fun v hv => e6 v (List.mem_flatten.2 ⟨_, List.mem_of_getElem? hrow, hv⟩)
  -- the cells behind
  have huseg : us.take (i * k + off) ++ vs ++ us.drop (i * k + off + vs.length) = us.take (i * k) ++ (((us.drop (i * k)).take k).take off ++ vs ++ ((us.drop (i * k)).take k).drop (off + vs.length)) ++ us.drop (i * k + k) := by
    have a1 : us.take (i * k + off) = us.take (i * k) ++ ((us.drop (i * k)).take k).take off := by
      rw [List.take_take, Nat.min_eq_left (by omega), List.take_add]
    have a2 : us.drop (i * k + off + vs.length) = ((us.drop (i * k)).take k).drop (off + vs.length) ++ us.drop (i * k + k) := by
      rw [List.drop_take, List.drop_drop, ← Nat.add_assoc]
      have q := (List.take_append_drop (k - (off + vs.length)) (us.drop (i * k + off + vs.length))).symm
      rw [List.drop_drop, show i * k + off + vs.length + (k - (off + vs.length)) = i * k + k by omega] at q
      exact q
    rw [a1, a2]; simp [List.append_assoc]
  have hR : RL w K β s.length (rows.set i (putRow k (rows.getD i []) off l)).flatten (us.take (i * k + off) ++ vs ++ us.drop (i * k + off + vs.length)) := by
    rw [flatten_set e7 i _ hi, hput, huseg, hrf, hvl]
    exact RL_append (RL_append (RL_take e3 _) (RL_append (RL_append (RL_take (RL_take (RL_drop e3 _) _) _) hl) (RL_drop (RL_take (RL_drop e3 _) _) _))) (RL_drop e3 _)
  have hvone : ∀ u ∈ vs, u.oneCell' = true := fun u hu => by
    obtain ⟨j, hj⟩ := List.getElem?_of_mem hu
    have hjl : j < l.length := by have := (List.getElem?_eq_some_iff.1 hj).1; omega
    exact ((RL_iff.1 hl).2 j l[j] u (by simp [hjl]) hj).one (h1 _ (List.getElem_mem hjl))
  have hst := run_storeCells_at P (β id).b ((β id).base + (i * (β id).k + off)) T vs 0 _ w e1 (by simp; rw [e5, ← e2]; omega) hvone
  obtain ⟨s1, s2, s3⟩ := cells_split (L := pre ++ us ++ post) (o := i * k + off) (m := vs.length) rfl (by omega)
  have hnew : (pre ++ us ++ post).take ((β id).base + (i * (β id).k + off) + 0) ++ vs ++ (pre ++ us ++ post).drop ((β id).base + (i * (β id).k + off) + 0 + vs.length) = pre ++ (us.take (i * k + off) ++ vs ++ us.drop (i * k + off + vs.length)) ++ post := by
    rw [Nat.add_zero, e5, ← e2, s1, s3]; simp [List.append_assoc]
  simp only [hnew] at hst
  refine ⟨_, hst, hz.set hid e1 e2 e4 (by simp; omega) hR ?_ ?_⟩
  · intro v hv
    obtain ⟨r, hr, hv⟩ := List.mem_flatten.1 hv
    rcases List.mem_or_eq_of_mem_set hr with hr | rfl
    · exact e6 v (List.mem_flatten.2 ⟨r, hr, hv⟩)
    · rw [hput] at hv
      simp only [List.append_assoc, List.mem_append] at hv
      rcases hv with hv | hv | hv
      · exact hold v (List.mem_of_mem_take hv)
      · exact h1 v hv
      · exact hold v (List.mem_of_mem_drop hv)
  · intro r hr
    rcases List.mem_or_eq_of_mem_set hr with hr | rfl
    · exact e7 r hr
    · exact hlen'
theorem store_ok {T n : Nat} (hs : sizeT P T = some n) {x y : AV} {ux uy : Value} {C : Prop} {v : AV} {s' : St} (h : storeA s n x y = some (C, v, s')) (hC : C) (hz : Cz w K β s) (hx : R w K β s.length x ux) (hy : R w K β s.length y uy) :
    ∃ w', (Instr.storeAt T ux uy).run P w = .ok () w' ∧ Cz w' K β s' ∧ Ext s.length w K β s w' K β s' ∧ v = .tup [] := by
  unfold storeA at h
  split at h
  · rename_i id i off l hl
    split at h
    · rename_i T' k rows hc
      split at h
      · rename_i hle
        simp only [Option.some.injEq, Prod.mk.injEq] at h; obtain ⟨rfl, rfl, rfl⟩ := h
        simp only [R] at hx
        obtain ⟨hid, rfl⟩ := hx
        obtain ⟨us, e1, e2, e3⟩ := flat_ok hl hy
        have hul := RL_length e2
        obtain ⟨w', g1, g2, g3⟩ := setRow_ok (P := P) (off := off) hz (cellsOf_some hc) hC e2 e3 (by omega)
        exact ⟨w', by simp [Instr.storeAt, Instr.sureAddr, storeVar, run_sizeOf hs, e1, hul, hle.1, g1], g2, g3, rfl⟩
      · cases h
    · cases h
  · cases h
theorem RL_rowsA {rows : List (List D)} {k : Nat} {x : Addr} (h : RRows w K k rows x) : ∃ us, RL w K β s.length (rowsA rows).flatten us ∧ ∀ j u, us[j]? = some u → w.cell? (x.add j) = some u := by
  have hk : ∀ r ∈ rows, r.length = k := fun r hr => by
    obtain ⟨i, hi⟩ := List.getElem?_of_mem hr
    exact (RRows_get h hi).1
  have key : ∀ j d, rows.flatten[j]? = some d → ∃ u, w.cell? (x.add j) = some u ∧ RD w K d u := fun j d hj => by
    have hjl : j < rows.length * k := by rw [← flatten_length hk]; exact (List.getElem?_eq_some_iff.1 hj).1
    have hk0 : 0 < k := by
      rcases Nat.eq_zero_or_pos k with h0 | h0
      · subst h0; simp at hjl
      · exact h0
    have hi : j / k < rows.length := (Nat.div_lt_iff_lt_mul hk0).2 hjl
    have hc : j % k < k := Nat.mod_lt _ hk0
    have hr := getD_lt (d := ([] : List D)) hi
    have hrl := hk _ (List.mem_of_getElem? hr)
    have hd := getD_lt (l := rows.getD (j / k) []) (d := (default : D)) (by rw [hrl]; exact hc)
    have e := flatten_get hk hr hd
    rw [show j / k * k + j % k = j by rw [Nat.mul_comm]; exact Nat.div_add_mod j k, hj] at e
    obtain ⟨_, u, hu, hD⟩ := RCells_get (RRows_get h hr).2 hd
    rw [Addr_add_add, show j / k * k + j % k = j by rw [Nat.mul_comm]; exact Nat.div_add_mod j k] at hu
    simp only [Option.some.injEq] at e
    exact ⟨u, hu, by rw [e]; exact hD⟩
  have hx : ∀ j, ∃ u, ∀ d, rows.flatten[j]? = some d → w.cell? (x.add j) = some u ∧ RD w K d u := fun j => by
    cases hj : rows.flatten[j]? with
    | none => exact ⟨.nilFunc, fun d h => by cases h⟩
    | some d => obtain ⟨u, h1, h2⟩ := key j d hj; exact ⟨u, fun d' h => by simp only [Option.some.injEq] at h; subst h; exact ⟨h1, h2⟩⟩
  obtain ⟨f, hf⟩ := Classical.axiomOfChoice hx
  have e : (rowsA rows).flatten = rows.flatten.map .d := by simp [rowsA, List.map_flatten]
  refine ⟨(List.range rows.flatten.length).map f, ?_, ?_⟩
  · rw [e]
    refine RL_of (by rw [List.length_map, List.length_map, List.length_range]) fun i v u hv hu => ?_
    simp only [List.getElem?_map, Option.map_eq_some_iff] at hv hu
    obtain ⟨d, hd, rfl⟩ := hv
    obtain ⟨j, hj, rfl⟩ := hu
    have hil := (List.getElem?_eq_some_iff.1 hd).1
    rw [List.getElem?_range hil] at hj
    simp only [Option.some.injEq] at hj; subst hj
    simp only [R]; exact (hf _ d hd).2
  · intro j u hj
    simp only [List.getElem?_map, Option.map_eq_some_iff] at hj
    obtain ⟨j', hj', rfl⟩ := hj
    have hil : j < rows.flatten.length := by simpa using (List.getElem?_eq_some_iff.1 hj').1
    rw [List.getElem?_range hil] at hj'
    simp only [Option.some.injEq] at hj'; subst hj'
    exact (hf _ _ (getD_lt (d := default) hil)).1
theorem rowsA_one {rows : List (List D)} : ∀ v ∈ (rowsA rows).flatten, v.one = true := by
  intro v hv
  have e : (rowsA rows).flatten = rows.flatten.map .d := by simp [rowsA, List.map_flatten]
  rw [e] at hv
  obtain ⟨d, _, rfl⟩ := List.mem_map.1 hv
  rfl
/-- The rows of a list, as the model reads them. -/
structure SrcOK (w : World) (K : Nat → Prop) (β : Nat → Loc) (n k : Nat) (ys : List (List AV)) (u : Value) : Prop where
  form : ∃ a c, u = .slice a ys.length c ∧ ys.length ≤ c ∧ (ys.length = 0 ∨ ∃ x us, a = some x ∧ RL w K β n ys.flatten us ∧ ∀ j u, us[j]? = some u → w.cell? (x.add j) = some u)
  one : ∀ v ∈ ys.flatten, v.one = true
  len : ∀ r ∈ ys, r.length = k
theorem src_rows {k k' : Nat} {rows : List (List D)} {a : Option Addr} {c : Nat} (hk : k' = k ∨ rows = []) (hc : rows.length ≤ c) (h : rows.length = 0 ∨ ∃ x, a = some x ∧ RRows w K k' rows x) : SrcOK w K β s.length k (rowsA rows) (.slice a rows.length c) := by
  rcases h with h | ⟨x, rfl, h⟩
  · have : rows = [] := List.eq_nil_of_length_eq_zero h
    subst this
    exact ⟨⟨a, c, by simp [rowsA], by simp [rowsA], .inl (by simp [rowsA])⟩, rowsA_one, by simp [rowsA]⟩
  · obtain ⟨us, h1, h2⟩ := RL_rowsA (β := β) (s := s) h
    refine ⟨⟨some x, c, by simp [rowsA], by simpa [rowsA] using hc, .inr ⟨x, us, rfl, h1, h2⟩⟩, rowsA_one, ?_⟩
    intro r hr
    simp only [rowsA, List.mem_map] at hr
    obtain ⟨r', hr', rfl⟩ := hr
    rcases hk with hk | hk
    · obtain ⟨i, hi⟩ := List.getElem?_of_mem hr'
      rw [List.length_map, (RRows_get h hi).1, hk]
    · subst hk; cases hr'
theorem srcOf_ok {k : Nat} {y : AV} {uy : Value} {C : Prop} {ys : List (List AV)} (h : srcOf s k y = some (C, ys)) (hC : C) (hz : Cz w K β s) (hy : R w K β s.length y uy) : SrcOK w K β s.length k ys uy := by
  unfold srcOf at h
  split at h
  · simp only [Option.some.injEq, Prod.mk.injEq] at h; obtain ⟨rfl, rfl⟩ := h
    simp only [R, RD] at hy
    obtain ⟨a, c, rfl, h1, h2⟩ := hy
    exact src_rows hC h1 h2
  · simp only [Option.some.injEq, Prod.mk.injEq] at h; obtain ⟨rfl, rfl⟩ := h
    simp only [R] at hy
    obtain ⟨a, rfl, h2⟩ := hy
    exact src_rows hC (Nat.le_refl _) h2
  · rename_i id off len
    split at h
    · rename_i T' k' rows hc
      split at h
      · rename_i hk
        simp only [Option.some.injEq, Prod.mk.injEq] at h; obtain ⟨rfl, rfl⟩ := h
        subst hk
        obtain ⟨pre, us, post, e1, e2, e3, e4, e5, e6, e7⟩ := hz.cells (cellsOf_some hc)
        simp only [R] at hy
        obtain ⟨hid, x, c, rfl, h2, h3, h4⟩ := hy
        have hlen : ((rows.drop off).take len).length = len := by simp; omega
        have e7' : ∀ r ∈ rows.drop off, r.length = k' := fun r hr => e7 r (List.mem_of_mem_drop hr)
        have hfl : ((rows.drop off).take len).flatten = (rows.flatten.drop (off * k')).take (len * k') := by rw [flatten_take e7', flatten_drop e7]
        refine ⟨⟨some x, c, by rw [hlen], by rw [hlen]; exact h2, ?_⟩, ?_, fun r hr => e7' r (List.mem_of_mem_take hr)⟩
        · by_cases h0 : len = 0
          · left; rw [hlen]; exact h0
          · right
            refine ⟨x, (us.drop (off * k')).take (len * k'), rfl, by rw [hfl]; exact RL_take (RL_drop e3 _) _, fun j u hj => ?_⟩
            rw [h4 (by omega), add_addr]
            rw [List.getElem?_take] at hj
            split at hj
            · rw [List.getElem?_drop] at hj
              rw [e5, Nat.add_assoc]
              exact cell_own e1 e2 hj
            · cases hj
        · intro v hv
          rw [hfl] at hv
          exact e6 v (List.mem_of_mem_drop (List.mem_of_mem_take hv))
      · cases h
    · cases h
  · cases h
end
end Go.Proofs.YtipanehdmhachaaGreatDoor.H

set_option linter.unusedSimpArgs false
set_option linter.unusedVariables false
set_option linter.unusedSectionVars false
namespace Go.Proofs.YtipanehdmhachaaGreatDoor.H
variable [DR]
section
variable {P : Program} {w : World} {K : Nat → Prop} {β : Nat → Loc} {s : St}
theorem made_list {α : Type} [Inhabited α] {z : List α} {k : Nat} (hk : z.length = k) (h0 : 0 < k) : ∀ n, (List.range (n * k)).map (fun j => z.toArray[j % k]!) = (List.replicate n z).flatten
  | 0 => by simp
  | n + 1 => by
    rw [Nat.succ_mul, List.range_add, List.map_append, made_list hk h0 n, List.replicate_succ', List.flatten_append, List.map_map]
    congr 1
    simp only [List.flatten_cons, List.flatten_nil, List.append_nil]
    refine List.ext_getElem? fun c => ?_
    by_cases hc : c < k
    · simp [List.getElem?_range hc, Nat.mod_eq_of_lt hc, hk, hc]
    · rw [List.getElem?_eq_none (by simp; omega), List.getElem?_eq_none (by omega)]
theorem made_arr {z : List Value} {k : Nat} (hk : z.length = k) (h0 : 0 < k) (n : Nat) : (Array.range (n * k)).map (fun j => z.toArray[j % z.toArray.size]!) = ((List.replicate n z).flatten).toArray := by
  apply Array.ext'
  rw [Array.toList_map, Array.toList_range]
  have : z.toArray.size = k := by simpa using hk
  rw [this]
  exact made_list hk h0 n
theorem RL_zeros {T : TypeId} {z : List Value} (hz0 : zeroOf P T = some z) {n' : Nat} : ∀ n, RL w K β n' (List.replicate n (zeroA z)).flatten (List.replicate n z).flatten
  | 0 => by simp [RL]
  | n + 1 => by
    simp only [List.replicate_succ, List.flatten_cons]
    exact RL_append (zeroA_ok hz0) (RL_zeros hz0 n)
theorem zeros_one {z : List Value} {n : Nat} : ∀ v ∈ (List.replicate n (zeroA z)).flatten, v.one = true := by
  intro v hv
  obtain ⟨r, hr, hv⟩ := List.mem_flatten.1 hv
  have := (List.mem_replicate.1 hr).2
  subst this
  simp only [zeroA, List.mem_map] at hv
  obtain ⟨x, _, rfl⟩ := hv
  unfold zA1; split <;> rfl
theorem chunk_get {α : Type} {k : Nat} : ∀ {n i : Nat} {l r : List α}, (chunk k n l)[i]? = some r → i < n ∧ r = (l.drop (i * k)).take k
  | 0, i, l, r, h => by simp [chunk] at h
  | n + 1, 0, l, r, h => by simp [chunk] at h; subst h; simp
  | n + 1, i + 1, l, r, h => by
    obtain ⟨h1, h2⟩ := chunk_get (n := n) (i := i) (by simpa [chunk] using h)
    refine ⟨by omega, ?_⟩
    rw [h2, List.drop_drop, Nat.succ_mul, Nat.add_comm]
theorem chunk_length {α : Type} {k : Nat} : ∀ {n : Nat} {l : List α}, (chunk k n l).length = n
  | 0, _ => rfl
  | n + 1, l => by simp [chunk, chunk_length]
theorem chunk_flatten {α : Type} {k : Nat} : ∀ {n : Nat} {l : List α}, l.length = n * k → (chunk k n l).flatten = l
  | 0, l, h => by simp at h; subst h; rfl
  | n + 1, l, h => by
    simp only [chunk, List.flatten_cons]
    rw [chunk_flatten (by simp [h, Nat.succ_mul]), List.take_append_drop]
theorem toD_ok {n : Nat} {v : AV} {d : D} {u : Value} (h : toD v = some d) (hr : R w K β n v u) : RD w K d u := by
  unfold toD at h
  split at h
  · simp only [Option.some.injEq] at h; subst h; simpa only [R] using hr
  · simp only [Option.some.injEq] at h; subst h
    simp only [R] at hr
    obtain ⟨a, rfl, h⟩ := hr
    simp only [RD]
    exact ⟨a, _, rfl, Nat.le_refl _, h⟩
  · cases h
theorem toDs_get : ∀ {l : List AV} {ds : List D} {i : Nat} {d : D}, toDs l = some ds → ds[i]? = some d → ∃ v, l[i]? = some v ∧ toD v = some d
  | [], ds, i, d, h, hd => by simp [toDs] at h; subst h; simp at hd
  | v :: l, ds, i, d, h, hd => by
    simp only [toDs] at h
    split at h
    · rename_i x r h1 h2
      simp only [Option.some.injEq] at h; subst h
      cases i with
      | zero => simp at hd; subst hd; exact ⟨v, rfl, h1⟩
      | succ i => simpa using toDs_get h2 (by simpa using hd)
    · cases h
theorem toDs_length : ∀ {l : List AV} {ds : List D}, toDs l = some ds → ds.length = l.length
  | [], ds, h => by simp [toDs] at h; subst h; rfl
  | v :: l, ds, h => by
    simp only [toDs] at h
    split at h
    · rename_i x r h1 h2
      simp only [Option.some.injEq] at h; subst h
      simp [toDs_length h2]
    · cases h
/-- The cells of a frozen block are a list. -/
theorem rows_of_cells {w' : World} {K' : Nat → Prop} {n : Nat} {cs : List AV} {us : List Value} {ds : List D} {T k m b : Nat} (hr : RL w' K' β n cs us) (hd : toDs cs = some ds) (hl : cs.length = m * k) (hK : K' b) (hb : w'.heap[b]? = some (.cells us.toArray T (0, 0))) :
    RRows w' K' k (chunk k m ds) ⟨b, 0, none⟩ := by
  have hdl := toDs_length hd
  refine RRows_of fun i r hi => ?_
  obtain ⟨h1, rfl⟩ := chunk_get hi
  have hik : i * k + k ≤ m * k := by rw [← Nat.succ_mul]; exact Nat.mul_le_mul_right _ h1
  refine ⟨by simp; omega, RCells_of fun c d hc => ?_⟩
  rw [List.getElem?_take] at hc
  split at hc
  · rw [List.getElem?_drop] at hc
    obtain ⟨v, hv, htd⟩ := toDs_get hd hc
    obtain ⟨u, hu, hR⟩ := RL_get hr hv
    refine ⟨by rw [add_block]; exact hK, u, ?_, toD_ok htd hR⟩
    rw [Addr_add_add, add_addr]
    have := cell_own (w := w') (b := b) (base := 0) (pre := []) (us := us) (post := []) (T := T) (by simpa using hb) rfl hu
    exact this
  · cases hc
theorem fillA_one : ∀ {ps : List (Nat × Nat × AV)} {cs cs' : List AV}, fillA cs ps = some cs' → (∀ v ∈ cs, v.one = true) → cs'.length = cs.length ∧ ∀ v ∈ cs', v.one = true
  | [], cs, cs', h, h1 => by simp [fillA] at h; subst h; exact ⟨rfl, h1⟩
  | (o, z, v) :: ps, cs, cs', h, h1 => by
    simp only [fillA] at h
    split at h
    · rename_i l hl
      split at h
      · split at h
        · rename_i cs1 h2
          have hone : ∀ x ∈ l, x.one = true := by
            cases v with
            | agg l' =>
              simp only [AV.flat] at hl
              split at hl
              · rename_i ha; simp only [Option.some.injEq] at hl; subst hl; exact fun x hx => List.all_eq_true.1 ha x hx
              · cases hl
            | tup l' => cases hl
            | _ => simp only [AV.flat, Option.some.injEq] at hl; subst hl; intro x hx; simp at hx; subst hx; rfl
          unfold setA at h2
          split at h2
          · rename_i hle
            simp only [Option.some.injEq] at h2; subst h2
            obtain ⟨q1, q2⟩ := fillA_one h (by
              intro x hx
              simp only [List.append_assoc, List.mem_append] at hx
              rcases hx with hx | hx | hx
              · exact h1 x (List.mem_of_mem_take hx)
              · exact hone x hx
              · exact h1 x (List.mem_of_mem_drop hx))
            refine ⟨?_, q2⟩
            rw [q1]; simp; omega
          · cases h2
        · cases h
      · cases h
    · cases h
theorem bslice_ok {T el k n : Nat} {z : List Value} (hu : P.underlying T = some (.slice el)) (hs : sizeT P el = some k) (hz0 : zeroOf P el = some z) (hc : n * k ≤ 16777216 ∧ z.length = k ∧ 0 < k)
    {Tm' : Tm} {a : Act} {ps : Array (Nat × Operand)} {qs : List (Nat × Nat × Operand)} {rs : List (Nat × Nat × AV)} {C : Prop} {v : AV} {s' : St}
    (hq : putP (fun i => some (i * k, k)) ps.toList = some qs) (hT : RT w K β s.length Tm' a) (hr : opdP Tm' qs = some rs) (h : bsliceA s el k n z rs = some (C, v, s')) (hz : Cz w K β s) :
    KGives P w K β s v s' (Instr.buildSlice T n (ps.map fun (i, x) => (i, a.eval x))) := by
  obtain ⟨i, zv, hi, hzv, hzc, h1⟩ := zeroOf_info hz0
  unfold bsliceA at h
  split at h
  · rename_i cs hf
    obtain ⟨us, e1, e2⟩ := fillA_ok hT ps.toList qs rs _ cs _ hq hr hf (RL_zeros hz0 n)
    have hlim : ¬ (n * k > 2 ^ 24) := by omega
    have hps : (ps.map fun (i, x) => (i, a.eval x)).toList = ps.toList.map fun p => (p.1, a.eval p.2) := by simp
    have hrun : (Instr.buildSlice T n (ps.map fun (i, x) => (i, a.eval x))).run P w = .ok (.slice (some ⟨w.heap.size, 0, none⟩) n n) (w.alloc (.cells us.toArray el)) := by
      by_cases hn : n * k = 0
      · have : n = 0 := by
          rcases Nat.mul_eq_zero.1 hn with h | h
          · exact h
          · omega
        subst this
        simp only [List.replicate_zero, List.flatten_nil] at e1
        have hm : (Array.range (0 * k)).map (fun j => (#[] : Array Value)[j % (#[] : Array Value).size]!) = ([] : List Value).toArray := by rw [hn]; simp [Array.range_zero']
        simp only [Instr.buildSlice, Sem.run_bind, run_underlying hu, Result.andThen_ok, run_sizeOf hs, if_neg hlim, Sem.run_pure, if_pos hn, hps, hm, e1]
        simp [newRow]
      · have hzr : ∀ w, (zeroValue el).run P w = .ok zv w := fun w => by simp [zeroValue, typeInfo, hi, hzv]
        have hm := made_arr hc.2.1 hc.2.2 n
        rw [← hzc] at hm
        simp only [Instr.buildSlice, Sem.run_bind, run_underlying hu, Result.andThen_ok, run_sizeOf hs, if_neg hlim, Sem.run_pure, if_neg hn, hzr, hm, hps, e1]
        simp [newRow]
    obtain ⟨hlen, hone⟩ := fillA_one hf zeros_one
    have hcl : cs.length = n * k := by
      rw [hlen, flatten_length (k := k) (fun r hr => by rw [(List.mem_replicate.1 hr).2]; simp [zeroA, hc.2.1]), List.length_replicate]
    have hul := RL_length e2
    split at h
    · rename_i ds hd
      simp only [Option.some.injEq, Prod.mk.injEq] at h; obtain ⟨rfl, rfl, rfl⟩ := h
      obtain ⟨c1, c2⟩ := hz.froz (w' := w.alloc (.cells us.toArray el)) (us := us) (T := el) (by simp [heap_alloc]) (io_alloc ..)
      refine ⟨_, _, _, _, hrun, c1, ?_, c2⟩
      simp only [R, chunk_length]
      refine ⟨some ⟨w.heap.size, 0, none⟩, rfl, .inr ⟨_, rfl, ?_⟩⟩
      exact rows_of_cells (T := el) (e2.mono (c2.stays hz) (Nat.le_refl _) (fun _ _ => rfl)) hd hcl (.inr rfl) (heap_alloc_new w _)
    · split at h
      · rename_i hall
        simp only [Option.some.injEq, Prod.mk.injEq] at h; obtain ⟨rfl, rfl, rfl⟩ := h
        obtain ⟨c1, c2⟩ := hz.new (w' := w.alloc (.cells us.toArray el)) (us := us) (post := []) (T := el) (k := k) (cap := n) (rows := chunk k n cs) (by simp [heap_alloc]) (io_alloc ..)
          (by rw [chunk_flatten hcl]; exact e2) (by rw [chunk_flatten hcl]; exact hone) (fun r hr => by
            obtain ⟨i, hi⟩ := List.getElem?_of_mem hr
            obtain ⟨q1, rfl⟩ := chunk_get hi
            have hik : i * k + k ≤ n * k := by rw [← Nat.succ_mul]; exact Nat.mul_le_mul_right _ q1
            simp; omega) (by simp; omega)
        refine ⟨_, _, _, _, hrun, c1, ?_, c2⟩
        simp only [R, lay_same]
        exact ⟨by simp, _, n, rfl, Nat.le_refl _, by simp, fun _ => by simp⟩
      · cases h
  · cases h
theorem mkslice_ok {T el : Nat} {i : TypeInfo} {z : List Value} (hu : P.underlying T = some (.slice el)) (hi : P.info? el = some i) (hz0 : zeroOf P el = some z) (hc : z.length = i.size ∧ 0 < i.size)
    {l c : AV} {ul uc : Value} {C : Prop} {v : AV} {s' : St} (h : mksliceA s el i.size i.bytes z l c = some (C, v, s')) (hC : C) (hz : Cz w K β s) {n : Nat} (hl : R w K β n l ul) (hcc : R w K β n c uc) :
    KGives P w K β s v s' (Instr.makeSlice T ul uc) := by
  obtain ⟨i', zv, hi', hzv, hzc, h1⟩ := zeroOf_info hz0
  have : i' = i := Option.some.inj (hi'.symm.trans hi)
  subst this
  unfold mksliceA at h
  split at h
  · rename_i k1 a k2 b ha hb
    simp only [Option.some.injEq, Prod.mk.injEq] at h; obtain ⟨rfl, rfl, rfl⟩ := h
    rw [R_asI hl ha, R_asI hcc hb]
    have hrun := run_make (P := P) w T el i' zv hu hi hzv k1 k2 a b hC.1 hC.2.1 hC.2.2.1 hC.2.2.2
    have hm : madeCells zv.cells (b.toNat * i'.size) = ((List.replicate a.toNat z).flatten ++ (List.replicate (b.toNat - a.toNat) z).flatten).toArray := by
      have := made_arr hc.1 hc.2 b.toNat
      rw [hzc]
      unfold madeCells
      rw [this, ← List.flatten_append, List.replicate_append_replicate]
      have := hC.2.1
      rw [show a.toNat + (b.toNat - a.toNat) = b.toNat by omega]
    rw [hm] at hrun
    have hfl : ∀ m, ((List.replicate m z).flatten).length = m * i'.size := fun m => by
      rw [flatten_length (k := i'.size) (fun r hr => by rw [(List.mem_replicate.1 hr).2]; exact hc.1), List.length_replicate]
    obtain ⟨c1, c2⟩ := hz.new (w' := w.alloc (.cells ((List.replicate a.toNat z).flatten ++ (List.replicate (b.toNat - a.toNat) z).flatten).toArray el)) (us := (List.replicate a.toNat z).flatten) (post := (List.replicate (b.toNat - a.toNat) z).flatten)
      (T := el) (k := i'.size) (cap := b.toNat) (rows := List.replicate a.toNat (zeroA z)) (by simp [heap_alloc]) (io_alloc ..) (RL_zeros hz0 _) zeros_one (fun r hr => by rw [(List.mem_replicate.1 hr).2]; simp [zeroA, hc.1])
      (by rw [List.length_append, hfl, hfl, ← Nat.add_mul]; have := hC.2.1; congr 1; omega)
    refine ⟨_, _, _, _, hrun, c1, ?_, c2⟩
    simp only [R, lay_same]
    have := hC.2.1
    exact ⟨by simp, _, b.toNat, rfl, by omega, by simp, fun _ => by simp⟩
  · cases h
theorem litN_ok {x : Operand} {n : Nat} (h : litN x = some n) (a : Act) : ∃ k z, a.eval x = .int k z ∧ 0 ≤ z ∧ z ≤ 16777216 ∧ z.toNat = n := by
  unfold litN at h
  split at h
  · rename_i k z
    split at h
    · rename_i hz
      simp only [Option.some.injEq] at h
      exact ⟨k, z, rfl, hz.1, hz.2, h⟩
    · cases h
  · cases h
theorem mkz_run {T el : Nat} {i : TypeInfo} {z : List Value} (hu : P.underlying T = some (.slice el)) (hi : P.info? el = some i) (hz0 : zeroOf P el = some z) (hc : z.length = i.size ∧ 0 < i.size) {l c : Operand} {a n : Nat} {b : Act}
    (hl : litN l = some a) (hcc : litN c = some n) (hab : a = n ∧ i.bytes * n ≤ 281474976710656) (w : World) :
    (Instr.makeSlice T (b.eval l) (b.eval c)).run P w = .ok (.slice (some ⟨w.heap.size, 0, none⟩) a a) (w.alloc (.cells ((List.replicate a z).flatten).toArray el)) := by
  obtain ⟨i', zv, hi', hzv, hzc, h1⟩ := zeroOf_info hz0
  have : i' = i := Option.some.inj (hi'.symm.trans hi)
  subst this
  obtain ⟨k1, z1, e1, a1, a2, a3⟩ := litN_ok hl b
  obtain ⟨k2, z2, e2, b1, b2, b3⟩ := litN_ok hcc b
  obtain ⟨rfl, hby⟩ := hab
  have h12 : z1 = z2 := by omega
  subst h12
  rw [e1, e2, run_make (P := P) w T el i' zv hu hi' hzv k1 k2 z1 z1 a1 (Int.le_refl _) (by
    have : ((i'.bytes * a : Nat) : Int) ≤ 281474976710656 := by omega
    rw [Int.natCast_mul] at this
    rw [show z1 = (a : Int) by omega]; exact this) (by omega)]
  rw [a3]
  have := made_arr hc.1 hc.2 a
  rw [hzc]
  unfold madeCells
  rw [this]
theorem mkz_ok {T el : Nat} {i : TypeInfo} {z : List Value} (hu : P.underlying T = some (.slice el)) (hi : P.info? el = some i) (hz0 : zeroOf P el = some z) (hc : z.length = i.size ∧ 0 < i.size) {l c : Operand} {a n : Nat} {b : Act}
    (hl : litN l = some a) (hcc : litN c = some n) (hab : a = n ∧ i.bytes * n ≤ 281474976710656) (hz : Cz w K β s) :
    KGives P w K β s (.own s.length 0 a) (s ++ [some (.cells el i.size (List.replicate a (zeroA z)))]) (Instr.makeSlice T (b.eval l) (b.eval c)) := by
  have hfl : ((List.replicate a z).flatten).length = a * i.size := by
    rw [flatten_length (k := i.size) (fun r hr => by rw [(List.mem_replicate.1 hr).2]; exact hc.1), List.length_replicate]
  obtain ⟨c1, c2⟩ := hz.new (w' := w.alloc (.cells ((List.replicate a z).flatten).toArray el)) (us := (List.replicate a z).flatten) (post := []) (T := el) (k := i.size) (cap := a) (rows := List.replicate a (zeroA z)) (by simp [heap_alloc]) (io_alloc ..)
    (RL_zeros hz0 _) zeros_one (fun r hr => by rw [(List.mem_replicate.1 hr).2]; simp [zeroA, hc.1]) (by simpa using hfl)
  refine ⟨_, _, _, _, mkz_run hu hi hz0 hc hl hcc hab w, c1, ?_, c2⟩
  simp only [R, lay_same]
  exact ⟨by simp, _, a, rfl, Nat.le_refl _, by simp, fun _ => by simp⟩
end
end Go.Proofs.YtipanehdmhachaaGreatDoor.H

set_option linter.unusedSimpArgs false
set_option linter.unusedVariables false
set_option linter.unusedSectionVars false
namespace Go.Proofs.YtipanehdmhachaaGreatDoor.H
variable [DR]
section
variable {P : Program} {w : World} {K : Nat → Prop} {β : Nat → Loc} {s : St}
theorem run_append_none {t ty e : TypeId} {i : TypeInfo} (ht : P.underlying t = some (.slice e)) (hi : P.info? e = some i) (b : Option Addr) (n c : Nat) (hn : n ≤ c) (x : Option Addr) (c' : Nat) :
    (Builtin.append_ #[t, t] ty #[.slice b n c, .slice x 0 c']).run P w = .ok (.slice b n c) w := by
  cases x with
  | none => cases b <;> simp [Builtin.append_, run_underlying ht, sizeOf, typeInfo, hi, Builtin.lenOf, Builtin.firstCells, loadCells, loadCellsFrom, hn, storeCells]
  | some a => cases b <;> simp [Builtin.append_, run_underlying ht, sizeOf, typeInfo, hi, Builtin.lenOf, Builtin.firstCells, loadCells, loadCellsFrom, hn, storeCells]
/-- It grows: whatever the base, of which 'n' rows are read. -/
theorem append_grow (hz : Cz w K β s) {t ty e : TypeId} {i : TypeInfo} {z : Value} (ht : P.underlying t = some (.slice e)) (hi : P.info? e = some i) (hzv : i.zero = some z) (hzs : z.cells.size = i.size)
    {base : Option Addr} {n cap : Nat} (hcap : base = none → n = 0 ∧ cap = 0) {rows ys : List (List AV)} {olds news : List Value} (ho : RL w K β s.length rows.flatten olds) (hrn : rows.length = n) (hrk : ∀ r ∈ rows, r.length = i.size)
    (hold : ∀ b, base = some b → ∀ j v, olds[j]? = some v → w.cell? (b.add j) = some v) {a : Addr} {c : Nat} (hn : RL w K β s.length ys.flatten news) (hyk : ∀ r ∈ ys, r.length = i.size)
    (hnews : ∀ j v, news[j]? = some v → w.cell? (a.add j) = some v) (ho1 : ∀ v ∈ rows.flatten, v.one = true) (hn1 : ∀ v ∈ ys.flatten, v.one = true) (hm : 0 < ys.length) (hg : cap < n + ys.length)
    (hb : (n + ys.length) * i.bytes ≤ 140737488355328) (hl : n + ys.length ≤ 1000000000000) {rows' : List (List AV)} (hrows : rows' = rows ++ ys) :
    KGives P w K β s (.own s.length 0 (n + ys.length)) (s ++ [some (.cells e i.size rows')]) (Builtin.append_ #[t, t] ty #[.slice base n cap, .slice (some a) ys.length c]) := by
  subst hrows
  have hol : olds.length = n * i.size := by rw [RL_length ho, flatten_length hrk, hrn]
  have hnl : news.length = ys.length * i.size := by rw [RL_length hn, flatten_length hyk]
  have hrun : (Builtin.append_ #[t, t] ty #[.slice base n cap, .slice (some a) ys.length c]).run P w =
      .ok (.slice (some ⟨w.heap.size, 0, none⟩) (n + ys.length) (grownCap w (n + ys.length) cap e))
        (w.drew.alloc (.cells (olds.toArray ++ news.toArray ++ Builtin.zeroCells z.cells (grownCap w (n + ys.length) cap e - (n + ys.length))) e)) := by
    cases base with
    | none =>
      obtain ⟨rfl, rfl⟩ := hcap rfl
      have := run_append_nil (P := P) w t ty e i z ht hi hzv a ys.length c news hnl hnews hm (by omega) (by rw [Nat.zero_add] at hb; omega)
      have ho0 : olds = [] := List.eq_nil_of_length_eq_zero (by simpa using hol)
      subst ho0
      simpa using this
    | some b => exact run_append_grow (P := P) w t ty e i z ht hi hzv b n cap olds hol (hold b rfl) a ys.length c news hnl hnews hg (by omega) (growslice_fits hg hb)
  have hge := grownCap_ge w (n + ys.length) cap e
  have harr : (olds.toArray ++ news.toArray ++ Builtin.zeroCells z.cells (grownCap w (n + ys.length) cap e - (n + ys.length)) : Array Value) =
      ((olds ++ news) ++ (Builtin.zeroCells z.cells (grownCap w (n + ys.length) cap e - (n + ys.length))).toList).toArray := by apply Array.ext'; simp
  obtain ⟨c1, c2⟩ := hz.new (w' := w.drew.alloc (.cells (olds.toArray ++ news.toArray ++ Builtin.zeroCells z.cells (grownCap w (n + ys.length) cap e - (n + ys.length))) e)) (us := olds ++ news)
    (post := (Builtin.zeroCells z.cells (grownCap w (n + ys.length) cap e - (n + ys.length))).toList) (T := e) (k := i.size) (cap := grownCap w (n + ys.length) cap e) (rows := rows ++ ys) (by rw [heap_drew, harr]) (io_drew ..)
    (by rw [List.flatten_append]; exact RL_append ho hn) (by
      intro v hv
      rw [List.flatten_append] at hv
      rcases List.mem_append.1 hv with hv | hv
      · exact ho1 v hv
      · exact hn1 v hv) (by
      intro r hr
      rcases List.mem_append.1 hr with hr | hr
      · exact hrk r hr
      · exact hyk r hr) (by
      have hzl : (Builtin.zeroCells z.cells (grownCap w (n + ys.length) cap e - (n + ys.length))).toList.length = (grownCap w (n + ys.length) cap e - (n + ys.length)) * i.size := by
        rw [Array.length_toList, size_zeroCells, hzs]
      rw [List.length_append, List.length_append, hzl, hol, hnl, ← Nat.add_mul, ← Nat.add_mul]
      congr 1; omega)
  refine ⟨_, _, _, _, hrun, c1, ?_, c2⟩
  simp only [R, lay_same]
  exact ⟨by simp, _, _, rfl, hge, by simp, fun _ => by simp⟩
theorem append_ok {T ty el : TypeId} {i : TypeInfo} {z : List Value} (hu : P.underlying T = some (.slice el)) (hi : P.info? el = some i) (hz0 : zeroOf P el = some z) (hzi : z.length = i.size ∧ 0 < i.size)
    {x y : AV} {ux uy : Value} {C : Prop} {v : AV} {s' : St} (h : appendA s el i.size i.bytes x y = some (C, v, s')) (hC : C) (hz : Cz w K β s) (hx : R w K β s.length x ux) (hy : R w K β s.length y uy) :
    KGives P w K β s v s' (Builtin.append_ #[T, T] ty #[ux, uy]) := by
  obtain ⟨i', zv, hi', hzv, hzc, _⟩ := zeroOf_info hz0
  have : i' = i := Option.some.inj (hi'.symm.trans hi)
  subst this
  have hzs : zv.cells.size = i'.size := by rw [hzc]; simpa using hzi.1
  unfold appendA at h
  split at h
  · rename_i C0 ys hsrc
    split at h
    · -- nothing is appended
      have same : ∀ a n c, ux = .slice a n c → n ≤ c → C0 → v = x → s' = s → KGives P w K β s v s' (Builtin.append_ #[T, T] ty #[ux, uy]) := by
        intro a n c e1 e2 hC0 e3 e4
        subst e3 e4
        obtain ⟨⟨b, c', hb, _, _⟩, _, _⟩ := srcOf_ok hsrc hC0 hz hy
        refine ⟨ux, w, K, β, ?_, hz, hx, .refl (Nat.le_refl _)⟩
        rw [e1, hb]
        exact run_append_none hu hi a n c e2 b c'
      split at h
      · simp only [Option.some.injEq, Prod.mk.injEq] at h; obtain ⟨rfl, rfl, rfl⟩ := h
        have hx' := hx
        simp only [R] at hx'
        obtain ⟨a, e, _⟩ := hx'
        exact same a _ _ e (Nat.le_refl _) hC rfl rfl
      · simp only [Option.some.injEq, Prod.mk.injEq] at h; obtain ⟨rfl, rfl, rfl⟩ := h
        have hx' := hx
        simp only [R] at hx'
        obtain ⟨_, a, c, e, h2, _⟩ := hx'
        exact same _ _ _ e h2 hC rfl rfl
      · simp only [Option.some.injEq, Prod.mk.injEq] at h; obtain ⟨rfl, rfl, rfl⟩ := h
        have hx' := hx
        simp only [R, RD] at hx'
        obtain ⟨a, c, e, h2, _⟩ := hx'
        exact same _ _ _ e h2 hC rfl rfl
      · cases h
    · rename_i y1 yr
      split at h
      · rename_i k' rows
        simp only [Option.some.injEq, Prod.mk.injEq] at h; obtain ⟨rfl, rfl, rfl⟩ := h
        obtain ⟨hC0, hk, hb, hl⟩ := hC
        obtain ⟨⟨b, c', rfl, hyc, hform⟩, hy1, hyk⟩ := srcOf_ok hsrc hC0 hz hy
        rcases hform with hform | ⟨ay, news, rfl, hn, hnews⟩
        · simp at hform
        simp only [R] at hx
        obtain ⟨a, rfl, ha⟩ := hx
        obtain ⟨⟨a', c2, e1, _, hform⟩, ho1, hrk⟩ := src_rows (s := s) (β := β) hk (Nat.le_refl _) ha
        have hrl : (rowsA rows).length = rows.length := by simp [rowsA]
        rw [hrl] at e1 hform
        simp only [Value.slice.injEq, true_and] at e1
        obtain ⟨rfl, rfl⟩ := e1
        rcases hform with hform | ⟨x0, olds, rfl, ho, hold⟩
        · have hr0 : rows = [] := List.eq_nil_of_length_eq_zero hform
          subst hr0
          exact append_grow hz hu hi hzv hzs (n := 0) (cap := 0) (fun _ => ⟨rfl, rfl⟩) (rows := []) (olds := []) (by simp [RL]) rfl (by simp) (fun _ _ j v hj => by simp at hj) hn hyk hnews (by simp) hy1 (by simp) (by simp) hb hl (by simp [rowsA])
        · exact append_grow hz hu hi hzv hzs (n := rows.length) (cap := rows.length) (fun h => by cases h) ho hrl hrk (fun b hb j v hj => by cases hb; exact hold j v hj) hn hyk hnews ho1 hy1 (by simp) (by simp) hb hl rfl
      · rename_i id off len
        split at h
        · rename_i T' k' rows hc
          split at h
          · rename_i hTk
            obtain ⟨rfl, rfl⟩ := hTk
            simp only [Option.some.injEq, Prod.mk.injEq] at h; obtain ⟨rfl, rfl, rfl⟩ := h
            obtain ⟨hC0, hol, hb, hl⟩ := hC
            obtain ⟨⟨b, c', rfl, hyc, hform⟩, hy1, hyk⟩ := srcOf_ok hsrc hC0 hz hy
            rcases hform with hform | ⟨ay, news, rfl, hn, hnews⟩
            · simp at hform
            have hcs := cellsOf_some hc
            have hself : srcOf s i'.size (.own id off len) = some (off + len ≤ rows.length, (rows.drop off).take len) := by simp [srcOf, hc]
            obtain ⟨⟨a', c2, e1, hlc, hform⟩, ho1, hrk⟩ := srcOf_ok hself hol hz hx
            have hrl : ((rows.drop off).take len).length = len := by simp; omega
            rw [hrl] at e1 hform
            have hxR := hx
            simp only [R] at hxR
            obtain ⟨hid, x0, c, hux, h2, h3, h4⟩ := hxR
            rw [hux] at e1
            simp only [Value.slice.injEq, true_and] at e1
            obtain ⟨rfl, rfl⟩ := e1
            subst hux
            have hnl : news.length = (y1 :: yr).length * i'.size := by rw [RL_length hn, flatten_length hyk]
            obtain ⟨pre, us, post, e1, e2, e3, e4, e5, e6, e7⟩ := hz.cells hcs
            by_cases hroom : len + (y1 :: yr).length ≤ c
            · -- there is room
              have hx0 := h4 (by simp at hroom; omega)
              subst hx0
              have hul := RL_length e3
              rw [flatten_length e7] at hul
              generalize hL : pre ++ us ++ post = L at e1 e4
              have hoff : off * i'.size + len * i'.size ≤ us.length := by rw [hul, ← Nat.add_mul]; exact Nat.mul_le_mul_right _ hol
              have hcap : off * i'.size + c * i'.size = (β id).cap * i'.size := by rw [← Nat.add_mul, h3]
              have hmc : len * i'.size + news.length ≤ c * i'.size := by rw [hnl, ← Nat.add_mul]; exact Nat.mul_le_mul_right _ hroom
              have hLl : L.length = (β id).base + (β id).cap * i'.size := e4
              have hf := run_firstCells_some (P := P) w i'.size (y1 :: yr).length ay (y1 :: yr).length c' news hnl hnews
              have hvone : ∀ u ∈ news, u.oneCell' = true := fun u hu => by
                obtain ⟨j, hj⟩ := List.getElem?_of_mem hu
                have hlen := RL_length hn
                have hjl : j < (y1 :: yr).flatten.length := by have := (List.getElem?_eq_some_iff.1 hj).1; omega
                exact ((RL_iff.1 hn).2 j _ u (by simp only [List.getElem?_eq_getElem hjl]) hj).one (hy1 _ (List.getElem_mem hjl))
              have hst := run_storeCells_at P (β id).b ((β id).base + off * i'.size + len * i'.size) T' news 0 _ w e1 (by simp only [List.size_toArray, Nat.add_zero]; omega) hvone
              simp only [Nat.add_zero] at hst
              obtain ⟨s1, s2, s3⟩ := cells_split (L := L) (o := off * i'.size) (m := len * i'.size) hL.symm hoff
              have hnew : L.take ((β id).base + off * i'.size + len * i'.size) ++ news ++ L.drop ((β id).base + off * i'.size + len * i'.size + news.length) =
                  (pre ++ us.take (off * i'.size)) ++ ((us.drop (off * i'.size)).take (len * i'.size) ++ news) ++ L.drop ((β id).base + off * i'.size + len * i'.size + news.length) := by
                rw [← e2, List.take_add, s1, s2]; simp [List.append_assoc]
              rw [hnew] at hst
              have hRn : RL w K β s.length ((rows.drop off).take len ++ y1 :: yr).flatten ((us.drop (off * i'.size)).take (len * i'.size) ++ news) := by
                have e7' : ∀ r ∈ rows.drop off, r.length = i'.size := fun r hr => e7 r (List.mem_of_mem_drop hr)
                rw [List.flatten_append, flatten_take e7', flatten_drop e7]
                exact RL_append (RL_take (RL_drop e3 _) _) hn
              obtain ⟨g1, g2⟩ := hz.move (base := (β id).base + off * i'.size) (cap := c) hcs e1 (pre := pre ++ us.take (off * i'.size)) (us := (us.drop (off * i'.size)).take (len * i'.size) ++ news) (post := L.drop ((β id).base + off * i'.size + len * i'.size + news.length))
                (rows' := (rows.drop off).take len ++ y1 :: yr) (by simp; omega) (by
                  rw [← hnew]
                  simp only [List.length_append, List.length_take, List.length_drop]; omega) hRn (by
                  intro v hv
                  rw [List.flatten_append] at hv
                  rcases List.mem_append.1 hv with hv | hv
                  · exact ho1 v hv
                  · exact hy1 v hv) (by
                  intro r hr
                  rcases List.mem_append.1 hr with hr | hr
                  · exact hrk r hr
                  · exact hyk r hr)
              refine ⟨.slice (some ⟨(β id).b, (β id).base + off * i'.size, none⟩) (len + (y1 :: yr).length) c, _, _, _, ?_, g1, ?_, g2⟩
              · rw [e5]
                simp only [List.length_cons] at hroom hf
                simp only [List.append_assoc] at hst
                simp [Builtin.append_, run_underlying hu, sizeOf, typeInfo, hi, Builtin.lenOf, hroom, hf, add_addr, hst]
              · simp only [R, lay_same]
                exact ⟨by simp, _, c, rfl, hroom, by simp, fun _ => by simp⟩
            · obtain ⟨d1, d2⟩ := hz.drop1 id
              have hls : (s.set id none).length = s.length := by simp
              have := append_grow (s := s.set id none) (ty := ty) d1 hu hi hzv hzs (base := some x0) (n := len) (cap := c) (fun h => by cases h) (rows := (rows.drop off).take len)
                (olds := ((us.drop (off * i'.size)).take (len * i'.size))) (by
                  have e7' : ∀ r ∈ rows.drop off, r.length = i'.size := fun r hr => e7 r (List.mem_of_mem_drop hr)
                  rw [hls, flatten_take e7', flatten_drop e7]
                  exact RL_take (RL_drop e3 _) _) hrl hrk (fun b hb j v hj => by
                    cases hb
                    rw [List.getElem?_take] at hj
                    split at hj
                    · rename_i hjl
                      have hlp : 0 < len := by
                        rcases Nat.eq_zero_or_pos len with h | h
                        · subst h; simp at hjl
                        · exact h
                      rw [h4 (by omega), add_addr]
                      rw [List.getElem?_drop] at hj
                      rw [e5, Nat.add_assoc]
                      exact cell_own e1 e2 hj
                    · cases hj) (a := ay) (c := c') (ys := y1 :: yr) (news := news) (by rw [hls]; exact hn) hyk hnews ho1 hy1 (by simp) (by omega) hb hl rfl
              obtain ⟨u, w', K', β', q1, q2, q3, q4⟩ := this
              rw [hls] at q3 q4
              exact ⟨u, w', K', β', q1, q2, q3, d2.trans (Nat.le_refl _) q4⟩
          · cases h
        · cases h
      · rename_i k' rows n
        simp only [Option.some.injEq, Prod.mk.injEq] at h; obtain ⟨rfl, rfl, rfl⟩ := h
        obtain ⟨hC0, hk, hn', hgr, hb, hl⟩ := hC
        obtain ⟨⟨b, c', rfl, hyc, hform⟩, hy1, hyk⟩ := srcOf_ok hsrc hC0 hz hy
        rcases hform with hform | ⟨ay, news, rfl, hn, hnews⟩
        · simp at hform
        simp only [R] at hx
        obtain ⟨a, rfl, _, ha⟩ := hx
        have hl2 : (rows.take n).length = n := by rw [List.length_take]; omega
        have ha2 : (rows.take n).length = 0 ∨ ∃ x, a = some x ∧ RRows w K k' (rows.take n) x := by
          rcases ha with ha | ⟨x, hx, ha⟩
          · left; omega
          · exact .inr ⟨x, hx, RRows_take ha n⟩
        obtain ⟨⟨a', c2, e1, _, hform⟩, ho1, hrk⟩ := src_rows (s := s) (β := β) (.inl hk) (c := rows.length) (by omega) ha2
        have hrl : (rowsA (rows.take n)).length = n := by simp only [rowsA, List.length_map]; exact hl2
        rw [hrl, hl2] at e1
        rw [hrl] at hform
        simp only [Value.slice.injEq, true_and] at e1
        obtain ⟨rfl, rfl⟩ := e1
        rcases hform with hform | ⟨x0, olds, rfl, ho, hold⟩
        · subst hform
          exact append_grow hz hu hi hzv hzs (n := 0) (cap := rows.length) (fun h => ⟨rfl, by
            rcases ha with ha | ⟨x, hx, _⟩
            · exact ha
            · rw [h] at hx; cases hx⟩) (rows := []) (olds := []) (by simp [RL]) rfl (by simp) (fun _ _ j v hj => by simp at hj) hn hyk hnews (by simp) hy1 (by simp) (by simpa using hgr) hb hl (by simp [rowsA])
        · exact append_grow hz hu hi hzv hzs (n := n) (cap := rows.length) (fun h => by cases h) ho hrl hrk (fun b hb j v hj => by cases hb; exact hold j v hj) hn hyk hnews ho1 hy1 (by simp) (by simpa using hgr) hb hl rfl
      · cases h
  · cases h
theorem copy_ok {T T' ty el : TypeId} {k : Nat} (hu : P.underlying T = some (.slice el)) (hs : sizeT P el = some k) {x y : AV} {ux uy : Value} {C : Prop} {v : AV} {s' : St} (h : copyA s k x y = some (C, v, s')) (hC : C) (hz : Cz w K β s)
    (hx : R w K β s.length x ux) (hy : R w K β s.length y uy) : KGives P w K β s v s' (Builtin.copy_ #[T, T'] ty #[ux, uy]) := by
  unfold copyA at h
  split at h
  · rename_i id i off len C0 ys hsrc
    split at h
    · rename_i T1 k' rows hc
      simp only [Option.some.injEq, Prod.mk.injEq] at h; obtain ⟨rfl, rfl, rfl⟩ := h
      obtain ⟨hC0, hlen, hi, hle⟩ := hC
      obtain ⟨⟨b, c', rfl, hyc, hform⟩, hy1, hyk⟩ := srcOf_ok hsrc hC0 hz hy
      simp only [R] at hx
      obtain ⟨hid, rfl⟩ := hx
      have hfl := flatten_length hyk
      obtain ⟨us, hr, hf⟩ : ∃ us, RL w K β s.length ys.flatten us ∧ (Builtin.firstCells k ys.length (.slice b ys.length c')).run P w = .ok us.toArray w := by
        rcases hform with hform | ⟨a, us, rfl, hr, hcell⟩
        · have : ys = [] := List.eq_nil_of_length_eq_zero hform
          subst this
          refine ⟨[], by simp [RL], ?_⟩
          cases b <;> simp [Builtin.firstCells, loadCells, loadCellsFrom]
        · exact ⟨us, hr, run_firstCells_some (P := P) w k ys.length a ys.length c' us (by rw [RL_length hr, hfl]) hcell⟩
      obtain ⟨w', g1, g2, g3⟩ := setRow_ok (P := P) (off := off) hz (cellsOf_some hc) hi hr hy1 (by rw [hfl, hlen]; exact hle)
      refine ⟨.int .i64 len, w', K, β, ?_, g2, R_int _ _, g3⟩
      subst hlen
      simp [Builtin.copy_, run_underlying hu, Builtin.lenOf, run_sizeOf hs, hf, g1, goInt]
    · cases h
  · cases h
/-- The law of all of them. -/
theorem evK_ok {o : Op} {c : KO} (hc : kop P o = some c) {T : Tm} {C : Prop} {v : AV} {s' : St} (he : evK s T c = some (C, v, s')) (hC : C) (hz : Cz w K β s) {a : Act} (hT : RT w K β s.length T a) (dst : Option Nat) (ty : TypeId) (pos : String) (aft : Array Edge) (grd : Option (Nat × Bool)) :
    ∃ nx u w' K' β', (execOp a.eval { dst := dst, op := o, type := ty, pos := pos, after := aft, guard := grd }).run P w = .ok nx w' ∧ (nx = .value u ∨ (nx = .skip ∧ u = undef)) ∧ Cz w' K' β' s' ∧ R w' K' β' s'.length v u ∧ Ext s.length w K β s w' K' β' s' := by
  have fin : ∀ {r : Sem Value}, KGives P w K β s v s' r → (execOp a.eval { dst := dst, op := o, type := ty, pos := pos, after := aft, guard := grd } = (do pure (.value (← r)))) →
      ∃ nx u w' K' β', (execOp a.eval { dst := dst, op := o, type := ty, pos := pos, after := aft, guard := grd }).run P w = .ok nx w' ∧ (nx = .value u ∨ (nx = .skip ∧ u = undef)) ∧ Cz w' K' β' s' ∧ R w' K' β' s'.length v u ∧ Ext s.length w K β s w' K' β' s' := by
    intro r hr he
    obtain ⟨u, w', K', β', e1, e2, e3, e4⟩ := hr
    exact ⟨.value u, u, w', K', β', by rw [he]; simp only [Sem.run_bind, e1, Result.andThen_ok, Sem.run_pure], .inl rfl, e2, e3, e4⟩
  cases o with
  | assign x =>
    simp only [kop, Option.some.injEq] at hc; subst hc
    simp only [evK] at he
    split at he
    · rename_i v' hv
      simp only [Option.some.injEq, Prod.mk.injEq] at he; obtain ⟨rfl, rfl, rfl⟩ := he
      exact fin (r := pure (a.eval x)) ⟨a.eval x, w, K, β, by simp, hz, opd_ok hT hv, .refl (Nat.le_refl _)⟩ rfl
    · cases he
  | alloc T' =>
    simp only [kop] at hc
    split at hc
    · rename_i z hz0
      simp only [Option.some.injEq] at hc; subst hc
      simp only [evK, Option.some.injEq, Prod.mk.injEq] at he; obtain ⟨rfl, rfl, rfl⟩ := he
      exact fin (alloc_ok hz0 hz) rfl
    · cases hc
  | box T' x =>
    simp only [kop] at hc
    split at hc
    · rename_i n hs
      simp only [Option.some.injEq] at hc; subst hc
      simp only [evK] at he
      split at he
      · rename_i va hva
        exact fin (r := Instr.box T' (a.eval x)) (box_ok he hz (opd_ok hT hva)) rfl
      · cases he
    · cases hc
  | store T' x y =>
    simp only [kop] at hc
    split at hc
    · rename_i n hs
      simp only [Option.some.injEq] at hc; subst hc
      simp only [evK] at he
      split at he
      · rename_i va vb hva hvb
        obtain ⟨w', e1, e2, e3, rfl⟩ := store_ok hs he hC hz (opd_ok hT hva) (opd_ok hT hvb)
        exact ⟨.skip, undef, w', K, β, by simp [execOp, e1], .inr ⟨rfl, rfl⟩, e2, by simp [R, RL, undef], e3⟩
      · cases he
    · cases hc
  | buildSlice T' n ps =>
    simp only [kop] at hc
    split at hc
    · rename_i el hu
      split at hc
      · rename_i k z hs hz0
        split at hc
        · rename_i hcd
          split at hc
          · rename_i qs hq
            simp only [Option.some.injEq] at hc; subst hc
            simp only [evK] at he
            split at he
            · rename_i rs hr
              exact fin (bslice_ok hu hs hz0 hcd hq hT hr he hz) rfl
            · cases he
          · cases hc
        · cases hc
      · cases hc
    · cases hc
  | makeSlice T' l cc =>
    simp only [kop] at hc
    split at hc
    · rename_i el hu
      split at hc
      · rename_i i z hi hz0
        split at hc
        · rename_i hcd
          split at hc
          · rename_i na nb hna hnb
            split at hc
            · rename_i hab
              simp only [Option.some.injEq] at hc; subst hc
              simp only [evK, Option.some.injEq, Prod.mk.injEq] at he; obtain ⟨rfl, rfl, rfl⟩ := he
              exact fin (r := Instr.makeSlice T' (a.eval l) (a.eval cc)) (mkz_ok hu hi hz0 hcd hna hnb hab hz) rfl
            · cases hc
          · simp only [Option.some.injEq] at hc; subst hc
            simp only [evK] at he
            split at he
            · rename_i va vb hva hvb
              exact fin (r := Instr.makeSlice T' (a.eval l) (a.eval cc)) (mkslice_ok hu hi hz0 hcd he hC hz (opd_ok hT hva) (opd_ok hT hvb)) rfl
            · cases he
        · cases hc
      · cases hc
    · cases hc
  | call cl =>
    obtain ⟨callee, cargs, ctys⟩ := cl
    cases callee with
    | builtin b =>
      cases b with
      | append =>
        simp only [kop] at hc
        split at hc
        · rename_i T1 T2 x y hts has
          have hA : cargs = #[x, y] := by apply Array.ext'; simpa using has
          have hM : cargs.map a.eval = #[a.eval x, a.eval y] := by rw [hA]; simp
          split at hc
          · rename_i hTT
            subst hTT
            have hT' : ctys = #[T1, T1] := by apply Array.ext'; simpa using hts
            split at hc
            · rename_i el hu
              split at hc
              · rename_i i z hi hz0
                split at hc
                · rename_i hcd
                  simp only [Option.some.injEq] at hc; subst hc
                  simp only [evK] at he
                  split at he
                  · rename_i va vb hva hvb
                    exact fin (r := Builtin.append_ ctys ty (cargs.map a.eval)) (by rw [hT', hM]; exact append_ok hu hi hz0 hcd he hC hz (opd_ok hT hva) (opd_ok hT hvb)) (by simp [execOp, resolve, invoke, builtin])
                  · cases he
                · cases hc
              · cases hc
            · cases hc
          · cases hc
        · cases hc
      | copy =>
        simp only [kop] at hc
        split at hc
        · rename_i T1 T2 x y hts has
          have hA : cargs = #[x, y] := by apply Array.ext'; simpa using has
          have hM : cargs.map a.eval = #[a.eval x, a.eval y] := by rw [hA]; simp
          have hT' : ctys = #[T1, T2] := by apply Array.ext'; simpa using hts
          split at hc
          · rename_i el hu
            split at hc
            · rename_i k hs
              simp only [Option.some.injEq] at hc; subst hc
              simp only [evK] at he
              split at he
              · rename_i va vb hva hvb
                exact fin (r := Builtin.copy_ ctys ty (cargs.map a.eval)) (by rw [hT', hM]; exact copy_ok hu hs he hC hz (opd_ok hT hva) (opd_ok hT hvb)) (by simp [execOp, resolve, invoke, builtin])
              · cases he
            · cases hc
          · cases hc
        · cases hc
      | _ => simp [kop] at hc
    | value x =>
      cases x with
      | func f =>
        simp only [kop] at hc
        split at hc
        · simp only [Option.some.injEq] at hc; subst hc; cases he
        · cases hc
      | _ => simp only [kop, Option.some.injEq] at hc; subst hc; cases he
    | _ => simp [kop] at hc
  | _ => simp [kop] at hc
end
end Go.Proofs.YtipanehdmhachaaGreatDoor.H
