/- Other names for blocks; frozen blocks; functions; calls with fewer blocks. -/
import Derived.Test.YtcedkkleclhglaaHaR
set_option linter.unusedSimpArgs false
set_option linter.unusedVariables false
set_option linter.unusedSectionVars false
namespace Go.Proofs.Ytcedkkleclhglaa.H

/-! ### Names -/
mutual
def renA (r : Nat → Nat) : AV → AV
  | .ptr id i off => .ptr (r id) i off
  | .own id off len => .own (r id) off len
  | .osl id i off len => .osl (r id) i off len
  | .mp id => .mp (r id)
  | .agg l => .agg (renL r l)
  | .tup l => .tup (renL r l)
  | .fn f a c => .fn f (renL r a) (renL r c)
  | .d x => .d x
  | .ful k rows => .ful k rows
  | .elm k rows i off => .elm k rows i off
def renL (r : Nat → Nat) : List AV → List AV
  | [] => []
  | v :: l => renA r v :: renL r l
end
mutual
/-- It names only blocks below 'n'. -/
def belA (n : Nat) : AV → Bool
  | .ptr id _ _ => decide (id < n)
  | .own id _ _ => decide (id < n)
  | .osl id _ _ _ => decide (id < n)
  | .mp id => decide (id < n)
  | .agg l => belL n l
  | .tup l => belL n l
  | .fn _ a c => belL n a && belL n c
  | _ => true
def belL (n : Nat) : List AV → Bool
  | [] => true
  | v :: l => belA n v && belL n l
end
theorem renL_map (r : Nat → Nat) : ∀ l, renL r l = l.map (renA r)
  | [] => rfl
  | v :: l => by simp [renL, renL_map r l]
theorem belL_iff {n : Nat} : ∀ {l : List AV}, belL n l = true ↔ ∀ v ∈ l, belA n v = true
  | [] => by simp [belL]
  | v :: l => by simp [belL, belL_iff]
section
variable {w : World} {K : Nat → Prop} {β β' : Nat → Loc} {n n' : Nat} {r : Nat → Nat}
mutual
theorem R_unren (hb : ∀ i, i < n' → β' i = β (r i)) : ∀ {v : AV} {u : Value}, R w K β n (renA r v) u → belA n' v = true → R w K β' n' v u
  | .d x, u, h, _ => h
  | .ful k rows, u, h, _ => h
  | .elm k rows i off, u, h, _ => h
  | .ptr id i off, u, h, hl => by
    have hl : id < n' := by simpa [belA] using hl
    simp only [renA, R] at h ⊢
    rw [hb _ hl]; exact ⟨hl, h.2⟩
  | .own id off len, u, h, hl => by
    have hl : id < n' := by simpa [belA] using hl
    simp only [renA, R] at h ⊢
    rw [hb _ hl]; exact ⟨hl, h.2⟩
  | .osl id i off len, u, h, hl => by
    have hl : id < n' := by simpa [belA] using hl
    simp only [renA, R] at h ⊢
    rw [hb _ hl]; exact ⟨hl, h.2⟩
  | .mp id, u, h, hl => by
    have hl : id < n' := by simpa [belA] using hl
    simp only [renA, R] at h ⊢
    rw [hb _ hl]; exact ⟨hl, h.2⟩
  | .agg l, u, h, hl => by
    simp only [renA, R] at h ⊢
    simp only [belA] at hl
    obtain ⟨us, h1, h2⟩ := h
    exact ⟨us, h1, RL_unren hb h2 hl⟩
  | .tup l, u, h, hl => by
    simp only [renA, R] at h ⊢
    simp only [belA] at hl
    obtain ⟨us, h1, h2⟩ := h
    exact ⟨us, h1, RL_unren hb h2 hl⟩
  | .fn f a c, u, h, hl => by
    simp only [renA, R] at h ⊢
    simp only [belA, Bool.and_eq_true] at hl
    obtain ⟨us, vs, h1, h2, h3⟩ := h
    exact ⟨us, vs, h1, RL_unren hb h2 hl.1, RL_unren hb h3 hl.2⟩
theorem RL_unren (hb : ∀ i, i < n' → β' i = β (r i)) : ∀ {l : List AV} {us : List Value}, RL w K β n (renL r l) us → belL n' l = true → RL w K β' n' l us
  | [], us, h, _ => h
  | v :: l, us, h, hl => by
    simp only [renL, RL] at h ⊢
    simp only [belL, Bool.and_eq_true] at hl
    obtain ⟨u, us', h1, h2, h3⟩ := h
    exact ⟨u, us', h1, R_unren hb h2 hl.1, RL_unren hb h3 hl.2⟩
end
mutual
theorem R_ren (hb : ∀ i, i < n' → β' i = β (r i)) (hr : ∀ i, i < n' → r i < n) : ∀ {v : AV} {u : Value}, R w K β' n' v u → R w K β n (renA r v) u
  | .d x, u, h => h
  | .ful k rows, u, h => h
  | .elm k rows i off, u, h => h
  | .ptr id i off, u, h => by
    simp only [renA, R] at h ⊢
    rw [← hb _ h.1]; exact ⟨hr _ h.1, h.2⟩
  | .own id off len, u, h => by
    simp only [renA, R] at h ⊢
    rw [← hb _ h.1]; exact ⟨hr _ h.1, h.2⟩
  | .osl id i off len, u, h => by
    simp only [renA, R] at h ⊢
    rw [← hb _ h.1]; exact ⟨hr _ h.1, h.2⟩
  | .mp id, u, h => by
    simp only [renA, R] at h ⊢
    rw [← hb _ h.1]; exact ⟨hr _ h.1, h.2⟩
  | .agg l, u, h => by
    simp only [renA, R] at h ⊢
    obtain ⟨us, h1, h2⟩ := h
    exact ⟨us, h1, RL_ren hb hr h2⟩
  | .tup l, u, h => by
    simp only [renA, R] at h ⊢
    obtain ⟨us, h1, h2⟩ := h
    exact ⟨us, h1, RL_ren hb hr h2⟩
  | .fn f a c, u, h => by
    simp only [renA, R] at h ⊢
    obtain ⟨us, vs, h1, h2, h3⟩ := h
    exact ⟨us, vs, h1, RL_ren hb hr h2, RL_ren hb hr h3⟩
theorem RL_ren (hb : ∀ i, i < n' → β' i = β (r i)) (hr : ∀ i, i < n' → r i < n) : ∀ {l : List AV} {us : List Value}, RL w K β' n' l us → RL w K β n (renL r l) us
  | [], us, h => h
  | v :: l, us, h => by
    simp only [renL, RL] at h ⊢
    obtain ⟨u, us', h1, h2, h3⟩ := h
    exact ⟨u, us', h1, R_ren hb hr h2, RL_ren hb hr h3⟩
end
def renB (r : Nat → Nat) : Blk → Blk
  | .cells T k rows => .cells T k (rows.map (renL r))
def belB (n : Nat) : Blk → Bool
  | .cells _ _ rows => rows.all (belL n)
theorem renA_one (r : Nat → Nat) (v : AV) : (renA r v).one = v.one := by cases v <;> rfl
theorem flatten_ren (r : Nat → Nat) (rows : List (List AV)) : (rows.map (renL r)).flatten = renL r rows.flatten := by
  rw [renL_map, List.map_flatten]
  congr 1
  exact List.map_congr_left fun l _ => renL_map r l
theorem belB_flat {n : Nat} {rows : List (List AV)} (h : rows.all (belL n) = true) : belL n rows.flatten = true := by
  rw [belL_iff]
  intro v hv
  obtain ⟨l, hl, hv⟩ := List.mem_flatten.1 hv
  exact belL_iff.1 (List.all_eq_true.1 h l hl) v hv
theorem BlkOK_unren (hb : ∀ i, i < n' → β' i = β (r i)) {p : Loc} {b : Blk} (h : BlkOK w K β n p (renB r b)) (hl : belB n' b = true) : BlkOK w K β' n' p b := by
  cases b with
  | cells T k rows =>
    obtain ⟨pre, us, post, h1, h2, h3, h4, h5, h6, h7⟩ := h
    rw [flatten_ren] at h3 h6
    refine ⟨pre, us, post, h1, h2, RL_unren hb h3 (belB_flat hl), h4, h5, fun v hv => ?_, fun l hl' => ?_⟩
    · have := h6 (renA r v) (by rw [renL_map]; exact List.mem_map_of_mem hv)
      rw [renA_one] at this; exact this
    · have := h7 (renL r l) (List.mem_map_of_mem hl')
      rw [renL_map, List.length_map] at this; exact this
theorem BlkOK_ren (hb : ∀ i, i < n' → β' i = β (r i)) (hr : ∀ i, i < n' → r i < n) {p : Loc} {b : Blk} (h : BlkOK w K β' n' p b) : BlkOK w K β n p (renB r b) := by
  cases b with
  | cells T k rows =>
    obtain ⟨pre, us, post, h1, h2, h3, h4, h5, h6, h7⟩ := h
    refine ⟨pre, us, post, h1, h2, by rw [flatten_ren]; exact RL_ren hb hr h3, h4, h5, fun v hv => ?_, fun l hl' => ?_⟩
    · rw [flatten_ren, renL_map] at hv
      obtain ⟨x, hx, rfl⟩ := List.mem_map.1 hv
      rw [renA_one]; exact h6 x hx
    · obtain ⟨x, hx, rfl⟩ := List.mem_map.1 hl'
      rw [renL_map, List.length_map]; exact h7 x hx
end
section
variable {P : Program} {N m : Nat} {T : Tm} {s : St} {Q : Fl → Tm → St → Prop}
/-- Other names for the blocks behind the first 'm', of which some may be given up; temporaries may be forgotten. -/
theorem AW.norm {c : Cd} (r : Nat → Nat) {T' : Tm} {s' : St} (h : AW P N m c T' s' Q) (hr : ∀ i, i < m → r i = i) (hm' : m ≤ s'.length) (hi : ∀ i j, Alive s' i → Alive s' j → i ≠ j → r i ≠ r j)
    (hT : ∀ i v, tget T' i = some v → belA s'.length v = true ∧ tget T i = some (renA r v)) (hs : ∀ (i : Nat) b, s'[i]? = some (some b) → belB s'.length b = true ∧ s[r i]? = some (some (renB r b))) : AW P N m c T s Q := by
  intro code hc w K β a hf hm
  have al : ∀ i, Alive s' i → Alive s (r i) := fun i ⟨b, hb⟩ => ⟨_, (hs i b hb).2⟩
  have hbb : ∀ i, i < s'.length → (fun i => β (r i)) i = β (r i) := fun _ _ => rfl
  have hcz : Cz w K (fun i => β (r i)) s' := ⟨fun i b hb => BlkOK_unren hbb (hf.cz.blk _ _ (hs i b hb).2) (hs i b hb).1, fun i j h1 h2 h3 => hf.cz.inj _ _ (al i h1) (al j h2) (hi i j h1 h2 h3), fun i h1 => hf.cz.dis _ (al i h1), hf.cz.kb⟩
  refine wp_mono (h code hc w K _ a ⟨hcz, fun i v hv => ?_, hf.sz, hf.df⟩ hm') (After.trans ?_)
  · obtain ⟨u, h1, h2⟩ := hf.rt i _ (hT i v hv).2
    exact ⟨u, h1, R_unren hbb h2 (hT i v hv).1⟩
  · exact { size := Nat.le_refl _, io := .refl _, fix := fun i hi' => by rw [hr i hi'], len := hm', frame := fun _ _ _ => rfl, kmono := fun _ h => h, knew := fun _ h => .inl h, onew := fun i h1 => .inr ⟨r i, al i h1, rfl⟩ }

/-! ### Frozen blocks -/
mutual
def frzA (id k : Nat) (rows : List (List D)) : AV → AV
  | .own j off len => if j = id then .d (.lst k ((rows.drop off).take len)) else .own j off len
  | .agg l => .agg (frzL id k rows l)
  | .tup l => .tup (frzL id k rows l)
  | .fn f a c => .fn f (frzL id k rows a) (frzL id k rows c)
  | v => v
def frzL (id k : Nat) (rows : List (List D)) : List AV → List AV
  | [] => []
  | v :: l => frzA id k rows v :: frzL id k rows l
end
mutual
def fitA (id n : Nat) : AV → Prop
  | .own j off len => j = id → off + len ≤ n
  | .agg l => fitL id n l
  | .tup l => fitL id n l
  | .fn _ a c => fitL id n a ∧ fitL id n c
  | _ => True
def fitL (id n : Nat) : List AV → Prop
  | [] => True
  | v :: l => fitA id n v ∧ fitL id n l
end
/-- The rows of an own block, as a list. -/
theorem rowsA_list {w : World} {K : Nat → Prop} {β : Nat → Loc} {n b base k T off len : Nat} {rows : List (List D)} {pre us post : List Value} (h1 : w.heap[b]? = some (.cells (pre ++ us ++ post).toArray T (0, 0))) (h2 : pre.length = base)
    (h3 : RL w K β n (rowsA rows).flatten us) (h7 : ∀ r ∈ rowsA rows, r.length = k) (hK : K b) : RRows w K k ((rows.drop off).take len) ⟨b, base + off * k, none⟩ := by
  have hk : ∀ r ∈ rows, r.length = k := fun r hr => by
    have := h7 (r.map .d) (List.mem_map_of_mem hr)
    simpa using this
  have e : (rowsA rows).flatten = rows.flatten.map .d := by simp [rowsA, List.map_flatten]
  rw [e] at h3
  refine RRows_take (RRows_of fun i r hi => ?_) _
  rw [List.getElem?_drop] at hi
  refine ⟨hk r (List.mem_of_getElem? hi), RCells_of fun c d hc => ?_⟩
  have hd := flatten_get hk hi hc
  obtain ⟨u, hu, hR⟩ := RL_get h3 (v := .d d) (by rw [List.getElem?_map, hd]; rfl)
  refine ⟨by rw [add_block]; exact hK, u, ?_, by simpa only [R] using hR⟩
  rw [Addr_add_add, add_addr, Nat.add_assoc]
  have := cell_own h1 h2 hu
  rw [show off * k + (i * k + c) = (off + i) * k + c by rw [Nat.add_mul]; omega]
  exact this
section
variable {w : World} {K K' : Nat → Prop} {β : Nat → Loc} {n id k : Nat} {rows : List (List D)}
/-- What makes a list of an own slice. -/
structure FrzH (w : World) (K' : Nat → Prop) (β : Nat → Loc) (id k : Nat) (rows : List (List D)) : Prop where
  kk : (β id).k = k
  rr : ∀ off len, RRows w K' k ((rows.drop off).take len) ⟨(β id).b, (β id).base + off * k, none⟩
mutual
theorem R_frz (hK : Stays w K w K') (hf : FrzH w K' β id k rows) : ∀ {v : AV} {u : Value}, R w K β n v u → fitA id rows.length v → R w K' β n (frzA id k rows v) u
  | .d x, u, h, _ => h.mono hK (Nat.le_refl _) fun _ _ => rfl
  | .ful _ _, u, h, _ => h.mono hK (Nat.le_refl _) fun _ _ => rfl
  | .elm .., u, h, _ => h.mono hK (Nat.le_refl _) fun _ _ => rfl
  | .ptr .., u, h, _ => h.mono hK (Nat.le_refl _) fun _ _ => rfl
  | .osl .., u, h, _ => h.mono hK (Nat.le_refl _) fun _ _ => rfl
  | .mp .., u, h, _ => h.mono hK (Nat.le_refl _) fun _ _ => rfl
  | .own j off len, u, h, hfit => by
    simp only [frzA]
    split
    · rename_i e
      subst e
      simp only [fitA, forall_const] at hfit
      simp only [R] at h
      obtain ⟨_, x, c, rfl, h2, h3, h4⟩ := h
      have hl : ((rows.drop off).take len).length = len := by simp; omega
      simp only [R, RD]
      refine ⟨some x, c, by rw [hl], by rw [hl]; exact h2, ?_⟩
      by_cases hc : 0 < c
      · right
        refine ⟨x, rfl, ?_⟩
        rw [h4 hc, hf.kk]; exact hf.rr off len
      · left; rw [hl]; omega
    · exact h.mono hK (Nat.le_refl _) fun _ _ => rfl
  | .agg l, u, h, hfit => by
    simp only [frzA, R] at h ⊢
    obtain ⟨us, h1, h2⟩ := h
    exact ⟨us, h1, RL_frz hK hf h2 hfit⟩
  | .tup l, u, h, hfit => by
    simp only [frzA, R] at h ⊢
    obtain ⟨us, h1, h2⟩ := h
    exact ⟨us, h1, RL_frz hK hf h2 hfit⟩
  | .fn f a c, u, h, hfit => by
    simp only [frzA, R] at h ⊢
    simp only [fitA] at hfit
    obtain ⟨us, vs, h1, h2, h3⟩ := h
    exact ⟨us, vs, h1, RL_frz hK hf h2 hfit.1, RL_frz hK hf h3 hfit.2⟩
theorem RL_frz (hK : Stays w K w K') (hf : FrzH w K' β id k rows) : ∀ {l : List AV} {us : List Value}, RL w K β n l us → fitL id rows.length l → RL w K' β n (frzL id k rows l) us
  | [], us, h, _ => h
  | v :: l, us, h, hfit => by
    simp only [frzL, RL] at h ⊢
    simp only [fitL] at hfit
    obtain ⟨u, us', h1, h2, h3⟩ := h
    exact ⟨u, us', h1, R_frz hK hf h2 hfit.1, RL_frz hK hf h3 hfit.2⟩
end
end
theorem FrzH.of {w : World} {K K' : Nat → Prop} {β : Nat → Loc} {id T k : Nat} {rows : List (List D)} (hz : Cz w K β s) (hid : s[id]? = some (some (.cells T k (rowsA rows)))) (hK : Stays w K w K') (hb : K' (β id).b) : FrzH w K' β id k rows := by
  obtain ⟨pre, us, post, e1, e2, e3, e4, e5, e6, e7⟩ := hz.cells hid
  exact ⟨e5, fun off len => rowsA_list e1 e2 (e3.mono hK (Nat.le_refl _) fun _ _ => rfl) e7 hb⟩
/-- An own block is given up to lists. -/
theorem AW.freeze {c : Cd} {id t k : Nat} {rows : List (List D)} (hid : s[id]? = some (some (.cells t k (rowsA rows)))) {T' : Tm} (h : AW P N m c T' (s.set id none) Q)
    (hT : ∀ i v', tget T' i = some v' → ∃ v, tget T i = some v ∧ v' = frzA id k rows v ∧ fitA id rows.length v) : AW P N m c T s Q := by
  intro code hc w K β a hf hm
  have hal : Alive s id := ⟨_, hid⟩
  let K' : Nat → Prop := fun b => K b ∨ b = (β id).b
  have hK : Stays w K w K' := ⟨fun _ h => .inl h, fun _ _ => rfl⟩
  have hF : FrzH w K' β id k rows := .of hf.cz hid hK (.inr rfl)
  have get : ∀ {i b}, (s.set id none)[i]? = some (some b) → i ≠ id ∧ s[i]? = some (some b) := fun {i b} h => by
    rw [List.getElem?_set] at h
    split at h
    · split at h <;> simp at h
    · rename_i e; exact ⟨fun e' => e e'.symm, h⟩
  have hcz : Cz w K' β (s.set id none) := by
    refine ⟨fun i b hi => ?_, fun i j ⟨b, hi⟩ ⟨c, hj⟩ => hf.cz.inj i j ⟨b, (get hi).2⟩ ⟨c, (get hj).2⟩, fun i ⟨b, hi⟩ hk => ?_, fun b hb => ?_⟩
    · rw [List.length_set]; exact hf.cz.old hK (Nat.le_refl _) (fun _ _ => rfl) (get hi).2 rfl
    · rcases hk with hk | hk
      · exact hf.cz.dis i ⟨b, (get hi).2⟩ hk
      · exact hf.cz.inj i id ⟨b, (get hi).2⟩ hal (get hi).1 hk
    · rcases hb with hb | hb
      · exact hf.cz.kb b hb
      · rw [hb]; exact hf.cz.lt hal
  refine wp_mono (h code hc w K' β a ⟨hcz, fun i v hv => ?_, hf.sz, hf.df⟩ (by simpa using hm)) (After.trans ?_)
  · obtain ⟨v0, h1, rfl, h3⟩ := hT i v hv
    obtain ⟨u, g1, g2⟩ := hf.rt i v0 h1
    exact ⟨u, g1, by rw [List.length_set]; exact R_frz hK hF g2 h3⟩
  · exact { size := Nat.le_refl _, io := .refl _, fix := fun _ _ => rfl, len := by simpa using hm, frame := fun _ _ _ => rfl, kmono := fun _ h => .inl h
            knew := fun b hb => by
              rcases hb with hb | hb
              · exact .inl hb
              · exact .inr (.inr ⟨id, hal, hb.symm⟩)
            onew := fun i ⟨b, hi⟩ => .inr ⟨i, ⟨b, (get hi).2⟩, rfl⟩ }
end
end Go.Proofs.Ytcedkkleclhglaa.H
