/- The laws of the operations that make or change blocks. -/
import Derived.Test.YtcedkkleclhglaaHaH
set_option linter.unusedSimpArgs false
set_option linter.unusedVariables false
set_option linter.unusedSectionVars false
namespace Go.Proofs.Ytcedkkleclhglaa.H
section
variable {P : Program} {w : World} {K : Nat → Prop} {β : Nat → Loc} {s : St}
/-- A run that gives a value that 'v' tells, and leaves memory as 's'' tells. -/
def KGives (P : Program) (w : World) (K : Nat → Prop) (β : Nat → Loc) (s : St) (v : AV) (s' : St) (r : Sem Value) : Prop :=
  ∃ u w' K' β', r.run P w = .ok u w' ∧ Cz w' K' β' s' ∧ R w' K' β' s'.length v u ∧ Ext s.length w K β s w' K' β' s'
theorem io_alloc (w : World) (o : Obj) : SameIO w (w.alloc o) := ⟨rfl, rfl, rfl⟩
theorem io_drew (w : World) (o : Obj) : SameIO w (w.drew.alloc o) := ⟨rfl, rfl, rfl⟩
theorem heap_alloc (w : World) (o : Obj) : (w.alloc o).heap = w.heap.push o := rfl
theorem heap_drew (w : World) (o : Obj) : (w.drew.alloc o).heap = w.heap.push o := rfl
theorem ptr_new {w' : World} {p : Loc} {n : Nat} (hn : s.length < n) (hp : p.base = 0) : R w' K (lay β s.length p) n (.ptr s.length 0 0) (.pointer (some ⟨p.b, 0, none⟩)) := by
  simp only [R, lay_same]
  exact ⟨hn, by simp [hp]⟩
theorem alloc_ok {T : TypeId} {z : List Value} (hz0 : zeroOf P T = some z) (hz : Cz w K β s) : KGives P w K β s (.ptr s.length 0 0) (s ++ [some (.cells T z.length [zeroA z])]) (Instr.alloc T true (.tuple #[])) := by
  obtain ⟨i, zv, hi, hzv, hc, h1⟩ := zeroOf_info hz0
  obtain ⟨c1, c2⟩ := hz.new (w' := w.alloc (.cells z.toArray T)) (us := z) (post := []) (T := T) (k := z.length) (cap := 1) (rows := [zeroA z]) (by simp [heap_alloc]) (io_alloc ..)
    (by simpa using zeroA_ok hz0) (by
      intro v hv
      simp only [List.flatten_cons, List.flatten_nil, List.append_nil, zeroA, List.mem_map] at hv
      obtain ⟨x, _, rfl⟩ := hv
      unfold zA1; split <;> rfl) (by simp [zeroA]) (by simp)
  refine ⟨_, _, _, _, ?_, c1, ptr_new (by simp) rfl, c2⟩
  simp [Instr.alloc, zeroValue, typeInfo, hi, hzv, newVar, newRow, hc]
theorem box_ok {T n : Nat} {x : AV} {ux : Value} {C : Prop} {v : AV} {s' : St} (h : boxA s T n x = some (C, v, s')) (hz : Cz w K β s) (hx : R w K β s.length x ux) : KGives P w K β s v s' (Instr.box T ux) := by
  unfold boxA at h
  split at h
  · rename_i l hl
    split at h
    · rename_i hn
      simp only [Option.some.injEq, Prod.mk.injEq] at h; obtain ⟨rfl, rfl, rfl⟩ := h
      obtain ⟨us, e1, e2, e3⟩ := flat_ok hl hx
      have hul := RL_length e2
      obtain ⟨c1, c2⟩ := hz.new (w' := w.alloc (.cells us.toArray T)) (us := us) (post := []) (T := T) (k := n) (cap := 1) (rows := [l]) (by simp [heap_alloc]) (io_alloc ..)
        (by simpa using e2) (by simpa using e3) (by simpa using hn) (by simp; omega)
      refine ⟨_, _, _, _, ?_, c1, ptr_new (by simp) rfl, c2⟩
      simp [Instr.box, newVar, newRow, e1]
    · cases h
  · cases h
theorem cells_split {L pre us post : List Value} {o m : Nat} (hL : L = pre ++ us ++ post) (ho : o + m ≤ us.length) : L.take (pre.length + o) = pre ++ us.take o ∧ (L.drop (pre.length + o)).take m = (us.drop o).take m ∧ L.drop (pre.length + o + m) = us.drop (o + m) ++ post := by
  subst hL
  refine ⟨?_, ?_, ?_⟩
  · rw [List.append_assoc, List.take_length_add_append, List.take_append_of_le_length (by omega)]
  · rw [List.append_assoc, List.drop_length_add_append, List.drop_append_of_le_length (by omega), List.take_append_of_le_length (by simp; omega)]
  · rw [Nat.add_assoc, List.append_assoc, List.drop_length_add_append, List.drop_append_of_le_length (by omega)]
/-- Rewriting some cells of a row. -/
theorem setRow_ok (hz : Cz w K β s) {id T k i off : Nat} {rows : List (List AV)} (hid : s[id]? = some (some (.cells T k rows))) (hi : i < rows.length) {l : List AV} {vs : List Value} (hl : RL w K β s.length l vs) (h1 : ∀ v ∈ l, v.one = true) (hle : off + l.length ≤ k) :
    ∃ w', (storeCells ⟨(β id).b, (β id).base + (i * (β id).k + off), none⟩ vs 0).run P w = .ok () w' ∧ Cz w' K β (s.set id (some (.cells T k (rows.set i (putRow k (rows.getD i []) off l))))) ∧
      Ext s.length w K β s w' K β (s.set id (some (.cells T k (rows.set i (putRow k (rows.getD i []) off l))))) := by
  obtain ⟨pre, us, post, e1, e2, e3, e4, e5, e6, e7⟩ := hz.cells hid
  have hvl := RL_length hl
  have hul := RL_length e3
  rw [flatten_length e7] at hul
  have hik : i * k + k ≤ us.length := by rw [hul, ← Nat.succ_mul]; exact Nat.mul_le_mul_right _ hi
  have hrow := getD_lt (d := ([] : List AV)) hi
  have hrl : (rows.getD i []).length = k := e7 _ (List.mem_of_getElem? hrow)
  have hrf : rows.getD i [] = (rows.flatten.drop (i * k)).take k := by
    rw [← flatten_drop e7 i]
    have : rows.drop i = rows.getD i [] :: rows.drop (i + 1) := by
      rw [← List.getElem_cons_drop hi]; simp [hi]
    rw [this, List.flatten_cons, List.take_append_of_le_length (by omega), List.take_of_length_le (by omega)]
  have hput : putRow k (rows.getD i []) off l = (rows.getD i []).take off ++ l ++ (rows.getD i []).drop (off + l.length) := by
    unfold putRow
    split
    · rename_i hc
      obtain ⟨rfl, hc⟩ := hc
      rw [List.drop_eq_nil_of_le (by omega)]; simp
    · rfl
  have hlen' : (putRow k (rows.getD i []) off l).length = k := by rw [hput]; simp only [List.length_append, List.length_take, List.length_drop]; omega
  have hold : ∀ v ∈ rows.getD i [], v.one = true := fun v hv => e6 v (List.mem_flatten.2 ⟨_, List.mem_of_getElem? hrow, hv⟩)
  -- the cells behind
  have huseg : us.take (i * k + off) ++ vs ++ us.drop (i * k + off + vs.length) = us.take (i * k) ++ (((us.drop (i * k)).take k).take off ++ vs ++ ((us.drop (i * k)).take k).drop (off + vs.length)) ++ us.drop (i * k + k) := by
    have a1 : us.take (i * k + off) = us.take (i * k) ++ ((us.drop (i * k)).take k).take off := by
      rw [List.take_take, Nat.min_eq_left (by omega), List.take_add]
    have a2 : us.drop (i * k + off + vs.length) = ((us.drop (i * k)).take k).drop (off + vs.length) ++ us.drop (i * k + k) := by
      rw [List.drop_take, List.drop_drop, ← Nat.add_assoc]
      have q := (List.take_append_drop (k - (off + vs.length)) (us.drop (i * k + off + vs.length))).symm
      rw [List.drop_drop, show i * k + off + vs.length + (k - (off + vs.length)) = i * k + k by omega] at q
      exact q
    rw [a1, a2]; simp [List.append_assoc]
  have hR : RL w K β s.length (rows.set i (putRow k (rows.getD i []) off l)).flatten (us.take (i * k + off) ++ vs ++ us.drop (i * k + off + vs.length)) := by
    rw [flatten_set e7 i _ hi, hput, huseg, hrf, hvl]
    exact RL_append (RL_append (RL_take e3 _) (RL_append (RL_append (RL_take (RL_take (RL_drop e3 _) _) _) hl) (RL_drop (RL_take (RL_drop e3 _) _) _))) (RL_drop e3 _)
  have hvone : ∀ u ∈ vs, u.oneCell' = true := fun u hu => by
    obtain ⟨j, hj⟩ := List.getElem?_of_mem hu
    have hjl : j < l.length := by have := (List.getElem?_eq_some_iff.1 hj).1; omega
    exact ((RL_iff.1 hl).2 j l[j] u (by simp [hjl]) hj).one (h1 _ (List.getElem_mem hjl))
  have hst := run_storeCells_at P (β id).b ((β id).base + (i * (β id).k + off)) T vs 0 _ w e1 (by simp; rw [e5, ← e2]; omega) hvone
  obtain ⟨s1, s2, s3⟩ := cells_split (L := pre ++ us ++ post) (o := i * k + off) (m := vs.length) rfl (by omega)
  have hnew : (pre ++ us ++ post).take ((β id).base + (i * (β id).k + off) + 0) ++ vs ++ (pre ++ us ++ post).drop ((β id).base + (i * (β id).k + off) + 0 + vs.length) = pre ++ (us.take (i * k + off) ++ vs ++ us.drop (i * k + off + vs.length)) ++ post := by
    rw [Nat.add_zero, e5, ← e2, s1, s3]; simp [List.append_assoc]
  simp only [hnew] at hst
  refine ⟨_, hst, hz.set hid e1 e2 e4 (by simp; omega) hR ?_ ?_⟩
  · intro v hv
    obtain ⟨r, hr, hv⟩ := List.mem_flatten.1 hv
    rcases List.mem_or_eq_of_mem_set hr with hr | rfl
    · exact e6 v (List.mem_flatten.2 ⟨r, hr, hv⟩)
    · rw [hput] at hv
      simp only [List.append_assoc, List.mem_append] at hv
      rcases hv with hv | hv | hv
      · exact hold v (List.mem_of_mem_take hv)
      · exact h1 v hv
      · exact hold v (List.mem_of_mem_drop hv)
  · intro r hr
    rcases List.mem_or_eq_of_mem_set hr with hr | rfl
    · exact e7 r hr
    · exact hlen'
theorem store_ok {T n : Nat} (hs : sizeT P T = some n) {x y : AV} {ux uy : Value} {C : Prop} {v : AV} {s' : St} (h : storeA s n x y = some (C, v, s')) (hC : C) (hz : Cz w K β s) (hx : R w K β s.length x ux) (hy : R w K β s.length y uy) :
    ∃ w', (Instr.storeAt T ux uy).run P w = .ok () w' ∧ Cz w' K β s' ∧ Ext s.length w K β s w' K β s' ∧ v = .tup [] := by
  unfold storeA at h
  split at h
  · rename_i id i off l hl
    split at h
    · rename_i T' k rows hc
      split at h
      · rename_i hle
        simp only [Option.some.injEq, Prod.mk.injEq] at h; obtain ⟨rfl, rfl, rfl⟩ := h
        simp only [R] at hx
        obtain ⟨hid, rfl⟩ := hx
        obtain ⟨us, e1, e2, e3⟩ := flat_ok hl hy
        have hul := RL_length e2
        obtain ⟨w', g1, g2, g3⟩ := setRow_ok (P := P) (off := off) hz (cellsOf_some hc) hC e2 e3 (by omega)
        exact ⟨w', by simp [Instr.storeAt, Instr.sureAddr, storeVar, run_sizeOf hs, e1, hul, hle.1, g1], g2, g3, rfl⟩
      · cases h
    · cases h
  · cases h
theorem RL_rowsA {rows : List (List D)} {k : Nat} {x : Addr} (h : RRows w K k rows x) : ∃ us, RL w K β s.length (rowsA rows).flatten us ∧ ∀ j u, us[j]? = some u → w.cell? (x.add j) = some u := by
  have hk : ∀ r ∈ rows, r.length = k := fun r hr => by
    obtain ⟨i, hi⟩ := List.getElem?_of_mem hr
    exact (RRows_get h hi).1
  have key : ∀ j d, rows.flatten[j]? = some d → ∃ u, w.cell? (x.add j) = some u ∧ RD w K d u := fun j d hj => by
    have hjl : j < rows.length * k := by rw [← flatten_length hk]; exact (List.getElem?_eq_some_iff.1 hj).1
    have hk0 : 0 < k := by
      rcases Nat.eq_zero_or_pos k with h0 | h0
      · subst h0; simp at hjl
      · exact h0
    have hi : j / k < rows.length := (Nat.div_lt_iff_lt_mul hk0).2 hjl
    have hc : j % k < k := Nat.mod_lt _ hk0
    have hr := getD_lt (d := ([] : List D)) hi
    have hrl := hk _ (List.mem_of_getElem? hr)
    have hd := getD_lt (l := rows.getD (j / k) []) (d := (default : D)) (by rw [hrl]; exact hc)
    have e := flatten_get hk hr hd
    rw [show j / k * k + j % k = j by rw [Nat.mul_comm]; exact Nat.div_add_mod j k, hj] at e
    obtain ⟨_, u, hu, hD⟩ := RCells_get (RRows_get h hr).2 hd
    rw [Addr_add_add, show j / k * k + j % k = j by rw [Nat.mul_comm]; exact Nat.div_add_mod j k] at hu
    simp only [Option.some.injEq] at e
    exact ⟨u, hu, by rw [e]; exact hD⟩
  have hx : ∀ j, ∃ u, ∀ d, rows.flatten[j]? = some d → w.cell? (x.add j) = some u ∧ RD w K d u := fun j => by
    cases hj : rows.flatten[j]? with
    | none => exact ⟨.nilFunc, fun d h => by cases h⟩
    | some d => obtain ⟨u, h1, h2⟩ := key j d hj; exact ⟨u, fun d' h => by simp only [Option.some.injEq] at h; subst h; exact ⟨h1, h2⟩⟩
  obtain ⟨f, hf⟩ := Classical.axiomOfChoice hx
  have e : (rowsA rows).flatten = rows.flatten.map .d := by simp [rowsA, List.map_flatten]
  refine ⟨(List.range rows.flatten.length).map f, ?_, ?_⟩
  · rw [e]
    refine RL_of (by rw [List.length_map, List.length_map, List.length_range]) fun i v u hv hu => ?_
    simp only [List.getElem?_map, Option.map_eq_some_iff] at hv hu
    obtain ⟨d, hd, rfl⟩ := hv
    obtain ⟨j, hj, rfl⟩ := hu
    have hil := (List.getElem?_eq_some_iff.1 hd).1
    rw [List.getElem?_range hil] at hj
    simp only [Option.some.injEq] at hj; subst hj
    simp only [R]; exact (hf _ d hd).2
  · intro j u hj
    simp only [List.getElem?_map, Option.map_eq_some_iff] at hj
    obtain ⟨j', hj', rfl⟩ := hj
    have hil : j < rows.flatten.length := by simpa using (List.getElem?_eq_some_iff.1 hj').1
    rw [List.getElem?_range hil] at hj'
    simp only [Option.some.injEq] at hj'; subst hj'
    exact (hf _ _ (getD_lt (d := default) hil)).1
theorem rowsA_one {rows : List (List D)} : ∀ v ∈ (rowsA rows).flatten, v.one = true := by
  intro v hv
  have e : (rowsA rows).flatten = rows.flatten.map .d := by simp [rowsA, List.map_flatten]
  rw [e] at hv
  obtain ⟨d, _, rfl⟩ := List.mem_map.1 hv
  rfl
/-- The rows of a list, as the model reads them. -/
structure SrcOK (w : World) (K : Nat → Prop) (β : Nat → Loc) (n k : Nat) (ys : List (List AV)) (u : Value) : Prop where
  form : ∃ a c, u = .slice a ys.length c ∧ ys.length ≤ c ∧ (ys.length = 0 ∨ ∃ x us, a = some x ∧ RL w K β n ys.flatten us ∧ ∀ j u, us[j]? = some u → w.cell? (x.add j) = some u)
  one : ∀ v ∈ ys.flatten, v.one = true
  len : ∀ r ∈ ys, r.length = k
theorem src_rows {k k' : Nat} {rows : List (List D)} {a : Option Addr} {c : Nat} (hk : k' = k ∨ rows = []) (hc : rows.length ≤ c) (h : rows.length = 0 ∨ ∃ x, a = some x ∧ RRows w K k' rows x) : SrcOK w K β s.length k (rowsA rows) (.slice a rows.length c) := by
  rcases h with h | ⟨x, rfl, h⟩
  · have : rows = [] := List.eq_nil_of_length_eq_zero h
    subst this
    exact ⟨⟨a, c, by simp [rowsA], by simp [rowsA], .inl (by simp [rowsA])⟩, rowsA_one, by simp [rowsA]⟩
  · obtain ⟨us, h1, h2⟩ := RL_rowsA (β := β) (s := s) h
    refine ⟨⟨some x, c, by simp [rowsA], by simpa [rowsA] using hc, .inr ⟨x, us, rfl, h1, h2⟩⟩, rowsA_one, ?_⟩
    intro r hr
    simp only [rowsA, List.mem_map] at hr
    obtain ⟨r', hr', rfl⟩ := hr
    rcases hk with hk | hk
    · obtain ⟨i, hi⟩ := List.getElem?_of_mem hr'
      rw [List.length_map, (RRows_get h hi).1, hk]
    · subst hk; cases hr'
theorem srcOf_ok {k : Nat} {y : AV} {uy : Value} {C : Prop} {ys : List (List AV)} (h : srcOf s k y = some (C, ys)) (hC : C) (hz : Cz w K β s) (hy : R w K β s.length y uy) : SrcOK w K β s.length k ys uy := by
  unfold srcOf at h
  split at h
  · simp only [Option.some.injEq, Prod.mk.injEq] at h; obtain ⟨rfl, rfl⟩ := h
    simp only [R, RD] at hy
    obtain ⟨a, c, rfl, h1, h2⟩ := hy
    exact src_rows hC h1 h2
  · simp only [Option.some.injEq, Prod.mk.injEq] at h; obtain ⟨rfl, rfl⟩ := h
    simp only [R] at hy
    obtain ⟨a, rfl, h2⟩ := hy
    exact src_rows hC (Nat.le_refl _) h2
  · rename_i id off len
    split at h
    · rename_i T' k' rows hc
      split at h
      · rename_i hk
        simp only [Option.some.injEq, Prod.mk.injEq] at h; obtain ⟨rfl, rfl⟩ := h
        subst hk
        obtain ⟨pre, us, post, e1, e2, e3, e4, e5, e6, e7⟩ := hz.cells (cellsOf_some hc)
        simp only [R] at hy
        obtain ⟨hid, x, c, rfl, h2, h3, h4⟩ := hy
        have hlen : ((rows.drop off).take len).length = len := by simp; omega
        have e7' : ∀ r ∈ rows.drop off, r.length = k' := fun r hr => e7 r (List.mem_of_mem_drop hr)
        have hfl : ((rows.drop off).take len).flatten = (rows.flatten.drop (off * k')).take (len * k') := by rw [flatten_take e7', flatten_drop e7]
        refine ⟨⟨some x, c, by rw [hlen], by rw [hlen]; exact h2, ?_⟩, ?_, fun r hr => e7' r (List.mem_of_mem_take hr)⟩
        · by_cases h0 : len = 0
          · left; rw [hlen]; exact h0
          · right
            refine ⟨x, (us.drop (off * k')).take (len * k'), rfl, by rw [hfl]; exact RL_take (RL_drop e3 _) _, fun j u hj => ?_⟩
            rw [h4 (by omega), add_addr]
            rw [List.getElem?_take] at hj
            split at hj
            · rw [List.getElem?_drop] at hj
              rw [e5, Nat.add_assoc]
              exact cell_own e1 e2 hj
            · cases hj
        · intro v hv
          rw [hfl] at hv
          exact e6 v (List.mem_of_mem_drop (List.mem_of_mem_take hv))
      · cases h
    · cases h
  · cases h
end
end Go.Proofs.Ytcedkkleclhglaa.H
