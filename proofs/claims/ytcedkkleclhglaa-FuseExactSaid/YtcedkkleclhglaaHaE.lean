/- The laws of the operations that change no memory: places, loads, slices; all of them. -/
import Derived.Test.YtcedkkleclhglaaHaD
set_option linter.unusedSimpArgs false
set_option linter.unusedVariables false
set_option linter.unusedSectionVars false
namespace Go.Proofs.Ytcedkkleclhglaa.H
section
variable {P : Program} {w : World} {K : Nat → Prop} {β : Nat → Loc} {s : St}
theorem cellsOf_some {id T k : Nat} {l : List (List AV)} (h : cellsOf s id = some (T, k, l)) : s[id]? = some (some (.cells T k l)) := by
  unfold cellsOf at h
  split at h
  · rename_i T k l hl
    simp only [Option.some.injEq, Prod.mk.injEq] at h; obtain ⟨rfl, rfl, rfl⟩ := h; exact hl
  · cases h
theorem Cz.cells (hz : Cz w K β s) {id T k : Nat} {rows : List (List AV)} (h : s[id]? = some (some (.cells T k rows))) :
    ∃ pre us post, w.heap[(β id).b]? = some (.cells (pre ++ us ++ post).toArray T (0, 0)) ∧ pre.length = (β id).base ∧ RL w K β s.length rows.flatten us ∧ (pre ++ us ++ post).length = (β id).base + (β id).cap * k ∧ (β id).k = k ∧
      (∀ v ∈ rows.flatten, v.one = true) ∧ ∀ r ∈ rows, r.length = k := hz.blk id _ h
theorem Cz.lt (hz : Cz w K β s) {id : Nat} (h : Alive s id) : (β id).b < w.heap.size := by
  obtain ⟨b, hb⟩ := h
  cases b with
  | cells T k l =>
    obtain ⟨pre, us, post, h1, _⟩ := hz.blk id _ hb
    exact (Array.getElem?_eq_some_iff.1 h1).1
/-- The cells of a block of our own, as the model reads them. -/
theorem cell_own {b base : Nat} {pre us post : List Value} {T : TypeId} (h : w.heap[b]? = some (.cells (pre ++ us ++ post).toArray T (0, 0))) (hp : pre.length = base) {j : Nat} {u : Value} (hj : us[j]? = some u) :
    w.cell? ⟨b, base + j, none⟩ = some u := by
  have hl : j < us.length := (List.getElem?_eq_some_iff.1 hj).1
  simp only [World.cell?, h]
  simp [List.getElem?_append_right (show pre.length ≤ base + j by omega), hp, List.getElem?_append_left hl, hj]
theorem loadVar_none {T : TypeId} (h : rdT P T = some none) {x : Addr} {u : Value} (hc : w.cell? x = some u) : (loadVar T x).run P w = .ok u w := by
  unfold rdT at h
  split at h
  · simp at h
  · rename_i ha _
    simp [loadVar, run_isAgg ha, hc]
  · cases h
theorem loadVar_some {T : TypeId} {m : Nat} (h : rdT P T = some (some m)) {x : Addr} {us : List Value} (hl : us.length = m) (hc : ∀ j u, us[j]? = some u → w.cell? (x.add j) = some u) :
    (loadVar T x).run P w = .ok (.agg us.toArray) w := by
  unfold rdT at h
  split at h
  · rename_i n ha hs
    simp only [Option.some.injEq] at h; subst h
    have := run_loadCells_list (P := P) w x us hc
    rw [hl] at this
    simp [loadVar, run_isAgg ha, run_sizeOf hs, this]
  · simp at h
  · cases h
theorem getD_lt {α : Type} {l : List α} {i : Nat} {d : α} (h : i < l.length) : l[i]? = some (l.getD i d) := by simp [h]
theorem load_ok {T : TypeId} {sz : Option Nat} (hr : rdT P T = some sz) {x : AV} {ux : Value} {C : Prop} {v : AV} (h : loadA s sz x = some (C, v)) (hC : C) (hz : Cz w K β s) (hx : R w K β s.length x ux) :
    Gives P w K β s.length v (Instr.loadAt T ux) := by
  unfold loadA at h
  split at h
  · rename_i id i off
    simp only [R] at hx
    obtain ⟨hid, rfl⟩ := hx
    split at h
    · rename_i T' k rows hc
      split at h
      · rename_i hle
        simp only [Option.some.injEq, Prod.mk.injEq] at h; obtain ⟨rfl, rfl⟩ := h
        obtain ⟨pre, us, post, h1, h2, h3, h4, h5, h6, h7⟩ := hz.cells (cellsOf_some hc)
        have hrow := getD_lt (d := ([] : List AV)) hC
        have hlen : (rows.getD i []).length = k := h7 _ (List.mem_of_getElem? hrow)
        have get : ∀ c, c < k → ∃ u, w.cell? ⟨(β id).b, (β id).base + (i * (β id).k + c), none⟩ = some u ∧ R w K β s.length ((rows.getD i []).getD c default) u := fun c hc => by
          obtain ⟨u, hu, hR⟩ := RL_get h3 (flatten_get h7 hrow (getD_lt (d := default) (by rw [hlen]; exact hc)))
          rw [h5]
          exact ⟨u, cell_own h1 h2 hu, hR⟩
        cases sz with
        | none =>
          obtain ⟨u, hu, hd⟩ := get off (by simp at hle; omega)
          exact ⟨u, by simp [Instr.loadAt, Instr.sureAddr, loadVar_none hr hu], by simpa only [cutA] using hd⟩
        | some m =>
          simp only [Option.getD_some] at hle
          have hx : ∀ c, ∃ u, c < m → w.cell? ⟨(β id).b, (β id).base + (i * (β id).k + (off + c)), none⟩ = some u ∧ R w K β s.length ((rows.getD i []).getD (off + c) default) u := fun c => by
            by_cases hc : c < m
            · obtain ⟨u, h1, h2⟩ := get (off + c) (by omega); exact ⟨u, fun _ => ⟨h1, h2⟩⟩
            · exact ⟨.nilFunc, fun h => absurd h hc⟩
          obtain ⟨f, hf⟩ := Classical.axiomOfChoice hx
          have := loadVar_some (w := w) hr (x := ⟨(β id).b, (β id).base + (i * (β id).k + off), none⟩) (us := (List.range m).map f) (by simp) fun j u hj => by
            simp only [List.getElem?_map, Option.map_eq_some_iff] at hj
            obtain ⟨j', hj', rfl⟩ := hj
            have hlt : j < m := by have := (List.getElem?_eq_some_iff.1 hj').1; simpa using this
            have : j' = j := by rw [List.getElem?_range hlt] at hj'; simpa using hj'.symm
            subst this
            rw [add_addr, Nat.add_assoc, Nat.add_assoc]
            exact (hf j' hlt).1
          refine ⟨.agg ((List.range m).map f).toArray, by simp [Instr.loadAt, Instr.sureAddr, this], ?_⟩
          simp only [cutA, R]
          exact ⟨_, rfl, RL_map _ fun c hc => (hf c (by simpa using hc)).2⟩
      · cases h
    · cases h
  · rename_i k rows i off
    split at h
    · rename_i hle
      simp only [Option.some.injEq, Prod.mk.injEq] at h; obtain ⟨rfl, rfl⟩ := h
      simp only [R] at hx
      obtain ⟨x, rfl, hrows, hi⟩ := hx
      obtain ⟨hlen, hcells⟩ := RRows_get hrows (getD_lt (d := []) hi)
      have get : ∀ c, c < k → ∃ u, w.cell? (x.add (i * k + c)) = some u ∧ RD w K ((rows.getD i []).getD c default) u := fun c hc => by
        obtain ⟨_, u, hu, hd⟩ := RCells_get hcells (getD_lt (d := default) (by rw [hlen]; exact hc))
        rw [Addr_add_add] at hu
        exact ⟨u, hu, hd⟩
      cases sz with
      | none =>
        obtain ⟨u, hu, hd⟩ := get off (by simp at hle; omega)
        exact ⟨u, by simp [Instr.loadAt, Instr.sureAddr, loadVar_none hr hu], by simp only [cutD, R]; exact hd⟩
      | some m =>
        simp only [Option.getD_some] at hle
        have hx : ∀ c, ∃ u, c < m → w.cell? (x.add (i * k + (off + c))) = some u ∧ RD w K ((rows.getD i []).getD (off + c) default) u := fun c => by
          by_cases hc : c < m
          · obtain ⟨u, h1, h2⟩ := get (off + c) (by omega); exact ⟨u, fun _ => ⟨h1, h2⟩⟩
          · exact ⟨.nilFunc, fun h => absurd h hc⟩
        obtain ⟨f, hf⟩ := Classical.axiomOfChoice hx
        have := loadVar_some (w := w) hr (x := x.add (i * k + off)) (us := (List.range m).map f) (by simp) fun j u hj => by
          simp only [List.getElem?_map, Option.map_eq_some_iff] at hj
          obtain ⟨j', hj', rfl⟩ := hj
          have hlt : j < m := by have := (List.getElem?_eq_some_iff.1 hj').1; simpa using this
          have : j' = j := by rw [List.getElem?_range hlt] at hj'; simpa using hj'.symm
          subst this
          rw [Addr_add_add, Nat.add_assoc]
          exact (hf j' hlt).1
        refine ⟨.agg ((List.range m).map f).toArray, by simp [Instr.loadAt, Instr.sureAddr, this], ?_⟩
        simp only [cutD, R]
        refine ⟨_, rfl, RL_map _ fun c hc => ?_⟩
        simp only [R]
        exact (hf c (by simpa using hc)).2
    · cases h
  · cases h
theorem iaddr_ok {T : TypeId} {sz : Nat} {arr : Option Nat} {x i : AV} {ux ui : Value} {C : Prop} {v : AV} (h : iaddrA s sz arr x i = some (C, v)) (hC : C) (hz : Cz w K β s) (hx : R w K β s.length x ux) (hi : R w K β s.length i ui)
    {el : TypeId} (hs : sizeT P el = some sz) (hu : P.underlying T = some (match arr with | some n => .array n el | none => .slice el)) : Gives P w K β s.length v (Instr.indexAt T ux ui) := by
  unfold iaddrA at h
  split at h
  · rename_i k z h1
    rw [R_asI hi h1]
    split at h
    · rename_i n
      simp only [] at hu
      split at h
      · rename_i id j off
        simp only [Option.some.injEq, Prod.mk.injEq] at h; obtain ⟨rfl, rfl⟩ := h
        simp only [R] at hx
        obtain ⟨hid, rfl⟩ := hx
        refine ⟨_, ?_, by simp only [R]; exact ⟨hid, rfl⟩⟩
        simp [Instr.indexAt, asIntOf, run_underlying hu, Instr.sureAddr, run_sizeOf hs, hC.1, hC.2, add_addr, Nat.add_assoc]
      · cases h
    · simp only [] at hu
      have lst : ∀ {a : Option Addr} {cap k : Nat} {rows : List (List D)}, (rows.length = 0 ∨ ∃ x, a = some x ∧ RRows w K k rows x) → 0 ≤ z → z < rows.length → k = sz →
          Gives P w K β s.length (.elm k rows z.toNat 0) (Instr.indexAt T (.slice a rows.length cap) (.int ‹IntKind› z)) := by
        intro a cap k rows hr h0 h1 hk
        rcases hr with hr | ⟨x, rfl, hr⟩
        · omega
        · subst hk
          refine ⟨_, ?_, by simp only [R]; exact ⟨x, rfl, hr, by omega⟩⟩
          simp [Instr.indexAt, asIntOf, run_underlying hu, run_sizeOf hs, h0, h1]
      split at h
      · simp only [Option.some.injEq, Prod.mk.injEq] at h; obtain ⟨rfl, rfl⟩ := h
        simp only [R, RD] at hx
        obtain ⟨a, cap, rfl, _, hr⟩ := hx
        exact lst hr hC.1 hC.2.1 hC.2.2
      · simp only [Option.some.injEq, Prod.mk.injEq] at h; obtain ⟨rfl, rfl⟩ := h
        simp only [R] at hx
        obtain ⟨a, rfl, hr⟩ := hx
        exact lst hr hC.1 hC.2.1 hC.2.2
      · rename_i id off len _
        split at h
        · rename_i T' k' l hc
          split at h
          · rename_i hk
            simp only [Option.some.injEq, Prod.mk.injEq] at h; obtain ⟨rfl, rfl⟩ := h
            simp only [R] at hx
            obtain ⟨hid, x, c, rfl, h2, h3, h4⟩ := hx
            have := h4 (by omega)
            subst this
            have hkk : (β id).k = sz := by obtain ⟨_, _, _, _, _, _, _, h5, _⟩ := hz.cells (cellsOf_some hc); exact h5.trans hk
            refine ⟨_, ?_, by simp only [R]; exact ⟨hid, rfl⟩⟩
            simp [Instr.indexAt, asIntOf, run_underlying hu, run_sizeOf hs, hC.1, hC.2, add_addr, Nat.add_assoc, hkk, Nat.add_mul]
          · cases h
        · cases h
      · rename_i id j off len
        simp only [Option.some.injEq, Prod.mk.injEq] at h; obtain ⟨rfl, rfl⟩ := h
        simp only [R] at hx
        obtain ⟨hid, rfl⟩ := hx
        refine ⟨_, ?_, by simp only [R]; exact ⟨hid, rfl⟩⟩
        simp [Instr.indexAt, asIntOf, run_underlying hu, run_sizeOf hs, hC.1, hC.2, add_addr, Nat.add_assoc]
      · cases h
  · cases h
theorem idx_ok {T el : TypeId} {sz m : Nat} {rd : Option Nat} {x i : AV} {ux ui : Value} {C : Prop} {v : AV} {n : Nat} (h : idxA sz rd m x i = some (C, v)) (hC : C) (hx : R w K β n x ux) (hi : R w K β n i ui)
    (hs : sizeT P el = some sz) (hr : rdT P el = some rd) (hu : P.underlying T = some (.array m el)) : Gives P w K β n v (Instr.index T ux ui) := by
  unfold idxA at h
  split at h
  · rename_i k z l h1
    rw [R_asI hi h1]
    simp only [R] at hx
    obtain ⟨us, rfl, hl⟩ := hx
    split at h
    · rename_i m'
      simp only [Option.some.injEq, Prod.mk.injEq] at h; obtain ⟨rfl, rfl⟩ := h
      obtain ⟨u, e, r⟩ := run_part hr hl (off := z.toNat * sz) (by simp only [cut]; rw [if_pos hC.2.2]) w
      exact ⟨u, by simp [Instr.index, asIntOf, run_underlying hu, hC.1, hC.2.1, run_sizeOf hs, e], r⟩
    · simp only [Option.some.injEq, Prod.mk.injEq] at h; obtain ⟨rfl, rfl⟩ := h
      obtain ⟨u, e, r⟩ := run_part hr hl (off := z.toNat * sz) (v := l.getD (z.toNat * sz) default) (by simp only [cut]; exact getD_lt hC.2.2) w
      exact ⟨u, by simp [Instr.index, asIntOf, run_underlying hu, hC.1, hC.2.1, run_sizeOf hs, e], r⟩
  · cases h
theorem sidx_ok {T : TypeId} {x i : AV} {ux ui : Value} {C : Prop} {v : AV} {n : Nat} (h : sidxA x i = some (C, v)) (hC : C) (hx : R w K β n x ux) (hi : R w K β n i ui)
    (hu : P.underlying T = some .string) : Gives P w K β n v (Instr.index T ux ui) := by
  unfold sidxA at h
  split at h
  · rename_i b k z h1 h2
    simp only [Option.some.injEq, Prod.mk.injEq] at h; obtain ⟨rfl, rfl⟩ := h
    rw [R_asI hi h2, R_asS hx h1]
    refine ⟨_, ?_, R_int _ _⟩
    have hlt : z.toNat < b.size := by omega
    have hg : b[z.toNat]? = some (b.data.toList.getD z.toNat 0) := by
      have hlt' : z.toNat < b.data.size := hlt
      simp [getElem?_pos, hlt, ByteArray.getElem_eq_getElem_data, hlt']
    simp [Instr.index, asIntOf, run_underlying hu, hC.1, hg]
  · cases h
theorem len_ok {T ty el : TypeId} {x : AV} {ux : Value} {C : Prop} {v : AV} {n : Nat} (h : lenA x = some (C, v)) (hx : R w K β n x ux) (hu : P.underlying T = some (.slice el)) :
    Gives P w K β n v (Builtin.len_ #[T] ty #[ux]) := by
  have sl : ∀ a (m c : Nat), Gives P w K β n (AI .i64 m) (Builtin.len_ #[T] ty #[.slice a m c]) := fun a m c =>
    ⟨_, by simp [Builtin.len_, run_underlying hu, goInt], R_int _ _⟩
  unfold lenA at h
  split at h
  · simp only [Option.some.injEq, Prod.mk.injEq] at h; obtain ⟨rfl, rfl⟩ := h
    simp only [R, RD] at hx; obtain ⟨a, cap, rfl, _⟩ := hx; exact sl _ _ _
  · simp only [Option.some.injEq, Prod.mk.injEq] at h; obtain ⟨rfl, rfl⟩ := h
    simp only [R] at hx; obtain ⟨a, rfl, _⟩ := hx; exact sl _ _ _
  · simp only [Option.some.injEq, Prod.mk.injEq] at h; obtain ⟨rfl, rfl⟩ := h
    simp only [R] at hx; obtain ⟨_, a, c, rfl, _⟩ := hx; exact sl _ _ _
  · simp only [Option.some.injEq, Prod.mk.injEq] at h; obtain ⟨rfl, rfl⟩ := h
    simp only [R] at hx; obtain ⟨_, rfl⟩ := hx; exact sl _ _ _
  · cases h
theorem lens_ok {T ty : TypeId} {x : AV} {ux : Value} {C : Prop} {v : AV} {n : Nat} (h : lensA x = some (C, v)) (hx : R w K β n x ux) (hu : P.underlying T = some .string) :
    Gives P w K β n v (Builtin.len_ #[T] ty #[ux]) := by
  unfold lensA at h
  split at h
  · rename_i b hb
    simp only [Option.some.injEq, Prod.mk.injEq] at h; obtain ⟨rfl, rfl⟩ := h
    rw [R_asS hx hb]
    exact ⟨_, by simp [Builtin.len_, run_underlying hu, goInt], R_int _ _⟩
  · cases h
theorem mmL_ok {mx : Bool} {g : Value → Value → Sem Value} {n : Nat} (hg : ∀ k a b w, (g (.int k a) (.int k b)).run P w = .ok (.int k (mmF mx a b)) w) : ∀ (l : List AV) (us : List Value) (k : IntKind) (acc z : Int),
    mmL mx k acc l = some z → RL w K β n l us → (us.foldlM g (.int k acc)).run P w = .ok (.int k z) w
  | [], us, k, acc, z, h, hr => by
    simp only [mmL, Option.some.injEq] at h; subst h
    simp only [RL] at hr; subst hr; simp
  | x :: l, us, k, acc, z, h, hr => by
    simp only [mmL] at h
    split at h
    · rename_i j b h1
      split at h
      · rename_i hk
        subst hk
        simp only [RL] at hr
        obtain ⟨u, us', rfl, hu, hr⟩ := hr
        rw [R_asI hu h1]
        simp only [List.foldlM_cons, Sem.run_bind, hg, Result.andThen_ok, mmL_ok hg l us' j _ z h hr]
      · cases h
    · cases h
theorem mm_ok {mx : Bool} {l : List AV} {us : List Value} {C : Prop} {v : AV} {n : Nat} (h : mmA mx l = some (C, v)) (hr : RL w K β n l us) (ts : Array TypeId) (ty : TypeId) (vs : Array Value) (hv : vs.toList = us) :
    Gives P w K β n v (if mx then Builtin.max_ ts ty vs else Builtin.min_ ts ty vs) := by
  cases l with
  | nil => cases h
  | cons x l =>
    simp only [mmA] at h
    split at h
    · rename_i k a h1
      split at h
      · rename_i z h2
        simp only [Option.some.injEq, Prod.mk.injEq] at h; obtain ⟨rfl, rfl⟩ := h
        simp only [RL] at hr
        obtain ⟨u, us', rfl, hu, hr⟩ := hr
        refine ⟨_, ?_, R_int _ _⟩
        rw [R_asI hu h1] at hv
        cases mx with
        | true =>
          have := mmL_ok (P := P) (g := Builtin.max2) (mx := true) (fun k a b w => by
            have e : mmF true a b = if a < b then b else a := by simp only [mmF, if_true]; split <;> omega
            rw [e]; simp [Builtin.max2]) l us' k a z h2 hr
          simp only [if_true, Builtin.max_, hv]
          exact this
        | false =>
          have := mmL_ok (P := P) (g := Builtin.min2) (mx := false) (fun k a b w => by
            have e : mmF false a b = if b < a then b else a := by simp only [mmF, Bool.false_eq_true, if_false]; split <;> omega
            rw [e]; simp [Builtin.min2]) l us' k a z h2 hr
          simp only [Bool.false_eq_true, if_false, Builtin.min_, hv]
          exact this
      · cases h
    · cases h
end
end Go.Proofs.Ytcedkkleclhglaa.H
