/- The library's sort, told of a list of our own. -/
import Derived.Test.YtkgeadhnagnloaaHsL
import Derived.Test.YtkgeadhnagnloaaKaC
set_option linter.unusedSimpArgs false
set_option linter.unusedVariables false
set_option linter.unusedSectionVars false
namespace Go.Proofs.Ytkgeadhnagnloaa.H
open Go.Shelf Go.Proofs Go.Sort
section
variable {P : Program} {w : World} {K : Nat → Prop} {β : Nat → Loc} {s : St}
/-- Memory that has only grown. -/
theorem Cz.grow (hz : Cz w K β s) {w' : World} (hsz : w.heap.size ≤ w'.heap.size) (hold : ∀ b, b < w.heap.size → w'.heap[b]? = w.heap[b]?) (hio : SameIO w w') : Cz w' K β s ∧ Ext s.length w K β s w' K β s := by
  have hs : Stays w K w' K := ⟨fun _ h => h, fun b hb => hold b (hz.kb b hb)⟩
  refine ⟨⟨fun i b hi => hz.old hs (Nat.le_refl _) (fun _ _ => rfl) hi (hold _ (hz.lt ⟨b, hi⟩)), hz.inj, hz.dis, fun b hb => Nat.lt_of_lt_of_le (hz.kb b hb) hsz⟩, ?_⟩
  exact { size := hsz, io := hio, fix := fun _ _ => rfl, len := Nat.le_refl _, frame := fun b hb _ => hold b hb, kmono := fun _ h => h, knew := fun _ h => .inl h, onew := fun i hi => .inr ⟨i, hi, rfl⟩ }
/-- A value of plain cells, as a struct's. -/
def agV (l : List Value) : AV := .agg (l.map fun v => .d (.v v))
theorem RL_plain {n : Nat} {l us : List Value} (h : RL w K β n (l.map fun v => .d (.v v)) us) : us = l := by
  have hl := RL_length h
  simp at hl
  refine List.ext_getElem hl fun i h1 h2 => ?_
  have := (RL_iff.1 h).2 i (.d (.v l[i])) us[i] (by simp [h2]) (by simp [h1])
  simp only [R, RD] at this
  exact this.1
theorem RL_plain_mk {n : Nat} {l : List Value} (h : ∀ v ∈ l, v.oneCell' = true) : RL w K β n (l.map fun v => .d (.v v)) l :=
  RL_of (by simp) fun i v u hv hu => by
    rw [List.getElem?_map, hu] at hv
    simp at hv; subst hv
    simp only [R, RD]; exact ⟨trivial, h u (List.mem_of_getElem? hu)⟩
variable {α : Type} [Inhabited α] {enc : α → List Value} {k : Nat} {cf : α → α → Int}
/-- A comparison of pure data, as the sort asks for it. -/
theorem cmpLays {g : Nat} (h1 : ∀ x, ∀ v ∈ enc x, v.oneCell' = true) (hg : ∀ x y, Fn P g [agV (enc x), agV (enc y)] (AI .i64 (cf x y))) (blk off size : Nat) (w0 : World) : CmpLays P g #[] enc k cf blk off size w0 := by
  intro m os dk _ x y
  generalize sortWorldK enc k w0 blk off m dk os = W
  have h := hg x y W (fun _ => False) loc0 [.agg (enc x).toArray, .agg (enc y).toArray] ⟨fun i b h => by simp at h, fun i j ⟨b, h⟩ => by simp at h, fun i ⟨b, h⟩ => by simp at h, fun b h => h.elim⟩ (by
    simp only [RL, agV, R]
    exact ⟨_, _, rfl, ⟨enc x, by simp, RL_plain_mk (h1 x)⟩, _, _, rfl, ⟨enc y, by simp, RL_plain_mk (h1 y)⟩, rfl⟩)
  refine (show Calls P g (#[.agg (enc x).toArray, .agg (enc y).toArray] ++ #[]) W _ from h).mono ?_
  rintro e w' ⟨v, s', K', β', u, rfl, ⟨rfl, -⟩, -, hR, hx⟩
  have hu := R_AI hR
  subst hu
  refine ⟨rfl, w'.drawn - W.drawn, w'.heap.extract W.heap.size w'.heap.size, ?_⟩
  obtain ⟨i1, i2, i3, i4⟩ := hx.io
  have hheap : w'.heap = W.heap ++ w'.heap.extract W.heap.size w'.heap.size := by
    refine Array.ext_getElem? fun j => ?_
    by_cases hj : j < W.heap.size
    · rw [Array.getElem?_append_left hj]
      exact hx.frame j hj fun i ⟨b, h⟩ => by simp at h
    · rw [Array.getElem?_append_right (by omega), Array.getElem?_extract]
      by_cases hj' : j < w'.heap.size
      · rw [if_pos (by omega)]; congr 1; omega
      · rw [if_neg (by omega)]; exact Array.getElem?_eq_none (by omega)
  obtain ⟨hp, tp, dr, os', ou⟩ := w'
  simp only at i1 i2 i3 i4 hheap
  subst i1 i2 i3
  unfold grow World.drewN
  simp only [World.mk.injEq, and_true, true_and]
  exact ⟨hheap, by omega⟩
/-- The rows of a list of elements. -/
def rowsE (enc : α → List Value) (l : List α) : List (List D) := l.map fun x => (enc x).map .v
theorem rowsE_flat (enc : α → List Value) (l : List α) : (rowsA (rowsE enc l)).flatten = (l.flatMap enc).map fun v => .d (.v v) := by
  induction l with
  | nil => rfl
  | cons x l ih =>
    have : rowsA (rowsE enc (x :: l)) = ((enc x).map fun v => AV.d (.v v)) :: rowsA (rowsE enc l) := by simp [rowsA, rowsE]
    rw [this, List.flatten_cons, ih]; simp
theorem flatMap_get {k : Nat} (hk : ∀ x, (enc x).length = k) : ∀ (l : List α) (t : Nat), t < l.length * k → (l.flatMap enc)[t]? = (enc l.toArray[t / k]!)[t % k]?
  | [], t, h => by simp at h
  | x :: l, t, h => by
    have k0 : 0 < k := by rcases Nat.eq_zero_or_pos k with e | e; · subst e; simp at h
                          · exact e
    rw [List.flatMap_cons]
    by_cases ht : t < k
    · rw [List.getElem?_append_left (by rw [hk]; exact ht), Nat.div_eq_of_lt ht, Nat.mod_eq_of_lt ht]; simp
    · rw [List.getElem?_append_right (by rw [hk]; omega), hk]
      have h' : t - k < l.length * k := by rw [List.length_cons, Nat.add_mul, Nat.one_mul] at h; omega
      rw [flatMap_get hk l (t - k) h']
      have e1 : t / k = (t - k) / k + 1 := by
        have := Nat.add_div_right (t - k) k0
        rw [Nat.sub_add_cancel (by omega)] at this; exact this
      have e2 : t % k = (t - k) % k := by
        have := Nat.add_mod_right (t - k) k
        rw [Nat.sub_add_cancel (by omega)] at this; exact this
      have hlt : (t - k) / k < l.length := (Nat.div_lt_iff_lt_mul k0).2 h'
      rw [e1, e2]; simp [hlt]
theorem flatK_list {k : Nat} (hk : ∀ x, (enc x).length = k) (l : List α) : (flatK enc k l.toArray).toList = l.flatMap enc := by
  have hlen : (l.flatMap enc).length = l.length * k := by
    induction l with
    | nil => simp
    | cons x l ih => rw [List.flatMap_cons, List.length_append, hk, ih, List.length_cons, Nat.add_mul]; omega
  refine List.ext_getElem (by simp [hlen]) fun t h1 h2 => ?_
  have ht : t < l.length * k := by rw [← hlen]; exact h2
  have k0 : 0 < k := by rcases Nat.eq_zero_or_pos k with e | e; · subst e; simp at ht
                        · exact e
  have e1 := flatMap_get hk l t ht
  rw [List.getElem?_eq_getElem h2] at e1
  have e2 := get_flatK enc k l.toArray t (by simpa using ht)
  rw [Array.getElem_toList, ← getElem!_pos (flatK enc k l.toArray) t (by simpa using ht), e2]
  have hm : t % k < (enc l.toArray[t / k]!).length := by rw [hk]; exact Nat.mod_lt _ k0
  rw [List.getElem?_eq_getElem hm] at e1
  simp only [Option.some.injEq] at e1
  rw [e1]; exact getElem!_pos (enc l.toArray[t / k]!) (t % k) hm
theorem sort_ok (hk : ∀ x, (enc x).length = k) (h1 : ∀ x, ∀ v ∈ enc x, v.oneCell' = true) (hO : SWO (ltOf cf)) {g : Nat} (hg : ∀ x y, Fn Try.prog g [agV (enc x), agV (enc y)] (AI .i64 (cf x y))) (hB : BodyOK Try.prog g = true)
    (aE : ∀ w, (isAgg (sortL_ren.t 24)).run Try.prog w = .ok true w) (zE : ∀ w, (Go.sizeOf (sortL_ren.t 24)).run Try.prog w = .ok k w) {id T : Nat} {l : List α} (hl : 0 < l.length) (hlen : l.length < 4611686018427387904)
    (hid : s[id]? = some (some (.cells T k (rowsA (rowsE enc l))))) {Q : AV → St → Prop} (hq : ∀ l' : List α, l'.Perm l → l'.Pairwise (fun x y => ¬ cf y x < 0) → Q (.tup []) (s.set id (some (.cells T k (rowsA (rowsE enc l')))))) :
    ACalls Try.prog (sortL_ren.f 6) [.own id 0 l.length, .fn g [] []] s Q := by
  intro w K β us hz hr
  simp only [RL] at hr
  obtain ⟨u1, _, rfl, r1, u2, _, rfl, r2, rfl⟩ := hr
  simp only [R, RL] at r1 r2
  obtain ⟨hlt, x, c, rfl, hc1, hc2, hc3⟩ := r1
  obtain ⟨_, _, rfl, rfl, rfl⟩ := r2
  have hx := hc3 (by omega)
  rw [Nat.zero_mul, Nat.add_zero] at hx
  subst hx
  obtain ⟨pre, us, post, e1, e2, e3, e4, e5, e6, e7⟩ := hz.cells hid
  rw [rowsE_flat] at e3
  have hus := RL_plain e3
  have hfl := flatK_list hk l
  have hsz : (flatK enc k l.toArray).size = l.length * k := by simp
  have hul : us.length = l.length * k := by rw [hus, ← hfl]; simp
  have hget : ∀ j, j < us.length → (pre ++ us ++ post)[(β id).base + j]? = us[j]? := fun j hj => by
    rw [List.append_assoc, List.getElem?_append_right (by omega), ← e2, Nat.add_sub_cancel_left, List.getElem?_append_left hj]
  have hH : HoldsK enc k w (β id).b (β id).base l.toArray := by
    intro j hj
    rw [hsz] at hj
    refine ⟨?_, ?_⟩
    · unfold World.cell?
      rw [e1]
      simp only [Option.isSome_none, Bool.false_eq_true, if_false, List.getElem?_toArray]
      rw [hget j (by omega), hus, ← hfl, Array.getElem?_toList, getElem!_pos (flatK enc k l.toArray) j (by rw [hsz]; exact hj)]
      simp [hsz, hj]
    · unfold World.frozen?
      rw [e1]; simp
  have hcall := AnyQ.slices_SortFunc (P := Try.prog) sortL k aE zE enc hk h1 cf hO g #[] (β id).b (β id).base c l.toArray w (fun args w => by
      unfold BodyOK at hB
      split at hB
      · rename_i fn hfn
        simp only [Bool.and_eq_true, bne_iff_ne, ne_eq] at hB
        have hnone : ¬ fn.body = none := by cases hb' : fn.body <;> simp_all
        simp [callFunc, hfn, hB.2, hnone]
      · cases hB) (cmpLays h1 hg _ _ _ w) hH (hz.lt ⟨_, hid⟩) (by simpa using hlen)
  refine hcall.mono ?_
  rintro e w' ⟨rfl, d', n, os, ⟨p1, p2, p3⟩, hsorted, rfl⟩
  have hperm : d'.toList.Perm l := by
    have hd : d'.size = l.length := by simpa using p1
    have a1 : d'.extract 0 l.toArray.size = d' := by rw [show l.toArray.size = d'.size by rw [p1]]; simp
    have a2 : l.toArray.extract 0 l.toArray.size = l.toArray := by simp
    rw [a1, a2] at p3
    simpa using p3
  have hlen' : d'.size = l.length := by simpa using p1
  have hpw : d'.toList.Pairwise (fun x y => ¬ cf y x < 0) := by
    rw [List.pairwise_iff_getElem]
    intro i j hi hj hij
    simp at hi hj
    have := hsorted i j (Nat.zero_le _) hij (by simpa [hlen'] using hj)
    rw [getElem!_pos d' i hi, getElem!_pos d' j hj] at this
    simpa [ltOf] using this
  -- the row's new cells
  have hfl' := flatK_list hk d'.toList
  simp only [Array.toArray_toList] at hfl'
  have hul' : (d'.toList.flatMap enc).length = us.length := by rw [← hfl', hul]; simp [hlen']
  have hput : putCells _root_.id (β id).base (flatK enc k d') (pre ++ us ++ post).toArray = (pre ++ d'.toList.flatMap enc ++ post).toArray := by
    refine Array.ext_getElem? fun t => ?_
    unfold putCells
    simp only [Array.getElem?_mapIdx, List.getElem?_toArray]
    have hfs : (flatK enc k d').size = us.length := by rw [hul]; simp [hlen']
    by_cases ht : (β id).base ≤ t ∧ t < (β id).base + us.length
    · obtain ⟨j, rfl⟩ : ∃ j, t = (β id).base + j := ⟨t - (β id).base, by omega⟩
      have hj : j < us.length := by omega
      rw [hget j hj, List.getElem?_eq_getElem hj, List.append_assoc, List.getElem?_append_right (by omega), ← e2, Nat.add_sub_cancel_left, List.getElem?_append_left (by omega)]
      simp only [Option.map_some, hfs, Nat.add_sub_cancel_left]
      rw [if_pos (by omega), ← hfl', Array.getElem?_toList, getElem!_pos (flatK enc k d') j (by omega), Array.getElem?_eq_getElem (by omega)]
      rfl
    · have hout : (pre ++ d'.toList.flatMap enc ++ post)[t]? = (pre ++ us ++ post)[t]? := by
        by_cases h1 : t < pre.length
        · rw [List.append_assoc, List.append_assoc, List.getElem?_append_left h1, List.getElem?_append_left h1]
        · rw [List.getElem?_append_right (by rw [List.length_append, hul']; omega), List.getElem?_append_right (by rw [List.length_append]; omega), List.length_append, List.length_append, hul']
      rw [hout]
      cases (pre ++ us ++ post)[t]? with
      | none => rfl
      | some x => simp only [Option.map_some, hfs]; rw [if_neg (by omega)]
  have hw1 : (putRowK enc k (Go.Sort.ahead w n) (β id).b (β id).base d').heap[(β id).b]? = some (.cells (pre ++ d'.toList.flatMap enc ++ post).toArray T (0, 0)) := by
    unfold putRowK Go.Sort.putRow mapBlock Go.Sort.ahead
    simp only [Array.getElem?_modify, if_true, e1, Option.map_some, onCells, hput]
  have hw2 : ∀ i, i ≠ (β id).b → (putRowK enc k (Go.Sort.ahead w n) (β id).b (β id).base d').heap[i]? = w.heap[i]? := fun i hi => by
    unfold putRowK Go.Sort.putRow mapBlock Go.Sort.ahead
    simp only [Array.getElem?_modify, if_neg (Ne.symm hi)]
  have hw3 : (putRowK enc k (Go.Sort.ahead w n) (β id).b (β id).base d').heap.size = w.heap.size := by
    unfold putRowK Go.Sort.putRow mapBlock Go.Sort.ahead
    simp
  have hw4 : SameIO w (putRowK enc k (Go.Sort.ahead w n) (β id).b (β id).base d') := ⟨rfl, rfl, rfl, Nat.le_add_right _ _⟩
  have hone : ∀ v ∈ d'.toList.flatMap enc, v.oneCell' = true := fun v hv => by
    obtain ⟨x, _, hx⟩ := List.mem_flatMap.1 hv
    exact h1 x v hx
  obtain ⟨c1, c2⟩ := hz.upB (w' := putRowK enc k (Go.Sort.ahead w n) (β id).b (β id).base d') (b' := .cells T k (rowsA (rowsE enc d'.toList))) hid hw3 hw2 hw4 (by
    refine ⟨pre, d'.toList.flatMap enc, post, hw1, e2, by rw [rowsE_flat]; exact RL_plain_mk hone, ?_, e5, ?_, ?_⟩
    · rw [← e4]; simp [hul']
    · intro v hv
      rw [rowsE_flat] at hv
      obtain ⟨x, _, rfl⟩ := List.mem_map.1 hv
      rfl
    · intro r hr
      simp only [rowsA, rowsE, List.map_map, List.mem_map, Function.comp] at hr
      obtain ⟨x, _, rfl⟩ := hr
      simp [hk])
  have hgsz : (putRowK enc k (Go.Sort.ahead w n) (β id).b (β id).base d').heap.size ≤ (sortWorldK enc k w (β id).b (β id).base n d' os).heap.size := by
    unfold sortWorldK grow; simp
  have hgold : ∀ b, b < (putRowK enc k (Go.Sort.ahead w n) (β id).b (β id).base d').heap.size → (sortWorldK enc k w (β id).b (β id).base n d' os).heap[b]? = (putRowK enc k (Go.Sort.ahead w n) (β id).b (β id).base d').heap[b]? := fun b hb => by
    unfold sortWorldK grow
    rw [Array.getElem?_append_left hb]
  obtain ⟨g1, g2⟩ := c1.grow hgsz hgold ⟨rfl, rfl, rfl, Nat.le_refl _⟩
  have hQ := hq d'.toList hperm hpw
  refine ⟨.tup [], _, K, β, .tuple #[], rfl, hQ, g1, ?_, ?_⟩
  · simp only [R, RL]; exact ⟨[], rfl, rfl⟩
  · have := c2.trans (m' := s.length) (Nat.le_refl _) (by simpa using g2)
    exact this
end
end Go.Proofs.Ytkgeadhnagnloaa.H
