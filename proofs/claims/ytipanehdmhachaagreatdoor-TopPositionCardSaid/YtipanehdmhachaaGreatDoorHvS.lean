/- The library's sort, told of a list of our own, whose elements may hold lists. -/
import Derived.Test.YtipanehdmhachaaGreatDoorHvL
import Derived.Test.YtipanehdmhachaaGreatDoorKaC
set_option linter.unusedSimpArgs false
set_option linter.unusedVariables false
set_option linter.unusedSectionVars false
namespace Go.Proofs.YtipanehdmhachaaGreatDoor.H
variable [DR]
open Go.Shelf Go.Proofs Go.Sort
section
variable {P : Program} {w : World} {K : Nat → Prop} {β : Nat → Loc} {s : St}
/-- Memory that has only grown. -/
theorem Cz.grow (hz : Cz w K β s) {w' : World} (hsz : w.heap.size ≤ w'.heap.size) (hold : ∀ b, b < w.heap.size → w'.heap[b]? = w.heap[b]?) (hio : SameIO w w') : Cz w' K β s ∧ Ext s.length w K β s w' K β s := by
  have hs : Stays w K w' K := ⟨fun _ h => h, fun b hb => hold b (hz.kb b hb)⟩
  refine ⟨⟨fun i b hi => hz.old hs (Nat.le_refl _) (fun _ _ => rfl) hi (hold _ (hz.lt ⟨b, hi⟩)), hz.inj, hz.dis, fun b hb => Nat.lt_of_lt_of_le (hz.kb b hb) hsz, hz.gl.mono hs⟩, ?_⟩
  exact { size := hsz, io := hio, fix := fun _ _ => rfl, len := Nat.le_refl _, frame := fun b hb _ => hold b hb, kmono := fun _ h => h, knew := fun _ h => .inl h, onew := fun i hi => .inr ⟨i, hi, rfl⟩ }
theorem RL_d {w' : World} {K' : Nat → Prop} {β' : Nat → Loc} {n n' : Nat} (hs : Stays w K w' K') : ∀ {r : List D} {us : List Value}, RL w K β n (r.map .d) us → RL w' K' β' n' (r.map .d) us
  | [], us, h => by simpa only [List.map_nil, RL] using h
  | d :: r, us, h => by
    simp only [List.map_cons, RL, R] at h ⊢
    obtain ⟨u, us', h1, h2, h3⟩ := h
    exact ⟨u, us', h1, h2.mono hs, RL_d hs h3⟩
theorem chunks {α : Type} {k : Nat} : ∀ {n : Nat} {us : List α}, us.length = n * k → (List.finRange n).flatMap (fun i => (us.drop (i.1 * k)).take k) = us
  | 0, us, h => by
    have : us = [] := List.length_eq_zero_iff.1 (by simpa using h)
    subst this; simp
  | n + 1, us, h => by
    rw [Nat.add_mul, Nat.one_mul] at h
    have ih := chunks (k := k) (n := n) (us := us.drop k) (by rw [List.length_drop]; omega)
    rw [List.finRange_succ, List.flatMap_cons, List.flatMap_map]
    have e : ∀ i : Fin n, (us.drop (i.succ.1 * k)).take k = ((us.drop k).drop (i.1 * k)).take k := fun i => by
      rw [List.drop_drop, Fin.val_succ, Nat.add_mul, Nat.one_mul, Nat.add_comm]
    simp only [e, ih]
    simp
theorem chunk_len {α : Type} {k n : Nat} {us : List α} (h : us.length = n * k) (i : Fin n) : ((us.drop (i.1 * k)).take k).length = k := by
  rw [List.length_take, List.length_drop, h]
  have : (i.1 + 1) * k ≤ n * k := Nat.mul_le_mul_right _ i.2
  rw [Nat.add_mul, Nat.one_mul] at this
  omega
theorem RL_chunk {n k : Nat} {rows : List (List AV)} {us : List Value} (hr : ∀ r ∈ rows, r.length = k) (h : RL w K β n rows.flatten us) (i : Fin rows.length) : RL w K β n rows[i.1] ((us.drop (i.1 * k)).take k) := by
  have := RL_take (RL_drop h (i.1 * k)) k
  rw [← flatten_drop hr, List.drop_eq_getElem_cons i.2, List.flatten_cons, List.take_left' (hr _ (List.getElem_mem i.2))] at this
  exact this
theorem rowsA_at {rows : List (List D)} {i : Nat} (h : i < rows.length) : (rowsA rows)[i]'(by rw [rowsA_len]; exact h) = rows[i].map .d := by simp [rowsA]
section
variable {rows : List (List D)} {k : Nat} {us : List Value} {cf : List D → List D → Int}
/-- The cells of an element. -/
def encR (n k : Nat) (us : List Value) (i : Fin n) : List Value := (us.drop (i.1 * k)).take k
def cfR (rows : List (List D)) (cf : List D → List D → Int) (i j : Fin rows.length) : Int := cf rows[i.1] rows[j.1]
theorem sortW_old {n blk off m : Nat} [Inhabited (Fin n)] {d : Array (Fin n)} {os : Array Obj} {b : Nat} (hb : b ≠ blk) (hlt : b < w.heap.size) : (sortWorldK (encR n k us) k w blk off m d os).heap[b]? = w.heap[b]? := by
  unfold sortWorldK grow putRowK Go.Sort.putRow mapBlock Go.Sort.ahead
  simp only
  rw [Array.getElem?_append_left (by simpa using hlt)]
  simp only [Array.getElem?_modify, if_neg (Ne.symm hb)]
theorem sortW_size {n blk off m : Nat} [Inhabited (Fin n)] {d : Array (Fin n)} {os : Array Obj} : w.heap.size ≤ (sortWorldK (encR n k us) k w blk off m d os).heap.size := by
  unfold sortWorldK grow putRowK Go.Sort.putRow mapBlock Go.Sort.ahead
  simp
theorem cmpR [Inhabited (Fin rows.length)] {g : Nat} {n : Nat} (hr : ∀ r ∈ rows, r.length = k) (h : RL w K β n (rowsA rows).flatten us) (hkb : ∀ b, K b → b < w.heap.size) (hgl : GL w K) {blk : Nat} (hblk : ¬ K blk)
    (hg : ∀ x ∈ rows, ∀ y ∈ rows, @Fn ⟨True⟩ P g [.agg (x.map .d), .agg (y.map .d)] (AI .i64 (cf x y))) (off size : Nat) : CmpLays P g #[] (encR rows.length k us) k (cfR rows cf) blk off size w := by
  letI hD : DR := ⟨True⟩
  intro m os dk _ x y
  have hst : Stays w K (sortWorldK (encR rows.length k us) k w blk off m dk os) K := ⟨fun _ h => h, fun b hb => sortW_old (fun e => hblk (e ▸ hb)) (hkb b hb)⟩
  have hsz := sortW_size (w := w) (k := k) (us := us) (blk := blk) (off := off) (m := m) (d := dk) (os := os)
  generalize sortWorldK (encR rows.length k us) k w blk off m dk os = W at hst hsz
  have hra : ∀ r ∈ rowsA rows, r.length = k := fun r hq => by
    simp only [rowsA, List.mem_map] at hq
    obtain ⟨q, hq, rfl⟩ := hq
    rw [List.length_map]; exact hr q hq
  have el : ∀ z : Fin rows.length, RL W K loc0 0 (rows[z.1].map .d) (encR rows.length k us z) := fun z => by
    have h1 := RL_chunk hra h ⟨z.1, by rw [rowsA_len]; exact z.2⟩
    simp only [rowsA_at z.2] at h1
    exact RL_d hst h1
  have h := hg _ (List.getElem_mem x.2) _ (List.getElem_mem y.2) W K loc0 [.agg (encR rows.length k us x).toArray, .agg (encR rows.length k us y).toArray] ⟨fun i b h => by simp at h, fun i j ⟨b, h⟩ => by simp at h, fun i ⟨b, h⟩ => by simp at h, fun b h => Nat.lt_of_lt_of_le (hkb b h) hsz, hgl.mono hst⟩ (by
    simp only [RL, R]
    exact ⟨_, _, rfl, ⟨_, by simp, el x⟩, _, _, rfl, ⟨_, by simp, el y⟩, rfl⟩)
  refine (show Calls P g (#[.agg (encR rows.length k us x).toArray, .agg (encR rows.length k us y).toArray] ++ #[]) W _ from h).mono ?_
  rintro e w' ⟨v, s', K', β', u, rfl, ⟨rfl, -⟩, -, hR, hx⟩
  have hu := R_AI hR
  subst hu
  refine ⟨rfl, w'.drawn - W.drawn, w'.heap.extract W.heap.size w'.heap.size, ?_⟩
  obtain ⟨i1, i2, i3, i4⟩ := hx.io
  replace i4 := i4 True.intro
  have hheap : w'.heap = W.heap ++ w'.heap.extract W.heap.size w'.heap.size := by
    refine Array.ext_getElem? fun j => ?_
    by_cases hj : j < W.heap.size
    · rw [Array.getElem?_append_left hj]
      exact hx.frame j hj fun i ⟨b, h⟩ => by simp at h
    · rw [Array.getElem?_append_right (by omega), Array.getElem?_extract]
      by_cases hj' : j < w'.heap.size
      · rw [if_pos (by omega)]; congr 1; omega
      · rw [if_neg (by omega)]; exact Array.getElem?_eq_none (by omega)
  obtain ⟨hp, tp, dr, os', ou⟩ := w'
  simp only at i1 i2 i3 i4 hheap
  subst i1 i2 i3
  unfold grow World.drewN
  simp only [World.mk.injEq, and_true, true_and]
  exact ⟨hheap, by omega⟩
theorem RL_rows {w' : World} {n n' k : Nat} {β' : Nat → Loc} {K' : Nat → Prop} (hr : ∀ r ∈ rows, r.length = k) (h : RL w K β n (rowsA rows).flatten us) (hst : Stays w K w' K') : ∀ L : List (Fin rows.length), RL w' K' β' n' (rowsA (L.map fun i => rows[i.1])).flatten (L.flatMap (encR rows.length k us))
  | [] => by simp [rowsA, RL]
  | i :: L => by
    have hra : ∀ r ∈ rowsA rows, r.length = k := fun r hq => by
      simp only [rowsA, List.mem_map] at hq
      obtain ⟨q, hq, rfl⟩ := hq
      rw [List.length_map]; exact hr q hq
    have h1 := RL_chunk hra h ⟨i.1, by rw [rowsA_len]; exact i.2⟩
    simp only [rowsA_at i.2] at h1
    have e : (rowsA ((i :: L).map fun i => rows[i.1])).flatten = rows[i.1].map .d ++ (rowsA (L.map fun i => rows[i.1])).flatten := by simp [rowsA]
    rw [e, List.flatMap_cons]
    exact RL_append (RL_d hst h1) (RL_rows hr h hst L)
end
variable {α : Type} [Inhabited α] {enc : α → List Value} {k : Nat}
theorem flatMap_get {k : Nat} (hk : ∀ x, (enc x).length = k) : ∀ (l : List α) (t : Nat), t < l.length * k → (l.flatMap enc)[t]? = (enc l.toArray[t / k]!)[t % k]?
  | [], t, h => by simp at h
  | x :: l, t, h => by
    have k0 : 0 < k := by rcases Nat.eq_zero_or_pos k with e | e; · subst e; simp at h
                          · exact e
    rw [List.flatMap_cons]
    by_cases ht : t < k
    · rw [List.getElem?_append_left (by rw [hk]; exact ht), Nat.div_eq_of_lt ht, Nat.mod_eq_of_lt ht]; simp
    · rw [List.getElem?_append_right (by rw [hk]; omega), hk]
      have h' : t - k < l.length * k := by rw [List.length_cons, Nat.add_mul, Nat.one_mul] at h; omega
      rw [flatMap_get hk l (t - k) h']
      have e1 : t / k = (t - k) / k + 1 := by
        have := Nat.add_div_right (t - k) k0
        rw [Nat.sub_add_cancel (by omega)] at this; exact this
      have e2 : t % k = (t - k) % k := by
        have := Nat.add_mod_right (t - k) k
        rw [Nat.sub_add_cancel (by omega)] at this; exact this
      have hlt : (t - k) / k < l.length := (Nat.div_lt_iff_lt_mul k0).2 h'
      rw [e1, e2]; simp [hlt]
theorem flatK_list {k : Nat} (hk : ∀ x, (enc x).length = k) (l : List α) : (flatK enc k l.toArray).toList = l.flatMap enc := by
  have hlen : (l.flatMap enc).length = l.length * k := by
    induction l with
    | nil => simp
    | cons x l ih => rw [List.flatMap_cons, List.length_append, hk, ih, List.length_cons, Nat.add_mul]; omega
  refine List.ext_getElem (by simp [hlen]) fun t h1 h2 => ?_
  have ht : t < l.length * k := by rw [← hlen]; exact h2
  have k0 : 0 < k := by rcases Nat.eq_zero_or_pos k with e | e; · subst e; simp at ht
                        · exact e
  have e1 := flatMap_get hk l t ht
  rw [List.getElem?_eq_getElem h2] at e1
  have e2 := get_flatK enc k l.toArray t (by simpa using ht)
  rw [Array.getElem_toList, ← getElem!_pos (flatK enc k l.toArray) t (by simpa using ht), e2]
  have hm : t % k < (enc l.toArray[t / k]!).length := by rw [hk]; exact Nat.mod_lt _ k0
  rw [List.getElem?_eq_getElem hm] at e1
  simp only [Option.some.injEq] at e1
  rw [e1]; exact getElem!_pos (enc l.toArray[t / k]!) (t % k) hm
set_option maxHeartbeats 2000000 in
theorem sortR_ok {cf : List D → List D → Int} {rows : List (List D)} {k T id g : Nat} (h0 : 0 < rows.length) (hlen : rows.length < 4611686018427387904) (hO : SWO (ltOf (cfR rows cf)))
    (hg : ∀ x ∈ rows, ∀ y ∈ rows, @Fn ⟨True⟩ Tryz.prog g [.agg (x.map .d), .agg (y.map .d)] (AI .i64 (cf x y))) (hB : BodyOK Tryz.prog g = true)
    (aE : ∀ w, (isAgg (sortL_ren.t 24)).run Tryz.prog w = .ok true w) (zE : ∀ w, (Go.sizeOf (sortL_ren.t 24)).run Tryz.prog w = .ok k w)
    (hid : s[id]? = some (some (.cells T k (rowsA rows)))) {Q : AV → St → Prop} (hq : ∀ rows' : List (List D), rows'.Perm rows → rows'.Pairwise (fun x y => ¬ cf y x < 0) → Q (.tup []) (s.set id (some (.cells T k (rowsA rows'))))) :
    ACalls Tryz.prog (sortL_ren.f 6) [.own id 0 rows.length, .fn g [] []] s Q := by
  intro w K β us hz hr
  simp only [RL] at hr
  obtain ⟨u1, _, rfl, r1, u2, _, rfl, r2, rfl⟩ := hr
  simp only [R, RL] at r1 r2
  obtain ⟨hlt, x, c, rfl, hc1, hc2, hc3⟩ := r1
  obtain ⟨_, _, rfl, rfl, rfl⟩ := r2
  have hx := hc3 (by omega)
  rw [Nat.zero_mul, Nat.add_zero] at hx
  subst hx
  have hI : Inhabited (Fin rows.length) := ⟨⟨0, h0⟩⟩
  obtain ⟨pre, us, post, e1, e2, e3, e4, e5, e6, e7⟩ := hz.cells hid
  have hra := e7
  have hrr : ∀ r ∈ rows, r.length = k := fun r hq => by
    have := e7 (r.map .d) (List.mem_map.2 ⟨r, hq, rfl⟩)
    simpa using this
  have hul : us.length = rows.length * k := by rw [RL_length e3, flatten_length hra, rowsA_len]
  have hcl : ∀ i : Fin rows.length, (encR rows.length k us i).length = k := fun i => chunk_len hul i
  have hal : (List.finRange rows.length).flatMap (encR rows.length k us) = us := chunks hul
  have h1 : ∀ i : Fin rows.length, ∀ v ∈ encR rows.length k us i, v.oneCell' = true := fun i v hv => by
    obtain ⟨j, hj, rfl⟩ := List.getElem_of_mem (List.mem_of_mem_drop (List.mem_of_mem_take hv))
    have hj2 : j < (rowsA rows).flatten.length := by rw [← RL_length e3]; exact hj
    exact R.one ((RL_iff.1 e3).2 j _ _ (List.getElem?_eq_getElem hj2) (List.getElem?_eq_getElem hj)) (e6 _ (List.getElem_mem hj2))
  have hdis : ¬ K (β id).b := hz.dis id ⟨_, hid⟩
  let l : List (Fin rows.length) := List.finRange rows.length
  have hll : l.length = rows.length := List.length_finRange
  have hfl := flatK_list (enc := encR rows.length k us) hcl l
  have hsz : (flatK (encR rows.length k us) k l.toArray).size = rows.length * k := by simp [hll]
  have hus : us = l.flatMap (encR rows.length k us) := hal.symm
  have hget : ∀ j, j < us.length → (pre ++ us ++ post)[(β id).base + j]? = us[j]? := fun j hj => by
    rw [List.append_assoc, List.getElem?_append_right (by omega), ← e2, Nat.add_sub_cancel_left, List.getElem?_append_left hj]
  have hH : HoldsK (encR rows.length k us) k w (β id).b (β id).base l.toArray := by
    intro j hj
    rw [hsz] at hj
    refine ⟨?_, ?_⟩
    · unfold World.cell?
      rw [e1]
      simp only [Option.isSome_none, Bool.false_eq_true, if_false, List.getElem?_toArray]
      rw [hget j (by omega), getElem!_pos (flatK (encR rows.length k us) k l.toArray) j (by rw [hsz]; exact hj)]
      have e9 : us[j]? = (flatK (encR rows.length k us) k l.toArray)[j]? := by rw [← Array.getElem?_toList, hfl, ← hus]
      rw [e9, Array.getElem?_eq_getElem (by rw [hsz]; exact hj)]
      rfl
    · unfold World.frozen?
      rw [e1]; simp
  have hcall := AnyQ.slices_SortFunc (P := Tryz.prog) sortL k aE zE (encR rows.length k us) hcl h1 (cfR rows cf) hO g #[] (β id).b (β id).base c l.toArray w (fun args w => by
      unfold BodyOK at hB
      split at hB
      · rename_i fn hfn
        simp only [Bool.and_eq_true, bne_iff_ne, ne_eq] at hB
        have hnone : ¬ fn.body = none := fun e => by simp [e] at hB
        simp [callFunc, hfn, hB.2, hnone]
      · cases hB) (cmpR hrr e3 hz.kb hz.gl hdis hg _ _) hH (hz.lt ⟨_, hid⟩) (by rw [List.size_toArray]; omega)
  have hca : (⟨(β id).b, (β id).base, none⟩ : Addr) = ⟨(β id).b, (β id).base, none⟩ := rfl
  rw [show l.toArray.size = rows.length by rw [List.size_toArray]; exact hll] at hcall
  refine hcall.mono ?_
  rintro e w' ⟨rfl, d', n, os, ⟨p1, p2, p3⟩, hsorted, rfl⟩
  have hlen' : d'.size = rows.length := by rw [p1, List.size_toArray]; exact hll
  have hperm : d'.toList.Perm l := by
    have a1 : d'.extract 0 rows.length = d' := Array.extract_eq_self_of_le (by omega)
    have a2 : l.toArray.extract 0 rows.length = l.toArray := Array.extract_eq_self_of_le (by rw [List.size_toArray]; omega)
    rw [a1, a2] at p3
    simpa using p3
  have hpw : (d'.toList.map fun i => rows[i.1]).Pairwise (fun x y => ¬ cf y x < 0) := by
    rw [List.pairwise_map, List.pairwise_iff_getElem]
    intro i j hi hj hij
    simp at hi hj
    have := hsorted i j (Nat.zero_le _) hij (by omega)
    rw [getElem!_pos d' i hi, getElem!_pos d' j hj] at this
    exact of_decide_eq_false this
  have hpr : (d'.toList.map fun i => rows[i.1]).Perm rows := by
    have := hperm.map fun i : Fin rows.length => rows[i.1]
    refine this.trans (List.Perm.of_eq ?_)
    refine List.ext_getElem (by simp [l]) fun i h1 h2 => ?_
    simp [l]
  -- the row's new cells
  have hfl' := flatK_list (enc := encR rows.length k us) hcl d'.toList
  simp only [Array.toArray_toList] at hfl'
  have hul' : (d'.toList.flatMap (encR rows.length k us)).length = us.length := by rw [← hfl', hul]; simp [hlen']
  have hput : putCells _root_.id (β id).base (flatK (encR rows.length k us) k d') (pre ++ us ++ post).toArray = (pre ++ d'.toList.flatMap (encR rows.length k us) ++ post).toArray := by
    refine Array.ext_getElem? fun t => ?_
    unfold putCells
    simp only [Array.getElem?_mapIdx, List.getElem?_toArray]
    have hfs : (flatK (encR rows.length k us) k d').size = us.length := by rw [hul]; simp [hlen']
    by_cases ht : (β id).base ≤ t ∧ t < (β id).base + us.length
    · obtain ⟨j, rfl⟩ : ∃ j, t = (β id).base + j := ⟨t - (β id).base, by omega⟩
      have hj : j < us.length := by omega
      rw [hget j hj, List.getElem?_eq_getElem hj, List.append_assoc, List.getElem?_append_right (by omega), ← e2, Nat.add_sub_cancel_left, List.getElem?_append_left (by omega)]
      simp only [Option.map_some, hfs, Nat.add_sub_cancel_left]
      rw [if_pos (by omega), ← hfl', Array.getElem?_toList, getElem!_pos (flatK (encR rows.length k us) k d') j (by omega), Array.getElem?_eq_getElem (by omega)]
      rfl
    · have hout : (pre ++ d'.toList.flatMap (encR rows.length k us) ++ post)[t]? = (pre ++ us ++ post)[t]? := by
        by_cases h1 : t < pre.length
        · rw [List.append_assoc, List.append_assoc, List.getElem?_append_left h1, List.getElem?_append_left h1]
        · rw [List.getElem?_append_right (by rw [List.length_append, hul']; omega), List.getElem?_append_right (by rw [List.length_append]; omega), List.length_append, List.length_append, hul']
      rw [hout]
      cases (pre ++ us ++ post)[t]? with
      | none => rfl
      | some x => simp only [Option.map_some, hfs]; rw [if_neg (by omega)]
  have hw1 : (putRowK (encR rows.length k us) k (Go.Sort.ahead w n) (β id).b (β id).base d').heap[(β id).b]? = some (.cells (pre ++ d'.toList.flatMap (encR rows.length k us) ++ post).toArray T (0, 0)) := by
    unfold putRowK Go.Sort.putRow mapBlock Go.Sort.ahead
    simp only [Array.getElem?_modify, if_true, e1, Option.map_some, onCells, hput]
  have hw2 : ∀ i, i ≠ (β id).b → (putRowK (encR rows.length k us) k (Go.Sort.ahead w n) (β id).b (β id).base d').heap[i]? = w.heap[i]? := fun i hi => by
    unfold putRowK Go.Sort.putRow mapBlock Go.Sort.ahead
    simp only [Array.getElem?_modify, if_neg (Ne.symm hi)]
  have hw3 : (putRowK (encR rows.length k us) k (Go.Sort.ahead w n) (β id).b (β id).base d').heap.size = w.heap.size := by
    unfold putRowK Go.Sort.putRow mapBlock Go.Sort.ahead
    simp
  have hw4 : SameIO w (putRowK (encR rows.length k us) k (Go.Sort.ahead w n) (β id).b (β id).base d') := ⟨rfl, rfl, rfl, fun _ => Nat.le_add_right _ _⟩
  have hst : Stays w K (putRowK (encR rows.length k us) k (Go.Sort.ahead w n) (β id).b (β id).base d') K := ⟨fun _ h => h, fun b hb => hw2 b fun e => hdis (e ▸ hb)⟩
  obtain ⟨c1, c2⟩ := hz.upB (w' := putRowK (encR rows.length k us) k (Go.Sort.ahead w n) (β id).b (β id).base d') (b' := .cells T k (rowsA (d'.toList.map fun i : Fin rows.length => rows[i.1]))) hid hw3 hw2 hw4 (by
    refine ⟨pre, d'.toList.flatMap (encR rows.length k us), post, hw1, e2, RL_rows hrr e3 hst _, ?_, e5, rowsA_one, ?_⟩
    · rw [← e4]; simp [hul']
    · intro r hr
      simp only [rowsA, List.map_map, List.mem_map, Function.comp] at hr
      obtain ⟨x, _, rfl⟩ := hr
      rw [List.length_map]; exact hrr _ (List.getElem_mem x.2))
  have hgsz : (putRowK (encR rows.length k us) k (Go.Sort.ahead w n) (β id).b (β id).base d').heap.size ≤ (sortWorldK (encR rows.length k us) k w (β id).b (β id).base n d' os).heap.size := by
    unfold sortWorldK grow; simp
  have hgold : ∀ b, b < (putRowK (encR rows.length k us) k (Go.Sort.ahead w n) (β id).b (β id).base d').heap.size → (sortWorldK (encR rows.length k us) k w (β id).b (β id).base n d' os).heap[b]? = (putRowK (encR rows.length k us) k (Go.Sort.ahead w n) (β id).b (β id).base d').heap[b]? := fun b hb => by
    unfold sortWorldK grow
    rw [Array.getElem?_append_left hb]
  obtain ⟨g1, g2⟩ := c1.grow hgsz hgold ⟨rfl, rfl, rfl, fun _ => Nat.le_refl _⟩
  have hQ := hq _ hpr hpw
  refine ⟨.tup [], _, K, β, .tuple #[], rfl, hQ, g1, ?_, ?_⟩
  · simp only [R, RL]; exact ⟨[], rfl, rfl⟩
  · have := c2.trans (m' := s.length) (Nat.le_refl _) (by simpa using g2)
    exact this
end
end Go.Proofs.YtipanehdmhachaaGreatDoor.H
