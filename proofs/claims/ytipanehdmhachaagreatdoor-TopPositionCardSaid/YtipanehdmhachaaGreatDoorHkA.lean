/- Tools: a call that is lent our blocks and makes a list, given up at once; blocks named anew; the library's sort of rows that hold blocks of our own. -/
import Derived.Test.YtipanehdmhachaaGreatDoorHvS
import Derived.Test.YtipanehdmhachaaGreatDoorHvG
set_option linter.unusedSimpArgs false
set_option linter.unusedVariables false
set_option linter.unusedSectionVars false
namespace Go.Proofs.YtipanehdmhachaaGreatDoor.H
variable [DR]
open Go.Shelf Go.Proofs Go.Sort
/-- The callee is lent lists of our own, and makes a list of numbers, which is given up at once. -/
theorem ACalls.lendF {P : Program} {f : FuncId} {s : St} {vs vc : List AV} {k : Nat} {rows : List (List D)} {Q : AV → St → Prop}
    (h : ACalls P f vc [] fun v s' => ∃ t rows', v = .own 0 0 rows.length ∧ s' = [some (.cells t k (rowsA rows'))] ∧ rows'.take rows.length = rows ∧ scL (rowsA rows').flatten = true) (hb : Bor s vs vc) (hq : Q (.d (.lst k rows)) s) : ACalls P f vs s Q := by
  intro w K β us hz hr
  let Kc : Nat → Prop := fun b => K b ∨ ∃ i, Alive s i ∧ (β i).b = b
  have hK : Stays w K w Kc := ⟨fun _ h => .inl h, fun _ _ => rfl⟩
  have hcz : Cz w Kc β [] := ⟨(fun i b h => by simp at h), (fun i j ⟨b, h⟩ => by simp at h), (fun i ⟨b, h⟩ => by simp at h), fun b hb => by
    rcases hb with hb | ⟨i, hi, rfl⟩
    · exact hz.kb b hb
    · exact hz.lt hi, hz.gl.mono hK⟩
  have hrc : RL w Kc β 0 vc us := by
    clear h hq
    induction hb generalizing us with
    | nil => exact hr
    | @same v l m h1 _ ih =>
      simp only [RL] at hr ⊢
      obtain ⟨u, us', e, h2, h3⟩ := hr
      refine ⟨u, us', e, ?_, ih us' h3⟩
      have := R_unren (w := w) (K := Kc) (β := β) (β' := β) (n := s.length) (n' := 0) (r := id) (fun i hi => by omega) (v := v) (u := u) (by rw [renA_bel0 _ h1]; exact h2.mono hK (Nat.le_refl _) fun _ _ => rfl) h1
      exact this
    | @own id t k off len rows l m h1 h2 _ ih =>
      simp only [RL] at hr ⊢
      obtain ⟨u, us', e, h3, h4⟩ := hr
      refine ⟨u, us', e, ?_, ih us' h4⟩
      have hal : Alive s id := ⟨_, h1⟩
      have hF : FrzH w Kc β id k rows := .of hz h1 hK (.inr ⟨id, hal, rfl⟩)
      have := R_frz hK hF h3 (by simp only [fitA]; exact fun _ => h2)
      simp only [frzA, if_true] at this
      simpa only [R] using this
  refine (h w Kc β us hcz hrc).mono fun e w' ⟨v, sc', K', β', u, e1, ⟨t, rows', e2, e3, ht, hs⟩, hz', hR, hx⟩ => ?_
  subst e1 e2 e3
  have hfr : ∀ b, b < w.heap.size → w'.heap[b]? = w.heap[b]? := fun b hb => hx.frame b hb fun i ⟨x, h⟩ => by simp at h
  have hal0 : Alive [some (Blk.cells t k (rowsA rows'))] 0 := ⟨_, rfl⟩
  have hnew : w.heap.size ≤ (β' 0).b := by
    rcases hx.onew 0 hal0 with h | ⟨j, ⟨x, h⟩, -⟩
    · exact h
    · simp at h
  let K2 : Nat → Prop := fun b => K b ∨ b = (β' 0).b
  have hst : Stays w K w' K2 := ⟨fun _ h => .inl h, fun b hb => hfr b (hz.kb b hb)⟩
  obtain ⟨pre, cs, post, c1, c2, c3, c4, c5, c6, c7⟩ := hz'.cells (id := 0) rfl
  have hrows := rowsA_list (k := k) (off := 0) (len := rows.length) (K := K2) c1 c2 (RL_sc (K' := K2) (β' := β) (n' := 0) hs c3) c7 (.inr rfl)
  rw [List.drop_zero, ht] at hrows
  refine ⟨.d (.lst k rows), s, K2, β, u, rfl, hq, ⟨fun i b hi => hz.old hst (Nat.le_refl _) (fun _ _ => rfl) hi (hfr _ (hz.lt ⟨b, hi⟩)), hz.inj, fun i hi hk => ?_, fun b hb => ?_, hz.gl.mono hst⟩, ?_, ?_⟩
  · rcases hk with hk | hk
    · exact hz.dis i hi hk
    · have := hz.lt hi; omega
  · rcases hb with hb | hb
    · exact Nat.lt_of_lt_of_le (hz.kb b hb) hx.size
    · rw [hb]; exact hz'.lt hal0
  · simp only [R] at hR
    obtain ⟨_, x, c, rfl, h2, h3, h4⟩ := hR
    simp only [R, RD]
    refine ⟨some x, c, rfl, h2, ?_⟩
    by_cases hc : 0 < c
    · right
      refine ⟨x, rfl, ?_⟩
      rw [h4 hc, c5]; exact hrows
    · left; omega
  · exact { size := hx.size, io := hx.io, fix := fun _ _ => rfl, len := Nat.le_refl _, frame := fun b hb _ => hfr b hb, kmono := fun _ h => .inl h
            knew := fun b hb => by
              rcases hb with hb | hb
              · exact .inl hb
              · exact .inr (.inl (by rw [hb]; exact hnew))
            onew := fun i hi => .inr ⟨i, hi, rfl⟩ }
/-- One block of a call's end is all that is kept. -/
theorem ACalls.pick1 {P : Program} {f : FuncId} {vs : List AV} {Q : AV → St → Prop} {v0 : AV} {B : Blk} (h : ACalls P f vs [] Q) (h0 : belA 1 v0 = true) (hB : ∀ n, belB (n + 1) B = true) (hr : ∀ r, renB r B = B)
    (hq : ∀ v s', Q v s' → ∃ id, s'[id]? = some (some B) ∧ v = renA (fun _ => id) v0) : ACalls P f vs [] fun v s' => v = v0 ∧ s' = [some B] :=
  h.ren fun v s' q => by
    obtain ⟨id, h1, h2⟩ := hq v s' q
    refine ⟨fun _ => id, v0, [some B], fun i hi => by simp at hi, by simp, fun i j ⟨x, hi⟩ ⟨y, hj⟩ hij => ?_, ⟨h0, h2⟩, fun i b hi => ?_, rfl, rfl⟩
    · have h1 := (List.getElem?_eq_some_iff.1 hi).1
      have h2 := (List.getElem?_eq_some_iff.1 hj).1
      simp at h1 h2; omega
    · have h3 := (List.getElem?_eq_some_iff.1 hi).1
      have : i = 0 := by simp at h3; omega
      subst this
      simp at hi; subst hi
      exact ⟨hB 0, by rw [hr]; exact h1⟩
/-! ### The sort -/
section
variable {w : World} {K : Nat → Prop} {β : Nat → Loc} {s : St}
theorem RLA_rows {w' : World} {rows : List (List AV)} {us : List Value} {n k N : Nat} (hN : rows.length = N) (hr : ∀ r ∈ rows, r.length = k) (h : RL w K β n rows.flatten us) (hst : Stays w K w' K) : ∀ L : List (Fin N), RL w' K β n (L.map fun i => rows.getD i.1 []).flatten (L.flatMap (encR N k us))
  | [] => by simp [RL]
  | i :: L => by
    have hi : i.1 < rows.length := by rw [hN]; exact i.2
    have h1 : RL w K β n rows[i.1] (encR N k us i) := RL_chunk hr h ⟨i.1, hi⟩
    have e : ((i :: L).map fun i => rows.getD i.1 []).flatten = rows[i.1] ++ (L.map fun i => rows.getD i.1 []).flatten := by simp [List.getD, hi]
    rw [e, List.flatMap_cons]
    exact RL_append (h1.mono hst (Nat.le_refl _) fun _ _ => rfl) (RLA_rows hN hr h hst L)
set_option maxHeartbeats 2000000 in
theorem sortA_ok {cf : List D → List D → Int} {rowsD : List (List D)} {rows : List (List AV)} {k T id g : Nat} (hrl : rows.length = rowsD.length) (hkD : ∀ r ∈ rowsD, r.length = k) (h0 : 0 < rowsD.length) (hlen : rowsD.length < 4611686018427387904) (hO : SWO (ltOf (cfR rowsD cf)))
    (hg : ∀ x ∈ rowsD, ∀ y ∈ rowsD, @Fn ⟨True⟩ Tryz.prog g [.agg (x.map .d), .agg (y.map .d)] (AI .i64 (cf x y))) (hB : BodyOK Tryz.prog g = true)
    (aE : ∀ w, (isAgg (sortL_ren.t 24)).run Tryz.prog w = .ok true w) (zE : ∀ w, (Go.sizeOf (sortL_ren.t 24)).run Tryz.prog w = .ok k w)
    (hid : s[id]? = some (some (.cells T k rows)))
    (hview : ∀ w K β, Cz w K β s → ∃ K1, Stays w K w K1 ∧ (∀ b, K1 b → b < w.heap.size) ∧ ¬ K1 (β id).b ∧ ∀ us, RL w K β s.length rows.flatten us → RL w K1 β s.length (rowsA rowsD).flatten us)
    {Q : AV → St → Prop} (hq : ∀ L : List (Fin rowsD.length), L.Perm (List.finRange rowsD.length) → (L.map fun i => rowsD[i.1]).Pairwise (fun x y => ¬ cf y x < 0) → Q (.tup []) (s.set id (some (.cells T k (L.map fun i => rows.getD i.1 []))))) :
    ACalls Tryz.prog (sortL_ren.f 6) [.own id 0 rowsD.length, .fn g [] []] s Q := by
  intro w K β us hz hr
  simp only [RL] at hr
  obtain ⟨u1, _, rfl, r1, u2, _, rfl, r2, rfl⟩ := hr
  simp only [R, RL] at r1 r2
  obtain ⟨hlt, x, c, rfl, hc1, hc2, hc3⟩ := r1
  obtain ⟨_, _, rfl, rfl, rfl⟩ := r2
  have hx := hc3 (by omega)
  rw [Nat.zero_mul, Nat.add_zero] at hx
  subst hx
  have hI : Inhabited (Fin rowsD.length) := ⟨⟨0, h0⟩⟩
  obtain ⟨pre, us, post, e1, e2, e3, e4, e5, e6, e7⟩ := hz.cells hid
  obtain ⟨K1, v1, v2, v3, v4⟩ := hview w K β hz
  have e3D := v4 us e3
  have hul : us.length = rowsD.length * k := by rw [RL_length e3, flatten_length e7, hrl]
  have hcl : ∀ i : Fin rowsD.length, (encR rowsD.length k us i).length = k := fun i => chunk_len hul i
  have hal : (List.finRange rowsD.length).flatMap (encR rowsD.length k us) = us := chunks hul
  have h1 : ∀ i : Fin rowsD.length, ∀ v ∈ encR rowsD.length k us i, v.oneCell' = true := fun i v hv => by
    obtain ⟨j, hj, rfl⟩ := List.getElem_of_mem (List.mem_of_mem_drop (List.mem_of_mem_take hv))
    have hj2 : j < rows.flatten.length := by rw [← RL_length e3]; exact hj
    exact R.one ((RL_iff.1 e3).2 j _ _ (List.getElem?_eq_getElem hj2) (List.getElem?_eq_getElem hj)) (e6 _ (List.getElem_mem hj2))
  have hdis : ¬ K (β id).b := hz.dis id ⟨_, hid⟩
  let l : List (Fin rowsD.length) := List.finRange rowsD.length
  have hll : l.length = rowsD.length := List.length_finRange
  have hfl := flatK_list (enc := encR rowsD.length k us) hcl l
  have hsz : (flatK (encR rowsD.length k us) k l.toArray).size = rowsD.length * k := by simp [hll]
  have hus : us = l.flatMap (encR rowsD.length k us) := hal.symm
  have hget : ∀ j, j < us.length → (pre ++ us ++ post)[(β id).base + j]? = us[j]? := fun j hj => by
    rw [List.append_assoc, List.getElem?_append_right (by omega), ← e2, Nat.add_sub_cancel_left, List.getElem?_append_left hj]
  have hH : HoldsK (encR rowsD.length k us) k w (β id).b (β id).base l.toArray := by
    intro j hj
    rw [hsz] at hj
    refine ⟨?_, ?_⟩
    · unfold World.cell?
      rw [e1]
      simp only [Option.isSome_none, Bool.false_eq_true, if_false, List.getElem?_toArray]
      rw [hget j (by omega), getElem!_pos (flatK (encR rowsD.length k us) k l.toArray) j (by rw [hsz]; exact hj)]
      have e9 : us[j]? = (flatK (encR rowsD.length k us) k l.toArray)[j]? := by rw [← Array.getElem?_toList, hfl, ← hus]
      rw [e9, Array.getElem?_eq_getElem (by rw [hsz]; exact hj)]
      rfl
    · unfold World.frozen?
      rw [e1]; simp
  have hcall := AnyQ.slices_SortFunc (P := Tryz.prog) sortL k aE zE (encR rowsD.length k us) hcl h1 (cfR rowsD cf) hO g #[] (β id).b (β id).base c l.toArray w (fun args w => by
      unfold BodyOK at hB
      split at hB
      · rename_i fn hfn
        simp only [Bool.and_eq_true, bne_iff_ne, ne_eq] at hB
        have hnone : ¬ fn.body = none := fun e => by simp [e] at hB
        simp [callFunc, hfn, hB.2, hnone]
      · cases hB) (cmpR hkD e3D v2 (hz.gl.mono v1) v3 hg _ _) hH (hz.lt ⟨_, hid⟩) (by rw [List.size_toArray]; omega)
  rw [show l.toArray.size = rowsD.length by rw [List.size_toArray]; exact hll] at hcall
  refine hcall.mono ?_
  rintro e w' ⟨rfl, d', n, os, ⟨p1, p2, p3⟩, hsorted, rfl⟩
  have hlen' : d'.size = rowsD.length := by rw [p1, List.size_toArray]; exact hll
  have hperm : d'.toList.Perm l := by
    have a1 : d'.extract 0 rowsD.length = d' := Array.extract_eq_self_of_le (by omega)
    have a2 : l.toArray.extract 0 rowsD.length = l.toArray := Array.extract_eq_self_of_le (by rw [List.size_toArray]; omega)
    rw [a1, a2] at p3
    simpa using p3
  have hpw : (d'.toList.map fun i => rowsD[i.1]).Pairwise (fun x y => ¬ cf y x < 0) := by
    rw [List.pairwise_map, List.pairwise_iff_getElem]
    intro i j hi hj hij
    simp at hi hj
    have := hsorted i j (Nat.zero_le _) hij (by omega)
    rw [getElem!_pos d' i hi, getElem!_pos d' j hj] at this
    exact of_decide_eq_false this
  have hfl' := flatK_list (enc := encR rowsD.length k us) hcl d'.toList
  simp only [Array.toArray_toList] at hfl'
  have hul' : (d'.toList.flatMap (encR rowsD.length k us)).length = us.length := by rw [← hfl', hul]; simp [hlen']
  have hput : putCells _root_.id (β id).base (flatK (encR rowsD.length k us) k d') (pre ++ us ++ post).toArray = (pre ++ d'.toList.flatMap (encR rowsD.length k us) ++ post).toArray := by
    refine Array.ext_getElem? fun t => ?_
    unfold putCells
    simp only [Array.getElem?_mapIdx, List.getElem?_toArray]
    have hfs : (flatK (encR rowsD.length k us) k d').size = us.length := by rw [hul]; simp [hlen']
    by_cases ht : (β id).base ≤ t ∧ t < (β id).base + us.length
    · obtain ⟨j, rfl⟩ : ∃ j, t = (β id).base + j := ⟨t - (β id).base, by omega⟩
      have hj : j < us.length := by omega
      rw [hget j hj, List.getElem?_eq_getElem hj, List.append_assoc, List.getElem?_append_right (by omega), ← e2, Nat.add_sub_cancel_left, List.getElem?_append_left (by omega)]
      simp only [Option.map_some, hfs, Nat.add_sub_cancel_left]
      rw [if_pos (by omega), ← hfl', Array.getElem?_toList, getElem!_pos (flatK (encR rowsD.length k us) k d') j (by omega), Array.getElem?_eq_getElem (by omega)]
      rfl
    · have hout : (pre ++ d'.toList.flatMap (encR rowsD.length k us) ++ post)[t]? = (pre ++ us ++ post)[t]? := by
        by_cases h1 : t < pre.length
        · rw [List.append_assoc, List.append_assoc, List.getElem?_append_left h1, List.getElem?_append_left h1]
        · rw [List.getElem?_append_right (by rw [List.length_append, hul']; omega), List.getElem?_append_right (by rw [List.length_append]; omega), List.length_append, List.length_append, hul']
      rw [hout]
      cases (pre ++ us ++ post)[t]? with
      | none => rfl
      | some x => simp only [Option.map_some, hfs]; rw [if_neg (by omega)]
  have hw1 : (putRowK (encR rowsD.length k us) k (Go.Sort.ahead w n) (β id).b (β id).base d').heap[(β id).b]? = some (.cells (pre ++ d'.toList.flatMap (encR rowsD.length k us) ++ post).toArray T (0, 0)) := by
    unfold putRowK Go.Sort.putRow mapBlock Go.Sort.ahead
    simp only [Array.getElem?_modify, if_true, e1, Option.map_some, onCells, hput]
  have hw2 : ∀ i, i ≠ (β id).b → (putRowK (encR rowsD.length k us) k (Go.Sort.ahead w n) (β id).b (β id).base d').heap[i]? = w.heap[i]? := fun i hi => by
    unfold putRowK Go.Sort.putRow mapBlock Go.Sort.ahead
    simp only [Array.getElem?_modify, if_neg (Ne.symm hi)]
  have hw3 : (putRowK (encR rowsD.length k us) k (Go.Sort.ahead w n) (β id).b (β id).base d').heap.size = w.heap.size := by
    unfold putRowK Go.Sort.putRow mapBlock Go.Sort.ahead
    simp
  have hw4 : SameIO w (putRowK (encR rowsD.length k us) k (Go.Sort.ahead w n) (β id).b (β id).base d') := ⟨rfl, rfl, rfl, fun _ => Nat.le_add_right _ _⟩
  have hst : Stays w K (putRowK (encR rowsD.length k us) k (Go.Sort.ahead w n) (β id).b (β id).base d') K := ⟨fun _ h => h, fun b hb => hw2 b fun e => hdis (e ▸ hb)⟩
  have hgd : ∀ i : Fin rowsD.length, rows.getD i.1 [] = rows[i.1]'(by rw [hrl]; exact i.2) := fun i => by simp [List.getD, hrl]
  obtain ⟨c1, c2⟩ := hz.upB (w' := putRowK (encR rowsD.length k us) k (Go.Sort.ahead w n) (β id).b (β id).base d') (b' := .cells T k (d'.toList.map fun i : Fin rowsD.length => rows.getD i.1 [])) hid hw3 hw2 hw4 (by
    refine ⟨pre, d'.toList.flatMap (encR rowsD.length k us), post, hw1, e2, RLA_rows hrl e7 e3 hst _, ?_, e5, ?_, ?_⟩
    · rw [← e4]; simp [hul']
    · intro v hv
      obtain ⟨r, hr, hv⟩ := List.mem_flatten.1 hv
      obtain ⟨i, _, rfl⟩ := List.mem_map.1 hr
      rw [hgd] at hv
      exact e6 v (List.mem_flatten.2 ⟨_, List.getElem_mem _, hv⟩)
    · intro r hr
      obtain ⟨i, _, rfl⟩ := List.mem_map.1 hr
      rw [hgd]
      exact e7 _ (List.getElem_mem _))
  have hgsz : (putRowK (encR rowsD.length k us) k (Go.Sort.ahead w n) (β id).b (β id).base d').heap.size ≤ (sortWorldK (encR rowsD.length k us) k w (β id).b (β id).base n d' os).heap.size := by
    unfold sortWorldK grow; simp
  have hgold : ∀ b, b < (putRowK (encR rowsD.length k us) k (Go.Sort.ahead w n) (β id).b (β id).base d').heap.size → (sortWorldK (encR rowsD.length k us) k w (β id).b (β id).base n d' os).heap[b]? = (putRowK (encR rowsD.length k us) k (Go.Sort.ahead w n) (β id).b (β id).base d').heap[b]? := fun b hb => by
    unfold sortWorldK grow
    rw [Array.getElem?_append_left hb]
  obtain ⟨g1, g2⟩ := c1.grow hgsz hgold ⟨rfl, rfl, rfl, fun _ => Nat.le_refl _⟩
  have hQ := hq _ hperm hpw
  refine ⟨.tup [], _, K, β, .tuple #[], rfl, hQ, g1, ?_, ?_⟩
  · simp only [R, RL]; exact ⟨[], rfl, rfl⟩
  · have := c2.trans (m' := s.length) (Nat.le_refl _) (by simpa using g2)
    exact this
end
/-! ### The causes, of our own -/
set_option maxHeartbeats 1000000 in
theorem causes_own (c m : List Int) (hc : c.length ≤ 4611686018427387904) (hm : m.length ≤ 12) (hp : pickP c m ≠ []) : ACalls Tryz.prog 89 [LI c, LI m] [] fun v s' => ∃ t rows', v = .own 0 0 (ints (cauP c m)).length ∧ s' = [some (.cells t 1 (rowsA rows'))] ∧ rows'.take (ints (cauP c m)).length = ints (cauP c m) ∧ scL (rowsA rows').flatten = true := by
  have hpl := pick_len c m
  cases hp2 : pickP c m with
  | nil => exact absurd hp2 hp
  | cons x l =>
    have hk := pick0 c m hc (by omega)
    rw [hp2] at hk hpl
    have h1 : ACalls Tryz.prog 89 [LI c, LI m] [] fun v s' => ∃ l' : List Int, (dedI l') = cauP c m ∧ v = .own 0 0 (dedI l').length ∧ s' = [some (.cells 3 1 (rowsA (ints (dedI l' ++ List.replicate (l'.length - (dedI l').length) 0))))] := by
      refine ACalls.of fn89 (by simp) ?_
      unfold c89
      have hsrt := sort_ok (x :: l) (by omega)
      simp only [List.length_cons] at hsrt
      repeat' (first | refine AW.seq' ?_ | with_reducible refine AW.blockS rfl ?_ | ((first | refine AW.ops ?_ | refine AW.draw ?_ | refine AW.skip ?_ | refine AW.ret ?_ | refine AW.exit ?_ |  (refine own_call (g := inR1) hk rfl ?_; rw [gVg_cons, gBg_cons]) |  (refine hsrt.mono fun v s' hq => ?_; obtain ⟨l', g1, g2, g3, rfl, rfl⟩ := hq; rw [← List.length_cons (a := x), ← g1]) |  (refine (compact_ok l' (by simp only [List.length_cons] at g1 hpl; omega)).mono fun v s' hq => ?_; obtain ⟨rfl, rfl⟩ := hq)) <;> simp only [RS, LS, SY, ne_eq, isFl, floatV, constA, thenQ, blockQ, pack, intA, boolA, eqA, unA, nilcA, asI, asB, asS, loadA, idxA, lenA, slcA, AV.flat, AV.one, zA1, storeA, toD, srcOf, copyA, ↓reduceIte, reduceCtorEq, List.replicate, Nat.reduceBEq, Nat.reduceAdd, Nat.reduceMul, Nat.reduceSub, Nat.reduceLeDiff, Nat.reduceLT, Int.reduceToNat, Nat.reduceEqDiff, Int.reduceEq]) | refine AW.condT rfl ?_ | refine AW.condF rfl ?_ | ((first | (refine GI.of (fun h => ?_) (fun h => ?_) ?emm; case emm => first | exact Classical.em _ | exact (Classical.em _).symm | grind) | (refine GD.of (fun h => ?_) (fun h => ?_) ?emm; case emm => first | exact Classical.em _ | exact (Classical.em _).symm | grind)) <;> simp only [RS, LS, SY, ne_eq, isFl, floatV, constA, thenQ, blockQ, pack, intA, boolA, eqA, unA, nilcA, asI, asB, asS, loadA, idxA, lenA, slcA, AV.flat, AV.one, zA1, storeA, toD, srcOf, copyA, ↓reduceIte, reduceCtorEq, List.replicate, Nat.reduceBEq, Nat.reduceAdd, Nat.reduceMul, Nat.reduceSub, Nat.reduceLeDiff, Nat.reduceLT, Int.reduceToNat, Nat.reduceEqDiff, Int.reduceEq, h]) | (refine AW.condP rfl (fun h => ?_) (fun h => ?_) <;> try simp only [Bool.and_eq_true, decide_eq_true_eq, Bool.not_eq_true', decide_eq_false_iff_not, Bool.not_eq_false', Bool.not_eq_true, Bool.not_eq_false] at h) | refine And.intro (by omega) ?_ | fail)
      refine ⟨l', ?_, rfl, rfl⟩
      exact str_ext (dedI_str g3) (cauP_str c m) fun v => by rw [dedI_mem, cauP_mem, hp2]; exact g2 v
    refine h1.mono fun v s' ⟨l', e1, e2, e3⟩ => ⟨3, _, ?_, e3, ?_, ?_⟩
    · rw [e2, e1]; simp [ints]
    · rw [← e1]; simp [ints]
    · generalize dedI l' ++ List.replicate (l'.length - (dedI l').length) 0 = q
      induction q with
      | nil => rfl
      | cons a q ih =>
        have e : (rowsA (ints (a :: q))).flatten = AV.d (dI a) :: (rowsA (ints q)).flatten := by simp [rowsA, ints]
        rw [e]
        simp only [scL, scA, Bool.true_and]
        exact ih
end Go.Proofs.YtipanehdmhachaaGreatDoor.H
