/- The evaluator: append and copy. -/
import Derived.Test.YtnnnmdmniceenaaEvC
import Derived.Laws.AppendOwn
set_option linter.unusedSimpArgs false
set_option linter.unusedVariables false
namespace Go.Proofs.Ytnnnmdmniceenaa.Ev
variable {Φ : Sig}
/-- The elements that a slice has: how many, and their cells. -/
def srcCells (bl : Blk) (sz : Nat) : SV → Option (Nat × List SV)
  | .nils => some (0, [])
  | .slc id off m c => match bl id with
    | some (_, cs) => if slcO off c + m * sz ≤ cs.length then some (m, (cs.drop (slcO off c)).take (m * sz)) else none
    | none => none
  | _ => none
theorem srcCells_ok {bl : Blk} {sz : Nat} {x : SV} {m : Nat} {l : List SV} (h : srcCells bl sz x = some (m, l)) {ρ : List Int} {η : Env} {w : World} (hb : Rb Φ ρ η bl w) :
    l.length = m * sz ∧ ((denV ρ η x = .slice none 0 0 ∧ m = 0) ∨ ∃ a c, denV ρ η x = .slice (some a) m c ∧ ∀ j u, (l.map (denV ρ η))[j]? = some u → w.cell? (a.add j) = some u) := by
  unfold srcCells at h
  split at h
  · simp only [Option.some.injEq, Prod.mk.injEq] at h
    obtain ⟨rfl, rfl⟩ := h
    exact ⟨by simp, .inl ⟨rfl, rfl⟩⟩
  · rename_i id off m' c
    split at h
    · rename_i B cs hbl
      split at h
      · rename_i hle
        simp only [Option.some.injEq, Prod.mk.injEq] at h
        obtain ⟨rfl, rfl⟩ := h
        refine ⟨by simp; omega, .inr ⟨_, _, rfl, fun j u hj => ?_⟩⟩
        rw [add_addr]
        refine (hb.holds _ _ _ hbl).cell ?_
        rw [List.map_take, List.map_drop] at hj
        have hjl : j < m' * sz := by
          have := (List.getElem?_eq_some_iff.1 hj).1
          simp at this; omega
        rw [List.getElem?_take_of_lt hjl, List.getElem?_drop] at hj
        exact hj
      · cases h
    · cases h
  · cases h
/-- A new block, with more cells than are known. -/
theorem Eff.grow {ρ : List Int} {η : Env} {bl : Blk} {nb : Nat} {w : World} (T : TypeId) (cs : List SV) (v : SV) (rest : List Value) (hn : ∀ x ∈ cs, x.no nb = true) :
    Eff ρ η (η.lay nb w.heap.size ((cs.map (denV ρ η) ++ rest).length)) bl nb { v, wr := [(nb, some (T, cs))], nn := 1, asr := [], cal := none, rng := [] } w (w.drew.alloc (.cells (cs.map (denV ρ η) ++ rest).toArray T)) where
  size := by simp
  io := ⟨rfl, rfl, rfl⟩
  al := rfl
  same := fun i hi => by
    have hi' : i < nb ∨ nb + 1 ≤ i := hi
    exact Env.lay_ne η _ _ (by omega)
  frame := fun b hb _ => heap_alloc_old w.drew _ hb
  made := fun i T' cs' h => by
    simp only [List.mem_singleton, Prod.mk.injEq, Option.some.injEq] at h
    obtain ⟨rfl, rfl, rfl⟩ := h
    have e : cs'.map (denV ρ (η.lay i w.heap.size ((cs'.map (denV ρ η) ++ rest).length))) = cs'.map (denV ρ η) := List.map_congr_left fun x hx => no_lay (hn x hx)
    refine ⟨rest, ?_, by rw [e, Env.lay_κ]⟩
    rw [Env.lay_same, e]
    exact heap_alloc_new w.drew _
  fresh := fun i h1 h2 => by
    have : i = nb := by simp only [] at h2; omega
    subst this; exact .inl (by simp)
  apart := fun i j h1 h2 h3 h4 h => by simp only [] at h2 h4; omega
  known := fun p h => by
    simp only [List.mem_singleton] at h
    subst h
    exact .inr ⟨Nat.le_refl _, by simp⟩
  once := by simp
def evAppend (P : Program) (bl : Blk) (nb : Nat) (T : TypeId) (s x : SV) : Option Res := match P.underlying T with
  | some (.slice el) => match P.info? el with
    | some i => match i.zero with
      | some z => if 0 < i.size ∧ z.cells.size = i.size then
          match srcCells bl i.size x with
          | some (m, news) =>
            if m = 0 then match s with
              | .nils => some (val .nils)
              | .slc id off n (some c) => if n ≤ c then some (val (.slc id off n (some c))) else none
              | .slc id off n none => match bl id with
                | some (_, cs) => if off = i.size ∧ n * i.size ≤ cs.length then some (val (.slc id off n none)) else none
                | none => none
              | _ => none
            else if news.all (fun v => v.scal && v.no nb) then match s with
              | .nils => if m * i.bytes ≤ 140737488355328 ∧ m ≤ 1000000 then
                  some { v := .slc nb i.size m none, wr := [(nb, some (el, news))], nn := 1, asr := [], cal := none, rng := [] } else none
              | .slc id off n (some c) => match bl id with
                | some (B, cs) => if n + m ≤ c then match setV cs (off + n * i.size) news with
                    | some cs' => if id < nb then some { v := .slc id off (n + m) (some c), wr := [(id, some (B, cs'))], nn := 0, asr := [], cal := none, rng := [] } else none
                    | none => none
                  else if off + n * i.size ≤ cs.length ∧ (n + m) * i.bytes ≤ 140737488355328 ∧ n + m ≤ 1000000 ∧ ((cs.drop off).take (n * i.size)).all (fun v => v.no nb) = true then
                    some { v := .slc nb i.size (n + m) none, wr := [(nb, some (el, (cs.drop off).take (n * i.size) ++ news))], nn := 1, asr := [], cal := none, rng := [] }
                  else none
                | none => none
              | .slc id off n none => match bl id with
                | some (B, cs) => if off = i.size ∧ B = el ∧ n * i.size ≤ cs.length ∧ id < nb ∧ (n + m) * i.bytes ≤ 140737488355328 ∧ n + m ≤ 1000000 ∧ (cs.take (n * i.size)).all (fun v => v.no nb) = true then
                    some { v := .slc nb i.size (n + m) none, wr := [(id, none), (nb, some (el, cs.take (n * i.size) ++ news))], nn := 1, asr := [], cal := none, rng := [] }
                  else none
                | none => none
              | _ => none
            else none
          | none => none
        else none
      | none => none
    | none => none
  | _ => none
theorem run_append_none {P : Program} {w : World} {t ty e : TypeId} {i : TypeInfo} (ht : P.underlying t = some (.slice e)) (hi : P.info? e = some i) (b : Option Addr) (n c : Nat) (hn : n ≤ c) {x : Value}
    (hx : x = .slice none 0 0 ∨ ∃ a c', x = .slice (some a) 0 c') : (Builtin.append_ #[t, t] ty #[.slice b n c, x]).run P w = .ok (.slice b n c) w := by
  rcases hx with rfl | ⟨a, c', rfl⟩
  · cases b <;> simp [Builtin.append_, run_underlying ht, sizeOf, typeInfo, hi, Builtin.lenOf, Builtin.firstCells, loadCells, loadCellsFrom, hn, storeCells]
  · cases b <;> simp [Builtin.append_, run_underlying ht, sizeOf, typeInfo, hi, Builtin.lenOf, Builtin.firstCells, loadCells, loadCellsFrom, hn, storeCells]
theorem maxLen_ge : (1000000 : Nat) ≤ maxLen := by unfold maxLen; omega
set_option maxHeartbeats 1000000 in
theorem evAppend_ok {P : Program} {bl : Blk} {nb : Nat} {T ty : TypeId} {s x : SV} {r : Res} (h : evAppend P bl nb T s x = some r) {ρ : List Int} {η : Env} {w : World} (hb : Rb Φ ρ η bl w) :
    Runs P ρ η bl nb w r (Builtin.append_ #[T, T] ty #[denV ρ η s, denV ρ η x]) := by
  unfold evAppend at h
  split at h
  · rename_i el hu
    split at h
    · rename_i i hi
      split at h
      · rename_i z hz
        split at h
        · rename_i hsz
          split at h
          · rename_i m news hsrc
            obtain ⟨hlen, hform⟩ := srcCells_ok hsrc hb
            split at h
            · rename_i hm
              subst hm
              have hx : denV ρ η x = .slice none 0 0 ∨ ∃ a c', denV ρ η x = .slice (some a) 0 c' := by
                rcases hform with hf | ⟨a, c, hf, _⟩
                · exact .inl hf.1
                · exact .inr ⟨a, c, hf⟩
              split at h
              · simp only [Option.some.injEq] at h; subst h
                exact .pure rfl rfl (run_append_none hu hi none 0 0 (Nat.le_refl _) hx)
              · split at h
                · rename_i hc
                  simp only [Option.some.injEq] at h; subst h
                  exact .pure rfl rfl (run_append_none hu hi _ _ _ hc hx)
                · cases h
              · rename_i id off n
                split at h
                · rename_i B cs hbl
                  split at h
                  · rename_i hc
                    simp only [Option.some.injEq] at h; subst h
                    obtain ⟨rest, hr, hk⟩ := hb.holds _ _ _ hbl
                    refine .pure rfl rfl (run_append_none hu hi _ _ _ ?_ hx)
                    show n ≤ η.κ id / off
                    rw [hc.1, ← hk]
                    exact (Nat.le_div_iff_mul_le hsz.1).2 (by simp; omega)
                  · cases h
                · cases h
              · cases h
            · rename_i hm
              split at h
              · rename_i hall
                have hsc : ∀ v ∈ news, v.scal = true ∧ v.no nb = true := fun v hv => by simpa using List.all_eq_true.1 hall v hv
                have hone : ∀ u ∈ news.map (denV ρ η), u.oneCell' = true := fun u hu' => by
                  obtain ⟨y, hy, rfl⟩ := List.mem_map.1 hu'
                  exact scal_one (hsc y hy).1
                obtain ⟨a, c0, hxv, hcell⟩ : ∃ a c, denV ρ η x = .slice (some a) m c ∧ ∀ j u, (news.map (denV ρ η))[j]? = some u → w.cell? (a.add j) = some u := by
                  rcases hform with hf | hf
                  · exact absurd hf.2 hm
                  · exact hf
                have hnl : (news.map (denV ρ η)).length = m * i.size := by simpa using hlen
                rw [hxv]
                -- what a grown block looks like
                have grown : ∀ (olds : List SV) (n old : Nat), olds.length = n * i.size → n + m ≤ grownCap w (n + m) old el →
                    (((olds.map (denV ρ η)).toArray ++ (news.map (denV ρ η)).toArray ++ Builtin.zeroCells z.cells (grownCap w (n + m) old el - (n + m))) : Array Value) =
                      ((olds ++ news).map (denV ρ η) ++ (Builtin.zeroCells z.cells (grownCap w (n + m) old el - (n + m))).toList).toArray ∧
                    (((olds ++ news).map (denV ρ η) ++ (Builtin.zeroCells z.cells (grownCap w (n + m) old el - (n + m))).toList).length) / i.size = grownCap w (n + m) old el := by
                  intro olds n old hol hge
                  refine ⟨by apply Array.ext'; simp, ?_⟩
                  have e : (((olds ++ news).map (denV ρ η) ++ (Builtin.zeroCells z.cells (grownCap w (n + m) old el - (n + m))).toList).length) = grownCap w (n + m) old el * i.size := by
                    simp only [List.length_append, List.length_map, Array.length_toList, size_zeroCells, hsz.2, hol, hlen, ← Nat.add_mul]
                    congr 1; omega
                  rw [e, Nat.mul_div_cancel _ hsz.1]
                split at h
                · split at h
                  · rename_i hbd
                    simp only [Option.some.injEq] at h; subst h
                    have hml := maxLen_ge
                    have hr := run_append_nil (P := P) w T ty el i z hu hi hz a m c0 (news.map (denV ρ η)) hnl hcell (by omega) (by omega) (by omega)
                    obtain ⟨g1, g2⟩ := grown [] 0 0 (by simp) (by have := grownCap_ge w m 0 el; simpa using this)
                    simp only [List.map_nil, Nat.zero_add, List.nil_append] at g1 g2
                    refine ⟨_, _, ?_, Eff.grow (bl := bl) el news (.slc nb i.size m none) (Builtin.zeroCells z.cells (grownCap w m 0 el - m)).toList (fun v hv => (hsc v hv).2)⟩
                    have e1 : denV ρ η .nils = .slice none 0 0 := rfl
                    rw [e1, hr]
                    simp only [denV, Env.lay_same, Env.lay_κ, slcO, slcC, g2]
                    rw [← g1]
                    simp
                  · cases h
                · rename_i id off n c
                  split at h
                  · rename_i B cs hbl
                    have hh := hb.holds _ _ _ hbl
                    split at h
                    · rename_i hroom
                      split at h
                      · rename_i cs' hset
                        split at h
                        · rename_i hid
                          simp only [Option.some.injEq] at h; subst h
                          unfold setV at hset
                          split at hset
                          · rename_i hle
                            simp only [Option.some.injEq] at hset
                            obtain ⟨w', e1, e2, e3, e5, e4⟩ := run_storeCells (P := P) (b := η.β id) (T := B) (news.map (denV ρ η)) (off + n * i.size) 0 (cs.map (denV ρ η)) w hh (by simpa using hle) hone
                            refine ⟨η, w', ?_, ?_⟩
                            · have hf := run_firstCells_some (P := P) w i.size m a m c0 (news.map (denV ρ η)) hnl hcell
                              simp [Builtin.append_, denV, run_underlying hu, sizeOf, typeInfo, hi, Builtin.lenOf, hroom, hf, add_addr, e1]
                            · exact {
                                size := by omega
                                io := e5
                                al := rfl
                                same := fun _ _ => ⟨rfl, rfl⟩
                                frame := fun b _ hb' => e4 b (hb' _ (List.mem_singleton.2 rfl) hid)
                                made := fun j T' cs'' hmm => by
                                  simp only [List.mem_singleton, Prod.mk.injEq, Option.some.injEq] at hmm
                                  obtain ⟨rfl, rfl, rfl⟩ := hmm
                                  rw [← hset]
                                  simpa [List.map_take, List.map_drop] using e2
                                fresh := fun j h1 h2 => by simp only [] at h2; omega
                                apart := fun j k h1 h2 => by simp only [] at h2; omega
                                known := fun p hp => by
                                  simp only [List.mem_singleton] at hp
                                  subst hp
                                  exact .inl ⟨hid, by simp [hbl]⟩
                                once := by simp }
                          · cases hset
                        · cases h
                      · cases h
                    · rename_i hroom
                      split at h
                      · rename_i hbd
                        simp only [Option.some.injEq] at h; subst h
                        have hml := maxLen_ge
                        have hol : ((cs.drop off).take (n * i.size)).length = n * i.size := by simp; omega
                        have holds : ∀ j u, (((cs.drop off).take (n * i.size)).map (denV ρ η))[j]? = some u → w.cell? ((⟨η.β id, off, none⟩ : Addr).add j) = some u := fun j u hj => by
                          rw [add_addr]
                          refine hh.cell ?_
                          rw [List.map_take, List.map_drop] at hj
                          have hjl : j < n * i.size := by
                            have := (List.getElem?_eq_some_iff.1 hj).1
                            simp at this; omega
                          rw [List.getElem?_take_of_lt hjl, List.getElem?_drop] at hj
                          exact hj
                        have hr := run_append_grow (P := P) w T ty el i z hu hi hz ⟨η.β id, off, none⟩ n c (((cs.drop off).take (n * i.size)).map (denV ρ η)) (by simpa using hol) holds a m c0 (news.map (denV ρ η)) hnl hcell (by omega) (by omega) (growslice_fits (by omega) hbd.2.1)
                        obtain ⟨g1, g2⟩ := grown ((cs.drop off).take (n * i.size)) n c hol (grownCap_ge w (n + m) c el)
                        refine ⟨_, _, ?_, Eff.grow (bl := bl) el ((cs.drop off).take (n * i.size) ++ news) (.slc nb i.size (n + m) none) (Builtin.zeroCells z.cells (grownCap w (n + m) c el - (n + m))).toList (fun v hv => ?_)⟩
                        · have e1 : denV ρ η (.slc id off n (some c)) = .slice (some ⟨η.β id, off, none⟩) n c := rfl
                          rw [e1, hr]
                          simp only [denV, Env.lay_same, Env.lay_κ, slcO, slcC, g2]
                          rw [← g1]
                        · rcases List.mem_append.1 hv with hv | hv
                          · exact List.all_eq_true.1 hbd.2.2.2 v hv
                          · exact (hsc v hv).2
                      · cases h
                  · cases h
                · rename_i id off n
                  split at h
                  · rename_i B cs hbl
                    have hh := hb.holds _ _ _ hbl
                    split at h
                    · rename_i hbd
                      obtain ⟨rfl, rfl, hle, hid, hby, hmx, hno⟩ := hbd
                      simp only [Option.some.injEq] at h; subst h
                      have hml := maxLen_ge
                      obtain ⟨rest, hr0, hk0⟩ := hh
                      have hol : (cs.take (n * i.size)).length = n * i.size := by simp; omega
                      have e1 : denV ρ η (.slc id i.size n none) = .slice (some ⟨η.β id, 0, none⟩) n (η.κ id / i.size) := rfl
                      by_cases hroom : n + m ≤ η.κ id / i.size
                      · -- there is room
                        have hfit : n * i.size + (news.map (denV ρ η)).length ≤ (cs.map (denV ρ η) ++ rest).toArray.size := by
                          have h1 : (n + m) * i.size ≤ η.κ id := (Nat.le_div_iff_mul_le hsz.1).1 hroom
                          rw [hnl, ← Nat.add_mul]
                          simp only [List.size_toArray]
                          omega
                        have hr := run_append_room (P := P) w T ty B i hu hi (η.β id) n (η.κ id / i.size) _ hr0 a m c0 (news.map (denV ρ η)) hnl hcell hone hroom hfit
                        have etake : (cs.map (denV ρ η) ++ rest).take (n * i.size) = (cs.take (n * i.size)).map (denV ρ η) := by
                          rw [List.take_append_of_le_length (by simpa using hle), List.map_take]
                        generalize hW : w.setRow (η.β id) _ = W' at hr
                        refine ⟨η.lay nb (η.β id) (η.κ id), W', ?_, ?_⟩
                        · rw [e1, hr]
                          simp only [denV, Env.lay_same, Env.lay_κ, slcO, slcC]
                        · subst hW
                          have hne : ∀ v ∈ cs.take (n * i.size) ++ news, v.no nb = true := fun v hv => by
                            rcases List.mem_append.1 hv with hv | hv
                            · exact List.all_eq_true.1 hno v hv
                            · exact (hsc v hv).2
                          exact {
                            size := by simp [World.setRow]
                            io := ⟨rfl, rfl, rfl⟩
                            al := rfl
                            same := fun j hj => by
                              have hj' : j < nb ∨ nb + 1 ≤ j := hj
                              exact Env.lay_ne η _ _ (by omega)
                            frame := fun b _ hb' => setRow_other w (η.β id) b _ (hb' (id, none) (by simp) hid)
                            made := fun j T' cs'' hmm => by
                              simp only [List.mem_cons, Prod.mk.injEq, List.not_mem_nil, or_false, reduceCtorEq, and_false, false_or, Option.some.injEq] at hmm
                              obtain ⟨rfl, rfl, rfl⟩ := hmm
                              have e : (cs.take (n * i.size) ++ news).map (denV ρ (η.lay j (η.β id) (η.κ id))) = (cs.take (n * i.size)).map (denV ρ η) ++ news.map (denV ρ η) := by
                                rw [← List.map_append]; exact List.map_congr_left fun x hx => no_lay (hne x hx)
                              refine ⟨(cs.map (denV ρ η) ++ rest).drop (n * i.size + (news.map (denV ρ η)).length), ?_, ?_⟩
                              · rw [Env.lay_same, e, setRow_heap w (η.β id) _ _ T' _ hr0]
                                simp only [etake]
                              · rw [e, Env.lay_κ, ← etake, ← hk0]
                                simp only [List.size_toArray] at hfit
                                simp only [List.length_append, List.length_take, List.length_drop] at hfit ⊢
                                omega
                            fresh := fun j h1 h2 => by
                              have : j = nb := by simp only [] at h2; omega
                              subst this
                              exact .inr ⟨id, by simp, hid, by simp [hbl], Env.lay_same ..⟩
                            apart := fun j k h1 h2 h3 h4 h => by simp only [] at h2 h4; omega
                            known := fun p hp => by
                              simp only [List.mem_cons, List.not_mem_nil, or_false] at hp
                              rcases hp with rfl | rfl
                              · exact .inl ⟨hid, by simp [hbl]⟩
                              · exact .inr ⟨Nat.le_refl _, by simp⟩
                            once := by simp; omega }
                      · -- it grows
                        have holds : ∀ j u, ((cs.take (n * i.size)).map (denV ρ η))[j]? = some u → w.cell? ((⟨η.β id, 0, none⟩ : Addr).add j) = some u := fun j u hj => by
                          rw [add_addr, Nat.zero_add]
                          refine Holds.cell ⟨rest, hr0, hk0⟩ ?_
                          rw [List.map_take] at hj
                          have hjl : j < n * i.size := by
                            have := (List.getElem?_eq_some_iff.1 hj).1
                            simp at this; omega
                          rw [List.getElem?_take_of_lt hjl] at hj
                          exact hj
                        have hr := run_append_grow (P := P) w T ty B i z hu hi hz ⟨η.β id, 0, none⟩ n (η.κ id / i.size) ((cs.take (n * i.size)).map (denV ρ η)) (by simpa using hol) holds a m c0 (news.map (denV ρ η)) hnl hcell (by omega) (by omega) (growslice_fits (by omega) hby)
                        obtain ⟨g1, g2⟩ := grown (cs.take (n * i.size)) n (η.κ id / i.size) hol (grownCap_ge w (n + m) _ B)
                        have hE := Eff.grow (ρ := ρ) (η := η) (bl := bl) (nb := nb) (w := w) B (cs.take (n * i.size) ++ news) (.slc nb i.size (n + m) none) (Builtin.zeroCells z.cells (grownCap w (n + m) (η.κ id / i.size) B - (n + m))).toList (fun v hv => by
                          rcases List.mem_append.1 hv with hv | hv
                          · exact List.all_eq_true.1 hno v hv
                          · exact (hsc v hv).2)
                        refine ⟨_, _, ?_, { size := hE.size, io := hE.io, al := hE.al, same := hE.same, frame := fun b hb1 hb' => hE.frame b hb1 fun p hp hp1 => hb' p (List.mem_cons_of_mem _ hp) hp1
                                            made := fun j T' cs'' hmm => hE.made j T' cs'' (by
                                              simp only [List.mem_cons, Prod.mk.injEq, List.not_mem_nil, or_false, reduceCtorEq, and_false, false_or, Option.some.injEq] at hmm
                                              simp [hmm])
                                            fresh := fun j h1 h2 => by
                                              rcases hE.fresh j h1 h2 with hf | ⟨k, hk, _⟩
                                              · exact .inl hf
                                              · simp at hk
                                            apart := hE.apart
                                            known := fun p hp => by
                                              simp only [List.mem_cons, List.not_mem_nil, or_false] at hp
                                              rcases hp with rfl | rfl
                                              · exact .inl ⟨hid, by simp [hbl]⟩
                                              · exact .inr ⟨Nat.le_refl _, by simp⟩
                                            once := by simp; omega }⟩
                        rw [e1, hr]
                        simp only [denV, Env.lay_same, Env.lay_κ, slcO, slcC, g2]
                        rw [← g1]
                    · cases h
                  · cases h
                · cases h
              · cases h
          · cases h
        · cases h
      · cases h
    · cases h
  · cases h
def evCopy (P : Program) (bl : Blk) (nb : Nat) (T : TypeId) (d x : SV) : Option Res := match P.underlying T with
  | some (.slice el) => match sizeT P el with
    | some sz => match d with
      | .slc id off n c => match bl id, srcCells bl sz x with
        | some (B, cs), some (m, news) =>
          let k := Nat.min m n
          if (news.take (k * sz)).all SV.scal = true ∧ id < nb then match setV cs (slcO off c) (news.take (k * sz)) with
            | some cs' => some { v := .int .i64 (.lit k), wr := [(id, some (B, cs'))], nn := 0, asr := [], cal := none, rng := [] }
            | none => none
          else none
        | _, _ => none
      | _ => none
    | none => none
  | _ => none
theorem evCopy_ok {P : Program} {bl : Blk} {nb : Nat} {T T' ty : TypeId} {d x : SV} {r : Res} (h : evCopy P bl nb T d x = some r) {ρ : List Int} {η : Env} {w : World} (hb : Rb Φ ρ η bl w) :
    Runs P ρ η bl nb w r (Builtin.copy_ #[T, T'] ty #[denV ρ η d, denV ρ η x]) := by
  unfold evCopy at h
  split at h
  · rename_i el hu
    split at h
    · rename_i sz hs
      split at h
      · rename_i id off n c
        split at h
        · rename_i B cs m news hbl hsrc
          obtain ⟨hlen, hform⟩ := srcCells_ok hsrc hb
          have hh := hb.holds _ _ _ hbl
          simp only [] at h
          split at h
          · rename_i hc
            split at h
            · rename_i cs' hset
              simp only [Option.some.injEq] at h; subst h
              have hkl : (news.take (Nat.min m n * sz)).length = Nat.min m n * sz := by
                have : Nat.min m n * sz ≤ m * sz := Nat.mul_le_mul_right _ (Nat.min_le_left _ _)
                simp only [List.length_take]; omega
              have hone : ∀ u ∈ (news.take (Nat.min m n * sz)).map (denV ρ η), u.oneCell' = true := fun u hu' => by
                obtain ⟨y, hy, rfl⟩ := List.mem_map.1 hu'
                exact scal_one (List.all_eq_true.1 hc.1 y hy)
              unfold setV at hset
              split at hset
              · rename_i hle
                simp only [Option.some.injEq] at hset
                obtain ⟨w', e1, e2, e3, e5, e4⟩ := run_storeCells (P := P) (b := η.β id) (T := B) ((news.take (Nat.min m n * sz)).map (denV ρ η)) (slcO off c) 0 (cs.map (denV ρ η)) w hh (by simpa using hle) hone
                refine ⟨η, w', ?_, ?_⟩
                · rcases hform with ⟨hf, hm⟩ | ⟨a, c0, hf, hcell⟩
                  · subst hm
                    have hn : news = [] := List.eq_nil_of_length_eq_zero (by simpa using hlen)
                    subst hn
                    have e0 : Nat.min 0 n = 0 := Nat.zero_min n
                    simp only [e0] at e1
                    rw [hf]
                    simp [storeCells] at e1
                    subst e1
                    simp [Builtin.copy_, denV, run_underlying hu, Builtin.lenOf, run_sizeOf hs, e0, Builtin.firstCells, storeCells, goInt, den]
                  · have hfc := run_firstCells_some (P := P) w sz (Nat.min m n) a m c0 ((news.take (Nat.min m n * sz)).map (denV ρ η)) (by simpa using hkl) (fun j u hj => hcell j u (by
                      rw [List.map_take] at hj
                      have hjl := (List.getElem?_eq_some_iff.1 hj).1
                      rw [List.length_take] at hjl
                      rwa [List.getElem?_take_of_lt (by omega)] at hj))
                    rw [hf]
                    have e1' := e1
                    rw [List.map_take] at e1'
                    simp [Builtin.copy_, denV, run_underlying hu, Builtin.lenOf, run_sizeOf hs, hfc, e1', goInt, den]
                · exact {
                    size := by omega
                    io := e5
                    al := rfl
                    same := fun _ _ => ⟨rfl, rfl⟩
                    frame := fun b _ hb' => e4 b (hb' _ (List.mem_singleton.2 rfl) hc.2)
                    made := fun j T' cs'' hmm => by
                      simp only [List.mem_singleton, Prod.mk.injEq, Option.some.injEq] at hmm
                      obtain ⟨rfl, rfl, rfl⟩ := hmm
                      rw [← hset]
                      simpa [List.map_take, List.map_drop] using e2
                    fresh := fun j h1 h2 => by simp only [] at h2; omega
                    apart := fun j k h1 h2 => by simp only [] at h2; omega
                    known := fun p hp => by
                      simp only [List.mem_singleton] at hp
                      subst hp
                      exact .inl ⟨hc.2, by simp [hbl]⟩
                    once := by simp }
              · cases hset
            · cases h
          · cases h
        · cases h
      · cases h
    · cases h
  · cases h
end Go.Proofs.Ytnnnmdmniceenaa.Ev
