/- The laws of append and copy; of all operations that make or change blocks. -/
import Derived.Test.YtcedkkleclhglaaHaJ
set_option linter.unusedSimpArgs false
set_option linter.unusedVariables false
set_option linter.unusedSectionVars false
namespace Go.Proofs.Ytcedkkleclhglaa.H
section
variable {P : Program} {w : World} {K : Nat → Prop} {β : Nat → Loc} {s : St}
theorem run_append_none {t ty e : TypeId} {i : TypeInfo} (ht : P.underlying t = some (.slice e)) (hi : P.info? e = some i) (b : Option Addr) (n c : Nat) (hn : n ≤ c) (x : Option Addr) (c' : Nat) :
    (Builtin.append_ #[t, t] ty #[.slice b n c, .slice x 0 c']).run P w = .ok (.slice b n c) w := by
  cases x with
  | none => cases b <;> simp [Builtin.append_, run_underlying ht, sizeOf, typeInfo, hi, Builtin.lenOf, Builtin.firstCells, loadCells, loadCellsFrom, hn, storeCells]
  | some a => cases b <;> simp [Builtin.append_, run_underlying ht, sizeOf, typeInfo, hi, Builtin.lenOf, Builtin.firstCells, loadCells, loadCellsFrom, hn, storeCells]
/-- It grows: whatever the base, of which 'n' rows are read. -/
theorem append_grow (hz : Cz w K β s) {t ty e : TypeId} {i : TypeInfo} {z : Value} (ht : P.underlying t = some (.slice e)) (hi : P.info? e = some i) (hzv : i.zero = some z) (hzs : z.cells.size = i.size)
    {base : Option Addr} {n cap : Nat} (hcap : base = none → n = 0 ∧ cap = 0) {rows ys : List (List AV)} {olds news : List Value} (ho : RL w K β s.length rows.flatten olds) (hrn : rows.length = n) (hrk : ∀ r ∈ rows, r.length = i.size)
    (hold : ∀ b, base = some b → ∀ j v, olds[j]? = some v → w.cell? (b.add j) = some v) {a : Addr} {c : Nat} (hn : RL w K β s.length ys.flatten news) (hyk : ∀ r ∈ ys, r.length = i.size)
    (hnews : ∀ j v, news[j]? = some v → w.cell? (a.add j) = some v) (ho1 : ∀ v ∈ rows.flatten, v.one = true) (hn1 : ∀ v ∈ ys.flatten, v.one = true) (hm : 0 < ys.length) (hg : cap < n + ys.length)
    (hb : (n + ys.length) * i.bytes ≤ 140737488355328) (hl : n + ys.length ≤ 1000000000000) {rows' : List (List AV)} (hrows : rows' = rows ++ ys) :
    KGives P w K β s (.own s.length 0 (n + ys.length)) (s ++ [some (.cells e i.size rows')]) (Builtin.append_ #[t, t] ty #[.slice base n cap, .slice (some a) ys.length c]) := by
  subst hrows
  have hol : olds.length = n * i.size := by rw [RL_length ho, flatten_length hrk, hrn]
  have hnl : news.length = ys.length * i.size := by rw [RL_length hn, flatten_length hyk]
  have hrun : (Builtin.append_ #[t, t] ty #[.slice base n cap, .slice (some a) ys.length c]).run P w =
      .ok (.slice (some ⟨w.heap.size, 0, none⟩) (n + ys.length) (grownCap w (n + ys.length) cap e))
        (w.drew.alloc (.cells (olds.toArray ++ news.toArray ++ Builtin.zeroCells z.cells (grownCap w (n + ys.length) cap e - (n + ys.length))) e)) := by
    cases base with
    | none =>
      obtain ⟨rfl, rfl⟩ := hcap rfl
      have := run_append_nil (P := P) w t ty e i z ht hi hzv a ys.length c news hnl hnews hm (by omega) (by rw [Nat.zero_add] at hb; omega)
      have ho0 : olds = [] := List.eq_nil_of_length_eq_zero (by simpa using hol)
      subst ho0
      simpa using this
    | some b => exact run_append_grow (P := P) w t ty e i z ht hi hzv b n cap olds hol (hold b rfl) a ys.length c news hnl hnews hg (by omega) (growslice_fits hg hb)
  have hge := grownCap_ge w (n + ys.length) cap e
  have harr : (olds.toArray ++ news.toArray ++ Builtin.zeroCells z.cells (grownCap w (n + ys.length) cap e - (n + ys.length)) : Array Value) =
      ((olds ++ news) ++ (Builtin.zeroCells z.cells (grownCap w (n + ys.length) cap e - (n + ys.length))).toList).toArray := by apply Array.ext'; simp
  obtain ⟨c1, c2⟩ := hz.new (w' := w.drew.alloc (.cells (olds.toArray ++ news.toArray ++ Builtin.zeroCells z.cells (grownCap w (n + ys.length) cap e - (n + ys.length))) e)) (us := olds ++ news)
    (post := (Builtin.zeroCells z.cells (grownCap w (n + ys.length) cap e - (n + ys.length))).toList) (T := e) (k := i.size) (cap := grownCap w (n + ys.length) cap e) (rows := rows ++ ys) (by rw [heap_drew, harr]) (io_drew ..)
    (by rw [List.flatten_append]; exact RL_append ho hn) (by
      intro v hv
      rw [List.flatten_append] at hv
      rcases List.mem_append.1 hv with hv | hv
      · exact ho1 v hv
      · exact hn1 v hv) (by
      intro r hr
      rcases List.mem_append.1 hr with hr | hr
      · exact hrk r hr
      · exact hyk r hr) (by
      have hzl : (Builtin.zeroCells z.cells (grownCap w (n + ys.length) cap e - (n + ys.length))).toList.length = (grownCap w (n + ys.length) cap e - (n + ys.length)) * i.size := by
        rw [Array.length_toList, size_zeroCells, hzs]
      rw [List.length_append, List.length_append, hzl, hol, hnl, ← Nat.add_mul, ← Nat.add_mul]
      congr 1; omega)
  refine ⟨_, _, _, _, hrun, c1, ?_, c2⟩
  simp only [R, lay_same]
  exact ⟨by simp, _, _, rfl, hge, by simp, fun _ => by simp⟩
theorem append_ok {T ty el : TypeId} {i : TypeInfo} {z : List Value} (hu : P.underlying T = some (.slice el)) (hi : P.info? el = some i) (hz0 : zeroOf P el = some z) (hzi : z.length = i.size ∧ 0 < i.size)
    {x y : AV} {ux uy : Value} {C : Prop} {v : AV} {s' : St} (h : appendA s el i.size i.bytes x y = some (C, v, s')) (hC : C) (hz : Cz w K β s) (hx : R w K β s.length x ux) (hy : R w K β s.length y uy) :
    KGives P w K β s v s' (Builtin.append_ #[T, T] ty #[ux, uy]) := by
  obtain ⟨i', zv, hi', hzv, hzc, _⟩ := zeroOf_info hz0
  have : i' = i := Option.some.inj (hi'.symm.trans hi)
  subst this
  have hzs : zv.cells.size = i'.size := by rw [hzc]; simpa using hzi.1
  unfold appendA at h
  split at h
  · rename_i C0 ys hsrc
    split at h
    · -- nothing is appended
      have same : ∀ a n c, ux = .slice a n c → n ≤ c → C0 → v = x → s' = s → KGives P w K β s v s' (Builtin.append_ #[T, T] ty #[ux, uy]) := by
        intro a n c e1 e2 hC0 e3 e4
        subst e3 e4
        obtain ⟨⟨b, c', hb, _, _⟩, _, _⟩ := srcOf_ok hsrc hC0 hz hy
        refine ⟨ux, w, K, β, ?_, hz, hx, .refl (Nat.le_refl _)⟩
        rw [e1, hb]
        exact run_append_none hu hi a n c e2 b c'
      split at h
      · simp only [Option.some.injEq, Prod.mk.injEq] at h; obtain ⟨rfl, rfl, rfl⟩ := h
        have hx' := hx
        simp only [R] at hx'
        obtain ⟨a, e, _⟩ := hx'
        exact same a _ _ e (Nat.le_refl _) hC rfl rfl
      · simp only [Option.some.injEq, Prod.mk.injEq] at h; obtain ⟨rfl, rfl, rfl⟩ := h
        have hx' := hx
        simp only [R] at hx'
        obtain ⟨_, a, c, e, h2, _⟩ := hx'
        exact same _ _ _ e h2 hC rfl rfl
      · simp only [Option.some.injEq, Prod.mk.injEq] at h; obtain ⟨rfl, rfl, rfl⟩ := h
        have hx' := hx
        simp only [R, RD] at hx'
        obtain ⟨a, c, e, h2, _⟩ := hx'
        exact same _ _ _ e h2 hC rfl rfl
      · cases h
    · rename_i y1 yr
      split at h
      · rename_i k' rows
        simp only [Option.some.injEq, Prod.mk.injEq] at h; obtain ⟨rfl, rfl, rfl⟩ := h
        obtain ⟨hC0, hk, hb, hl⟩ := hC
        obtain ⟨⟨b, c', rfl, hyc, hform⟩, hy1, hyk⟩ := srcOf_ok hsrc hC0 hz hy
        rcases hform with hform | ⟨ay, news, rfl, hn, hnews⟩
        · simp at hform
        simp only [R] at hx
        obtain ⟨a, rfl, ha⟩ := hx
        obtain ⟨⟨a', c2, e1, _, hform⟩, ho1, hrk⟩ := src_rows (s := s) (β := β) hk (Nat.le_refl _) ha
        have hrl : (rowsA rows).length = rows.length := by simp [rowsA]
        rw [hrl] at e1 hform
        simp only [Value.slice.injEq, true_and] at e1
        obtain ⟨rfl, rfl⟩ := e1
        rcases hform with hform | ⟨x0, olds, rfl, ho, hold⟩
        · have hr0 : rows = [] := List.eq_nil_of_length_eq_zero hform
          subst hr0
          exact append_grow hz hu hi hzv hzs (n := 0) (cap := 0) (fun _ => ⟨rfl, rfl⟩) (rows := []) (olds := []) (by simp [RL]) rfl (by simp) (fun _ _ j v hj => by simp at hj) hn hyk hnews (by simp) hy1 (by simp) (by simp) hb hl (by simp [rowsA])
        · exact append_grow hz hu hi hzv hzs (n := rows.length) (cap := rows.length) (fun h => by cases h) ho hrl hrk (fun b hb j v hj => by cases hb; exact hold j v hj) hn hyk hnews ho1 hy1 (by simp) (by simp) hb hl rfl
      · rename_i id off len
        split at h
        · rename_i T' k' rows hc
          split at h
          · rename_i hTk
            obtain ⟨rfl, rfl⟩ := hTk
            simp only [Option.some.injEq, Prod.mk.injEq] at h; obtain ⟨rfl, rfl, rfl⟩ := h
            obtain ⟨hC0, hol, hb, hl⟩ := hC
            obtain ⟨⟨b, c', rfl, hyc, hform⟩, hy1, hyk⟩ := srcOf_ok hsrc hC0 hz hy
            rcases hform with hform | ⟨ay, news, rfl, hn, hnews⟩
            · simp at hform
            have hcs := cellsOf_some hc
            have hself : srcOf s i'.size (.own id off len) = some (off + len ≤ rows.length, (rows.drop off).take len) := by simp [srcOf, hc]
            obtain ⟨⟨a', c2, e1, hlc, hform⟩, ho1, hrk⟩ := srcOf_ok hself hol hz hx
            have hrl : ((rows.drop off).take len).length = len := by simp; omega
            rw [hrl] at e1 hform
            have hxR := hx
            simp only [R] at hxR
            obtain ⟨hid, x0, c, hux, h2, h3, h4⟩ := hxR
            rw [hux] at e1
            simp only [Value.slice.injEq, true_and] at e1
            obtain ⟨rfl, rfl⟩ := e1
            subst hux
            have hnl : news.length = (y1 :: yr).length * i'.size := by rw [RL_length hn, flatten_length hyk]
            obtain ⟨pre, us, post, e1, e2, e3, e4, e5, e6, e7⟩ := hz.cells hcs
            by_cases hroom : len + (y1 :: yr).length ≤ c
            · -- there is room
              have hx0 := h4 (by simp at hroom; omega)
              subst hx0
              have hul := RL_length e3
              rw [flatten_length e7] at hul
              generalize hL : pre ++ us ++ post = L at e1 e4
              have hoff : off * i'.size + len * i'.size ≤ us.length := by rw [hul, ← Nat.add_mul]; exact Nat.mul_le_mul_right _ hol
              have hcap : off * i'.size + c * i'.size = (β id).cap * i'.size := by rw [← Nat.add_mul, h3]
              have hmc : len * i'.size + news.length ≤ c * i'.size := by rw [hnl, ← Nat.add_mul]; exact Nat.mul_le_mul_right _ hroom
              have hLl : L.length = (β id).base + (β id).cap * i'.size := e4
              have hf := run_firstCells_some (P := P) w i'.size (y1 :: yr).length ay (y1 :: yr).length c' news hnl hnews
              have hvone : ∀ u ∈ news, u.oneCell' = true := fun u hu => by
                obtain ⟨j, hj⟩ := List.getElem?_of_mem hu
                have hlen := RL_length hn
                have hjl : j < (y1 :: yr).flatten.length := by have := (List.getElem?_eq_some_iff.1 hj).1; omega
                exact ((RL_iff.1 hn).2 j _ u (by simp only [List.getElem?_eq_getElem hjl]) hj).one (hy1 _ (List.getElem_mem hjl))
              have hst := run_storeCells_at P (β id).b ((β id).base + off * i'.size + len * i'.size) T' news 0 _ w e1 (by simp only [List.size_toArray, Nat.add_zero]; omega) hvone
              simp only [Nat.add_zero] at hst
              obtain ⟨s1, s2, s3⟩ := cells_split (L := L) (o := off * i'.size) (m := len * i'.size) hL.symm hoff
              have hnew : L.take ((β id).base + off * i'.size + len * i'.size) ++ news ++ L.drop ((β id).base + off * i'.size + len * i'.size + news.length) =
                  (pre ++ us.take (off * i'.size)) ++ ((us.drop (off * i'.size)).take (len * i'.size) ++ news) ++ L.drop ((β id).base + off * i'.size + len * i'.size + news.length) := by
                rw [← e2, List.take_add, s1, s2]; simp [List.append_assoc]
              rw [hnew] at hst
              have hRn : RL w K β s.length ((rows.drop off).take len ++ y1 :: yr).flatten ((us.drop (off * i'.size)).take (len * i'.size) ++ news) := by
                have e7' : ∀ r ∈ rows.drop off, r.length = i'.size := fun r hr => e7 r (List.mem_of_mem_drop hr)
                rw [List.flatten_append, flatten_take e7', flatten_drop e7]
                exact RL_append (RL_take (RL_drop e3 _) _) hn
              obtain ⟨g1, g2⟩ := hz.move (base := (β id).base + off * i'.size) (cap := c) hcs e1 (pre := pre ++ us.take (off * i'.size)) (us := (us.drop (off * i'.size)).take (len * i'.size) ++ news) (post := L.drop ((β id).base + off * i'.size + len * i'.size + news.length))
                (rows' := (rows.drop off).take len ++ y1 :: yr) (by simp; omega) (by
                  rw [← hnew]
                  simp only [List.length_append, List.length_take, List.length_drop]; omega) hRn (by
                  intro v hv
                  rw [List.flatten_append] at hv
                  rcases List.mem_append.1 hv with hv | hv
                  · exact ho1 v hv
                  · exact hy1 v hv) (by
                  intro r hr
                  rcases List.mem_append.1 hr with hr | hr
                  · exact hrk r hr
                  · exact hyk r hr)
              refine ⟨.slice (some ⟨(β id).b, (β id).base + off * i'.size, none⟩) (len + (y1 :: yr).length) c, _, _, _, ?_, g1, ?_, g2⟩
              · rw [e5]
                simp only [List.length_cons] at hroom hf
                simp only [List.append_assoc] at hst
                simp [Builtin.append_, run_underlying hu, sizeOf, typeInfo, hi, Builtin.lenOf, hroom, hf, add_addr, hst]
              · simp only [R, lay_same]
                exact ⟨by simp, _, c, rfl, hroom, by simp, fun _ => by simp⟩
            · obtain ⟨d1, d2⟩ := hz.drop1 id
              have hls : (s.set id none).length = s.length := by simp
              have := append_grow (s := s.set id none) (ty := ty) d1 hu hi hzv hzs (base := some x0) (n := len) (cap := c) (fun h => by cases h) (rows := (rows.drop off).take len)
                (olds := ((us.drop (off * i'.size)).take (len * i'.size))) (by
                  have e7' : ∀ r ∈ rows.drop off, r.length = i'.size := fun r hr => e7 r (List.mem_of_mem_drop hr)
                  rw [hls, flatten_take e7', flatten_drop e7]
                  exact RL_take (RL_drop e3 _) _) hrl hrk (fun b hb j v hj => by
                    cases hb
                    rw [List.getElem?_take] at hj
                    split at hj
                    · rename_i hjl
                      have hlp : 0 < len := by
                        rcases Nat.eq_zero_or_pos len with h | h
                        · subst h; simp at hjl
                        · exact h
                      rw [h4 (by omega), add_addr]
                      rw [List.getElem?_drop] at hj
                      rw [e5, Nat.add_assoc]
                      exact cell_own e1 e2 hj
                    · cases hj) (a := ay) (c := c') (ys := y1 :: yr) (news := news) (by rw [hls]; exact hn) hyk hnews ho1 hy1 (by simp) (by omega) hb hl rfl
              obtain ⟨u, w', K', β', q1, q2, q3, q4⟩ := this
              rw [hls] at q3 q4
              exact ⟨u, w', K', β', q1, q2, q3, d2.trans (Nat.le_refl _) q4⟩
          · cases h
        · cases h
      · cases h
  · cases h
theorem copy_ok {T T' ty el : TypeId} {k : Nat} (hu : P.underlying T = some (.slice el)) (hs : sizeT P el = some k) {x y : AV} {ux uy : Value} {C : Prop} {v : AV} {s' : St} (h : copyA s k x y = some (C, v, s')) (hC : C) (hz : Cz w K β s)
    (hx : R w K β s.length x ux) (hy : R w K β s.length y uy) : KGives P w K β s v s' (Builtin.copy_ #[T, T'] ty #[ux, uy]) := by
  unfold copyA at h
  split at h
  · rename_i id i off len C0 ys hsrc
    split at h
    · rename_i T1 k' rows hc
      simp only [Option.some.injEq, Prod.mk.injEq] at h; obtain ⟨rfl, rfl, rfl⟩ := h
      obtain ⟨hC0, hlen, hi, hle⟩ := hC
      obtain ⟨⟨b, c', rfl, hyc, hform⟩, hy1, hyk⟩ := srcOf_ok hsrc hC0 hz hy
      simp only [R] at hx
      obtain ⟨hid, rfl⟩ := hx
      have hfl := flatten_length hyk
      obtain ⟨us, hr, hf⟩ : ∃ us, RL w K β s.length ys.flatten us ∧ (Builtin.firstCells k ys.length (.slice b ys.length c')).run P w = .ok us.toArray w := by
        rcases hform with hform | ⟨a, us, rfl, hr, hcell⟩
        · have : ys = [] := List.eq_nil_of_length_eq_zero hform
          subst this
          refine ⟨[], by simp [RL], ?_⟩
          cases b <;> simp [Builtin.firstCells, loadCells, loadCellsFrom]
        · exact ⟨us, hr, run_firstCells_some (P := P) w k ys.length a ys.length c' us (by rw [RL_length hr, hfl]) hcell⟩
      obtain ⟨w', g1, g2, g3⟩ := setRow_ok (P := P) (off := off) hz (cellsOf_some hc) hi hr hy1 (by rw [hfl, hlen]; exact hle)
      refine ⟨.int .i64 len, w', K, β, ?_, g2, R_int _ _, g3⟩
      subst hlen
      simp [Builtin.copy_, run_underlying hu, Builtin.lenOf, run_sizeOf hs, hf, g1, goInt]
    · cases h
  · cases h
/-- The law of all of them. -/
theorem evK_ok {o : Op} {c : KO} (hc : kop P o = some c) {T : Tm} {C : Prop} {v : AV} {s' : St} (he : evK s T c = some (C, v, s')) (hC : C) (hz : Cz w K β s) {a : Act} (hT : RT w K β s.length T a) (dst : Option Nat) (ty : TypeId) (pos : String) (aft : Array Edge) (grd : Option (Nat × Bool)) :
    ∃ nx u w' K' β', (execOp a.eval { dst := dst, op := o, type := ty, pos := pos, after := aft, guard := grd }).run P w = .ok nx w' ∧ (nx = .value u ∨ (nx = .skip ∧ u = undef)) ∧ Cz w' K' β' s' ∧ R w' K' β' s'.length v u ∧ Ext s.length w K β s w' K' β' s' := by
  have fin : ∀ {r : Sem Value}, KGives P w K β s v s' r → (execOp a.eval { dst := dst, op := o, type := ty, pos := pos, after := aft, guard := grd } = (do pure (.value (← r)))) →
      ∃ nx u w' K' β', (execOp a.eval { dst := dst, op := o, type := ty, pos := pos, after := aft, guard := grd }).run P w = .ok nx w' ∧ (nx = .value u ∨ (nx = .skip ∧ u = undef)) ∧ Cz w' K' β' s' ∧ R w' K' β' s'.length v u ∧ Ext s.length w K β s w' K' β' s' := by
    intro r hr he
    obtain ⟨u, w', K', β', e1, e2, e3, e4⟩ := hr
    exact ⟨.value u, u, w', K', β', by rw [he]; simp only [Sem.run_bind, e1, Result.andThen_ok, Sem.run_pure], .inl rfl, e2, e3, e4⟩
  cases o with
  | assign x =>
    simp only [kop, Option.some.injEq] at hc; subst hc
    simp only [evK] at he
    split at he
    · rename_i v' hv
      simp only [Option.some.injEq, Prod.mk.injEq] at he; obtain ⟨rfl, rfl, rfl⟩ := he
      exact fin (r := pure (a.eval x)) ⟨a.eval x, w, K, β, by simp, hz, opd_ok hT hv, .refl (Nat.le_refl _)⟩ rfl
    · cases he
  | alloc T' =>
    simp only [kop] at hc
    split at hc
    · rename_i z hz0
      simp only [Option.some.injEq] at hc; subst hc
      simp only [evK, Option.some.injEq, Prod.mk.injEq] at he; obtain ⟨rfl, rfl, rfl⟩ := he
      exact fin (alloc_ok hz0 hz) rfl
    · cases hc
  | box T' x =>
    simp only [kop] at hc
    split at hc
    · rename_i n hs
      simp only [Option.some.injEq] at hc; subst hc
      simp only [evK] at he
      split at he
      · rename_i va hva
        exact fin (r := Instr.box T' (a.eval x)) (box_ok he hz (opd_ok hT hva)) rfl
      · cases he
    · cases hc
  | store T' x y =>
    simp only [kop] at hc
    split at hc
    · rename_i n hs
      simp only [Option.some.injEq] at hc; subst hc
      simp only [evK] at he
      split at he
      · rename_i va vb hva hvb
        obtain ⟨w', e1, e2, e3, rfl⟩ := store_ok hs he hC hz (opd_ok hT hva) (opd_ok hT hvb)
        exact ⟨.skip, undef, w', K, β, by simp [execOp, e1], .inr ⟨rfl, rfl⟩, e2, by simp [R, RL, undef], e3⟩
      · cases he
    · cases hc
  | buildSlice T' n ps =>
    simp only [kop] at hc
    split at hc
    · rename_i el hu
      split at hc
      · rename_i k z hs hz0
        split at hc
        · rename_i hcd
          split at hc
          · rename_i qs hq
            simp only [Option.some.injEq] at hc; subst hc
            simp only [evK] at he
            split at he
            · rename_i rs hr
              exact fin (bslice_ok hu hs hz0 hcd hq hT hr he hz) rfl
            · cases he
          · cases hc
        · cases hc
      · cases hc
    · cases hc
  | makeSlice T' l cc =>
    simp only [kop] at hc
    split at hc
    · rename_i el hu
      split at hc
      · rename_i i z hi hz0
        split at hc
        · rename_i hcd
          split at hc
          · rename_i na nb hna hnb
            split at hc
            · rename_i hab
              simp only [Option.some.injEq] at hc; subst hc
              simp only [evK, Option.some.injEq, Prod.mk.injEq] at he; obtain ⟨rfl, rfl, rfl⟩ := he
              exact fin (r := Instr.makeSlice T' (a.eval l) (a.eval cc)) (mkz_ok hu hi hz0 hcd hna hnb hab hz) rfl
            · cases hc
          · simp only [Option.some.injEq] at hc; subst hc
            simp only [evK] at he
            split at he
            · rename_i va vb hva hvb
              exact fin (r := Instr.makeSlice T' (a.eval l) (a.eval cc)) (mkslice_ok hu hi hz0 hcd he hC hz (opd_ok hT hva) (opd_ok hT hvb)) rfl
            · cases he
        · cases hc
      · cases hc
    · cases hc
  | call cl =>
    obtain ⟨callee, cargs, ctys⟩ := cl
    cases callee with
    | builtin b =>
      cases b with
      | append =>
        simp only [kop] at hc
        split at hc
        · rename_i T1 T2 x y hts has
          have hA : cargs = #[x, y] := by apply Array.ext'; simpa using has
          have hM : cargs.map a.eval = #[a.eval x, a.eval y] := by rw [hA]; simp
          split at hc
          · rename_i hTT
            subst hTT
            have hT' : ctys = #[T1, T1] := by apply Array.ext'; simpa using hts
            split at hc
            · rename_i el hu
              split at hc
              · rename_i i z hi hz0
                split at hc
                · rename_i hcd
                  simp only [Option.some.injEq] at hc; subst hc
                  simp only [evK] at he
                  split at he
                  · rename_i va vb hva hvb
                    exact fin (r := Builtin.append_ ctys ty (cargs.map a.eval)) (by rw [hT', hM]; exact append_ok hu hi hz0 hcd he hC hz (opd_ok hT hva) (opd_ok hT hvb)) (by simp [execOp, resolve, invoke, builtin])
                  · cases he
                · cases hc
              · cases hc
            · cases hc
          · cases hc
        · cases hc
      | copy =>
        simp only [kop] at hc
        split at hc
        · rename_i T1 T2 x y hts has
          have hA : cargs = #[x, y] := by apply Array.ext'; simpa using has
          have hM : cargs.map a.eval = #[a.eval x, a.eval y] := by rw [hA]; simp
          have hT' : ctys = #[T1, T2] := by apply Array.ext'; simpa using hts
          split at hc
          · rename_i el hu
            split at hc
            · rename_i k hs
              simp only [Option.some.injEq] at hc; subst hc
              simp only [evK] at he
              split at he
              · rename_i va vb hva hvb
                exact fin (r := Builtin.copy_ ctys ty (cargs.map a.eval)) (by rw [hT', hM]; exact copy_ok hu hs he hC hz (opd_ok hT hva) (opd_ok hT hvb)) (by simp [execOp, resolve, invoke, builtin])
              · cases he
            · cases hc
          · cases hc
        · cases hc
      | _ => simp [kop] at hc
    | value x =>
      cases x with
      | func f =>
        simp only [kop] at hc
        split at hc
        · simp only [Option.some.injEq] at hc; subst hc; cases he
        · cases hc
      | _ => simp only [kop, Option.some.injEq] at hc; subst hc; cases he
    | _ => simp [kop] at hc
  | _ => simp [kop] at hc
end
end Go.Proofs.Ytcedkkleclhglaa.H
