/- The laws of literals of slices, make, append, copy; of all operations that make or change blocks. -/
import Derived.Test.YtcedkkleclhglaaHaI
set_option linter.unusedSimpArgs false
set_option linter.unusedVariables false
set_option linter.unusedSectionVars false
namespace Go.Proofs.Ytcedkkleclhglaa.H
section
variable {P : Program} {w : World} {K : Nat → Prop} {β : Nat → Loc} {s : St}
theorem made_list {α : Type} [Inhabited α] {z : List α} {k : Nat} (hk : z.length = k) (h0 : 0 < k) : ∀ n, (List.range (n * k)).map (fun j => z.toArray[j % k]!) = (List.replicate n z).flatten
  | 0 => by simp
  | n + 1 => by
    rw [Nat.succ_mul, List.range_add, List.map_append, made_list hk h0 n, List.replicate_succ', List.flatten_append, List.map_map]
    congr 1
    simp only [List.flatten_cons, List.flatten_nil, List.append_nil]
    refine List.ext_getElem? fun c => ?_
    by_cases hc : c < k
    · simp [List.getElem?_range hc, Nat.mod_eq_of_lt hc, hk, hc]
    · rw [List.getElem?_eq_none (by simp; omega), List.getElem?_eq_none (by omega)]
theorem made_arr {z : List Value} {k : Nat} (hk : z.length = k) (h0 : 0 < k) (n : Nat) : (Array.range (n * k)).map (fun j => z.toArray[j % z.toArray.size]!) = ((List.replicate n z).flatten).toArray := by
  apply Array.ext'
  rw [Array.toList_map, Array.toList_range]
  have : z.toArray.size = k := by simpa using hk
  rw [this]
  exact made_list hk h0 n
theorem RL_zeros {T : TypeId} {z : List Value} (hz0 : zeroOf P T = some z) {n' : Nat} : ∀ n, RL w K β n' (List.replicate n (zeroA z)).flatten (List.replicate n z).flatten
  | 0 => by simp [RL]
  | n + 1 => by
    simp only [List.replicate_succ, List.flatten_cons]
    exact RL_append (zeroA_ok hz0) (RL_zeros hz0 n)
theorem zeros_one {z : List Value} {n : Nat} : ∀ v ∈ (List.replicate n (zeroA z)).flatten, v.one = true := by
  intro v hv
  obtain ⟨r, hr, hv⟩ := List.mem_flatten.1 hv
  have := (List.mem_replicate.1 hr).2
  subst this
  simp only [zeroA, List.mem_map] at hv
  obtain ⟨x, _, rfl⟩ := hv
  unfold zA1; split <;> rfl
theorem chunk_get {α : Type} {k : Nat} : ∀ {n i : Nat} {l r : List α}, (chunk k n l)[i]? = some r → i < n ∧ r = (l.drop (i * k)).take k
  | 0, i, l, r, h => by simp [chunk] at h
  | n + 1, 0, l, r, h => by simp [chunk] at h; subst h; simp
  | n + 1, i + 1, l, r, h => by
    obtain ⟨h1, h2⟩ := chunk_get (n := n) (i := i) (by simpa [chunk] using h)
    refine ⟨by omega, ?_⟩
    rw [h2, List.drop_drop, Nat.succ_mul, Nat.add_comm]
theorem chunk_length {α : Type} {k : Nat} : ∀ {n : Nat} {l : List α}, (chunk k n l).length = n
  | 0, _ => rfl
  | n + 1, l => by simp [chunk, chunk_length]
theorem chunk_flatten {α : Type} {k : Nat} : ∀ {n : Nat} {l : List α}, l.length = n * k → (chunk k n l).flatten = l
  | 0, l, h => by simp at h; subst h; rfl
  | n + 1, l, h => by
    simp only [chunk, List.flatten_cons]
    rw [chunk_flatten (by simp [h, Nat.succ_mul]), List.take_append_drop]
theorem toD_ok {n : Nat} {v : AV} {d : D} {u : Value} (h : toD v = some d) (hr : R w K β n v u) : RD w K d u := by
  unfold toD at h
  split at h
  · simp only [Option.some.injEq] at h; subst h; simpa only [R] using hr
  · simp only [Option.some.injEq] at h; subst h
    simp only [R] at hr
    obtain ⟨a, rfl, h⟩ := hr
    simp only [RD]
    exact ⟨a, _, rfl, Nat.le_refl _, h⟩
  · cases h
theorem toDs_get : ∀ {l : List AV} {ds : List D} {i : Nat} {d : D}, toDs l = some ds → ds[i]? = some d → ∃ v, l[i]? = some v ∧ toD v = some d
  | [], ds, i, d, h, hd => by simp [toDs] at h; subst h; simp at hd
  | v :: l, ds, i, d, h, hd => by
    simp only [toDs] at h
    split at h
    · rename_i x r h1 h2
      simp only [Option.some.injEq] at h; subst h
      cases i with
      | zero => simp at hd; subst hd; exact ⟨v, rfl, h1⟩
      | succ i => simpa using toDs_get h2 (by simpa using hd)
    · cases h
theorem toDs_length : ∀ {l : List AV} {ds : List D}, toDs l = some ds → ds.length = l.length
  | [], ds, h => by simp [toDs] at h; subst h; rfl
  | v :: l, ds, h => by
    simp only [toDs] at h
    split at h
    · rename_i x r h1 h2
      simp only [Option.some.injEq] at h; subst h
      simp [toDs_length h2]
    · cases h
/-- The cells of a frozen block are a list. -/
theorem rows_of_cells {w' : World} {K' : Nat → Prop} {n : Nat} {cs : List AV} {us : List Value} {ds : List D} {T k m b : Nat} (hr : RL w' K' β n cs us) (hd : toDs cs = some ds) (hl : cs.length = m * k) (hK : K' b) (hb : w'.heap[b]? = some (.cells us.toArray T (0, 0))) :
    RRows w' K' k (chunk k m ds) ⟨b, 0, none⟩ := by
  have hdl := toDs_length hd
  refine RRows_of fun i r hi => ?_
  obtain ⟨h1, rfl⟩ := chunk_get hi
  have hik : i * k + k ≤ m * k := by rw [← Nat.succ_mul]; exact Nat.mul_le_mul_right _ h1
  refine ⟨by simp; omega, RCells_of fun c d hc => ?_⟩
  rw [List.getElem?_take] at hc
  split at hc
  · rw [List.getElem?_drop] at hc
    obtain ⟨v, hv, htd⟩ := toDs_get hd hc
    obtain ⟨u, hu, hR⟩ := RL_get hr hv
    refine ⟨by rw [add_block]; exact hK, u, ?_, toD_ok htd hR⟩
    rw [Addr_add_add, add_addr]
    have := cell_own (w := w') (b := b) (base := 0) (pre := []) (us := us) (post := []) (T := T) (by simpa using hb) rfl hu
    exact this
  · cases hc
theorem fillA_one : ∀ {ps : List (Nat × Nat × AV)} {cs cs' : List AV}, fillA cs ps = some cs' → (∀ v ∈ cs, v.one = true) → cs'.length = cs.length ∧ ∀ v ∈ cs', v.one = true
  | [], cs, cs', h, h1 => by simp [fillA] at h; subst h; exact ⟨rfl, h1⟩
  | (o, z, v) :: ps, cs, cs', h, h1 => by
    simp only [fillA] at h
    split at h
    · rename_i l hl
      split at h
      · split at h
        · rename_i cs1 h2
          have hone : ∀ x ∈ l, x.one = true := by
            cases v with
            | agg l' =>
              simp only [AV.flat] at hl
              split at hl
              · rename_i ha; simp only [Option.some.injEq] at hl; subst hl; exact fun x hx => List.all_eq_true.1 ha x hx
              · cases hl
            | tup l' => cases hl
            | _ => simp only [AV.flat, Option.some.injEq] at hl; subst hl; intro x hx; simp at hx; subst hx; rfl
          unfold setA at h2
          split at h2
          · rename_i hle
            simp only [Option.some.injEq] at h2; subst h2
            obtain ⟨q1, q2⟩ := fillA_one h (by
              intro x hx
              simp only [List.append_assoc, List.mem_append] at hx
              rcases hx with hx | hx | hx
              · exact h1 x (List.mem_of_mem_take hx)
              · exact hone x hx
              · exact h1 x (List.mem_of_mem_drop hx))
            refine ⟨?_, q2⟩
            rw [q1]; simp; omega
          · cases h2
        · cases h
      · cases h
    · cases h
theorem bslice_ok {T el k n : Nat} {z : List Value} (hu : P.underlying T = some (.slice el)) (hs : sizeT P el = some k) (hz0 : zeroOf P el = some z) (hc : n * k ≤ 16777216 ∧ z.length = k ∧ 0 < k)
    {Tm' : Tm} {a : Act} {ps : Array (Nat × Operand)} {qs : List (Nat × Nat × Operand)} {rs : List (Nat × Nat × AV)} {C : Prop} {v : AV} {s' : St}
    (hq : putP (fun i => some (i * k, k)) ps.toList = some qs) (hT : RT w K β s.length Tm' a) (hr : opdP Tm' qs = some rs) (h : bsliceA s el k n z rs = some (C, v, s')) (hz : Cz w K β s) :
    KGives P w K β s v s' (Instr.buildSlice T n (ps.map fun (i, x) => (i, a.eval x))) := by
  obtain ⟨i, zv, hi, hzv, hzc, h1⟩ := zeroOf_info hz0
  unfold bsliceA at h
  split at h
  · rename_i cs hf
    obtain ⟨us, e1, e2⟩ := fillA_ok hT ps.toList qs rs _ cs _ hq hr hf (RL_zeros hz0 n)
    have hlim : ¬ (n * k > 2 ^ 24) := by omega
    have hps : (ps.map fun (i, x) => (i, a.eval x)).toList = ps.toList.map fun p => (p.1, a.eval p.2) := by simp
    have hrun : (Instr.buildSlice T n (ps.map fun (i, x) => (i, a.eval x))).run P w = .ok (.slice (some ⟨w.heap.size, 0, none⟩) n n) (w.alloc (.cells us.toArray el)) := by
      by_cases hn : n * k = 0
      · have : n = 0 := by
          rcases Nat.mul_eq_zero.1 hn with h | h
          · exact h
          · omega
        subst this
        simp only [List.replicate_zero, List.flatten_nil] at e1
        have hm : (Array.range (0 * k)).map (fun j => (#[] : Array Value)[j % (#[] : Array Value).size]!) = ([] : List Value).toArray := by rw [hn]; simp [Array.range_zero']
        simp only [Instr.buildSlice, Sem.run_bind, run_underlying hu, Result.andThen_ok, run_sizeOf hs, if_neg hlim, Sem.run_pure, if_pos hn, hps, hm, e1]
        simp [newRow]
      · have hzr : ∀ w, (zeroValue el).run P w = .ok zv w := fun w => by simp [zeroValue, typeInfo, hi, hzv]
        have hm := made_arr hc.2.1 hc.2.2 n
        rw [← hzc] at hm
        simp only [Instr.buildSlice, Sem.run_bind, run_underlying hu, Result.andThen_ok, run_sizeOf hs, if_neg hlim, Sem.run_pure, if_neg hn, hzr, hm, hps, e1]
        simp [newRow]
    obtain ⟨hlen, hone⟩ := fillA_one hf zeros_one
    have hcl : cs.length = n * k := by
      rw [hlen, flatten_length (k := k) (fun r hr => by rw [(List.mem_replicate.1 hr).2]; simp [zeroA, hc.2.1]), List.length_replicate]
    have hul := RL_length e2
    split at h
    · rename_i ds hd
      simp only [Option.some.injEq, Prod.mk.injEq] at h; obtain ⟨rfl, rfl, rfl⟩ := h
      obtain ⟨c1, c2⟩ := hz.froz (w' := w.alloc (.cells us.toArray el)) (us := us) (T := el) (by simp [heap_alloc]) (io_alloc ..)
      refine ⟨_, _, _, _, hrun, c1, ?_, c2⟩
      simp only [R, chunk_length]
      refine ⟨some ⟨w.heap.size, 0, none⟩, rfl, .inr ⟨_, rfl, ?_⟩⟩
      exact rows_of_cells (T := el) (e2.mono (c2.stays hz) (Nat.le_refl _) (fun _ _ => rfl)) hd hcl (.inr rfl) (heap_alloc_new w _)
    · split at h
      · rename_i hall
        simp only [Option.some.injEq, Prod.mk.injEq] at h; obtain ⟨rfl, rfl, rfl⟩ := h
        obtain ⟨c1, c2⟩ := hz.new (w' := w.alloc (.cells us.toArray el)) (us := us) (post := []) (T := el) (k := k) (cap := n) (rows := chunk k n cs) (by simp [heap_alloc]) (io_alloc ..)
          (by rw [chunk_flatten hcl]; exact e2) (by rw [chunk_flatten hcl]; exact hone) (fun r hr => by
            obtain ⟨i, hi⟩ := List.getElem?_of_mem hr
            obtain ⟨q1, rfl⟩ := chunk_get hi
            have hik : i * k + k ≤ n * k := by rw [← Nat.succ_mul]; exact Nat.mul_le_mul_right _ q1
            simp; omega) (by simp; omega)
        refine ⟨_, _, _, _, hrun, c1, ?_, c2⟩
        simp only [R, lay_same]
        exact ⟨by simp, _, n, rfl, Nat.le_refl _, by simp, fun _ => by simp⟩
      · cases h
  · cases h
theorem mkslice_ok {T el : Nat} {i : TypeInfo} {z : List Value} (hu : P.underlying T = some (.slice el)) (hi : P.info? el = some i) (hz0 : zeroOf P el = some z) (hc : z.length = i.size ∧ 0 < i.size)
    {l c : AV} {ul uc : Value} {C : Prop} {v : AV} {s' : St} (h : mksliceA s el i.size i.bytes z l c = some (C, v, s')) (hC : C) (hz : Cz w K β s) {n : Nat} (hl : R w K β n l ul) (hcc : R w K β n c uc) :
    KGives P w K β s v s' (Instr.makeSlice T ul uc) := by
  obtain ⟨i', zv, hi', hzv, hzc, h1⟩ := zeroOf_info hz0
  have : i' = i := Option.some.inj (hi'.symm.trans hi)
  subst this
  unfold mksliceA at h
  split at h
  · rename_i k1 a k2 b ha hb
    simp only [Option.some.injEq, Prod.mk.injEq] at h; obtain ⟨rfl, rfl, rfl⟩ := h
    rw [R_asI hl ha, R_asI hcc hb]
    have hrun := run_make (P := P) w T el i' zv hu hi hzv k1 k2 a b hC.1 hC.2.1 hC.2.2.1 hC.2.2.2
    have hm : madeCells zv.cells (b.toNat * i'.size) = ((List.replicate a.toNat z).flatten ++ (List.replicate (b.toNat - a.toNat) z).flatten).toArray := by
      have := made_arr hc.1 hc.2 b.toNat
      rw [hzc]
      unfold madeCells
      rw [this, ← List.flatten_append, List.replicate_append_replicate]
      have := hC.2.1
      rw [show a.toNat + (b.toNat - a.toNat) = b.toNat by omega]
    rw [hm] at hrun
    have hfl : ∀ m, ((List.replicate m z).flatten).length = m * i'.size := fun m => by
      rw [flatten_length (k := i'.size) (fun r hr => by rw [(List.mem_replicate.1 hr).2]; exact hc.1), List.length_replicate]
    obtain ⟨c1, c2⟩ := hz.new (w' := w.alloc (.cells ((List.replicate a.toNat z).flatten ++ (List.replicate (b.toNat - a.toNat) z).flatten).toArray el)) (us := (List.replicate a.toNat z).flatten) (post := (List.replicate (b.toNat - a.toNat) z).flatten)
      (T := el) (k := i'.size) (cap := b.toNat) (rows := List.replicate a.toNat (zeroA z)) (by simp [heap_alloc]) (io_alloc ..) (RL_zeros hz0 _) zeros_one (fun r hr => by rw [(List.mem_replicate.1 hr).2]; simp [zeroA, hc.1])
      (by rw [List.length_append, hfl, hfl, ← Nat.add_mul]; have := hC.2.1; congr 1; omega)
    refine ⟨_, _, _, _, hrun, c1, ?_, c2⟩
    simp only [R, lay_same]
    have := hC.2.1
    exact ⟨by simp, _, b.toNat, rfl, by omega, by simp, fun _ => by simp⟩
  · cases h
theorem litN_ok {x : Operand} {n : Nat} (h : litN x = some n) (a : Act) : ∃ k z, a.eval x = .int k z ∧ 0 ≤ z ∧ z ≤ 16777216 ∧ z.toNat = n := by
  unfold litN at h
  split at h
  · rename_i k z
    split at h
    · rename_i hz
      simp only [Option.some.injEq] at h
      exact ⟨k, z, rfl, hz.1, hz.2, h⟩
    · cases h
  · cases h
theorem mkz_run {T el : Nat} {i : TypeInfo} {z : List Value} (hu : P.underlying T = some (.slice el)) (hi : P.info? el = some i) (hz0 : zeroOf P el = some z) (hc : z.length = i.size ∧ 0 < i.size) {l c : Operand} {a n : Nat} {b : Act}
    (hl : litN l = some a) (hcc : litN c = some n) (hab : a = n ∧ i.bytes * n ≤ 281474976710656) (w : World) :
    (Instr.makeSlice T (b.eval l) (b.eval c)).run P w = .ok (.slice (some ⟨w.heap.size, 0, none⟩) a a) (w.alloc (.cells ((List.replicate a z).flatten).toArray el)) := by
  obtain ⟨i', zv, hi', hzv, hzc, h1⟩ := zeroOf_info hz0
  have : i' = i := Option.some.inj (hi'.symm.trans hi)
  subst this
  obtain ⟨k1, z1, e1, a1, a2, a3⟩ := litN_ok hl b
  obtain ⟨k2, z2, e2, b1, b2, b3⟩ := litN_ok hcc b
  obtain ⟨rfl, hby⟩ := hab
  have h12 : z1 = z2 := by omega
  subst h12
  rw [e1, e2, run_make (P := P) w T el i' zv hu hi' hzv k1 k2 z1 z1 a1 (Int.le_refl _) (by
    have : ((i'.bytes * a : Nat) : Int) ≤ 281474976710656 := by omega
    rw [Int.natCast_mul] at this
    rw [show z1 = (a : Int) by omega]; exact this) (by omega)]
  rw [a3]
  have := made_arr hc.1 hc.2 a
  rw [hzc]
  unfold madeCells
  rw [this]
theorem mkz_ok {T el : Nat} {i : TypeInfo} {z : List Value} (hu : P.underlying T = some (.slice el)) (hi : P.info? el = some i) (hz0 : zeroOf P el = some z) (hc : z.length = i.size ∧ 0 < i.size) {l c : Operand} {a n : Nat} {b : Act}
    (hl : litN l = some a) (hcc : litN c = some n) (hab : a = n ∧ i.bytes * n ≤ 281474976710656) (hz : Cz w K β s) :
    KGives P w K β s (.own s.length 0 a) (s ++ [some (.cells el i.size (List.replicate a (zeroA z)))]) (Instr.makeSlice T (b.eval l) (b.eval c)) := by
  have hfl : ((List.replicate a z).flatten).length = a * i.size := by
    rw [flatten_length (k := i.size) (fun r hr => by rw [(List.mem_replicate.1 hr).2]; exact hc.1), List.length_replicate]
  obtain ⟨c1, c2⟩ := hz.new (w' := w.alloc (.cells ((List.replicate a z).flatten).toArray el)) (us := (List.replicate a z).flatten) (post := []) (T := el) (k := i.size) (cap := a) (rows := List.replicate a (zeroA z)) (by simp [heap_alloc]) (io_alloc ..)
    (RL_zeros hz0 _) zeros_one (fun r hr => by rw [(List.mem_replicate.1 hr).2]; simp [zeroA, hc.1]) (by simpa using hfl)
  refine ⟨_, _, _, _, mkz_run hu hi hz0 hc hl hcc hab w, c1, ?_, c2⟩
  simp only [R, lay_same]
  exact ⟨by simp, _, a, rfl, Nat.le_refl _, by simp, fun _ => by simp⟩
end
end Go.Proofs.Ytcedkkleclhglaa.H
