/- Values over terms, blocks of memory over values, and what single operations make of them. -/
import Derived.Test.YtnnnmdmniceenaaEvA
import Derived.WalkKit
import Derived.Deep.Quiet
set_option linter.unusedSimpArgs false
set_option linter.unusedVariables false
namespace Go.Proofs.Ytnnnmdmniceenaa.Ev

/-- Values over terms. 'id': a block of memory by a number of our own. 'any': of this nothing is known. 'sls', 'xp': a list of the caller's, by a number, and a place in it. -/
inductive SV where
  | int (k : IntKind) (e : E) | bool (b : B) | undef | nilp
  | ptr (id off : Nat) | ptx (id off size : Nat) (e : E)
  | slc (id off len : Nat) (cap : Option Nat) | nils
  | fn (f : FuncId) (first cap : List SV) | nilfn
  | agg (l : List SV) | tup (l : List SV) | grd (c : B) (v : SV)
  | any | sls (k : Nat) (len cap : E) | xp (k size off : Nat) (e : E)

/-- Where the blocks lie, and how long those are whose length the tape has drawn. -/
structure Env where
  β : Nat → Nat
  κ : Nat → Nat
  α : Nat → Option Addr
instance : Inhabited Env := ⟨⟨fun _ => 0, fun _ => 0, fun _ => none⟩⟩
/-- The functions that the contracts name; where the caller's lists lie, and what is known of them: a property of memory that looks at the blocks 'raw' alone. -/
structure Sig where
  f : Nat → List Int → List Int
  α : Nat → Option Addr := fun _ => none
  pre : List Int := []
  raw : List Nat := []
  good : World → Prop := fun _ => True
  lt : ∀ w, good w → ∀ b ∈ raw, b < w.heap.size := by intro _ _ b hb; cases hb
  js : Nat → List Int → List Int → Prop := fun _ _ _ => True
  stable : ∀ w w', good w → (∀ b ∈ raw, w'.heap[b]? = w.heap[b]?) → good w' := by intros; trivial
instance : CoeFun Sig (fun _ => Nat → List Int → List Int) := ⟨Sig.f⟩

/-- A slice with its capacity begins at its offset; one without it (made by 'append') at its block's beginning, the offset being an element's size, and the capacity what fits into the block. -/
def slcO (o : Nat) : Option Nat → Nat
  | some _ => o
  | none => 0
def slcC (o k : Nat) : Option Nat → Nat
  | some c => c
  | none => k / o
@[simp] theorem slcO_some (o c : Nat) : slcO o (some c) = o := rfl
@[simp] theorem slcC_some (o k c : Nat) : slcC o k (some c) = c := rfl
section
variable (ρ : List Int) (η : Env)
mutual
def denV : SV → Value
  | .int k e => .int k (den ρ e)
  | .bool b => .bool (denB ρ b)
  | .undef => Go.undef
  | .nilp => .pointer none
  | .ptr i o => .pointer (some ⟨η.β i, o, none⟩)
  | .ptx i o s e => .pointer (some ⟨η.β i, o + (den ρ e).toNat * s, none⟩)
  | .slc i o n c => .slice (some ⟨η.β i, slcO o c, none⟩) n (slcC o (η.κ i) c)
  | .nils => .slice none 0 0
  | .fn f a b => .func (.func f) (denL a).toArray (denL b).toArray
  | .nilfn => .nilFunc
  | .agg l => .agg (denL l).toArray
  | .tup l => .tuple (denL l).toArray
  | .grd c v => if denB ρ c = true then denV v else Go.undef
  | .any => Go.undef
  | .sls k n c => .slice (η.α k) (den ρ n).toNat (den ρ c).toNat
  | .xp k s o e => .pointer (some (((η.α k).getD ⟨0, 0, none⟩).add ((den ρ e).toNat * s + o)))
def denL : List SV → List Value
  | [] => []
  | v :: l => denV v :: denL l
end
theorem denL_map (l : List SV) : denL ρ η l = l.map (denV ρ η) := by
  induction l with
  | nil => simp [denL]
  | cons v l ih => simp [denL, ih]
end

/-- A value that fills one cell. -/
def SV.scal : SV → Bool
  | .int .. | .bool _ | .nilp | .ptr .. | .slc .. | .nils | .fn .. | .nilfn | .ptx .. | .sls .. | .xp .. => true
  | _ => false
def SV.flat : SV → Option (List SV)
  | .agg l => if l.all SV.scal then some l else none
  | v => if v.scal then some [v] else none
theorem scal_one {ρ : List Int} {η : Env} {v : SV} (h : v.scal = true) : (denV ρ η v).oneCell' = true := by
  cases v <;> simp_all [SV.scal, denV, Value.oneCell']
theorem flat_cells {ρ : List Int} {η : Env} {v : SV} {l : List SV} (h : v.flat = some l) :
    (denV ρ η v).cells = (l.map (denV ρ η)).toArray ∧ ∀ x ∈ l, x.scal = true := by
  cases v with
  | agg l' =>
    simp only [SV.flat] at h
    split at h
    · rename_i ha
      simp only [Option.some.injEq] at h
      subst h
      exact ⟨by simp [denV, Value.cells, denL_map], fun x hx => List.all_eq_true.1 ha x hx⟩
    · simp at h
  | _ =>
    simp only [SV.flat] at h
    split at h
    · rename_i hs
      simp only [Option.some.injEq] at h
      subst h
      first
        | (simp [SV.scal] at hs; done)
        | exact ⟨by simp [denV, Value.cells], fun x hx => by simp at hx; subst hx; exact hs⟩
    · simp at h

/-- Block 'b' begins with these cells, and has 'k' of them. -/
def Holds (w : World) (b : Nat) (T : TypeId) (cs : List Value) (k : Nat) : Prop :=
  ∃ rest : List Value, w.heap[b]? = some (.cells (cs ++ rest).toArray T (0, 0)) ∧ (cs ++ rest).length = k

/-- What is known of the blocks. -/
abbrev Blk := Nat → Option (TypeId × List SV)
structure Rb (Φ : Sig) (ρ : List Int) (η : Env) (bl : Blk) (w : World) : Prop where
  al : η.α = Φ.α
  pf : ∃ s, ρ = Φ.pre ++ s
  gh : Φ.good w
  ap : ∀ i, (bl i).isSome = true → η.β i ∉ Φ.raw
  holds : ∀ i T cs, bl i = some (T, cs) → Holds w (η.β i) T (cs.map (denV ρ η)) (η.κ i)
  inj : ∀ i j, (bl i).isSome = true → (bl j).isSome = true → i ≠ j → η.β i ≠ η.β j

theorem Holds.lt {w : World} {b : Nat} {T : TypeId} {cs : List Value} {k : Nat} (h : Holds w b T cs k) : b < w.heap.size := by
  obtain ⟨r, h, _⟩ := h
  exact (Array.getElem?_eq_some_iff.1 h).1
theorem Holds.cell {w : World} {b : Nat} {T : TypeId} {cs : List Value} {k : Nat} (h : Holds w b T cs k) {j : Nat} {v : Value} (hj : cs[j]? = some v) : w.cell? ⟨b, j, none⟩ = some v := by
  obtain ⟨r, h, _⟩ := h
  have hl : j < cs.length := (List.getElem?_eq_some_iff.1 hj).1
  simp [World.cell?, h, List.getElem?_append_left hl, hj]
theorem Holds.frozen {w : World} {b : Nat} {T : TypeId} {cs : List Value} {k : Nat} (h : Holds w b T cs k) (j : Nat) : w.frozen? ⟨b, j, none⟩ = false := by
  obtain ⟨r, h, _⟩ := h
  simp [World.frozen?, h]
theorem Addr_add_add (a : Addr) (m n : Nat) : (a.add m).add n = a.add (m + n) := by
  unfold Addr.add
  by_cases hm : m = 0 <;> by_cases hn : n = 0 <;> simp [hm, hn, Nat.add_assoc]
theorem add_addr (b o j : Nat) : (⟨b, o, none⟩ : Addr).add j = ⟨b, o + j, none⟩ := by
  unfold Addr.add; split <;> simp_all

/-- The type's shape, as the loads and stores see it. -/
def aggT (P : Program) (T : TypeId) : Option Bool := match P.underlying T with
  | some (.struct _) | some (.array _ _) => some true
  | some _ => some false
  | none => none
def sizeT (P : Program) (T : TypeId) : Option Nat := (P.info? T).map (·.size)
theorem run_isAgg {P : Program} {T : TypeId} {b : Bool} (h : aggT P T = some b) (w : World) : (isAgg T).run P w = .ok b w := by
  unfold aggT at h
  unfold isAgg
  split at h
  · rename_i hu; rw [Sem.run_bind, run_underlying hu w]; simp at h; subst h; rfl
  · rename_i hu; rw [Sem.run_bind, run_underlying hu w]; simp at h; subst h; rfl
  · rename_i d h1 h2 hu
    rw [Sem.run_bind, run_underlying hu w]
    simp at h; subst h
    cases d <;> first | rfl | (exfalso; first | exact h1 _ rfl | exact h2 _ _ rfl)
  · simp at h
theorem run_sizeOf {P : Program} {T : TypeId} {n : Nat} (h : sizeT P T = some n) (w : World) : (sizeOf T).run P w = .ok n w := by
  unfold sizeT at h
  cases hi : P.info? T with
  | none => simp [hi] at h
  | some i => simp [hi] at h; simp [sizeOf, typeInfo, hi, h]

/-- Reading a variable of a type off a block's cells. -/
def readV (P : Program) (T : TypeId) (cs : List SV) (off : Nat) : Option SV :=
  match aggT P T with
  | some true => match sizeT P T with
    | some n => if off + n ≤ cs.length then some (.agg ((cs.drop off).take n)) else none
    | none => none
  | some false => cs[off]?
  | none => none
theorem run_readV {P : Program} {T B : TypeId} {cs : List SV} {off b : Nat} {v : SV} (h : readV P T cs off = some v)
    {ρ : List Int} {η : Env} {w : World} {k : Nat} (hh : Holds w b B (cs.map (denV ρ η)) k) :
    (loadVar T ⟨b, off, none⟩).run P w = .ok (denV ρ η v) w := by
  unfold readV at h
  split at h
  · rename_i ha
    cases hs : sizeT P T with
    | none => rw [hs] at h; simp at h
    | some n =>
      rw [hs] at h
      simp only [] at h
      split at h
      · rename_i hle
        simp only [Option.some.injEq] at h
        subst h
        have hl : ((((cs.drop off).take n).map (denV ρ η)).length) = n := by simp; omega
        have := run_loadCells_list (P := P) w ⟨b, off, none⟩ (((cs.drop off).take n).map (denV ρ η)) (fun j v hv => by
          rw [add_addr]
          apply hh.cell
          simp only [List.getElem?_map, List.getElem?_take, List.getElem?_drop] at hv ⊢
          split at hv
          · exact hv
          · simp at hv)
        rw [hl] at this
        simp [loadVar, run_isAgg ha, run_sizeOf hs, this, denV, denL_map]
      · simp at h
  · rename_i ha
    have hc : w.cell? ⟨b, off, none⟩ = some (denV ρ η v) := hh.cell (by simp [h])
    simp [loadVar, run_isAgg ha, hc]
  · simp at h

/-- The streams and the tape are as they were. -/
def SameIO (w w' : World) : Prop := w'.os = w.os ∧ w'.tape = w.tape ∧ w'.output = w.output
theorem SameIO.refl (w : World) : SameIO w w := ⟨rfl, rfl, rfl⟩
theorem SameIO.trans {a b c : World} (h : SameIO a b) (k : SameIO b c) : SameIO a c := ⟨k.1.trans h.1, k.2.1.trans h.2.1, k.2.2.trans h.2.2⟩
/-! ### Writing -/
def setV (cs : List SV) (off : Nat) (l : List SV) : Option (List SV) :=
  if off + l.length ≤ cs.length then some (cs.take off ++ l ++ cs.drop (off + l.length)) else none
theorem Holds.set {w : World} {b : Nat} {T : TypeId} {cs : List Value} {k : Nat} (h : Holds w b T cs k) {j : Nat} (v : Value) (hj : j < cs.length) :
    Holds (w.setCell ⟨b, j, none⟩ v) b T (cs.set j v) k := by
  obtain ⟨r, h, hk⟩ := h
  refine ⟨r, ?_, by simpa using hk⟩
  have hlt := (Array.getElem?_eq_some_iff.1 h).1
  have := heap_setCell_same w b j _ T v h
  rw [this]
  simp [hj]
theorem heap_setCell_ne (w : World) (b j k : Nat) (v : Value) (h : k ≠ b) : (w.setCell ⟨b, j, none⟩ v).heap[k]? = w.heap[k]? :=
  heap_setCell_other w ⟨b, j, none⟩ k v h
theorem run_storeCells {P : Program} {b : Nat} {T : TypeId} {kc : Nat} : ∀ (vs : List Value) (off i : Nat) (cs : List Value) (w : World), Holds w b T cs kc →
    off + i + vs.length ≤ cs.length → (∀ v ∈ vs, v.oneCell' = true) →
    ∃ w', (storeCells ⟨b, off, none⟩ vs i).run P w = .ok () w' ∧ Holds w' b T (cs.take (off + i) ++ vs ++ cs.drop (off + i + vs.length)) kc ∧
      w'.heap.size = w.heap.size ∧ SameIO w w' ∧ ∀ k, k ≠ b → w'.heap[k]? = w.heap[k]?
  | [], off, i, cs, w, h, hl, _ => ⟨w, by simp [storeCells], by simpa using h, rfl, .refl _, fun _ _ => rfl⟩
  | v :: vs, off, i, cs, w, h, hl, h1 => by
    simp only [List.length_cons] at hl
    have hlt : off + i < cs.length := by omega
    have hc : w.cell? ⟨b, off + i, none⟩ = some cs[off + i] := h.cell (by simp [hlt])
    have hst : (store ((⟨b, off, none⟩ : Addr).add i) v).run P w = .ok () (w.setCell ⟨b, off + i, none⟩ v) := by
      rw [add_addr, run_store P w _ v _ (h1 v (by simp)), hc]
      simp [h.frozen]
    obtain ⟨w', e1, e2, e3, e5, e4⟩ := run_storeCells (P := P) (b := b) (T := T) vs off (i + 1) (cs.set (off + i) v) (w.setCell ⟨b, off + i, none⟩ v) (h.set v hlt) (by simp; omega) (fun x hx => h1 x (by simp [hx]))
    refine ⟨w', by simp only [storeCells, Sem.run_bind, hst, Result.andThen_ok, e1], ?_, by rw [e3]; simp, SameIO.trans ⟨rfl, rfl, rfl⟩ e5, fun k hk => by rw [e4 k hk, heap_setCell_ne _ _ _ _ _ hk]⟩
    have : (cs.set (off + i) v).take (off + (i + 1)) ++ vs ++ (cs.set (off + i) v).drop (off + (i + 1) + vs.length) = cs.take (off + i) ++ v :: vs ++ cs.drop (off + i + (vs.length + 1)) := by
      have a1 : (cs.set (off + i) v).take (off + (i + 1)) = cs.take (off + i) ++ [v] := by
        rw [show off + (i + 1) = (off + i) + 1 by omega, List.take_succ_eq_append_getElem (by simpa using hlt), List.take_set_of_le (Nat.le_refl _)]
        simp
      have a2 : (cs.set (off + i) v).drop (off + (i + 1) + vs.length) = cs.drop (off + i + (vs.length + 1)) := by
        rw [List.drop_set_of_lt (by omega)]
        congr 1; omega
      rw [a1, a2]; simp
    rw [List.length_cons, ← this]; exact e2

theorem run_storeV {P : Program} {T B : TypeId} {cs cs' : List SV} {off b : Nat} {v : SV} {l : List SV} (hf : v.flat = some l) (hs : sizeT P T = some l.length) (h : setV cs off l = some cs')
    {ρ : List Int} {η : Env} {w : World} {kc : Nat} (hh : Holds w b B (cs.map (denV ρ η)) kc) :
    ∃ w', (storeVar T ⟨b, off, none⟩ (denV ρ η v)).run P w = .ok () w' ∧ Holds w' b B (cs'.map (denV ρ η)) kc ∧ w'.heap.size = w.heap.size ∧ SameIO w w' ∧ ∀ k, k ≠ b → w'.heap[k]? = w.heap[k]? := by
  obtain ⟨hc, hsc⟩ := flat_cells (ρ := ρ) (η := η) hf
  unfold setV at h
  split at h
  · rename_i hle
    simp only [Option.some.injEq] at h
    obtain ⟨w', e1, e2, e3, e5, e4⟩ := run_storeCells (P := P) (b := b) (T := B) (l.map (denV ρ η)) off 0 (cs.map (denV ρ η)) w hh (by simpa using hle) (fun x hx => by
      obtain ⟨y, hy, rfl⟩ := List.mem_map.1 hx
      exact scal_one (hsc y hy))
    refine ⟨w', ?_, ?_, e3, e5, e4⟩
    · simp [storeVar, run_sizeOf hs, hc, e1]
    · rw [← h]; simpa [List.map_take, List.map_drop] using e2
  · simp at h

/-- What an operation makes: its value, the blocks that it writes or lays (and those of which nothing is known behind it), how many are new; what must hold for it; the contract that it calls, with what is known of its results. -/
structure Res where
  v : SV
  wr : List (Nat × Option (TypeId × List SV))
  nn : Nat
  asr : List B
  cal : Option (Nat × List E × Nat)
  rng : List (E × Int × Int)
def val (v : SV) : Res := { v, wr := [], nn := 0, asr := [], cal := none, rng := [] }

/-- What has become of memory: 'nb': the first new block's number. -/
structure Eff (ρ : List Int) (η η' : Env) (bl : Blk) (nb : Nat) (r : Res) (w w' : World) : Prop where
  size : w.heap.size ≤ w'.heap.size
  io : SameIO w w'
  al : η'.α = η.α
  same : ∀ i, i < nb ∨ nb + r.nn ≤ i → η'.β i = η.β i ∧ η'.κ i = η.κ i
  frame : ∀ b, b < w.heap.size → (∀ p ∈ r.wr, p.1 < nb → b ≠ η.β p.1) → w'.heap[b]? = w.heap[b]?
  made : ∀ i T cs, (i, some (T, cs)) ∈ r.wr → Holds w' (η'.β i) T (cs.map (denV ρ η')) (η'.κ i)
  fresh : ∀ i, nb ≤ i → i < nb + r.nn → w.heap.size ≤ η'.β i ∨ ∃ j, (j, none) ∈ r.wr ∧ j < nb ∧ (bl j).isSome = true ∧ η'.β i = η.β j
  apart : ∀ i j, nb ≤ i → i < nb + r.nn → nb ≤ j → j < nb + r.nn → i ≠ j → η'.β i ≠ η'.β j
  known : ∀ p ∈ r.wr, (p.1 < nb ∧ (bl p.1).isSome = true) ∨ (nb ≤ p.1 ∧ p.1 < nb + r.nn)
  once : (r.wr.map (·.1)).Nodup

theorem Eff.pure {ρ : List Int} {η : Env} {bl : Blk} {nb : Nat} {r : Res} {w : World} (hw : r.wr = []) (hn : r.nn = 0) : Eff ρ η η bl nb r w w where
  size := Nat.le_refl _
  io := .refl _
  al := rfl
  same := fun _ _ => ⟨rfl, rfl⟩
  frame := fun _ _ _ => rfl
  made := fun i T cs h => by rw [hw] at h; cases h
  fresh := fun i h1 h2 => by rw [hn] at h2; omega
  apart := fun i j h1 h2 => by rw [hn] at h2; omega
  known := fun p h => by rw [hw] at h; cases h
  once := by rw [hw]; simp

theorem Eff.eqEnv {ρ : List Int} {η η' : Env} {bl : Blk} {nb : Nat} {r : Res} {w w' : World} (h : Eff ρ η η' bl nb r w w') (h0 : r.nn = 0) : η' = η := by
  have h1 : η'.β = η.β := funext fun i => (h.same i (by omega)).1
  have h2 : η'.κ = η.κ := funext fun i => (h.same i (by omega)).2
  have h3 := h.al
  cases η; cases η'
  simp only at h1 h2 h3
  rw [h1, h2, h3]
/-- One new block. -/
def Env.lay (η : Env) (i b k : Nat) : Env := { η with β := fun j => if j = i then b else η.β j, κ := fun j => if j = i then k else η.κ j }
@[simp] theorem Env.lay_same (η : Env) (i b k : Nat) : (η.lay i b k).β i = b := by simp [Env.lay]
theorem Env.lay_ne (η : Env) {i j : Nat} (b k : Nat) (h : j ≠ i) : (η.lay i b k).β j = η.β j ∧ (η.lay i b k).κ j = η.κ j := by simp [Env.lay, h]
@[simp] theorem Env.lay_κ (η : Env) (i b k : Nat) : (η.lay i b k).κ i = k := by simp [Env.lay]
mutual
/-- The value does not name the block. -/
def SV.no (i : Nat) : SV → Bool
  | .ptr j _ => j != i
  | .ptx j _ _ _ => j != i
  | .slc j _ _ _ => j != i
  | .int .. | .bool _ | .nilp | .nils | .nilfn | .sls .. | .xp .. => true
  | .fn _ a b => noL i a && noL i b
  | .agg l => noL i l
  | _ => false
def noL (i : Nat) : List SV → Bool
  | [] => true
  | v :: l => v.no i && noL i l
end
mutual
theorem no_lay {ρ : List Int} {η : Env} {i b k : Nat} : ∀ {v : SV}, v.no i = true → denV ρ (η.lay i b k) v = denV ρ η v
  | .ptr j _, h => by simp_all [SV.no, denV, Env.lay]
  | .ptx j _ _ _, h => by simp_all [SV.no, denV, Env.lay]
  | .slc j _ _ _, h => by simp_all [SV.no, denV, Env.lay]
  | .int .., _ => rfl
  | .bool _, _ => rfl
  | .nilp, _ => rfl
  | .nils, _ => rfl
  | .nilfn, _ => rfl
  | .sls .., _ => rfl
  | .xp .., _ => rfl
  | .fn f a c, h => by
    simp only [SV.no, Bool.and_eq_true] at h
    simp only [denV, no_layL h.1, no_layL h.2]
  | .agg l, h => by
    simp only [SV.no] at h
    simp only [denV, no_layL h]
theorem no_layL {ρ : List Int} {η : Env} {i b k : Nat} : ∀ {l : List SV}, noL i l = true → denL ρ (η.lay i b k) l = denL ρ η l
  | [], _ => by simp [denL]
  | v :: l, h => by
    simp only [noL, Bool.and_eq_true] at h
    simp only [denL, no_lay h.1, no_layL h.2]
end
theorem Eff.new {ρ : List Int} {η : Env} {bl : Blk} {nb : Nat} {w : World} (T : TypeId) (cs : List SV) (v : SV) (hn : ∀ x ∈ cs, x.no nb = true) :
    Eff ρ η (η.lay nb w.heap.size cs.length) bl nb { v, wr := [(nb, some (T, cs))], nn := 1, asr := [], cal := none, rng := [] } w (w.alloc (.cells (cs.map (denV ρ η)).toArray T)) where
  size := by simp
  io := ⟨rfl, rfl, rfl⟩
  al := rfl
  same := fun i hi => by
    have hi' : i < nb ∨ nb + 1 ≤ i := hi
    exact Env.lay_ne η _ _ (by omega)
  frame := fun b hb _ => heap_alloc_old w _ hb
  made := fun i T' cs' h => by
    simp only [List.mem_singleton, Prod.mk.injEq, Option.some.injEq] at h
    obtain ⟨rfl, rfl, rfl⟩ := h
    refine ⟨[], ?_, by simp⟩
    rw [Env.lay_same, show cs'.map (denV ρ (η.lay i w.heap.size cs'.length)) = cs'.map (denV ρ η) from List.map_congr_left fun x hx => no_lay (hn x hx)]
    rw [heap_alloc_new]; simp
  fresh := fun i h1 h2 => by
    have : i = nb := by simp only [] at h2; omega
    subst this; exact .inl (by simp)
  apart := fun i j h1 h2 h3 h4 h => by simp only [] at h2 h4; omega
  known := fun p h => by
    simp only [List.mem_singleton] at h
    subst h
    exact .inr ⟨Nat.le_refl _, by simp⟩
  once := by simp
end Go.Proofs.Ytnnnmdmniceenaa.Ev
