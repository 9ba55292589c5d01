/- The evaluator's single operations, each with its law. -/
import Derived.Test.YtnnnmdmniceenaaEvB
set_option linter.unusedSimpArgs false
set_option linter.unusedVariables false
namespace Go.Proofs.Ytnnnmdmniceenaa.Ev
variable {Φ : Sig}

def constV : Value → Option SV
  | .int k n => some (.int k (.lit n))
  | .bool b => some (.bool (.lit b))
  | .pointer none => some .nilp
  | .slice none 0 0 => some .nils
  | .nilFunc => some .nilfn
  | _ => none
theorem constV_ok {v : Value} {s : SV} (h : constV v = some s) (ρ : List Int) (η : Env) : denV ρ η s = v ∧ s.scal = true ∧ ∀ i, s.no i = true := by
  unfold constV at h
  split at h <;> simp at h <;> subst h <;> simp [denV, den, denB, SV.scal, SV.no]
def opd (t : List SV) : Operand → Option SV
  | .tmp i => match t.getD i .undef with
    | .any => none
    | v => some v
  | .const v => constV v
  | .func f => some (.fn f [] [])
  | .global _ => none
/-- The frame holds what the list says. -/
def SV.isAny : SV → Bool
  | .any => true
  | _ => false
structure Ft (ρ : List Int) (η : Env) (t : List SV) (a : Act) : Prop where
  len : a.tmps.size = t.length
  at_ : ∀ (i : Nat) (v : SV), t[i]? = some v → v.isAny = false → a.tmps[i]? = some (denV ρ η v)
  defers : a.defers = []
theorem Ft.get {ρ : List Int} {η : Env} {t : List SV} {a : Act} (h : Ft ρ η t a) (i : Nat) (hn : (t.getD i .undef).isAny = false) : a.tmps.getD i Go.undef = denV ρ η (t.getD i .undef) := by
  by_cases hi : i < t.length
  · have he : t[i]? = some (t.getD i .undef) := by simp [hi]
    have := h.at_ i _ he hn
    rw [Array.getD_eq_getD_getElem?, this]; rfl
  · have h1 : ¬ i < a.tmps.size := by rw [h.len]; exact hi
    simp [hi, h1, denV]
theorem opd_ok {ρ : List Int} {η : Env} {t : List SV} {a : Act} (h : Ft ρ η t a) {x : Operand} {v : SV} (hx : opd t x = some v) : a.eval x = denV ρ η v := by
  cases x with
  | tmp i =>
    simp only [opd] at hx
    split at hx
    · simp at hx
    · rename_i u hn
      simp only [Option.some.injEq] at hx; subst hx
      exact h.get i (by cases hv : t.getD i .undef <;> first | rfl | exact absurd hv hn)
  | const u => exact (constV_ok hx ρ η).1.symm
  | func f => simp only [opd, Option.some.injEq] at hx; subst hx; simp [Act.eval, denV, denL]
  | global g => simp [opd] at hx

def constL : List Value → Option (List SV)
  | [] => some []
  | v :: l => match constV v, constL l with
    | some s, some r => some (s :: r)
    | _, _ => none
theorem constL_ok {l : List Value} {r : List SV} (h : constL l = some r) (ρ : List Int) (η : Env) : r.map (denV ρ η) = l ∧ (∀ x ∈ r, x.scal = true ∧ ∀ i, x.no i = true) := by
  induction l generalizing r with
  | nil => simp [constL] at h; subst h; simp
  | cons v l ih =>
    simp only [constL] at h
    split at h
    · rename_i s r' hs hr
      simp at h; subst h
      obtain ⟨h1, h2⟩ := ih hr
      obtain ⟨g1, g2, g3⟩ := constV_ok hs ρ η
      exact ⟨by simp [g1, h1], fun x hx => by
        rcases List.mem_cons.1 hx with rfl | hx
        · exact ⟨g2, g3⟩
        · exact h2 x hx⟩
    · simp at h
def zeroV (P : Program) (T : TypeId) : Option (List SV) := match P.info? T with
  | some i => match i.zero with
    | some z => constL z.cells.toList
    | none => none
  | none => none
theorem run_zeroV {P : Program} {T : TypeId} {l : List SV} (h : zeroV P T = some l) (ρ : List Int) (η : Env) :
    ∃ z : Value, (∀ w, (zeroValue T).run P w = .ok z w) ∧ z.cells = (l.map (denV ρ η)).toArray ∧ (∀ x ∈ l, x.scal = true ∧ ∀ i, x.no i = true) := by
  unfold zeroV at h
  cases hi : P.info? T with
  | none => simp [hi] at h
  | some i =>
    cases hz : i.zero with
    | none => simp [hi, hz] at h
    | some z =>
      simp [hi, hz] at h
      obtain ⟨h1, h2⟩ := constL_ok h ρ η
      exact ⟨z, fun w => by simp [zeroValue, typeInfo, hi, hz], by rw [h1], h2⟩

/-- 'Runs': the operation's run is told by 'r'. -/
def Runs (P : Program) (ρ : List Int) (η : Env) (bl : Blk) (nb : Nat) (w : World) (r : Res) (s : Sem Value) : Prop :=
  ∃ η' w', s.run P w = .ok (denV ρ η' r.v) w' ∧ Eff ρ η η' bl nb r w w'
theorem Runs.pure {P : Program} {ρ : List Int} {η : Env} {bl : Blk} {nb : Nat} {w : World} {r : Res} {s : Sem Value} (hw : r.wr = []) (hn : r.nn = 0) (h : s.run P w = .ok (denV ρ η r.v) w) :
    Runs P ρ η bl nb w r s := ⟨η, w, h, .pure hw hn⟩

/-- What must be asked, if it is not known. -/
def need (fx : Fx) (b : B) : List B := match decB fx b with
  | some true => []
  | _ => [b]
theorem need_ok {ρ : List Int} {fx : Fx} (hf : FxOK ρ fx) {b : B} (h : ∀ x ∈ need fx b, denB ρ x = true) : denB ρ b = true := by
  unfold need at h
  split at h
  · rename_i hd; exact decB_ok hf b true hd
  · exact h b (by simp)

/-! ### alloc, box -/
def evAlloc (P : Program) (nb : Nat) (T : TypeId) : Option Res := match zeroV P T with
  | some l => some { v := .ptr nb 0, wr := [(nb, some (T, l))], nn := 1, asr := [], cal := none, rng := [] }
  | none => none
theorem evAlloc_ok {P : Program} {nb : Nat} {T : TypeId} {r : Res} (h : evAlloc P nb T = some r) {ρ : List Int} {η : Env} {bl : Blk} {w : World} :
    Runs P ρ η bl nb w r (Instr.alloc T true (.tuple #[])) := by
  unfold evAlloc at h
  split at h
  · rename_i l hl
    simp at h; subst h
    obtain ⟨z, hz, hc, hs⟩ := run_zeroV hl ρ η
    refine ⟨_, _, ?_, Eff.new T l (.ptr nb 0) fun x hx => (hs x hx).2 nb⟩
    simp [Instr.alloc, hz, newVar, newRow, hc, denV]
  · simp at h
def evBox (nb : Nat) (T : TypeId) (x : SV) : Option Res := match x.flat with
  | some l => if l.all (·.no nb) then some { v := .ptr nb 0, wr := [(nb, some (T, l))], nn := 1, asr := [], cal := none, rng := [] } else none
  | none => none
theorem evBox_ok {P : Program} {nb : Nat} {T : TypeId} {x : SV} {r : Res} (h : evBox nb T x = some r) {ρ : List Int} {η : Env} {bl : Blk} {w : World} :
    Runs P ρ η bl nb w r (Instr.box T (denV ρ η x)) := by
  unfold evBox at h
  split at h
  · rename_i l hl
    split at h
    · rename_i ha
      simp at h; subst h
      refine ⟨_, _, ?_, Eff.new T l (.ptr nb 0) fun x hx => List.all_eq_true.1 ha x hx⟩
      simp [Instr.box, newVar, newRow, (flat_cells hl).1, denV]
    · simp at h
  · simp at h

/-! ### load, store -/
def swChain (e : E) : Nat → List SV → Option SV
  | _, [] => none
  | _, [.int k x] => some (.int k x)
  | j, .int k x :: l => match swChain e (j + 1) l with
    | some (.int k' y) => if IntKind.num k = IntKind.num k' then some (.int k (.sw e j x y)) else none
    | _ => none
  | _, _ => none
/-- Of a row of ints, the one at a place that is a term. -/
theorem swChain_ok {ρ : List Int} {η : Env} {e : E} : ∀ (l : List SV) (j : Nat) (v : SV), swChain e j l = some v → ∀ i : Nat, den ρ e = (j + i : Nat) → i < l.length →
    ∃ u, l[i]? = some u ∧ denV ρ η v = denV ρ η u
  | [], j, v, h, i, hi, hl => by simp at hl
  | [.int k x], j, v, h, i, hi, hl => by
    simp only [swChain, Option.some.injEq] at h
    have : i = 0 := by simp at hl; omega
    subst this; subst h
    exact ⟨_, rfl, rfl⟩
  | .int k x :: y :: l, j, v, h, i, hi, hl => by
    simp only [swChain] at h
    split at h
    · rename_i k' z hz
      split at h
      · rename_i hk
        have hk' := IntKind.num_inj hk
        simp only [Option.some.injEq] at h
        subst h; subst hk'
        cases i with
        | zero => exact ⟨_, rfl, by simp [denV, den, hi]⟩
        | succ i =>
          obtain ⟨u, h1, h2⟩ := swChain_ok (y :: l) (j + 1) _ hz i (by rw [hi]; congr 1; omega) (by simp at hl ⊢; omega)
          refine ⟨u, by simpa using h1, ?_⟩
          rw [← h2]
          have : ¬ (den ρ e = (j : Int)) := by omega
          simp [denV, den, this]
      · simp at h
    · simp at h
  | [.bool _], _, _, h, _, _, _ | [.undef], _, _, h, _, _, _ | [.nilp], _, _, h, _, _, _ | [.ptr ..], _, _, h, _, _, _ | [.ptx ..], _, _, h, _, _, _
  | [.slc ..], _, _, h, _, _, _ | [.nils], _, _, h, _, _, _ | [.fn ..], _, _, h, _, _, _ | [.nilfn], _, _, h, _, _, _ | [.agg _], _, _, h, _, _, _
  | [.tup _], _, _, h, _, _, _ | [.grd ..], _, _, h, _, _, _ => by simp [swChain] at h
  | .bool _ :: _ :: _, _, _, h, _, _, _ | .undef :: _ :: _, _, _, h, _, _, _ | .nilp :: _ :: _, _, _, h, _, _, _ | .ptr .. :: _ :: _, _, _, h, _, _, _ | .ptx .. :: _ :: _, _, _, h, _, _, _
  | .slc .. :: _ :: _, _, _, h, _, _, _ | .nils :: _ :: _, _, _, h, _, _, _ | .fn .. :: _ :: _, _, _, h, _, _, _ | .nilfn :: _ :: _, _, _, h, _, _, _ | .agg _ :: _ :: _, _, _, h, _, _, _
  | .tup _ :: _ :: _, _, _, h, _, _, _ | .grd .. :: _ :: _, _, _, h, _, _, _ => by simp [swChain] at h
/-- Every 'size'-th cell from 'off' on. -/
def strided (cs : List SV) (off size : Nat) : Nat → List SV
  | 0 => []
  | n + 1 => match cs[off]? with
    | some v => v :: strided cs (off + size) size n
    | none => []
theorem strided_get (cs : List SV) (size : Nat) : ∀ (n off i : Nat) (u : SV), (strided cs off size n)[i]? = some u → cs[off + i * size]? = some u
  | 0, off, i, u, h => by simp [strided] at h
  | n + 1, off, i, u, h => by
    simp only [strided] at h
    split at h
    · rename_i v hv
      cases i with
      | zero => simp at h; subst h; simpa using hv
      | succ i =>
        have := strided_get cs size n (off + size) i u (by simpa using h)
        rw [← this]; congr 1; rw [Nat.succ_mul]; omega
    · simp at h
/-- A test as a number. -/
def codeV : SV → Option SV
  | .bool b => some (.int .i64 (bE b))
  | _ => none
def codeL : List SV → Option (List SV)
  | [] => some []
  | v :: l => match codeV v, codeL l with
    | some u, some r => some (u :: r)
    | _, _ => none
/-- Of a column of ints, or of tests, the one at a place that is a term. -/
def swCol (e : E) (l : List SV) : Option SV := match swChain e 0 l with
  | some v => some v
  | none => match codeL l with
    | some r => match swChain e 0 r with
      | some (.int _ x) => some (.bool (.nz x))
      | _ => none
    | none => none
theorem codeL_get : ∀ {l r : List SV} {i : Nat} {u : SV}, codeL l = some r → r[i]? = some u → ∃ v, l[i]? = some v ∧ codeV v = some u
  | [], r, i, u, h, hi => by simp [codeL] at h; subst h; simp at hi
  | v :: l, r, i, u, h, hi => by
    simp only [codeL] at h
    split at h
    · rename_i u' r' h1 h2
      simp only [Option.some.injEq] at h
      subst h
      cases i with
      | zero => simp at hi; subst hi; exact ⟨v, rfl, h1⟩
      | succ i => simpa using codeL_get h2 (by simpa using hi)
    · cases h
theorem codeL_length : ∀ {l r : List SV}, codeL l = some r → r.length = l.length
  | [], r, h => by simp [codeL] at h; subst h; rfl
  | v :: l, r, h => by
    simp only [codeL] at h
    split at h
    · rename_i u' r' h1 h2
      simp only [Option.some.injEq] at h
      subst h
      simp [codeL_length h2]
    · cases h
theorem swCol_ok {ρ : List Int} {η : Env} {e : E} {l : List SV} {v : SV} (h : swCol e l = some v) {i : Nat} (he : den ρ e = (i : Int)) (hi : i < l.length) : ∃ u, l[i]? = some u ∧ denV ρ η v = denV ρ η u := by
  unfold swCol at h
  split at h
  · rename_i u hu
    simp only [Option.some.injEq] at h
    subst h
    exact swChain_ok l 0 _ hu i (by rw [he, Nat.zero_add]) hi
  · split at h
    · rename_i r hr
      split at h
      · rename_i k x hx
        simp only [Option.some.injEq] at h
        subst h
        obtain ⟨u, hu, hd⟩ := swChain_ok (ρ := ρ) (η := η) r 0 _ hx i (by rw [he, Nat.zero_add]) (by rw [codeL_length hr]; exact hi)
        obtain ⟨b, hb, hc⟩ := codeL_get hr hu
        refine ⟨b, hb, ?_⟩
        unfold codeV at hc
        split at hc
        · simp only [Option.some.injEq] at hc
          subst hc
          simp only [denV, Value.int.injEq] at hd
          simp only [denV, denB, hd.2, bE_ok]
        · cases hc
      · cases h
    · cases h
def selS (e : E) (cs : List SV) (off sz n : Nat) : Nat → Option (List SV)
  | 0 => some []
  | c + 1 => match selS e cs off sz n c, swCol e (strided cs (off + c) sz n) with
    | some l, some v => if (strided cs (off + c) sz n).length = n then some (l ++ [v]) else none
    | _, _ => none
theorem selS_ok {ρ : List Int} {η : Env} {e : E} {cs : List SV} {off sz n i : Nat} (he : den ρ e = (i : Int)) (hi : i < n) : ∀ {c : Nat} {l : List SV}, selS e cs off sz n c = some l →
    l.length = c ∧ ∀ j, j < c → ∃ u, cs[off + j + i * sz]? = some u ∧ (l[j]?).map (denV ρ η) = some (denV ρ η u)
  | 0, l, h => by simp [selS] at h; subst h; exact ⟨rfl, fun j hj => by omega⟩
  | c + 1, l, h => by
    simp only [selS] at h
    split at h
    · rename_i l' v h1 h2
      split at h
      · rename_i hlen
        simp only [Option.some.injEq] at h
        subst h
        obtain ⟨q1, q2⟩ := selS_ok he hi h1
        refine ⟨by simp [q1], fun j hj => ?_⟩
        by_cases hjc : j < c
        · obtain ⟨u, hu, hd⟩ := q2 j hjc
          exact ⟨u, hu, by rw [List.getElem?_append_left (by omega)]; exact hd⟩
        · have : j = c := by omega
          subst this
          obtain ⟨u, hu, hd⟩ := swCol_ok (η := η) h2 he (by rw [hlen]; exact hi)
          exact ⟨u, strided_get cs sz n (off + j) i u hu, by rw [List.getElem?_append_right (by omega), q1]; simp [hd]⟩
      · cases h
    · cases h
def evLoad (P : Program) (fx : Fx) (bl : Blk) (T : TypeId) : SV → Option Res
  | .ptr id off => match bl id with
    | some (_, cs) => match readV P T cs off with
      | some v => some (val v)
      | none => none
    | none => none
  | .ptx id off size e => match bl id, aggT P T with
    | some (_, cs), some false =>
      let l := strided cs off size (cs.length)
      match swCol e l, decB fx (.le (.lit 0) e), decB fx (.lt e (.lit l.length)) with
      | some v, some true, some true => some (val v)
      | _, _, _ => none
    | some (_, cs), some true => match sizeT P T with
      | some (k + 1) =>
        let n := (strided cs (off + k) size cs.length).length
        match selS e cs off size n (k + 1), decB fx (.le (.lit 0) e), decB fx (.lt e (.lit n)) with
        | some l, some true, some true => some (val (.agg l))
        | _, _, _ => none
      | _ => none
    | _, _ => none
  | _ => none
theorem evLoad_ok {P : Program} {fx : Fx} {bl : Blk} {T : TypeId} {x : SV} {r : Res} (h : evLoad P fx bl T x = some r) {ρ : List Int} {η : Env} {nb : Nat} {w : World} (hf : FxOK ρ fx) (hb : Rb Φ ρ η bl w) :
    Runs P ρ η bl nb w r (Instr.loadAt T (denV ρ η x)) := by
  cases x with
  | ptr id off =>
    simp only [evLoad] at h
    split at h
    · rename_i B cs hbl
      split at h
      · rename_i v hv
        simp only [Option.some.injEq] at h; subst h
        refine .pure rfl rfl ?_
        simp [Instr.loadAt, denV, Instr.sureAddr, run_readV hv (hb.holds _ _ _ hbl), val]
      · simp at h
    · simp at h
  | ptx id off size e =>
    simp only [evLoad] at h
    split at h
    · rename_i B cs hbl ha
      split at h
      · rename_i v hv h0 h1
        simp only [Option.some.injEq] at h; subst h
        have g0 : 0 ≤ den ρ e := of_decide_eq_true (decB_ok hf _ _ h0)
        have g1 : den ρ e < (strided cs off size cs.length).length := of_decide_eq_true (decB_ok hf _ _ h1)
        obtain ⟨u, hu, hv'⟩ := swCol_ok (ρ := ρ) (η := η) hv (i := (den ρ e).toNat) (by omega) (by omega)
        have hcell : w.cell? ⟨η.β id, off + (den ρ e).toNat * size, none⟩ = some (denV ρ η v) := (hb.holds _ _ _ hbl).cell (by simp [strided_get _ _ _ _ _ _ hu, hv'])
        refine .pure rfl rfl ?_
        simp [Instr.loadAt, denV, Instr.sureAddr, loadVar, run_isAgg ha, hcell, val]
      · simp at h
    · rename_i B cs hbl ha
      split at h
      · rename_i k hs
        split at h
        · rename_i l hl h0 h1
          simp only [Option.some.injEq] at h; subst h
          have g0 : 0 ≤ den ρ e := of_decide_eq_true (decB_ok hf _ _ h0)
          have g1 : den ρ e < (strided cs (off + k) size cs.length).length := of_decide_eq_true (decB_ok hf _ _ h1)
          obtain ⟨q1, q2⟩ := selS_ok (ρ := ρ) (η := η) (i := (den ρ e).toNat) (by omega) (by omega) hl
          have hlen : off + (den ρ e).toNat * size + (k + 1) ≤ cs.length := by
            obtain ⟨u, hu', _⟩ := q2 k (by omega)
            have := (List.getElem?_eq_some_iff.1 hu').1
            omega
          have hr : readV P T cs (off + (den ρ e).toNat * size) = some (.agg ((cs.drop (off + (den ρ e).toNat * size)).take (k + 1))) := by
            simp only [readV, ha, hs, hlen, if_true]
          have hd : denV ρ η (.agg l) = denV ρ η (.agg ((cs.drop (off + (den ρ e).toNat * size)).take (k + 1))) := by
            simp only [denV, denL_map]
            congr 2
            refine List.ext_getElem? fun j => ?_
            simp only [List.getElem?_map]
            by_cases hj : j < k + 1
            · obtain ⟨u, hu', hd'⟩ := q2 j hj
              rw [hd', List.getElem?_take_of_lt hj, List.getElem?_drop, show off + (den ρ e).toNat * size + j = off + j + (den ρ e).toNat * size by omega, hu']
              rfl
            · rw [List.getElem?_eq_none (by omega), List.getElem?_eq_none (by simp; omega)]
          refine .pure rfl rfl ?_
          have := run_readV hr (hb.holds _ _ _ hbl)
          simp only [val, hd]
          simp only [Instr.loadAt, denV, Instr.sureAddr] at this ⊢
          simp [this]
        · simp at h
      · simp at h
    · simp at h
  | _ => simp [evLoad] at h
def evStore (P : Program) (bl : Blk) (nb : Nat) (T : TypeId) (x v : SV) : Option Res := match x with
  | .ptr id off => match bl id, v.flat with
    | some (B, cs), some l =>
      if sizeT P T = some l.length ∧ id < nb then
        match setV cs off l with
        | some cs' => some { v := .undef, wr := [(id, some (B, cs'))], nn := 0, asr := [], cal := none, rng := [] }
        | none => none
      else none
    | _, _ => none
  | _ => none
theorem evStore_ok {P : Program} {bl : Blk} {nb : Nat} {T : TypeId} {x v : SV} {r : Res} (h : evStore P bl nb T x v = some r) {ρ : List Int} {η : Env} {w : World} (hb : Rb Φ ρ η bl w) :
    ∃ w', (Instr.storeAt T (denV ρ η x) (denV ρ η v)).run P w = .ok () w' ∧ Eff ρ η η bl nb r w w' ∧ r.v = .undef := by
  unfold evStore at h
  split at h
  · rename_i id off
    split at h
    · rename_i Bt cs l hbl hl
      split at h
      · rename_i hc
        split at h
        · rename_i cs' hs
          simp only [Option.some.injEq] at h; subst h
          have hh := hb.holds _ _ _ hbl
          obtain ⟨w', e1, e2, e3, e5, e4⟩ := run_storeV hl hc.1 hs hh
          refine ⟨w', by simp [Instr.storeAt, denV, Instr.sureAddr, e1], ?_, rfl⟩
          exact {
            size := by omega
            io := e5
            al := rfl
            same := fun _ _ => ⟨rfl, rfl⟩
            frame := fun b _ hb' => e4 b (hb' _ (List.mem_singleton.2 rfl) hc.2)
            made := fun i T' cs'' hm => by
              simp only [List.mem_singleton, Prod.mk.injEq, Option.some.injEq] at hm
              obtain ⟨rfl, rfl, rfl⟩ := hm
              exact e2
            fresh := fun i h1 h2 => by simp only [] at h2; omega
            apart := fun i j h1 h2 => by simp only [] at h2; omega
            known := fun p hp => by
              simp only [List.mem_singleton] at hp
              subst hp
              exact .inl ⟨hc.2, by simp [hbl]⟩
            once := by simp }
        · simp at h
      · simp at h
    · simp at h
  · simp at h

/-! ### arithmetic -/
def keq (k l : IntKind) : Bool := IntKind.num k == IntKind.num l
theorem keq_eq {k l : IntKind} (h : keq k l = true) : k = l := IntKind.num_inj (by simpa [keq] using h)
def evBin (fx : Fx) (op : BinOp) (a b : SV) : Option Res := match a, b with
  | .int k x, .int l y => if keq k l then match op with
      | .add => some (val (.int k (mkWr fx k (.add x y))))
      | .sub => some (val (.int k (mkWr fx k (.sub x y))))
      | .mul => some (val (.int k (mkWr fx k (.mul x y))))
      | .quo => some { val (.int k (mkWr fx k (.quo x y))) with asr := need fx (.not (.eq y (.lit 0))) }
      | .rem => some { val (.int k (nrm fx (.rem x y))) with asr := need fx (.not (.eq y (.lit 0))) }
      | .eql => some (val (.bool (nrmB fx (.eq x y))))
      | .neq => some (val (.bool (nrmB fx (.not (.eq x y)))))
      | .lss => some (val (.bool (nrmB fx (.lt x y))))
      | .leq => some (val (.bool (nrmB fx (.le x y))))
      | .gtr => some (val (.bool (nrmB fx (.lt y x))))
      | .geq => some (val (.bool (nrmB fx (.le y x))))
      | _ => none
    else none
  | .bool x, .bool y => match op with
      | .eql => some (val (.bool (nrmB fx (.iff x y))))
      | .neq => some (val (.bool (nrmB fx (.not (.iff x y)))))
      | _ => none
  | _, _ => none
theorem run_eqGuard_int {P : Program} (op : BinOp) (t : TypeId) (x y : Operand) (k l : IntKind) (m n : Int) (w : World) : (eqGuard op t x y (.int k m) (.int l n)).run P w = .ok () w := by
  unfold eqGuard; split <;> rfl
theorem run_eqGuard_bool {P : Program} (op : BinOp) (t : TypeId) (x y : Operand) (m n : Bool) (w : World) : (eqGuard op t x y (.bool m) (.bool n)).run P w = .ok () w := by
  unfold eqGuard; split <;> rfl
theorem evBin_pure {fx : Fx} {op : BinOp} {a b : SV} {r : Res} (h : evBin fx op a b = some r) : r.wr = [] ∧ r.nn = 0 ∧ r.cal = none ∧ r.rng = [] := by
  unfold evBin at h
  split at h
  · split at h
    · split at h <;> simp at h <;> subst h <;> exact ⟨rfl, rfl, rfl, rfl⟩
    · simp at h
  · split at h <;> simp at h <;> subst h <;> exact ⟨rfl, rfl, rfl, rfl⟩
  · simp at h
theorem evBin_ok {P : Program} {fx : Fx} {op : BinOp} {a b : SV} {r : Res} (h : evBin fx op a b = some r) {ρ : List Int} {η : Env} {w : World} (hf : FxOK ρ fx)
    (ha : ∀ x ∈ r.asr, denB ρ x = true) (t : TypeId) (ht : ∀ x y, a = .bool x → b = .bool y → P.underlying t = some .bool) (xo yo : Operand) :
    (do eqGuard op t xo yo (denV ρ η a) (denV ρ η b); binOp op t (denV ρ η a) (denV ρ η b)).run P w = .ok (denV ρ η r.v) w := by
  unfold evBin at h
  split at h
  · rename_i k x l y
    split at h
    · rename_i hk
      have hk := keq_eq hk
      subst hk
      have hg := fun op => run_eqGuard_int (P := P) op t xo yo k k (den ρ x) (den ρ y) w
      split at h <;> simp only [Option.some.injEq, reduceCtorEq] at h <;> subst h <;> simp only [denV, Sem.run_bind, hg, Result.andThen_ok, val]
      case h_4 =>
        have h1 : (!decide (den ρ y = 0)) = true := need_ok hf ha
        have h0 : ¬ den ρ y = 0 := by simpa using h1
        simp [binOp, Op.intDiv, h0, den_mkWr hf, den]
      case h_5 =>
        have h1 : (!decide (den ρ y = 0)) = true := need_ok hf ha
        have h0 : ¬ den ρ y = 0 := by simpa using h1
        simp [binOp, Op.intDiv, h0, den_nrm hf, den]
      all_goals first
        | (simp [binOp, Op.intArith, den_mkWr hf, den]; done)
        | (simp only [den_nrmB hf, denB]; simp [binOp, Op.intCmp]; done)
        | (simp only [den_nrmB hf, denB]; simp only [binOp, Op.intCmp]; rfl)
        | (simp only [den_nrmB hf, denB]; simp [binOp, Op.intCmp]; rfl)
    · simp at h
  · rename_i x y
    have hg := fun op => run_eqGuard_bool (P := P) op t xo yo (denB ρ x) (denB ρ y) w
    have hu := ht x y rfl rfl
    have he : (Op.equalIn 10000 t (.bool (denB ρ x)) (.bool (denB ρ y))).run P w = .ok (denB ρ x == denB ρ y) w := run_equalIn_bool' w 9999 t _ _ hu
    split at h <;> simp only [Option.some.injEq, reduceCtorEq] at h
    · subst h
      simp only [denV, Sem.run_bind, hg, Result.andThen_ok, val, den_nrmB hf, denB]
      simp only [binOp, Op.equal, Op.maxDepth, Sem.run_bind, he, Result.andThen_ok, Sem.run_pure]
    · subst h
      simp only [denV, Sem.run_bind, hg, Result.andThen_ok, val, den_nrmB hf, denB]
      simp only [binOp, Op.equal, Op.maxDepth, Sem.run_bind, he, Result.andThen_ok, Sem.run_pure]
  · simp at h
def evUn (fx : Fx) (op : UnOp) : SV → Option Res
  | .int k x => match op with
    | .neg => some (val (.int k (mkWr fx k (.sub (.lit 0) x))))
    | _ => none
  | .bool b => match op with
    | .not => some (val (.bool (nrmB fx (.not b))))
    | _ => none
  | _ => none
theorem evUn_ok {P : Program} {fx : Fx} {op : UnOp} {a : SV} {r : Res} (h : evUn fx op a = some r) {ρ : List Int} {η : Env} {bl : Blk} {nb : Nat} {w : World} (hf : FxOK ρ fx) :
    Runs P ρ η bl nb w r (Op.unary op (denV ρ η a)) := by
  unfold evUn at h
  split at h
  · split at h <;> simp at h
    subst h
    exact .pure rfl rfl (by simp [denV, Op.unary, Op.intArith, val, den_mkWr hf, den])
  · split at h <;> simp at h
    subst h
    exact .pure rfl rfl (by simp [denV, Op.unary, val, den_nrmB hf, denB])
  · simp at h
def evConv (P : Program) (fx : Fx) (src dst : TypeId) : SV → Option Res
  | .int _ x => match P.underlying src, P.underlying dst with
    | some _, some (.int k) => some (val (.int k (mkWr fx k x)))
    | _, _ => none
  | _ => none
theorem evConv_ok {P : Program} {fx : Fx} {src dst : TypeId} {a : SV} {r : Res} (h : evConv P fx src dst a = some r) {ρ : List Int} {η : Env} {bl : Blk} {nb : Nat} {w : World} (hf : FxOK ρ fx) :
    Runs P ρ η bl nb w r (convert src dst (denV ρ η a)) := by
  unfold evConv at h
  split at h
  · split at h
    · rename_i hs hd
      simp at h; subst h
      exact .pure rfl rfl (by simp [denV, convert, run_underlying hs, run_underlying hd, Conv.intToInt, val, den_mkWr hf])
    · simp at h
  · simp at h

/-! ### parts -/
theorem run_partV {P : Program} {T : TypeId} {cs : List SV} {off : Nat} {v : SV} (h : readV P T cs off = some v) (ρ : List Int) (η : Env) (w : World) :
    (part T (cs.map (denV ρ η)).toArray off).run P w = .ok (denV ρ η v) w := by
  unfold readV at h
  split at h
  · rename_i ha
    cases hs : sizeT P T with
    | none => rw [hs] at h; simp at h
    | some n =>
      rw [hs] at h
      simp only [] at h
      split at h
      · simp only [Option.some.injEq] at h
        subst h
        simp [part, run_isAgg ha, run_sizeOf hs, denV, denL_map, List.extract_eq_take_drop, List.map_take, List.map_drop]
      · simp at h
  · rename_i ha
    simp [part, run_isAgg ha, h]
  · simp at h
def evField (P : Program) (T : TypeId) (f : Nat) : SV → Option Res
  | .agg cs => match P.underlying T with
    | some (.struct fs) => match fs[f]? with
      | some fd => match readV P fd.type cs fd.offset with
        | some v => some (val v)
        | none => none
      | none => none
    | _ => none
  | _ => none
theorem evField_ok {P : Program} {T : TypeId} {f : Nat} {x : SV} {r : Res} (h : evField P T f x = some r) {ρ : List Int} {η : Env} {bl : Blk} {nb : Nat} {w : World} :
    Runs P ρ η bl nb w r (Instr.field T (denV ρ η x) f) := by
  unfold evField at h
  split at h
  · split at h
    · rename_i fs hu
      split at h
      · rename_i fd hfd
        split at h
        · rename_i v hv
          simp only [Option.some.injEq] at h; subst h
          refine .pure rfl rfl ?_
          simp [Instr.field, run_underlying hu, hfd, denV, denL_map, asAgg, run_partV hv, val]
        · simp at h
      · simp at h
    · simp at h
  · simp at h
def evFieldAddr (P : Program) (T : TypeId) (f : Nat) (x : SV) : Option Res := match P.underlying T with
  | some (.struct fs) => match fs[f]? with
    | some fd => match sizeT P fd.type with
      | some (_ + 1) => match x with
        | .ptr id off => some (val (.ptr id (off + fd.offset)))
        | .ptx id off sz e => some (val (.ptx id (off + fd.offset) sz e))
        | .xp k sz off e => some (val (.xp k sz (off + fd.offset) e))
        | _ => none
      | _ => none
    | none => none
  | _ => none
theorem evFieldAddr_ok {P : Program} {T : TypeId} {f : Nat} {x : SV} {r : Res} (h : evFieldAddr P T f x = some r) {ρ : List Int} {η : Env} {bl : Blk} {nb : Nat} {w : World} :
    Runs P ρ η bl nb w r (Instr.fieldAt T (denV ρ η x) f) := by
  unfold evFieldAddr at h
  split at h
  · rename_i fs hu
    split at h
    · rename_i fd hfd
      split at h
      · rename_i n hs
        split at h
        · simp only [Option.some.injEq] at h; subst h
          refine .pure rfl rfl ?_
          simp [Instr.fieldAt, run_underlying hu, hfd, denV, Instr.sureAddr, fieldPlace, run_sizeOf hs, add_addr, val]
        · simp only [Option.some.injEq] at h; subst h
          refine .pure rfl rfl ?_
          simp [Instr.fieldAt, run_underlying hu, hfd, denV, Instr.sureAddr, fieldPlace, run_sizeOf hs, add_addr, val]
        · simp only [Option.some.injEq] at h; subst h
          refine .pure rfl rfl ?_
          simp [Instr.fieldAt, run_underlying hu, hfd, denV, Instr.sureAddr, fieldPlace, run_sizeOf hs, Addr_add_add, Nat.add_assoc, val]
        · simp at h
      · simp at h
    · simp at h
  · simp at h
def ldKey (k : Nat) : Nat := 1000 + k
def kV : Option IntKind → Int → Value
  | some k, z => .int k z
  | none, z => .bool (decide (z ≠ 0))
def kB : Option IntKind → Int × Int
  | some k => (k.min, k.max)
  | none => (0, 1)
def kS : Option IntKind → Nat → SV
  | some k, i => .int k (.v i)
  | none, i => .bool (.nz (.v i))
/-- The caller's lists: what their cells are, and the variable that is their length. -/
abbrev Ld := Nat → Option (List (Option IntKind) × Nat)
structure LdOK (Φ : Sig) (ld : Ld) : Prop where
  pre : ∀ k ks j, ld k = some (ks, j) → j < Φ.pre.length
  cell : ∀ k ks j, ld k = some (ks, j) → ∀ w, Φ.good w → ∀ i : Nat, (i : Int) < Φ.pre.getD j 0 → ∀ (c : Nat) kd, ks[c]? = some kd →
    w.cell? (((Φ.α k).getD ⟨0, 0, none⟩).add (i * ks.length + c)) = some (kV kd ((Φ (ldKey k) [(i : Int)]).getD c 0))
  bd : ∀ k ks j, ld k = some (ks, j) → ∀ i : Nat, (i : Int) < Φ.pre.getD j 0 → ∀ (c : Nat) kd, ks[c]? = some kd → (kB kd).1 ≤ (Φ (ldKey k) [(i : Int)]).getD c 0 ∧ (Φ (ldKey k) [(i : Int)]).getD c 0 ≤ (kB kd).2
  nil : ∀ k ks j, ld k = some (ks, j) → 0 < Φ.pre.getD j 0 → ∃ x, Φ.α k = some x
def evIdx (fx : Fx) (id off n sz : Nat) (e : E) : Option Res := match nrm fx e with
  | .lit z => if 0 ≤ z ∧ z < n then some (val (.ptr id (off + z.toNat * sz))) else none
  | e' => some { val (.ptx id off sz e') with asr := need fx (.le (.lit 0) e') ++ need fx (.lt e' (.lit n)) }
theorem evIdx_ok {fx : Fx} {id off n sz : Nat} {e : E} {r : Res} (h : evIdx fx id off n sz e = some r) {ρ : List Int} (η : Env) (hf : FxOK ρ fx) (ha : ∀ x ∈ r.asr, denB ρ x = true) :
    0 ≤ den ρ e ∧ den ρ e < n ∧ denV ρ η r.v = .pointer (some ⟨η.β id, off + (den ρ e).toNat * sz, none⟩) ∧ r.wr = [] ∧ r.nn = 0 ∧ r.cal = none ∧ r.rng = [] := by
  have hn := den_nrm hf e
  unfold evIdx at h
  split at h
  · rename_i z hz
    rw [hz] at hn
    split at h
    · rename_i hc
      simp only [Option.some.injEq] at h; subst h
      have hz' : z = den ρ e := hn
      rw [← hz']
      exact ⟨hc.1, hc.2, rfl, rfl, rfl, rfl, rfl⟩
    · simp at h
  · simp only [Option.some.injEq] at h; subst h
    have g0 : 0 ≤ den ρ (nrm fx e) := of_decide_eq_true (need_ok hf fun x hx => ha x (List.mem_append_left _ hx))
    have g1 : den ρ (nrm fx e) < n := of_decide_eq_true (need_ok hf fun x hx => ha x (List.mem_append_right _ hx))
    rw [hn] at g0 g1
    exact ⟨g0, g1, by simp [val, denV, hn], rfl, rfl, rfl, rfl⟩
def evIndexAddr (P : Program) (ld : Ld) (fx : Fx) (T : TypeId) (x i : SV) : Option Res := match i with
  | .int _ e => match P.underlying T, x with
    | some (.array n el), .ptr id off => match sizeT P el with
      | some sz => evIdx fx id off n sz e
      | none => none
    | some (.slice el), .slc id off n c => match sizeT P el with
      | some sz => evIdx fx id (slcO off c) n sz e
      | none => none
    | some (.slice el), .sls k n _ => match sizeT P el, ld k with
      | some sz, some (_, j) => some { val (.xp k sz 0 e) with asr := need fx (.le (.lit 0) e) ++ (need fx (.lt e n) ++ need fx (.lt e (.v j))) }
      | _, _ => none
    | _, _ => none
  | _ => none
theorem evIndexAddr_ok {P : Program} {ld : Ld} (hl : LdOK Φ ld) {fx : Fx} {T : TypeId} {x i : SV} {r : Res} (h : evIndexAddr P ld fx T x i = some r) {ρ : List Int} {η : Env} {bl : Blk} {nb : Nat} {w : World} (hf : FxOK ρ fx)
    (ha : ∀ x ∈ r.asr, denB ρ x = true) (hb : Rb Φ ρ η bl w) : Runs P ρ η bl nb w r (Instr.indexAt T (denV ρ η x) (denV ρ η i)) := by
  unfold evIndexAddr at h
  split at h
  · split at h
    · rename_i n el id off hu
      split at h
      · rename_i sz hs
        obtain ⟨h0, h1, hv, hw, hnn, _⟩ := evIdx_ok h η hf ha
        refine .pure hw hnn ?_
        rw [hv]
        simp [Instr.indexAt, denV, asIntOf, run_underlying hu, Instr.sureAddr, run_sizeOf hs, h0, h1, add_addr]
      · simp at h
    · rename_i el id off n c hu
      split at h
      · rename_i sz hs
        obtain ⟨h0, h1, hv, hw, hnn, _⟩ := evIdx_ok h η hf ha
        refine .pure hw hnn ?_
        rw [hv]
        simp [Instr.indexAt, denV, asIntOf, run_underlying hu, run_sizeOf hs, h0, h1, add_addr]
      · simp at h
    · rename_i _ e _ _ el k n c hu
      split at h
      · rename_i sz ks j hs hk
        simp only [Option.some.injEq] at h; subst h
        have g0 : 0 ≤ den ρ e := of_decide_eq_true (need_ok hf fun x hx => ha x (List.mem_append_left _ hx))
        have g1 : den ρ e < den ρ n := of_decide_eq_true (need_ok hf fun x hx => ha x (List.mem_append_right _ (List.mem_append_left _ hx)))
        have g3 : den ρ e < den ρ (.v j) := of_decide_eq_true (need_ok hf fun x hx => ha x (List.mem_append_right _ (List.mem_append_right _ hx)))
        have g2 : ((den ρ n).toNat : Int) = den ρ n := Int.toNat_of_nonneg (by omega)
        obtain ⟨s, hs'⟩ := hb.pf
        have ej : den ρ (.v j) = Φ.pre.getD j 0 := by
          simp [den, hs', List.getElem?_append_left (hl.pre _ _ _ hk)]
        obtain ⟨x, hx⟩ := hl.nil _ _ _ hk (by omega)
        have hx' : η.α k = some x := by rw [hb.al]; exact hx
        refine .pure rfl rfl ?_
        simp [Instr.indexAt, denV, asIntOf, run_underlying hu, run_sizeOf hs, g0, g1, g2, hx', val]
      · simp at h
    · simp at h
  · simp at h
/-- An element of an array, by a place that is a term. -/
def evIndexS (P : Program) (fx : Fx) (el : TypeId) (cs : List SV) (n sz : Nat) (e : E) : Option Res := match aggT P el, selS e cs 0 sz n sz with
  | some true, some l => some { val (.agg l) with asr := need fx (.le (.lit 0) e) ++ need fx (.lt e (.lit n)) }
  | some false, some [v] => if sz = 1 then some { val v with asr := need fx (.le (.lit 0) e) ++ need fx (.lt e (.lit n)) } else none
  | _, _ => none
def evIndex (P : Program) (fx : Fx) (T : TypeId) (x i : SV) : Option Res := match i, x with
  | .int _ e, .agg cs => match P.underlying T with
    | some (.array n el) => match sizeT P el with
      | some sz => match nrm fx e with
        | .lit z => if 0 ≤ z ∧ z < n then
            match readV P el cs (z.toNat * sz) with
            | some v => some (val v)
            | none => none
          else none
        | e => evIndexS P fx el cs n sz e
      | none => none
    | _ => none
  | _, _ => none
theorem evIndexS_ok {P : Program} {fx : Fx} {el T : TypeId} {cs : List SV} {n sz : Nat} {k : IntKind} {e e0 : E} {r : Res} (h : evIndexS P fx el cs n sz e = some r) (hu : P.underlying T = some (.array n el)) (hs : sizeT P el = some sz)
    {ρ : List Int} {η : Env} {bl : Blk} {nb : Nat} {w : World} (hf : FxOK ρ fx) (ha : ∀ x ∈ r.asr, denB ρ x = true) (hn : den ρ e = den ρ e0) : Runs P ρ η bl nb w r (Instr.index T (denV ρ η (.agg cs)) (denV ρ η (.int k e0))) := by
  have key : (∀ x ∈ need fx (.le (.lit 0) e) ++ need fx (.lt e (.lit n)), denB ρ x = true) → 0 ≤ den ρ e0 ∧ den ρ e0 < n := fun ha => by
    have h1 : 0 ≤ den ρ e := of_decide_eq_true (need_ok hf fun x hx => ha x (List.mem_append_left _ hx))
    have h2 : den ρ e < n := of_decide_eq_true (need_ok hf fun x hx => ha x (List.mem_append_right _ hx))
    omega
  unfold evIndexS at h
  split at h
  · rename_i l hg hl
    simp only [Option.some.injEq] at h; subst h
    obtain ⟨b1, b2⟩ := key ha
    obtain ⟨q1, q2⟩ := selS_ok (ρ := ρ) (η := η) (i := (den ρ e0).toNat) (by rw [hn]; omega) (by omega) hl
    have hlen : (den ρ e0).toNat * sz + sz ≤ cs.length := by
      rcases Nat.eq_zero_or_pos sz with h0 | h0
      · subst h0
        obtain ⟨i, hi, e⟩ : ∃ i, P.info? el = some i ∧ i.size = 0 := by simpa [sizeT] using hs
        omega
      · obtain ⟨u, hu', _⟩ := q2 (sz - 1) (by omega)
        have := (List.getElem?_eq_some_iff.1 hu').1
        omega
    have hr : readV P el cs ((den ρ e0).toNat * sz) = some (.agg ((cs.drop ((den ρ e0).toNat * sz)).take sz)) := by
      simp only [readV, hg, hs, hlen, if_true]
    have hd : denV ρ η (.agg l) = denV ρ η (.agg ((cs.drop ((den ρ e0).toNat * sz)).take sz)) := by
      simp only [denV, denL_map]
      congr 2
      refine List.ext_getElem? fun j => ?_
      simp only [List.getElem?_map]
      by_cases hj : j < sz
      · obtain ⟨u, hu', hd'⟩ := q2 j hj
        rw [Nat.zero_add] at hu'
        rw [hd', List.getElem?_take_of_lt hj, List.getElem?_drop, Nat.add_comm _ j, hu']
        rfl
      · rw [List.getElem?_eq_none (by omega), List.getElem?_eq_none (by simp; omega)]
    refine .pure rfl rfl ?_
    have := run_partV hr ρ η w
    simp only [val, hd]
    simp only [Instr.index, denV, asIntOf, run_underlying hu, b1, b2, run_sizeOf hs, denL_map] at this ⊢
    simp [run_underlying hu, b1, b2, run_sizeOf hs, this]
  · rename_i v hg hl
    split at h
    · rename_i h1
      subst h1
      simp only [Option.some.injEq] at h; subst h
      obtain ⟨b1, b2⟩ := key ha
      obtain ⟨q1, q2⟩ := selS_ok (ρ := ρ) (η := η) (i := (den ρ e0).toNat) (by rw [hn]; omega) (by omega) hl
      obtain ⟨u, hu', hd⟩ := q2 0 (by omega)
      simp only [Nat.zero_add, Nat.add_zero, Nat.mul_one] at hu'
      have hr : readV P el cs ((den ρ e0).toNat * 1) = some u := by
        simp only [readV, hg, Nat.mul_one]; exact hu'
      have hd : denV ρ η v = denV ρ η u := by simpa using hd
      refine .pure rfl rfl ?_
      have := run_partV hr ρ η w
      simp only [val, hd]
      simp only [Instr.index, denV, asIntOf, run_underlying hu, b1, b2, run_sizeOf hs, denL_map] at this ⊢
      rw [Nat.mul_one] at this
      simp [run_underlying hu, b1, b2, run_sizeOf hs, this]
    · cases h
  · cases h
theorem evIndex_ok {P : Program} {fx : Fx} {T : TypeId} {x i : SV} {r : Res} (h : evIndex P fx T x i = some r) {ρ : List Int} {η : Env} {bl : Blk} {nb : Nat} {w : World} (hf : FxOK ρ fx) (ha : ∀ x ∈ r.asr, denB ρ x = true) :
    Runs P ρ η bl nb w r (Instr.index T (denV ρ η x) (denV ρ η i)) := by
  unfold evIndex at h
  split at h
  · rename_i k e cs
    split at h
    · rename_i n el hu
      split at h
      · rename_i sz hs
        have hn := den_nrm hf e
        split at h
        · rename_i z hz
          rw [hz] at hn
          have hz' : z = den ρ e := hn
          split at h
          · rename_i hc
            split at h
            · rename_i v hv
              simp only [Option.some.injEq] at h; subst h
              refine .pure rfl rfl ?_
              rw [hz'] at hc hv
              simp [Instr.index, denV, asIntOf, run_underlying hu, hc.1, hc.2, run_sizeOf hs, denL_map, run_partV hv, val]
            · simp at h
          · simp at h
        · exact evIndexS_ok h hu hs hf ha hn
      · simp at h
    · simp at h
  · simp at h
def evExtract (n : Nat) : SV → Option Res
  | .tup l => match l[n]? with
    | some v => some (val v)
    | none => none
  | _ => none
theorem evExtract_ok {P : Program} {n : Nat} {x : SV} {r : Res} (h : evExtract n x = some r) {ρ : List Int} {η : Env} {bl : Blk} {nb : Nat} {w : World} :
    Runs P ρ η bl nb w r (Instr.extract (denV ρ η x) n) := by
  unfold evExtract at h
  split at h
  · split at h
    · rename_i v hv
      simp only [Option.some.injEq] at h; subst h
      exact .pure rfl rfl (by simp [Instr.extract, denV, denL_map, hv, val])
    · simp at h
  · simp at h

/-! ### literals of structs, arrays and slices -/
def fillS (place : Nat → Option (Nat × Nat)) (cells : List SV) : List (Nat × SV) → Option (List SV)
  | [] => some cells
  | (i, v) :: rest => match place i, v.flat with
    | some (off, size), some l => if l.length = size then
        match setV cells off l with
        | some cs => fillS place cs rest
        | none => none
      else none
    | _, _ => none
theorem foldl_set (l : List Value) (off : Nat) : ∀ (cs : Array Value) (k : Nat), off + k + l.length ≤ cs.size →
    (l.zipIdx k).foldl (fun cs (c, j) => cs.setIfInBounds (off + j) c) cs = (cs.toList.take (off + k) ++ l ++ cs.toList.drop (off + k + l.length)).toArray := by
  induction l with
  | nil => intro cs k _; simp
  | cons v l ih =>
    intro cs k hk
    simp only [List.length_cons] at hk
    simp only [List.zipIdx_cons, List.foldl_cons]
    rw [ih _ _ (by simp; omega)]
    congr 1
    rw [Array.toList_setIfInBounds]
    have a1 : (cs.toList.set (off + k) v).take (off + (k + 1)) = cs.toList.take (off + k) ++ [v] := by
      rw [show off + (k + 1) = (off + k) + 1 by omega, List.take_succ_eq_append_getElem (by simp; omega), List.take_set_of_le (Nat.le_refl _)]
      simp
    have a2 : (cs.toList.set (off + k) v).drop (off + (k + 1) + l.length) = cs.toList.drop (off + k + (l.length + 1)) := by
      rw [List.drop_set_of_lt (by omega)]
      congr 1; omega
    rw [a1, a2]; simp
theorem fill_ok {ρ : List Int} {η : Env} {place : Nat → Option (Nat × Nat)} : ∀ (ps : List (Nat × SV)) (cells cs : List SV), fillS place cells ps = some cs →
    Instr.fill place (cells.map (denV ρ η)).toArray (ps.map fun p => (p.1, denV ρ η p.2)) = some (cs.map (denV ρ η)).toArray
  | [], cells, cs, h => by simp [fillS] at h; subst h; simp [Instr.fill]
  | (i, v) :: ps, cells, cs, h => by
    simp only [fillS] at h
    split at h
    · rename_i off size l hp hl
      split at h
      · rename_i hsz
        split at h
        · rename_i cs1 h1
          have ih := fill_ok (ρ := ρ) (η := η) ps cs1 cs h
          obtain ⟨hc, _⟩ := flat_cells (ρ := ρ) (η := η) hl
          unfold setV at h1
          split at h1
          · rename_i hle
            simp only [Option.some.injEq] at h1
            have hf := foldl_set (l.map (denV ρ η)) off (cells.map (denV ρ η)).toArray 0 (by simpa using hle)
            simp only [List.map_cons, Instr.fill, hp, hc]
            have c1 : ¬ ((l.map (denV ρ η)).toArray.size ≠ size ∨ (cells.map (denV ρ η)).toArray.size < off + (l.map (denV ρ η)).toArray.size) := by simp; omega
            have c2 : (((l.map (denV ρ η)).toArray.size ≠ size || off + (l.map (denV ρ η)).toArray.size > (cells.map (denV ρ η)).toArray.size) : Bool) = false := by
              simp; omega
            rw [if_neg (by simp; omega)]
            rw [Array.zipIdx_toArray, List.foldl_toArray, hf]
            rw [← ih, ← h1]
            simp [List.map_take, List.map_drop]
          · simp at h1
        · simp at h
      · simp at h
    · simp at h
def evBuild (P : Program) (T : TypeId) (parts : List (Nat × SV)) : Option Res := match zeroV P T, P.underlying T with
  | some z, some (.array _ el) => match sizeT P el with
    | some n => match fillS (fun i => some (i * n, n)) z parts with
      | some cs => some (val (.agg cs))
      | none => none
    | none => none
  | some z, some (.struct fs) => match fs.toList.mapM (fun f => (P.info? f.type).map fun i => (f.offset, i.size)) with
    | some places => match fillS (places.toArray[·]?) z parts with
      | some cs => some (val (.agg cs))
      | none => none
    | none => none
  | _, _ => none
theorem zeroV_info {P : Program} {T : TypeId} {l : List SV} (h : zeroV P T = some l) (ρ : List Int) (η : Env) :
    ∃ i z, P.info? T = some i ∧ i.zero = some z ∧ z.cells = (l.map (denV ρ η)).toArray ∧ (∀ x ∈ l, x.scal = true ∧ ∀ i, x.no i = true) := by
  unfold zeroV at h
  cases hi : P.info? T with
  | none => simp [hi] at h
  | some i =>
    cases hz : i.zero with
    | none => simp [hi, hz] at h
    | some z =>
      simp [hi, hz] at h
      obtain ⟨h1, h2⟩ := constL_ok h ρ η
      exact ⟨i, z, rfl, hz, by rw [h1], h2⟩
theorem evBuild_ok {P : Program} {T : TypeId} {parts : List (Nat × SV)} {r : Res} (h : evBuild P T parts = some r) {ρ : List Int} {η : Env} {bl : Blk} {nb : Nat} {w : World}
    (ps : Array (Nat × Value)) (hps : ps.toList = parts.map fun p => (p.1, denV ρ η p.2)) : Runs P ρ η bl nb w r (Instr.build T ps) := by
  unfold evBuild at h
  split at h
  · rename_i z n el hz hu
    obtain ⟨it, zv, hi, hzv, hc, _⟩ := zeroV_info hz ρ η
    split at h
    · rename_i m hs
      cases hie : P.info? el with
      | none => simp [sizeT, hie] at hs
      | some ie =>
        have hm : ie.size = m := by simpa [sizeT, hie] using hs
        split at h
        · rename_i cs hf
          simp only [Option.some.injEq] at h; subst h
          refine .pure rfl rfl ?_
          rw [run_build w T ps (cs.map (denV ρ η)).toArray]
          · simp [val, denV, denL_map]
          · simp only [Program.built, hi, hu, hzv, hie, hc, hps, hm]
            exact fill_ok (ρ := ρ) (η := η) _ _ _ hf
        · simp at h
    · simp at h
  · rename_i z fs hz hu
    obtain ⟨it, zv, hi, hzv, hc, _⟩ := zeroV_info hz ρ η
    split at h
    · rename_i places hp
      split at h
      · rename_i cs hf
        simp only [Option.some.injEq] at h; subst h
        refine .pure rfl rfl ?_
        rw [run_build w T ps (cs.map (denV ρ η)).toArray]
        · simp [val, denV, denL_map]
        · simp only [Program.built, hi, hu, hzv, hp, hc, hps]
          exact fill_ok (ρ := ρ) (η := η) _ _ _ hf
      · simp at h
    · simp at h
  · simp at h
/-- 'n' cells of a row of zeros. -/
def madeS (z : List SV) (n : Nat) : List SV := (List.range n).map fun j => z.getD (j % z.length) .undef
theorem madeS_ok {z : List SV} {n : Nat} (h : 0 < z.length ∨ n = 0) {ρ : List Int} {η : Env} {zv : Array Value} (hz : zv = (z.map (denV ρ η)).toArray) :
    (Array.range n).map (fun j => zv[j % zv.size]!) = ((madeS z n).map (denV ρ η)).toArray := by
  subst hz
  apply Array.ext'
  simp only [Array.toList_map, Array.toList_range, madeS, List.map_map, List.size_toArray, List.length_map]
  apply List.map_congr_left
  intro j hj
  rcases h with h | h
  · have hlt := Nat.mod_lt j h
    simp [Function.comp, hlt]
  · subst h; simp at hj
theorem madeS_no {z : List SV} {n : Nat} (h : 0 < z.length ∨ n = 0) {p : SV → Prop} (hp : ∀ x ∈ z, p x) : ∀ x ∈ madeS z n, p x := by
  intro x hx
  unfold madeS at hx
  obtain ⟨j, hj, rfl⟩ := List.mem_map.1 hx
  rcases h with h | h
  · have hlt := Nat.mod_lt j h
    simp [hlt]
    exact hp _ (List.getElem_mem hlt)
  · subst h; simp at hj
theorem fillS_no {place : Nat → Option (Nat × Nat)} {p : SV → Prop} : ∀ (ps : List (Nat × SV)) (cells cs : List SV), fillS place cells ps = some cs → (∀ x ∈ cells, p x) → (∀ q ∈ ps, ∀ l, q.2.flat = some l → ∀ x ∈ l, p x) → ∀ x ∈ cs, p x
  | [], cells, cs, h, hc, _ => by simp [fillS] at h; subst h; exact hc
  | (i, v) :: ps, cells, cs, h, hc, hps => by
    simp only [fillS] at h
    split at h
    · rename_i off size l _ hl
      split at h
      · split at h
        · rename_i cs1 h1
          refine fillS_no ps cs1 cs h ?_ (fun q hq => hps q (List.mem_cons_of_mem _ hq))
          unfold setV at h1
          split at h1
          · simp only [Option.some.injEq] at h1
            subst h1
            intro x hx
            simp only [List.append_assoc, List.mem_append] at hx
            rcases hx with hx | hx | hx
            · exact hc x (List.mem_of_mem_take hx)
            · exact hps _ (List.mem_cons_self ..) l hl x hx
            · exact hc x (List.mem_of_mem_drop hx)
          · simp at h1
        · simp at h
      · simp at h
    · simp at h
def evBuildSlice (P : Program) (nb : Nat) (T : TypeId) (n : Nat) (parts : List (Nat × SV)) : Option Res := match P.underlying T with
  | some (.slice el) => match sizeT P el, zeroV P el with
    | some sz, some z =>
      if n * sz ≤ 16777216 ∧ (0 < z.length ∨ n * sz = 0) then
        match fillS (fun i => some (i * sz, sz)) (madeS z (n * sz)) parts with
        | some cs => if cs.all (·.no nb) then some { v := .slc nb 0 n (some n), wr := [(nb, some (el, cs))], nn := 1, asr := [], cal := none, rng := [] } else none
        | none => none
      else none
    | _, _ => none
  | _ => none
theorem evBuildSlice_ok {P : Program} {nb : Nat} {T : TypeId} {n : Nat} {parts : List (Nat × SV)} {r : Res} (h : evBuildSlice P nb T n parts = some r) {ρ : List Int} {η : Env} {bl : Blk} {w : World}
    (ps : Array (Nat × Value)) (hps : ps.toList = parts.map fun p => (p.1, denV ρ η p.2)) : Runs P ρ η bl nb w r (Instr.buildSlice T n ps) := by
  unfold evBuildSlice at h
  split at h
  · rename_i el hu
    split at h
    · rename_i sz z hs hz
      split at h
      · rename_i hc
        split at h
        · rename_i cs hf
          split at h
          · rename_i hn
            simp only [Option.some.injEq] at h; subst h
            obtain ⟨zv, hzv, hzc, _⟩ := run_zeroV hz ρ η
            refine ⟨_, _, ?_, Eff.new el cs (.slc nb 0 n (some n)) fun x hx => List.all_eq_true.1 hn x hx⟩
            have hfill := fill_ok (ρ := ρ) (η := η) _ _ _ hf
            have hlim : ¬ (n * sz > 2 ^ 24) := by omega
            by_cases h0 : n * sz = 0
            · have hm : (Array.range (n * sz)).map (fun j => (#[] : Array Value)[j % (#[] : Array Value).size]!) = ((madeS z (n * sz)).map (denV ρ η)).toArray := by
                rw [h0]; simp [madeS]
              simp only [Instr.buildSlice, Sem.run_bind, run_underlying hu, Result.andThen_ok, run_sizeOf hs, if_neg hlim, Sem.run_pure, if_pos h0, hm, hps, hfill]
              simp [newRow, denV]
            · have hm := madeS_ok hc.2 hzc
              simp only [Instr.buildSlice, Sem.run_bind, run_underlying hu, Result.andThen_ok, run_sizeOf hs, if_neg hlim, Sem.run_pure, if_neg h0, hzv, hm, hps, hfill]
              simp [newRow, denV]
          · simp at h
        · simp at h
      · simp at h
    · simp at h
  · simp at h
end Go.Proofs.Ytnnnmdmniceenaa.Ev
