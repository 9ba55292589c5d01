/- Code of which all is known is carried out by the kernel: an interpreter of compact code, and what it tells. -/
import Derived.Test.YtipanehdmhachaaGreatDoorKaC
set_option linter.unusedSimpArgs false
set_option linter.unusedVariables false
namespace Go.Proofs.YtipanehdmhachaaGreatDoor.H
namespace X
/-! ### Equal values -/
def eqV : Value → Value → Bool
  | .int k z, .int l y => decide (k = l) && decide (z = y)
  | .bool a, .bool b => decide (a = b)
  | .string a, .string b => decide (a.data.toList = b.data.toList)
  | _, _ => false
theorem eqV_ok {x y : Value} (h : eqV x y = true) : x = y := by
  unfold eqV at h
  split at h
  · simp only [Bool.and_eq_true, decide_eq_true_eq] at h; rw [h.1, h.2]
  · simp only [decide_eq_true_eq] at h; rw [h]
  · rename_i a b
    simp only [decide_eq_true_eq] at h
    obtain ⟨⟨a⟩⟩ := a; obtain ⟨⟨b⟩⟩ := b
    simp only at h; subst h; rfl
  · cases h
mutual
def eqD : D → D → Bool
  | .v x, .v y => eqV x y
  | .lst k r, .lst l q => decide (k = l) && eqR r q
  | _, _ => false
def eqR : List (List D) → List (List D) → Bool
  | [], [] => true
  | a :: r, b :: q => eqL a b && eqR r q
  | _, _ => false
def eqL : List D → List D → Bool
  | [], [] => true
  | a :: r, b :: q => eqD a b && eqL r q
  | _, _ => false
end
mutual
theorem eqD_ok : ∀ {x y : D}, eqD x y = true → x = y
  | .v x, .v y, h => by
    have e : x = y := eqV_ok (by simpa only [eqD] using h)
    rw [e]
  | .lst k r, .lst l q, h => by
    simp only [eqD, Bool.and_eq_true, decide_eq_true_eq] at h
    rw [h.1, eqR_ok h.2]
  | .v _, .lst .., h => by simp [eqD] at h
  | .lst .., .v _, h => by simp [eqD] at h
theorem eqR_ok : ∀ {x y : List (List D)}, eqR x y = true → x = y
  | [], [], _ => rfl
  | a :: r, b :: q, h => by
    simp only [eqR, Bool.and_eq_true] at h
    rw [eqL_ok h.1, eqR_ok h.2]
  | [], _ :: _, h => by simp [eqR] at h
  | _ :: _, [], h => by simp [eqR] at h
theorem eqL_ok : ∀ {x y : List D}, eqL x y = true → x = y
  | [], [], _ => rfl
  | a :: r, b :: q, h => by
    simp only [eqL, Bool.and_eq_true] at h
    rw [eqD_ok h.1, eqL_ok h.2]
  | [], _ :: _, h => by simp [eqL] at h
  | _ :: _, [], h => by simp [eqL] at h
end
def eqA : AV → AV → Bool
  | .d x, .d y => eqD x y
  | .ful k r, .ful l q => decide (k = l) && eqR r q
  | _, _ => false
theorem eqA_ok {x y : AV} (h : eqA x y = true) : x = y := by
  unfold eqA at h
  split at h
  · rw [eqD_ok h]
  · simp only [Bool.and_eq_true, decide_eq_true_eq] at h; rw [h.1, eqR_ok h.2]
  · cases h
def eqAs : List AV → List AV → Bool
  | [], [] => true
  | a :: r, b :: q => eqA a b && eqAs r q
  | _, _ => false
/-! ### Conditions of operations -/
def okI (op : BinOp) (b : Int) : Bool := match op with
  | .quo => decide (b ≠ 0)
  | .rem => decide (b ≠ 0)
  | _ => true
theorem okI_ok {op : BinOp} {k : IntKind} {a b : Int} {C : Prop} {v : AV} (h : intA op k a b = some (C, v)) (ho : okI op b = true) : C := by
  cases op <;> simp only [intA, Option.some.injEq, Prod.mk.injEq, reduceCtorEq] at h <;> obtain ⟨rfl, -⟩ := h <;> first | trivial | (simpa [okI] using ho)
def cB (x y : AV) (op : BinOp) : Bool := match asI x, asI y with
  | some (_, _), some (_, b) => okI op b
  | _, _ => false
theorem cB_ok {op : BinOp} {x y : AV} {C : Prop} {v : AV} (h : binA op x y = some (C, v)) (ho : cB x y op = true) : C := by
  unfold binA at h; unfold cB at ho
  split at h
  · rename_i k a l b h1 h2
    rw [h1, h2] at ho
    split at h
    · exact okI_ok h ho
    · cases h
  · cases h
theorem boolA_ok {op : BinOp} {x y : AV} {C : Prop} {v : AV} (h : binbA op x y = some (C, v)) : C := by
  unfold binbA at h
  split at h
  · cases op <;> simp only [boolA, Option.some.injEq, Prod.mk.injEq, reduceCtorEq] at h <;> obtain ⟨rfl, -⟩ := h <;> trivial
  · cases h
def cS (x y : AV) : Bool := match asS x, asS y with
  | some a, some b => decide (((a.size + b.size : Nat) : Int) ≤ IntKind.i64.max)
  | _, _ => false
theorem cS_ok {op : BinOp} {x y : AV} {C : Prop} {v : AV} (h : binsA op x y = some (C, v)) (ho : cS x y = true) : C := by
  unfold binsA at h; unfold cS at ho
  split at h
  · rename_i a b h1 h2
    rw [h1, h2] at ho
    cases op <;> simp only [strA, Option.some.injEq, Prod.mk.injEq, reduceCtorEq] at h <;> obtain ⟨rfl, -⟩ := h <;> first | trivial | (simpa using ho)
  · cases h
def cH (y : AV) : Bool := match asI y with
  | some (_, b) => decide (0 ≤ b)
  | none => false
theorem cH_ok {op : BinOp} {x y : AV} {C : Prop} {v : AV} (h : shfA op x y = some (C, v)) (ho : cH y = true) : C := by
  unfold shfA at h; unfold cH at ho
  split at h
  · rename_i k a l b h1 h2
    rw [h2] at ho
    cases op <;> simp only [Option.some.injEq, Prod.mk.injEq, reduceCtorEq] at h <;> obtain ⟨rfl, -⟩ := h <;> simpa using ho
  · cases h
theorem eqlA_ok {neg : Bool} {sh : Sh} {x y : AV} {C : Prop} {v : AV} (h : eqlA neg sh x y = some (C, v)) : C := by
  unfold eqlA at h
  split at h
  · simp only [Option.some.injEq, Prod.mk.injEq] at h; rw [← h.1]; trivial
  · cases h
theorem unA_ok {op : UnOp} {x : AV} {C : Prop} {v : AV} (h : unA op x = some (C, v)) : C := by
  unfold unA at h
  split at h
  · split at h
    · simp only [Option.some.injEq, Prod.mk.injEq] at h; rw [← h.1]; trivial
    · cases h
  · split at h
    · simp only [Option.some.injEq, Prod.mk.injEq] at h; rw [← h.1]; trivial
    · cases h
  · cases h
theorem convA_ok {k : IntKind} {x : AV} {C : Prop} {v : AV} (h : convA k x = some (C, v)) : C := by
  unfold convA at h
  split at h
  · simp only [Option.some.injEq, Prod.mk.injEq] at h; rw [← h.1]; trivial
  · cases h
theorem nilcA_ok {x : AV} {C : Prop} {v : AV} (h : nilcA x = some (C, v)) : C := by
  unfold nilcA at h
  split at h <;> first | (simp only [Option.some.injEq, Prod.mk.injEq] at h; rw [← h.1]; trivial) | cases h
theorem lenA_ok {x : AV} {C : Prop} {v : AV} (h : lenA x = some (C, v)) : C := by
  unfold lenA at h
  split at h <;> first | (simp only [Option.some.injEq, Prod.mk.injEq] at h; rw [← h.1]; trivial) | cases h
theorem lensA_ok {x : AV} {C : Prop} {v : AV} (h : lensA x = some (C, v)) : C := by
  unfold lensA at h
  split at h <;> first | (simp only [Option.some.injEq, Prod.mk.injEq] at h; rw [← h.1]; trivial) | cases h
theorem mmA_ok {mx : Bool} {x : List AV} {C : Prop} {v : AV} (h : mmA mx x = some (C, v)) : C := by
  unfold mmA at h
  split at h
  · cases h
  · split at h
    · split at h
      · simp only [Option.some.injEq, Prod.mk.injEq] at h; rw [← h.1]; trivial
      · cases h
    · cases h
def cL (s : St) (x : AV) : Bool := match x with
  | .ptr id i _ => match cellsOf s id with
    | some (_, _, rows) => decide (i < rows.length)
    | none => false
  | _ => true
theorem cL_ok {s : St} {sz : Option Nat} {x : AV} {C : Prop} {v : AV} (h : loadA s sz x = some (C, v)) (ho : cL s x = true) : C := by
  unfold loadA at h; unfold cL at ho
  split at h
  · simp only at ho
    split at h
    · rename_i hc
      rw [hc] at ho
      split at h
      · simp only [Option.some.injEq, Prod.mk.injEq] at h; rw [← h.1]; simpa using ho
      · cases h
    · cases h
  · split at h
    · simp only [Option.some.injEq, Prod.mk.injEq] at h; rw [← h.1]; trivial
    · cases h
  · cases h
def cA (sz : Nat) (arr : Option Nat) (x i : AV) : Bool := match asI i with
  | some (_, z) => match arr with
    | some n => decide (0 ≤ z) && decide (z < n)
    | none => match x with
      | .d (.lst k rows) => decide (0 ≤ z) && decide (z < rows.length) && decide (k = sz)
      | .ful k rows => decide (0 ≤ z) && decide (z < rows.length) && decide (k = sz)
      | .own _ _ len => decide (0 ≤ z) && decide (z < len)
      | .osl _ _ _ len => decide (0 ≤ z) && decide (z < len)
      | .pre k rows n => decide (0 ≤ z) && decide (z < n) && decide (n ≤ rows.length) && decide (k = sz)
      | _ => false
  | none => false
theorem cA_ok {s : St} {sz : Nat} {arr : Option Nat} {x i : AV} {C : Prop} {v : AV} (h : iaddrA s sz arr x i = some (C, v)) (ho : cA sz arr x i = true) : C := by
  unfold iaddrA at h; unfold cA at ho
  cases hi : asI i with
  | none => rw [hi] at h; cases h
  | some q =>
    obtain ⟨k, z⟩ := q
    rw [hi] at h ho
    simp only at h ho
    cases arr with
    | some n =>
      simp only [Bool.and_eq_true, decide_eq_true_eq] at h ho
      split at h
      · simp only [Option.some.injEq, Prod.mk.injEq] at h; rw [← h.1]; exact ho
      · cases h
    | none =>
      simp only at h ho
      split at h
      · simp only [Bool.and_eq_true, decide_eq_true_eq] at ho
        simp only [Option.some.injEq, Prod.mk.injEq] at h; rw [← h.1]; exact ⟨ho.1.1, ho.1.2, ho.2⟩
      · simp only [Bool.and_eq_true, decide_eq_true_eq] at ho
        simp only [Option.some.injEq, Prod.mk.injEq] at h; rw [← h.1]; exact ⟨ho.1.1, ho.1.2, ho.2⟩
      · simp only [Bool.and_eq_true, decide_eq_true_eq] at ho
        split at h
        · split at h
          · simp only [Option.some.injEq, Prod.mk.injEq] at h; rw [← h.1]; exact ho
          · cases h
        · cases h
      · simp only [Bool.and_eq_true, decide_eq_true_eq] at ho
        simp only [Option.some.injEq, Prod.mk.injEq] at h; rw [← h.1]; exact ho
      · simp only [Bool.and_eq_true, decide_eq_true_eq] at ho
        simp only [Option.some.injEq, Prod.mk.injEq] at h; rw [← h.1]; exact ⟨ho.1.1.1, ho.1.1.2, ho.1.2, ho.2⟩
      · cases h
def cG (arr : Option Nat) (i : AV) : Bool := match arr, asI i with
  | some n, some (_, z) => decide (0 ≤ z) && decide (z < n)
  | _, _ => false
theorem cG_ok {sz : Nat} {arr : Option Nat} {x : Operand} {i : AV} {C : Prop} {v : AV} (h : gadrA sz arr x i = some (C, v)) (ho : cG arr i = true) : C := by
  unfold gadrA at h; unfold cG at ho
  split at h
  · rename_i g n k z hi
    rw [hi] at ho
    simp only [Bool.and_eq_true, decide_eq_true_eq] at ho
    split at h
    · split at h
      · simp only [Option.some.injEq, Prod.mk.injEq] at h; rw [← h.1]; exact ho
      · cases h
    · cases h
  · cases h
def cX (sz : Nat) (rd : Option Nat) (n : Nat) (x i : AV) : Bool := match asI i, x with
  | some (_, z), .agg l => decide (0 ≤ z) && decide (z < n) && (match rd with
    | some m => decide (z.toNat * sz + m ≤ l.length)
    | none => decide (z.toNat * sz < l.length))
  | _, _ => false
theorem cX_ok {sz : Nat} {rd : Option Nat} {n : Nat} {x i : AV} {C : Prop} {v : AV} (h : idxA sz rd n x i = some (C, v)) (ho : cX sz rd n x i = true) : C := by
  unfold idxA at h; unfold cX at ho
  split at h
  · rename_i hi
    rw [hi] at ho
    simp only at ho
    split at h <;> simp only [Bool.and_eq_true, decide_eq_true_eq] at ho <;> simp only [Option.some.injEq, Prod.mk.injEq] at h <;> rw [← h.1] <;> exact ⟨ho.1.1, ho.1.2, ho.2⟩
  · cases h
def cSi (x i : AV) : Bool := match asS x, asI i with
  | some s, some (_, z) => decide (0 ≤ z) && decide (z < s.size)
  | _, _ => false
theorem cSi_ok {x i : AV} {C : Prop} {v : AV} (h : sidxA x i = some (C, v)) (ho : cSi x i = true) : C := by
  unfold sidxA at h; unfold cSi at ho
  split at h
  · rename_i h1 h2
    rw [h1, h2] at ho
    simp only [Bool.and_eq_true, decide_eq_true_eq] at ho
    simp only [Option.some.injEq, Prod.mk.injEq] at h; rw [← h.1]; exact ho
  · cases h
def cSl (sz : Nat) (x : AV) (lo hi mx : Option Int) : Bool := match mx with
  | none => match x with
    | .own _ _ len => decide (0 ≤ lo.getD 0) && decide (lo.getD 0 ≤ hi.getD len) && decide (hi.getD len ≤ len)
    | .d (.lst k rows) => decide (0 ≤ lo.getD 0) && decide (lo.getD 0 ≤ hi.getD rows.length) && decide (hi.getD rows.length ≤ rows.length) && (decide (k = sz) || rows.isEmpty)
    | .ful k rows => match hi with
      | none => decide (0 ≤ lo.getD 0) && decide (lo.getD 0 ≤ rows.length) && (decide (k = sz) || rows.isEmpty)
      | some h => match rows with
        | [] => decide (0 ≤ lo.getD 0) && decide (lo.getD 0 ≤ h) && decide (h ≤ 0)
        | r :: rows => match lo with
          | none => decide (0 ≤ h) && decide (h ≤ (r :: rows).length) && decide (k = sz)
          | some _ => decide (0 ≤ lo.getD 0) && decide (lo.getD 0 ≤ h) && decide (h ≤ (r :: rows).length) && decide (k = sz)
    | _ => false
  | some _ => false
theorem cSl_ok {s : St} {sz : Nat} {x : AV} {lo hi mx : Option Int} {C : Prop} {v : AV} (h : slcA s sz x lo hi mx = some (C, v)) (ho : cSl sz x lo hi mx = true) : C := by
  cases mx with
  | some m => cases ho
  | none =>
    simp only [slcA] at h
    simp only [cSl] at ho
    split at h
    · simp only [Bool.and_eq_true, decide_eq_true_eq] at ho
      split at h
      · split at h
        · simp only [Option.some.injEq, Prod.mk.injEq] at h; rw [← h.1]; exact ⟨ho.1.1, ho.1.2, ho.2⟩
        · cases h
      · cases h
    · simp only [Bool.and_eq_true, Bool.or_eq_true, decide_eq_true_eq, List.isEmpty_iff] at ho
      simp only [Option.some.injEq, Prod.mk.injEq] at h; rw [← h.1]; exact ⟨ho.1.1.1, ho.1.1.2, ho.1.2, ho.2⟩
    · cases hi with
      | none =>
        simp only [Bool.and_eq_true, Bool.or_eq_true, decide_eq_true_eq, List.isEmpty_iff] at h ho
        simp only [Option.some.injEq, Prod.mk.injEq] at h; rw [← h.1]; exact ⟨ho.1.1, ho.1.2, ho.2⟩
      | some y =>
        simp only at h ho
        split at h
        · simp only [Bool.and_eq_true, decide_eq_true_eq] at ho
          simp only [Option.some.injEq, Prod.mk.injEq] at h; rw [← h.1]; exact ⟨ho.1.1, ho.1.2, ho.2⟩
        · cases lo with
          | none =>
            simp only [Bool.and_eq_true, decide_eq_true_eq] at h ho
            simp only [Option.some.injEq, Prod.mk.injEq] at h; rw [← h.1]; exact ⟨ho.1.1, ho.1.2, ho.2⟩
          | some _ =>
            simp only [Bool.and_eq_true, decide_eq_true_eq] at h ho
            simp only [Option.some.injEq, Prod.mk.injEq] at h; rw [← h.1]; exact ⟨ho.1.1.1, ho.1.1.2, ho.1.2, ho.2⟩
    · cases h
def cSs (x : AV) (lo hi : Option Int) : Bool := match asS x with
  | some s => decide (0 ≤ lo.getD 0) && decide (lo.getD 0 ≤ hi.getD s.size) && decide (hi.getD s.size ≤ s.size)
  | none => false
theorem cSs_ok {x : AV} {lo hi : Option Int} {C : Prop} {v : AV} (h : slcsA x lo hi = some (C, v)) (ho : cSs x lo hi = true) : C := by
  unfold slcsA at h; unfold cSs at ho
  split at h
  · rename_i h1
    rw [h1] at ho
    simp only [Bool.and_eq_true, decide_eq_true_eq] at ho
    simp only [Option.some.injEq, Prod.mk.injEq] at h; rw [← h.1]; exact ⟨ho.1.1, ho.1.2, ho.2⟩
  · cases h
def cB2 (s : St) (x : AV) : Bool := match x with
  | .own id off len => match cellsOf s id with
    | some (_, _, rows) => decide (off + len ≤ rows.flatten.length)
    | none => false
  | _ => true
theorem cB2_ok {s : St} {x : AV} {C : Prop} {v : AV} (h : b2sA s x = some (C, v)) (ho : cB2 s x = true) : C := by
  unfold b2sA at h; unfold cB2 at ho
  split at h
  · split at h
    · rw [Option.map_eq_some_iff] at h
      obtain ⟨_, _, h6⟩ := h
      simp only [Prod.mk.injEq] at h6; rw [← h6.1]; trivial
    · cases h
  · split at h
    · rw [Option.map_eq_some_iff] at h
      obtain ⟨_, _, h6⟩ := h
      simp only [Prod.mk.injEq] at h6; rw [← h6.1]; trivial
    · cases h
  · simp only at ho
    split at h
    · rename_i hc
      rw [hc] at ho
      split at h
      · rw [Option.map_eq_some_iff] at h
        obtain ⟨_, _, h6⟩ := h
        simp only [Prod.mk.injEq] at h6; rw [← h6.1]; simpa using ho
      · cases h
    · cases h
  · cases h
def o2 (T : Tm) (x y : Operand) (f : AV → AV → Bool) : Bool := match opd T x, opd T y with
  | some a, some b => f a b
  | _, _ => false
def cF (s : St) (T : Tm) : FO → Bool
  | .bin op x y => o2 T x y fun a b => cB a b op
  | .bins _ x y => o2 T x y cS
  | .shf _ x y => o2 T x y fun _ b => cH b
  | .iaddr sz arr x i => match opd T x, opd T i with
    | some a, some b => cA sz arr a b
    | none, some b => cG arr b
    | _, _ => false
  | .idx sz rd n x i => o2 T x i (cX sz rd n)
  | .sidx x i => o2 T x i cSi
  | .b2s x => match opd T x with
    | some a => cB2 s a
    | none => false
  | .load _ x => match opd T x with
    | some a => cL s a
    | none => false
  | .slc sz x lo hi mx => match opd T x, optI T lo, optI T hi, optI T mx with
    | some a, some l, some h, some m => cSl sz a l h m
    | _, _, _, _ => false
  | .slcs x lo hi => match opd T x, optI T lo, optI T hi with
    | some a, some l, some h => cSs a l h
    | _, _, _ => false
  | _ => true
theorem cF_ok {s : St} {T : Tm} {o : FO} {C : Prop} {v : AV} (h : evF s T o = some (C, v)) (ho : cF s T o = true) : C := by
  have tr : ∀ {w : AV}, some (True, w) = some (C, v) → C := fun h => by simp only [Option.some.injEq, Prod.mk.injEq] at h; rw [← h.1]; trivial
  cases o with
  | bin op x y =>
    simp only [evF] at h; simp only [cF, o2] at ho
    split at h
    · rename_i h1 h2; rw [h1, h2] at ho; exact cB_ok h ho
    · cases h
  | binb op x y =>
    simp only [evF] at h
    split at h
    · exact boolA_ok h
    · cases h
  | bins op x y =>
    simp only [evF] at h; simp only [cF, o2] at ho
    split at h
    · rename_i h1 h2; rw [h1, h2] at ho; exact cS_ok h ho
    · cases h
  | shf op x y =>
    simp only [evF] at h; simp only [cF, o2] at ho
    split at h
    · rename_i h1 h2; rw [h1, h2] at ho; exact cH_ok h ho
    · cases h
  | eql neg sh x y =>
    simp only [evF] at h
    split at h
    · exact eqlA_ok h
    · cases h
  | un op x =>
    simp only [evF] at h
    split at h
    · exact unA_ok h
    · cases h
  | conv k x =>
    simp only [evF] at h
    split at h
    · exact convA_ok h
    · cases h
  | nilc x =>
    simp only [evF] at h
    split at h
    · exact nilcA_ok h
    · cases h
  | iaddr sz arr x i =>
    simp only [evF] at h; simp only [cF] at ho
    split at h
    · rename_i h1 h2; rw [h1, h2] at ho; exact cA_ok h ho
    · rename_i h1 h2; rw [h1, h2] at ho; exact cG_ok h ho
    · cases h
  | idx sz rd n x i =>
    simp only [evF] at h; simp only [cF, o2] at ho
    split at h
    · rename_i h1 h2; rw [h1, h2] at ho; exact cX_ok h ho
    · cases h
  | sidx x i =>
    simp only [evF] at h; simp only [cF, o2] at ho
    split at h
    · rename_i h1 h2; rw [h1, h2] at ho; exact cSi_ok h ho
    · cases h
  | len x =>
    simp only [evF] at h
    split at h
    · exact lenA_ok h
    · cases h
  | lens x =>
    simp only [evF] at h
    split at h
    · exact lensA_ok h
    · cases h
  | mm mx l =>
    simp only [evF] at h
    split at h
    · exact mmA_ok h
    · cases h
  | b2s x =>
    simp only [evF] at h; simp only [cF] at ho
    split at h
    · rename_i h1; rw [h1] at ho; exact cB2_ok h ho
    · cases h
  | load sz x =>
    simp only [evF] at h; simp only [cF] at ho
    split at h
    · rename_i h1; rw [h1] at ho; exact cL_ok h ho
    · cases h
  | slc sz x lo hi mx =>
    simp only [evF] at h; simp only [cF] at ho
    split at h
    · rename_i h1 h2 h3 h4; rw [h1, h2, h3, h4] at ho; exact cSl_ok h ho
    · cases h
  | slcs x lo hi =>
    simp only [evF] at h; simp only [cF] at ho
    split at h
    · rename_i h1 h2 h3; rw [h1, h2, h3] at ho; exact cSs_ok h ho
    · cases h
  | _ =>
    simp only [evF] at h
    repeat' split at h
    all_goals first | exact tr h | cases h
end X
end Go.Proofs.YtipanehdmhachaaGreatDoor.H
