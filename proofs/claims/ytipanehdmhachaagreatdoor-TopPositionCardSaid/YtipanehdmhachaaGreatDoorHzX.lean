/- The interpreter. -/
import Derived.Test.YtipanehdmhachaaGreatDoorHzE
set_option linter.unusedSimpArgs false
set_option linter.unusedVariables false
set_option linter.unusedSectionVars false
namespace Go.Proofs.YtipanehdmhachaaGreatDoor.H
variable [DR]
namespace X
/-! ### Conditions of what makes or changes blocks -/
def srcC (s : St) (k : Nat) : AV → Bool
  | .d (.lst k' rows) => decide (k' = k) || rows.isEmpty
  | .ful k' rows => decide (k' = k) || rows.isEmpty
  | .own id off len => match cellsOf s id with
    | some (_, _, rows) => decide (off + len ≤ rows.length)
    | none => false
  | _ => false
theorem srcC_ok {s : St} {k : Nat} {y : AV} {C : Prop} {l : List (List AV)} (h : srcOf s k y = some (C, l)) (ho : srcC s k y = true) : C := by
  unfold srcOf at h; unfold srcC at ho
  split at h
  · simp only [Bool.or_eq_true, decide_eq_true_eq, List.isEmpty_iff] at ho
    simp only [Option.some.injEq, Prod.mk.injEq] at h; rw [← h.1]; exact ho
  · simp only [Bool.or_eq_true, decide_eq_true_eq, List.isEmpty_iff] at ho
    simp only [Option.some.injEq, Prod.mk.injEq] at h; rw [← h.1]; exact ho
  · simp only at ho
    split at h
    · rename_i hc
      rw [hc] at ho
      simp only [decide_eq_true_eq] at ho
      split at h
      · simp only [Option.some.injEq, Prod.mk.injEq] at h; rw [← h.1]; exact ho
      · cases h
    · cases h
  · cases h
def stC (s : St) (x : AV) : Bool := match x with
  | .ptr id i _ => match cellsOf s id with
    | some (_, _, rows) => decide (i < rows.length)
    | none => false
  | _ => false
def mkC (bytes : Nat) (l c : AV) : Bool := match asI l, asI c with
  | some (_, a), some (_, b) => decide (0 ≤ a) && decide (a ≤ b) && decide ((bytes : Int) * b ≤ 281474976710656) && decide (b ≤ 9223372036854775807)
  | _, _ => false
theorem mkC_ok {s : St} {T k bytes : Nat} {z : List Value} {l c : AV} {C : Prop} {r : AV × St} (h : mksliceA s T k bytes z l c = some (C, r)) (ho : mkC bytes l c = true) : C := by
  unfold mksliceA at h; unfold mkC at ho
  split at h
  · rename_i h1 h2
    rw [h1, h2] at ho
    simp only [Bool.and_eq_true, decide_eq_true_eq] at ho
    simp only [Option.some.injEq, Prod.mk.injEq] at h; rw [← h.1]; exact ⟨ho.1.1.1, ho.1.1.2, ho.1.2, ho.2⟩
  · cases h
def apC (s : St) (k bytes : Nat) (x y : AV) : Bool := srcC s k y && match srcOf s k y with
  | some (_, ys) => match ys with
    | [] => true
    | _ :: _ => match x with
      | .ful k' rows => (decide (k' = k) || rows.isEmpty) && decide ((rows.length + ys.length) * bytes ≤ 140737488355328) && decide (rows.length + ys.length ≤ 1000000000000)
      | .own id off len => match cellsOf s id with
        | some (_, _, rows) => decide (off + len ≤ rows.length) && decide ((len + ys.length) * bytes ≤ 140737488355328) && decide (len + ys.length ≤ 1000000000000)
        | none => false
      | _ => false
  | none => false
theorem apC_ok {s : St} {T k bytes : Nat} {x y : AV} {C : Prop} {r : AV × St} (h : appendA s T k bytes x y = some (C, r)) (ho : apC s k bytes x y = true) : C := by
  unfold appendA at h; unfold apC at ho
  simp only [Bool.and_eq_true] at ho
  split at h
  · rename_i D ys hs
    have hD := srcC_ok hs ho.1
    have ho := ho.2
    rw [hs] at ho
    simp only at ho
    split at h
    · split at h
      · simp only [Option.some.injEq, Prod.mk.injEq] at h; rw [← h.1]; exact hD
      · simp only [Option.some.injEq, Prod.mk.injEq] at h; rw [← h.1]; exact hD
      · simp only [Option.some.injEq, Prod.mk.injEq] at h; rw [← h.1]; exact hD
      · cases h
    · simp only at ho
      split at h
      · simp only [Bool.and_eq_true, Bool.or_eq_true, decide_eq_true_eq, List.isEmpty_iff] at ho
        simp only [Option.some.injEq, Prod.mk.injEq] at h; rw [← h.1]; exact ⟨hD, ho.1.1, ho.1.2, ho.2⟩
      · simp only at ho
        split at h
        · rename_i hc
          rw [hc] at ho
          simp only [Bool.and_eq_true, decide_eq_true_eq] at ho
          split at h
          · simp only [Option.some.injEq, Prod.mk.injEq] at h; rw [← h.1]; exact ⟨hD, ho.1.1, ho.1.2, ho.2⟩
          · cases h
        · cases h
      · cases ho
      · cases h
  · cases h
def cK (s : St) (T : Tm) : KO → Bool
  | .store _ x _ => match opd T x with
    | some a => stC s a
    | none => false
  | .mkslice _ _ by' _ l c => o2 T l c (mkC by')
  | .append _ k by' x y => o2 T x y (apC s k by')
  | .copy .. => false
  | _ => true
theorem cK_ok {s : St} {T : Tm} {o : KO} {C : Prop} {r : AV × St} (h : evK s T o = some (C, r)) (ho : cK s T o = true) : C := by
  have tr : ∀ {w : AV × St}, some (True, w) = some (C, r) → C := fun h => by simp only [Option.some.injEq, Prod.mk.injEq] at h; rw [← h.1]; trivial
  cases o with
  | asg x =>
    simp only [evK] at h
    split at h
    · exact tr h
    · cases h
  | mkz t k n z => exact tr h
  | alloc t z => exact tr h
  | box t n x =>
    simp only [evK] at h
    split at h
    · unfold boxA at h
      split at h
      · split at h
        · exact tr h
        · cases h
      · cases h
    · cases h
  | store n x v =>
    simp only [evK] at h; simp only [cK] at ho
    split at h
    · rename_i h1 h2
      rw [h1] at ho
      unfold storeA at h
      simp only [stC] at ho
      split at h
      · simp only at ho
        split at h
        · rename_i hc
          rw [hc] at ho
          split at h
          · simp only [Option.some.injEq, Prod.mk.injEq] at h; rw [← h.1]; simpa using ho
          · cases h
        · cases h
      · cases h
    · cases h
  | bslice t k n z ps =>
    simp only [evK] at h
    split at h
    · unfold bsliceA at h
      split at h
      · split at h
        · exact tr h
        · split at h
          · exact tr h
          · cases h
      · cases h
    · cases h
  | mkslice t k b z l c =>
    simp only [evK] at h; simp only [cK, o2] at ho
    split at h
    · rename_i h1 h2; rw [h1, h2] at ho; exact mkC_ok h ho
    · cases h
  | append t k b x y =>
    simp only [evK] at h; simp only [cK, o2] at ho
    split at h
    · rename_i h1 h2; rw [h1, h2] at ho; exact apC_ok h ho
    · cases h
  | copy k x y => cases ho
  | call f as => cases h
  | callv x as => cases h
  | gen g as => cases h
/-! ### The interpreter -/
inductive Task where
  | code (c : Cd) (T : Tm) (s : St) | ins (l : List Ins) (T : Tm) (s : St) | di (l : List DI) (T : Tm) (s : St) | call (f : FuncId) (vs : List AV) (s : St)
inductive Res where
  | fl (f : Fl) (T : Tm) (s : St) | val (v : AV) (s : St)
/-- Functions told ahead: which, and their results. -/
structure Giv where
  has : FuncId → Bool
  val : FuncId → List AV → Option AV
def unD : List AV → Option (List D)
  | [] => some []
  | .d x :: l => match unD l with
    | some r => some (x :: r)
    | none => none
  | _ :: _ => none
theorem unD_ok : ∀ {l : List AV} {r : List D}, unD l = some r → l = r.map .d
  | [], r, h => by simp only [unD, Option.some.injEq] at h; subst h; rfl
  | .d x :: l, r, h => by
    simp only [unD] at h
    split at h
    · rename_i q hq
      simp only [Option.some.injEq] at h; subst h
      rw [unD_ok hq]; rfl
    · cases h
  | .ful .. :: l, r, h | .pre .. :: l, r, h | .elm .. :: l, r, h | .ptr .. :: l, r, h | .own .. :: l, r, h | .osl .. :: l, r, h | .agg .. :: l, r, h | .tup .. :: l, r, h | .fn .. :: l, r, h | .mp .. :: l, r, h => by cases h
def unR : List (List AV) → Option (List (List D))
  | [] => some []
  | x :: l => match unD x, unR l with
    | some a, some r => some (a :: r)
    | _, _ => none
theorem unR_ok : ∀ {l : List (List AV)} {r : List (List D)}, unR l = some r → l = rowsA r
  | [], r, h => by simp only [unR, Option.some.injEq] at h; subst h; rfl
  | x :: l, r, h => by
    simp only [unR] at h
    split at h
    · rename_i a q h1 h2
      simp only [Option.some.injEq] at h; subst h
      rw [unD_ok h1, unR_ok h2]; rfl
    · cases h
/-- What is lent to a function told ahead: lists of our own as lists. -/
def lendL (s : St) : List AV → Option (List AV)
  | [] => some []
  | v :: l => match lendL s l with
    | none => none
    | some r => match v with
      | .own id off len => match cellsOf s id with
        | some (_, k, rows) => match unR rows with
          | some q => if off + len ≤ q.length then some (.d (.lst k ((q.drop off).take len)) :: r) else none
          | none => none
        | none => none
      | v => if belA 0 v then some (v :: r) else none
theorem cellsOf_ok {s : St} {id T k : Nat} {rows : List (List AV)} (h : cellsOf s id = some (T, k, rows)) : s[id]? = some (some (.cells T k rows)) := by
  unfold cellsOf at h
  split at h
  · rename_i hs; simp only [Option.some.injEq, Prod.mk.injEq] at h; obtain ⟨rfl, rfl, rfl⟩ := h; exact hs
  · cases h
theorem lendL_ok {s : St} : ∀ {l r : List AV}, lendL s l = some r → Bor s l r
  | [], r, h => by simp only [lendL, Option.some.injEq] at h; subst h; exact .nil
  | v :: l, r, h => by
    unfold lendL at h
    split at h
    · cases h
    · rename_i q hq
      have ih := lendL_ok hq
      split at h
      · split at h
        · rename_i T k rows hc
          split at h
          · rename_i d hd
            split at h
            · rename_i hle
              simp only [Option.some.injEq] at h; subst h
              exact .own (by rw [cellsOf_ok hc, unR_ok hd]) hle ih
            · cases h
          · cases h
        · cases h
      · split at h
        · rename_i hb
          simp only [Option.some.injEq] at h; subst h
          exact .same hb ih
        · cases h
def nrmF : AV → AV
  | .ful k r => .d (.lst k r)
  | v => v
theorem nrmF_ok (v : AV) : Wk v (nrmF v) := by
  unfold nrmF
  split
  · exact .ful _ _
  · exact .same _
theorem nrmFs_ok : ∀ l : List AV, WkL l (l.map nrmF)
  | [] => .nil
  | v :: l => .cons (nrmF_ok v) (nrmFs_ok l)
structure GivOK (P : Program) (f : FuncId) (vs : List AV) (v : AV) : Prop where
  h : ACalls P f vs [] fun r s' => r = v
  b : scA v = true
def givS (G : Giv) (f : FuncId) (vs : List AV) (s : St) : Option AV := if G.has f then match lendL s vs with
  | some us => G.val f (us.map nrmF)
  | none => none
  else none
theorem givS_ok {P : Program} {G : Giv} (hG : ∀ f vs v, G.val f vs = some v → GivOK P f vs v) {f : FuncId} {vs : List AV} {s : St} {v : AV} (h : givS G f vs s = some v) {Q : AV → St → Prop} (hq : Q v s) : ACalls P f vs s Q := by
  unfold givS at h
  split at h
  · split at h
    · rename_i us hu
      have hw := hG _ _ _ h
      exact ACalls.lend (ACalls.weaken hw.h (nrmFs_ok us)) (lendL_ok hu) fun r s' e => by subst e; exact ⟨hw.b, hq⟩
    · cases h
  · cases h
/-! ### Operations that are told one by one -/
def genV (g : GO) (vs : List AV) : Option AV := match g, vs with
  | .s2b _, [.d (.v (.string x))] => some (.d (.lst 1 (x.data.toList.map byR)))
  | .cap, [.ful _ rows] => some (AI .i64 rows.length)
  | .nili b, [.d (.v .nilIface)] => some (AB (!b))
  | .nils b, [.own ..] => some (AB b)
  | .nils b, [.ful _ (_ :: _)] => some (AB b)
  | .nils b, [.d (.lst _ (_ :: _))] => some (AB b)
  | _, _ => none
theorem genV_ok {P : Program} {g : GO} {as : List Operand} {vs : List AV} {s : St} {v : AV} {Q : AV → St → Prop} (h : genV g vs = some v) (hq : Q v s) : AOp P g as vs s Q := by
  unfold genV at h
  split at h
  · simp only [Option.some.injEq] at h; subst h; exact AOp.s2b hq
  · simp only [Option.some.injEq] at h; subst h; exact AOp.cap hq
  · simp only [Option.some.injEq] at h; subst h; exact AOp.nili hq
  · simp only [Option.some.injEq] at h; subst h; exact AOp.nilsO hq
  · simp only [Option.some.injEq] at h; subst h
    exact AOp.nils (.inl rfl) fun c hc => by have := hc (by simp); subst this; rename_i b _ _ _; cases b <;> exact hq
  · simp only [Option.some.injEq] at h; subst h
    exact AOp.nils (.inr rfl) fun c hc => by have := hc (by simp); subst this; rename_i b _ _ _; cases b <;> exact hq
  · cases h
def byOf : List (List D) → Option (List UInt8)
  | [] => some []
  | [.v (.int .u8 z)] :: l => if 0 ≤ z ∧ z < 256 then match byOf l with
      | some r => some (UInt8.ofNat z.toNat :: r)
      | none => none
    else none
  | _ :: _ => none
theorem byOf_ok : ∀ {l : List (List D)} {r : List UInt8}, byOf l = some r → l = r.map byR
  | [], r, h => by simp only [byOf, Option.some.injEq] at h; subst h; rfl
  | x :: l, r, h => by
    unfold byOf at h
    split at h
    · rename_i e; cases e
    · rename_i z l' e
      simp only [List.cons.injEq] at e
      obtain ⟨rfl, rfl⟩ := e
      split at h
      · rename_i hz
        split at h
        · rename_i q hq
          simp only [Option.some.injEq] at h; subst h
          rw [List.map_cons, ← byOf_ok hq]
          have : ((UInt8.ofNat z.toNat).toNat : Int) = z := by
            have h1 : (UInt8.ofNat z.toNat).toNat = z.toNat % 2 ^ 8 := UInt8.toNat_ofNat' ..
            rw [h1]; omega
          unfold byR
          rw [this]
        · cases h
      · cases h
    · cases h
def b2sV (s : St) (x : AV) : Option AV := match x with
  | .ful 1 rows => match byOf rows with
    | some (b :: bs) => some (.d (.v (.string ⟨(b :: bs).toArray⟩)))
    | _ => none
  | .d (.lst 1 rows) => match byOf rows with
    | some (b :: bs) => some (.d (.v (.string ⟨(b :: bs).toArray⟩)))
    | _ => none
  | .own id off len => match cellsOf s id with
    | some (_, 1, rows) => match unR rows with
      | some q => if off + len ≤ q.length then match byOf ((q.drop off).take len) with
          | some (b :: bs) => some (.d (.v (.string ⟨(b :: bs).toArray⟩)))
          | _ => none
        else none
      | none => none
    | _ => none
  | _ => none
theorem b2sV_ok {P : Program} {as : List Operand} {x : AV} {s : St} {v : AV} {Q : AV → St → Prop} (h : b2sV s x = some v) (hq : Q v s) : AOp P .b2s as [x] s Q := by
  unfold b2sV at h
  split at h
  · split at h
    · rename_i hb
      simp only [Option.some.injEq] at h; subst h
      exact AOp.b2s (by simp) (.inl (by rw [byOf_ok hb])) hq
    · cases h
  · split at h
    · rename_i hb
      simp only [Option.some.injEq] at h; subst h
      exact AOp.b2s (by simp) (.inr (by rw [byOf_ok hb])) hq
    · cases h
  · split at h
    · rename_i hc
      split at h
      · rename_i hu
        split at h
        · rename_i hle
          split at h
          · rename_i hb
            simp only [Option.some.injEq] at h; subst h
            exact AOp.b2sO (by rw [cellsOf_ok hc, unR_ok hu]) hle (byOf_ok hb) (by simp) hq
          · cases h
        · cases h
      · cases h
    · cases h
  · cases h
def val1 (P : Program) (ih : Task → Option Res) (T : Tm) (s : St) : Ins → Option (AV × St)
  | .f _ _ o => match evF s T o with
    | some (_, v) => if cF s T o then some (v, s) else none
    | none => none
  | .k _ _ (.call f as) => match opdL T as with
    | some vs => match ih (.call f vs s) with
      | some (.val v s') => some (v, s')
      | _ => none
    | none => none
  | .k _ _ (.callv x as) => match opd T x, opdL T as with
    | some (.fn f a c), some vs => if BodyOK P f then match ih (.call f (a ++ vs ++ c) s) with
        | some (.val v s') => some (v, s')
        | _ => none
      else none
    | _, _ => none
  | .k _ _ (.gen .b2s as) => match opdL T as with
    | some [x] => match b2sV s x with
      | some v => some (v, s)
      | none => none
    | _ => none
  | .k _ _ (.gen g as) => match opdL T as with
    | some vs => match genV g vs with
      | some v => some (v, s)
      | none => none
    | none => none
  | .k _ _ o => match evK s T o with
    | some (_, v, s') => if cK s T o then some (v, s') else none
    | none => none
def cI (s : St) (T : Tm) : Ins → Bool
  | .f _ _ o => cF s T o
  | .k .. => true
def eqC : AV → AV → Bool
  | .ptr a b c, .ptr d e f => decide (a = d) && decide (b = e) && decide (c = f)
  | .own a b c, .own d e f => decide (a = d) && decide (b = e) && decide (c = f)
  | x, y => eqA x y
theorem eqC_ok {x y : AV} (h : eqC x y = true) : x = y := by
  unfold eqC at h
  split at h
  · simp only [Bool.and_eq_true, decide_eq_true_eq] at h; obtain ⟨⟨rfl, rfl⟩, rfl⟩ := h; rfl
  · simp only [Bool.and_eq_true, decide_eq_true_eq] at h; obtain ⟨⟨rfl, rfl⟩, rfl⟩ := h; rfl
  · exact eqA_ok h
def eqCs : List AV → List AV → Bool
  | [], [] => true
  | a :: r, b :: q => eqC a b && eqCs r q
  | _, _ => false
theorem eqCs_ok : ∀ {x y : List AV}, eqCs x y = true → x = y
  | [], [], _ => rfl
  | a :: r, b :: q, h => by
    simp only [eqCs, Bool.and_eq_true] at h
    rw [eqC_ok h.1, eqCs_ok h.2]
  | [], _ :: _, h => by simp [eqCs] at h
  | _ :: _, [], h => by simp [eqCs] at h
def eqCr : List (List AV) → List (List AV) → Bool
  | [], [] => true
  | a :: r, b :: q => eqCs a b && eqCr r q
  | _, _ => false
theorem eqCr_ok : ∀ {x y : List (List AV)}, eqCr x y = true → x = y
  | [], [], _ => rfl
  | a :: r, b :: q, h => by
    simp only [eqCr, Bool.and_eq_true] at h
    rw [eqCs_ok h.1, eqCr_ok h.2]
  | [], _ :: _, h => by simp [eqCr] at h
  | _ :: _, [], h => by simp [eqCr] at h
def eqB (s s' : St) (id : Nat) : Bool := match cellsOf s id, cellsOf s' id with
  | some (T, k, r), some (T', k', r') => decide (T = T') && decide (k = k') && eqCr r r'
  | none, none => true
  | _, _ => false
theorem eqB_ok {s s' : St} {id : Nat} (h : eqB s s' id = true) : cellsOf s' id = cellsOf s id := by
  unfold eqB at h
  split at h
  · rename_i h1 h2
    simp only [Bool.and_eq_true, decide_eq_true_eq] at h
    obtain ⟨⟨rfl, rfl⟩, h⟩ := h
    rw [h1, h2, eqCr_ok h]
  · rename_i h1 h2; rw [h1, h2]
  · cases h
/-- A float's value does not change from one memory to the other. -/
def stF (s s' : St) (T : Tm) : Ins → Bool
  | .f _ _ (.load _ x) => match opd T x with
    | some (.ptr id _ _) => eqB s s' id
    | _ => true
  | .f _ _ (.iaddr _ none x _) => match opd T x with
    | some (.own id _ _) => eqB s s' id
    | _ => true
  | .f _ _ (.b2s x) => match opd T x with
    | some (.own id _ _) => eqB s s' id
    | _ => true
  | i => !usesS i
theorem stF_ok {s s' : St} {T : Tm} {i : Ins} (h : stF s s' T i = true) : floatV s' T i = floatV s T i := by
  unfold stF at h
  split at h
  · rename_i d g sz x
    simp only [floatV, evF]
    cases hx : opd T x with
    | none => rfl
    | some v =>
      rw [hx] at h
      cases v <;> simp only [loadA]
      simp only at h
      rw [eqB_ok h]
  · rename_i d g sz x i
    simp only [floatV, evF]
    cases hx : opd T x with
    | none => cases opd T i <;> rfl
    | some v =>
      rw [hx] at h
      cases hi : opd T i with
      | none => rfl
      | some u =>
        simp only [iaddrA]
        cases asI u with
        | none => rfl
        | some q =>
          obtain ⟨kk, z⟩ := q
          cases v with
          | own id off len =>
            simp only at h
            simp only [eqB_ok h]
          | d x => cases x <;> rfl
          | _ => rfl
  · rename_i d g x
    simp only [floatV, evF]
    cases hx : opd T x with
    | none => rfl
    | some v =>
      rw [hx] at h
      cases v with
      | own id off len =>
        simp only at h
        simp only [b2sA, eqB_ok h]
      | d x => cases x <;> rfl
      | _ => rfl
  · simp only [Bool.not_eq_true'] at h
    exact floatV_pure h s' s T
def keeps (s s' : St) (T : Tm) (st : List Ins) : Bool := st.all (stF s s' T)
/-! ### An own block that a cell alone holds is given up to a list, ahead of a region of draws -/
def unL : List AV → Option (List D)
  | [] => some []
  | .d x :: l => match unL l with
    | some r => some (x :: r)
    | none => none
  | _ :: _ => none
theorem unL_ok : ∀ {l : List AV} {r : List D}, unL l = some r → l = r.map .d
  | [], r, h => by simp only [unL, Option.some.injEq] at h; subst h; rfl
  | v :: l, r, h => by
    cases v <;> simp only [unL, reduceCtorEq] at h
    split at h
    · rename_i q hq
      simp only [Option.some.injEq] at h; subst h
      rw [List.map_cons, ← unL_ok hq]
    · cases h
def unRr : List (List AV) → Option (List (List D))
  | [] => some []
  | a :: l => match unL a, unRr l with
    | some x, some r => some (x :: r)
    | _, _ => none
theorem unRr_ok : ∀ {l : List (List AV)} {r : List (List D)}, unRr l = some r → l = rowsA r
  | [], r, h => by simp only [unRr, Option.some.injEq] at h; subst h; rfl
  | a :: l, r, h => by
    simp only [unRr] at h
    split at h
    · rename_i x q h1 h2
      simp only [Option.some.injEq] at h; subst h
      rw [unL_ok h1, unRr_ok h2]; rfl
    · cases h
mutual
def fA (id n : Nat) : AV → Bool
  | .own j off len => !decide (j = id) || decide (off + len ≤ n)
  | .agg l => fL id n l
  | .tup l => fL id n l
  | .fn _ a c => fL id n a && fL id n c
  | _ => true
def fL (id n : Nat) : List AV → Bool
  | [] => true
  | v :: l => fA id n v && fL id n l
end
mutual
theorem fA_ok {id n : Nat} : ∀ {v : AV}, fA id n v = true → fitA id n v
  | .own j off len, h => by
    simp only [fA, Bool.or_eq_true, Bool.not_eq_true', decide_eq_false_iff_not, decide_eq_true_eq] at h
    simp only [fitA]
    exact fun e => h.resolve_left fun hn => hn e
  | .agg l, h => by simp only [fA] at h; simp only [fitA]; exact fL_ok h
  | .tup l, h => by simp only [fA] at h; simp only [fitA]; exact fL_ok h
  | .fn _ a c, h => by
    simp only [fA, Bool.and_eq_true] at h
    simp only [fitA]
    exact ⟨fL_ok h.1, fL_ok h.2⟩
  | .d _, _ => by simp only [fitA]
  | .ful .., _ => by simp only [fitA]
  | .pre .., _ => by simp only [fitA]
  | .elm .., _ => by simp only [fitA]
  | .ptr .., _ => by simp only [fitA]
  | .osl .., _ => by simp only [fitA]
  | .mp .., _ => by simp only [fitA]
theorem fL_ok {id n : Nat} : ∀ {l : List AV}, fL id n l = true → fitL id n l
  | [], _ => by simp only [fitL]
  | v :: l, h => by
    simp only [fL, Bool.and_eq_true] at h
    simp only [fitL]
    exact ⟨fA_ok h.1, fL_ok h.2⟩
end
def fB (id n : Nat) : Option Blk → Bool
  | some (.cells _ _ rs) => rs.all (fL id n)
  | _ => true
theorem fB_ok {id n : Nat} {b : Blk} (h : fB id n (some b) = true) : fitB id n b := by
  cases b with
  | cells t k rs => exact fun r hr => fL_ok (List.all_eq_true.1 h r hr)
  | _ => trivial
def frzS (id k : Nat) (rows : List (List D)) : Nat → St → St
  | _, [] => []
  | i, none :: l => none :: frzS id k rows (i + 1) l
  | i, some b :: l => (if i = id then none else some (frzB id k rows b)) :: frzS id k rows (i + 1) l
theorem frzS_len {id k : Nat} {rows : List (List D)} : ∀ {s : St} {m : Nat}, (frzS id k rows m s).length = s.length
  | [], _ => rfl
  | none :: l, m => by simp only [frzS, List.length_cons, frzS_len (s := l)]
  | some b :: l, m => by simp only [frzS, List.length_cons, frzS_len (s := l)]
theorem frzS_get {id k : Nat} {rows : List (List D)} : ∀ {s : St} {m i : Nat} {b' : Blk}, (frzS id k rows m s)[i]? = some (some b') → m + i ≠ id ∧ ∃ b, s[i]? = some (some b) ∧ b' = frzB id k rows b
  | [], m, i, b', h => by simp [frzS] at h
  | none :: l, m, 0, b', h => by simp [frzS] at h
  | none :: l, m, i + 1, b', h => by
    have := frzS_get (s := l) (m := m + 1) (i := i) (by simpa [frzS] using h)
    rw [Nat.add_assoc, Nat.add_comm 1 i] at this
    simpa using this
  | some b :: l, m, 0, b', h => by
    simp only [frzS, List.getElem?_cons_zero, Option.some.injEq] at h
    split at h
    · cases h
    · rename_i hne
      simp only [Option.some.injEq] at h
      exact ⟨hne, b, rfl, h.symm⟩
  | some b :: l, m, i + 1, b', h => by
    have := frzS_get (s := l) (m := m + 1) (i := i) (by simpa [frzS] using h)
    rw [Nat.add_assoc, Nat.add_comm 1 i] at this
    simpa using this
theorem tget_map {f : AV → AV} : ∀ {T : Tm} {i : Nat} {v' : AV}, tget (T.map fun p => (p.1, f p.2)) i = some v' → ∃ v, tget T i = some v ∧ v' = f v
  | [], i, v', h => by cases h
  | (j, u) :: l, i, v', h => by
    simp only [List.map_cons, tget] at h
    by_cases e : j = i
    · subst e
      simp only [tget, beq_self_eq_true, cond_true, Option.some.injEq] at h ⊢
      exact ⟨u, rfl, h.symm⟩
    · simp only [beqN e, cond_false] at h
      simp only [tget, beqN e, cond_false]
      exact tget_map h
theorem tget_memP : ∀ {T : Tm} {i : Nat} {v : AV}, tget T i = some v → (i, v) ∈ T
  | [], i, v, h => by cases h
  | (j, u) :: l, i, v, h => by
    simp only [tget] at h
    by_cases e : j = i
    · subst e
      simp only [beq_self_eq_true, cond_true, Option.some.injEq] at h
      subst h; exact List.mem_cons_self
    · simp only [beqN e, cond_false] at h
      exact List.mem_cons_of_mem _ (tget_memP h)
def cand (s : St) : St → Option Nat
  | [] => none
  | b :: l => match b with
    | some (.cells _ _ [[.own id _ _]]) => (match s[id]? with
      | some (some (.cells _ _ rs)) => (match unRr rs with
        | some _ => some id
        | none => cand s l)
      | _ => cand s l)
    | _ => cand s l
def frzTry (T : Tm) (s : St) : Option (Tm × St) := match cand s s with
  | some id => match s[id]? with
    | some (some (.cells _ k rs)) => match unRr rs with
      | some rows => if (T.all fun p => fA id rows.length p.2) && s.all (fB id rows.length) then some (T.map fun p => (p.1, frzA id k rows p.2), frzS id k rows 0 s) else none
      | none => none
    | _ => none
  | none => none
theorem frzTry_ok {P : Program} {N m : Nat} {c : Cd} {T T1 : Tm} {s s1 : St} {Q : Fl → Tm → St → Prop} (h : frzTry T s = some (T1, s1)) (k : AW P N m c T1 s1 Q) : AW P N m c T s Q := by
  unfold frzTry at h
  split at h
  · rename_i id _
    split at h
    · rename_i t kk rs hid
      split at h
      · rename_i rows hr
        split at h
        · rename_i hc
          simp only [Bool.and_eq_true] at hc
          simp only [Option.some.injEq, Prod.mk.injEq] at h; obtain ⟨rfl, rfl⟩ := h
          rw [unRr_ok hr] at hid
          refine AW.freezeB hid k frzS_len (fun i v' hv => ?_) (fun i b' hb => ?_)
          · obtain ⟨v, h1, h2⟩ := tget_map hv
            exact ⟨v, h1, h2, fA_ok (List.all_eq_true.1 hc.1 (i, v) (tget_memP h1))⟩
          · obtain ⟨h1, b, h2, h3⟩ := frzS_get hb
            rw [Nat.zero_add] at h1
            exact ⟨h1, b, h2, h3, fB_ok (List.all_eq_true.1 hc.2 (some b) (List.mem_of_getElem? h2))⟩
        · cases h
      · cases h
    · cases h
  · cases h
def step (P : Program) (G : Giv) (ih : Task → Option Res) : Task → Option Res
  | .code c T s => match c with
    | .bad => none
    | .skip => some (.fl .normal T s)
    | .ops l => ih (.ins l T s)
    | .opd l => match frzTry T s with
      | some (T1, s1) => ih (.code (.opd l) T1 s1)
      | none => ih (.di l T s)
    | .seq a b => match ih (.code a T s) with
      | some (.fl .normal T' s') => ih (.code b T' s')
      | some (.fl .ret T' s') => some (.fl .ret T' s')
      | some (.fl (.exit j) T' s') => some (.fl (.exit j) T' s')
      | _ => none
    | .cond x a b => match opd T x with
      | some v => match asB v with
        | some true => ih (.code a T s)
        | some false => ih (.code b T s)
        | none => none
      | none => none
    | .block id a => match ih (.code a T s) with
      | some (.fl (.exit j) T' s') => if j = id then some (.fl .normal T' s') else some (.fl (.exit j) T' s')
      | some (.fl .normal T' s') => some (.fl .normal T' s')
      | some (.fl .ret T' s') => some (.fl .ret T' s')
      | _ => none
    | .loop a => match ih (.code a T s) with
      | some (.fl .normal T' s') => ih (.code (.loop a) T' s')
      | some (.fl .ret T' s') => some (.fl .ret T' s')
      | some (.fl (.exit j) T' s') => some (.fl (.exit j) T' s')
      | _ => none
    | .exit id => some (.fl (.exit id) T s)
    | .ret => some (.fl .ret T s)
  | .ins l T s => match l with
    | [] => some (.fl .normal T s)
    | i :: l => match gate T i.g with
      | some true => match val1 P ih T s i with
        | some (v, s') => ih (.ins l (tput i.d v T) s')
        | none => none
      | some false => ih (.ins l (tput i.d (.tup []) T) s)
      | none => none
  | .di l T s => match l with
    | [] => some (.fl .normal T s)
    | x :: l => match gate T x.n.g with
      | some true => if isFl x.n then match floatV s T x.n with
          | some (_, v) => if cI s T x.n then ih (.di l (tput x.n.d v T) s) else none
          | none => none
        else match val1 P ih T s x.n with
          | some (v, s') => if keeps s s' T x.st then ih (.di l (tput x.n.d v T) s') else none
          | none => none
      | some false => ih (.di l (tput x.n.d (.tup []) T) s)
      | none => none
  | .call f vs s => match givS G f vs s with
    | some v => some (.val v s)
    | none => match fnC P f with
      | some (N, c, rs) => if vs.length ≤ N then match ih (.code c (argT 0 vs) s) with
          | some (.fl fl T' s') => (match fl with
            | .exit _ => none
            | _ => match resL T' s' rs with
              | some (_, l) => if rs.all (fun r => match r with | .tmp _ => true | .cell t _ => match tget T' t with | some a => stC s' a | none => false) then some (.val (pack l) s') else none
              | none => none)
          | _ => none
        else none
      | none => none
def exec (P : Program) (G : Giv) (n : Nat) : Task → Option Res := Nat.rec (fun _ => none) (fun _ ih => step P G ih) n
/-! ### What it tells -/
def Ok (P : Program) : Task → Res → Prop
  | .code c T s, .fl fl T' s' => ∀ N m Q, Q fl T' s' → AW P N m c T s Q
  | .ins l T s, .fl fl T' s' => ∀ Q : Tm → St → Prop, fl = .normal ∧ (Q T' s' → RunI P l T s Q)
  | .di l T s, .fl fl T' s' => ∀ Q : Tm → St → Prop, fl = .normal ∧ (Q T' s' → RunD P l T s Q)
  | .call f vs s, .val v s' => ∀ Q, Q v s' → ACalls P f vs s Q
  | _, _ => False
theorem val1_ok {P : Program} {ih : Task → Option Res} (hih : ∀ t r, ih t = some r → Ok P t r) {T : Tm} {s : St} {i : Ins} {v : AV} {s' : St} (h : val1 P ih T s i = some (v, s')) {k : AV → St → Prop} (hk : k v s') : StepV P T s i k := by
  cases i with
  | f d g o =>
    simp only [val1] at h
    split at h
    · rename_i C w he
      split at h
      · rename_i hc
        simp only [Option.some.injEq, Prod.mk.injEq] at h; obtain ⟨rfl, rfl⟩ := h
        simp only [StepV, he]
        exact ⟨cF_ok he hc, hk⟩
      · cases h
    · cases h
  | k d g o =>
    cases o with
    | call f as =>
      simp only [val1] at h
      split at h
      · rename_i vs hv
        split at h
        · rename_i w s1 hr
          simp only [Option.some.injEq, Prod.mk.injEq] at h; obtain ⟨rfl, rfl⟩ := h
          simp only [StepV, hv]
          exact hih _ _ hr k hk
        · cases h
      · cases h
    | callv x as =>
      simp only [val1] at h
      split at h
      · rename_i f a c vs h1 h2
        split at h
        · rename_i hb
          split at h
          · rename_i w s1 hr
            simp only [Option.some.injEq, Prod.mk.injEq] at h; obtain ⟨rfl, rfl⟩ := h
            simp only [StepV, h1, h2]
            exact ⟨hb, hih _ _ hr k hk⟩
          · cases h
        · cases h
      · cases h
    | gen g' as =>
      have nb : g' ≠ .b2s → StepV P T s (.k d g (.gen g' as)) k := fun hne => by
        have h' : (match opdL T as with | some vs => (match genV g' vs with | some v => some (v, s) | none => none) | none => none) = some (v, s') := by
          cases g' <;> first | exact h | exact absurd rfl hne
        split at h'
        · rename_i vs hv
          split at h'
          · rename_i w hg
            simp only [Option.some.injEq, Prod.mk.injEq] at h'; obtain ⟨rfl, rfl⟩ := h'
            simp only [StepV, hv]
            exact genV_ok hg hk
          · cases h'
        · cases h'
      by_cases hb : g' = .b2s
      · subst hb
        simp only [val1] at h
        split at h
        · rename_i x hv
          split at h
          · rename_i w hg
            simp only [Option.some.injEq, Prod.mk.injEq] at h; obtain ⟨rfl, rfl⟩ := h
            simp only [StepV, hv]
            exact b2sV_ok hg hk
          · cases h
        · cases h
      · exact nb hb
    | _ =>
      simp only [val1] at h
      split at h
      · rename_i C w s1 he
        split at h
        · rename_i hc
          simp only [Option.some.injEq, Prod.mk.injEq] at h; obtain ⟨rfl, rfl⟩ := h
          simp only [StepV, he]
          exact ⟨cK_ok he hc, hk⟩
        · cases h
      · cases h
theorem cI_ok {s : St} {T : Tm} {i : Ins} {C : Prop} {v : AV} (hv : floatV s T i = some (C, v)) (hc : cI s T i = true) : C := by
  cases i with
  | f d g o => exact cF_ok hv hc
  | k d g o =>
    cases o with
    | bslice t k n z ps =>
      simp only [floatV] at hv
      repeat' split at hv
      all_goals first | (simp only [Option.some.injEq, Prod.mk.injEq] at hv; rw [← hv.1]; trivial) | cases hv
    | _ => cases hv
theorem keeps_ok {s s' : St} {T : Tm} {st : List Ins} (h : keeps s s' T st = true) : allP (fun f => floatV s' T f = floatV s T f) st := by
  unfold keeps at h
  induction st with
  | nil => trivial
  | cons f l ih =>
    simp only [List.all_cons, Bool.and_eq_true] at h
    exact ⟨stF_ok h.1, ih h.2⟩
theorem resL_ok' {T : Tm} {s : St} : ∀ {rs : List RC} {C : Prop} {l : List AV}, resL T s rs = some (C, l) → (rs.all (fun r => match r with | .tmp _ => true | .cell t _ => match tget T t with | some a => stC s a | none => false)) = true → C
  | [], C, l, h, _ => by simp only [resL, Option.some.injEq, Prod.mk.injEq] at h; rw [← h.1]; trivial
  | x :: rs, C, l, h, ho => by
    simp only [List.all_cons, Bool.and_eq_true] at ho
    simp only [resL] at h
    split at h
    · rename_i D v E r h1 h2
      simp only [Option.some.injEq, Prod.mk.injEq] at h; rw [← h.1]
      refine ⟨?_, resL_ok' h2 ho.2⟩
      have ho := ho.1
      cases x with
      | tmp t =>
        simp only [resV] at h1
        split at h1
        · simp only [Option.some.injEq, Prod.mk.injEq] at h1; rw [← h1.1]; trivial
        · cases h1
      | cell t sz =>
        simp only [resV] at h1
        split at h1
        · rename_i id i off ht
          simp only [ht] at ho
          have e : cL s (.ptr id i off) = stC s (.ptr id i off) := rfl
          exact cL_ok h1 (e.trans ho)
        · cases h1
    · cases h
theorem exec_ok {P : Program} {G : Giv} (hG : ∀ f vs v, G.val f vs = some v → GivOK P f vs v) : ∀ n t r, exec P G n t = some r → Ok P t r := by
  intro n
  induction n using Nat.strongRecOn with
  | ind n IH =>
    intro t r h
    cases n with
    | zero => cases h
    | succ n =>
      have hih : ∀ t r, exec P G n t = some r → Ok P t r := IH n (Nat.lt_succ_self n)
      have h0 := h
      replace h : step P G (exec P G n) t = some r := h
      cases t with
      | code c T s =>
        cases c with
        | bad => cases h
        | skip => simp only [step, Option.some.injEq] at h; subst h; exact fun N m Q hq => AW.skip hq
        | ops l =>
          simp only [step] at h
          have := hih _ _ h
          cases r with
          | val => exact this.elim
          | fl fl T' s' =>
            intro N m Q hq
            obtain ⟨rfl, k⟩ := this (Q .normal)
            exact AW.ops (k hq)
        | opd l =>
          simp only [step] at h
          split at h
          · rename_i T1 s1 hf
            have k := hih _ _ h
            cases r with
            | val => exact k.elim
            | fl fl T' s' => exact fun N m Q hq => frzTry_ok hf (k N m Q hq)
          · have := hih _ _ h
            cases r with
            | val => exact this.elim
            | fl fl T' s' =>
              intro N m Q hq
              obtain ⟨rfl, k⟩ := this (Q .normal)
              exact AW.draw (k hq)
        | seq a b =>
          simp only [step] at h
          split at h
          · rename_i T1 s1 h1
            have k1 := hih _ _ h1
            have k2 := hih _ _ h
            cases r with
            | val => exact k2.elim
            | fl fl T' s' => exact fun N m Q hq => AW.seq' (k1 N m _ (k2 N m Q hq))
          · rename_i T1 s1 h1
            simp only [Option.some.injEq] at h; subst h
            exact fun N m Q hq => AW.seq' (hih _ _ h1 N m _ hq)
          · rename_i j T1 s1 h1
            simp only [Option.some.injEq] at h; subst h
            exact fun N m Q hq => AW.seq' (hih _ _ h1 N m _ hq)
          · cases h
        | cond x a b =>
          simp only [step] at h
          split at h
          · rename_i v hv
            split at h
            · rename_i hb
              have k := hih _ _ h
              cases r with
              | val => exact k.elim
              | fl fl T' s' => exact fun N m Q hq => AW.cond hv hb (fun _ => k N m Q hq) (fun e => by cases e)
            · rename_i hb
              have k := hih _ _ h
              cases r with
              | val => exact k.elim
              | fl fl T' s' => exact fun N m Q hq => AW.cond hv hb (fun e => by cases e) (fun _ => k N m Q hq)
            · cases h
          · cases h
        | block id a =>
          simp only [step] at h
          split at h
          · rename_i j T1 s1 h1
            split at h
            · rename_i hj
              simp only [Option.some.injEq] at h; subst h
              exact fun N m Q hq => AW.block (hih _ _ h1 N m _ (by simp only [blockQ]; rw [if_pos hj]; exact hq))
            · rename_i hj
              simp only [Option.some.injEq] at h; subst h
              exact fun N m Q hq => AW.block (hih _ _ h1 N m _ (by simp only [blockQ]; rw [if_neg hj]; exact hq))
          · rename_i T1 s1 h1
            simp only [Option.some.injEq] at h; subst h
            exact fun N m Q hq => AW.block (hih _ _ h1 N m _ hq)
          · rename_i T1 s1 h1
            simp only [Option.some.injEq] at h; subst h
            exact fun N m Q hq => AW.block (hih _ _ h1 N m _ hq)
          · cases h
        | loop a =>
          cases r with
          | val v s' =>
            simp only [step] at h
            split at h
            · rename_i T1 s1 h1; exact (hih _ _ h).elim
            · cases h
            · cases h
            · cases h
          | fl fl T' s' =>
            intro N m Q hq
            refine AW.loop (fun k T s => k ≤ n + 1 ∧ exec P G k (.code (.loop a) T s) = some (.fl fl T' s')) (n + 1) ⟨Nat.le_refl _, h0⟩ fun k T1 s1 ⟨hk, he⟩ => ?_
            cases k with
            | zero => cases he
            | succ k =>
              replace he : step P G (exec P G k) (.code (.loop a) T1 s1) = some (.fl fl T' s') := he
              have hik := IH k (by omega)
              simp only [step] at he
              split at he
              · rename_i T2 s2 h1
                exact hik _ _ h1 N m _ ⟨k, by omega, by omega, he⟩
              · rename_i T2 s2 h1
                simp only [Option.some.injEq, Res.fl.injEq] at he; obtain ⟨rfl, rfl, rfl⟩ := he
                exact hik _ _ h1 N m _ hq
              · rename_i j T2 s2 h1
                simp only [Option.some.injEq, Res.fl.injEq] at he; obtain ⟨rfl, rfl, rfl⟩ := he
                exact hik _ _ h1 N m _ hq
              · cases he
        | exit id => simp only [step, Option.some.injEq] at h; subst h; exact fun N m Q hq => AW.exit hq
        | ret => simp only [step, Option.some.injEq] at h; subst h; exact fun N m Q hq => AW.ret hq
      | ins l T s =>
        cases l with
        | nil => simp only [step, Option.some.injEq] at h; subst h; exact fun Q => ⟨rfl, fun hq => hq⟩
        | cons i l =>
          simp only [step] at h
          split at h
          · rename_i hg
            split at h
            · rename_i v s1 hv
              have k := hih _ _ h
              cases r with
              | val => exact k.elim
              | fl fl T' s' =>
                intro Q
                obtain ⟨e, kk⟩ := k Q
                refine ⟨e, fun hq => ?_⟩
                unfold RunI Step
                rw [hg]
                exact val1_ok hih hv (kk hq)
            · cases h
          · rename_i hg
            have k := hih _ _ h
            cases r with
            | val => exact k.elim
            | fl fl T' s' =>
              intro Q
              obtain ⟨e, kk⟩ := k Q
              refine ⟨e, fun hq => ?_⟩
              unfold RunI Step
              rw [hg]
              exact kk hq
          · cases h
      | di l T s =>
        cases l with
        | nil => simp only [step, Option.some.injEq] at h; subst h; exact fun Q => ⟨rfl, fun hq => hq⟩
        | cons x l =>
          simp only [step] at h
          cases hg : gate T x.n.g with
          | none => rw [hg] at h; cases h
          | some b =>
            rw [hg] at h
            have fin : ∀ {T1 : Tm} {s1 : St}, exec P G n (.di l T1 s1) = some r → (∀ Q : Tm → St → Prop, RunD P l T1 s1 Q → RunD P (x :: l) T s Q) → Ok P (.di (x :: l) T s) r := fun hx hy => by
              have k := hih _ _ hx
              cases r with
              | val => exact k.elim
              | fl fl T' s' => exact fun Q => ⟨(k Q).1, fun hq => hy Q ((k Q).2 hq)⟩
            cases b with
            | false =>
              simp only at h
              refine fin h fun Q hq => ?_
              unfold RunD StepD
              rw [hg]
              exact hq
            | true =>
              simp only at h
              cases hf : isFl x.n with
              | true =>
                simp only [hf, if_true] at h
                cases hv : floatV s T x.n with
                | none => rw [hv] at h; cases h
                | some q =>
                  obtain ⟨C, v⟩ := q
                  rw [hv] at h
                  simp only at h
                  by_cases hc : cI s T x.n = true
                  · rw [if_pos hc] at h
                    refine fin h fun Q hq => ?_
                    unfold RunD StepD
                    rw [hg]
                    simp only [hf, if_true, hv]
                    exact ⟨cI_ok hv hc, hq⟩
                  · rw [if_neg hc] at h; cases h
              | false =>
                simp only [hf, Bool.false_eq_true, if_false] at h
                cases hv : val1 P (exec P G n) T s x.n with
                | none => rw [hv] at h; cases h
                | some q =>
                  obtain ⟨v, s1⟩ := q
                  rw [hv] at h
                  simp only at h
                  cases hk : keeps s s1 T x.st with
                  | false => rw [hk] at h; simp at h
                  | true =>
                    rw [hk] at h
                    simp only [if_true] at h
                    refine fin h fun Q hq => ?_
                    unfold RunD StepD
                    rw [hg]
                    simp only [hf, Bool.false_eq_true, if_false]
                    exact val1_ok hih hv ⟨keeps_ok hk, hq⟩
      | call f vs s =>
        simp only [step] at h
        split at h
        · rename_i v hv
          simp only [Option.some.injEq] at h; subst h
          exact fun Q hq => givS_ok hG hv hq
        · split at h
          · rename_i N c rs hf
            split at h
            · rename_i hN
              split at h
              · rename_i fl T' s' h1
                have k := hih _ _ h1
                cases fl with
                | exit j => cases h
                | normal =>
                  simp only at h
                  split at h
                  · rename_i C l hl
                    split at h
                    · rename_i hc
                      simp only [Option.some.injEq] at h; subst h
                      intro Q hq
                      refine ACalls.of (FnOK.of hf) hN (k N _ _ ?_)
                      simp only [callQ, RetQ, hl]
                      exact ⟨resL_ok' hl hc, hq⟩
                    · cases h
                  · cases h
                | ret =>
                  simp only at h
                  split at h
                  · rename_i C l hl
                    split at h
                    · rename_i hc
                      simp only [Option.some.injEq] at h; subst h
                      intro Q hq
                      refine ACalls.of (FnOK.of hf) hN (k N _ _ ?_)
                      simp only [callQ, RetQ, hl]
                      exact ⟨resL_ok' hl hc, hq⟩
                    · cases h
                  · cases h
              · cases h
            · cases h
          · cases h
end X
end Go.Proofs.YtipanehdmhachaaGreatDoor.H
