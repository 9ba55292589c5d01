/- The evaluator's single operations, the rest; one operation of any kind, and its law. -/
import Derived.Test.YtnnnmdmniceenaaEvT
set_option linter.unusedSimpArgs false
set_option linter.unusedVariables false
namespace Go.Proofs.Ytnnnmdmniceenaa.Ev

/-- Whether two values of a type are equal: ints, bools, structs of these. -/
def eqFs (P : Program) (g : TypeId → SV → SV → Option B) (xs ys : List SV) : List Field → Option B
  | [] => some (.lit true)
  | f :: fs => if f.name ≠ "_" then
      match readV P f.type xs f.offset, readV P f.type ys f.offset with
      | some a, some b => match g f.type a b, eqFs P g xs ys fs with
        | some p, some q => some (.and p q)
        | _, _ => none
      | _, _ => none
    else eqFs P g xs ys fs
def eqV (P : Program) : Nat → TypeId → SV → SV → Option B
  | 0, _, _, _ => none
  | d + 1, t, x, y => match P.underlying t, x, y with
    | some (.int _), .int k a, .int l b => if keq k l then some (.eq a b) else none
    | some .bool, .bool a, .bool b => some (.iff a b)
    | some (.struct fs), .agg xs, .agg ys => if P.stoodInHeld t = true then none else eqFs P (eqV P d) xs ys fs.toList
    | _, _, _ => none
def shortAll (fx : Fx) : B → B
  | .and a b => nrmB fx (.and (shortAll fx a) (shortAll fx b))
  | b => nrmB fx b
theorem den_shortAll {ρ : List Int} {fx : Fx} (hf : FxOK ρ fx) : ∀ b, denB ρ (shortAll fx b) = denB ρ b
  | .and a b => by simp only [shortAll, den_nrmB hf, denB, den_shortAll hf a, den_shortAll hf b]
  | .lit _ | .eq .. | .le .. | .lt .. | .nz _ | .not _ | .or .. | .iff .. => by simp only [shortAll, den_nrmB hf]
theorem eqV_ok {P : Program} {ρ : List Int} {η : Env} {w : World} : ∀ (d : Nat) (t : TypeId) (x y : SV) (b : B), eqV P d t x y = some b → (Op.equalIn d t (denV ρ η x) (denV ρ η y)).run P w = .ok (denB ρ b) w
  | 0, _, _, _, _, h => by simp [eqV] at h
  | d + 1, t, x, y, b, h => by
    unfold eqV at h
    split at h
    · rename_i k' k a l b' hu
      split at h
      · rename_i hk
        have hk := keq_eq hk
        subst hk
        simp only [Option.some.injEq] at h; subst h
        simp only [denV, run_equalIn_int w d t _ k' _ _ hu, denB]
        rfl
      · simp at h
    · rename_i a b' hu
      simp only [Option.some.injEq] at h; subst h
      simp only [denV, run_equalIn_bool' w d t _ _ hu, denB]
    · rename_i fs xs ys hu
      split at h
      · simp at h
      · rename_i hst
        have hfs : P.fieldsOf t = fs := by simp [Program.fieldsOf, hu]
        have ih := fun t x y b h => eqV_ok (P := P) (ρ := ρ) (η := η) (w := w) d t x y b h
        simp only [denV]
        rw [run_equalIn_struct w d t _ _ (by rw [hfs]; exact hu) (by simpa using hst), hfs]
        revert h
        generalize fs.toList = l
        intro h
        induction l generalizing b with
        | nil => simp only [eqFs, Option.some.injEq] at h; subst h; simp [Op.eqFields, denB]
        | cons f l ihl =>
          simp only [eqFs] at h
          split at h
          · rename_i hn
            split at h
            · rename_i a b' ha hb
              split at h
              · rename_i p q hp hq
                simp only [Option.some.injEq] at h; subst h
                have ea := run_partV ha ρ η w
                have eb := run_partV hb ρ η w
                have e1 := ih _ _ _ _ hp
                have e2 := ihl _ hq
                simp only [Op.eqFields, if_pos hn, Sem.run_bind, denL_map, ea, eb, Result.andThen_ok, e1, Sem.run_ite, denB] at e2 ⊢
                cases hpp : denB ρ p with
                | false => simp
                | true => simpa using e2
              · simp at h
            · simp at h
          · rename_i hn
            have e2 := ihl _ h
            simp only [Op.eqFields, if_neg hn]
            exact e2
    · simp at h
def evEq (P : Program) (fx : Fx) (op : BinOp) (t : TypeId) (a b : SV) : Option Res := match a, b with
  | .agg _, .agg _ => if P.eqGuardType P.depth t = true then none else match eqV P 10000 t a b with
    | some p => match op with
      | .eql => some (val (.bool (shortAll fx p)))
      | .neq => some (val (.bool (nrmB fx (.not (shortAll fx p)))))
      | _ => none
    | none => none
  | _, _ => none
theorem evEq_pure {P : Program} {fx : Fx} {op : BinOp} {t : TypeId} {a b : SV} {r : Res} (h : evEq P fx op t a b = some r) : r.wr = [] ∧ r.nn = 0 := by
  unfold evEq at h
  split at h
  · split at h
    · simp at h
    · split at h
      · split at h <;> simp at h <;> subst h <;> exact ⟨rfl, rfl⟩
      · simp at h
  · simp at h
theorem evEq_ok {P : Program} {fx : Fx} {op : BinOp} {t : TypeId} {a b : SV} {r : Res} (h : evEq P fx op t a b = some r) {ρ : List Int} {η : Env} {w : World} (hf : FxOK ρ fx) (xo yo : Operand) :
    (do eqGuard op t xo yo (denV ρ η a) (denV ρ η b); binOp op t (denV ρ η a) (denV ρ η b)).run P w = .ok (denV ρ η r.v) w := by
  unfold evEq at h
  split at h
  · rename_i xs ys
    split at h
    · simp at h
    · rename_i hg
      split at h
      · rename_i p hp
        have he := eqV_ok (ρ := ρ) (η := η) (w := w) _ _ _ _ _ hp
        have hg' : P.eqGuardType P.depth t = false := by simpa using hg
        simp only [denV] at he
        split at h <;> simp only [Option.some.injEq, reduceCtorEq] at h
        · subst h
          simp only [denV, Sem.run_bind, run_eqGuard_agg w _ _ _ _ _ _ hg', Result.andThen_ok, run_eql_struct, he, val, den_shortAll hf]
        · subst h
          simp only [denV, Sem.run_bind, run_eqGuard_agg w _ _ _ _ _ _ hg', Result.andThen_ok, run_neq_struct, he, val, den_nrmB hf, denB, den_shortAll hf]
      · simp at h
  · simp at h
def evBinE (P : Program) (fx : Fx) (op : BinOp) (t : TypeId) (a b : SV) : Option Res := match evBin fx op a b with
  | some r => some r
  | none => evEq P fx op t a b
def litOf (fx : Fx) : SV → Option Int
  | .int _ e => match nrm fx e with
    | .lit z => some z
    | _ => none
  | _ => none
theorem litOf_ok {fx : Fx} {x : SV} {z : Int} (h : litOf fx x = some z) {ρ : List Int} (hf : FxOK ρ fx) (η : Env) : ∃ k, denV ρ η x = .int k z := by
  unfold litOf at h
  split at h
  · rename_i k e
    have hn := den_nrm hf e
    split at h
    · rename_i z' hz
      rw [hz] at hn
      simp only [Option.some.injEq] at h
      exact ⟨k, by simp only [denV, ← hn, den, h]⟩
    · simp at h
  · simp at h
def evMake (P : Program) (fx : Fx) (nb : Nat) (T : TypeId) (l c : SV) : Option Res := match P.underlying T with
  | some (.slice el) => match P.info? el, zeroV P el, litOf fx l, litOf fx c with
    | some i, some z, some l, some c =>
      if 0 ≤ l ∧ l ≤ c ∧ (i.bytes : Int) * c ≤ 281474976710656 ∧ c ≤ 16777216 ∧ (0 < z.length ∨ c.toNat * i.size = 0) then
        some { v := .slc nb 0 l.toNat (some c.toNat), wr := [(nb, some (el, madeS z (c.toNat * i.size)))], nn := 1, asr := [], cal := none, rng := [] }
      else none
    | _, _, _, _ => none
  | _ => none
theorem evMake_ok {P : Program} {fx : Fx} {nb : Nat} {T : TypeId} {l c : SV} {r : Res} (h : evMake P fx nb T l c = some r) {ρ : List Int} {η : Env} {bl : Blk} {w : World} (hf : FxOK ρ fx) :
    Runs P ρ η bl nb w r (Instr.makeSlice T (denV ρ η l) (denV ρ η c)) := by
  unfold evMake at h
  split at h
  · rename_i el hu
    split at h
    · rename_i i z l' c' hi hz hl hc
      split at h
      · rename_i hcd
        simp only [Option.some.injEq] at h; subst h
        obtain ⟨k1, e1⟩ := litOf_ok hl hf η
        obtain ⟨k2, e2⟩ := litOf_ok hc hf η
        obtain ⟨i', zv, hi', hzv, hzc, hno⟩ := zeroV_info hz ρ η
        have : i' = i := Option.some.inj (hi'.symm.trans hi)
        subst this
        refine ⟨_, _, ?_, Eff.new el _ (.slc nb 0 l'.toNat (some c'.toNat)) (madeS_no hcd.2.2.2.2 fun x hx => (hno x hx).2 nb)⟩
        rw [e1, e2, run_make w T el i' zv hu hi' hzv k1 k2 l' c' hcd.1 hcd.2.1 hcd.2.2.1 (by omega)]
        have := madeS_ok hcd.2.2.2.2 (ρ := ρ) (η := η) hzc
        simp only [madeCells, this]
        simp [denV]
      · simp at h
    · simp at h
  · simp at h
/-- The bound of a slice expression that is a term. -/
def hiE (fx : Fx) (n : E) : Option SV → Option E
  | none => some n
  | some (.int _ e) => some (nrm fx e)
  | _ => none
def optLit (fx : Fx) : Option SV → Option (Option Int)
  | none => some none
  | some x => match litOf fx x with
    | some z => some (some z)
    | none => none
def evSlice (P : Program) (fx : Fx) (T : TypeId) (x : SV) (lo hi mx : Option SV) : Option Res := match mx, optLit fx lo, optLit fx hi with
  | none, some lo, some hi => match P.underlying T, x with
    | some (.slice el), .nils => match sizeT P el with
      | some _ => if lo.getD 0 = 0 ∧ hi.getD ((0 : Nat) : Int) = 0 then some (val .nils) else none
      | none => none
    | some (.slice el), .slc id off n (some c) => match sizeT P el with
      | some sz =>
        let l := lo.getD 0
        let h := hi.getD n
        if 0 ≤ l ∧ l ≤ h ∧ h ≤ c ∧ n ≤ c then some (val (.slc id (if c = l.toNat then off else off + l.toNat * sz) (h.toNat - l.toNat) (some (c - l.toNat)))) else none
      | none => none
    | some (.array n el), .ptr id off => match sizeT P el with
      | some sz =>
        let l := lo.getD 0
        let h := hi.getD n
        if 0 ≤ l ∧ l ≤ h ∧ h ≤ n then some (val (.slc id (if n = l.toNat then off else off + l.toNat * sz) (h.toNat - l.toNat) (some (n - l.toNat)))) else none
      | none => none
    | _, _ => none
  | _, _, _ => none
theorem run_bounds {P : Program} {fx : Fx} {ρ : List Int} (hf : FxOK ρ fx) {lo hi : Option SV} {l' h' : Option Int} (hl : optLit fx lo = some l') (hh : optLit fx hi = some h') (η : Env) (b : Bool) (n c : Nat)
    (h0 : 0 ≤ l'.getD 0) (h1 : l'.getD 0 ≤ h'.getD n) (h2 : h'.getD n ≤ c) (_hn : n ≤ c) (w : World) :
    (Instr.sliceBounds b n c (lo.map (denV ρ η)) (hi.map (denV ρ η)) none).run P w = .ok ((l'.getD 0).toNat, (h'.getD n).toNat, c) w := by
  have eh : ((h'.getD n).toNat : Int) = h'.getD n := Int.toNat_of_nonneg (by omega)
  have bound : ∀ (x : SV) (z : Int) (y : Nat) (code : BoundsCode), litOf fx x = some z → 0 ≤ z → z ≤ y → (Instr.sliceBound (denV ρ η x) y code).run P w = .ok z.toNat w := by
    intro x z y code hx h0 h1
    obtain ⟨k, e⟩ := litOf_ok hx hf η
    rw [e]
    exact run_sliceBound w k z y code h0 h1
  cases hi with
  | none =>
    simp only [optLit, Option.some.injEq] at hh
    subst hh
    simp only [Option.getD_none] at h1 h2 eh ⊢
    cases lo with
    | none =>
      simp only [optLit, Option.some.injEq] at hl
      subst hl
      simp [Instr.sliceBounds]
    | some x =>
      simp only [optLit] at hl
      split at hl
      · rename_i z hz
        simp only [Option.some.injEq] at hl
        subst hl
        simp only [Option.getD_some] at h0 h1 ⊢
        simp [Instr.sliceBounds, bound x z n _ hz h0 (by omega)]
      · simp at hl
  | some y =>
    simp only [optLit] at hh
    split at hh
    · rename_i zh hzh
      simp only [Option.some.injEq] at hh
      subst hh
      simp only [Option.getD_some] at h1 h2 eh ⊢
      have by1 := fun code => bound y zh c code hzh (by omega) h2
      cases lo with
      | none =>
        simp only [optLit, Option.some.injEq] at hl
        subst hl
        simp [Instr.sliceBounds, by1]
      | some x =>
        simp only [optLit] at hl
        split at hl
        · rename_i z hz
          simp only [Option.some.injEq] at hl
          subst hl
          simp only [Option.getD_some] at h0 h1 ⊢
          simp [Instr.sliceBounds, by1, bound x z zh.toNat _ hz h0 (by omega)]
        · simp at hl
    · simp at hh
theorem evSlice_ok {P : Program} {fx : Fx} {T : TypeId} {x : SV} {lo hi mx : Option SV} {r : Res} (h : evSlice P fx T x lo hi mx = some r) {ρ : List Int} {η : Env} {bl : Blk} {nb : Nat} {w : World} (hf : FxOK ρ fx) :
    Runs P ρ η bl nb w r (Instr.sliceAt T (denV ρ η x) (lo.map (denV ρ η)) (hi.map (denV ρ η)) (mx.map (denV ρ η))) := by
  unfold evSlice at h
  split at h
  · rename_i l' h' hl hh
    split at h
    · rename_i el hu
      split at h
      · rename_i sz hs
        split at h
        · rename_i hc
          simp only [Option.some.injEq] at h; subst h
          refine .pure rfl rfl ?_
          have hb := run_bounds (P := P) hf hl hh η true 0 0 (by omega) (by rw [hc.1]; exact Int.le_of_eq hc.2.symm) (Int.le_of_eq hc.2) (Nat.le_refl _) w
          have h2 : h'.getD 0 = 0 := hc.2
          simp only [denV, Option.map_none, Instr.sliceAt, Sem.run_bind, run_underlying hu, Result.andThen_ok, Instr.slice, hb, run_sizeOf hs, val]
          simp [hc.1, h2]
        · simp at h
      · simp at h
    · rename_i el id off n c hu
      split at h
      · rename_i sz hs
        simp only [] at h
        split at h
        · rename_i hc
          simp only [Option.some.injEq] at h; subst h
          refine .pure rfl rfl ?_
          have hb := run_bounds (P := P) hf hl hh η true n c hc.1 hc.2.1 hc.2.2.1 hc.2.2.2 w
          simp only [denV, slcO_some, slcC_some, Option.getD_some, Option.map_none, Instr.sliceAt, Sem.run_bind, run_underlying hu, Result.andThen_ok, Instr.slice, hb, run_sizeOf hs, val]
          by_cases hcl : c = (l'.getD 0).toNat
          · simp [hcl]
          · simp [hcl, add_addr]
        · simp at h
      · simp at h
    · rename_i n el id off hu
      split at h
      · rename_i sz hs
        simp only [] at h
        split at h
        · rename_i hc
          simp only [Option.some.injEq] at h; subst h
          refine .pure rfl rfl ?_
          have hb := run_bounds (P := P) hf hl hh η false n n hc.1 hc.2.1 hc.2.2 (Nat.le_refl _) w
          simp only [denV, slcO_some, slcC_some, Option.getD_some, Option.map_none, Instr.sliceAt, Instr.sureAddr, Sem.run_bind, Sem.run_pure, run_underlying hu, Result.andThen_ok, hb, run_sizeOf hs, val]
          by_cases hcl : n = (l'.getD 0).toNat
          · simp [hcl]
          · simp [hcl, add_addr]
        · simp at h
      · simp at h
    · simp at h
  · simp at h
/-- Slicing a caller's list from its beginning. -/
def evSliceL (P : Program) (fx : Fx) (T : TypeId) (k : Nat) (n c : E) (lo hi mx : Option SV) : Option Res := match P.underlying T, mx, optLit fx lo, hiE fx n hi with
  | some (.slice el), none, some lo', some h => match sizeT P el with
    | some _ => if lo'.getD 0 = 0 then some { val (.sls k h c) with asr := need fx (.le (.lit 0) h) ++ need fx (.le h c) } else none
    | none => none
  | _, _, _, _ => none
theorem evSliceL_ok {P : Program} {fx : Fx} {T : TypeId} {k : Nat} {n c : E} {lo hi mx : Option SV} {r : Res} (h : evSliceL P fx T k n c lo hi mx = some r) {ρ : List Int} {η : Env} {bl : Blk} {nb : Nat} {w : World} (hf : FxOK ρ fx)
    (ha : ∀ x ∈ r.asr, denB ρ x = true) : Runs P ρ η bl nb w r (Instr.sliceAt T (denV ρ η (.sls k n c)) (lo.map (denV ρ η)) (hi.map (denV ρ η)) (mx.map (denV ρ η))) := by
  unfold evSliceL at h
  split at h
  · rename_i el lo' e hu hl hh
    split at h
    · rename_i sz hs
      split at h
      · rename_i hz
        simp only [Option.some.injEq] at h; subst h
        have g0 : 0 ≤ den ρ e := of_decide_eq_true (need_ok hf fun x hx => ha x (List.mem_append_left _ hx))
        have g1 : den ρ e ≤ den ρ c := of_decide_eq_true (need_ok hf fun x hx => ha x (List.mem_append_right _ hx))
        have hb : (Instr.sliceBounds true (den ρ n).toNat (den ρ c).toNat (lo.map (denV ρ η)) (hi.map (denV ρ η)) none).run P w = .ok (0, (den ρ e).toNat, (den ρ c).toNat) w := by
          have hlo : lo = none ∨ ∃ x k', lo = some x ∧ denV ρ η x = .int k' 0 := by
            cases lo with
            | none => exact .inl rfl
            | some x =>
              simp only [optLit] at hl
              split at hl
              · rename_i z hz'
                simp only [Option.some.injEq] at hl
                subst hl
                obtain ⟨k', ek⟩ := litOf_ok hz' hf η
                simp only [Option.getD_some] at hz
                subst hz
                exact .inr ⟨x, k', rfl, ek⟩
              · simp at hl
          have h0 := fun (k' : IntKind) (y : Nat) (code : BoundsCode) => run_sliceBound (P := P) w k' 0 y code (Int.le_refl _) (by omega)
          cases hi with
          | none =>
            simp only [hiE, Option.some.injEq] at hh
            subst hh
            rcases hlo with rfl | ⟨x, k', rfl, ex⟩
            · simp [Instr.sliceBounds]
            · simp [Instr.sliceBounds, ex, h0]
          | some v =>
            unfold hiE at hh
            split at hh
            · simp at *
            · rename_i hi' ik e' hv
              simp only [Option.some.injEq] at hh hv
              subst hv
              have ee : den ρ e = den ρ e' := by rw [← hh]; exact den_nrm hf e'
              have hb2 := run_sliceBound (P := P) w ik (den ρ e) (den ρ c).toNat .sliceAcap g0 (by omega)
              rw [ee] at hb2 ⊢
              rcases hlo with rfl | ⟨x, k', rfl, ex⟩
              · simp [Instr.sliceBounds, denV, hb2]
              · simp [Instr.sliceBounds, denV, ex, h0, hb2]
            · simp at hh
        refine .pure rfl rfl ?_
        simp only [denV, Option.map_none, Instr.sliceAt, Sem.run_bind, run_underlying hu, Result.andThen_ok, Instr.slice, hb, run_sizeOf hs, val, Sem.run_pure, Nat.sub_zero, Nat.zero_mul]
        cases η.α k <;> simp [Addr.add]
      · simp at h
    · simp at h
  · simp at h
def evLen (P : Program) (fx : Fx) (T : TypeId) (x : SV) : Option Res := match P.underlying T, x with
  | some (.slice _), .sls _ n _ => some { val (.int .i64 n) with asr := need fx (.le (.lit 0) n) }
  | some (.slice _), .slc _ _ n _ => some (val (.int .i64 (.lit n)))
  | some (.slice _), .nils => some (val (.int .i64 (.lit 0)))
  | some (.array n _), _ => some (val (.int .i64 (.lit n)))
  | _, _ => none
theorem evLen_ok {P : Program} {fx : Fx} {T ty : TypeId} {x : SV} {r : Res} (h : evLen P fx T x = some r) {ρ : List Int} {η : Env} {bl : Blk} {nb : Nat} {w : World} (hf : FxOK ρ fx)
    (ha : ∀ x ∈ r.asr, denB ρ x = true) : Runs P ρ η bl nb w r (Builtin.len_ #[T] ty #[denV ρ η x]) := by
  unfold evLen at h
  split at h
  · rename_i hu
    simp only [Option.some.injEq] at h; subst h
    have g0 : 0 ≤ den ρ _ := of_decide_eq_true (need_ok hf ha)
    exact .pure rfl rfl (by simp [Builtin.len_, run_underlying hu, denV, goInt, val, Int.toNat_of_nonneg g0])
  · rename_i hu
    simp only [Option.some.injEq] at h; subst h
    exact .pure rfl rfl (by simp [Builtin.len_, run_underlying hu, denV, goInt, val, den])
  · rename_i hu
    simp only [Option.some.injEq] at h; subst h
    exact .pure rfl rfl (by simp [Builtin.len_, run_underlying hu, denV, goInt, val, den])
  · rename_i hu
    simp only [Option.some.injEq] at h; subst h
    exact .pure rfl rfl (by simp [Builtin.len_, run_underlying hu, goInt, val, denV, den])
  · simp at h
def foldMM (fx : Fx) (f : E → E → E) (k : IntKind) (acc : E) : List SV → Option E
  | [] => some acc
  | .int l e :: r => if keq k l then foldMM fx f k (nrm fx (f acc e)) r else none
  | _ => none
def evMM (fx : Fx) (f : E → E → E) : List SV → Option Res
  | .int k e :: r => match foldMM fx f k e r with
    | some x => some (val (.int k x))
    | none => none
  | _ => none
theorem foldMM_ok {P : Program} {fx : Fx} {f : E → E → E} {g : Value → Value → Sem Value} {ρ : List Int} {η : Env} (hf : FxOK ρ fx)
    (hg : ∀ k a b w, (g (.int k (den ρ a)) (.int k (den ρ b))).run P w = .ok (.int k (den ρ (f a b))) w) : ∀ (l : List SV) (k : IntKind) (acc x : E) (w : World), foldMM fx f k acc l = some x →
    ((l.map (denV ρ η)).foldlM g (.int k (den ρ acc))).run P w = .ok (.int k (den ρ x)) w
  | [], k, acc, x, w, h => by simp [foldMM] at h; subst h; simp
  | y :: l, k, acc, x, w, h => by
    unfold foldMM at h
    split at h
    · rename_i heq; simp at heq
    · rename_i l' e r heq
      simp only [List.cons.injEq] at heq
      obtain ⟨rfl, rfl⟩ := heq
      split at h
      · rename_i hk
        have hk := keq_eq hk
        subst hk
        have ih := foldMM_ok (P := P) (η := η) hf hg _ _ _ _ w h
        rw [den_nrm hf] at ih
        simp only [List.map_cons, List.foldlM_cons, denV, Sem.run_bind, hg, Result.andThen_ok, ih]
      · simp at h
    · simp at h
theorem evMin_ok {P : Program} {fx : Fx} {l : List SV} {r : Res} (h : evMM fx .mn l = some r) {ρ : List Int} {η : Env} {bl : Blk} {nb : Nat} {w : World} (hf : FxOK ρ fx) (ts : Array TypeId) (ty : TypeId) (vs : Array Value)
    (hv : vs.toList = l.map (denV ρ η)) : Runs P ρ η bl nb w r (Builtin.min_ ts ty vs) := by
  unfold evMM at h
  split at h
  · rename_i k e l'
    split at h
    · rename_i x hx
      simp only [Option.some.injEq] at h; subst h
      refine .pure rfl rfl ?_
      have := foldMM_ok (P := P) (g := Builtin.min2) (η := η) hf (fun k a b w => by simp [Builtin.min2, den]) l' k e x w hx
      simp only [Builtin.min_, hv, List.map_cons, denV, val]
      exact this
    · simp at h
  · simp at h
theorem evMax_ok {P : Program} {fx : Fx} {l : List SV} {r : Res} (h : evMM fx .mx l = some r) {ρ : List Int} {η : Env} {bl : Blk} {nb : Nat} {w : World} (hf : FxOK ρ fx) (ts : Array TypeId) (ty : TypeId) (vs : Array Value)
    (hv : vs.toList = l.map (denV ρ η)) : Runs P ρ η bl nb w r (Builtin.max_ ts ty vs) := by
  unfold evMM at h
  split at h
  · rename_i k e l'
    split at h
    · rename_i x hx
      simp only [Option.some.injEq] at h; subst h
      refine .pure rfl rfl ?_
      have := foldMM_ok (P := P) (g := Builtin.max2) (η := η) hf (fun k a b w => by simp [Builtin.max2, den]) l' k e x w hx
      simp only [Builtin.max_, hv, List.map_cons, denV, val]
      exact this
    · simp at h
  · simp at h
/-- A value behind guards that are known to hold. -/
def bare (fx : Fx) : SV → SV
  | .grd c v => match decB fx c with
    | some true => bare fx v
    | _ => .grd c v
  | v => v
theorem bare_ok {fx : Fx} {ρ : List Int} (hf : FxOK ρ fx) (η : Env) : ∀ (v : SV), denV ρ η (bare fx v) = denV ρ η v
  | .grd c v => by
    unfold bare
    split
    · rename_i hd
      rw [bare_ok hf η v]
      simp [denV, decB_ok hf _ _ hd]
    · rfl
  | .int .. | .bool _ | .undef | .nilp | .ptr .. | .ptx .. | .slc .. | .nils | .fn .. | .nilfn | .agg _ | .tup _ | .any | .sls .. | .xp .. => rfl
def pickB (c a b : B) : B := match a, b with
  | .lit true, b => .or c b
  | a, .lit false => .and c a
  | a, b => .or (.and c a) (.and (.not c) b)
theorem pickB_ok (ρ : List Int) (c a b : B) : denB ρ (pickB c a b) = if denB ρ c = true then denB ρ a else denB ρ b := by
  unfold pickB
  split <;> simp only [denB] <;> cases denB ρ c <;> simp
def evPick (fx : Fx) (c a b : SV) : Option Res := match c with
  | .bool c => match decB fx c with
    | some true => some (val (bare (assume fx c true) a))
    | some false => some (val (bare (assume fx c false) b))
    | none => match bare (assume fx c true) a, bare (assume fx c false) b with
      | .bool a, .bool b => some (val (.bool (nrmB fx (pickB c a b))))
      | _, _ => none
  | _ => none
theorem evPick_ok {fx : Fx} {c a b : SV} {r : Res} (h : evPick fx c a b = some r) {ρ : List Int} {η : Env} (hf : FxOK ρ fx) :
    ∃ t, denV ρ η c = .bool t ∧ denV ρ η r.v = (if t = true then denV ρ η a else denV ρ η b) ∧ r.wr = [] ∧ r.nn = 0 ∧ r.cal = none ∧ r.asr = [] ∧ r.rng = [] := by
  unfold evPick at h
  split at h
  · rename_i c
    refine ⟨denB ρ c, rfl, ?_⟩
    split at h
    · rename_i hd
      have hd := decB_ok hf _ _ hd
      simp only [Option.some.injEq] at h; subst h
      exact ⟨by simp [val, bare_ok (assume_ok c fx true hf hd), hd], rfl, rfl, rfl, rfl, rfl⟩
    · rename_i hd
      have hd := decB_ok hf _ _ hd
      simp only [Option.some.injEq] at h; subst h
      exact ⟨by simp [val, bare_ok (assume_ok c fx false hf hd), hd], rfl, rfl, rfl, rfl, rfl⟩
    · split at h
      · rename_i a' b' ha hb
        simp only [Option.some.injEq] at h; subst h
        refine ⟨?_, rfl, rfl, rfl, rfl, rfl⟩
        simp only [val, denV, den_nrmB hf, pickB_ok]
        cases hc : denB ρ c with
        | true =>
          have := bare_ok (assume_ok c fx true hf hc) η a
          rw [ha] at this
          simp [← this, denV]
        | false =>
          have := bare_ok (assume_ok c fx false hf hc) η b
          rw [hb] at this
          simp [← this, denV]
      · simp at h
  · simp at h

/-! ### One operation -/
/-- A contract: of the arguments, the blocks, what is known, the next variable's and the next block's number. -/
abbrev Con := List SV → Blk → Fx → Nat → Nat → Option Res
/-- Where a value stands that a loop changes: a temporary, a field of one, a cell of the block that one leads to. -/
inductive Ps where
  | tmp (t : Nat) | fld (t i : Nat) | cell (t off : Nat)
/-- How a loop is taken: the values that it changes, their ranges, the number that gets less (over the values, then the variables ahead of the loop), temporaries that stay. -/
structure Hint where
  id : Nat
  ps : List Ps
  rg : List (Int × Int)
  me : E
  keep : List Nat := []
/-- 'ld': what is known of the caller's lists: the kinds of an element's cells ('none': a test), and which variable is the length. -/
structure Ctx where
  fn : FuncId → Option Con
  ld : Nat → Option (List (Option IntKind) × Nat) := fun _ => none
  lh : FuncId → Nat → Option Hint := fun _ _ => none
def BodyOK (P : Program) (f : FuncId) : Bool := match P.funcs[f]? with
  | some fn => fn.body.isSome && fn.name != "runtime.NumGoroutine"
  | none => false
/-- The variables from 'n' on are what the called contract's function gives. -/
def CalOK (Φ : Sig) (ρ : List Int) (n : Nat) (c : Option (Nat × List E × Nat)) : Prop :=
  ∀ k es m, c = some (k, es, m) → ∀ i, i < m → ρ.getD (n + i) 0 = (Φ k (es.map (den ρ))).getD i 0
def ConOK (P : Program) (Φ : Sig) (f : FuncId) (c : Con) : Prop :=
  BodyOK P f = true ∧ ∀ args bl fx n nb r, c args bl fx n nb = some r → ∀ ρ η w, FxOK ρ fx → CalOK Φ ρ n r.cal → (∀ x ∈ r.asr, denB ρ x = true) → Rb Φ ρ η bl w →
    (∀ i, nb ≤ i → bl i = none) →
    (∀ p ∈ r.rng, p.2.1 ≤ den ρ p.1 ∧ den ρ p.1 ≤ p.2.2) ∧
    Calls P f (args.map (denV ρ η)).toArray w fun e w' => ∃ η', e = .returned (denV ρ η' r.v) ∧ Eff ρ η η' bl nb r w w'
structure CtxOK (P : Program) (Φ : Sig) (C : Ctx) : Prop where
  fn : ∀ f c, C.fn f = some c → ConOK P Φ f c
  ld : LdOK Φ C.ld
/-- Reading an element of a caller's list, or a cell of it. -/
def evLd (P : Program) (C : Ctx) (fx : Fx) (n : Nat) (T : TypeId) (k size off : Nat) (e : E) : Option Res := match C.ld k with
  | some (ks, j) => if size = ks.length then
      let asr := need fx (.le (.lit 0) e) ++ need fx (.lt e (.v j))
      let cal := some (ldKey k, [e], ks.length)
      let rng := (ks.zipIdx).map fun p => (E.v (n + p.2), kB p.1)
      match aggT P T with
      | some true => if off = 0 ∧ sizeT P T = some ks.length then some { v := .agg ((ks.zipIdx).map fun p => kS p.1 (n + p.2)), wr := [], nn := 0, asr, cal, rng } else none
      | some false => match ks[off]? with
        | some kd => some { v := kS kd (n + off), wr := [], nn := 0, asr, cal, rng }
        | none => none
      | none => none
    else none
  | none => none
theorem kS_den (kd : Option IntKind) (i : Nat) (ρ : List Int) (η : Env) : denV ρ η (kS kd i) = kV kd (den ρ (.v i)) := by
  cases kd <;> simp [kS, kV, denV, denB]
theorem evLd_ok {P : Program} {C : Ctx} {Φ : Sig} (hl : LdOK Φ C.ld) {fx : Fx} {n : Nat} {T : TypeId} {k size off : Nat} {e : E} {r : Res} (h : evLd P C fx n T k size off e = some r)
    {ρ : List Int} {η : Env} {bl : Blk} {nb : Nat} {w : World} (hf : FxOK ρ fx) (hcal : CalOK Φ ρ n r.cal) (hasr : ∀ y ∈ r.asr, denB ρ y = true) (hb : Rb Φ ρ η bl w) :
    Runs P ρ η bl nb w r (Instr.loadAt T (denV ρ η (.xp k size off e))) ∧ ∀ p ∈ r.rng, p.2.1 ≤ den ρ p.1 ∧ den ρ p.1 ≤ p.2.2 := by
  unfold evLd at h
  split at h
  · rename_i ks j hk
    split at h
    · rename_i hsz
      -- what every case gives
      have key : ∀ {r : Res}, r.asr = need fx (.le (.lit 0) e) ++ need fx (.lt e (.v j)) → r.cal = some (ldKey k, [e], ks.length) → CalOK Φ ρ n r.cal → (∀ y ∈ r.asr, denB ρ y = true) →
          (∀ (c : Nat) kd, ks[c]? = some kd → w.cell? (((η.α k).getD ⟨0, 0, none⟩).add ((den ρ e).toNat * ks.length + c)) = some (kV kd (den ρ (.v (n + c)))) ∧ (kB kd).1 ≤ den ρ (.v (n + c)) ∧ den ρ (.v (n + c)) ≤ (kB kd).2) := by
        intro r ea ec hcal hasr c kd hc
        rw [ea] at hasr
        have g0 : 0 ≤ den ρ e := of_decide_eq_true (need_ok hf fun x hx => hasr x (List.mem_append_left _ hx))
        have g1 : den ρ e < den ρ (.v j) := of_decide_eq_true (need_ok hf fun x hx => hasr x (List.mem_append_right _ hx))
        obtain ⟨s, hs⟩ := hb.pf
        have hj := hl.pre _ _ _ hk
        have ej : den ρ (.v j) = Φ.pre.getD j 0 := by
          simp [den, hs, List.getElem?_append_left hj]
        have en : (((den ρ e).toNat : Nat) : Int) = den ρ e := Int.toNat_of_nonneg g0
        have hlt : (((den ρ e).toNat : Nat) : Int) < Φ.pre.getD j 0 := by rw [en, ← ej]; exact g1
        have hcl : c < ks.length := (List.getElem?_eq_some_iff.1 hc).1
        have ev : den ρ (.v (n + c)) = (Φ (ldKey k) [((den ρ e).toNat : Int)]).getD c 0 := by
          have := hcal _ _ _ ec c hcl
          rw [List.map_cons, List.map_nil, ← en] at this
          simpa [den] using this
        rw [ev, hb.al]
        exact ⟨hl.cell _ _ _ hk _ hb.gh _ hlt _ _ hc, hl.bd _ _ _ hk _ hlt _ _ hc⟩
      have rg : (∀ (c : Nat) kd, ks[c]? = some kd → w.cell? (((η.α k).getD ⟨0, 0, none⟩).add ((den ρ e).toNat * ks.length + c)) = some (kV kd (den ρ (.v (n + c)))) ∧ (kB kd).1 ≤ den ρ (.v (n + c)) ∧ den ρ (.v (n + c)) ≤ (kB kd).2) →
          ∀ p ∈ (ks.zipIdx).map (fun p => (E.v (n + p.2), kB p.1)), p.2.1 ≤ den ρ p.1 ∧ den ρ p.1 ≤ p.2.2 := by
        intro hh p hp
        obtain ⟨q, hq, rfl⟩ := List.mem_map.1 hp
        have := List.mk_mem_zipIdx_iff_getElem?.1 (show (q.1, q.2) ∈ ks.zipIdx from hq)
        exact (hh _ _ this).2
      simp only [] at h
      split at h
      · rename_i ha
        split at h
        · rename_i hc
          simp only [Option.some.injEq] at h; subst h
          have kk := key rfl rfl hcal hasr
          refine ⟨.pure rfl rfl ?_, rg kk⟩
          have hl' : (((ks.zipIdx).map fun p => kS p.1 (n + p.2)).map (denV ρ η)).length = ks.length := by simp
          have := run_loadCells_list (P := P) w (((η.α k).getD ⟨0, 0, none⟩).add ((den ρ e).toNat * size + off)) (((ks.zipIdx).map fun p => kS p.1 (n + p.2)).map (denV ρ η)) (fun c v hv => by
            rw [Addr_add_add, hc.1, hsz, Nat.add_zero]
            simp only [List.getElem?_map, List.getElem?_zipIdx, Option.map_map, Option.map_eq_some_iff] at hv
            obtain ⟨kd, hkd, rfl⟩ := hv
            simp only [Function.comp, kS_den, Nat.zero_add]
            exact (kk c kd hkd).1)
          rw [hl'] at this
          simp [Instr.loadAt, denV, Instr.sureAddr, loadVar, run_isAgg ha, run_sizeOf hc.2, this, denL_map]
        · simp at h
      · rename_i ha
        split at h
        · rename_i kd hkd
          simp only [Option.some.injEq] at h; subst h
          have kk := key rfl rfl hcal hasr
          refine ⟨.pure rfl rfl ?_, rg kk⟩
          have := (kk off kd hkd).1
          simp [Instr.loadAt, denV, Instr.sureAddr, loadVar, run_isAgg ha, hsz, this, kS_den]
        · simp at h
      · simp at h
    · simp at h
  · simp at h

def opdL (x : Operand → Option SV) : List Operand → Option (List SV)
  | [] => some []
  | o :: l => match x o, opdL x l with
    | some v, some r => some (v :: r)
    | _, _ => none
theorem opdL_ok {x : Operand → Option SV} {ρ : List Int} {η : Env} {a : Act} (hx : ∀ y v, x y = some v → a.eval y = denV ρ η v) : ∀ (l : List Operand) (r : List SV), opdL x l = some r →
    l.map a.eval = r.map (denV ρ η)
  | [], r, h => by simp [opdL] at h; subst h; rfl
  | o :: l, r, h => by
    simp only [opdL] at h
    split at h
    · rename_i v r' hv hr
      simp only [Option.some.injEq] at h; subst h
      simp [hx _ _ hv, opdL_ok hx l r' hr]
    · simp at h
def opdP (x : Operand → Option SV) : List (Nat × Operand) → Option (List (Nat × SV))
  | [] => some []
  | (i, o) :: l => match x o, opdP x l with
    | some v, some r => some ((i, v) :: r)
    | _, _ => none
theorem opdP_ok {x : Operand → Option SV} {ρ : List Int} {η : Env} {a : Act} (hx : ∀ y v, x y = some v → a.eval y = denV ρ η v) : ∀ (l : List (Nat × Operand)) (r : List (Nat × SV)), opdP x l = some r →
    l.map (fun p => (p.1, a.eval p.2)) = r.map (fun p => (p.1, denV ρ η p.2))
  | [], r, h => by simp [opdP] at h; subst h; rfl
  | (i, o) :: l, r, h => by
    simp only [opdP] at h
    split at h
    · rename_i v r' hv hr
      simp only [Option.some.injEq] at h; subst h
      simp [hx _ _ hv, opdP_ok hx l r' hr]
    · simp at h
/-- An operand that may be missing. -/
def opdO (x : Operand → Option SV) : Option Operand → Option (Option SV)
  | none => some none
  | some o => match x o with
    | some v => some (some v)
    | none => none
theorem opdO_ok {x : Operand → Option SV} {ρ : List Int} {η : Env} {a : Act} (hx : ∀ y v, x y = some v → a.eval y = denV ρ η v) {o : Option Operand} {r : Option SV} (h : opdO x o = some r) :
    o.map a.eval = r.map (denV ρ η) := by
  unfold opdO at h
  split at h
  · simp only [Option.some.injEq] at h; subst h; rfl
  · split at h
    · rename_i v hv
      simp only [Option.some.injEq] at h; subst h
      simp [hx _ _ hv]
    · simp at h
def bind1 (x : Option SV) (f : SV → Option Res) : Option Res := match x with
  | some v => f v
  | none => none
theorem bind1_some {x : Option SV} {f : SV → Option Res} {r : Res} (h : bind1 x f = some r) : ∃ v, x = some v ∧ f v = some r := by
  unfold bind1 at h
  split at h
  · exact ⟨_, rfl, h⟩
  · simp at h
def bind2 (x y : Option SV) (f : SV → SV → Option Res) : Option Res := bind1 x fun a => bind1 y fun b => f a b
theorem bind2_some {x y : Option SV} {f : SV → SV → Option Res} {r : Res} (h : bind2 x y f = some r) : ∃ v u, x = some v ∧ y = some u ∧ f v u = some r := by
  obtain ⟨v, hv, h⟩ := bind1_some h
  obtain ⟨u, hu, h⟩ := bind1_some h
  exact ⟨v, u, hv, hu, h⟩
def isBoolT (P : Program) (T : TypeId) (a b : SV) : Bool := match a, b with
  | .bool _, .bool _ => match P.underlying T with
    | some .bool => true
    | _ => false
  | _, _ => true
theorem isBoolT_ok {P : Program} {T : TypeId} {a b : SV} (h : isBoolT P T a b = true) : ∀ x y, a = .bool x → b = .bool y → P.underlying T = some .bool := by
  intro x y ha hb
  subst ha; subst hb
  simp only [isBoolT] at h
  split at h
  · assumption
  · simp at h
def evNil : SV → Option Res
  | .ptr i o => some (val (.ptr i o))
  | .ptx i o s e => some (val (.ptx i o s e))
  | .fn f a b => some (val (.fn f a b))
  | .xp k s o e => some (val (.xp k s o e))
  | _ => none
def evCall (P : Program) (C : Ctx) (fx : Fx) (n nb : Nat) (bl : Blk) (x : Operand → Option SV) (c : Call) : Option Res := match opdL x c.args.toList with
  | some args => match c.callee with
    | .builtin .len => match c.argTypes.toList, args with
      | [T], [v] => evLen P fx T v
      | _, _ => none
    | .builtin .append => match c.argTypes.toList, args with
      | [T, T'], [s, x] => if T == T' then evAppend P bl nb T s x else none
      | _, _ => none
    | .builtin .copy => match c.argTypes.toList, args with
      | [T, _], [d, x] => evCopy P bl nb T d x
      | _, _ => none
    | .builtin .min => evMM fx .mn args
    | .builtin .max => evMM fx .mx args
    | .value f => match x f with
      | some (.fn f first cap) => match C.fn f with
        | some con => con (first ++ args ++ cap) bl fx n nb
        | none => none
      | _ => none
    | _ => none
  | none => none
def evOp (P : Program) (C : Ctx) (fx : Fx) (n nb : Nat) (bl : Blk) (x : Operand → Option SV) : Op → Option Res
  | .move y | .assign y => bind1 (x y) fun v => some (val v)
  | .pick c a b => bind1 (x c) fun c => bind2 (x a) (x b) fun a b => evPick fx c a b
  | .alloc T => evAlloc P nb T
  | .box T y => bind1 (x y) fun v => evBox nb T v
  | .build T ps => match opdP x ps.toList with
    | some ps => evBuild P T ps
    | none => none
  | .buildSlice T n ps => match opdP x ps.toList with
    | some ps => evBuildSlice P nb T n ps
    | none => none
  | .load T y => bind1 (x y) fun v => match v with
    | .xp k size off e => evLd P C fx n T k size off e
    | v => evLoad P fx bl T v
  | .store T y z => bind2 (x y) (x z) fun a v => evStore P bl nb T a v
  | .nilCheck y => bind1 (x y) evNil
  | .binOp op T y z _ => bind2 (x y) (x z) fun a b => if isBoolT P T a b then evBinE P fx op T a b else none
  | .unOp op _ y => bind1 (x y) fun v => evUn fx op v
  | .convert s d y => bind1 (x y) fun v => evConv P fx s d v
  | .makeSlice T l c => bind2 (x l) (x c) fun l c => evMake P fx nb T l c
  | .makeFunc (.func f) a b => match opdL x a.toList, opdL x b.toList with
    | some a, some b => some (val (.fn f a b))
    | _, _ => none
  | .slice T y lo hi mx => match opdO x lo, opdO x hi, opdO x mx with
    | some lo, some hi, some mx => bind1 (x y) fun v => match v with
      | .sls k n c => evSliceL P fx T k n c lo hi mx
      | v => evSlice P fx T v lo hi mx
    | _, _, _ => none
  | .fieldAddr T y f => bind1 (x y) fun v => evFieldAddr P T f v
  | .field T y f => bind1 (x y) fun v => evField P T f v
  | .indexAddr T y i => bind2 (x y) (x i) fun v i => evIndexAddr P C.ld fx T v i
  | .index T y i => bind2 (x y) (x i) fun v i => evIndex P fx T v i
  | .extract y i => bind1 (x y) fun v => evExtract i v
  | .call c => evCall P C fx n nb bl x c
  | _ => none
set_option maxHeartbeats 4000000 in
/-- The law of one operation. -/
theorem evOp_ok {P : Program} {C : Ctx} {Φ : Sig} (hC : CtxOK P Φ C) {fx : Fx} {n nb : Nat} {bl : Blk} {x : Operand → Option SV} {o : Oper} {r : Res} (h : evOp P C fx n nb bl x o.op = some r)
    {ρ : List Int} {η : Env} {a : Act} {w : World} (hf : FxOK ρ fx) (hcal : CalOK Φ ρ n r.cal) (hasr : ∀ y ∈ r.asr, denB ρ y = true) (hb : Rb Φ ρ η bl w) (hbn : ∀ i, nb ≤ i → bl i = none)
    (hx : ∀ y v, x y = some v → a.eval y = denV ρ η v) {K : Act → World → Prop} {Q : Exit → Act → World → Prop}
    (hK : ∀ η' w', Eff ρ η η' bl nb r w w' → K (a.put o.dst (denV ρ η' r.v)) w') : o.wp P a w K Q := by
  obtain ⟨dst, op, ty, pos, aft, grd⟩ := o
  simp only at h hK
  have fin : ∀ {s : Sem Value}, Runs P ρ η bl nb w r s → (execOp a.eval { dst := dst, op := op, type := ty, pos := pos, after := aft, guard := grd } = (do pure (.value (← s)))) →
      Oper.wp P { dst := dst, op := op, type := ty, pos := pos, after := aft, guard := grd } a w K Q := by
    intro s hr he
    obtain ⟨η', w', e1, e2⟩ := hr
    unfold Oper.wp
    rw [he]
    simp only [Sem.run_bind, e1, Result.andThen_ok, Sem.run_pure, Oper.upon]
    exact hK η' w' e2
  cases op with
  | move y =>
    obtain ⟨v, hv, h⟩ := bind1_some h
    simp only [Option.some.injEq] at h; subst h
    exact fin (s := pure (a.eval y)) (.pure rfl rfl (by simp [val, hx _ _ hv])) rfl
  | assign y =>
    obtain ⟨v, hv, h⟩ := bind1_some h
    simp only [Option.some.injEq] at h; subst h
    exact fin (s := pure (a.eval y)) (.pure rfl rfl (by simp [val, hx _ _ hv])) rfl
  | pick c y z =>
    obtain ⟨vc, hc, h⟩ := bind1_some h
    obtain ⟨v, u, hv, hu, h⟩ := bind2_some h
    obtain ⟨t, e1, e2, e3, e4, _⟩ := evPick_ok h (η := η) hf
    refine fin (s := do pure (if ← asBool (a.eval c) then a.eval y else a.eval z)) (.pure e3 e4 ?_) ?_
    · rw [e2, hx _ _ hc, e1, hx _ _ hv, hx _ _ hu]; cases t <;> simp [asBool]
    · simp [execOp]
  | alloc T => exact fin (evAlloc_ok h) rfl
  | box T y =>
    obtain ⟨v, hv, h⟩ := bind1_some h
    exact fin (s := Instr.box T (a.eval y)) (by rw [hx _ _ hv]; exact evBox_ok h) rfl
  | build T ps =>
    simp only [evOp] at h
    split at h
    · rename_i ps' hp
      refine fin (evBuild_ok h (ps.map fun (i, x) => (i, a.eval x)) ?_) rfl
      rw [Array.toList_map]; exact opdP_ok hx _ _ hp
    · simp at h
  | buildSlice T n' ps =>
    simp only [evOp] at h
    split at h
    · rename_i ps' hp
      refine fin (evBuildSlice_ok h (ps.map fun (i, x) => (i, a.eval x)) ?_) rfl
      rw [Array.toList_map]; exact opdP_ok hx _ _ hp
    · simp at h
  | load T y =>
    obtain ⟨v, hv, h⟩ := bind1_some h
    refine fin (s := Instr.loadAt T (a.eval y)) ?_ rfl
    rw [hx _ _ hv]
    split at h
    · exact (evLd_ok hC.ld h hf hcal hasr hb).1
    · exact evLoad_ok h hf hb
  | store T y z =>
    obtain ⟨v, u, hv, hu, h⟩ := bind2_some h
    obtain ⟨w', e1, e2, e3⟩ := evStore_ok h hb
    unfold Oper.wp execOp
    simp only [hx _ _ hv, hx _ _ hu, Sem.run_bind, e1, Result.andThen_ok, Sem.run_pure, Oper.upon]
    have := hK η w' e2
    rw [e3] at this
    exact this
  | nilCheck y =>
    obtain ⟨v, hv, h⟩ := bind1_some h
    have he := hx _ _ hv
    unfold evNil at h
    split at h <;> simp only [Option.some.injEq, reduceCtorEq] at h
    · subst h
      exact fin (s := pure (a.eval y)) (.pure rfl rfl (by simp [val, he])) (by simp [execOp, he, denV])
    · subst h
      exact fin (s := pure (a.eval y)) (.pure rfl rfl (by simp [val, he])) (by simp [execOp, he, denV])
    · subst h
      exact fin (s := pure (a.eval y)) (.pure rfl rfl (by simp [val, he])) (by simp [execOp, he, denV])
    · subst h
      exact fin (s := pure (a.eval y)) (.pure rfl rfl (by simp [val, he])) (by simp [execOp, he, denV])
  | binOp op T y z T' =>
    obtain ⟨v, u, hv, hu, h⟩ := bind2_some h
    split at h
    · rename_i hT
      unfold evBinE at h
      split at h
      · rename_i r' hr'
        simp only [Option.some.injEq] at h; subst h
        obtain ⟨e1, e2, _, _⟩ := evBin_pure hr'
        refine fin (s := do eqGuard op T y z (a.eval y) (a.eval z); binOp op T (a.eval y) (a.eval z)) (.pure e1 e2 ?_) rfl
        rw [hx _ _ hv, hx _ _ hu]
        exact evBin_ok hr' hf hasr T (isBoolT_ok hT) y z
      · obtain ⟨e1, e2⟩ := evEq_pure h
        refine fin (s := do eqGuard op T y z (a.eval y) (a.eval z); binOp op T (a.eval y) (a.eval z)) (.pure e1 e2 ?_) rfl
        rw [hx _ _ hv, hx _ _ hu]
        exact evEq_ok h hf y z
    · simp at h
  | unOp op T y =>
    obtain ⟨v, hv, h⟩ := bind1_some h
    exact fin (s := Op.unary op (a.eval y)) (by rw [hx _ _ hv]; exact evUn_ok h hf) rfl
  | convert s d y =>
    obtain ⟨v, hv, h⟩ := bind1_some h
    exact fin (s := convert s d (a.eval y)) (by rw [hx _ _ hv]; exact evConv_ok h hf) rfl
  | makeSlice T l c =>
    obtain ⟨v, u, hv, hu, h⟩ := bind2_some h
    exact fin (s := Instr.makeSlice T (a.eval l) (a.eval c)) (by rw [hx _ _ hv, hx _ _ hu]; exact evMake_ok h hf) rfl
  | makeFunc f y z =>
    cases f with
    | func f =>
      simp only [evOp] at h
      split at h
      · rename_i l r' hl hr
        simp only [Option.some.injEq] at h; subst h
        refine fin (s := Instr.makeFunc (.func f) (y.map a.eval) (z.map a.eval)) (.pure rfl rfl ?_) rfl
        have e1 := opdL_ok hx _ _ hl
        have e2 := opdL_ok hx _ _ hr
        have g1 : y.map a.eval = (y.toList.map a.eval).toArray := by apply Array.ext'; simp
        have g2 : z.map a.eval = (z.toList.map a.eval).toArray := by apply Array.ext'; simp
        simp only [Instr.makeFunc, Sem.run_pure, val, denV, denL_map, ← e1, ← e2, g1, g2]
      · simp at h
    | _ => simp [evOp] at h
  | slice T y lo hi mx =>
    simp only [evOp] at h
    split at h
    · rename_i l' h' m' hl hh hm
      obtain ⟨v, hv, h⟩ := bind1_some h
      refine fin (s := Instr.sliceAt T (a.eval y) (lo.map a.eval) (hi.map a.eval) (mx.map a.eval)) ?_ rfl
      rw [hx _ _ hv, opdO_ok hx hl, opdO_ok hx hh, opdO_ok hx hm]
      split at h
      · exact evSliceL_ok h hf hasr
      · exact evSlice_ok h hf
    · simp at h
  | fieldAddr T y f =>
    obtain ⟨v, hv, h⟩ := bind1_some h
    exact fin (s := Instr.fieldAt T (a.eval y) f) (by rw [hx _ _ hv]; exact evFieldAddr_ok h) rfl
  | field T y f =>
    obtain ⟨v, hv, h⟩ := bind1_some h
    exact fin (s := Instr.field T (a.eval y) f) (by rw [hx _ _ hv]; exact evField_ok h) rfl
  | indexAddr T y i =>
    obtain ⟨v, u, hv, hu, h⟩ := bind2_some h
    exact fin (s := Instr.indexAt T (a.eval y) (a.eval i)) (by rw [hx _ _ hv, hx _ _ hu]; exact evIndexAddr_ok hC.ld h hf hasr hb) rfl
  | index T y i =>
    obtain ⟨v, u, hv, hu, h⟩ := bind2_some h
    exact fin (s := Instr.index T (a.eval y) (a.eval i)) (by rw [hx _ _ hv, hx _ _ hu]; exact evIndex_ok h hf hasr) rfl
  | extract y i =>
    obtain ⟨v, hv, h⟩ := bind1_some h
    exact fin (s := Instr.extract (a.eval y) i) (by rw [hx _ _ hv]; exact evExtract_ok h) rfl
  | call c =>
    simp only [evOp, evCall] at h
    split at h
    · rename_i args ha
      have he := opdL_ok hx _ _ ha
      obtain ⟨callee, cargs, ctys⟩ := c
      simp only at ha he h
      have hargs : cargs.map a.eval = (args.map (denV ρ η)).toArray := by
        apply Array.ext'; simp [he]
      split at h
      · split at h
        · rename_i T v hT
          have hT' : ctys = #[T] := by apply Array.ext'; simpa using hT
          refine fin (s := Builtin.len_ ctys ty (cargs.map a.eval)) ?_ ?_
          · rw [hT', hargs]; exact evLen_ok h hf hasr
          · simp [execOp, resolve, invoke, builtin]
        · simp at h
      · split at h
        · rename_i T T' s x hT
          split at h
          · rename_i hTT
            have hTT : T = T' := by simpa using hTT
            subst hTT
            have hT' : ctys = #[T, T] := by apply Array.ext'; simpa using hT
            refine fin (s := Builtin.append_ ctys ty (cargs.map a.eval)) ?_ ?_
            · rw [hT', hargs]; exact evAppend_ok h hb
            · simp [execOp, resolve, invoke, builtin]
          · simp at h
        · simp at h
      · split at h
        · rename_i T T' d x hT
          have hT' : ctys = #[T, T'] := by apply Array.ext'; simpa using hT
          refine fin (s := Builtin.copy_ ctys ty (cargs.map a.eval)) ?_ ?_
          · rw [hT', hargs]; exact evCopy_ok h hb
          · simp [execOp, resolve, invoke, builtin]
        · simp at h
      · refine fin (s := Builtin.min_ ctys ty (cargs.map a.eval)) ?_ ?_
        · rw [hargs]; exact evMin_ok h hf _ _ _ rfl
        · simp [execOp, resolve, invoke, builtin]
      · refine fin (s := Builtin.max_ ctys ty (cargs.map a.eval)) ?_ ?_
        · rw [hargs]; exact evMax_ok h hf _ _ _ rfl
        · simp [execOp, resolve, invoke, builtin]
      · rename_i f
        split at h
        · rename_i f' first cap hfv
          split at h
          · rename_i con hcon
            have hev := hx _ _ hfv
            obtain ⟨hbody, hcl⟩ := hC.fn _ _ hcon
            obtain ⟨_, hcalls⟩ := hcl _ _ _ _ _ _ h ρ η w hf hcal hasr hb hbn
            unfold BodyOK at hbody
            split at hbody
            · rename_i fn hfn
              simp only [Bool.and_eq_true, bne_iff_ne, ne_eq] at hbody
              have hnone : ¬ fn.body = none := by cases hb' : fn.body <;> simp_all
              unfold Oper.wp execOp
              have e0 : ((first ++ args ++ cap).map (denV ρ η)).toArray = (denL ρ η first).toArray ++ cargs.map a.eval ++ (denL ρ η cap).toArray := by
                rw [hargs]; simp [denL_map]
              have hrun : (do let d ← resolve a.eval { callee := .value f, args := cargs, argTypes := ctys } ty; invoke d.target d.args).run P w =
                  .ok (.enter f' ((first ++ args ++ cap).map (denV ρ η)).toArray) w := by
                rw [e0]
                simp [resolve, hev, denV, Deferred.ofValue, invoke, callFunc, hfn, hbody.2, hnone]
              simp only [hrun, Oper.upon]
              refine hcalls.mono fun e w' he => ?_
              obtain ⟨η', rfl, hE⟩ := he
              exact hK η' w' hE
            · simp at hbody
          · simp at h
        · simp at h
      · simp at h
    · simp at h
  | _ => simp [evOp] at h
end Go.Proofs.Ytnnnmdmniceenaa.Ev
