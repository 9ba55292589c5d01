/- Slices of slices; the law of all operations that change no memory. -/
import Derived.Test.YtcedkkleclhglaaHaE
set_option linter.unusedSimpArgs false
set_option linter.unusedVariables false
set_option linter.unusedSectionVars false
namespace Go.Proofs.Ytcedkkleclhglaa.H
section
variable {P : Program} {w : World} {K : Nat → Prop} {β : Nat → Loc} {s : St}
/-- The values of an operation's operands that may be missing. -/
def OI (lo : Option Value) (l : Option Int) : Prop := (lo = none ∧ l = none) ∨ ∃ k z, lo = some (.int k z) ∧ l = some z
theorem optI_ok {n : Nat} {T : Tm} {a : Act} (hT : RT w K β n T a) {lo : Option Operand} {l : Option Int} (h : optI T lo = some l) : OI (lo.map a.eval) l := by
  cases lo with
  | none => simp only [optI, Option.some.injEq] at h; subst h; exact .inl ⟨rfl, rfl⟩
  | some x =>
    simp only [optI] at h
    split at h
    · rename_i v hv
      split at h
      · rename_i k z hz
        simp only [Option.some.injEq] at h; subst h
        exact .inr ⟨k, z, by simp [R_asI (opd_ok hT hv) hz], rfl⟩
      · cases h
    · cases h
theorem run_bounds {lo hi : Option Value} {l h : Option Int} (hl : OI lo l) (hh : OI hi h) (b : Bool) (n c : Nat) (h0 : 0 ≤ l.getD 0) (h1 : l.getD 0 ≤ h.getD n) (h2 : h.getD n ≤ c) (hn : n ≤ c) :
    (Instr.sliceBounds b n c lo hi none).run P w = .ok ((l.getD 0).toNat, (h.getD n).toNat, c) w := by
  have bd := fun (k : IntKind) (z : Int) (y : Nat) (code : BoundsCode) (g0 : 0 ≤ z) (g1 : z ≤ y) => run_sliceBound (P := P) w k z y code g0 g1
  rcases hh with ⟨rfl, rfl⟩ | ⟨k', zh, rfl, rfl⟩
  · simp only [Option.getD_none] at h1 h2 ⊢
    rcases hl with ⟨rfl, rfl⟩ | ⟨k, z, rfl, rfl⟩
    · simp [Instr.sliceBounds]
    · simp only [Option.getD_some] at h0 h1 ⊢
      simp [Instr.sliceBounds, bd k z n _ h0 h1]
  · simp only [Option.getD_some] at h1 h2 ⊢
    rcases hl with ⟨rfl, rfl⟩ | ⟨k, z, rfl, rfl⟩
    · simp only [Option.getD_none] at h1
      simp [Instr.sliceBounds, bd k' zh c _ h1 h2]
    · simp only [Option.getD_some] at h0 h1 ⊢
      simp [Instr.sliceBounds, bd k' zh c _ (by omega) h2, bd k z zh.toNat _ h0 (by omega)]
theorem run_bounds3 {lo : Option Value} {l : Option Int} {k k' : IntKind} (hl : OI lo l) (n c : Nat) (h0 : 0 = l.getD 0) :
    (Instr.sliceBounds true n c lo (some (.int k 0)) (some (.int k' 0))).run P w = .ok (0, 0, 0) w := by
  have bd := fun (k : IntKind) (y : Nat) (code : BoundsCode) => run_sliceBound (P := P) w k 0 y code (by omega) (by omega)
  rcases hl with ⟨rfl, rfl⟩ | ⟨k, z, rfl, rfl⟩
  · simp [Instr.sliceBounds, bd]
  · simp only [Option.getD_some] at h0; subst h0
    simp [Instr.sliceBounds, bd]
theorem slc_ok {T el : TypeId} {sz : Nat} {x : AV} {ux : Value} {lo hi mx : Option Value} {l h m : Option Int} {C : Prop} {v : AV} (he : slcA s sz x l h m = some (C, v)) (hC : C) (hz : Cz w K β s) (hx : R w K β s.length x ux)
    (hl : OI lo l) (hh : OI hi h) (hm : OI mx m) (hs : sizeT P el = some sz) (hu : P.underlying T = some (.slice el)) : Gives P w K β s.length v (Instr.sliceAt T ux lo hi mx) := by
  unfold slcA at he
  split at he
  · obtain rfl : mx = none := by
      rcases hm with ⟨h, _⟩ | ⟨_, _, _, h⟩
      · exact h
      · cases h
    -- a list that is pure
    have lst : ∀ (a : Option Addr) (cap k : Nat) (rows : List (List D)) (H : Int), H = h.getD rows.length → rows.length ≤ cap → (rows.length = 0 ∨ ∃ x, a = some x ∧ RRows w K k rows x) →
        0 ≤ l.getD 0 → l.getD 0 ≤ H → H ≤ rows.length → (k = sz ∨ rows = []) →
        ∃ a', (Instr.sliceAt T (.slice a rows.length cap) lo hi none).run P w = .ok (.slice a' (H.toNat - (l.getD 0).toNat) (cap - (l.getD 0).toNat)) w ∧
          (H.toNat - (l.getD 0).toNat = 0 ∨ ∃ x, a' = some x ∧ RRows w K k ((rows.drop (l.getD 0).toNat).take (H.toNat - (l.getD 0).toNat)) x) := by
      intro a cap k rows H hH hcap hr h0 h1 h2 hk
      subst hH
      have hb := run_bounds (P := P) (w := w) hl hh true rows.length cap h0 h1 (by omega) hcap
      refine ⟨if cap = (l.getD 0).toNat then a else a.map (·.add ((l.getD 0).toNat * sz)), ?_, ?_⟩
      · simp only [Instr.sliceAt, Sem.run_bind, run_underlying hu, Result.andThen_ok, Instr.slice, hb, run_sizeOf hs, Sem.run_pure]
      · by_cases h9 : (h.getD rows.length).toNat - (l.getD 0).toNat = 0
        · exact .inl h9
        · right
          have hne : rows.length ≠ 0 := by omega
          rcases hr with hr | ⟨x, rfl, hr⟩
          · exact absurd hr hne
          · rw [if_neg (by omega)]
            have hk : k = sz := by
              rcases hk with hk | hk
              · exact hk
              · subst hk; simp at hne
            subst hk
            exact ⟨_, rfl, RRows_take (RRows_drop hr _) _⟩
    split at he
    · rename_i id off len
      split at he
      · rename_i T' k' cs hc
        split at he
        · rename_i hk
          simp only [Option.some.injEq, Prod.mk.injEq] at he; obtain ⟨rfl, rfl⟩ := he
          simp only [R] at hx
          obtain ⟨hid, x, c, rfl, h2, h3, h4⟩ := hx
          have hkk : (β id).k = sz := by obtain ⟨_, _, _, _, _, _, _, h5, _⟩ := hz.cells (cellsOf_some hc); exact h5.trans hk
          have hb := run_bounds (P := P) (w := w) hl hh true len c hC.1 hC.2.1 (by omega) h2
          refine ⟨_, by simp only [Instr.sliceAt, Sem.run_bind, run_underlying hu, Result.andThen_ok, Instr.slice, hb, run_sizeOf hs, Sem.run_pure]; rfl, ?_⟩
          simp only [R]
          refine ⟨hid, if c = (l.getD 0).toNat then x else x.add ((l.getD 0).toNat * sz), c - (l.getD 0).toNat, ?_, ?_, ?_, ?_⟩
          · split <;> rfl
          · have := hC.2.2; omega
          · have : (l.getD 0).toNat ≤ c := by have := hC.2.2; omega
            omega
          · intro hpos
            rw [if_neg (by omega), h4 (by omega), add_addr, Nat.add_assoc, hkk, Nat.add_mul]
        · cases he
      · cases he
    · rename_i k rows
      simp only [Option.some.injEq, Prod.mk.injEq] at he; obtain ⟨rfl, rfl⟩ := he
      simp only [R, RD] at hx
      obtain ⟨a, cap, rfl, hcap, hr⟩ := hx
      obtain ⟨a', e1, e2⟩ := lst a cap k rows _ rfl hcap hr hC.1 hC.2.1 hC.2.2.1 hC.2.2.2
      have hlen : ((rows.drop (l.getD 0).toNat).take ((h.getD rows.length).toNat - (l.getD 0).toNat)).length = (h.getD rows.length).toNat - (l.getD 0).toNat := by
        simp only [List.length_take, List.length_drop]; have := hC.2.2.1; omega
      refine ⟨_, e1, ?_⟩
      simp only [R, RD]
      refine ⟨a', cap - (l.getD 0).toNat, by rw [hlen], by rw [hlen]; have := hC.2.2.1; omega, ?_⟩
      rw [hlen]; exact e2
    · rename_i k rows
      simp only [R] at hx
      obtain ⟨a, rfl, hr⟩ := hx
      split at he
      · simp only [Option.some.injEq, Prod.mk.injEq] at he; obtain ⟨rfl, rfl⟩ := he
        obtain ⟨a', e1, e2⟩ := lst a rows.length k rows rows.length (by simp) (Nat.le_refl _) hr hC.1 hC.2.1 (Int.le_refl _) hC.2.2
        refine ⟨_, e1, ?_⟩
        simp only [R]
        refine ⟨a', by simp, ?_⟩
        simp only [List.length_drop]
        rcases e2 with e2 | ⟨x, e2, e3⟩
        · left; simpa using e2
        · right
          refine ⟨x, e2, ?_⟩
          have : List.take ((rows.length : Int).toNat - (l.getD 0).toNat) (List.drop (l.getD 0).toNat rows) = List.drop (l.getD 0).toNat rows := by
            apply List.take_of_length_le; simp
          rw [this] at e3; exact e3
      · rename_i hv
        simp only [Option.some.injEq, Prod.mk.injEq] at he; obtain ⟨rfl, rfl⟩ := he
        obtain ⟨a', e1, e2⟩ := lst a rows.length k rows hv rfl (Nat.le_refl _) hr hC.1 hC.2.1 hC.2.2.1 hC.2.2.2
        have hlen : ((rows.drop (l.getD 0).toNat).take (hv.toNat - (l.getD 0).toNat)).length = hv.toNat - (l.getD 0).toNat := by
          simp only [List.length_take, List.length_drop]; have := hC.2.2.1; omega
        refine ⟨_, e1, ?_⟩
        simp only [R, RD]
        refine ⟨a', rows.length - (l.getD 0).toNat, by rw [hlen], by rw [hlen]; have := hC.2.2.1; omega, ?_⟩
        rw [hlen]; exact e2
    · cases he
  · rename_i m'
    obtain ⟨k3, rfl⟩ : ∃ k3, mx = some (.int k3 m') := by
      rcases hm with ⟨_, h⟩ | ⟨k, z, h1, h2⟩
      · cases h
      · simp only [Option.some.injEq] at h2; subst h2; exact ⟨k, h1⟩
    have go : ∀ (a : Option Addr) (len cap : Nat), 0 = l.getD 0 → m' = 0 → h = some 0 → Gives P w K β s.length (.ful sz []) (Instr.sliceAt T (.slice a len cap) lo hi (some (.int k3 m'))) := by
      intro a len cap h0 h1 h2
      subst h1 h2
      obtain ⟨k4, rfl⟩ : ∃ k4, hi = some (.int k4 0) := by
        rcases hh with ⟨_, h⟩ | ⟨k, z, h1, h2⟩
        · cases h
        · simp only [Option.some.injEq] at h2; subst h2; exact ⟨k, h1⟩
      refine ⟨_, by simp only [Instr.sliceAt, Sem.run_bind, run_underlying hu, Result.andThen_ok, Instr.slice, run_bounds3 (P := P) (w := w) hl len cap h0, run_sizeOf hs, Sem.run_pure]; rfl, ?_⟩
      simp only [R]
      exact ⟨a, by simp, .inl rfl⟩
    split at he
    · simp only [Option.some.injEq, Prod.mk.injEq] at he; obtain ⟨rfl, rfl⟩ := he
      simp only [R] at hx
      obtain ⟨_, a, c, rfl, _⟩ := hx
      exact go _ _ _ hC.1 hC.2.1 hC.2.2
    · simp only [Option.some.injEq, Prod.mk.injEq] at he; obtain ⟨rfl, rfl⟩ := he
      simp only [R, RD] at hx
      obtain ⟨a, c, rfl, _⟩ := hx
      exact go _ _ _ hC.1 hC.2.1 hC.2.2
    · simp only [Option.some.injEq, Prod.mk.injEq] at he; obtain ⟨rfl, rfl⟩ := he
      simp only [R] at hx
      obtain ⟨a, rfl, _⟩ := hx
      exact go _ _ _ hC.1 hC.2.1 hC.2.2
    · cases he
theorem slcs_ok {T : TypeId} {x : AV} {ux : Value} {lo hi : Option Value} {l h : Option Int} {C : Prop} {v : AV} {n : Nat} (he : slcsA x l h = some (C, v)) (hC : C) (hx : R w K β n x ux)
    (hl : OI lo l) (hh : OI hi h) (hu : P.underlying T = some .string) : Gives P w K β n v (Instr.sliceAt T ux lo hi none) := by
  unfold slcsA at he
  split at he
  · rename_i b hb
    simp only [Option.some.injEq, Prod.mk.injEq] at he; obtain ⟨rfl, rfl⟩ := he
    rw [R_asS hx hb]
    have hbd := run_bounds (P := P) (w := w) hl hh false b.size b.size hC.1 hC.2.1 hC.2.2 (Nat.le_refl _)
    refine ⟨_, ?_, R_str _⟩
    simp only [Instr.sliceAt, Sem.run_bind, run_underlying hu, Result.andThen_ok, Instr.slice, Option.isSome_none, Bool.false_eq_true, if_false, hbd, Sem.run_pure]
  · cases he
theorem opdL_arr {n : Nat} {T : Tm} {a : Act} (hT : RT w K β n T a) {x : Array Operand} {l : List AV} (h : opdL T x.toList = some l) : ∃ us, (x.map a.eval) = us.toArray ∧ RL w K β n l us :=
  ⟨x.toList.map a.eval, by apply Array.ext'; simp, opdL_ok hT h⟩
/-- The law of all of them. -/
theorem evF_ok {o : Op} {c : FO} (hc : cop P o = some c) {T : Tm} {C : Prop} {v : AV} (he : evF s T c = some (C, v)) (hC : C) (hz : Cz w K β s) {a : Act} (hT : RT w K β s.length T a) (dst : Option Nat) (ty : TypeId) (pos : String) (aft : Array Edge) (grd : Option (Nat × Bool)) :
    ∃ u, (execOp a.eval { dst := dst, op := o, type := ty, pos := pos, after := aft, guard := grd }).run P w = .ok (.value u) w ∧ R w K β s.length v u := by
  have fin : ∀ {r : Sem Value}, Gives P w K β s.length v r → (execOp a.eval { dst := dst, op := o, type := ty, pos := pos, after := aft, guard := grd } = (do pure (.value (← r)))) →
      ∃ u, (execOp a.eval { dst := dst, op := o, type := ty, pos := pos, after := aft, guard := grd }).run P w = .ok (.value u) w ∧ R w K β s.length v u := by
    intro r hr he
    obtain ⟨u, e1, e2⟩ := hr
    exact ⟨u, by rw [he]; simp only [Sem.run_bind, e1, Result.andThen_ok, Sem.run_pure], e2⟩
  have pu : ∀ {u : Value}, R w K β s.length v u → Gives P w K β s.length v (pure u) := fun h => ⟨_, by simp, h⟩
  cases o with
  | move x =>
    simp only [cop, Option.some.injEq] at hc; subst hc
    simp only [evF] at he
    split at he
    · rename_i v' hv
      simp only [Option.some.injEq, Prod.mk.injEq] at he; obtain ⟨rfl, rfl⟩ := he
      exact fin (pu (opd_ok hT hv)) rfl
    · cases he
  | pick x y z =>
    simp only [cop, Option.some.injEq] at hc; subst hc
    simp only [evF] at he
    split at he
    · rename_i vc hvc
      have hr := opd_ok hT hvc
      split at he
      · rename_i hb
        rw [asB_some hb] at hr
        split at he
        · rename_i v' hv
          simp only [Option.some.injEq, Prod.mk.injEq] at he; obtain ⟨rfl, rfl⟩ := he
          refine fin (r := do pure (if ← asBool (a.eval x) then a.eval y else a.eval z)) ⟨a.eval y, ?_, opd_ok hT hv⟩ (by simp [execOp])
          rw [R_AB hr]; simp [asBool]
        · cases he
      · rename_i hb
        rw [asB_some hb] at hr
        split at he
        · rename_i v' hv
          simp only [Option.some.injEq, Prod.mk.injEq] at he; obtain ⟨rfl, rfl⟩ := he
          refine fin (r := do pure (if ← asBool (a.eval x) then a.eval y else a.eval z)) ⟨a.eval z, ?_, opd_ok hT hv⟩ (by simp [execOp])
          rw [R_AB hr]; simp [asBool]
        · cases he
      · cases he
    · cases he
  | binOp op ty' x y ty2 =>
    have f1 := fun h => fin (r := do eqGuard op ty' x y (a.eval x) (a.eval y); binOp op ty' (a.eval x) (a.eval y)) h rfl
    simp only [cop] at hc
    split at hc
    · rename_i k hu
      split at hc <;> simp only [Option.some.injEq] at hc <;> subst hc <;> simp only [evF] at he <;> split at he
      · rename_i va vb hva hvb
        exact f1 (shfA_ok he hC (opd_ok hT hva) (opd_ok hT hvb) ty' x y)
      · cases he
      · rename_i va vb hva hvb
        exact f1 (binA_ok he hC (opd_ok hT hva) (opd_ok hT hvb) ty' x y)
      · cases he
    · rename_i hu
      simp only [Option.some.injEq] at hc; subst hc; simp only [evF] at he; split at he
      · rename_i va vb hva hvb
        exact f1 (binbA_ok he (opd_ok hT hva) (opd_ok hT hvb) ty' hu x y)
      · cases he
    · rename_i hu
      simp only [Option.some.injEq] at hc; subst hc; simp only [evF] at he; split at he
      · rename_i va vb hva hvb
        exact f1 (binsA_ok he hC (opd_ok hT hva) (opd_ok hT hvb) ty' x y)
      · cases he
    · rename_i fs hu
      split at hc
      · cases hc
      · rename_i hg
        split at hc
        · rename_i sh hs
          simp only [Option.some.injEq] at hc; subst hc; simp only [evF] at he; split at he
          · rename_i va vb hva hvb
            exact f1 (eqlA_ok he (opd_ok hT hva) (opd_ok hT hvb) ty' hu (by simpa using hg) hs rfl x y)
          · cases he
        · rename_i sh hs
          simp only [Option.some.injEq] at hc; subst hc; simp only [evF] at he; split at he
          · rename_i va vb hva hvb
            exact f1 (eqlA_ok he (opd_ok hT hva) (opd_ok hT hvb) ty' hu (by simpa using hg) hs rfl x y)
          · cases he
        · cases hc
    · cases hc
  | unOp op ty' x =>
    simp only [cop, Option.some.injEq] at hc; subst hc; simp only [evF] at he; split at he
    · rename_i va hva
      exact fin (r := Op.unary op (a.eval x)) (unA_ok he (opd_ok hT hva)) rfl
    · cases he
  | convert src dst' x =>
    simp only [cop] at hc
    split at hc
    · rename_i k1 k2 h1 h2
      simp only [Option.some.injEq] at hc; subst hc; simp only [evF] at he; split at he
      · rename_i va hva
        exact fin (r := convert src dst' (a.eval x)) (convA_ok he (opd_ok hT hva) h1 h2) rfl
      · cases he
    · cases hc
  | nilCheck x =>
    simp only [cop, Option.some.injEq] at hc; subst hc; simp only [evF] at he; split at he
    · rename_i va hva
      have hr := opd_ok hT hva
      unfold nilcA at he
      split at he <;> simp only [Option.some.injEq, Prod.mk.injEq, reduceCtorEq] at he
      · obtain ⟨rfl, rfl⟩ := he
        have hr' := hr
        simp only [R] at hr'
        exact fin (r := pure (a.eval x)) (pu hr) (by simp [execOp, hr'.2])
      · obtain ⟨rfl, rfl⟩ := he
        have hr' := hr
        simp only [R] at hr'
        obtain ⟨_, hr', _⟩ := hr'
        exact fin (r := pure (a.eval x)) (pu hr) (by simp [execOp, hr'])
      · obtain ⟨rfl, rfl⟩ := he
        have hr' := hr
        simp only [R] at hr'
        obtain ⟨_, _, hr', _⟩ := hr'
        exact fin (r := pure (a.eval x)) (pu hr) (by simp [execOp, hr'])
    · cases he
  | field ty' x f =>
    simp only [cop] at hc
    split at hc
    · rename_i fs hu
      split at hc
      · rename_i fd hfd
        split at hc
        · rename_i r hr
          simp only [Option.some.injEq] at hc; subst hc; simp only [evF] at he; split at he
          · rename_i l hva
            split at he
            · rename_i v' hv
              simp only [Option.some.injEq, Prod.mk.injEq] at he; obtain ⟨rfl, rfl⟩ := he
              have hx := opd_ok hT hva
              simp only [R] at hx
              obtain ⟨us, hx, hl⟩ := hx
              obtain ⟨u, e1, e2⟩ := run_part (P := P) hr hl hv w
              exact fin (r := Instr.field ty' (a.eval x) f) ⟨u, by rw [hx]; simp [Instr.field, run_underlying hu, hfd, asAgg, e1], e2⟩ rfl
            · cases he
          · cases he
        · cases hc
      · cases hc
    · cases hc
  | extract x i =>
    simp only [cop, Option.some.injEq] at hc; subst hc; simp only [evF] at he; split at he
    · rename_i l hva
      split at he
      · rename_i v' hv
        simp only [Option.some.injEq, Prod.mk.injEq] at he; obtain ⟨rfl, rfl⟩ := he
        have hx := opd_ok hT hva
        simp only [R] at hx
        obtain ⟨us, hx, hl⟩ := hx
        obtain ⟨u, e1, e2⟩ := RL_get hl hv
        exact fin (r := Instr.extract (a.eval x) i) ⟨u, by rw [hx]; simp [Instr.extract, e1], e2⟩ rfl
      · cases he
    · cases he
  | build ty' ps =>
    simp only [cop] at hc
    split at hc
    · rename_i z g hz hg
      split at hc
      · rename_i qs hq
        simp only [Option.some.injEq] at hc; subst hc; simp only [evF] at he; split at he
        · rename_i rs hr
          split at he
          · rename_i cs hf
            simp only [Option.some.injEq, Prod.mk.injEq] at he; obtain ⟨rfl, rfl⟩ := he
            exact fin (build_ok hT hz hg hq hr hf) rfl
          · cases he
        · cases he
      · cases hc
    · cases hc
  | makeFunc f x y =>
    cases f with
    | func f =>
      simp only [cop, Option.some.injEq] at hc; subst hc; simp only [evF] at he; split at he
      · rename_i l r hl hr
        simp only [Option.some.injEq, Prod.mk.injEq] at he; obtain ⟨rfl, rfl⟩ := he
        obtain ⟨us, e1, e2⟩ := opdL_arr hT hl
        obtain ⟨vs, e3, e4⟩ := opdL_arr hT hr
        exact fin (r := Instr.makeFunc (.func f) (x.map a.eval) (y.map a.eval)) ⟨.func (.func f) us.toArray vs.toArray, by simp only [Instr.makeFunc, Sem.run_pure, e1, e3], by simp only [R]; exact ⟨us, vs, rfl, e2, e4⟩⟩ rfl
      · cases he
    | _ => simp [cop] at hc
  | fieldAddr ty' x f =>
    simp only [cop] at hc
    split at hc
    · rename_i fs hu
      split at hc
      · rename_i fd hfd
        split at hc
        · rename_i m hs
          simp only [Option.some.injEq] at hc; subst hc; simp only [evF] at he; split at he
          · rename_i id j o hva
            simp only [Option.some.injEq, Prod.mk.injEq] at he; obtain ⟨rfl, rfl⟩ := he
            have hx := opd_ok hT hva
            simp only [R] at hx
            refine fin (r := Instr.fieldAt ty' (a.eval x) f) ⟨_, ?_, by simp only [R]; exact ⟨hx.1, rfl⟩⟩ rfl
            rw [hx.2]
            simp [Instr.fieldAt, run_underlying hu, hfd, Instr.sureAddr, fieldPlace, run_sizeOf hs, add_addr, Nat.add_assoc]
          · rename_i k rows i o hva
            simp only [Option.some.injEq, Prod.mk.injEq] at he; obtain ⟨rfl, rfl⟩ := he
            have hx := opd_ok hT hva
            simp only [R] at hx
            obtain ⟨y, hx, h2, h3⟩ := hx
            refine fin (r := Instr.fieldAt ty' (a.eval x) f) ⟨_, ?_, by simp only [R]; exact ⟨y, rfl, h2, h3⟩⟩ rfl
            rw [hx]
            simp [Instr.fieldAt, run_underlying hu, hfd, Instr.sureAddr, fieldPlace, run_sizeOf hs, Addr_add_add, Nat.add_assoc]
          · cases he
        · cases hc
      · cases hc
    · cases hc
  | indexAddr ty' x i =>
    simp only [cop] at hc
    split at hc
    · rename_i el hu
      split at hc
      · rename_i sz hs
        simp only [Option.some.injEq] at hc; subst hc; simp only [evF] at he; split at he
        · rename_i va vb hva hvb
          exact fin (r := Instr.indexAt ty' (a.eval x) (a.eval i)) (iaddr_ok he hC hz (opd_ok hT hva) (opd_ok hT hvb) hs hu) rfl
        · cases he
      · cases hc
    · rename_i m el hu
      split at hc
      · rename_i sz hs
        simp only [Option.some.injEq] at hc; subst hc; simp only [evF] at he; split at he
        · rename_i va vb hva hvb
          exact fin (r := Instr.indexAt ty' (a.eval x) (a.eval i)) (iaddr_ok he hC hz (opd_ok hT hva) (opd_ok hT hvb) hs hu) rfl
        · cases he
      · cases hc
    · cases hc
  | index ty' x i =>
    simp only [cop] at hc
    split at hc
    · rename_i m el hu
      split at hc
      · rename_i sz r hs hr
        simp only [Option.some.injEq] at hc; subst hc; simp only [evF] at he; split at he
        · rename_i va vb hva hvb
          exact fin (r := Instr.index ty' (a.eval x) (a.eval i)) (idx_ok he hC (opd_ok hT hva) (opd_ok hT hvb) hs hr hu) rfl
        · cases he
      · cases hc
    · rename_i hu
      simp only [Option.some.injEq] at hc; subst hc; simp only [evF] at he; split at he
      · rename_i va vb hva hvb
        exact fin (r := Instr.index ty' (a.eval x) (a.eval i)) (sidx_ok he hC (opd_ok hT hva) (opd_ok hT hvb) hu) rfl
      · cases he
    · cases hc
  | load ty' x =>
    simp only [cop] at hc
    split at hc
    · rename_i r hr
      simp only [Option.some.injEq] at hc; subst hc; simp only [evF] at he; split at he
      · rename_i va hva
        exact fin (r := Instr.loadAt ty' (a.eval x)) (load_ok hr he hC hz (opd_ok hT hva)) rfl
      · cases he
    · cases hc
  | slice ty' x lo hi mx =>
    simp only [cop] at hc
    split at hc
    · rename_i el hu
      split at hc
      · rename_i sz hs
        simp only [Option.some.injEq] at hc; subst hc; simp only [evF] at he; split at he
        · rename_i va l h m hva hl hh hm
          exact fin (r := Instr.sliceAt ty' (a.eval x) (lo.map a.eval) (hi.map a.eval) (mx.map a.eval)) (slc_ok he hC hz (opd_ok hT hva) (optI_ok hT hl) (optI_ok hT hh) (optI_ok hT hm) hs hu) rfl
        · cases he
      · cases hc
    · rename_i m el hu
      split at hc
      · rename_i sz hs
        simp only [Option.some.injEq] at hc; subst hc; simp only [evF] at he; split at he
        · rename_i id j off hva
          split at he
          · rename_i hpos
            simp only [Option.some.injEq, Prod.mk.injEq] at he; obtain ⟨rfl, rfl⟩ := he
            have hx := opd_ok hT hva
            simp only [R] at hx
            refine fin (r := Instr.sliceAt ty' (a.eval x) none none none) ⟨.slice (some ⟨(β id).b, (β id).base + (j * (β id).k + off), none⟩) m m, ?_, by simp [R, hx.1]⟩ rfl
            rw [hx.2]
            simp [Instr.sliceAt, run_underlying hu, Instr.sureAddr, Instr.sliceBounds, run_sizeOf hs, add_addr]
          · cases he
        · cases he
      · cases hc
    · rename_i hu
      split at hc
      · simp only [Option.some.injEq] at hc; subst hc; simp only [evF] at he; split at he
        · rename_i va l h hva hl hh
          exact fin (r := Instr.sliceAt ty' (a.eval x) (lo.map a.eval) (hi.map a.eval) none) (slcs_ok he hC (opd_ok hT hva) (optI_ok hT hl) (optI_ok hT hh) hu) rfl
        · cases he
      · cases hc
    · cases hc
  | call cl =>
    obtain ⟨callee, cargs, ctys⟩ := cl
    cases callee with
    | builtin b =>
      cases b with
      | len =>
        simp only [cop] at hc
        split at hc
        · rename_i T' x hts has
          have hT' : ctys = #[T'] := by apply Array.ext'; simpa using hts
          have hA : cargs = #[x] := by apply Array.ext'; simpa using has
          have f1 := fun h => fin (r := Builtin.len_ ctys ty (cargs.map a.eval)) h (by simp [execOp, resolve, invoke, builtin])
          have hM : cargs.map a.eval = #[a.eval x] := by rw [hA]; simp
          split at hc
          · rename_i el hu
            simp only [Option.some.injEq] at hc; subst hc; simp only [evF] at he; split at he
            · rename_i va hva
              exact f1 (by rw [hT', hM]; exact len_ok he (opd_ok hT hva) hu)
            · cases he
          · rename_i hu
            simp only [Option.some.injEq] at hc; subst hc; simp only [evF] at he; split at he
            · rename_i va hva
              exact f1 (by rw [hT', hM]; exact lens_ok he (opd_ok hT hva) hu)
            · cases he
          · rename_i m el hu
            simp only [Option.some.injEq] at hc; subst hc
            simp only [evF, opd, constA, Option.some.injEq, Prod.mk.injEq] at he; obtain ⟨rfl, rfl⟩ := he
            exact f1 ⟨_, by rw [hT', hA]; simp [Builtin.len_, run_underlying hu, goInt], R_int _ _⟩
          · cases hc
        · cases hc
      | min =>
        simp only [cop, Option.some.injEq] at hc; subst hc; simp only [evF] at he; split at he
        · rename_i l hl
          exact fin (r := Builtin.min_ ctys ty (cargs.map a.eval)) (mm_ok he (opdL_ok hT hl) ctys ty _ (by simp)) (by simp [execOp, resolve, invoke, builtin])
        · cases he
      | max =>
        simp only [cop, Option.some.injEq] at hc; subst hc; simp only [evF] at he; split at he
        · rename_i l hl
          exact fin (r := Builtin.max_ ctys ty (cargs.map a.eval)) (mm_ok he (opdL_ok hT hl) ctys ty _ (by simp)) (by simp [execOp, resolve, invoke, builtin])
        · cases he
      | _ => simp [cop] at hc
    | _ => simp [cop] at hc
  | _ => simp [cop] at hc
end
end Go.Proofs.Ytcedkkleclhglaa.H
