/- Compact operations that change no memory: what they make, and that the model's operations make it. -/
import Derived.Test.YtcedkkleclhglaaHaA
set_option linter.unusedSimpArgs false
set_option linter.unusedVariables false
set_option linter.unusedSectionVars false
namespace Go.Proofs.Ytcedkkleclhglaa.H

/-! ### Temporaries -/
abbrev Tm := List (Nat × AV)
def tget : Tm → Nat → Option AV
  | [], _ => none
  | (j, v) :: l, i => bif j == i then some v else tget l i
def tset (d : Nat) (v : AV) : Tm → Tm
  | [] => [(d, v)]
  | (j, u) :: l => bif j == d then (d, v) :: l else (j, u) :: tset d v l
theorem beqN {i j : Nat} (h : ¬ i = j) : (i == j) = false := beq_eq_false_iff_ne.2 h
theorem tget_tset (d : Nat) (v : AV) (i : Nat) : ∀ T : Tm, tget (tset d v T) i = if d = i then some v else tget T i
  | [] => by by_cases h : d = i <;> simp [tset, tget, h, beqN]
  | (j, u) :: l => by
    simp only [tset]
    by_cases hj : j = d
    · subst hj
      simp only [beq_self_eq_true, cond_true, tget]
      by_cases h : j = i <;> simp [h, beqN]
    · simp only [beqN hj, cond_false, tget, tget_tset d v i l]
      by_cases h : j = i
      · subst h; simp [show ¬ d = j from fun h => hj h.symm]
      · simp [beqN h]
def tput (d : Option Nat) (v : AV) (T : Tm) : Tm := match d with
  | some d => tset d v T
  | none => T
def constA : Value → Option AV
  | .slice none 0 0 => some (.ful 0 [])
  | .slice .. | .pointer (some _) | .tuple _ | .func .. => none
  | .agg cs => if cs.all (fun c => c.oneCell' && !(c matches .slice ..)) then some (.agg (cs.toList.map fun c => .d (.v c))) else none
  | v => some (.d (.v v))
def opd (T : Tm) : Operand → Option AV
  | .tmp i => tget T i
  | .const v => constA v
  | .func f => some (.fn f [] [])
  | .global _ => none
def opdL (T : Tm) : List Operand → Option (List AV)
  | [] => some []
  | x :: l => match opd T x, opdL T l with
    | some v, some r => some (v :: r)
    | _, _ => none
section
variable {w : World} {K : Nat → Prop} {β : Nat → Loc} {n : Nat}
def RT (w : World) (K : Nat → Prop) (β : Nat → Loc) (n : Nat) (T : Tm) (a : Act) : Prop := ∀ i v, tget T i = some v → ∃ u, a.tmps[i]? = some u ∧ R w K β n v u
theorem constA_ok {x : Value} {v : AV} (h : constA x = some v) : R w K β n v x := by
  unfold constA at h
  split at h
  · simp only [Option.some.injEq] at h; subst h
    simp only [R]; exact ⟨none, rfl, .inl rfl⟩
  · cases h
  · cases h
  · cases h
  · cases h
  · rename_i cs
    split at h
    · rename_i hc
      simp only [Option.some.injEq] at h; subst h
      simp only [R]
      refine ⟨cs.toList, by simp, ?_⟩
      have := RL_map (w := w) (K := K) (β := β) (n := n) (f := fun c => AV.d (.v c)) (g := fun c => c) cs.toList fun c hc' => by
        have := Array.all_eq_true'.1 hc c (by simpa using hc')
        simp only [Bool.and_eq_true] at this
        simp only [R, RD]; exact ⟨trivial, this.1⟩
      simpa using this
    · cases h
  · rename_i h1 h2 h3 h4 h5 h6
    simp only [Option.some.injEq] at h; subst h
    simp only [R, RD]
    refine ⟨trivial, ?_⟩
    cases x <;> first | rfl | (exfalso; first | exact h4 _ rfl | exact h6 _ rfl)
theorem opd_ok {T : Tm} {a : Act} (hT : RT w K β n T a) {x : Operand} {v : AV} (h : opd T x = some v) : R w K β n v (a.eval x) := by
  cases x with
  | tmp i =>
    obtain ⟨u, hu, hr⟩ := hT i v h
    simp only [Act.eval]
    rw [Array.getD_eq_getD_getElem?, hu]; exact hr
  | const u => exact constA_ok h
  | func f => simp only [opd, Option.some.injEq] at h; subst h; simp only [Act.eval, R]; exact ⟨[], [], rfl, by simp [RL], by simp [RL]⟩
  | global g => cases h
theorem opdL_ok {T : Tm} {a : Act} (hT : RT w K β n T a) : ∀ {l : List Operand} {r : List AV}, opdL T l = some r → RL w K β n r (l.map a.eval)
  | [], r, h => by simp [opdL] at h; subst h; simp [RL]
  | x :: l, r, h => by
    simp only [opdL] at h
    split at h
    · rename_i v r' h1 h2
      simp only [Option.some.injEq] at h; subst h
      simp only [List.map_cons, RL]
      exact ⟨_, _, rfl, opd_ok hT h1, opdL_ok hT h2⟩
    · cases h
end

/-! ### Shapes of types -/
def aggT (P : Program) (T : TypeId) : Option Bool := match P.underlying T with
  | some (.struct _) | some (.array _ _) => some true
  | some _ => some false
  | none => none
def sizeT (P : Program) (T : TypeId) : Option Nat := (P.info? T).map (·.size)
theorem run_isAgg {P : Program} {T : TypeId} {b : Bool} (h : aggT P T = some b) (w : World) : (isAgg T).run P w = .ok b w := by
  unfold aggT at h
  unfold isAgg
  split at h
  · rename_i hu; rw [Sem.run_bind, run_underlying hu w]; simp at h; subst h; rfl
  · rename_i hu; rw [Sem.run_bind, run_underlying hu w]; simp at h; subst h; rfl
  · rename_i d h1 h2 hu
    rw [Sem.run_bind, run_underlying hu w]
    simp at h; subst h
    cases d <;> first | rfl | (exfalso; first | exact h1 _ rfl | exact h2 _ _ rfl)
  · simp at h
theorem run_sizeOf {P : Program} {T : TypeId} {n : Nat} (h : sizeT P T = some n) (w : World) : (sizeOf T).run P w = .ok n w := by
  unfold sizeT at h
  cases hi : P.info? T with
  | none => simp [hi] at h
  | some i => simp [hi] at h; simp [sizeOf, typeInfo, hi, h]
/-- How a variable of a type is read: 'none': one cell; else so many cells. -/
def rdT (P : Program) (T : TypeId) : Option (Option Nat) := match aggT P T, sizeT P T with
  | some true, some n => some (some n)
  | some false, some _ => some none
  | _, _ => none
/-- Cells from a place on. -/
def cut (sz : Option Nat) (l : List AV) (off : Nat) : Option AV := match sz with
  | none => l[off]?
  | some n => if off + n ≤ l.length then some (.agg ((l.drop off).take n)) else none
def cutD (sz : Option Nat) (r : List D) (off : Nat) : AV := match sz with
  | none => .d (r.getD off default)
  | some n => .agg ((List.range n).map fun c => .d (r.getD (off + c) default))
theorem run_part {P : Program} {T : TypeId} {sz : Option Nat} (h : rdT P T = some sz) {w : World} {K : Nat → Prop} {β : Nat → Loc} {n : Nat} {l : List AV} {us : List Value} (hr : RL w K β n l us) {off : Nat} {v : AV}
    (hv : cut sz l off = some v) (w' : World) : ∃ u, (part T us.toArray off).run P w' = .ok u w' ∧ R w K β n v u := by
  unfold rdT at h
  have hl := RL_length hr
  split at h
  · rename_i m ha hs
    simp only [Option.some.injEq] at h; subst h
    simp only [cut] at hv
    split at hv
    · rename_i hle
      simp only [Option.some.injEq] at hv; subst hv
      refine ⟨.agg ((us.drop off).take m).toArray, ?_, ?_⟩
      · simp [part, run_isAgg ha, run_sizeOf hs, List.extract_eq_take_drop]
      · simp only [R]; exact ⟨_, rfl, RL_take (RL_drop hr off) m⟩
    · cases hv
  · rename_i m ha hs
    simp only [Option.some.injEq] at h; subst h
    simp only [cut] at hv
    obtain ⟨u, hu, hr'⟩ := RL_get hr hv
    exact ⟨u, by simp [part, run_isAgg ha, hu], hr'⟩
  · cases h

/-! ### Equality -/
inductive Sh where
  | num | bool | str | st (fs : List (Nat × Option Nat × Sh))
instance : Inhabited Sh := ⟨.num⟩
def shFs (P : Program) (g : TypeId → Option Sh) : List Field → Option (List (Nat × Option Nat × Sh))
  | [] => some []
  | f :: fs => if f.name ≠ "_" then match rdT P f.type, g f.type, shFs P g fs with
      | some r, some s, some l => some ((f.offset, r, s) :: l)
      | _, _, _ => none
    else shFs P g fs
def shOf (P : Program) : Nat → TypeId → Option Sh
  | 0, _ => none
  | d + 1, t => match P.underlying t with
    | some (.int _) => some .num
    | some .bool => some .bool
    | some .string => some .str
    | some (.struct fs) => if P.stoodInHeld t = true then none else (shFs P (shOf P d) fs.toList).map .st
    | _ => none
def asI : AV → Option (IntKind × Int)
  | .d (.v (.int k z)) => some (k, z)
  | _ => none
def asB : AV → Option Bool
  | .d (.v (.bool b)) => some b
  | _ => none
def asS : AV → Option ByteArray
  | .d (.v (.string s)) => some s
  | _ => none
abbrev AI (k : IntKind) (z : Int) : AV := .d (.v (.int k z))
abbrev AB (b : Bool) : AV := .d (.v (.bool b))
theorem asI_some {v : AV} {k : IntKind} {z : Int} (h : asI v = some (k, z)) : v = AI k z := by
  unfold asI at h; split at h
  · simp only [Option.some.injEq, Prod.mk.injEq] at h; obtain ⟨rfl, rfl⟩ := h; rfl
  · cases h
theorem asB_some {v : AV} {b : Bool} (h : asB v = some b) : v = AB b := by
  unfold asB at h; split at h
  · simp only [Option.some.injEq] at h; subst h; rfl
  · cases h
theorem asS_some {v : AV} {s : ByteArray} (h : asS v = some s) : v = .d (.v (.string s)) := by
  unfold asS at h; split at h
  · simp only [Option.some.injEq] at h; subst h; rfl
  · cases h
mutual
def eqA : Sh → AV → AV → Option Bool
  | .num, x, y => match asI x, asI y with
    | some (k, a), some (l, b) => if k = l then some (decide (a = b)) else none
    | _, _ => none
  | .bool, x, y => match asB x, asB y with
    | some a, some b => some (a == b)
    | _, _ => none
  | .str, x, y => match asS x, asS y with
    | some a, some b => some (a == b)
    | _, _ => none
  | .st fs, x, y => match x, y with
    | .agg xs, .agg ys => eqAs fs xs ys
    | _, _ => none
def eqAs : List (Nat × Option Nat × Sh) → List AV → List AV → Option Bool
  | [], _, _ => some true
  | (off, sz, sh) :: fs, xs, ys => match cut sz xs off, cut sz ys off with
    | some a, some b => match eqA sh a b, eqAs fs xs ys with
      | some p, some q => some (p && q)
      | _, _ => none
    | _, _ => none
end
section
variable {w : World} {K : Nat → Prop} {β : Nat → Loc} {n : Nat}
theorem R_AI {k : IntKind} {z : Int} {u : Value} (h : R w K β n (AI k z) u) : u = .int k z := by simp only [R, RD] at h; exact h.1
theorem R_AB {b : Bool} {u : Value} (h : R w K β n (AB b) u) : u = .bool b := by simp only [R, RD] at h; exact h.1
theorem R_AS {s : ByteArray} {u : Value} (h : R w K β n (.d (.v (.string s))) u) : u = .string s := by simp only [R, RD] at h; exact h.1
theorem R_int (k : IntKind) (z : Int) : R w K β n (AI k z) (.int k z) := by simp [R, RD, Value.oneCell']
theorem R_bool (b : Bool) : R w K β n (AB b) (.bool b) := by simp [R, RD, Value.oneCell']
theorem R_str (s : ByteArray) : R w K β n (.d (.v (.string s))) (.string s) := by simp [R, RD, Value.oneCell']
theorem run_equalIn_string' {P : Program} (w : World) (d : Nat) (t : TypeId) (x y : ByteArray) (hu : P.underlying t = some .string) : (Op.equalIn (d + 1) t (.string x) (.string y)).run P w = .ok (x == y) w := by
  simp [Op.equalIn, run_underlying hu]
theorem eqA_ok {P : Program} : ∀ (d : Nat) (t : TypeId) (sh : Sh) (x y : AV) (ux uy : Value) (b : Bool), shOf P d t = some sh → eqA sh x y = some b → R w K β n x ux → R w K β n y uy → ∀ w', (Op.equalIn d t ux uy).run P w' = .ok b w'
  | 0, _, _, _, _, _, _, _, h, _, _, _ => by simp [shOf] at h
  | d + 1, t, sh, x, y, ux, uy, b, h, he, hx, hy => by
    intro w'
    unfold shOf at h
    split at h
    · rename_i k hu
      simp only [Option.some.injEq] at h; subst h
      simp only [eqA] at he
      split at he
      · rename_i k1 a l1 c h1 h2
        split at he
        · rename_i hk
          subst hk
          simp only [Option.some.injEq] at he; subst he
          rw [asI_some h1] at hx; rw [asI_some h2] at hy
          rw [R_AI hx, R_AI hy, run_equalIn_int w' d t _ k _ _ hu]
          rfl
        · cases he
      · cases he
    · rename_i hu
      simp only [Option.some.injEq] at h; subst h
      simp only [eqA] at he
      split at he
      · rename_i a c h1 h2
        simp only [Option.some.injEq] at he; subst he
        rw [asB_some h1] at hx; rw [asB_some h2] at hy
        rw [R_AB hx, R_AB hy, run_equalIn_bool' w' d t _ _ hu]
      · cases he
    · rename_i hu
      simp only [Option.some.injEq] at h; subst h
      simp only [eqA] at he
      split at he
      · rename_i a c h1 h2
        simp only [Option.some.injEq] at he; subst he
        rw [asS_some h1] at hx; rw [asS_some h2] at hy
        rw [R_AS hx, R_AS hy, run_equalIn_string' w' d t _ _ hu]
      · cases he
    · rename_i fs hu
      split at h
      · cases h
      · rename_i hst
        simp only [Option.map_eq_some_iff] at h
        obtain ⟨l, hl, rfl⟩ := h
        simp only [eqA] at he
        split at he
        · rename_i xs ys
          simp only [R] at hx hy
          obtain ⟨us, rfl, hx⟩ := hx
          obtain ⟨vs, rfl, hy⟩ := hy
          have hfs : P.fieldsOf t = fs := by simp [Program.fieldsOf, hu]
          rw [run_equalIn_struct w' d t _ _ (by rw [hfs]; exact hu) (by simpa using hst), hfs]
          revert hl he
          generalize fs.toList = fl
          intro hl he
          induction fl generalizing b l with
          | nil => simp only [shFs, Option.some.injEq] at hl; subst hl; simp only [eqAs, Option.some.injEq] at he; subst he; simp [Op.eqFields]
          | cons f fl ihl =>
            simp only [shFs] at hl
            split at hl
            · rename_i hn
              split at hl
              · rename_i r s l' hr hs hl'
                simp only [Option.some.injEq] at hl; subst hl
                simp only [eqAs] at he
                split at he
                · rename_i a c ha hc
                  split at he
                  · rename_i p q hp hq
                    simp only [Option.some.injEq] at he; subst he
                    obtain ⟨ua, ea, ra⟩ := run_part hr hx ha w'
                    obtain ⟨uc, ec, rc⟩ := run_part hr hy hc w'
                    have e1 := eqA_ok d _ _ _ _ _ _ _ hs hp ra rc w'
                    have e2 := ihl _ _ hl' hq
                    simp only [Op.eqFields, if_pos hn, Sem.run_bind, ea, ec, Result.andThen_ok, e1, Sem.run_ite] at e2 ⊢
                    cases p with
                    | false => simp
                    | true => simpa using e2
                  · cases he
                · cases he
              · cases hl
            · rename_i hn
              have e2 := ihl _ _ hl he
              simp only [Op.eqFields, if_neg hn]
              exact e2
        · cases he
    · cases h
end
end Go.Proofs.Ytcedkkleclhglaa.H
