/- Functions, and calls with fewer blocks. -/
import Derived.Test.YtcedkkleclhglaaHaS
set_option linter.unusedSimpArgs false
set_option linter.unusedVariables false
set_option linter.unusedSectionVars false
namespace Go.Proofs.Ytcedkkleclhglaa.H

/-! ### Results -/
inductive RC where
  | tmp (t : Nat) | cell (t : Nat) (sz : Option Nat)
def rcOf (P : Program) : ResultVar → Option RC
  | .tmp t => some (.tmp t)
  | .cell a T => match rdT P T with
    | some sz => some (.cell a sz)
    | none => none
def rcsOf (P : Program) : List ResultVar → Option (List RC)
  | [] => some []
  | x :: l => match rcOf P x, rcsOf P l with
    | some y, some r => some (y :: r)
    | _, _ => none
def resV (T : Tm) (s : St) : RC → PA
  | .tmp t => match tget T t with
    | some v => some (True, v)
    | none => none
  | .cell t sz => match tget T t with
    | some (.ptr id i off) => loadA s sz (.ptr id i off)
    | _ => none
def resL (T : Tm) (s : St) : List RC → Option (Prop × List AV)
  | [] => some (True, [])
  | x :: l => match resV T s x, resL T s l with
    | some (C, v), some (D, r) => some (C ∧ D, v :: r)
    | _, _ => none
def pack : List AV → AV
  | [v] => v
  | l => .tup l
def RetQ (rs : List RC) (Q : AV → St → Prop) (T : Tm) (s : St) : Prop := match resL T s rs with
  | some (C, l) => C ∧ Q (pack l) s
  | none => False
def argT : Nat → List AV → Tm
  | _, [] => []
  | i, v :: l => (i, v) :: argT (i + 1) l
section
variable {P : Program} {w : World} {K : Nat → Prop} {β : Nat → Loc} {s : St}
def rsem (ts : Array Value) : ResultVar → Sem Value
  | .tmp t => pure (ts.getD t undef)
  | .cell a t => do loadVar t (← asAddr (ts.getD a undef))
theorem results_eq (fn : Func) (ts : Array Value) : results fn ts = (do let vs ← fn.results.mapM (rsem ts); pure (if h : vs.size = 1 then vs[0] else .tuple vs)) := by
  have : (fun r => match r with | .tmp t => (pure (ts.getD t undef) : Sem Value) | .cell a t => do loadVar t (← asAddr (ts.getD a undef)) : ResultVar → Sem Value) = rsem ts := by funext r; cases r <;> rfl
  rw [← this]; rfl
theorem resL_ok {T : Tm} {a : Act} (hz : Cz w K β s) (hT : RT w K β s.length T a) : ∀ {rv : List ResultVar} {rs : List RC} {C : Prop} {l : List AV}, rcsOf P rv = some rs → resL T s rs = some (C, l) → C →
    ∃ us, (rv.mapM (rsem a.tmps)).run P w = .ok us w ∧ RL w K β s.length l us
  | [], rs, C, l, h1, h2, hC => by
    simp only [rcsOf, Option.some.injEq] at h1; subst h1
    simp only [resL, Option.some.injEq, Prod.mk.injEq] at h2; obtain ⟨rfl, rfl⟩ := h2
    exact ⟨[], by simp, by simp [RL]⟩
  | x :: rv, rs, C, l, h1, h2, hC => by
    simp only [rcsOf] at h1
    split at h1
    · rename_i y r hy hr
      simp only [Option.some.injEq] at h1; subst h1
      simp only [resL] at h2
      split at h2
      · rename_i C1 v D1 l' hv hl'
        simp only [Option.some.injEq, Prod.mk.injEq] at h2; obtain ⟨rfl, rfl⟩ := h2
        obtain ⟨us, e1, e2⟩ := resL_ok hz hT hr hl' hC.2
        have : ∃ u, (rsem a.tmps x).run P w = .ok u w ∧ R w K β s.length v u := by
          cases x with
          | tmp t =>
            simp only [rcOf, Option.some.injEq] at hy; subst hy
            simp only [resV] at hv
            split at hv
            · rename_i v' hv'
              simp only [Option.some.injEq, Prod.mk.injEq] at hv; obtain ⟨rfl, rfl⟩ := hv
              obtain ⟨u, g1, g2⟩ := hT t v' hv'
              exact ⟨u, by simp [rsem, Array.getD_eq_getD_getElem?, g1], g2⟩
            · cases hv
          | cell t T' =>
            simp only [rcOf] at hy
            split at hy
            · rename_i sz hsz
              simp only [Option.some.injEq] at hy; subst hy
              simp only [resV] at hv
              split at hv
              · rename_i id i off hv'
                obtain ⟨u, g1, g2⟩ := hT t _ hv'
                obtain ⟨u', g3, g4⟩ := load_ok (P := P) hsz hv hC.1 hz g2
                have g2' := g2
                simp only [R] at g2'
                refine ⟨u', ?_, g4⟩
                rw [g2'.2] at g3 g1
                simp only [Instr.loadAt, Instr.sureAddr] at g3
                simp [rsem, Array.getD_eq_getD_getElem?, g1, asAddr]
                simpa using g3
              · cases hv
            · cases hy
        obtain ⟨u, g1, g2⟩ := this
        refine ⟨u :: us, ?_, by simp only [RL]; exact ⟨u, us, rfl, g2, e2⟩⟩
        rw [List.mapM_cons]
        simp only [Sem.run_bind, g1, Result.andThen_ok, e1, Sem.run_pure]
      · cases h2
    · cases h1
theorem argT_get : ∀ {l : List AV} {k i : Nat} {v : AV}, tget (argT k l) i = some v → k ≤ i ∧ l[i - k]? = some v
  | [], k, i, v, h => by simp [argT, tget] at h
  | x :: l, k, i, v, h => by
    simp only [argT, tget] at h
    by_cases hk : k = i
    · subst hk; simp at h; subst h; simp
    · rw [beqN hk] at h
      simp only [cond_false] at h
      obtain ⟨h1, h2⟩ := argT_get h
      exact ⟨by omega, by rw [show i - k = (i - (k + 1)) + 1 by omega]; simpa using h2⟩
/-- A function of the program: its compact code, its results. -/
structure FnOK (P : Program) (f N : Nat) (c : Cd) (rs : List RC) : Prop where
  ex : ∃ fn code, P.funcs[f]? = some fn ∧ fn.body = some code ∧ comp P N code = some c ∧ rcsOf P fn.results.toList = some rs ∧ N = fn.ntmps
def fnC (P : Program) (f : Nat) : Option (Nat × Cd × List RC) := match P.funcs[f]? with
  | some fn => match fn.body with
    | some code => match comp P fn.ntmps code, rcsOf P fn.results.toList with
      | some c, some rs => some (fn.ntmps, c, rs)
      | _, _ => none
    | none => none
  | none => none
theorem FnOK.of {f N : Nat} {c : Cd} {rs : List RC} (h : fnC P f = some (N, c, rs)) : FnOK P f N c rs := by
  unfold fnC at h
  split at h
  · rename_i fn hf
    split at h
    · rename_i code hb
      split at h
      · rename_i c' rs' h1 h2
        simp only [Option.some.injEq, Prod.mk.injEq] at h; obtain ⟨rfl, rfl, rfl⟩ := h
        exact ⟨fn, code, hf, hb, h1, h2, rfl⟩
      · cases h
    · cases h
  · cases h
def callQ (rs : List RC) (Q : AV → St → Prop) : Fl → Tm → St → Prop
  | .normal => RetQ rs Q
  | .ret => RetQ rs Q
  | .exit _ => fun _ _ => False
theorem ACalls.of {f N : Nat} {c : Cd} {rs : List RC} (hf : FnOK P f N c rs) {vs : List AV} {Q : AV → St → Prop} (hN : vs.length ≤ N) (h : AW P N s.length c (argT 0 vs) s (callQ rs Q)) : ACalls P f vs s Q := by
  obtain ⟨fn, code, h1, h2, h3, h4, rfl⟩ := hf.ex
  intro w K β us hz hr
  have hul := RL_length hr
  refine calls_of_wp h1 h2 (wp_mono (h code h3 w K β _ ⟨hz, fun i v hv => ?_, by simp; omega, rfl⟩ (Nat.le_refl _)) ?_)
  · obtain ⟨_, hv⟩ := argT_get hv
    obtain ⟨u, g1, g2⟩ := RL_get hr hv
    have hlt := (List.getElem?_eq_some_iff.1 g1).1
    refine ⟨u, ?_, g2⟩
    rw [Array.getElem?_append_left (by simpa using hlt)]
    simpa using g1
  · rintro e a' w' ⟨fl, T', s', K', β', rfl, hq, hfr, hx⟩
    have fin : RetQ rs Q T' s' → (a'.defers = [] ∧ ∃ v, (results fn a'.tmps).run P w' = .ok v w' ∧ ∃ v0 s0 K0 β0 u, Ending.returned v = .returned u ∧ Q v0 s0 ∧ Cz w' K0 β0 s0 ∧ R w' K0 β0 s0.length v0 u ∧ Ext s.length w K β s w' K0 β0 s0) := by
      intro hret
      unfold RetQ at hret
      split at hret
      · rename_i C l hl
        obtain ⟨us', e1, e2⟩ := resL_ok (P := P) hfr.cz hfr.rt h4 hl hret.1
        refine ⟨hfr.df, ?_⟩
        have hm : (fn.results.mapM (rsem a'.tmps)).run P w' = .ok us'.toArray w' := by
          rw [Array.mapM_eq_mapM_toList]
          simp only [Sem.run_map, e1, Result.andThen_ok]
        have hul' := RL_length e2
        match l, us', e2, hul' with
        | [v], [u], e2, _ =>
          simp only [RL] at e2
          obtain ⟨u', _, hu, hR, rfl⟩ := e2
          simp only [List.cons.injEq, and_true] at hu; subst hu
          exact ⟨u, by simp only [results_eq, Sem.run_bind, hm, Result.andThen_ok]; simp, v, s', K', β', u, rfl, hret.2, hfr.cz, hR, hx⟩
        | [], [], e2, _ => exact ⟨.tuple #[], by simp only [results_eq, Sem.run_bind, hm, Result.andThen_ok]; simp, .tup [], s', K', β', _, rfl, hret.2, hfr.cz, by simp only [R]; exact ⟨[], rfl, e2⟩, hx⟩
        | x :: y :: l, u :: v :: us, e2, _ => exact ⟨.tuple (u :: v :: us).toArray, by simp only [results_eq, Sem.run_bind, hm, Result.andThen_ok]; simp, .tup (x :: y :: l), s', K', β', _, rfl, hret.2, hfr.cz, by simp only [R]; exact ⟨_, rfl, e2⟩, hx⟩
      · exact hret.elim
    cases fl with
    | normal => exact fin hq
    | ret => exact fin hq
    | exit id => exact hq.elim
end
end Go.Proofs.Ytcedkkleclhglaa.H
