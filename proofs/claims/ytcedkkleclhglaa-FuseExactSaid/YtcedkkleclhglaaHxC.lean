/- Loops over an array's indices. -/
import Derived.Test.YtcedkkleclhglaaHxB
set_option linter.unusedSimpArgs false
set_option linter.unusedVariables false
set_option linter.unusedSectionVars false
namespace Go.Proofs.Ytcedkkleclhglaa.H
section
variable {P : Program} {N m : Nat} {T : Tm} {s : St} {Q : Fl → Tm → St → Prop}
/-- A loop over an array's indices. -/
abbrev rangeN (id ti : Nat) (n : Int) (tc tx : Nat) (b : Cd) : Cd :=
  .block id (.loop (.seq (.ops [.f (some tc) none (.bin .lss (.tmp ti) (.const (.int .i64 n)))]) (.seq (.cond (.tmp tc) .skip (.exit id)) (.seq b (.ops [.f (some tx) none (.bin .add (.tmp ti) (.const (.int .i64 1))), .f (some ti) none (.mv (.tmp tx))])))))
def rangeNQ {α : Type} (id ti m i : Nat) (L : Nat → α → Tm) (S : Nat → α → St) (J : Nat → α → Prop) (Q : Fl → Tm → St → Prop) : Fl → Tm → St → Prop
  | .normal => fun T' s' => ∃ a' rl, J (i + 1) a' ∧ Nrm rl m T' s' ((ti, AI .i64 i) :: L (i + 1) a') (S (i + 1) a')
  | .exit j => if j = id then Q .normal else Q (.exit j)
  | .ret => Q .ret
theorem AW.arr {α : Type} {id ti tc tx : Nat} {b : Cd} (n : Nat) (hn : n ≤ 4611686018427387904) (ht : tc ≠ ti ∧ tx ≠ ti) (L : Nat → α → Tm) (S : Nat → α → St) (J : Nat → α → Prop) (a0 : α) (h0 : J 0 a0) (rl : List Nat)
    (hN : Nrm rl m T s ((ti, AI .i64 0) :: L 0 a0) (S 0 a0)) (hL : ∀ i a, ∀ p ∈ L i a, p.1 ≠ ti ∧ p.1 ≠ tc ∧ p.1 ≠ tx)
    (hb : ∀ i a, i < n → J i a → AW P N m b ((ti, AI .i64 i) :: L i a) (S i a) (rangeNQ id ti m i L S J Q))
    (he : ∀ a, J n a → Q .normal (tset tc (AB false) ((ti, AI .i64 n) :: L n a)) (S n a)) : AW P N m (rangeN id ti n tc tx b) T s Q := by
  obtain ⟨t2, t4⟩ := ht
  unfold rangeN
  refine AW.block (AW.loopA (α := { p : Nat × α // p.1 ≤ n }) (fun p => n - p.1.1) (fun p => (ti, AI .i64 p.1.1) :: L p.1.1 p.1.2) (fun p => S p.1.1 p.1.2) (fun p => J p.1.1 p.1.2) ⟨(0, a0), Nat.zero_le _⟩ h0 rl hN ?_)
  rintro ⟨⟨i, a⟩, hi⟩ hJ
  simp only at hJ hi ⊢
  refine AW.seq' (AW.ops ?_)
  have e0 : tget ((ti, AI .i64 i) :: L i a) ti = some (AI .i64 i) := by simp [tget]
  simp only [RunI, Step, Ins.g, gate, StepV, evF, opd, constA, e0, binA, asI, if_true, intA, tput, Ins.d, true_and, thenQ]
  refine AW.seq' ?_
  have e2 : tget (tset tc (AB (decide ((i : Int) < n))) ((ti, AI .i64 i) :: L i a)) tc = some (AB (decide ((i : Int) < n))) := by rw [tget_tset, if_pos rfl]
  refine AW.cond (x := .tmp tc) (v := AB (decide ((i : Int) < n))) (b := decide ((i : Int) < n)) e2 rfl (fun h => ?_) (fun h => ?_)
  · have hlt : i < n := by simpa using h
    refine AW.skip ?_
    simp only [thenQ]
    refine AW.seq' ?_
    refine AW.forget ((hb i a hlt hJ).mono fun fl T' s' hq => ?_) (fun j v hv => ?_) rfl (fun _ _ h => h)
    · cases fl with
      | normal =>
        obtain ⟨a', rl', g1, g2⟩ := hq
        simp only [thenQ]
        have f0 : tget T' ti = some (AI .i64 i) := by have := (NT_get g2.tm (i := ti) (v := AI .i64 i) (by simp [tget])).2; simpa [renA] using this
        refine AW.ops ?_
        simp only [RunI, Step, Ins.g, gate, StepV, evF, opd, f0, constA, binA, asI, if_true, intA, tput, Ins.d, true_and, thenQ]
        rw [tget_tset, if_pos rfl]
        simp only [true_and]
        have hw : IntKind.i64.wrap ((i : Int) + 1) = ((i + 1 : Nat) : Int) := by rw [wrap_id (by omega) (by omega)]; omega
        rw [hw]
        refine ⟨⟨(i + 1, a'), hlt⟩, rl', g1, by simp only; omega, { len := g2.len, nd := g2.nd, fix := g2.fix, st := g2.st, tm := ?_ }⟩
        obtain ⟨_, hl⟩ := g2.tm
        refine ⟨⟨rfl, by rw [tget_tset, if_pos rfl]; rfl⟩, ?_⟩
        have key : ∀ (l : Tm), (∀ p ∈ l, p.1 ≠ ti ∧ p.1 ≠ tx) → NT (S (i + 1) a').length (nmL rl') T' l → NT (S (i + 1) a').length (nmL rl') (tset ti (AI .i64 ((i + 1 : Nat) : Int)) (tset tx (AI .i64 ((i + 1 : Nat) : Int)) T')) l := by
          intro l
          induction l with
          | nil => intro _ _; trivial
          | cons p l ih =>
            intro hp h
            obtain ⟨j, v⟩ := p
            have hj := hp (j, v) (List.mem_cons_self ..)
            refine ⟨⟨h.1.1, ?_⟩, ih (fun q hq => hp q (List.mem_cons_of_mem _ hq)) h.2⟩
            rw [tget_tset, if_neg (fun e => hj.1 e.symm), tget_tset, if_neg (fun e => hj.2 e.symm)]
            exact h.1.2
        exact key _ (fun p hp => ⟨(hL _ _ p hp).1, (hL _ _ p hp).2.2⟩) hl
      | ret => exact hq
      | exit j => exact hq
    · rw [tget_tset]
      by_cases hj : tc = j
      · exfalso
        subst hj
        simp only [tget, beqN (Ne.symm t2), cond_false] at hv
        have : ∀ (l : Tm), (∀ p ∈ l, p.1 ≠ tc) → tget l tc = none := by
          intro l
          induction l with
          | nil => intro _; rfl
          | cons p l ih =>
            intro hp
            obtain ⟨j, v⟩ := p
            simp only [tget, beqN (hp (j, v) (List.mem_cons_self ..)), cond_false]
            exact ih fun q hq => hp q (List.mem_cons_of_mem _ hq)
        rw [this _ fun p hp => (hL _ _ p hp).2.1] at hv
        cases hv
      · rw [if_neg hj]; exact hv
  · have hge : ¬ i < n := by simpa using h
    have : i = n := by omega
    subst this
    refine AW.exit ?_
    simp only [thenQ, blockQ, if_true]
    have := he a hJ
    simpa using this
end
end Go.Proofs.Ytcedkkleclhglaa.H
