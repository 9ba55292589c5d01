/- Walking compact code: what is kept of a state, loops. -/
import Derived.Test.YtcedkkleclhglaaHaV
set_option linter.unusedSimpArgs false
set_option linter.unusedVariables false
set_option linter.unusedSectionVars false
namespace Go.Proofs.Ytcedkkleclhglaa.H

/-! ### What is kept of a state -/
def NT (n : Nat) (r : Nat → Nat) (T : Tm) : Tm → Prop
  | [] => True
  | (i, v) :: l => (belA n v = true ∧ tget T i = some (renA r v)) ∧ NT n r T l
def NS (n : Nat) (r : Nat → Nat) (s : St) : Nat → St → Prop
  | _, [] => True
  | i, none :: l => NS n r s (i + 1) l
  | i, some b :: l => (belB n b = true ∧ s[r i]? = some (some (renB r b))) ∧ NS n r s (i + 1) l
def nmL (rl : List Nat) (i : Nat) : Nat := rl.getD i 0
/-- Of a state another one is kept, under the names 'rl'. -/
structure Nrm (rl : List Nat) (m : Nat) (T : Tm) (s : St) (T' : Tm) (s' : St) : Prop where
  len : rl.length = s'.length
  nd : rl.Nodup
  fix : rl.take m = List.range m
  tm : NT s'.length (nmL rl) T T'
  st : NS s'.length (nmL rl) s 0 s'
theorem NT_get {n : Nat} {r : Nat → Nat} {T : Tm} : ∀ {T' : Tm} {i : Nat} {v : AV}, NT n r T T' → tget T' i = some v → belA n v = true ∧ tget T i = some (renA r v)
  | (j, u) :: l, i, v, h, hv => by
    simp only [tget] at hv
    by_cases hj : j = i
    · subst hj; simp at hv; subst hv; exact h.1
    · rw [beqN hj] at hv; exact NT_get h.2 hv
theorem NS_get {n : Nat} {r : Nat → Nat} {s : St} : ∀ {s' : St} {k i : Nat} {b : Blk}, NS n r s k s' → s'[i]? = some (some b) → belB n b = true ∧ s[r (k + i)]? = some (some (renB r b))
  | none :: l, k, 0, b, h, hb => by simp at hb
  | some c :: l, k, 0, b, h, hb => by simp at hb; subst hb; exact h.1
  | none :: l, k, i + 1, b, h, hb => by
    have := NS_get (k := k + 1) (i := i) h (by simpa using hb)
    rw [show k + (i + 1) = k + 1 + i by omega]; exact this
  | some c :: l, k, i + 1, b, h, hb => by
    have := NS_get (k := k + 1) (i := i) h.2 (by simpa using hb)
    rw [show k + (i + 1) = k + 1 + i by omega]; exact this
section
variable {P : Program} {N m : Nat} {T : Tm} {s : St} {Q : Fl → Tm → St → Prop}
theorem AW.nrm {c : Cd} (rl : List Nat) {T' : Tm} {s' : St} (hn : Nrm rl m T s T' s') (h : AW P N m c T' s' Q) : AW P N m c T s Q := by
  have hml : m ≤ rl.length := by
    have := congrArg List.length hn.fix
    simp at this; omega
  refine AW.norm (nmL rl) h (fun i hi => ?_) (by rw [← hn.len]; exact hml) (fun i j hi hj hij e => ?_) (fun i v hv => NT_get hn.tm hv) (fun i b hb => by have := NS_get hn.st hb; rwa [Nat.zero_add] at this)
  · have : (rl.take m)[i]? = some i := by rw [hn.fix]; exact List.getElem?_range hi
    rw [List.getElem?_take, if_pos hi] at this
    simp [nmL, this]
  · have h1 := alive_lt hi
    have h2 := alive_lt hj
    rw [← hn.len] at h1 h2
    exact hij (nd_inj hn.nd (getD_lt (d := 0) h1) (by unfold nmL at e; rw [e]; exact getD_lt (d := 0) h2))
theorem AW.loopA {α : Type} {c : Cd} (μ : α → Nat) (L : α → Tm) (S : α → St) (J : α → Prop) (a0 : α) (h0 : J a0) (rl : List Nat) (hN : Nrm rl m T s (L a0) (S a0))
    (hb : ∀ a, J a → AW P N m c (L a) (S a) (thenQ (fun T' s' => ∃ a' rl, J a' ∧ μ a' < μ a ∧ Nrm rl m T' s' (L a') (S a')) Q)) : AW P N m (.loop c) T s Q := by
  refine AW.loop (fun k T s => ∃ a rl, J a ∧ μ a = k ∧ Nrm rl m T s (L a) (S a)) (μ a0) ⟨a0, rl, h0, rfl, hN⟩ fun k T s ⟨a, rl, h1, h2, h3⟩ => ?_
  refine AW.nrm rl h3 ((hb a h1).mono fun fl T' s' h => ?_)
  cases fl with
  | normal =>
    obtain ⟨a', rl', g1, g2, g3⟩ := h
    exact ⟨μ a', by omega, a', rl', g1, rfl, g3⟩
  | ret => exact h
  | exit id => exact h
/-- A loop over a range. -/
def rangeC (id ti tn tc tx : Nat) (b : Cd) : Cd :=
  .block id (.loop (.seq (.ops [.f (some tc) none (.bin .lss (.tmp ti) (.tmp tn))]) (.seq (.cond (.tmp tc) .skip (.exit id)) (.seq b (.ops [.f (some tx) none (.bin .add (.tmp ti) (.const (.int .i64 1))), .f (some ti) none (.mv (.tmp tx))])))))
def rangeQ {α : Type} (id ti tn m i n : Nat) (L : Nat → α → Tm) (S : Nat → α → St) (J : Nat → α → Prop) (Q : Fl → Tm → St → Prop) : Fl → Tm → St → Prop
  | .normal => fun T' s' => ∃ a' rl, J (i + 1) a' ∧ Nrm rl m T' s' ((ti, AI .i64 i) :: (tn, AI .i64 n) :: L (i + 1) a') (S (i + 1) a')
  | .exit j => if j = id then Q .normal else Q (.exit j)
  | .ret => Q .ret
theorem wrap_id {x : Int} (h1 : -9223372036854775808 ≤ x) (h2 : x ≤ 9223372036854775807) : IntKind.i64.wrap x = x := by
  rw [IntKind.wrap_i64]; omega
theorem AW.range {α : Type} {id ti tn tc tx : Nat} {b : Cd} (n : Nat) (hn : n ≤ 4611686018427387904) (ht : ti ≠ tn ∧ tc ≠ ti ∧ tc ≠ tn ∧ tx ≠ ti ∧ tx ≠ tn) (L : Nat → α → Tm) (S : Nat → α → St) (J : Nat → α → Prop) (a0 : α) (h0 : J 0 a0) (rl : List Nat)
    (hN : Nrm rl m T s ((ti, AI .i64 0) :: (tn, AI .i64 n) :: L 0 a0) (S 0 a0)) (hL : ∀ i a, ∀ p ∈ L i a, p.1 ≠ ti ∧ p.1 ≠ tn ∧ p.1 ≠ tc ∧ p.1 ≠ tx)
    (hb : ∀ i a, i < n → J i a → AW P N m b ((ti, AI .i64 i) :: (tn, AI .i64 n) :: L i a) (S i a) (rangeQ id ti tn m i n L S J Q))
    (he : ∀ a, J n a → Q .normal (tset tc (AB false) ((ti, AI .i64 n) :: (tn, AI .i64 n) :: L n a)) (S n a)) : AW P N m (rangeC id ti tn tc tx b) T s Q := by
  obtain ⟨t1, t2, t3, t4, t5⟩ := ht
  unfold rangeC
  refine AW.block (AW.loopA (α := { p : Nat × α // p.1 ≤ n }) (fun p => n - p.1.1) (fun p => (ti, AI .i64 p.1.1) :: (tn, AI .i64 n) :: L p.1.1 p.1.2) (fun p => S p.1.1 p.1.2) (fun p => J p.1.1 p.1.2) ⟨(0, a0), Nat.zero_le _⟩ h0 rl hN ?_)
  rintro ⟨⟨i, a⟩, hi⟩ hJ
  simp only at hJ hi ⊢
  refine AW.seq' (AW.ops ?_)
  have e1 : tget ((ti, AI .i64 i) :: (tn, AI .i64 n) :: L i a) tn = some (AI .i64 n) := by simp [tget, beqN t1]
  have e0 : tget ((ti, AI .i64 i) :: (tn, AI .i64 n) :: L i a) ti = some (AI .i64 i) := by simp [tget]
  simp only [RunI, Step, Ins.g, gate, StepV, evF, opd, e0, e1, binA, asI, if_true, intA, tput, Ins.d, true_and, thenQ]
  refine AW.seq' ?_
  have e2 : tget (tset tc (AB (decide ((i : Int) < n))) ((ti, AI .i64 i) :: (tn, AI .i64 n) :: L i a)) tc = some (AB (decide ((i : Int) < n))) := by rw [tget_tset, if_pos rfl]
  refine AW.cond (x := .tmp tc) (v := AB (decide ((i : Int) < n))) (b := decide ((i : Int) < n)) e2 rfl (fun h => ?_) (fun h => ?_)
  · have hlt : i < n := by simpa using h
    refine AW.skip ?_
    simp only [thenQ]
    refine AW.seq' ?_
    refine AW.forget ((hb i a hlt hJ).mono fun fl T' s' hq => ?_) (fun j v hv => ?_) rfl (fun _ _ h => h)
    · cases fl with
      | normal =>
        obtain ⟨a', rl', g1, g2⟩ := hq
        simp only [thenQ]
        have f0 : tget T' ti = some (AI .i64 i) := by have := (NT_get g2.tm (i := ti) (v := AI .i64 i) (by simp [tget])).2; simpa [renA] using this
        refine AW.ops ?_
        simp only [RunI, Step, Ins.g, gate, StepV, evF, opd, f0, constA, binA, asI, if_true, intA, tput, Ins.d, true_and, thenQ]
        rw [tget_tset, if_pos rfl]
        simp only [true_and]
        have hw : IntKind.i64.wrap ((i : Int) + 1) = ((i + 1 : Nat) : Int) := by rw [wrap_id (by omega) (by omega)]; omega
        rw [hw]
        refine ⟨⟨(i + 1, a'), hlt⟩, rl', g1, by simp only; omega, { len := g2.len, nd := g2.nd, fix := g2.fix, st := g2.st, tm := ?_ }⟩
        obtain ⟨_, hn', hl⟩ := g2.tm
        refine ⟨⟨rfl, by rw [tget_tset, if_pos rfl]; rfl⟩, ⟨rfl, by rw [tget_tset, if_neg t1, tget_tset, if_neg t5]; exact hn'.2⟩, ?_⟩
        have key : ∀ (l : Tm), (∀ p ∈ l, p.1 ≠ ti ∧ p.1 ≠ tx) → NT (S (i + 1) a').length (nmL rl') T' l → NT (S (i + 1) a').length (nmL rl') (tset ti (AI .i64 ((i + 1 : Nat) : Int)) (tset tx (AI .i64 ((i + 1 : Nat) : Int)) T')) l := by
          intro l
          induction l with
          | nil => intro _ _; trivial
          | cons p l ih =>
            intro hp h
            obtain ⟨j, v⟩ := p
            have hj := hp (j, v) (List.mem_cons_self ..)
            refine ⟨⟨h.1.1, ?_⟩, ih (fun q hq => hp q (List.mem_cons_of_mem _ hq)) h.2⟩
            rw [tget_tset, if_neg (fun e => hj.1 e.symm), tget_tset, if_neg (fun e => hj.2 e.symm)]
            exact h.1.2
        exact key _ (fun p hp => ⟨(hL _ _ p hp).1, (hL _ _ p hp).2.2.2⟩) hl
      | ret => exact hq
      | exit j => exact hq
    · rw [tget_tset]
      by_cases hj : tc = j
      · exfalso
        subst hj
        simp only [tget, beqN (Ne.symm t2), beqN (Ne.symm t3), cond_false] at hv
        have : ∀ (l : Tm), (∀ p ∈ l, p.1 ≠ tc) → tget l tc = none := by
          intro l
          induction l with
          | nil => intro _; rfl
          | cons p l ih =>
            intro hp
            obtain ⟨j, v⟩ := p
            simp only [tget, beqN (hp (j, v) (List.mem_cons_self ..)), cond_false]
            exact ih fun q hq => hp q (List.mem_cons_of_mem _ hq)
        rw [this _ fun p hp => (hL _ _ p hp).2.2.1] at hv
        cases hv
      · rw [if_neg hj]; exact hv
  · have hge : ¬ i < n := by simpa using h
    have : i = n := by omega
    subst this
    refine AW.exit ?_
    simp only [thenQ, blockQ, if_true]
    have := he a hJ
    simpa using this
end
/-! ### Lists -/
theorem getD_map_lt {α β : Type} {f : α → β} {l : List α} {i : Nat} {d : β} (h : i < l.length) : (l.map f).getD i d = f l[i] := by simp [h]
abbrev dI (z : Int) : D := .v (.int .i64 z)
/-- A list of ints. -/
abbrev ints (l : List Int) : List (List D) := l.map fun z => [dI z]
abbrev LI (l : List Int) : AV := .d (.lst 1 (ints l))
theorem all_take_succ {α : Type} {p : α → Bool} {l : List α} {i : Nat} (h : i < l.length) : (l.take (i + 1)).all p = ((l.take i).all p && p l[i]) := by
  rw [List.take_succ_eq_append_getElem h, List.all_append]; simp
theorem all_of_not {α : Type} {p : α → Bool} {l : List α} {i : Nat} (h : i < l.length) (hp : p l[i] = false) : l.all p = false := by
  rw [List.all_eq_false]
  exact ⟨l[i], List.getElem_mem h, by simp [hp]⟩
end Go.Proofs.Ytcedkkleclhglaa.H
