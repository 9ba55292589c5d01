/- The logic H, generic: texts HxA to HyB. -/
import Derived.Test.YtipanehdmhachaaGreatDoorKaB
import Derived.Maps.RangeRun
import Derived.Laws.IdiomStrings
import Derived.Lib.SliceRun
import Derived.ChangeSlices
import Derived.ChangeArms
import Derived.WideShapes
import Derived.RowKit
import Derived.DataReads
set_option linter.unusedSimpArgs false
set_option linter.unusedVariables false
set_option linter.unusedSectionVars false
namespace Go.Proofs.YtipanehdmhachaaGreatDoor.H
variable [DR]

/-! ### What is kept of a state -/
def NT (n : Nat) (r : Nat → Nat) (T : Tm) : Tm → Prop
  | [] => True
  | (i, v) :: l => (belA n v = true ∧ tget T i = some (renA r v)) ∧ NT n r T l
def NS (n : Nat) (r : Nat → Nat) (s : St) : Nat → St → Prop
  | _, [] => True
  | i, none :: l => NS n r s (i + 1) l
  | i, some b :: l => (belB n b = true ∧ s[r i]? = some (some (renB r b))) ∧ NS n r s (i + 1) l
def nmL (rl : List Nat) (i : Nat) : Nat := rl.getD i 0
/-- Of a state another one is kept, under the names 'rl'. -/
structure Nrm (rl : List Nat) (m : Nat) (T : Tm) (s : St) (T' : Tm) (s' : St) : Prop where
  len : rl.length = s'.length
  nd : rl.Nodup
  fix : rl.take m = List.range m
  tm : NT s'.length (nmL rl) T T'
  st : NS s'.length (nmL rl) s 0 s'
theorem NT_get {n : Nat} {r : Nat → Nat} {T : Tm} : ∀ {T' : Tm} {i : Nat} {v : AV}, NT n r T T' → tget T' i = some v → belA n v = true ∧ tget T i = some (renA r v)
  | (j, u) :: l, i, v, h, hv => by
    simp only [tget] at hv
    by_cases hj : j = i
    · subst hj; simp at hv; subst hv; exact h.1
    · rw [beqN hj] at hv; exact NT_get h.2 hv
theorem NS_get {n : Nat} {r : Nat → Nat} {s : St} : ∀ {s' : St} {k i : Nat} {b : Blk}, NS n r s k s' → s'[i]? = some (some b) → belB n b = true ∧ s[r (k + i)]? = some (some (renB r b))
  | none :: l, k, 0, b, h, hb => by simp at hb
  | some c :: l, k, 0, b, h, hb => by simp at hb; subst hb; exact h.1
  | none :: l, k, i + 1, b, h, hb => by
    have := NS_get (k := k + 1) (i := i) h (by simpa using hb)
    rw [show k + (i + 1) = k + 1 + i by omega]; exact this
  | some c :: l, k, i + 1, b, h, hb => by
    have := NS_get (k := k + 1) (i := i) h.2 (by simpa using hb)
    rw [show k + (i + 1) = k + 1 + i by omega]; exact this
section
variable {P : Program} {N m : Nat} {T : Tm} {s : St} {Q : Fl → Tm → St → Prop}
theorem AW.nrm {c : Cd} (rl : List Nat) {T' : Tm} {s' : St} (hn : Nrm rl m T s T' s') (h : AW P N m c T' s' Q) : AW P N m c T s Q := by
  have hml : m ≤ rl.length := by
    have := congrArg List.length hn.fix
    simp at this; omega
  refine AW.norm (nmL rl) h (fun i hi => ?_) (by rw [← hn.len]; exact hml) (fun i j hi hj hij e => ?_) (fun i v hv => NT_get hn.tm hv) (fun i b hb => by have := NS_get hn.st hb; rwa [Nat.zero_add] at this)
  · have : (rl.take m)[i]? = some i := by rw [hn.fix]; exact List.getElem?_range hi
    rw [List.getElem?_take, if_pos hi] at this
    simp [nmL, this]
  · have h1 := alive_lt hi
    have h2 := alive_lt hj
    rw [← hn.len] at h1 h2
    exact hij (nd_inj hn.nd (getD_lt (d := 0) h1) (by unfold nmL at e; rw [e]; exact getD_lt (d := 0) h2))
theorem AW.loopA {α : Type} {c : Cd} (μ : α → Nat) (L : α → Tm) (S : α → St) (J : α → Prop) (a0 : α) (h0 : J a0) (rl : List Nat) (hN : Nrm rl m T s (L a0) (S a0))
    (hb : ∀ a, J a → AW P N m c (L a) (S a) (thenQ (fun T' s' => ∃ a' rl, J a' ∧ μ a' < μ a ∧ Nrm rl m T' s' (L a') (S a')) Q)) : AW P N m (.loop c) T s Q := by
  refine AW.loop (fun k T s => ∃ a rl, J a ∧ μ a = k ∧ Nrm rl m T s (L a) (S a)) (μ a0) ⟨a0, rl, h0, rfl, hN⟩ fun k T s ⟨a, rl, h1, h2, h3⟩ => ?_
  refine AW.nrm rl h3 ((hb a h1).mono fun fl T' s' h => ?_)
  cases fl with
  | normal =>
    obtain ⟨a', rl', g1, g2, g3⟩ := h
    exact ⟨μ a', by omega, a', rl', g1, rfl, g3⟩
  | ret => exact h
  | exit id => exact h
/-- A loop over a range. -/
def rangeC (id ti tn tc tx : Nat) (b : Cd) : Cd :=
  .block id (.loop (.seq (.ops [.f (some tc) none (.bin .lss (.tmp ti) (.tmp tn))]) (.seq (.cond (.tmp tc) .skip (.exit id)) (.seq b (.ops [.f (some tx) none (.bin .add (.tmp ti) (.const (.int .i64 1))), .f (some ti) none (.mv (.tmp tx))])))))
def rangeQ {α : Type} (id ti tn m i n : Nat) (L : Nat → α → Tm) (S : Nat → α → St) (J : Nat → α → Prop) (Q : Fl → Tm → St → Prop) : Fl → Tm → St → Prop
  | .normal => fun T' s' => ∃ a' rl, J (i + 1) a' ∧ Nrm rl m T' s' ((ti, AI .i64 i) :: (tn, AI .i64 n) :: L (i + 1) a') (S (i + 1) a')
  | .exit j => if j = id then Q .normal else Q (.exit j)
  | .ret => Q .ret
theorem wrap_id {x : Int} (h1 : -9223372036854775808 ≤ x) (h2 : x ≤ 9223372036854775807) : IntKind.i64.wrap x = x := by
  rw [IntKind.wrap_i64]; omega
theorem AW.range {α : Type} {id ti tn tc tx : Nat} {b : Cd} (n : Nat) (hn : n ≤ 4611686018427387904) (ht : ti ≠ tn ∧ tc ≠ ti ∧ tc ≠ tn ∧ tx ≠ ti ∧ tx ≠ tn) (L : Nat → α → Tm) (S : Nat → α → St) (J : Nat → α → Prop) (a0 : α) (h0 : J 0 a0) (rl : List Nat)
    (hN : Nrm rl m T s ((ti, AI .i64 0) :: (tn, AI .i64 n) :: L 0 a0) (S 0 a0)) (hL : ∀ i a, ∀ p ∈ L i a, p.1 ≠ ti ∧ p.1 ≠ tn ∧ p.1 ≠ tc ∧ p.1 ≠ tx)
    (hb : ∀ i a, i < n → J i a → AW P N m b ((ti, AI .i64 i) :: (tn, AI .i64 n) :: L i a) (S i a) (rangeQ id ti tn m i n L S J Q))
    (he : ∀ a, J n a → Q .normal (tset tc (AB false) ((ti, AI .i64 n) :: (tn, AI .i64 n) :: L n a)) (S n a)) : AW P N m (rangeC id ti tn tc tx b) T s Q := by
  obtain ⟨t1, t2, t3, t4, t5⟩ := ht
  unfold rangeC
  refine AW.block (AW.loopA (α := { p : Nat × α // p.1 ≤ n }) (fun p => n - p.1.1) (fun p => (ti, AI .i64 p.1.1) :: (tn, AI .i64 n) :: L p.1.1 p.1.2) (fun p => S p.1.1 p.1.2) (fun p => J p.1.1 p.1.2) ⟨(0, a0), Nat.zero_le _⟩ h0 rl hN ?_)
  rintro ⟨⟨i, a⟩, hi⟩ hJ
  simp only at hJ hi ⊢
  refine AW.seq' (AW.ops ?_)
  have e1 : tget ((ti, AI .i64 i) :: (tn, AI .i64 n) :: L i a) tn = some (AI .i64 n) := by simp [tget, beqN t1]
  have e0 : tget ((ti, AI .i64 i) :: (tn, AI .i64 n) :: L i a) ti = some (AI .i64 i) := by simp [tget]
  simp only [RunI, Step, Ins.g, gate, StepV, evF, opd, e0, e1, binA, asI, if_true, intA, tput, Ins.d, true_and, thenQ]
  refine AW.seq' ?_
  have e2 : tget (tset tc (AB (decide ((i : Int) < n))) ((ti, AI .i64 i) :: (tn, AI .i64 n) :: L i a)) tc = some (AB (decide ((i : Int) < n))) := by rw [tget_tset, if_pos rfl]
  refine AW.cond (x := .tmp tc) (v := AB (decide ((i : Int) < n))) (b := decide ((i : Int) < n)) e2 rfl (fun h => ?_) (fun h => ?_)
  · have hlt : i < n := by simpa using h
    refine AW.skip ?_
    simp only [thenQ]
    refine AW.seq' ?_
    refine AW.forget ((hb i a hlt hJ).mono fun fl T' s' hq => ?_) (fun j v hv => ?_) rfl (fun _ _ h => h)
    · cases fl with
      | normal =>
        obtain ⟨a', rl', g1, g2⟩ := hq
        simp only [thenQ]
        have f0 : tget T' ti = some (AI .i64 i) := by have := (NT_get g2.tm (i := ti) (v := AI .i64 i) (by simp [tget])).2; simpa [renA] using this
        refine AW.ops ?_
        simp only [RunI, Step, Ins.g, gate, StepV, evF, opd, f0, constA, binA, asI, if_true, intA, tput, Ins.d, true_and, thenQ]
        rw [tget_tset, if_pos rfl]
        simp only [true_and]
        have hw : IntKind.i64.wrap ((i : Int) + 1) = ((i + 1 : Nat) : Int) := by rw [wrap_id (by omega) (by omega)]; omega
        rw [hw]
        refine ⟨⟨(i + 1, a'), hlt⟩, rl', g1, by simp only; omega, { len := g2.len, nd := g2.nd, fix := g2.fix, st := g2.st, tm := ?_ }⟩
        obtain ⟨_, hn', hl⟩ := g2.tm
        refine ⟨⟨rfl, by rw [tget_tset, if_pos rfl]; rfl⟩, ⟨rfl, by rw [tget_tset, if_neg t1, tget_tset, if_neg t5]; exact hn'.2⟩, ?_⟩
        have key : ∀ (l : Tm), (∀ p ∈ l, p.1 ≠ ti ∧ p.1 ≠ tx) → NT (S (i + 1) a').length (nmL rl') T' l → NT (S (i + 1) a').length (nmL rl') (tset ti (AI .i64 ((i + 1 : Nat) : Int)) (tset tx (AI .i64 ((i + 1 : Nat) : Int)) T')) l := by
          intro l
          induction l with
          | nil => intro _ _; trivial
          | cons p l ih =>
            intro hp h
            obtain ⟨j, v⟩ := p
            have hj := hp (j, v) (List.mem_cons_self ..)
            refine ⟨⟨h.1.1, ?_⟩, ih (fun q hq => hp q (List.mem_cons_of_mem _ hq)) h.2⟩
            rw [tget_tset, if_neg (fun e => hj.1 e.symm), tget_tset, if_neg (fun e => hj.2 e.symm)]
            exact h.1.2
        exact key _ (fun p hp => ⟨(hL _ _ p hp).1, (hL _ _ p hp).2.2.2⟩) hl
      | ret => exact hq
      | exit j => exact hq
    · rw [tget_tset]
      by_cases hj : tc = j
      · exfalso
        subst hj
        simp only [tget, beqN (Ne.symm t2), beqN (Ne.symm t3), cond_false] at hv
        have : ∀ (l : Tm), (∀ p ∈ l, p.1 ≠ tc) → tget l tc = none := by
          intro l
          induction l with
          | nil => intro _; rfl
          | cons p l ih =>
            intro hp
            obtain ⟨j, v⟩ := p
            simp only [tget, beqN (hp (j, v) (List.mem_cons_self ..)), cond_false]
            exact ih fun q hq => hp q (List.mem_cons_of_mem _ hq)
        rw [this _ fun p hp => (hL _ _ p hp).2.2.1] at hv
        cases hv
      · rw [if_neg hj]; exact hv
  · have hge : ¬ i < n := by simpa using h
    have : i = n := by omega
    subst this
    refine AW.exit ?_
    simp only [thenQ, blockQ, if_true]
    have := he a hJ
    simpa using this
end
/-! ### Lists -/
theorem getD_map_lt {α β : Type} {f : α → β} {l : List α} {i : Nat} {d : β} (h : i < l.length) : (l.map f).getD i d = f l[i] := by simp [h]
abbrev dI (z : Int) : D := .v (.int .i64 z)
/-- A list of ints. -/
abbrev ints (l : List Int) : List (List D) := l.map fun z => [dI z]
abbrev LI (l : List Int) : AV := .d (.lst 1 (ints l))
theorem all_take_succ {α : Type} {p : α → Bool} {l : List α} {i : Nat} (h : i < l.length) : (l.take (i + 1)).all p = ((l.take i).all p && p l[i]) := by
  rw [List.take_succ_eq_append_getElem h, List.all_append]; simp
theorem all_of_not {α : Type} {p : α → Bool} {l : List α} {i : Nat} (h : i < l.length) (hp : p l[i] = false) : l.all p = false := by
  rw [List.all_eq_false]
  exact ⟨l[i], List.getElem_mem h, by simp [hp]⟩
end Go.Proofs.YtipanehdmhachaaGreatDoor.H

set_option linter.unusedSimpArgs false
set_option linter.unusedVariables false
set_option linter.unusedSectionVars false
namespace Go.Proofs.YtipanehdmhachaaGreatDoor.H
variable [DR]

mutual
theorem renA_id : ∀ v : AV, renA id v = v
  | .d _ | .ful .. | .pre .. | .elm .. | .ptr .. | .own .. | .osl .. | .mp _ => rfl
  | .agg l => by simp only [renA, renL_id l]
  | .tup l => by simp only [renA, renL_id l]
  | .fn f a c => by simp only [renA, renL_id a, renL_id c]
theorem renL_id : ∀ l : List AV, renL id l = l
  | [] => rfl
  | v :: l => by simp only [renL, renA_id v, renL_id l]
end
theorem renB_id (b : Blk) : renB id b = b := by
  cases b with
  | cells T k rows => simp only [renB]; rw [show rows.map (renL id) = rows from by rw [List.map_congr_left (g := fun x => x) fun l _ => renL_id l]; simp]
  | mp es => rfl
  | it m c seen => rfl
mutual
theorem belA_mono {m n : Nat} (h : m ≤ n) : ∀ {v : AV}, belA m v = true → belA n v = true
  | .d _, _ | .ful .., _ | .pre .., _ | .elm .., _ => rfl
  | .ptr .., hv | .own .., hv | .osl .., hv | .mp _, hv => by simp only [belA, decide_eq_true_eq] at hv ⊢; omega
  | .agg l, hv => by simp only [belA] at hv ⊢; exact belL_mono h hv
  | .tup l, hv => by simp only [belA] at hv ⊢; exact belL_mono h hv
  | .fn f a c, hv => by
    simp only [belA, Bool.and_eq_true] at hv ⊢
    exact ⟨belL_mono h hv.1, belL_mono h hv.2⟩
theorem belL_mono {m n : Nat} (h : m ≤ n) : ∀ {l : List AV}, belL m l = true → belL n l = true
  | [], _ => rfl
  | v :: l, hv => by
    simp only [belL, Bool.and_eq_true] at hv ⊢
    exact ⟨belA_mono h hv.1, belL_mono h hv.2⟩
end
/-- What is made behind the caller's blocks is forgotten. -/
theorem ACalls.take {P : Program} {f : FuncId} {vs : List AV} {s : St} {Q Q' : AV → St → Prop} (h : ACalls P f vs s Q)
    (hq : ∀ v s', Q v s' → belA s.length v = true ∧ (∀ (i : Nat) b, i < s.length → s'[i]? = some (some b) → belB s.length b = true) ∧ Q' v (s'.take s.length)) : ACalls P f vs s Q' := by
  intro w K β us hz hr
  refine (h w K β us hz hr).mono fun e w' ⟨v, s', K', β', u, e1, q, hz', hR, hx⟩ => ?_
  obtain ⟨h1, h2, h3⟩ := hq v s' q
  have hl : (s'.take s.length).length = s.length := by rw [List.length_take]; have := hx.len; omega
  have get : ∀ {i b}, (s'.take s.length)[i]? = some (some b) → i < s.length ∧ s'[i]? = some (some b) := fun {i b} h => by
    rw [List.getElem?_take] at h
    split at h
    · exact ⟨by assumption, h⟩
    · cases h
  refine ⟨v, s'.take s.length, K', β', u, e1, h3, ⟨fun i b hb => ?_, fun i j ⟨b, hi⟩ ⟨c, hj⟩ => hz'.inj i j ⟨b, (get hi).2⟩ ⟨c, (get hj).2⟩, fun i ⟨b, hi⟩ => hz'.dis i ⟨b, (get hi).2⟩, hz'.kb, hz'.gl⟩, ?_, ?_⟩
  · obtain ⟨g1, g2⟩ := get hb
    have := hz'.blk i b g2
    rw [hl]
    exact BlkOK_unren (r := id) (fun _ _ => rfl) (by rw [renB_id]; exact this) (h2 i b g1 g2)
  · rw [hl]
    exact R_unren (r := id) (fun _ _ => rfl) (by rw [renA_id]; exact hR) h1
  · exact { size := hx.size, io := hx.io, fix := hx.fix, len := by omega, frame := hx.frame, kmono := hx.kmono, knew := hx.knew, onew := fun i ⟨b, hi⟩ => hx.onew i ⟨b, (get hi).2⟩ }
/-- A block is given up to lists at the call's end. -/
theorem ACalls.freeze {P : Program} {f : FuncId} {vs : List AV} {s : St} {Q Q' : AV → St → Prop} (h : ACalls P f vs s Q)
    (hq : ∀ v s', Q v s' → Q' v s' ∨ ∃ id t k rows, s'[id]? = some (some (.cells t k (rowsA rows))) ∧ fitA id rows.length v ∧ Q' (frzA id k rows v) (s'.set id none)) : ACalls P f vs s Q' := by
  intro w K β us hz hr
  refine (h w K β us hz hr).mono fun e w' ⟨v, s', K', β', u, e1, q, hz', hR, hx⟩ => ?_
  rcases hq v s' q with hq | ⟨id, t, k, rows, hid, hfit, hq⟩
  · exact ⟨v, s', K', β', u, e1, hq, hz', hR, hx⟩
  have hal : Alive s' id := ⟨_, hid⟩
  let K1 : Nat → Prop := fun b => K' b ∨ b = (β' id).b
  have hK : Stays w' K' w' K1 := ⟨fun _ h => .inl h, fun _ _ => rfl⟩
  have hF : FrzH w' K1 β' id k rows := .of hz' hid hK (.inr rfl)
  have get : ∀ {i b}, (s'.set id none)[i]? = some (some b) → i ≠ id ∧ s'[i]? = some (some b) := fun {i b} h => by
    rw [List.getElem?_set] at h
    split at h
    · split at h <;> simp at h
    · rename_i e; exact ⟨fun e' => e e'.symm, h⟩
  refine ⟨frzA id k rows v, s'.set id none, K1, β', u, e1, hq, ?_, by rw [List.length_set]; exact R_frz hK hF hR hfit, ?_⟩
  · refine ⟨fun i b hi => ?_, fun i j ⟨b, hi⟩ ⟨c, hj⟩ => hz'.inj i j ⟨b, (get hi).2⟩ ⟨c, (get hj).2⟩, fun i ⟨b, hi⟩ hk => ?_, fun b hb => ?_, hz'.gl.mono hK⟩
    · rw [List.length_set]; exact hz'.old hK (Nat.le_refl _) (fun _ _ => rfl) (get hi).2 rfl
    · rcases hk with hk | hk
      · exact hz'.dis i ⟨b, (get hi).2⟩ hk
      · exact hz'.inj i id ⟨b, (get hi).2⟩ hal (get hi).1 hk
    · rcases hb with hb | hb
      · exact hz'.kb b hb
      · rw [hb]; exact hz'.lt hal
  · exact { size := hx.size, io := hx.io, fix := hx.fix, len := by rw [List.length_set]; exact hx.len, frame := hx.frame, kmono := fun b hb => .inl (hx.kmono b hb)
            knew := fun b hb => by
              rcases hb with hb | hb
              · exact hx.knew b hb
              · rcases hx.onew id hal with h | ⟨j, h1, h2⟩
                · exact .inr (.inl (by rw [hb]; exact h))
                · exact .inr (.inr ⟨j, h1, h2.trans hb.symm⟩)
            onew := fun i ⟨b, hi⟩ => hx.onew i ⟨b, (get hi).2⟩ }

/-! ### Sources of numbers -/
abbrev SrcS (T : Nat) (L : List Int) (p : Nat) : Option Blk := some (.cells T 2 [[LI L, AI .i64 p]])
/-- A method of a source: its value is data of a sort, and the source stays the same but for the place in it. -/
def SFn (P : Program) (T : Nat) (L : List Int) (f : FuncId) (vc : List AV) (V : AV → Prop) : Prop :=
  ∀ p, p ≤ L.length → ACalls P f (.ptr 0 0 0 :: vc) [SrcS T L p] fun v s' => ∃ p', p' ≤ L.length ∧ V v ∧ belA 0 v = true ∧ s' = [SrcS T L p']
theorem given1 {T p i : Nat} {L : List Int} {s : St} {vc : List AV} (hi : s[i]? = some (SrcS T L p)) (hb : belL 0 vc = true) : Given [i] s (.ptr i 0 0 :: vc) [SrcS T L p] (.ptr 0 0 0 :: vc) := by
  have hlt : i < s.length := (List.getElem?_eq_some_iff.1 hi).1
  refine ⟨rfl, by simpa using hlt, by simp, fun j b hj => ?_, ?_, ?_⟩
  · match j with
    | 0 =>
      simp only [List.getElem?_cons_zero, Option.some.injEq] at hj; subst hj
      exact ⟨rfl, by simpa [renB, renL, renA] using hi⟩
    | j + 1 => simp at hj
  · simp only [belL, belA, List.length_singleton, Bool.and_eq_true]
    refine ⟨rfl, ?_⟩
    rw [belL_iff] at hb ⊢
    exact fun v hv => belA_mono (Nat.zero_le _) (hb v hv)
  · simp only [renL, renA, renL_bel0 _ hb, nmR]; simp
theorem back1 {T p i : Nat} {L : List Int} {s : St} (hi : i < s.length) : backS [i] s [SrcS T L p] = s.set i (SrcS T L p) := by
  unfold backS
  simp only [List.length_singleton, List.drop_one, List.tail_cons, List.map_nil, List.append_nil]
  refine List.ext_getElem? fun j => ?_
  rw [List.getElem?_map, List.getElem?_set]
  by_cases hj : j < s.length
  · rw [List.getElem?_range hj]
    by_cases e : i = j
    · subst e
      have : [i].idxOf? i = some 0 := by simp [List.idxOf?, List.findIdx?_cons]
      simp [this, hi, renB, renL, renA]
    · have : [i].idxOf? j = none := by simp [List.idxOf?_eq_none_iff]; exact fun h => e (h ▸ rfl)
      simp [this, e, hj]
  · rw [List.getElem?_eq_none (by simp; omega)]
    by_cases e : i = j
    · omega
    · simp [e]; omega
theorem SFn.call {P : Program} {T : Nat} {L : List Int} {f : FuncId} {vc : List AV} {V : AV → Prop} (h : SFn P T L f vc V) {s : St} {i p : Nat} (hi : s[i]? = some (SrcS T L p)) (hb : belL 0 vc = true) (hp : p ≤ L.length) {Q : AV → St → Prop}
    (hq : ∀ v p', p' ≤ L.length → V v → belA 0 v = true → Q v (s.set i (SrcS T L p'))) : ACalls P f (.ptr i 0 0 :: vc) s Q :=
  ACalls.frame (h p hp) (given1 hi hb) fun v s' ⟨p', h1, h2, h3, h4⟩ => by
    subst h4
    rw [renA_bel0 _ h3, back1 (List.getElem?_eq_some_iff.1 hi).1]
    exact hq v p' h1 h2 h3
/-- What a method's code must come to: its value is data, or gets so if a block is given up. -/
def SEnd (T : Nat) (L : List Int) (V : AV → Prop) (v : AV) (s' : St) : Prop :=
  ∃ p', p' ≤ L.length ∧ s'[0]? = some (SrcS T L p') ∧ ((V v ∧ belA 0 v = true) ∨ ∃ id t k rows, id ≠ 0 ∧ s'[id]? = some (some (.cells t k (rowsA rows))) ∧ fitA id rows.length v ∧ V (frzA id k rows v) ∧ belA 0 (frzA id k rows v) = true)
theorem SFn.of {P : Program} {T : Nat} {L : List Int} {f : FuncId} {vc : List AV} {V : AV → Prop} {N : Nat} {c : Cd} {rs : List RC} (hf : FnOK P f N c rs) (hN : vc.length + 1 ≤ N)
    (h : ∀ p, p ≤ L.length → AW P N 1 c (argT 0 (.ptr 0 0 0 :: vc)) [SrcS T L p] (callQ rs (SEnd T L V))) : SFn P T L f vc V := by
  intro p hp
  have h1 := ACalls.of hf (vs := .ptr 0 0 0 :: vc) (s := [SrcS T L p]) (Q := SEnd T L V) (by simpa using hN) (h p hp)
  have h2 : ACalls P f (.ptr 0 0 0 :: vc) [SrcS T L p] fun v s' => ∃ p', p' ≤ L.length ∧ s'[0]? = some (SrcS T L p') ∧ V v ∧ belA 0 v = true :=
    ACalls.freeze h1 fun v s' ⟨p', g1, g2, g3⟩ => by
      rcases g3 with g3 | ⟨id, t, k, rows, e1, e2, e3, e4, e5⟩
      · exact .inl ⟨p', g1, g2, g3⟩
      · exact .inr ⟨id, t, k, rows, e2, e3, p', g1, by rw [List.getElem?_set]; simp [e1, g2], e4, e5⟩
  refine ACalls.take h2 fun v s' ⟨p', g1, g2, g3, g4⟩ => ⟨belA_mono (Nat.zero_le _) g4, fun i b hi hb => ?_, p', g1, g3, g4, ?_⟩
  · have : i = 0 := by simp at hi; omega
    subst this
    rw [g2] at hb
    simp only [Option.some.injEq] at hb; subst hb; rfl
  · cases s' with
    | nil => simp at g2
    | cons x l => simp at g2; simp [g2]
theorem SFn.mono {P : Program} {T : Nat} {L : List Int} {f : FuncId} {vc : List AV} {V V' : AV → Prop} (h : SFn P T L f vc V) (hv : ∀ v, V v → V' v) : SFn P T L f vc V' :=
  fun p hp => (h p hp).mono fun v s' ⟨p', h1, h2, h3⟩ => ⟨p', h1, hv v h2, h3⟩
/-! ### One step after the other: for 'simp', which is not to look into what comes later -/
/-- A call, and what comes behind it in a region. -/
def CallI (P : Program) (f : FuncId) (vs : List AV) (s : St) (d : Option Nat) (T : Tm) (l : List Ins) (Q : Tm → St → Prop) : Prop := ACalls P f vs s fun v s' => RunI P l (tput d v T) s' Q
def CallD (P : Program) (f : FuncId) (vs : List AV) (s : St) (d : Option Nat) (T : Tm) (st : List Ins) (l : List DI) (Q : Tm → St → Prop) : Prop := ACalls P f vs s fun v s' => allP (fun g => floatV s' T g = floatV s T g) st ∧ RunD P l (tput d v T) s' Q
def GenI (P : Program) (g : GO) (as : List Operand) (vs : List AV) (s : St) (d : Option Nat) (T : Tm) (l : List Ins) (Q : Tm → St → Prop) : Prop := AOp P g as vs s fun v s' => RunI P l (tput d v T) s' Q
def GenD (P : Program) (g : GO) (as : List Operand) (vs : List AV) (s : St) (d : Option Nat) (T : Tm) (st : List Ins) (l : List DI) (Q : Tm → St → Prop) : Prop := AOp P g as vs s fun v s' => allP (fun g => floatV s' T g = floatV s T g) st ∧ RunD P l (tput d v T) s' Q
def isCall : KO → Bool
  | .gen .. => true
  | .call .. => true
  | .callv .. => true
  | .bslice .. => false
  | .asg .. => false
  | .mkz .. => false
  | .alloc .. => false
  | .box .. => false
  | .store .. => false
  | .mkslice .. => false
  | .append .. => false
  | .copy .. => false
section
variable {P : Program} {T : Tm} {s : St} {Q : Tm → St → Prop} {d : Option Nat} {g : Nat × Bool} {l : List Ins} {m : List DI} {i : Nat} {st : List Ins}
theorem rI_nil : RunI P [] T s Q = Q T s := rfl
theorem rI_f {o : FO} : RunI P (.f d none o :: l) T s Q = match evF s T o with
    | some (C, v) => C ∧ RunI P l (tput d v T) s Q
    | none => False := rfl
/-- A step behind a guard: not looked into until its test is known. -/
def GI (c c' : Prop) (P : Program) (n : Ins) (d : Option Nat) (l : List Ins) (T : Tm) (s : St) (Q : Tm → St → Prop) : Prop := (c → RunI P (n :: l) T s Q) ∧ (c' → RunI P l (tput d (.tup []) T) s Q) ∧ (c ∨ c')
theorem GI_t {P : Program} {n : Ins} {d : Option Nat} {l : List Ins} {T : Tm} {s : St} {Q : Tm → St → Prop} : GI True False P n d l T s Q = RunI P (n :: l) T s Q := by simp [GI]
theorem GI_f {P : Program} {n : Ins} {d : Option Nat} {l : List Ins} {T : Tm} {s : St} {Q : Tm → St → Prop} : GI False True P n d l T s Q = RunI P l (tput d (.tup []) T) s Q := by simp [GI]
theorem GI.of {c c' : Prop} {P : Program} {n : Ins} {d : Option Nat} {l : List Ins} {T : Tm} {s : St} {Q : Tm → St → Prop} (h : c → RunI P (n :: l) T s Q) (g : c' → RunI P l (tput d (.tup []) T) s Q) (e : c ∨ c') : GI c c' P n d l T s Q := ⟨h, g, e⟩
def GD (c c' : Prop) (P : Program) (n : DI) (d : Option Nat) (l : List DI) (T : Tm) (s : St) (Q : Tm → St → Prop) : Prop := (c → RunD P (n :: l) T s Q) ∧ (c' → RunD P l (tput d (.tup []) T) s Q) ∧ (c ∨ c')
theorem GD_t {P : Program} {n : DI} {d : Option Nat} {l : List DI} {T : Tm} {s : St} {Q : Tm → St → Prop} : GD True False P n d l T s Q = RunD P (n :: l) T s Q := by simp [GD]
theorem GD_f {P : Program} {n : DI} {d : Option Nat} {l : List DI} {T : Tm} {s : St} {Q : Tm → St → Prop} : GD False True P n d l T s Q = RunD P l (tput d (.tup []) T) s Q := by simp [GD]
theorem GD.of {c c' : Prop} {P : Program} {n : DI} {d : Option Nat} {l : List DI} {T : Tm} {s : St} {Q : Tm → St → Prop} (h : c → RunD P (n :: l) T s Q) (g : c' → RunD P l (tput d (.tup []) T) s Q) (e : c ∨ c') : GD c c' P n d l T s Q := ⟨h, g, e⟩
theorem gate_GI {A B : Prop} : ∀ {x : Option Bool}, (match x with | some true => A | some false => B | none => False) = ((x = some true → A) ∧ (x = some false → B) ∧ (x = some true ∨ x = some false))
  | none => by simp
  | some true => by simp
  | some false => by simp
theorem rI_fg {o : FO} : RunI P (.f d (some g) o :: l) T s Q = GI (gate T (some g) = some true) (gate T (some g) = some false) P (.f d none o) d l T s Q := by
  unfold GI; rw [← gate_GI]; rfl
theorem rI_kg {o : KO} : RunI P (.k d (some g) o :: l) T s Q = GI (gate T (some g) = some true) (gate T (some g) = some false) P (.k d none o) d l T s Q := by
  unfold GI; rw [← gate_GI]; rfl
theorem rI_call {f : FuncId} {as : List Operand} : RunI P (.k d none (.call f as) :: l) T s Q = match opdL T as with
    | some vs => CallI P f vs s d T l Q
    | none => False := rfl
theorem rI_callv {x : Operand} {as : List Operand} : RunI P (.k d none (.callv x as) :: l) T s Q = match opd T x, opdL T as with
    | some (.fn f a c), some vs => BodyOK P f = true ∧ CallI P f (a ++ vs ++ c) s d T l Q
    | _, _ => False := rfl
theorem rI_gen {go : GO} {as : List Operand} : RunI P (.k d none (.gen go as) :: l) T s Q = match opdL T as with
    | some vs => GenI P go as vs s d T l Q
    | none => False := rfl
theorem rI_k {o : KO} (h : isCall o = false) : RunI P (.k d none o :: l) T s Q = match evK s T o with
    | some (C, v, s') => C ∧ RunI P l (tput d v T) s' Q
    | none => False := by
  cases o <;> first | rfl | cases h
theorem rD_nil : RunD P [] T s Q = Q T s := rfl
theorem rD_f {o : FO} : RunD P (⟨i, .f d none o, st⟩ :: m) T s Q = match evF s T o with
    | some (C, v) => C ∧ RunD P m (tput d v T) s Q
    | none => False := rfl
theorem rD_fg {o : FO} : RunD P (⟨i, .f d (some g) o, st⟩ :: m) T s Q = GD (gate T (some g) = some true) (gate T (some g) = some false) P ⟨i, .f d none o, st⟩ d m T s Q := by
  unfold GD; rw [← gate_GI]; rfl
theorem rD_kg {o : KO} : RunD P (⟨i, .k d (some g) o, st⟩ :: m) T s Q = GD (gate T (some g) = some true) (gate T (some g) = some false) P ⟨i, .k d none o, st⟩ d m T s Q := by
  unfold GD; rw [← gate_GI]
  have e : gate T none = some true := rfl
  simp only [RunD, StepD, Ins.g, Ins.d, e]
  cases gate T (some g) with
  | none => rfl
  | some b => cases b <;> (cases o <;> rfl)
theorem rD_call {f : FuncId} {as : List Operand} : RunD P (⟨i, .k d none (.call f as), st⟩ :: m) T s Q = match opdL T as with
    | some vs => CallD P f vs s d T st m Q
    | none => False := rfl
theorem rD_callv {x : Operand} {as : List Operand} : RunD P (⟨i, .k d none (.callv x as), st⟩ :: m) T s Q = match opd T x, opdL T as with
    | some (.fn f a c), some vs => BodyOK P f = true ∧ CallD P f (a ++ vs ++ c) s d T st m Q
    | _, _ => False := rfl
theorem rD_gen {go : GO} {as : List Operand} : RunD P (⟨i, .k d none (.gen go as), st⟩ :: m) T s Q = match opdL T as with
    | some vs => GenD P go as vs s d T st m Q
    | none => False := rfl
theorem rD_bs {t k n : Nat} {z : List Value} {ps : List (Nat × Nat × Operand)} : RunD P (⟨i, .k d none (.bslice t k n z ps), st⟩ :: m) T s Q = match floatV s T (.k d none (.bslice t k n z ps)) with
    | some (C, v) => C ∧ RunD P m (tput d v T) s Q
    | none => False := rfl
def isBs : KO → Bool
  | .gen .. => false
  | .bslice .. => true
  | .call .. => false
  | .callv .. => false
  | .asg .. => false
  | .mkz .. => false
  | .alloc .. => false
  | .box .. => false
  | .store .. => false
  | .mkslice .. => false
  | .append .. => false
  | .copy .. => false
theorem rD_k {o : KO} (h : isCall o = false) (h' : isBs o = false) : RunD P (⟨i, .k d none o, []⟩ :: m) T s Q = match evK s T o with
    | some (C, v, s') => C ∧ RunD P m (tput d v T) s' Q
    | none => False := by
  have key : RunD P (⟨i, .k d none o, []⟩ :: m) T s Q = match evK s T o with
    | some (C, v, s') => C ∧ True ∧ RunD P m (tput d v T) s' Q
    | none => False := by
    cases o <;> first | rfl | (simp [isCall] at h; done) | (simp [isBs] at h'; done)
  rw [key]
  cases evK s T o with
  | none => rfl
  | some x => simp only [true_and]
theorem rD_ks {o : KO} {x : Ins} (h : isCall o = false) (h' : isBs o = false) : RunD P (⟨i, .k d none o, x :: st⟩ :: m) T s Q = match evK s T o with
    | some (C, v, s') => C ∧ allP (fun g => floatV s' T g = floatV s T g) (x :: st) ∧ RunD P m (tput d v T) s' Q
    | none => False := by
  cases o <;> first | rfl | (simp [isCall] at h; done) | (simp [isBs] at h'; done)
end
section
variable {P : Program} {T : Tm} {s : St} {Q : Tm → St → Prop} {d : Option Nat} {l : List Ins} {m : List DI} {i : Nat} {st : List Ins} {x : Ins}
theorem rI_asg {a0} : RunI P (.k d none (.asg a0) :: l) T s Q = match evK s T (.asg a0) with
    | some (C, v, s') => C ∧ RunI P l (tput d v T) s' Q
    | none => False := rI_k rfl
theorem rD_asg {a0} : RunD P (⟨i, .k d none (.asg a0), []⟩ :: m) T s Q = match evK s T (.asg a0) with
    | some (C, v, s') => C ∧ RunD P m (tput d v T) s' Q
    | none => False := rD_k rfl rfl
theorem rDs_asg {a0} : RunD P (⟨i, .k d none (.asg a0), x :: st⟩ :: m) T s Q = match evK s T (.asg a0) with
    | some (C, v, s') => C ∧ allP (fun g => floatV s' T g = floatV s T g) (x :: st) ∧ RunD P m (tput d v T) s' Q
    | none => False := rD_ks rfl rfl
theorem rI_mkz {a0 a1 a2 a3} : RunI P (.k d none (.mkz a0 a1 a2 a3) :: l) T s Q = match evK s T (.mkz a0 a1 a2 a3) with
    | some (C, v, s') => C ∧ RunI P l (tput d v T) s' Q
    | none => False := rI_k rfl
theorem rD_mkz {a0 a1 a2 a3} : RunD P (⟨i, .k d none (.mkz a0 a1 a2 a3), []⟩ :: m) T s Q = match evK s T (.mkz a0 a1 a2 a3) with
    | some (C, v, s') => C ∧ RunD P m (tput d v T) s' Q
    | none => False := rD_k rfl rfl
theorem rDs_mkz {a0 a1 a2 a3} : RunD P (⟨i, .k d none (.mkz a0 a1 a2 a3), x :: st⟩ :: m) T s Q = match evK s T (.mkz a0 a1 a2 a3) with
    | some (C, v, s') => C ∧ allP (fun g => floatV s' T g = floatV s T g) (x :: st) ∧ RunD P m (tput d v T) s' Q
    | none => False := rD_ks rfl rfl
theorem rI_alloc {a0 a1} : RunI P (.k d none (.alloc a0 a1) :: l) T s Q = match evK s T (.alloc a0 a1) with
    | some (C, v, s') => C ∧ RunI P l (tput d v T) s' Q
    | none => False := rI_k rfl
theorem rD_alloc {a0 a1} : RunD P (⟨i, .k d none (.alloc a0 a1), []⟩ :: m) T s Q = match evK s T (.alloc a0 a1) with
    | some (C, v, s') => C ∧ RunD P m (tput d v T) s' Q
    | none => False := rD_k rfl rfl
theorem rDs_alloc {a0 a1} : RunD P (⟨i, .k d none (.alloc a0 a1), x :: st⟩ :: m) T s Q = match evK s T (.alloc a0 a1) with
    | some (C, v, s') => C ∧ allP (fun g => floatV s' T g = floatV s T g) (x :: st) ∧ RunD P m (tput d v T) s' Q
    | none => False := rD_ks rfl rfl
theorem rI_box {a0 a1 a2} : RunI P (.k d none (.box a0 a1 a2) :: l) T s Q = match evK s T (.box a0 a1 a2) with
    | some (C, v, s') => C ∧ RunI P l (tput d v T) s' Q
    | none => False := rI_k rfl
theorem rD_box {a0 a1 a2} : RunD P (⟨i, .k d none (.box a0 a1 a2), []⟩ :: m) T s Q = match evK s T (.box a0 a1 a2) with
    | some (C, v, s') => C ∧ RunD P m (tput d v T) s' Q
    | none => False := rD_k rfl rfl
theorem rDs_box {a0 a1 a2} : RunD P (⟨i, .k d none (.box a0 a1 a2), x :: st⟩ :: m) T s Q = match evK s T (.box a0 a1 a2) with
    | some (C, v, s') => C ∧ allP (fun g => floatV s' T g = floatV s T g) (x :: st) ∧ RunD P m (tput d v T) s' Q
    | none => False := rD_ks rfl rfl
theorem rI_store {a0 a1 a2} : RunI P (.k d none (.store a0 a1 a2) :: l) T s Q = match evK s T (.store a0 a1 a2) with
    | some (C, v, s') => C ∧ RunI P l (tput d v T) s' Q
    | none => False := rI_k rfl
theorem rD_store {a0 a1 a2} : RunD P (⟨i, .k d none (.store a0 a1 a2), []⟩ :: m) T s Q = match evK s T (.store a0 a1 a2) with
    | some (C, v, s') => C ∧ RunD P m (tput d v T) s' Q
    | none => False := rD_k rfl rfl
theorem rDs_store {a0 a1 a2} : RunD P (⟨i, .k d none (.store a0 a1 a2), x :: st⟩ :: m) T s Q = match evK s T (.store a0 a1 a2) with
    | some (C, v, s') => C ∧ allP (fun g => floatV s' T g = floatV s T g) (x :: st) ∧ RunD P m (tput d v T) s' Q
    | none => False := rD_ks rfl rfl
theorem rI_mkslice {a0 a1 a2 a3 a4 a5} : RunI P (.k d none (.mkslice a0 a1 a2 a3 a4 a5) :: l) T s Q = match evK s T (.mkslice a0 a1 a2 a3 a4 a5) with
    | some (C, v, s') => C ∧ RunI P l (tput d v T) s' Q
    | none => False := rI_k rfl
theorem rD_mkslice {a0 a1 a2 a3 a4 a5} : RunD P (⟨i, .k d none (.mkslice a0 a1 a2 a3 a4 a5), []⟩ :: m) T s Q = match evK s T (.mkslice a0 a1 a2 a3 a4 a5) with
    | some (C, v, s') => C ∧ RunD P m (tput d v T) s' Q
    | none => False := rD_k rfl rfl
theorem rDs_mkslice {a0 a1 a2 a3 a4 a5} : RunD P (⟨i, .k d none (.mkslice a0 a1 a2 a3 a4 a5), x :: st⟩ :: m) T s Q = match evK s T (.mkslice a0 a1 a2 a3 a4 a5) with
    | some (C, v, s') => C ∧ allP (fun g => floatV s' T g = floatV s T g) (x :: st) ∧ RunD P m (tput d v T) s' Q
    | none => False := rD_ks rfl rfl
theorem rI_append {a0 a1 a2 a3 a4} : RunI P (.k d none (.append a0 a1 a2 a3 a4) :: l) T s Q = match evK s T (.append a0 a1 a2 a3 a4) with
    | some (C, v, s') => C ∧ RunI P l (tput d v T) s' Q
    | none => False := rI_k rfl
theorem rD_append {a0 a1 a2 a3 a4} : RunD P (⟨i, .k d none (.append a0 a1 a2 a3 a4), []⟩ :: m) T s Q = match evK s T (.append a0 a1 a2 a3 a4) with
    | some (C, v, s') => C ∧ RunD P m (tput d v T) s' Q
    | none => False := rD_k rfl rfl
theorem rDs_append {a0 a1 a2 a3 a4} : RunD P (⟨i, .k d none (.append a0 a1 a2 a3 a4), x :: st⟩ :: m) T s Q = match evK s T (.append a0 a1 a2 a3 a4) with
    | some (C, v, s') => C ∧ allP (fun g => floatV s' T g = floatV s T g) (x :: st) ∧ RunD P m (tput d v T) s' Q
    | none => False := rD_ks rfl rfl
theorem rI_copy {a0 a1 a2} : RunI P (.k d none (.copy a0 a1 a2) :: l) T s Q = match evK s T (.copy a0 a1 a2) with
    | some (C, v, s') => C ∧ RunI P l (tput d v T) s' Q
    | none => False := rI_k rfl
theorem rD_copy {a0 a1 a2} : RunD P (⟨i, .k d none (.copy a0 a1 a2), []⟩ :: m) T s Q = match evK s T (.copy a0 a1 a2) with
    | some (C, v, s') => C ∧ RunD P m (tput d v T) s' Q
    | none => False := rD_k rfl rfl
theorem rDs_copy {a0 a1 a2} : RunD P (⟨i, .k d none (.copy a0 a1 a2), x :: st⟩ :: m) T s Q = match evK s T (.copy a0 a1 a2) with
    | some (C, v, s') => C ∧ allP (fun g => floatV s' T g = floatV s T g) (x :: st) ∧ RunD P m (tput d v T) s' Q
    | none => False := rD_ks rfl rfl
theorem rI_bslice {a0 a1 a2 a3 a4} : RunI P (.k d none (.bslice a0 a1 a2 a3 a4) :: l) T s Q = match evK s T (.bslice a0 a1 a2 a3 a4) with
    | some (C, v, s') => C ∧ RunI P l (tput d v T) s' Q
    | none => False := rI_k rfl
end
theorem rowsA_nil : rowsA [] = [] := rfl
theorem rowsA_cons {r : List D} {l : List (List D)} : rowsA (r :: l) = r.map .d :: rowsA l := rfl
theorem rowsA_len (rows : List (List D)) : (rowsA rows).length = rows.length := by simp [rowsA]
theorem take_rowsA (n : Nat) (rows : List (List D)) : (rowsA rows).take n = rowsA (rows.take n) := by simp [rowsA, List.map_take]
theorem AW_congr {P : Program} {N m : Nat} {c : Cd} {T T' : Tm} {s s' : St} {Q : Fl → Tm → St → Prop} (h1 : T = T') (h2 : s = s') : AW P N m c T s Q = AW P N m c T' s' Q := by rw [h1, h2]
attribute [congr] AW_congr
def isLoop : Cd → Bool
  | .loop _ => true
  | _ => false
theorem AW.blockS {P : Program} {N m : Nat} {T : Tm} {s : St} {Q : Fl → Tm → St → Prop} {id : Nat} {c : Cd} (hc : isLoop c = false) (h : AW P N m c T s (blockQ id Q)) : AW P N m (.block id c) T s Q := AW.block h
theorem AW.condT {P : Program} {N m : Nat} {T : Tm} {s : St} {Q : Fl → Tm → St → Prop} {x : Operand} {c d : Cd} (hx : opd T x = some (AB true)) (h : AW P N m c T s Q) : AW P N m (.cond x c d) T s Q :=
  AW.cond hx rfl (fun _ => h) fun h => by cases h
theorem AW.condF {P : Program} {N m : Nat} {T : Tm} {s : St} {Q : Fl → Tm → St → Prop} {x : Operand} {c d : Cd} (hx : opd T x = some (AB false)) (h : AW P N m d T s Q) : AW P N m (.cond x c d) T s Q :=
  AW.cond hx rfl (fun h => by cases h) fun _ => h
theorem AW.condP {P : Program} {N m : Nat} {T : Tm} {s : St} {Q : Fl → Tm → St → Prop} {x : Operand} {c d : Cd} {b : Bool} (hx : opd T x = some (AB b)) (h1 : b = true → AW P N m c T s Q) (h2 : ¬ b = true → AW P N m d T s Q) : AW P N m (.cond x c d) T s Q :=
  AW.cond hx rfl h1 fun h => h2 (by simp [h])
set_option linter.defProp false in
/-- The steps, in one name. -/
def RS := And.intro @rI_gen (And.intro @rD_gen (And.intro @GI_t (And.intro @GI_f (And.intro @GD_t (And.intro @GD_f (And.intro @rI_nil (And.intro @rI_f (And.intro @rI_fg (And.intro @rI_kg (And.intro @rI_call (And.intro @rI_callv (And.intro @rD_nil (And.intro @rD_f (And.intro @rD_fg (And.intro @rD_kg (And.intro @rD_call (And.intro @rD_callv (And.intro @rD_bs (And.intro @rI_asg (And.intro @rD_asg (And.intro @rDs_asg (And.intro @rI_mkz (And.intro @rD_mkz (And.intro @rDs_mkz (And.intro @rI_alloc (And.intro @rD_alloc (And.intro @rDs_alloc (And.intro @rI_box (And.intro @rD_box (And.intro @rDs_box (And.intro @rI_store (And.intro @rD_store (And.intro @rDs_store (And.intro @rI_mkslice (And.intro @rD_mkslice (And.intro @rDs_mkslice (And.intro @rI_append (And.intro @rD_append (And.intro @rDs_append (And.intro @rI_copy (And.intro @rD_copy (And.intro @rDs_copy (@rI_bslice)))))))))))))))))))))))))))))))))))))))))))
set_option linter.defProp false in
/-- Plain steps of lists and numbers, in one name. -/
def LS := And.intro @rowsA_len (And.intro @take_rowsA (And.intro @List.take_length.{0} (And.intro @beq_self_eq_true.{0} (And.intro @cond_true.{1} (And.intro @cond_false.{1} (And.intro @true_and (And.intro @and_true (And.intro @List.length_cons.{0} (And.intro @List.length_nil.{0} (And.intro @List.length_map.{0, 0} (And.intro @List.length_append.{0} (And.intro @List.length_singleton.{0} (And.intro @List.getElem?_cons_zero.{0} (And.intro @List.getElem?_cons_succ.{0} (And.intro @List.getElem?_nil.{0} (And.intro @List.set_cons_zero.{0} (And.intro @List.set_cons_succ.{0} (And.intro @List.getD_cons_zero.{0} (And.intro @List.getD_cons_succ.{0} (And.intro @List.cons_append.{0} (And.intro @List.nil_append.{0} (And.intro @List.map_cons.{0, 0} (And.intro @List.map_nil.{0, 0} (And.intro @List.all_cons.{0} (And.intro @List.all_nil.{0} (And.intro @List.flatten_cons.{0} (And.intro @List.flatten_nil.{0} (And.intro @List.append_nil.{0} (And.intro @List.take_succ_cons.{0} (And.intro @List.take_zero.{0} (And.intro @List.drop_succ_cons.{0} (And.intro @List.drop_zero.{0} (And.intro @List.take_nil.{0} (And.intro @List.drop_nil.{0} (And.intro @Bool.and_true (And.intro @Bool.true_and (And.intro @Bool.and_false (And.intro @Bool.false_and (And.intro @Bool.not_true (And.intro @Bool.not_false (And.intro @beq_true (And.intro @beq_false (And.intro @Option.getD_some.{0} (And.intro @Option.getD_none.{0} (And.intro @Int.toNat_natCast (And.intro @Nat.zero_add (And.intro @Nat.add_zero (And.intro @Nat.zero_mul (And.intro @Nat.mul_one (And.intro @Nat.mul_zero (And.intro @List.range_succ (And.intro @List.range_zero (And.intro @Option.map_some.{0, 0} (And.intro @Option.bind_some.{0, 0} (And.intro @Option.some.injEq.{0} (And.intro @true_or (And.intro @or_true (And.intro @rowsA_nil (And.intro @rowsA_cons (And.intro @and_self (And.intro @not_false_eq_true (And.intro @decide_true (@decide_false)))))))))))))))))))))))))))))))))))))))))))))))))))))))))))))))
set_option linter.defProp false in
/-- The told operations' equations, in one name. -/
def SY := And.intro @decide_eq_true_eq (And.intro @Bool.not_eq_true' (And.intro @decide_eq_false_iff_not (And.intro @Bool.not_eq_false' (And.intro @gate.eq_1 (And.intro @gate.eq_2 (And.intro @allP.eq_1 (And.intro @allP.eq_2 (And.intro @evK.eq_1 (And.intro @evK.eq_2 (And.intro @evK.eq_3 (And.intro @evK.eq_4 (And.intro @evK.eq_5 (And.intro @evK.eq_6 (And.intro @evK.eq_7 (And.intro @evK.eq_8 (And.intro @evK.eq_9 (And.intro @evK.eq_10 (And.intro @evK.eq_11 (And.intro @evK.eq_12 (And.intro @evF.eq_1 (And.intro @evF.eq_2 (And.intro @evF.eq_3 (And.intro @evF.eq_4 (And.intro @evF.eq_5 (And.intro @evF.eq_6 (And.intro @evF.eq_7 (And.intro @evF.eq_8 (And.intro @evF.eq_9 (And.intro @evF.eq_10 (And.intro @evF.eq_11 (And.intro @evF.eq_12 (And.intro @evF.eq_13 (And.intro @evF.eq_14 (And.intro @evF.eq_15 (And.intro @evF.eq_16 (And.intro @evF.eq_17 (And.intro @evF.eq_18 (And.intro @evF.eq_19 (And.intro @evF.eq_20 (And.intro @evF.eq_21 (And.intro @evF.eq_22 (And.intro @evF.eq_23 (And.intro @evF.eq_24 (And.intro @evF.eq_25 (And.intro @opd.eq_1 (And.intro @opd.eq_2 (And.intro @opd.eq_3 (And.intro @opd.eq_4 (And.intro @opdL.eq_1 (And.intro @opdL.eq_2 (And.intro @opdP.eq_1 (And.intro @opdP.eq_2 (And.intro @optI.eq_1 (And.intro @optI.eq_2 (And.intro @tget.eq_1 (And.intro @tget.eq_2 (And.intro @tset.eq_1 (And.intro @tset.eq_2 (And.intro @tput.eq_1 (And.intro @tput.eq_2 (And.intro @argT.eq_1 (And.intro @argT.eq_2 (And.intro @rangeQ.eq_1 (And.intro @rangeQ.eq_2 (And.intro @rangeQ.eq_3 (And.intro @callQ.eq_1 (And.intro @callQ.eq_2 (And.intro @callQ.eq_3 (And.intro @RetQ.eq_1 (And.intro @resL.eq_1 (And.intro @resL.eq_2 (And.intro @resV.eq_1 (And.intro @resV.eq_2 (And.intro @binA.eq_1 (And.intro @binbA.eq_1 (And.intro @binsA.eq_1 (And.intro @shfA.eq_1 (And.intro @eqlA.eq_1 (And.intro @eqAs.eq_1 (And.intro @eqAs.eq_2 (And.intro @pickA.eq_1 (And.intro @convA.eq_1 (And.intro @cut.eq_1 (And.intro @cut.eq_2 (And.intro @cutA.eq_1 (And.intro @cutA.eq_2 (And.intro @cutD.eq_1 (And.intro @cutD.eq_2 (And.intro @cellsOf.eq_1 (And.intro @iaddrA.eq_1 (And.intro @sidxA.eq_1 (And.intro @lensA.eq_1 (And.intro @mmA.eq_1 (And.intro @mmA.eq_2 (And.intro @mmL.eq_1 (And.intro @mmL.eq_2 (And.intro @mmF.eq_1 (And.intro @slcsA.eq_1 (And.intro @fillA.eq_1 (And.intro @fillA.eq_2 (And.intro @setA.eq_1 (And.intro @zeroA.eq_1 (And.intro @boxA.eq_1 (And.intro @putRow.eq_1 (And.intro @bsliceA.eq_1 (And.intro @toDs.eq_1 (And.intro @toDs.eq_2 (And.intro @chunk.eq_1 (And.intro @chunk.eq_2 (And.intro @mksliceA.eq_1 (And.intro @appendA.eq_1 (And.intro @Fl.ex.eq_1 (And.intro @Fl.ex.eq_2 @Fl.ex.eq_3)))))))))))))))))))))))))))))))))))))))))))))))))))))))))))))))))))))))))))))))))))))))))))))))))))))))))))))))))
end Go.Proofs.YtipanehdmhachaaGreatDoor.H

set_option linter.unusedSimpArgs false
set_option linter.unusedVariables false
set_option linter.unusedSectionVars false
namespace Go.Proofs.YtipanehdmhachaaGreatDoor.H
variable [DR]
section
variable {P : Program} {N m : Nat} {T : Tm} {s : St} {Q : Fl → Tm → St → Prop}
/-- A loop over an array's indices. -/
abbrev rangeN (id ti : Nat) (n : Int) (tc tx : Nat) (b : Cd) : Cd :=
  .block id (.loop (.seq (.ops [.f (some tc) none (.bin .lss (.tmp ti) (.const (.int .i64 n)))]) (.seq (.cond (.tmp tc) .skip (.exit id)) (.seq b (.ops [.f (some tx) none (.bin .add (.tmp ti) (.const (.int .i64 1))), .f (some ti) none (.mv (.tmp tx))])))))
def rangeNQ {α : Type} (id ti m i : Nat) (L : Nat → α → Tm) (S : Nat → α → St) (J : Nat → α → Prop) (Q : Fl → Tm → St → Prop) : Fl → Tm → St → Prop
  | .normal => fun T' s' => ∃ a' rl, J (i + 1) a' ∧ Nrm rl m T' s' ((ti, AI .i64 i) :: L (i + 1) a') (S (i + 1) a')
  | .exit j => if j = id then Q .normal else Q (.exit j)
  | .ret => Q .ret
theorem AW.arr {α : Type} {id ti tc tx : Nat} {b : Cd} (n : Nat) (hn : n ≤ 4611686018427387904) (ht : tc ≠ ti ∧ tx ≠ ti) (L : Nat → α → Tm) (S : Nat → α → St) (J : Nat → α → Prop) (a0 : α) (h0 : J 0 a0) (rl : List Nat)
    (hN : Nrm rl m T s ((ti, AI .i64 0) :: L 0 a0) (S 0 a0)) (hL : ∀ i a, ∀ p ∈ L i a, p.1 ≠ ti ∧ p.1 ≠ tc ∧ p.1 ≠ tx)
    (hb : ∀ i a, i < n → J i a → AW P N m b ((ti, AI .i64 i) :: L i a) (S i a) (rangeNQ id ti m i L S J Q))
    (he : ∀ a, J n a → Q .normal (tset tc (AB false) ((ti, AI .i64 n) :: L n a)) (S n a)) : AW P N m (rangeN id ti n tc tx b) T s Q := by
  obtain ⟨t2, t4⟩ := ht
  unfold rangeN
  refine AW.block (AW.loopA (α := { p : Nat × α // p.1 ≤ n }) (fun p => n - p.1.1) (fun p => (ti, AI .i64 p.1.1) :: L p.1.1 p.1.2) (fun p => S p.1.1 p.1.2) (fun p => J p.1.1 p.1.2) ⟨(0, a0), Nat.zero_le _⟩ h0 rl hN ?_)
  rintro ⟨⟨i, a⟩, hi⟩ hJ
  simp only at hJ hi ⊢
  refine AW.seq' (AW.ops ?_)
  have e0 : tget ((ti, AI .i64 i) :: L i a) ti = some (AI .i64 i) := by simp [tget]
  simp only [RunI, Step, Ins.g, gate, StepV, evF, opd, constA, e0, binA, asI, if_true, intA, tput, Ins.d, true_and, thenQ]
  refine AW.seq' ?_
  have e2 : tget (tset tc (AB (decide ((i : Int) < n))) ((ti, AI .i64 i) :: L i a)) tc = some (AB (decide ((i : Int) < n))) := by rw [tget_tset, if_pos rfl]
  refine AW.cond (x := .tmp tc) (v := AB (decide ((i : Int) < n))) (b := decide ((i : Int) < n)) e2 rfl (fun h => ?_) (fun h => ?_)
  · have hlt : i < n := by simpa using h
    refine AW.skip ?_
    simp only [thenQ]
    refine AW.seq' ?_
    refine AW.forget ((hb i a hlt hJ).mono fun fl T' s' hq => ?_) (fun j v hv => ?_) rfl (fun _ _ h => h)
    · cases fl with
      | normal =>
        obtain ⟨a', rl', g1, g2⟩ := hq
        simp only [thenQ]
        have f0 : tget T' ti = some (AI .i64 i) := by have := (NT_get g2.tm (i := ti) (v := AI .i64 i) (by simp [tget])).2; simpa [renA] using this
        refine AW.ops ?_
        simp only [RunI, Step, Ins.g, gate, StepV, evF, opd, f0, constA, binA, asI, if_true, intA, tput, Ins.d, true_and, thenQ]
        rw [tget_tset, if_pos rfl]
        simp only [true_and]
        have hw : IntKind.i64.wrap ((i : Int) + 1) = ((i + 1 : Nat) : Int) := by rw [wrap_id (by omega) (by omega)]; omega
        rw [hw]
        refine ⟨⟨(i + 1, a'), hlt⟩, rl', g1, by simp only; omega, { len := g2.len, nd := g2.nd, fix := g2.fix, st := g2.st, tm := ?_ }⟩
        obtain ⟨_, hl⟩ := g2.tm
        refine ⟨⟨rfl, by rw [tget_tset, if_pos rfl]; rfl⟩, ?_⟩
        have key : ∀ (l : Tm), (∀ p ∈ l, p.1 ≠ ti ∧ p.1 ≠ tx) → NT (S (i + 1) a').length (nmL rl') T' l → NT (S (i + 1) a').length (nmL rl') (tset ti (AI .i64 ((i + 1 : Nat) : Int)) (tset tx (AI .i64 ((i + 1 : Nat) : Int)) T')) l := by
          intro l
          induction l with
          | nil => intro _ _; trivial
          | cons p l ih =>
            intro hp h
            obtain ⟨j, v⟩ := p
            have hj := hp (j, v) (List.mem_cons_self ..)
            refine ⟨⟨h.1.1, ?_⟩, ih (fun q hq => hp q (List.mem_cons_of_mem _ hq)) h.2⟩
            rw [tget_tset, if_neg (fun e => hj.1 e.symm), tget_tset, if_neg (fun e => hj.2 e.symm)]
            exact h.1.2
        exact key _ (fun p hp => ⟨(hL _ _ p hp).1, (hL _ _ p hp).2.2⟩) hl
      | ret => exact hq
      | exit j => exact hq
    · rw [tget_tset]
      by_cases hj : tc = j
      · exfalso
        subst hj
        simp only [tget, beqN (Ne.symm t2), cond_false] at hv
        have : ∀ (l : Tm), (∀ p ∈ l, p.1 ≠ tc) → tget l tc = none := by
          intro l
          induction l with
          | nil => intro _; rfl
          | cons p l ih =>
            intro hp
            obtain ⟨j, v⟩ := p
            simp only [tget, beqN (hp (j, v) (List.mem_cons_self ..)), cond_false]
            exact ih fun q hq => hp q (List.mem_cons_of_mem _ hq)
        rw [this _ fun p hp => (hL _ _ p hp).2.1] at hv
        cases hv
      · rw [if_neg hj]; exact hv
  · have hge : ¬ i < n := by simpa using h
    have : i = n := by omega
    subst this
    refine AW.exit ?_
    simp only [thenQ, blockQ, if_true]
    have := he a hJ
    simpa using this
end
end Go.Proofs.YtipanehdmhachaaGreatDoor.H

set_option linter.unusedSimpArgs false
set_option linter.unusedVariables false
set_option linter.unusedSectionVars false
namespace Go.Proofs.YtipanehdmhachaaGreatDoor.H
variable [DR]
def frzB (id k : Nat) (rows : List (List D)) : Blk → Blk
  | .cells T k' rs => .cells T k' (rs.map (frzL id k rows))
  | b => b
def fitB (id n : Nat) : Blk → Prop
  | .cells _ _ rs => ∀ r ∈ rs, fitL id n r
  | _ => True
theorem frzL_map {id k : Nat} {rows : List (List D)} : ∀ l, frzL id k rows l = l.map (frzA id k rows)
  | [] => rfl
  | v :: l => by simp only [frzL, List.map_cons, frzL_map l]
theorem fitL_iff {id n : Nat} : ∀ {l : List AV}, fitL id n l ↔ ∀ v ∈ l, fitA id n v
  | [] => by simp [fitL]
  | v :: l => by simp [fitL, fitL_iff (l := l)]
theorem frzA_one {id k : Nat} {rows : List (List D)} : ∀ {v : AV}, v.one = true → (frzA id k rows v).one = true
  | .own .., _ => by simp only [frzA]; split <;> rfl
  | .agg _, h => by simp [AV.one] at h
  | .tup _, h => by simp [AV.one] at h
  | .d _, _ | .ful .., _ | .pre .., _ | .elm .., _ | .ptr .., _ | .osl .., _ | .mp _, _ | .fn .., _ => by simp [frzA, AV.one]
section
variable {P : Program} {N m : Nat} {T : Tm} {s : St} {Q : Fl → Tm → St → Prop}
theorem AW.freezeB {c : Cd} {id t k : Nat} {rows : List (List D)} (hid : s[id]? = some (some (.cells t k (rowsA rows)))) {T' : Tm} {s' : St} (h : AW P N m c T' s' Q) (hl : s'.length = s.length)
    (hT : ∀ i v', tget T' i = some v' → ∃ v, tget T i = some v ∧ v' = frzA id k rows v ∧ fitA id rows.length v)
    (hs : ∀ (i : Nat) b', s'[i]? = some (some b') → i ≠ id ∧ ∃ b, s[i]? = some (some b) ∧ b' = frzB id k rows b ∧ fitB id rows.length b) : AW P N m c T s Q := by
  intro code hc w K β a hf hm
  have hal : Alive s id := ⟨_, hid⟩
  let K' : Nat → Prop := fun b => K b ∨ b = (β id).b
  have hK : Stays w K w K' := ⟨fun _ h => .inl h, fun _ _ => rfl⟩
  have hF : FrzH w K' β id k rows := .of hf.cz hid hK (.inr rfl)
  have al : ∀ i, Alive s' i → i ≠ id ∧ Alive s i := fun i ⟨b, hb⟩ => by
    obtain ⟨h1, b0, h2, _⟩ := hs i b hb
    exact ⟨h1, b0, h2⟩
  have hcz : Cz w K' β s' := by
    refine ⟨fun i b hi => ?_, fun i j hi hj => hf.cz.inj i j (al i hi).2 (al j hj).2, fun i hi hk => ?_, fun b hb => ?_, hf.cz.gl.mono hK⟩
    · obtain ⟨h1, b0, h2, rfl, hfit⟩ := hs i b hi
      rw [hl]
      have := hf.cz.blk i b0 h2
      cases b0 with
      | cells T0 k0 rs =>
        obtain ⟨pre, us, post, e1, e2, e3, e4, e5, e6, e7⟩ := this
        have efl : (rs.map (frzL id k rows)).flatten = frzL id k rows rs.flatten := by
          rw [frzL_map, List.map_flatten]
          congr 1
          exact List.map_congr_left fun l _ => frzL_map l
        refine ⟨pre, us, post, e1, e2, ?_, e4, e5, fun v hv => ?_, fun r hr => ?_⟩
        · rw [efl]
          exact RL_frz hK hF e3 (fitL_iff.2 fun v hv => by
            obtain ⟨r, hr, hv⟩ := List.mem_flatten.1 hv
            exact fitL_iff.1 (hfit r hr) v hv)
        · rw [efl, frzL_map] at hv
          obtain ⟨x, hx, rfl⟩ := List.mem_map.1 hv
          exact frzA_one (e6 x hx)
        · obtain ⟨x, hx, rfl⟩ := List.mem_map.1 hr
          rw [frzL_map, List.length_map]; exact e7 x hx
      | mp es => exact this
      | it m c seen => exact this
    · rcases hk with hk | hk
      · exact hf.cz.dis i (al i hi).2 hk
      · exact hf.cz.inj i id (al i hi).2 hal (al i hi).1 hk
    · rcases hb with hb | hb
      · exact hf.cz.kb b hb
      · rw [hb]; exact hf.cz.lt hal
  refine wp_mono (h code hc w K' β a ⟨hcz, fun i v hv => ?_, hf.sz, hf.df⟩ (by rw [hl]; exact hm)) (After.trans ?_)
  · obtain ⟨v0, h1, rfl, h3⟩ := hT i v hv
    obtain ⟨u, g1, g2⟩ := hf.rt i v0 h1
    exact ⟨u, g1, by rw [hl]; exact R_frz hK hF g2 h3⟩
  · exact { size := Nat.le_refl _, io := .refl _, fix := fun _ _ => rfl, len := by rw [hl]; exact hm, frame := fun _ _ _ => rfl, kmono := fun _ h => .inl h
            knew := fun b hb => by
              rcases hb with hb | hb
              · exact .inl hb
              · exact .inr (.inr ⟨id, hal, hb.symm⟩)
            onew := fun i hi => .inr ⟨i, (al i hi).2, rfl⟩ }
end
theorem Fn.of {P : Program} {f N : Nat} {c : Cd} {rs : List RC} {vs : List AV} {v : AV} (hf : FnOK P f N c rs) (hN : vs.length ≤ N) (hb : belA 0 v = true) (h : AW P N 0 c (argT 0 vs) [] (callQ rs fun r _ => r = v)) : Fn P f vs v :=
  ACalls.take (ACalls.of hf hN h) fun r s' h1 => ⟨by rw [h1]; exact hb, fun i b hi => by simp at hi, h1, by simp⟩
end Go.Proofs.YtipanehdmhachaaGreatDoor.H

set_option linter.unusedSimpArgs false
set_option linter.unusedVariables false
set_option linter.unusedSectionVars false
namespace Go.Proofs.YtipanehdmhachaaGreatDoor.H
variable [DR]

mutual
/-- The second tells no more than the first. -/
inductive Wk : AV → AV → Prop where
  | same (v : AV) : Wk v v
  | ful (k : Nat) (rows : List (List D)) : Wk (.ful k rows) (.d (.lst k rows))
  | nil (k k' : Nat) : Wk (.ful k []) (.d (.lst k' []))
  | agg {l m : List AV} : WkL l m → Wk (.agg l) (.agg m)
inductive WkL : List AV → List AV → Prop where
  | nil : WkL [] []
  | cons {u v : AV} {l m : List AV} : Wk u v → WkL l m → WkL (u :: l) (v :: m)
end
section
variable {w : World} {K : Nat → Prop} {β : Nat → Loc} {n : Nat}
mutual
theorem R_wk : ∀ {v v' : AV} {u : Value}, Wk v v' → R w K β n v u → R w K β n v' u
  | _, _, u, .same _, h => h
  | _, _, u, .ful k rows, h => by
    simp only [R] at h ⊢
    obtain ⟨a, h1, h3⟩ := h
    exact ⟨a, rows.length, h1, Nat.le_refl _, h3⟩
  | _, _, u, .nil k k', h => by
    simp only [R] at h ⊢
    obtain ⟨a, h1, h3⟩ := h
    exact ⟨a, 0, h1, Nat.le_refl _, .inl rfl⟩
  | _, _, u, .agg hl, h => by
    simp only [R] at h ⊢
    obtain ⟨us, h1, h2⟩ := h
    exact ⟨us, h1, RL_wk hl h2⟩
theorem RL_wk : ∀ {l m : List AV} {us : List Value}, WkL l m → RL w K β n l us → RL w K β n m us
  | _, _, us, .nil, h => h
  | _, _, us, .cons hv hl, h => by
    simp only [RL] at h ⊢
    obtain ⟨u, us', h1, h2, h3⟩ := h
    exact ⟨u, us', h1, R_wk hv h2, RL_wk hl h3⟩
end
end
theorem WkL.refl : ∀ l, WkL l l
  | [] => .nil
  | v :: l => .cons (.same v) (.refl l)
theorem ACalls.weaken {P : Program} {f : FuncId} {vs vc : List AV} {s : St} {Q : AV → St → Prop} (h : ACalls P f vc s Q) (hw : WkL vs vc) : ACalls P f vs s Q :=
  fun w K β us hz hr => h w K β us hz (RL_wk hw hr)
/-- A call's end told with less. -/
theorem ACalls.endW {P : Program} {f : FuncId} {vs : List AV} {s : St} {Q Q' : AV → St → Prop} (h : ACalls P f vs s Q) (hq : ∀ v s', Q v s' → ∃ v', Wk v v' ∧ Q' v' s') : ACalls P f vs s Q' := by
  intro w K β us hz hr
  refine (h w K β us hz hr).mono fun e w' ⟨v, s', K', β', u, e1, q, hz', hR, hx⟩ => ?_
  obtain ⟨v', hw, hq'⟩ := hq v s' q
  exact ⟨v', s', K', β', u, e1, hq', hz', R_wk hw hR, hx⟩
section
variable {P : Program} {N m : Nat} {T : Tm} {s : St} {Q : Fl → Tm → St → Prop}
/-- Temporaries told with less. -/
theorem AW.weak {c : Cd} {T' : Tm} (h : AW P N m c T' s Q) (hT : ∀ i v', tget T' i = some v' → ∃ v, tget T i = some v ∧ Wk v v') : AW P N m c T s Q := by
  intro code hc w K β a hf hm
  refine h code hc w K β a ⟨hf.cz, fun i v' hv => ?_, hf.sz, hf.df⟩ hm
  obtain ⟨v, h1, h2⟩ := hT i v' hv
  obtain ⟨u, h3, h4⟩ := hf.rt i v h1
  exact ⟨u, h3, R_wk h2 h4⟩
end
/-- What is kept when an own block is given up to lists. -/
def FT (id k : Nat) (rows : List (List D)) (T : Tm) : Tm → Prop
  | [] => True
  | (i, v') :: l => (∃ v, tget T i = some v ∧ v' = frzA id k rows v ∧ fitA id rows.length v) ∧ FT id k rows T l
def FS (id k : Nat) (rows : List (List D)) (s : St) : Nat → St → Prop
  | _, [] => True
  | i, none :: l => FS id k rows s (i + 1) l
  | i, some b' :: l => (i ≠ id ∧ ∃ b, s[i]? = some (some b) ∧ b' = frzB id k rows b ∧ fitB id rows.length b) ∧ FS id k rows s (i + 1) l
theorem FT_get {id k : Nat} {rows : List (List D)} {T : Tm} : ∀ {T' : Tm} {i : Nat} {v' : AV}, FT id k rows T T' → tget T' i = some v' → ∃ v, tget T i = some v ∧ v' = frzA id k rows v ∧ fitA id rows.length v
  | (j, u) :: l, i, v, h, hv => by
    simp only [tget] at hv
    simp only [FT] at h
    by_cases e : j = i
    · subst e; simp at hv; subst hv; exact h.1
    · simp only [beqN e, cond_false] at hv; exact FT_get h.2 hv
theorem FS_get {id k : Nat} {rows : List (List D)} {s : St} : ∀ {s' : St} {m i : Nat} {b' : Blk}, FS id k rows s m s' → s'[i]? = some (some b') → m + i ≠ id ∧ ∃ b, s[m + i]? = some (some b) ∧ b' = frzB id k rows b ∧ fitB id rows.length b
  | none :: l, m, 0, b, h, hb => by simp at hb
  | some c :: l, m, 0, b, h, hb => by simp at hb; subst hb; exact h.1
  | none :: l, m, i + 1, b, h, hb => by
    have := FS_get (m := m + 1) (i := i) h (by simpa using hb)
    rwa [Nat.add_assoc, Nat.add_comm 1 i] at this
  | some c :: l, m, i + 1, b, h, hb => by
    have := FS_get (m := m + 1) (i := i) h.2 (by simpa using hb)
    rwa [Nat.add_assoc, Nat.add_comm 1 i] at this
theorem AW.frz {P : Program} {N m : Nat} {T : Tm} {s : St} {Q : Fl → Tm → St → Prop} {c : Cd} {id t k : Nat} {rows : List (List D)} (hid : s[id]? = some (some (.cells t k (rowsA rows)))) (T' : Tm) (s' : St) (hT : FT id k rows T T') (hs : FS id k rows s 0 s') (hl : s'.length = s.length) (h : AW P N m c T' s' Q) : AW P N m c T s Q :=
  AW.freezeB hid h hl (fun i v' hv => FT_get hT hv) fun i b' hb => by
    have := FS_get (m := 0) (i := i) hs hb
    rwa [Nat.zero_add] at this
/-- A method of a source that makes a list; the list is the caller's own. -/
def SFnO (P : Program) (T : Nat) (L : List Int) (f : FuncId) (vc : List AV) (t k : Nat) (V : List (List D) → Prop) : Prop :=
  ∀ p, p ≤ L.length → ACalls P f (.ptr 0 0 0 :: vc) [SrcS T L p] fun v s' => ∃ p' rows, p' ≤ L.length ∧ V rows ∧
    ((rows = [] ∧ v = .ful 0 [] ∧ s' = [SrcS T L p']) ∨ (v = .own 1 0 rows.length ∧ s' = [SrcS T L p', some (.cells t k (rowsA rows))]))
theorem back2 {T p i : Nat} {L : List Int} {s : St} {b : Blk} (hi : i < s.length) (hb : ∀ r, renB r b = b) : backS [i] s [SrcS T L p, some b] = s.set i (SrcS T L p) ++ [some b] := by
  have h := back1 (T := T) (p := p) (L := L) hi
  have h2 : backS [i] s [SrcS T L p, some b] = backS [i] s [SrcS T L p] ++ [some b] := by
    unfold backS
    simp only [List.length_singleton, List.drop_one, List.tail_cons, List.map_nil, List.append_nil, List.map_cons, hb]
    congr 1
    refine List.map_congr_left fun j _ => ?_
    by_cases e : i = j
    · subst e
      have : [i].idxOf? i = some 0 := by simp [List.idxOf?, List.findIdx?_cons]
      simp [this]
    · have : [i].idxOf? j = none := by simp [List.idxOf?_eq_none_iff]; exact fun h => e (h ▸ rfl)
      simp [this]
  rw [h2, h]
theorem renB_rowsA (r : Nat → Nat) (t k : Nat) (rows : List (List D)) : renB r (.cells t k (rowsA rows)) = .cells t k (rowsA rows) := by
  simp only [renB, renL_rowsA]
theorem SFnO.call {P : Program} {T : Nat} {L : List Int} {f : FuncId} {vc : List AV} {t k : Nat} {V : List (List D) → Prop} (h : SFnO P T L f vc t k V) {s : St} {i p : Nat} (hi : s[i]? = some (SrcS T L p)) (hb : belL 0 vc = true) (hp : p ≤ L.length) {Q : AV → St → Prop}
    (hq : ∀ p', p' ≤ L.length → V [] → Q (.ful 0 []) (s.set i (SrcS T L p'))) (hq2 : ∀ p' rows, p' ≤ L.length → V rows → Q (.own s.length 0 rows.length) (s.set i (SrcS T L p') ++ [some (.cells t k (rowsA rows))])) : ACalls P f (.ptr i 0 0 :: vc) s Q :=
  ACalls.frame (h p hp) (given1 hi hb) fun v s' ⟨p', rows, h1, h2, h3⟩ => by
    have hlt := (List.getElem?_eq_some_iff.1 hi).1
    rcases h3 with ⟨rfl, rfl, rfl⟩ | ⟨rfl, rfl⟩
    · rw [back1 hlt]; exact hq p' h1 h2
    · rw [back2 hlt fun r => renB_rowsA r t k rows]
      exact hq2 p' rows h1 h2
/-- The list is given up at once. -/
theorem SFnO.frozen {P : Program} {T : Nat} {L : List Int} {f : FuncId} {vc : List AV} {t k : Nat} {V : List (List D) → Prop} (h : SFnO P T L f vc t k V) : SFn P T L f vc fun v => ∃ rows, V rows ∧ v = .d (.lst k rows) := by
  intro p hp
  have h1 : ACalls P f (.ptr 0 0 0 :: vc) [SrcS T L p] fun v s' => ∃ p', p' ≤ L.length ∧ s'[0]? = some (SrcS T L p') ∧ ∃ rows, V rows ∧ v = .d (.lst k rows) := by
    refine ACalls.freeze (ACalls.endW (Q' := fun v s' => (∃ p', p' ≤ L.length ∧ s'[0]? = some (SrcS T L p') ∧ ∃ rows, V rows ∧ v = .d (.lst k rows)) ∨ ∃ p' rows, p' ≤ L.length ∧ V rows ∧ v = .own 1 0 rows.length ∧ s' = [SrcS T L p', some (.cells t k (rowsA rows))]) (h p hp) fun v s' ⟨p', rows, g1, g2, g3⟩ => ?_) fun v s' hv => ?_
    · rcases g3 with ⟨rfl, rfl, rfl⟩ | ⟨rfl, rfl⟩
      · exact ⟨_, .nil 0 k, .inl ⟨p', g1, rfl, [], g2, rfl⟩⟩
      · exact ⟨_, .same _, .inr ⟨p', rows, g1, g2, rfl, rfl⟩⟩
    · rcases hv with hv | ⟨p', rows, g1, g2, rfl, rfl⟩
      · exact .inl hv
      · refine .inr ⟨1, t, k, rows, rfl, by simp [fitA], p', g1, rfl, rows, g2, ?_⟩
        simp [frzA]
  refine ACalls.take h1 fun v s' ⟨p', g1, g2, rows, g3, g4⟩ => ⟨by rw [g4]; rfl, fun i b hi hb => ?_, p', g1, ⟨rows, g3, g4⟩, by rw [g4]; rfl, ?_⟩
  · have : i = 0 := by simp at hi; omega
    subst this
    rw [g2] at hb
    simp only [Option.some.injEq] at hb; subst hb; rfl
  · cases s' with
    | nil => simp at g2
    | cons x l => simp at g2; simp [g2]
end Go.Proofs.YtipanehdmhachaaGreatDoor.H

set_option linter.unusedSimpArgs false
set_option linter.unusedVariables false
set_option linter.unusedSectionVars false
namespace Go.Proofs.YtipanehdmhachaaGreatDoor.H
variable [DR]
open Go.ChangeMaps
section
variable {P : Program} {w : World} {K : Nat → Prop} {β : Nat → Loc} {s : St}
/-- A new block of any sort. -/
theorem Cz.newB (hz : Cz w K β s) {w' : World} {o : Obj} {b : Blk} (hw : w'.heap = w.heap.push o) (hio : SameIO w w')
    (hb0 : ∀ β', (∀ i, i < s.length → β' i = β i) → BlkOK w' K β' (s.length + 1) ⟨w.heap.size, 0, 0, 0⟩ b) :
    Cz w' K (lay β s.length ⟨w.heap.size, 0, 0, 0⟩) (s ++ [some b]) ∧ Ext s.length w K β s w' K (lay β s.length ⟨w.heap.size, 0, 0, 0⟩) (s ++ [some b]) := by
  have hs := stays_push hz hw
  have hb : ∀ i, i < s.length → lay β s.length ⟨w.heap.size, 0, 0, 0⟩ i = β i := fun i hi => lay_ne _ _ (by omega)
  have alive : ∀ i, Alive (s ++ [some b]) i → Alive s i ∨ i = s.length := fun i ⟨b, h⟩ => by
    rcases get_app h with h | h
    · exact .inl ⟨b, h⟩
    · exact .inr h.1
  have hlt : ∀ i, Alive s i → (β i).b < w.heap.size := fun i hi => hz.lt hi
  refine ⟨⟨?_, ?_, ?_, ?_, ?_⟩, ?_⟩
  · intro i b' hi
    rcases get_app hi with hi | ⟨rfl, he⟩
    · have hil := alive_lt ⟨b', hi⟩
      rw [hb i hil]
      exact hz.old hs (by simp) hb hi (push_old hw (hlt i ⟨b', hi⟩))
    · simp only [Option.some.injEq] at he; subst he
      rw [lay_same, List.length_append, List.length_singleton]
      exact hb0 _ hb
  · intro i j hi hj hij
    rcases alive i hi with hi | hi <;> rcases alive j hj with hj | hj
    · rw [hb i (alive_lt hi), hb j (alive_lt hj)]; exact hz.inj i j hi hj hij
    · subst hj; rw [hb i (alive_lt hi), lay_same]; have := hlt i hi; simp only []; omega
    · subst hi; rw [hb j (alive_lt hj), lay_same]; have := hlt j hj; simp only []; omega
    · omega
  · intro i hi hK
    rcases alive i hi with hi | hi
    · rw [hb i (alive_lt hi)] at hK; exact hz.dis i hi hK
    · subst hi; rw [lay_same] at hK; have := hz.kb _ hK; simp only [] at this; omega
  · intro b hK; have := hz.kb b hK; rw [hw]; simp; omega
  · exact hz.gl.mono hs
  · exact { size := by rw [hw]; simp
            io := hio
            fix := hb
            len := by simp
            frame := fun b hb' _ => push_old hw hb'
            kmono := fun _ h => h
            knew := fun _ h => .inl h
            onew := fun i hi => by
              rcases alive i hi with hi | hi
              · right; exact ⟨i, hi, by rw [hb i (alive_lt hi)]⟩
              · left; subst hi; rw [lay_same]; exact Nat.le_refl _ }
/-- A block of any sort is changed. -/
theorem Cz.upB (hz : Cz w K β s) {w' : World} {id : Nat} {b b' : Blk} (hid : s[id]? = some (some b)) (hsz : w'.heap.size = w.heap.size) (hoth : ∀ i, i ≠ (β id).b → w'.heap[i]? = w.heap[i]?) (hio : SameIO w w') (hb0 : BlkOK w' K β s.length (β id) b') :
    Cz w' K β (s.set id (some b')) ∧ Ext s.length w K β s w' K β (s.set id (some b')) := by
  have hal : Alive s id := ⟨_, hid⟩
  have hs : Stays w K w' K := ⟨fun _ h => h, fun b hb => hoth b fun e => hz.dis id hal (by rw [← e]; exact hb)⟩
  have get : ∀ {i x}, (s.set id (some b'))[i]? = some (some x) → (i ≠ id ∧ s[i]? = some (some x)) ∨ (i = id ∧ x = b') := fun {i b} h => by
    rw [List.getElem?_set] at h
    split at h
    · rename_i e
      split at h
      · simp only [Option.some.injEq] at h; exact .inr ⟨e.symm, h.symm⟩
      · cases h
    · rename_i e; exact .inl ⟨fun e' => e e'.symm, h⟩
  have alive : ∀ i, Alive (s.set id (some b')) i → Alive s i := fun i ⟨b, h⟩ => by
    rcases get h with ⟨_, h⟩ | ⟨rfl, _⟩
    · exact ⟨b, h⟩
    · exact hal
  refine ⟨⟨?_, fun i j hi hj => hz.inj i j (alive i hi) (alive j hj), fun i hi => hz.dis i (alive i hi), fun b hb => by rw [hsz]; exact hz.kb b hb, hz.gl.mono hs⟩, ?_⟩
  · intro i b hi
    rw [List.length_set]
    rcases get hi with ⟨hne, hi⟩ | ⟨rfl, rfl⟩
    · exact hz.old hs (Nat.le_refl _) (fun _ _ => rfl) hi (hoth _ (hz.inj i id ⟨_, hi⟩ hal hne))
    · exact hb0
  · exact { size := by rw [hsz]; exact Nat.le_refl _
            io := hio
            fix := fun _ _ => rfl
            len := by simp
            frame := fun b _ hn => hoth b fun e => hn id hal e.symm
            kmono := fun _ h => h
            knew := fun _ h => .inl h
            onew := fun i hi => .inr ⟨i, alive i hi, rfl⟩ }
/-! ### Tables -/
def findV (eqv : Value → Value → Bool) (k : Value) : List (Value × Value) → Nat → Option (Nat × Value)
  | [], _ => none
  | p :: l, i => bif eqv k p.1 then some (i, p.2) else findV eqv k l (i + 1)
def getV (eqv : Value → Value → Bool) (es : List (Value × Value)) (k : Value) : Option Value := (findV eqv k es 0).map (·.2)
def setV (eqv : Value → Value → Bool) (es : List (Value × Value)) (k v : Value) : List (Value × Value) := match findV eqv k es 0 with
  | some (i, _) => es.set i (k, v)
  | none => es ++ [(k, v)]
theorem findV_some {eqv : Value → Value → Bool} {k v : Value} : ∀ {l : List (Value × Value)} {i j : Nat}, findV eqv k l i = some (j, v) → i ≤ j ∧ ∃ k0, l[j - i]? = some (k0, v) ∧ eqv k k0 = true
  | p :: l, i, j, h => by
    simp only [findV] at h
    cases he : eqv k p.1 with
    | true =>
      simp only [he, cond_true, Option.some.injEq, Prod.mk.injEq] at h
      obtain ⟨rfl, rfl⟩ := h
      exact ⟨Nat.le_refl _, p.1, by simp, he⟩
    | false =>
      simp only [he, cond_false] at h
      obtain ⟨h1, k0, h2, h3⟩ := findV_some h
      refine ⟨by omega, k0, ?_, h3⟩
      rw [show j - i = (j - (i + 1)) + 1 by omega]; simpa using h2
/-- What is asked of a map's type: its keys' equality, its elements' zero. -/
structure MapTy (P : Program) (T kt et : TypeId) (Kf : Value → Prop) (eqv : Value → Value → Bool) (z : Value) : Prop where
  map : P.underlying T = some (.map kt et)
  st : ∃ fs, P.underlying kt = some (.struct fs)
  eq : ∀ a b w, Kf a → Kf b → (Op.equal kt a b).run P w = .ok (eqv a b) w
  sound : ∀ a b, Kf a → Kf b → eqv a b = true → a = b
  chk : ∀ em a w, Kf a → (Instr.checkKey em 10000 kt a).run P w = .ok () w
  same : ∀ a, Kf a → Instr.sameBits 10000 a a = true
  zero : ∀ w, (zeroValue et).run P w = .ok z w
variable {T kt et : TypeId} {Kf : Value → Prop} {eqv : Value → Value → Bool} {z : Value}
theorem run_findAsking (M : MapTy P T kt et Kf eqv z) {k : Value} (hk : Kf k) (w : World) : ∀ (l : List MapEntry) (i : Nat), (∀ e ∈ l, Kf e.key) → (Instr.findAsking kt k l i).run P w = .ok (findV eqv k (l.map fun e => (e.key, e.val)) i) w
  | [], i, _ => rfl
  | e :: l, i, h => by
    simp only [Instr.findAsking, Sem.run_bind, M.eq k e.key w hk (h e (List.mem_cons_self ..)), Result.andThen_ok, List.map_cons, findV]
    cases he : eqv k e.key
    · simp only [cond_false, Bool.false_eq_true, if_false]
      exact run_findAsking M hk w l (i + 1) fun e he => h e (List.mem_cons_of_mem _ he)
    · simp
theorem run_findKey (M : MapTy P T kt et Kf eqv z) {k : Value} (hk : Kf k) (w : World) (l : List MapEntry) (h : ∀ e ∈ l, Kf e.key) : (Instr.findKey kt k l).run P w = .ok (findV eqv k (l.map fun e => (e.key, e.val)) 0) w := by
  obtain ⟨fs, hu⟩ := M.st
  unfold Instr.findKey
  rw [Sem.run_bind, run_underlying hu, Result.andThen_ok]
  cases l with
  | nil => rfl
  | cons e l =>
    have : Instr.findNow (.struct fs) k (e :: l) 0 = none := by simp [Instr.findNow, Instr.sameNow]
    rw [this]
    exact run_findAsking M hk w _ 0 h
theorem run_getObj {P : Program} {w : World} {r : Nat} {es : Array MapEntry} {c : Nat} (h : w.heap[r]? = some (.map es c)) : (getObj r).run P w = .ok (.map es c) w := by simp [getObj, Sem.run, h]
theorem run_setObj_map {P : Program} {w : World} {r : Nat} {es : Array MapEntry} {c : Nat} (h : w.heap[r]? = some (.map es c)) (o : Obj) : (setObj r o).run P w = .ok () (setBlock w r o) := by
  simp [setObj, Sem.run, h, setBlock]
theorem setBlock_other {w : World} {r : Nat} {o : Obj} {i : Nat} (h : i ≠ r) : (setBlock w r o).heap[i]? = w.heap[i]? := by
  simp [setBlock, Array.getElem?_setIfInBounds, Ne.symm h]
theorem setBlock_same {w : World} {r : Nat} {o o' : Obj} (h : w.heap[r]? = some o') : (setBlock w r o).heap[r]? = some o := by
  have := (Array.getElem?_eq_some_iff.1 h).1
  simp [setBlock, Array.getElem?_setIfInBounds, this]
theorem io_setBlock (w : World) (r : Nat) (o : Obj) : SameIO w (setBlock w r o) := ⟨rfl, rfl, rfl, fun _ => Nat.le_refl _⟩
theorem size_setBlock (w : World) (r : Nat) (o : Obj) : (setBlock w r o).heap.size = w.heap.size := by simp [setBlock]
/-- The model's operation behind a told one. -/
theorem mkmap_inv {P : Program} {t : TypeId} {l : List Operand} {o : Op} (h : toGO P o = some (.mkmap t, l)) : o = .makeMap t none ∧ l = [] := by
  cases o <;> simp only [toGO] at h <;> (try cases h) <;> (repeat' split at h) <;> (try cases h) <;> first | exact ⟨rfl, rfl⟩ | simp_all
theorem mset_inv {P : Program} {t : TypeId} {l : List Operand} {o : Op} (h : toGO P o = some (.mset t, l)) : ∃ m k x, (o = .mapUpdate t m k x ∨ o = .insert t m k x) ∧ l = [m, k, x] := by
  cases o <;> simp only [toGO] at h <;> (try cases h) <;> (repeat' split at h) <;> (try cases h) <;> first | exact ⟨_, _, _, .inl rfl, rfl⟩ | exact ⟨_, _, _, .inr rfl, rfl⟩ | simp_all
theorem mget_inv {P : Program} {t : TypeId} {b : Bool} {l : List Operand} {o : Op} (h : toGO P o = some (.mget t b, l)) : ∃ m k, o = .lookup t m k b ∧ l = [m, k] := by
  cases o <;> simp only [toGO] at h <;> (try cases h) <;> (repeat' split at h) <;> (try cases h) <;> first | exact ⟨_, _, rfl, rfl⟩ | simp_all
theorem AOp.mkmap {P : Program} {T : TypeId} {s : St} {Q : AV → St → Prop} (hq : Q (.mp s.length) (s ++ [some (.mp [])])) : AOp P (.mkmap T) [] [] s Q := by
  intro w K β ρ o ho hconst hz hr
  obtain ⟨dst, op, ty, pos, aft, grd⟩ := o
  simp only at ho
  obtain ⟨rfl, -⟩ := mkmap_inv ho
  obtain ⟨c1, c2⟩ := hz.newB (w' := w.alloc (.map #[] 0)) (o := .map #[] 0) (b := .mp []) (by simp [heap_alloc]) (io_alloc ..) fun β' _ => ⟨#[], by simp [heap_alloc], rfl, rfl⟩
  refine ⟨_, .map (some w.heap.size), .mp s.length, w.alloc (.map #[] 0), s ++ [some (.mp [])], K, _, rfl, .inl rfl, hq, c1, ?_, c2⟩
  simp only [R, lay_same]
  exact ⟨by simp, trivial⟩
def avV : Value → AV
  | .agg cs => .agg (cs.toList.map fun x => .d (.v x))
  | x => .d (.v x)
theorem R_avV {w : World} {K : Nat → Prop} {β : Nat → Loc} {n : Nat} {x u : Value} (h : R w K β n (avV x) u) (hx : ∀ c, x ≠ .tuple c) : u = x := by
  cases x <;> simp only [avV, R, RD] at h
  case agg cs =>
    obtain ⟨us, rfl, h2⟩ := h
    have hl := RL_length h2
    have : us = cs.toList := by
      refine List.ext_getElem (by simpa using hl) fun i h1 h3 => ?_
      have := (RL_iff.1 h2).2 i (.d (.v cs.toList[i])) us[i] (by first | (simp at h3 ⊢; done) | (simp at h3 ⊢; simp [h3])) (by simp)
      simp only [R, RD] at this
      exact this.1
    rw [this]
  all_goals exact h.1
theorem AOp.mset {P : Program} {T kt et : TypeId} {Kf : Value → Prop} {eqv : Value → Value → Bool} {z : Value} (M : MapTy P T kt et Kf eqv z) {l : List Operand} {id : Nat} {k v : Value} {s : St} {Q : AV → St → Prop} {es : List (Value × Value)} (hid : s[id]? = some (some (.mp es)))
    (hk : Kf k) (hes : ∀ p ∈ es, Kf p.1) (hkt : ∀ c, k ≠ .tuple c) (hvt : ∀ c, v ≠ .tuple c) (hq : Q (.tup []) (s.set id (some (.mp (setV eqv es k v))))) : AOp P (.mset T) l [.mp id, avV k, avV v] s Q := by
  intro w K β ρ o ho hconst hz hr
  obtain ⟨dst, op, ty, pos, aft, grd⟩ := o
  simp only at ho
  obtain ⟨m, k', x', hop, rfl⟩ := mset_inv ho
  simp only [List.map_cons, List.map_nil, RL] at hr
  obtain ⟨_, _, e1, h1, _, _, e2, h2, _, _, e3, h3, e4⟩ := hr
  simp only [List.cons.injEq] at e1
  obtain ⟨rfl, rfl⟩ := e1
  simp only [List.cons.injEq] at e2
  obtain ⟨rfl, rfl⟩ := e2
  simp only [List.cons.injEq] at e3
  obtain ⟨rfl, rfl⟩ := e3
  have ek := R_avV h2 hkt
  have ev := R_avV h3 hvt
  simp only [R] at h1
  obtain ⟨hlt, em⟩ := h1
  obtain ⟨ents, b1, b2, b3⟩ := hz.blk id _ hid
  have hsz : ents.size = es.length := by rw [← b2]; simp
  have hke : ∀ e ∈ ents.toList, Kf e.key := fun e he => hes (e.key, e.val) (by rw [← b2]; exact List.mem_map_of_mem he)
  have hfind := run_findKey M hk w ents.toList hke
  rw [b2] at hfind
  have key : ∃ ents' : Array MapEntry, (Instr.mapUpdate T (.map (some (β id).b)) k v).run P w = .ok () (setBlock w (β id).b (.map ents' (setV eqv es k v).length)) ∧ ents'.toList.map (fun e => (e.key, e.val)) = setV eqv es k v ∧ ents'.toList.map (·.born) = List.range (setV eqv es k v).length := by
    unfold Instr.mapUpdate
    simp only [Sem.run_bind, run_underlying M.map, Result.andThen_ok, run_getObj b1, M.chk false k w hk, hfind]
    cases hf : findV eqv k es 0 with
    | some p =>
      obtain ⟨i, old⟩ := p
      obtain ⟨g1, k0, g2, g3⟩ := findV_some hf
      rw [Nat.sub_zero] at g2
      have hmem := List.mem_of_getElem? g2
      have hk0 := M.sound k k0 hk (hes _ hmem) g3
      subst hk0
      have hi : i < ents.size := by rw [hsz]; exact (List.getElem?_eq_some_iff.1 g2).1
      have hki : ents[i].key = k := by
        have : (ents.toList.map fun e => (e.key, e.val))[i]? = some (k, old) := by rw [b2]; exact g2
        simp [hi] at this
        exact this.1
      have hks : (Instr.keyThatStays k k).run P w = .ok k w := by simp [Instr.keyThatStays, M.same k hk]
      simp only [Array.getElem?_eq_getElem hi, Option.map_some, Option.getD_some, hki, Sem.run_bind, hks, Result.andThen_ok, run_setObj_map b1, setV, hf, List.length_set]
      refine ⟨_, rfl, ?_, ?_⟩
      · rw [← b2]
        refine List.ext_getElem? fun j => ?_
        simp only [Array.toList_modify, List.getElem?_map, List.getElem?_modify, List.getElem?_set, List.length_map, Array.length_toList, Array.getElem?_toList]
        by_cases e : i = j
        · subst e; simp [hi]
        · simp [e]
      · rw [← b3]
        refine List.ext_getElem? fun j => ?_
        simp only [Array.toList_modify, List.getElem?_map, List.getElem?_modify, Array.getElem?_toList]
        by_cases e : i = j
        · subst e; simp [hi]
        · simp [e]
    | none =>
      simp only [run_setObj_map b1, setV, hf, List.length_append, List.length_singleton]
      refine ⟨_, rfl, ?_, ?_⟩
      · simp [b2]
      · simp [b3, List.range_succ]
  obtain ⟨ents', r1, r2, r3⟩ := key
  have hx : (execOp ρ { dst := dst, op := op, type := ty, pos := pos, after := aft, guard := grd }).run P w = .ok .skip (setBlock w (β id).b (.map ents' (setV eqv es k v).length)) := by
    have he : execOp ρ { dst := dst, op := op, type := ty, pos := pos, after := aft, guard := grd } = (do Instr.mapUpdate T (ρ m) (ρ k') (ρ x'); pure .skip) := by rcases hop with rfl | rfl <;> rfl
    rw [he, em, ek, ev]
    simp only [Sem.run_bind, r1, Result.andThen_ok, Sem.run_pure]
  obtain ⟨c1, c2⟩ := hz.upB (w' := setBlock w (β id).b (.map ents' (setV eqv es k v).length)) (b' := .mp (setV eqv es k v)) hid (size_setBlock ..) (fun i hi => setBlock_other hi) (io_setBlock ..) ⟨ents', setBlock_same b1, r2, r3⟩
  exact ⟨_, undef, .tup [], _, _, K, β, hx, .inr ⟨rfl, rfl⟩, hq, c1, R_undef, c2⟩
theorem AOp.mget {P : Program} {T kt et : TypeId} {Kf : Value → Prop} {eqv : Value → Value → Bool} {z : Value} (M : MapTy P T kt et Kf eqv z) {ok : Bool} {l : List Operand} {id : Nat} {k : Value} {s : St} {Q : AV → St → Prop} {es : List (Value × Value)} (hid : s[id]? = some (some (.mp es)))
    (hk : Kf k) (hes : ∀ p ∈ es, Kf p.1) (hkt : ∀ c, k ≠ .tuple c) (hv : ∀ p ∈ es, p.2.oneCell' = true) (hzo : z.oneCell' = true) (hq : Q (if ok then .tup [.d (.v ((getV eqv es k).getD z)), AB (getV eqv es k).isSome] else .d (.v ((getV eqv es k).getD z))) s) : AOp P (.mget T ok) l [.mp id, avV k] s Q := by
  intro w K β ρ o ho hconst hz hr
  obtain ⟨dst, op, ty, pos, aft, grd⟩ := o
  simp only at ho
  obtain ⟨m, k', rfl, rfl⟩ := mget_inv ho
  simp only [List.map_cons, List.map_nil, RL] at hr
  obtain ⟨_, _, e1, h1, _, _, e2, h2, e4⟩ := hr
  simp only [List.cons.injEq] at e1
  obtain ⟨rfl, rfl⟩ := e1
  simp only [List.cons.injEq] at e2
  obtain ⟨rfl, rfl⟩ := e2
  have ek := R_avV h2 hkt
  simp only [R] at h1
  obtain ⟨hlt, em⟩ := h1
  obtain ⟨ents, b1, b2, b3⟩ := hz.blk id _ hid
  have hke : ∀ e ∈ ents.toList, Kf e.key := fun e he => hes (e.key, e.val) (by rw [← b2]; exact List.mem_map_of_mem he)
  have hfind := run_findKey M hk w ents.toList hke
  rw [b2] at hfind
  have hoc : ((getV eqv es k).getD z).oneCell' = true := by
    unfold getV
    cases hf : findV eqv k es 0 with
    | none => simpa using hzo
    | some p =>
      obtain ⟨i, x⟩ := p
      obtain ⟨_, k0, g2, _⟩ := findV_some hf
      simpa using hv _ (List.mem_of_getElem? g2)
  have hrun : (Instr.lookup T (.map (some (β id).b)) k ok).run P w = .ok (if ok then .tuple #[(getV eqv es k).getD z, .bool (getV eqv es k).isSome] else (getV eqv es k).getD z) w := by
    unfold Instr.lookup
    simp only [Sem.run_bind, run_underlying M.map, Result.andThen_ok, run_getObj b1, Sem.run_pure, M.chk _ k w hk, hfind]
    unfold getV
    cases hf : findV eqv k es 0 with
    | none => cases ok <;> simp [M.zero w]
    | some p => cases ok <;> simp
  refine ⟨.value (if ok then .tuple #[(getV eqv es k).getD z, .bool (getV eqv es k).isSome] else (getV eqv es k).getD z), _, _, w, s, K, β, ?_, .inl rfl, hq, hz, ?_, .refl (Nat.le_refl _)⟩
  · show (do pure (Next.value (← Instr.lookup T (ρ m) (ρ k') ok)) : Sem Next).run P w = _
    rw [em, ek]
    simp only [Sem.run_bind, hrun, Result.andThen_ok, Sem.run_pure]
  · cases ok
    · simp only [Bool.false_eq_true, if_false, R, RD]; exact ⟨trivial, hoc⟩
    · simp only [if_true, R, RL, RD]; exact ⟨_, rfl, _, _, rfl, ⟨rfl, hoc⟩, _, _, rfl, ⟨rfl, rfl⟩, rfl⟩
theorem rng_inv {P : Program} {t : TypeId} {l : List Operand} {o : Op} (h : toGO P o = some (.rng t, l)) : ∃ m, o = .range t m ∧ l = [m] := by
  cases o <;> simp only [toGO] at h <;> (try cases h) <;> (repeat' split at h) <;> (try cases h) <;> first | exact ⟨_, rfl, rfl⟩ | simp_all
theorem nxt_inv {P : Program} {l : List Operand} {o : Op} (h : toGO P o = some (.nxt, l)) : ∃ m, o = .next m false ∧ l = [m] := by
  cases o <;> simp only [toGO] at h <;> (try cases h) <;> (repeat' split at h) <;> (try cases h) <;> first | exact ⟨_, rfl, rfl⟩ | simp_all
theorem ent_inv {P : Program} {l : List Operand} {o : Op} (h : toGO P o = some (.ent, l)) : ∃ m, o = .entry m ∧ l = [m] := by
  cases o <;> simp only [toGO] at h <;> (try cases h) <;> (repeat' split at h) <;> (try cases h) <;> first | exact ⟨_, rfl, rfl⟩ | simp_all
theorem AOp.rng {P : Program} {T kt et : TypeId} (hT : P.underlying T = some (.map kt et)) {l : List Operand} {id : Nat} {s : St} {Q : AV → St → Prop} {es : List (Value × Value)} (hid : s[id]? = some (some (.mp es)))
    (hq : Q (.ptr s.length 0 0) (s ++ [some (.it id es.length [])])) : AOp P (.rng T) l [.mp id] s Q := by
  intro w K β ρ o ho hconst hz hr
  obtain ⟨dst, op, ty, pos, aft, grd⟩ := o
  simp only at ho
  obtain ⟨m, rfl, rfl⟩ := rng_inv ho
  simp only [List.map_cons, List.map_nil, RL] at hr
  obtain ⟨_, _, e1, h1, e4⟩ := hr
  simp only [List.cons.injEq] at e1
  obtain ⟨rfl, rfl⟩ := e1
  simp only [R] at h1
  obtain ⟨hlt, em⟩ := h1
  obtain ⟨ents, b1, b2, b3⟩ := hz.blk id _ hid
  obtain ⟨c1, c2⟩ := hz.newB (w' := w.alloc (.mapIter (some (β id).b) es.length #[] es.length)) (o := .mapIter (some (β id).b) es.length #[] es.length) (b := .it id es.length []) (by simp [heap_alloc]) (io_alloc ..) fun β' hb => ⟨by simp [heap_alloc, hb id hlt], by omega, rfl⟩
  refine ⟨.value (.pointer (some ⟨w.heap.size, 0, none⟩)), _, .ptr s.length 0 0, w.alloc (.mapIter (some (β id).b) es.length #[] es.length), s ++ [some (.it id es.length [])], K, _, ?_, .inl rfl, hq, c1, ?_, c2⟩
  · show (do pure (Next.value (← Instr.range T (ρ m))) : Sem Next).run P w = _
    rw [em]
    unfold Instr.range
    simp only [Sem.run_bind, run_underlying hT, Result.andThen_ok, run_getObj b1, Sem.run_pure]
    rfl
  · simp only [R, lay_same]
    exact ⟨by simp, by simp⟩
/-- A value of plain cells. -/
def Pl (x : Value) : Prop := (∃ cs, x = .agg cs ∧ ∀ c ∈ cs.toList, c.oneCell' = true) ∨ (x.oneCell' = true ∧ (∀ cs, x ≠ .agg cs))
theorem R_avV_mk {w : World} {K : Nat → Prop} {β : Nat → Loc} {n : Nat} {x : Value} (h : Pl x) : R w K β n (avV x) x := by
  rcases h with ⟨cs, rfl, h⟩ | ⟨h, hn⟩
  · simp only [avV, R]
    refine ⟨cs.toList, by simp, RL_of (by simp) fun i v u hv hu => ?_⟩
    rw [List.getElem?_map, hu] at hv
    simp at hv; subst hv
    simp only [R, RD]
    exact ⟨trivial, h u (List.mem_of_getElem? hu)⟩
  · have : avV x = .d (.v x) := by cases x <;> first | rfl | exact absurd rfl (hn _)
    rw [this]
    simp only [R, RD]; exact ⟨trivial, h⟩
theorem range_get {ents : Array MapEntry} {n : Nat} (h : ents.toList.map (·.born) = List.range n) {i : Nat} (hi : i < ents.size) : ents[i].born = i := by
  have h1 : (ents.toList.map (·.born))[i]? = some ents[i].born := by simp [hi]
  rw [h, List.getElem?_range (by have := congrArg List.length h; simp at this; omega)] at h1
  simpa using h1.symm
/-- A step of a loop over a map that has not been changed since: nothing is left, or any entry that is left. -/
theorem AOp.nxt {P : Program} {l : List Operand} {id m : Nat} {s : St} {Q : AV → St → Prop} {es : List (Value × Value)} {seen : List Nat} (hm : s[m]? = some (some (.mp es))) (hid : s[id]? = some (some (.it m es.length seen)))
    (hone : ∀ p ∈ es, Pl p.1 ∧ Pl p.2)
    (h0 : (∀ i, i < es.length → i ∈ seen) → Q (.tup [AB false]) s) (h1 : ∀ i k v, es[i]? = some (k, v) → i ∉ seen → Q (.tup [AB true, avV k, avV v]) (s.set id (some (.it m es.length (seen ++ [i]))))) : AOp P .nxt l [.ptr id 0 0] s Q := by
  intro w K β ρ o ho hconst hz hr
  obtain ⟨dst, op, ty, pos, aft, grd⟩ := o
  simp only at ho
  obtain ⟨mm, rfl, rfl⟩ := nxt_inv ho
  simp only [List.map_cons, List.map_nil, RL] at hr
  obtain ⟨_, _, e1, g1, e4⟩ := hr
  simp only [List.cons.injEq] at e1
  obtain ⟨rfl, rfl⟩ := e1
  simp only [R] at g1
  obtain ⟨hlt, em⟩ := g1
  obtain ⟨ents, b1, b2, b3⟩ := hz.blk m _ hm
  obtain ⟨i1, i2, i3⟩ := hz.blk id _ hid
  have hsz : ents.size = es.length := by rw [← b2]; simp
  rw [i3, Nat.zero_mul, Nat.add_zero] at em
  have hborn : ∀ x ∈ ents.toList, x.born < es.length := fun x hx => by
    have : x.born ∈ ents.toList.map (·.born) := List.mem_map_of_mem hx
    rw [b3] at this; simpa using this
  have hexec : execOp ρ { dst := dst, op := .next mm false, type := ty, pos := pos, after := aft, guard := grd } = (do pure (Next.value (← Instr.next (ρ mm) false ty))) := rfl
  rcases run_next_at (P := P) w ty (β id).b (β m).b es.length es.length seen.toArray ents es.length i1 b1 hborn (Nat.le_refl _) with ⟨q1, q2⟩ | ⟨e, he, w1, hw1, q2⟩
  · refine ⟨.value (.tuple #[.bool false]), _, .tup [AB false], w, s, K, β, ?_, .inl rfl, h0 fun i hi => ?_, hz, ?_, .refl (Nat.le_refl _)⟩
    · rw [hexec, em]; simp only [Sem.run_bind, q2, Result.andThen_ok, Sem.run_pure]
    · refine Classical.byContradiction fun hn => ?_
      have hi' : i < ents.size := by omega
      have hmem : ents[i] ∈ leftOf ents seen.toArray := by
        unfold leftOf
        rw [Array.mem_filter]
        exact ⟨by simp, by rw [range_get b3 hi']; simpa using hn⟩
      have := Array.size_pos_of_mem hmem
      omega
    · simp only [R, RL, RD]; exact ⟨_, rfl, _, _, rfl, ⟨rfl, rfl⟩, rfl⟩
  · obtain ⟨hem, hes⟩ : e ∈ ents.toList ∧ e.born ∉ seen := by
      unfold leftOf at he
      simp at he
      exact ⟨by simpa using he.1, he.2⟩
    obtain ⟨i, hi, rfl⟩ := List.getElem_of_mem hem
    simp at hi
    have hbi : ents[i].born = i := range_get b3 hi
    have hget : es[i]? = some (ents[i].key, ents[i].val) := by rw [← b2]; simp [hi]
    have hp := hone _ (List.mem_of_getElem? hget)
    simp only [Array.getElem_toList] at hes q2
    rw [hbi] at hes q2
    have hw1h : w1.heap = w.heap := by rcases hw1 with rfl | rfl <;> rfl
    have hio : SameIO w w1 := hw1.elim (fun e => by rw [e]; exact .refl _) fun e => by rw [e]; exact ⟨rfl, rfl, rfl, fun _ => Nat.le_succ _⟩
    have i1' : w1.heap[(β id).b]? = some (.mapIter (some (β m).b) es.length seen.toArray es.length) := by rw [hw1h]; exact i1
    obtain ⟨c1, c2⟩ := hz.upB (w' := setBlock w1 (β id).b (.mapIter (some (β m).b) es.length (seen.toArray.push i) es.length)) (b' := .it m es.length (seen ++ [i])) hid (by rw [size_setBlock, hw1h]) (fun j hj => by rw [setBlock_other hj, hw1h]) (hio.trans (io_setBlock ..)) ⟨by rw [setBlock_same i1']; simp, i2, i3⟩
    refine ⟨.value (.tuple #[.bool true, ents[i].key, ents[i].val]), _, .tup [AB true, avV ents[i].key, avV ents[i].val], _, _, K, β, ?_, .inl rfl, h1 i _ _ hget hes, c1, ?_, c2⟩
    · rw [hexec, em]; simp only [Sem.run_bind, q2, Result.andThen_ok, Sem.run_pure]
    · simp only [R, RL]
      exact ⟨_, rfl, _, _, rfl, by simp only [RD]; exact ⟨trivial, rfl⟩, _, _, rfl, R_avV_mk hp.1, _, _, rfl, R_avV_mk hp.2, rfl⟩
theorem AOp.ent {P : Program} {l : List Operand} {id m i : Nat} {s : St} {Q : AV → St → Prop} {es : List (Value × Value)} {seen : List Nat} {k v : Value} (hm : s[m]? = some (some (.mp es))) (hid : s[id]? = some (some (.it m es.length (seen ++ [i]))))
    (hget : es[i]? = some (k, v)) (hk : Pl k) (hv : Pl v) (hq : Q (.tup [avV k, avV v]) s) : AOp P .ent l [.ptr id 0 0] s Q := by
  intro w K β ρ o ho hconst hz hr
  obtain ⟨dst, op, ty, pos, aft, grd⟩ := o
  simp only at ho
  obtain ⟨mm, rfl, rfl⟩ := ent_inv ho
  simp only [List.map_cons, List.map_nil, RL] at hr
  obtain ⟨_, _, e1, g1, e4⟩ := hr
  simp only [List.cons.injEq] at e1
  obtain ⟨rfl, rfl⟩ := e1
  simp only [R] at g1
  obtain ⟨hlt, em⟩ := g1
  obtain ⟨ents, b1, b2, b3⟩ := hz.blk m _ hm
  obtain ⟨i1, i2, i3⟩ := hz.blk id _ hid
  rw [i3, Nat.zero_mul, Nat.add_zero] at em
  have hsz : ents.size = es.length := by rw [← b2]; simp
  have hi : i < ents.size := by rw [hsz]; exact (List.getElem?_eq_some_iff.1 hget).1
  have hg : es[i]? = some (ents[i].key, ents[i].val) := by rw [← b2]; simp [hi]
  rw [hg] at hget
  simp only [Option.some.injEq, Prod.mk.injEq] at hget
  obtain ⟨rfl, rfl⟩ := hget
  have hbi : ents[i].born = i := range_get b3 hi
  have hrun := run_entry_at (P := P) w (β id).b (β m).b es.length seen.toArray ents es.length ents[i] (by rw [hbi, i1]; simp) b1 (by simp) (by rw [b3]; exact List.nodup_range)
  refine ⟨.value (.tuple #[ents[i].key, ents[i].val]), _, _, w, s, K, β, ?_, .inl rfl, hq, hz, ?_, .refl (Nat.le_refl _)⟩
  · show (do pure (Next.value (← Instr.entry (ρ mm))) : Sem Next).run P w = _
    rw [em]; simp only [Sem.run_bind, hrun, Result.andThen_ok, Sem.run_pure]
  · simp only [R, RL]
    exact ⟨_, rfl, _, _, rfl, R_avV_mk hk, _, _, rfl, R_avV_mk hv, rfl⟩
end
end Go.Proofs.YtipanehdmhachaaGreatDoor.H

set_option linter.unusedSimpArgs false
set_option linter.unusedVariables false
set_option linter.unusedSectionVars false
namespace Go.Proofs.YtipanehdmhachaaGreatDoor.H
variable [DR]
section
variable {P : Program} {w : World} {K : Nat → Prop} {β : Nat → Loc} {s : St}
theorem cap_inv {l : List Operand} {o : Op} (h : toGO P o = some (.cap, l)) : ∃ T e x, o = .call { callee := .builtin .cap, args := #[x], argTypes := #[T] } ∧ P.underlying T = some (.slice e) ∧ l = [x] := by
  unfold toGO at h
  split at h <;> (try (simp at h; done))
  all_goals (repeat' split at h)
  all_goals (try (simp at h; done))
  all_goals simp only [Option.some.injEq, Prod.mk.injEq, true_and, reduceCtorEq, false_and] at h
  rename_i as ts _ _ T x h1 h2 _ e hu
  obtain rfl : as = #[x] := by apply Array.ext'; simpa using h2
  obtain rfl : ts = #[T] := by apply Array.ext'; simpa using h1
  exact ⟨T, e, x, rfl, hu, h.symm⟩
theorem clr_inv {e : TypeId} {l : List Operand} {o : Op} (h : toGO P o = some (.clr e, l)) : ∃ T x, o = .call { callee := .builtin .clear, args := #[x], argTypes := #[T] } ∧ P.underlying T = some (.slice e) ∧ l = [x] := by
  unfold toGO at h
  split at h <;> (try (simp at h; done))
  all_goals (repeat' split at h)
  all_goals (try (simp at h; done))
  all_goals simp only [Option.some.injEq, Prod.mk.injEq, GO.clr.injEq, true_and, reduceCtorEq, false_and] at h
  rename_i as ts _ _ T x h1 h2 _ e hu
  obtain rfl : as = #[x] := by apply Array.ext'; simpa using h2
  obtain rfl : ts = #[T] := by apply Array.ext'; simpa using h1
  obtain ⟨rfl, rfl⟩ := h
  exact ⟨T, x, rfl, hu, rfl⟩
theorem appmk_inv {e : TypeId} {l : List Operand} {o : Op} (h : toGO P o = some (.appmk e, l)) : ∃ T T' k x y, o = .call { callee := .builtin .append, args := #[x, y], argTypes := #[T, T'] } ∧ P.underlying T = some (.slice e) ∧ P.underlying T' = some (.int k) ∧ l = [x, y] := by
  unfold toGO at h
  split at h <;> (try (simp at h; done))
  all_goals (repeat' split at h)
  all_goals (try (simp at h; done))
  all_goals simp only [Option.some.injEq, Prod.mk.injEq, GO.appmk.injEq, true_and, reduceCtorEq, false_and] at h
  rename_i as ts _ _ T T' x y h1 h2 _ _ e k hu hu'
  obtain rfl : as = #[x, y] := by apply Array.ext'; simpa using h2
  obtain rfl : ts = #[T, T'] := by apply Array.ext'; simpa using h1
  obtain ⟨rfl, rfl⟩ := h
  exact ⟨T, T', k, x, y, rfl, hu, hu', rfl⟩
theorem nils_inv {b : Bool} {l : List Operand} {o : Op} (h : toGO P o = some (.nils b, l)) : ∃ T e x yt, o = .binOp (if b then .neq else .eql) T x (.const (.slice none 0 0)) yt ∧ P.underlying T = some (.slice e) ∧ l = [x] := by
  cases o <;> simp only [toGO] at h <;> (try cases h) <;> (repeat' split at h) <;> (try cases h) <;> first | exact ⟨_, _, _, _, rfl, by assumption, rfl⟩ | simp_all
theorem s2b_inv {e : TypeId} {l : List Operand} {o : Op} (h : toGO P o = some (.s2b e, l)) : ∃ src dst x, o = .convert src dst x ∧ P.underlying src = some .string ∧ P.underlying dst = some (.slice e) ∧ P.underlying e = some (.int .u8) ∧ l = [x] := by
  unfold toGO at h
  split at h <;> (try (simp at h; done))
  all_goals (repeat' split at h)
  all_goals (try (simp at h; done))
  all_goals simp only [Option.some.injEq, Prod.mk.injEq, GO.s2b.injEq, true_and, reduceCtorEq, false_and] at h
  rename_i src dst x _ _ e h1 h2 _ h3
  obtain ⟨rfl, rfl⟩ := h
  exact ⟨src, dst, x, rfl, h1, h2, h3, rfl⟩
theorem nili_inv {b : Bool} {l : List Operand} {o : Op} (h : toGO P o = some (.nili b, l)) : ∃ T m x yt, o = .binOp (if b then .neq else .eql) T x (.const .nilIface) yt ∧ P.underlying T = some (.interface m) ∧ l = [x] := by
  cases o <;> simp only [toGO] at h <;> (try cases h) <;> (repeat' split at h) <;> (try cases h) <;> first | exact ⟨_, _, _, _, rfl, by assumption, rfl⟩ | simp_all
theorem AOp.nili {b : Bool} {l : List Operand} {Q : AV → St → Prop} (hq : Q (AB (!b)) s) : AOp P (.nili b) l [.d (.v .nilIface)] s Q := by
  intro w K β ρ o ho hconst hz hr
  obtain ⟨dst, op, ty, pos, aft, grd⟩ := o
  simp only at ho
  obtain ⟨T, m, y, yt, rfl, hu, rfl⟩ := nili_inv ho
  simp only [List.map_cons, List.map_nil, RL] at hr
  obtain ⟨_, _, e1, h1, e4⟩ := hr
  simp only [List.cons.injEq] at e1
  obtain ⟨rfl, rfl⟩ := e1
  simp only [R, RD] at h1
  have hx : ρ y = .nilIface := h1.1
  have he' : (Op.equal T .nilIface .nilIface).run P w = .ok true w := by
    show (Op.equalIn (9999 + 1) T .nilIface .nilIface).run P w = .ok true w
    unfold Op.equalIn
    simp only [Sem.run_bind, run_underlying hu, Result.andThen_ok, Sem.run_pure]
  refine ⟨.value (.bool (!b)), _, _, w, s, K, β, ?_, .inl rfl, hq, hz, by simp only [R, RD]; exact ⟨trivial, rfl⟩, .refl (Nat.le_refl _)⟩
  have : ∀ bo, execOp ρ { dst := dst, op := .binOp bo T y (.const .nilIface) yt, type := ty, pos := pos, after := aft, guard := grd } = (do pure (Next.value (← (do eqGuard bo T y (.const .nilIface) (ρ y) (ρ (.const .nilIface)); binOp bo T (ρ y) (ρ (.const .nilIface))))) ) := fun _ => rfl
  rw [this, hx, hconst]
  have hg : ∀ bo, (eqGuard bo T y (.const .nilIface) .nilIface .nilIface).run P w = .ok () w := fun bo => by rw [eqGuard_nil_constR]; rfl
  cases b
  · have e1 : binOp .eql T .nilIface .nilIface = (do pure (.bool (← Op.equal T .nilIface .nilIface))) := rfl
    simp only [Bool.false_eq_true, if_false, e1, Sem.run_bind, hg, he', Result.andThen_ok, Sem.run_pure, Bool.not_false]
  · have e1 : binOp .neq T .nilIface .nilIface = (do pure (.bool (!(← Op.equal T .nilIface .nilIface)))) := rfl
    simp only [if_true, e1, Sem.run_bind, hg, he', Result.andThen_ok, Sem.run_pure, Bool.not_true]
theorem b2s_inv {l : List Operand} {o : Op} (h : toGO P o = some (.b2s, l)) : ∃ src dst e x, o = .convert src dst x ∧ P.underlying src = some (.slice e) ∧ P.underlying dst = some .string ∧ P.underlying e = some (.int .u8) ∧ l = [x] := by
  unfold toGO at h
  split at h <;> (try (simp at h; done))
  all_goals (repeat' split at h)
  all_goals (try (simp at h; done))
  all_goals simp only [Option.some.injEq, Prod.mk.injEq, true_and, reduceCtorEq, false_and] at h
  rename_i src dst x _ _ e h1 h2 _ h3
  exact ⟨src, dst, e, x, rfl, h1, h2, h3, h.symm⟩
theorem AOp.cap {l : List Operand} {k : Nat} {rows : List (List D)} {Q : AV → St → Prop} (hq : Q (AI .i64 rows.length) s) : AOp P .cap l [.ful k rows] s Q := by
  intro w K β ρ o ho hconst hz hr
  obtain ⟨dst, op, ty, pos, aft, grd⟩ := o
  simp only at ho
  obtain ⟨T, e, x, rfl, hu, rfl⟩ := cap_inv ho
  simp only [List.map_cons, List.map_nil, RL] at hr
  obtain ⟨_, _, e1, h1, e4⟩ := hr
  simp only [List.cons.injEq] at e1
  obtain ⟨rfl, rfl⟩ := e1
  simp only [R] at h1
  obtain ⟨a, em, _⟩ := h1
  refine ⟨.value (.int .i64 rows.length), _, _, w, s, K, β, ?_, .inl rfl, hq, hz, ?_, .refl (Nat.le_refl _)⟩
  · have : execOp ρ { dst := dst, op := .call { callee := .builtin .cap, args := #[x], argTypes := #[T] }, type := ty, pos := pos, after := aft, guard := grd } = (do pure (Next.value (← Builtin.cap_ #[T] ty #[ρ x]))) := by simp [execOp, resolve, invoke, builtin]
    rw [this, em]
    simp [Builtin.cap_, run_underlying hu, goInt]
  · simp only [R, RD]; exact ⟨trivial, rfl⟩
theorem nils_run {b : Bool} {T e : TypeId} {x : Operand} {yt : TypeId} {ρ : Operand → Value} (hu : P.underlying T = some (.slice e)) (hconst : ∀ v, ρ (.const v) = v) {a : Option Addr} {n c : Nat} (hx : ρ x = .slice a n c) (oper : Oper) (ho : oper.op = .binOp (if b then .neq else .eql) T x (.const (.slice none 0 0)) yt) (w : World) :
    (execOp ρ oper).run P w = .ok (.value (.bool (if b then !a.isNone else a.isNone))) w := by
  obtain ⟨dst, op, ty, pos, aft, grd⟩ := oper
  simp only at ho
  subst ho
  have : ∀ bo, execOp ρ { dst := dst, op := .binOp bo T x (.const (.slice none 0 0)) yt, type := ty, pos := pos, after := aft, guard := grd } = (do pure (Next.value (← (do eqGuard bo T x (.const (.slice none 0 0)) (ρ x) (ρ (.const (.slice none 0 0))); binOp bo T (ρ x) (ρ (.const (.slice none 0 0))))))) := fun _ => rfl
  rw [this, hx, hconst]
  have he : ∀ d, (Op.equalIn (d + 1) T (.slice a n c) (.slice none 0 0)).run P w = .ok a.isNone w := fun d => by
    cases a <;> simp [Op.equalIn, run_underlying hu]
  have hg : ∀ bo, (eqGuard bo T x (.const (.slice none 0 0)) (.slice a n c) (.slice none 0 0)).run P w = .ok () w := fun bo => by cases bo <;> simp [eqGuard]
  have he' : (Op.equal T (.slice a n c) (.slice none 0 0)).run P w = .ok a.isNone w := he 9999
  cases b
  · have e1 : binOp .eql T (.slice a n c) (.slice none 0 0) = (do pure (.bool (← Op.equal T (.slice a n c) (.slice none 0 0)))) := rfl
    simp only [Bool.false_eq_true, if_false, e1, Sem.run_bind, hg, he', Result.andThen_ok, Sem.run_pure]
  · have e1 : binOp .neq T (.slice a n c) (.slice none 0 0) = (do pure (.bool (!(← Op.equal T (.slice a n c) (.slice none 0 0))))) := rfl
    simp only [if_true, e1, Sem.run_bind, hg, he', Result.andThen_ok, Sem.run_pure]
theorem AOp.nils {b : Bool} {l : List Operand} {k : Nat} {rows : List (List D)} {x : AV} (hx : x = .ful k rows ∨ x = .d (.lst k rows)) {Q : AV → St → Prop} (hq : ∀ c, (rows ≠ [] → c = false) → Q (AB (if b then !c else c)) s) : AOp P (.nils b) l [x] s Q := by
  intro w K β ρ o ho hconst hz hr
  obtain ⟨T, e, y, yt, hop, hu, rfl⟩ := nils_inv ho
  simp only [List.map_cons, List.map_nil, RL] at hr
  obtain ⟨_, _, e1, h1, e4⟩ := hr
  simp only [List.cons.injEq] at e1
  obtain ⟨rfl, rfl⟩ := e1
  have : ∃ a n c, ρ y = .slice a n c ∧ (rows ≠ [] → a.isNone = false) := by
    rcases hx with rfl | rfl
    · simp only [R] at h1
      obtain ⟨a, em, h⟩ := h1
      refine ⟨a, _, _, em, fun hn => ?_⟩
      rcases h with h | ⟨x, hx, _⟩
      · exact absurd (List.eq_nil_of_length_eq_zero h) hn
      · rw [hx]; rfl
    · simp only [R, RD] at h1
      obtain ⟨a, c, em, _, h⟩ := h1
      refine ⟨a, _, _, em, fun hn => ?_⟩
      rcases h with h | ⟨x, hx, _⟩
      · exact absurd (List.eq_nil_of_length_eq_zero h) hn
      · rw [hx]; rfl
  obtain ⟨a, n, c, em, ha⟩ := this
  exact ⟨_, _, _, w, s, K, β, nils_run hu hconst em o hop w, .inl rfl, hq a.isNone ha, hz, by simp only [R, RD]; exact ⟨trivial, rfl⟩, .refl (Nat.le_refl _)⟩
theorem AOp.nilsO {b : Bool} {l : List Operand} {id off len : Nat} {Q : AV → St → Prop} (hq : Q (AB b) s) : AOp P (.nils b) l [.own id off len] s Q := by
  intro w K β ρ o ho hconst hz hr
  obtain ⟨T, e, y, yt, hop, hu, rfl⟩ := nils_inv ho
  simp only [List.map_cons, List.map_nil, RL] at hr
  obtain ⟨_, _, e1, h1, e4⟩ := hr
  simp only [List.cons.injEq] at e1
  obtain ⟨rfl, rfl⟩ := e1
  simp only [R] at h1
  obtain ⟨_, a, c, em, _⟩ := h1
  refine ⟨_, _, _, w, s, K, β, nils_run hu hconst em o hop w, .inl rfl, hq, hz, by simp only [R, RD]; exact ⟨by cases b <;> rfl, rfl⟩, .refl (Nat.le_refl _)⟩
/-- A new block that nobody writes. -/
theorem Cz.frozB (hz : Cz w K β s) {w' : World} {o : Obj} (hw : w'.heap = w.heap.push o) (hio : SameIO w w') :
    Cz w' (fun b => K b ∨ b = w.heap.size) β s ∧ Ext s.length w K β s w' (fun b => K b ∨ b = w.heap.size) β s := by
  have hs : Stays w K w' (fun b => K b ∨ b = w.heap.size) := ⟨fun _ h => .inl h, (stays_push hz hw).h⟩
  refine ⟨⟨?_, hz.inj, ?_, ?_, ?_⟩, ?_⟩
  · intro i b hi
    exact hz.old hs (Nat.le_refl _) (fun _ _ => rfl) hi (push_old hw (hz.lt ⟨b, hi⟩))
  · intro i hi hK
    rcases hK with hK | hK
    · exact hz.dis i hi hK
    · have := hz.lt hi; omega
  · intro b hK
    rw [hw]
    rcases hK with hK | hK
    · have := hz.kb b hK; simp; omega
    · simp; omega
  · exact hz.gl.mono hs
  · exact { size := by rw [hw]; simp
            io := hio
            fix := fun _ _ => rfl
            len := Nat.le_refl _
            frame := fun b hb' _ => push_old hw hb'
            kmono := fun _ h => .inl h
            knew := fun b h => by
              rcases h with h | h
              · exact .inl h
              · right; left; omega
            onew := fun i hi => .inr ⟨i, hi, rfl⟩ }
/-- The bytes of a string. -/
def byR (b : UInt8) : List D := [.v (.int .u8 b.toNat)]
theorem AOp.s2b {e : TypeId} {l : List Operand} {x : ByteArray} {Q : AV → St → Prop} (hq : Q (.d (.lst 1 (x.data.toList.map byR))) s) : AOp P (.s2b e) l [.d (.v (.string x))] s Q := by
  intro w K β ρ o ho hconst hz hr
  obtain ⟨dst, op, ty, pos, aft, grd⟩ := o
  simp only at ho
  obtain ⟨src, dt, y, rfl, h1, h2, h3, rfl⟩ := s2b_inv ho
  simp only [List.map_cons, List.map_nil, RL] at hr
  obtain ⟨_, _, e1, g1, e4⟩ := hr
  simp only [List.cons.injEq] at e1
  obtain ⟨rfl, rfl⟩ := e1
  have em := R_AS g1
  have hrun := run_bytes_of_string (P := P) w src dt e x h1 h2 h3
  generalize hc : bytesRow x (grownCap w x.size 0 e) = cells at hrun
  have hpush : (w.drew.alloc (.cells cells e (cells.size, cells.size + 1))).heap = w.heap.push (.cells cells e (cells.size, cells.size + 1)) := heap_drew ..
  obtain ⟨c1, c2⟩ := hz.frozB (w' := w.drew.alloc (.cells cells e (cells.size, cells.size + 1))) hpush (io_drew ..)
  refine ⟨.value (.slice (some ⟨w.heap.size, 0, none⟩) x.size (grownCap w x.size 0 e)), _, _, _, s, _, β, ?_, .inl rfl, hq, c1, ?_, c2⟩
  · show (do pure (Next.value (← convert src dt (ρ y))) : Sem Next).run P w = _
    rw [em]; simp only [Sem.run_bind, hrun, Result.andThen_ok, Sem.run_pure]
  · have hlen : (x.data.toList.map byR).length = x.size := by rw [List.length_map, Array.length_toList]; rfl
    simp only [R, RD]
    refine ⟨_, _, by rw [hlen], by rw [hlen]; exact grownCap_ge .., .inr ⟨_, rfl, RRows_of fun i r hi => ?_⟩⟩
    rw [List.getElem?_map, Option.map_eq_some_iff] at hi
    obtain ⟨b, hb, rfl⟩ := hi
    refine ⟨rfl, ?_⟩
    simp only [byR, RCells, RD]
    rw [Nat.mul_one, add_addr, Nat.zero_add]
    refine ⟨.inr rfl, ⟨.int .u8 b.toNat, ?_, rfl, rfl⟩, trivial⟩
    have hi' : i < x.data.size := by have := (List.getElem?_eq_some_iff.1 hb).1; simpa using this
    have hget : cells[i]? = some (.int .u8 b.toNat) := by
      rw [← hc]
      unfold bytesRow
      have hb' : x.data[i]? = some b := by rw [← Array.getElem?_toList]; exact hb
      rw [Array.getElem?_append_left (by rw [Array.size_map]; exact hi'), Array.getElem?_map, hb']
      rfl
    unfold World.cell?
    rw [hpush]
    simp [hget]
theorem b2s_run {src dst e : TypeId} {x : Operand} {ρ : Operand → Value} (h1 : P.underlying src = some (.slice e)) (h2 : P.underlying dst = some .string) (h3 : P.underlying e = some (.int .u8)) {a : Addr} {c : Nat} {bs : List UInt8} (hx : ρ x = .slice (some a) bs.length c)
    (hc : ∀ j (hj : j < bs.length), w.cell? (a.add j) = some (.int .u8 (bs[j].toNat : Int))) (oper : Oper) (ho : oper.op = .convert src dst x) : (execOp ρ oper).run P w = .ok (.value (.string ⟨bs.toArray⟩)) w := by
  obtain ⟨dst', op, ty, pos, aft, grd⟩ := oper
  simp only at ho
  subst ho
  show (do pure (Next.value (← convert src dst (ρ x))) : Sem Next).run P w = _
  rw [hx]
  simp only [Sem.run_bind, run_convert_bytes_back (P := P) w src dst e a c bs h1 h3 h2 hc, Result.andThen_ok, Sem.run_pure]
theorem RRows_byte {a : Addr} : ∀ {bs : List UInt8} {i : Nat}, RRows w K 1 (bs.map byR) (a.add i) → ∀ j (hj : j < bs.length), w.cell? (a.add (i + j)) = some (.int .u8 (bs[j].toNat : Int))
  | b :: bs, i, h, 0, _ => by
    simp only [List.map_cons, RRows, byR, RCells, RD] at h
    obtain ⟨-, ⟨-, ⟨u, h1, h2, -⟩, -⟩, -⟩ := h
    rw [Nat.add_zero, h1, h2]; rfl
  | b :: bs, i, h, j + 1, hj => by
    simp only [List.map_cons, RRows] at h
    have := RRows_byte (bs := bs) (i := i + 1) (by rw [← Addr_add_add]; exact h.2.2) j (by simpa using hj)
    rw [show i + (j + 1) = i + 1 + j by omega, this]; rfl
theorem AOp.b2s {l : List Operand} {bs : List UInt8} {x : AV} (h0 : bs ≠ []) (hx : x = .ful 1 (bs.map byR) ∨ x = .d (.lst 1 (bs.map byR))) {Q : AV → St → Prop} (hq : Q (.d (.v (.string ⟨bs.toArray⟩))) s) : AOp P .b2s l [x] s Q := by
  intro w K β ρ o ho hconst hz hr
  obtain ⟨src, dst, e, y, hop, h1, h2, h3, rfl⟩ := b2s_inv ho
  simp only [List.map_cons, List.map_nil, RL] at hr
  obtain ⟨_, _, e1, g1, e4⟩ := hr
  simp only [List.cons.injEq] at e1
  obtain ⟨rfl, rfl⟩ := e1
  have : ∃ a c, ρ y = .slice (some a) bs.length c ∧ RRows w K 1 (bs.map byR) a := by
    have hn : ¬ (bs.map byR).length = 0 := by rw [List.length_map]; exact fun e => h0 (List.length_eq_zero_iff.1 e)
    rcases hx with rfl | rfl
    · simp only [R] at g1
      obtain ⟨a, em, h⟩ := g1
      rcases h with h | ⟨x, rfl, h⟩
      · exact absurd h hn
      · exact ⟨x, _, by rw [em, List.length_map], h⟩
    · simp only [R, RD] at g1
      obtain ⟨a, c, em, _, h⟩ := g1
      rcases h with h | ⟨x, rfl, h⟩
      · exact absurd h hn
      · exact ⟨x, c, by rw [em, List.length_map], h⟩
  obtain ⟨a, c, em, hR⟩ := this
  have hc := RRows_byte (a := a) (i := 0) (by rw [add_zero]; exact hR)
  exact ⟨_, _, _, w, s, K, β, b2s_run h1 h2 h3 em (fun j hj => by have := hc j hj; rwa [Nat.zero_add] at this) o hop, .inl rfl, hq, hz, by simp only [R, RD]; exact ⟨trivial, rfl⟩, .refl (Nat.le_refl _)⟩
theorem AOp.b2sO {l : List Operand} {id t off len : Nat} {rows : List (List D)} {bs : List UInt8} (hid : s[id]? = some (some (.cells t 1 (rowsA rows)))) (hle : off + len ≤ rows.length) (hb : (rows.drop off).take len = bs.map byR) (h0 : bs ≠ []) {Q : AV → St → Prop} (hq : Q (.d (.v (.string ⟨bs.toArray⟩))) s) : AOp P .b2s l [.own id off len] s Q := by
  intro w K β ρ o ho hconst hz hr
  obtain ⟨src, dst, e, y, hop, h1, h2, h3, rfl⟩ := b2s_inv ho
  simp only [List.map_cons, List.map_nil, RL] at hr
  obtain ⟨_, _, e1, g1, e4⟩ := hr
  simp only [List.cons.injEq] at e1
  obtain ⟨rfl, rfl⟩ := e1
  let Kc : Nat → Prop := fun b => K b ∨ ∃ i, Alive s i ∧ (β i).b = b
  have hK : Stays w K w Kc := ⟨fun _ h => .inl h, fun _ _ => rfl⟩
  have hal : Alive s id := ⟨_, hid⟩
  have hF : FrzH w Kc β id 1 rows := .of hz hid hK (.inr ⟨id, hal, rfl⟩)
  have g2 := R_frz hK hF g1 (by simp only [fitA]; exact fun _ => hle)
  simp only [frzA, if_true, hb] at g2
  have : ∃ a c, ρ y = .slice (some a) bs.length c ∧ RRows w Kc 1 (bs.map byR) a := by
    have hn : ¬ (bs.map byR).length = 0 := by rw [List.length_map]; exact fun e => h0 (List.length_eq_zero_iff.1 e)
    simp only [R, RD] at g2
    obtain ⟨a, c, em, _, h⟩ := g2
    rcases h with h | ⟨x, rfl, h⟩
    · exact absurd h hn
    · exact ⟨x, c, by rw [em, List.length_map], h⟩
  obtain ⟨a, c, em, hR⟩ := this
  have hc := RRows_byte (K := Kc) (a := a) (i := 0) (by rw [add_zero]; exact hR)
  exact ⟨_, _, _, w, s, K, β, b2s_run h1 h2 h3 em (fun j hj => by have := hc j hj; rwa [Nat.zero_add] at this) o hop, .inl rfl, hq, hz, by simp only [R, RD]; exact ⟨trivial, rfl⟩, .refl (Nat.le_refl _)⟩
end
end Go.Proofs.YtipanehdmhachaaGreatDoor.H

set_option linter.unusedSimpArgs false
set_option linter.unusedVariables false
set_option linter.unusedSectionVars false
namespace Go.Proofs.YtipanehdmhachaaGreatDoor.H
variable [DR]
section
variable {P : Program} {w : World} {K : Nat → Prop} {β : Nat → Loc} {s : St}
theorem zeroCells_list {zv : Value} {z : List Value} (hz : zv.cells = z.toArray) {k : Nat} (hk : z.length = k) (h0 : 0 < k) (n : Nat) : (Builtin.zeroCells zv.cells n).toList = (List.replicate n z).flatten := by
  unfold Builtin.zeroCells
  rw [hz]
  have := made_arr hk h0 n
  rw [show z.toArray.size = k by simpa using hk] at this ⊢
  rw [this]
theorem AOp.clr {e : TypeId} {z : List Value} {k : Nat} (hz0 : zeroOf P e = some z) (hzk : z.length = k) (h0 : 0 < k) {l : List Operand} {id off len T : Nat} {rows : List (List AV)} (hid : s[id]? = some (some (.cells T k rows))) (hle : off + len ≤ rows.length) {Q : AV → St → Prop}
    (hq : Q (.tup []) (s.set id (some (.cells T k (rows.take off ++ List.replicate len (zeroA z) ++ rows.drop (off + len)))))) : AOp P (.clr e) l [.own id off len] s Q := by
  intro w K β ρ o ho hconst hz hr
  obtain ⟨dst, op, ty, pos, aft, grd⟩ := o
  simp only at ho
  obtain ⟨T', x, rfl, hu, rfl⟩ := clr_inv ho
  simp only [List.map_cons, List.map_nil, RL] at hr
  obtain ⟨_, _, e1, g1, e4⟩ := hr
  simp only [List.cons.injEq] at e1
  obtain ⟨rfl, rfl⟩ := e1
  simp only [R] at g1
  obtain ⟨hlt, a, c, em, hc1, hc2, hc3⟩ := g1
  have hexec : execOp ρ { dst := dst, op := .call { callee := .builtin .clear, args := #[x], argTypes := #[T'] }, type := ty, pos := pos, after := aft, guard := grd } = (do pure (Next.value (← Builtin.clear_ #[T'] ty #[ρ x]))) := by simp [execOp, resolve, invoke, builtin]
  obtain ⟨i, zv, hi, hzv, hzc, hz1⟩ := zeroOf_info hz0
  have hzero : ∀ w, (zeroValue e).run P w = .ok zv w := fun w => by simp [zeroValue, typeInfo, hi, hzv]
  by_cases hl0 : len = 0
  · subst hl0
    have hs : s.set id (some (.cells T k (rows.take off ++ List.replicate 0 (zeroA z) ++ rows.drop (off + 0)))) = s := by
      simp only [List.replicate_zero, List.append_nil, Nat.add_zero, List.take_append_drop]
      refine List.ext_getElem? fun j => ?_
      rw [List.getElem?_set]
      split
      · rename_i e; subst e; first | exact hid.symm | rw [if_pos hlt, hid]
      · rfl
    rw [hs] at hq
    refine ⟨.value (.tuple #[]), _, .tup [], w, s, K, β, ?_, .inl rfl, hq, hz, by simp only [R, RL]; exact ⟨[], rfl, rfl⟩, .refl (Nat.le_refl _)⟩
    rw [hexec, em]
    simp [Builtin.clear_, run_underlying hu]
  · have hx := hc3 (by omega)
    subst hx
    obtain ⟨pre, us, post, q1, q2, q3, q4, q5, q6, q7⟩ := hz.cells hid
    have hul := RL_length q3
    rw [flatten_length q7] at hul
    have hvl : ((List.replicate len z).flatten).length = len * k := by
      rw [flatten_length (k := k) (fun r hr => by rw [(List.mem_replicate.1 hr).2]; exact hzk), List.length_replicate]
    have hle' : off * k + len * k ≤ us.length := by rw [hul, ← Nat.add_mul]; exact Nat.mul_le_mul_right _ hle
    have hvone : ∀ u ∈ (List.replicate len z).flatten, u.oneCell' = true := fun u hu => by
      obtain ⟨r, hr, hu⟩ := List.mem_flatten.1 hu
      rw [(List.mem_replicate.1 hr).2] at hu
      exact hz1 u hu
    have hst := run_storeCells_at P (β id).b ((β id).base + off * (β id).k) T (List.replicate len z).flatten 0 _ w q1 (by rw [Nat.add_zero, hvl, q5, ← q2]; simp only [List.size_toArray, List.length_append]; omega) hvone
    obtain ⟨s1, s2, s3⟩ := cells_split (L := pre ++ us ++ post) (o := off * k) (m := (List.replicate len z).flatten.length) rfl (by omega)
    have hnew : (pre ++ us ++ post).take ((β id).base + off * (β id).k + 0) ++ (List.replicate len z).flatten ++ (pre ++ us ++ post).drop ((β id).base + off * (β id).k + 0 + (List.replicate len z).flatten.length) = pre ++ (us.take (off * k) ++ (List.replicate len z).flatten ++ us.drop (off * k + (List.replicate len z).flatten.length)) ++ post := by
      rw [Nat.add_zero, q5, ← q2, s1, s3]; simp [List.append_assoc]
    simp only [hnew] at hst
    have hR : RL w K β s.length (rows.take off ++ List.replicate len (zeroA z) ++ rows.drop (off + len)).flatten (us.take (off * k) ++ (List.replicate len z).flatten ++ us.drop (off * k + (List.replicate len z).flatten.length)) := by
      rw [List.flatten_append, List.flatten_append, flatten_take q7, flatten_drop q7, hvl, ← Nat.add_mul]
      exact RL_append (RL_append (RL_take q3 _) (RL_zeros hz0 _)) (RL_drop q3 _)
    obtain ⟨c1, c2⟩ := hz.set (rows' := rows.take off ++ List.replicate len (zeroA z) ++ rows.drop (off + len)) hid q1 q2 q4 (us' := us.take (off * k) ++ (List.replicate len z).flatten ++ us.drop (off * k + (List.replicate len z).flatten.length)) (by rw [List.length_append, List.length_append, List.length_take, List.length_drop, hvl]; omega) hR (by
      intro v hv
      rw [List.flatten_append, List.flatten_append] at hv
      rcases List.mem_append.1 hv with hv | hv
      · rcases List.mem_append.1 hv with hv | hv
        · obtain ⟨r, hr, hv⟩ := List.mem_flatten.1 hv
          exact q6 v (List.mem_flatten.2 ⟨r, List.mem_of_mem_take hr, hv⟩)
        · exact zeros_one v hv
      · obtain ⟨r, hr, hv⟩ := List.mem_flatten.1 hv
        exact q6 v (List.mem_flatten.2 ⟨r, List.mem_of_mem_drop hr, hv⟩)) (by
      intro r hr
      rcases List.mem_append.1 hr with hr | hr
      · rcases List.mem_append.1 hr with hr | hr
        · exact q7 r (List.mem_of_mem_take hr)
        · rw [(List.mem_replicate.1 hr).2]; simp [zeroA, hzk]
      · exact q7 r (List.mem_of_mem_drop hr))
    refine ⟨.value (.tuple #[]), _, .tup [], _, _, K, β, ?_, .inl rfl, hq, c1, by simp only [R, RL]; exact ⟨[], rfl, rfl⟩, c2⟩
    rw [hexec, em]
    obtain ⟨m, rfl⟩ : ∃ m, len = m + 1 := ⟨len - 1, by omega⟩
    have hzl := zeroCells_list hzc hzk h0 (m + 1)
    simp only [Builtin.clear_, Sem.run_bind, run_underlying hu, Result.andThen_ok, hzero, hzl, hst, Sem.run_pure, List.getElem?_toArray, List.getElem?_cons_zero]
theorem run_append_make {t t' ty e : TypeId} {ki : IntKind} {i : TypeInfo} {z : Value} (ht : P.underlying t = some (.slice e)) (ht' : P.underlying t' = some (.int ki)) (hi : P.info? e = some i) (hz : i.zero = some z) (base : Option Addr) (n : Nat) (h0 : 0 < n) (hs : 0 < i.size)
    (h63 : (n : Int) ≤ 9223372036854775807) (h48 : n * i.bytes ≤ 140737488355328) (k : IntKind) :
    (Builtin.append_ #[t, t'] ty #[.slice base 0 0, .int k n]).run P w =
      .ok (.slice (some ⟨w.heap.size, 0, none⟩) n (grownCap w n 0 e)) (w.drew.alloc (.cells (Builtin.zeroCells z.cells n ++ Builtin.zeroCells z.cells (grownCap w n 0 e - n)) e)) := by
  have hn : n ≠ 0 := by omega
  have hw : IntKind.i64.wrap (n : Int) = n := wrap_id (by omega) h63
  have h63' : ¬ (9223372036854775807 < (n : Int)) := by omega
  have h48' : ¬ (281474976710656 < Builtin.nextslicecap n 0 * i.bytes) := by rw [nextslicecap_zero h0]; omega
  have h48'' : ¬ (281474976710656 < (n : Int) * (i.bytes : Int)) := by
    have : ((n * i.bytes : Nat) : Int) = (n : Int) * (i.bytes : Int) := by push_cast; rfl
    omega
  have hns : ¬ (n = 0 ∨ i.size = 0) := by omega
  have hnk : ¬ (n * i.size = 0) := by have := Nat.mul_pos h0 hs; omega
  have hneg : ¬ ((n : Int) < 0) := by omega
  have hmax : ¬ (9223372036854775807 < max (n : Int) 0) := by omega
  cases base <;> simp [Builtin.append_, run_underlying ht, run_underlying ht', sizeOf, typeInfo, zeroValue, hi, hz, hn, hw, h63', h48', h48'', hns, Question.forced, Builtin.firstCells, loadCells, loadCellsFrom, newRow, grownCap, asInt, asIntOf, hneg, hnk, hmax, Int.toNat_natCast]
theorem AOp.appmk {e : TypeId} {i : TypeInfo} {z : List Value} {k : Nat} (hi : P.info? e = some i) (hz0 : zeroOf P e = some z) (hzk : z.length = i.size) (h0 : 0 < i.size) {l : List Operand} {n : Nat} (hn : (n : Int) ≤ 1000000000000) (hb : n * i.bytes ≤ 140737488355328) {Q : AV → St → Prop}
    (hq0 : n = 0 → Q (.ful k []) s) (hq : 0 < n → Q (.own s.length 0 n) (s ++ [some (.cells e i.size (List.replicate n (zeroA z)))])) : AOp P (.appmk e) l [.ful k [], AI .i64 n] s Q := by
  intro w K β ρ o ho hconst hz hr
  obtain ⟨dst, op, ty, pos, aft, grd⟩ := o
  simp only at ho
  obtain ⟨T, T', ki, x, y, rfl, hu, hu', rfl⟩ := appmk_inv ho
  simp only [List.map_cons, List.map_nil, RL] at hr
  obtain ⟨_, _, e1, g1, _, _, e2, g2, e4⟩ := hr
  simp only [List.cons.injEq] at e1
  obtain ⟨rfl, rfl⟩ := e1
  simp only [List.cons.injEq] at e2
  obtain ⟨rfl, rfl⟩ := e2
  have ey := R_AI g2
  simp only [R] at g1
  obtain ⟨base, ex, _⟩ := g1
  have hexec : execOp ρ { dst := dst, op := .call { callee := .builtin .append, args := #[x, y], argTypes := #[T, T'] }, type := ty, pos := pos, after := aft, guard := grd } = (do pure (Next.value (← Builtin.append_ #[T, T'] ty #[ρ x, ρ y]))) := by simp [execOp, resolve, invoke, builtin]
  obtain ⟨i', zv, hi', hzv, hzc, hz1⟩ := zeroOf_info hz0
  rw [hi] at hi'
  simp only [Option.some.injEq] at hi'
  subst hi'
  by_cases hn0 : n = 0
  · subst hn0
    refine ⟨.value (.slice base 0 0), _, .ful k [], w, s, K, β, ?_, .inl rfl, hq0 rfl, hz, by simp only [R]; exact ⟨base, rfl, .inl rfl⟩, .refl (Nat.le_refl _)⟩
    rw [hexec, ex, ey]
    have hw : IntKind.i64.wrap 0 = 0 := by decide
    cases base <;> simp [Builtin.append_, run_underlying hu, run_underlying hu', sizeOf, typeInfo, zeroValue, hi, hzv, asInt, asIntOf, hw, storeCells]
  · have hrun := run_append_make (P := P) (w := w) (ty := ty) hu hu' hi hzv base n (by omega) h0 (by omega) hb .i64
    generalize hcap : grownCap w n 0 e = cap at hrun
    have hge : n ≤ cap := by rw [← hcap]; exact grownCap_ge ..
    have hzl := zeroCells_list hzc hzk h0
    have harr : (Builtin.zeroCells zv.cells n ++ Builtin.zeroCells zv.cells (cap - n) : Array Value) = ((List.replicate n z).flatten ++ (List.replicate (cap - n) z).flatten).toArray := by
      apply Array.ext'; simp [hzl]
    rw [harr] at hrun
    have hfl : ∀ m, ((List.replicate m z).flatten).length = m * i.size := fun m => by
      rw [flatten_length (k := i.size) (fun r hr => by rw [(List.mem_replicate.1 hr).2]; exact hzk), List.length_replicate]
    obtain ⟨c1, c2⟩ := hz.new (w' := w.drew.alloc (.cells ((List.replicate n z).flatten ++ (List.replicate (cap - n) z).flatten).toArray e)) (us := (List.replicate n z).flatten) (post := (List.replicate (cap - n) z).flatten) (T := e) (k := i.size) (cap := cap) (rows := List.replicate n (zeroA z))
      (heap_drew ..) (io_drew ..) (RL_zeros hz0 _) zeros_one (fun r hr => by rw [(List.mem_replicate.1 hr).2]; simp [zeroA, hzk]) (by rw [List.length_append, hfl, hfl, ← Nat.add_mul]; congr 1; omega)
    refine ⟨.value (.slice (some ⟨w.heap.size, 0, none⟩) n cap), _, .own s.length 0 n, _, _, K, _, ?_, .inl rfl, hq (by omega), c1, ?_, c2⟩
    · rw [hexec, ex, ey]
      simp only [Sem.run_bind, hrun, Result.andThen_ok, Sem.run_pure, List.length_nil]
    · simp only [R, lay_same]
      exact ⟨by simp, _, _, rfl, hge, by simp, fun _ => by simp⟩
end
end Go.Proofs.YtipanehdmhachaaGreatDoor.H

set_option linter.unusedSimpArgs false
set_option linter.unusedVariables false
set_option linter.unusedSectionVars false
namespace Go.Proofs.YtipanehdmhachaaGreatDoor.H
variable [DR]
section
variable {r : Nat → Nat} {n : Nat}
mutual
theorem renA_fix (hr : ∀ i, i < n → r i = i) : ∀ {v : AV}, belA n v = true → renA r v = v
  | .d _, _ | .ful .., _ | .pre .., _ | .elm .., _ => rfl
  | .ptr id _ _, h | .own id _ _, h | .osl id _ _ _, h | .mp id, h => by simp only [belA, decide_eq_true_eq] at h; simp only [renA, hr id h]
  | .agg l, h => by simp only [renA, renL_fix hr (by simpa [belA] using h)]
  | .tup l, h => by simp only [renA, renL_fix hr (by simpa [belA] using h)]
  | .fn f a c, h => by
    simp only [belA, Bool.and_eq_true] at h
    simp only [renA, renL_fix hr h.1, renL_fix hr h.2]
theorem renL_fix (hr : ∀ i, i < n → r i = i) : ∀ {l : List AV}, belL n l = true → renL r l = l
  | [], _ => rfl
  | v :: l, h => by
    simp only [belL, Bool.and_eq_true] at h
    simp only [renL, renA_fix hr h.1, renL_fix hr h.2]
end
theorem renB_fix (hr : ∀ i, i < n → r i = i) : ∀ {b : Blk}, belB n b = true → renB r b = b
  | .cells T k rows, h => by
    simp only [belB, List.all_eq_true] at h
    simp only [renB]
    congr 1
    rw [List.map_congr_left (g := fun x => x) fun l hl => renL_fix hr (h l hl)]; simp
  | .mp es, _ => rfl
  | .it m c seen, h => by simp only [belB, decide_eq_true_eq] at h; simp only [renB, hr m h]
end
theorem nmL_range {n i : Nat} (h : i < n) : nmL (List.range n) i = i := by simp [nmL, h]
/-- A state that names no other blocks. -/
def ClS (s : St) : Prop := ∀ (i : Nat) b, s[i]? = some (some b) → belB s.length b = true
theorem ClS.nil : ClS [] := fun i b h => by simp at h
theorem NS_of {n : Nat} {r : Nat → Nat} {s : St} : ∀ {s' : St} {k : Nat}, (∀ (j : Nat) b, s'[j]? = some (some b) → belB n b = true ∧ s[r (k + j)]? = some (some (renB r b))) → NS n r s k s'
  | [], k, _ => trivial
  | none :: l, k, h => NS_of (s' := l) fun j b hj => by have := h (j + 1) b (by simpa using hj); rwa [show k + (j + 1) = k + 1 + j by omega] at this
  | some b :: l, k, h => ⟨by have := h 0 b rfl; simpa using this, NS_of (s' := l) fun j b hj => by have := h (j + 1) b (by simpa using hj); rwa [show k + (j + 1) = k + 1 + j by omega] at this⟩
theorem NS_id {s : St} (hs : ClS s) : NS s.length (nmL (List.range s.length)) s 0 s :=
  NS_of fun j b hj => by
    have hlt := (List.getElem?_eq_some_iff.1 hj).1
    have hb := hs j b hj
    refine ⟨hb, ?_⟩
    rw [Nat.zero_add, nmL_range hlt, renB_fix (fun i hi => nmL_range hi) hb]
    exact hj
theorem Nrm.id {m : Nat} {T T' : Tm} {s : St} (hs : ClS s) (hm : m ≤ s.length) (hT : NT s.length (nmL (List.range s.length)) T T') : Nrm (List.range s.length) m T s T' s :=
  ⟨by simp, List.nodup_range, by rw [List.take_range, Nat.min_eq_left hm], hT, NS_id hs⟩
/-- All temporaries of 'T'' stand in 'T', and name only blocks that there are. -/
def NTi (n : Nat) (T : Tm) : Tm → Prop
  | [] => True
  | (i, v) :: l => (belA n v = true ∧ tget T i = some v) ∧ NTi n T l
theorem NT_of {n : Nat} {T : Tm} : ∀ {T' : Tm}, NTi n T T' → NT n (nmL (List.range n)) T T'
  | [], _ => trivial
  | (i, v) :: l, h => by
    simp only [NTi] at h
    exact ⟨⟨h.1.1, by rw [h.1.2, renA_fix (fun i hi => nmL_range hi) h.1.1]⟩, NT_of h.2⟩
/-- A function value that answers so of each of some arguments, and changes nothing. -/
def FnV (P : Program) (f : FuncId) (c : List AV) (s : St) (vs : List AV) (v : AV) : Prop := ACalls P f (vs ++ c) s fun r s' => r = v ∧ s' = s
theorem Fn.fnV {P : Program} {f : FuncId} {vs : List AV} {v : AV} (h : Fn P f vs v) (hb : belL 0 vs = true) (hv : belA 0 v = true) (s : St) : FnV P f [] s vs v := by
  unfold FnV
  rw [List.append_nil]
  exact h.call hb hv ⟨rfl, rfl⟩
theorem FnV.go {P : Program} {f : FuncId} {c : List AV} {s : St} {vs : List AV} {v : AV} (h : FnV P f c s vs v) {Q : AV → St → Prop} (hq : Q v s) : ACalls P f ([] ++ vs ++ c) s Q :=
  (show ACalls P f ([] ++ vs ++ c) s _ from h).mono fun r s' ⟨e1, e2⟩ => by rw [e1, e2]; exact hq
/-- A call that ends so, the caller's blocks being as they were. -/
theorem ACalls.keep {P : Program} {f : FuncId} {vs : List AV} {s : St} {v : AV} (h : ACalls P f vs s fun r s' => r = v ∧ s'.take s.length = s) (hv : belA s.length v = true) (hs : ClS s) : ACalls P f vs s fun r s' => r = v ∧ s' = s :=
  ACalls.take h fun r s' ⟨h1, h2⟩ => ⟨by rw [h1]; exact hv, fun i b hi hb => hs i b (by rw [← h2, List.getElem?_take, if_pos hi]; exact hb), h1, h2⟩
/-- A function of pure data, its value told by what holds of it. -/
def FnE (P : Program) (f : FuncId) (vs : List AV) (V : AV → Prop) : Prop := ACalls P f vs [] fun v s' => V v ∧ belA 0 v = true ∧ s' = []
theorem FnE.of {P : Program} {f N : Nat} {c : Cd} {rs : List RC} {vs : List AV} {V : AV → Prop} (hf : FnOK P f N c rs) (hN : vs.length ≤ N) (h : AW P N 0 c (argT 0 vs) [] (callQ rs fun r _ => V r ∧ belA 0 r = true)) : FnE P f vs V :=
  ACalls.take (ACalls.of hf hN h) fun r s' h1 => ⟨h1.2, fun i b hi => by simp at hi, h1.1, h1.2, by simp⟩
theorem FnE.call {P : Program} {f : FuncId} {vs : List AV} {V : AV → Prop} (h : FnE P f vs V) (hb : belL 0 vs = true) {s : St} {Q : AV → St → Prop} (hq : ∀ v, V v → belA 0 v = true → Q v s) : ACalls P f vs s Q :=
  ACalls.pure h hb fun v s' ⟨h1, h2, h3⟩ => ⟨h2, h3, hq v h1 h2⟩
/-- A call's end under other names for the blocks behind the caller's. -/
theorem ACalls.ren {P : Program} {f : FuncId} {vs : List AV} {s : St} {Q Q' : AV → St → Prop} (h : ACalls P f vs s Q)
    (hq : ∀ v s', Q v s' → ∃ (r : Nat → Nat) (v' : AV) (s'' : St), (∀ i, i < s.length → r i = i) ∧ s.length ≤ s''.length ∧ (∀ i j, Alive s'' i → Alive s'' j → i ≠ j → r i ≠ r j) ∧ (belA s''.length v' = true ∧ v = renA r v') ∧
      (∀ (i : Nat) b, s''[i]? = some (some b) → belB s''.length b = true ∧ s'[r i]? = some (some (renB r b))) ∧ Q' v' s'') : ACalls P f vs s Q' := by
  intro w K β us hz hr
  refine (h w K β us hz hr).mono fun e w' ⟨v, s', K', β', u, e1, q, hz', hR, hx⟩ => ?_
  obtain ⟨r, v', s'', r1, r2, r3, ⟨r4, rfl⟩, r5, r6⟩ := hq v s' q
  have al : ∀ i, Alive s'' i → Alive s' (r i) := fun i ⟨b, hi⟩ => ⟨_, (r5 i b hi).2⟩
  refine ⟨v', s'', K', fun i => β' (r i), u, e1, r6, ⟨fun i b hi => ?_, fun i j hi hj hij => hz'.inj _ _ (al i hi) (al j hj) (r3 i j hi hj hij), fun i hi => hz'.dis _ (al i hi), hz'.kb, hz'.gl⟩, R_unren (β := β') (β' := fun i => β' (r i)) (r := r) (fun _ _ => rfl) hR r4, ?_⟩
  · exact BlkOK_unren (β := β') (β' := fun i => β' (r i)) (r := r) (fun _ _ => rfl) (hz'.blk _ _ (r5 i b hi).2) (r5 i b hi).1
  · exact { size := hx.size, io := hx.io, fix := fun i hi => by show β' (r i) = β i; rw [r1 i hi]; exact hx.fix i hi, len := r2, frame := hx.frame, kmono := hx.kmono, knew := hx.knew, onew := fun i hi => hx.onew _ (al i hi) }
end Go.Proofs.YtipanehdmhachaaGreatDoor.H

set_option linter.unusedSimpArgs false
set_option linter.unusedVariables false
set_option linter.unusedSectionVars false
namespace Go.Proofs.YtipanehdmhachaaGreatDoor.H
variable [DR]
open Go.RowKit Go.ChangeShapes Go.WideShapes
abbrev Kw (w : World) : Nat → Prop := fun b => b < w.heap.size
theorem cell?_lt {w : World} {a : Addr} {v : Value} (h : w.cell? a = some v) : a.block < w.heap.size := by
  by_cases hb : a.block < w.heap.size
  · exact hb
  · exfalso
    unfold World.cell? at h
    rw [Array.getElem?_eq_none (by omega)] at h
    simp at h
section
variable {H : Type} {enc : TypeId × Value → H} {P : Program} {w : World} {base : Nat} {spare : Nat → Bool} {held : Bool}
end
def isI (P : Program) (t : TypeId) : Bool := match P.underlying t with
  | some (.int .i64) => true
  | _ => false
def two (P : Program) (t : TypeId) : Bool := match P.underlying t with
  | some (.struct ⟨[f0, f1]⟩) => isI P f0.type && isI P f1.type && decide (f0.offset = 0 ∧ f1.offset = 1 ∧ P.cellsOf f0.type = 1 ∧ P.cellsOf f1.type = 1 ∧ P.cellsOf t = 2)
  | _ => false
section
variable {H : Type} {enc : TypeId × Value → H} {P : Program} {w : World} {base : Nat} {spare : Nat → Bool} {held : Bool}
end
end Go.Proofs.YtipanehdmhachaaGreatDoor.H

set_option linter.unusedSimpArgs false
set_option linter.unusedVariables false
set_option linter.unusedSectionVars false
namespace Go.Proofs.YtipanehdmhachaaGreatDoor.H
variable [DR]
open Go.RowKit Go.ChangeShapes Go.WideShapes
/-- What a cell holds. -/
inductive Sk where
  | int (k : IntKind) | bool | str | sl (l : List Sk)
instance : Inhabited Sk := ⟨.bool⟩
def skFs (P : Program) (g : TypeId → Option (List Sk)) : Nat → List Field → Option (List Sk)
  | _, [] => some []
  | off, f :: fs => match g f.type with
    | some l => if f.offset = off ∧ P.cellsOf f.type = l.length then (match skFs P g (off + l.length) fs with
      | some r => some (l ++ r)
      | none => none) else none
    | none => none
def skOf (P : Program) : Nat → TypeId → Option (List Sk)
  | 0, _ => none
  | n + 1, t => match P.underlying t with
    | some (.int k) => some [.int k]
    | some .bool => some [.bool]
    | some .string => some [.str]
    | some (.slice e) => match skOf P n e with
      | some l => if P.cellsOf e = l.length ∧ 0 < l.length then some [.sl l] else none
      | none => none
    | some (.struct fs) => match skFs P (skOf P n) 0 fs.toList with
      | some l => if P.cellsOf t = l.length then some l else none
      | none => none
    | _ => none
mutual
def okD : Sk → D → Prop
  | .int k, .v (.int k' z) => k' = k ∧ (Lit.int k z).wf = true
  | .bool, .v (.bool _) => True
  | .str, .v (.string s) => s.size ≤ maxLen
  | .sl l, .lst k rows => k = l.length ∧ rows.length ≤ maxLen ∧ okRs l rows
  | _, _ => False
def okDs : List Sk → List D → Prop
  | [], [] => True
  | s :: l, d :: ds => okD s d ∧ okDs l ds
  | _, _ => False
def okRs (l : List Sk) : List (List D) → Prop
  | [] => True
  | r :: rs => okDs l r ∧ okRs l rs
end
theorem okDs_len : ∀ {l : List Sk} {ds : List D}, okDs l ds → ds.length = l.length
  | [], [], _ => rfl
  | _ :: l, _ :: ds, h => by simp only [okDs] at h; simp [okDs_len h.2]
  | [], _ :: _, h => by simp [okDs] at h
  | _ :: _, [], h => by simp [okDs] at h
theorem okDs_append : ∀ {l m : List Sk} {ds es : List D}, okDs l ds → okDs m es → okDs (l ++ m) (ds ++ es)
  | [], m, [], es, _, h => h
  | s :: l, m, d :: ds, es, h, g => by
    simp only [okDs, List.cons_append] at h ⊢
    exact ⟨h.1, okDs_append h.2 g⟩
  | [], _, _ :: _, _, h, _ => by simp [okDs] at h
  | _ :: _, _, [], _, h, _ => by simp [okDs] at h
theorem okRs_iff {l : List Sk} : ∀ {rows : List (List D)}, okRs l rows ↔ ∀ r ∈ rows, okDs l r
  | [] => by simp [okRs]
  | r :: rs => by simp [okRs, okRs_iff (rows := rs)]
/-- These cells are told by these data. -/
def RCs (w : World) (ds : List D) (cs : List Value) : Prop := ds.length = cs.length ∧ ∀ (i : Nat) d u, ds[i]? = some d → cs[i]? = some u → RD w (Kw w) d u
theorem RCs_append {w : World} {ds es : List D} {cs bs : List Value} (h : RCs w ds cs) (g : RCs w es bs) : RCs w (ds ++ es) (cs ++ bs) := by
  refine ⟨by simp [h.1, g.1], fun i d u hd hu => ?_⟩
  by_cases hi : i < ds.length
  · rw [List.getElem?_append_left hi] at hd
    rw [List.getElem?_append_left (by have := h.1; omega)] at hu
    exact h.2 i d u hd hu
  · rw [List.getElem?_append_right (by omega)] at hd
    rw [List.getElem?_append_right (by have := h.1; omega), ← h.1] at hu
    exact g.2 _ d u hd hu
theorem RCs_one {w : World} {d : D} {u : Value} (h : RD w (Kw w) d u) : RCs w [d] [u] := by
  refine ⟨rfl, fun i d' u' hd hu => ?_⟩
  match i with
  | 0 => simp at hd hu; subst hd hu; exact h
  | i + 1 => simp at hd
theorem exists_list {α : Type} {p : Nat → α → Prop} : ∀ (n : Nat), (∀ i, i < n → ∃ x, p i x) → ∃ l : List α, l.length = n ∧ ∀ i x, l[i]? = some x → p i x
  | 0, _ => ⟨[], rfl, fun i x h => by simp at h⟩
  | n + 1, h => by
    obtain ⟨l, h1, h2⟩ := exists_list n fun i hi => h i (by omega)
    obtain ⟨x, hx⟩ := h n (by omega)
    refine ⟨l ++ [x], by simp [h1], fun i y hy => ?_⟩
    by_cases hi : i < l.length
    · rw [List.getElem?_append_left hi] at hy; exact h2 i y hy
    · rw [List.getElem?_append_right (by omega)] at hy
      have : i - l.length = 0 := by
        have := (List.getElem?_eq_some_iff.1 hy).1; simp at this; omega
      rw [this] at hy; simp at hy; subst hy
      rw [show i = n by omega]; exact hx
theorem map_of {α β : Type} {f : α → β} : ∀ {l : List β}, (∀ x ∈ l, ∃ a, x = f a) → ∃ m : List α, l = m.map f
  | [], _ => ⟨[], rfl⟩
  | x :: l, h => by
    obtain ⟨a, ha⟩ := h x (List.mem_cons_self ..)
    obtain ⟨m, hm⟩ := map_of (l := l) fun y hy => h y (List.mem_cons_of_mem _ hy)
    exact ⟨a :: m, by rw [ha, hm]; rfl⟩
section
variable {H : Type} {enc : TypeId × Value → H} {P : Program} {w : World} {base : Nat} {spare : Nat → Bool} {held : Bool}
theorem skFs_ok {n : Nat} {g : TypeId → Option (List Sk)} {cs : List Value} {total : Nat} (hl : cs.length = total)
    (hg : ∀ f l, g f = some l → ∀ cs x, DataW.trod enc P w base spare held n f cs = some x → ∃ ds, okDs l ds ∧ RCs w ds cs) : ∀ (fs : List Field) (off : Nat) (l : List Sk), skFs P g off fs = some l → off + l.length = total →
    (∀ f ∈ fs, ∃ x, DataW.trod enc P w base spare held n f.type ((cs.drop f.offset).take (P.cellsOf f.type)) = some x) → ∃ ds, okDs l ds ∧ RCs w ds (cs.drop off)
  | [], off, l, h, ht, _ => by
    simp only [skFs, Option.some.injEq] at h; subst h
    refine ⟨[], trivial, ?_⟩
    rw [List.drop_eq_nil_of_le (by simp at ht; omega)]
    exact ⟨rfl, fun i d u hd => by simp at hd⟩
  | f :: fs, off, l, h, ht, hf => by
    simp only [skFs] at h
    split at h
    · rename_i l1 h1
      split at h
      · rename_i ho
        split at h
        · rename_i r hr
          simp only [Option.some.injEq] at h; subst h
          simp only [List.length_append] at ht
          obtain ⟨x, hx⟩ := hf f (List.mem_cons_self ..)
          rw [ho.1, ho.2] at hx
          obtain ⟨ds, d1, d2⟩ := hg _ _ h1 _ _ hx
          obtain ⟨es, e1, e2⟩ := skFs_ok hl hg fs (off + l1.length) r hr (by omega) fun f hf' => hf f (List.mem_cons_of_mem _ hf')
          refine ⟨ds ++ es, okDs_append d1 e1, ?_⟩
          have := RCs_append d2 e2
          rw [← List.drop_drop, List.take_append_drop] at this
          exact this
        · cases h
      · cases h
    · cases h
theorem trod_D : ∀ (n : Nat) (t : TypeId) (l : List Sk) (fuel : Nat) (cs : List Value) (x : DataW H × List MemPlace), skOf P n t = some l → DataW.trod enc P w base spare held fuel t cs = some x → ∃ ds, okDs l ds ∧ RCs w ds cs
  | 0, t, l, fuel, cs, x, h, _ => by simp [skOf] at h
  | n + 1, t, l, fuel, cs, x, h, hx => by
    simp only [skOf] at h
    split at h
    · rename_i k hu
      simp only [Option.some.injEq] at h; subst h
      obtain ⟨z, rfl, _, hw⟩ := DataW.trod_int hu hx
      exact ⟨[.v (.int k z)], by simp only [okDs, okD]; exact ⟨⟨trivial, hw⟩, trivial⟩, RCs_one (by simp only [RD]; exact ⟨trivial, rfl⟩)⟩
    · rename_i hu
      simp only [Option.some.injEq] at h; subst h
      obtain ⟨b, rfl, _⟩ := DataW.trod_bool hu hx
      exact ⟨[.v (.bool b)], by simp [okDs, okD], RCs_one (by simp only [RD]; exact ⟨trivial, rfl⟩)⟩
    · rename_i hu
      simp only [Option.some.injEq] at h; subst h
      obtain ⟨s, rfl, _, hs⟩ := DataW.trod_string hu hx
      exact ⟨[.v (.string s)], by simp only [okDs, okD]; exact ⟨hs, trivial⟩, RCs_one (by simp only [RD]; exact ⟨trivial, rfl⟩)⟩
    · rename_i e hu
      split at h
      · rename_i l1 h1
        split at h
        · rename_i hc
          simp only [Option.some.injEq] at h; subst h
          rcases DataW.trod_slice hu hx with ⟨rfl, _⟩ | ⟨a, len, cap, elems, rest, n', _, rfl, _, _, hlc, hcm, hlen, hel, _, _⟩
          · exact ⟨[.lst l1.length []], by simp [okDs, okD, okRs], RCs_one (by simp only [RD]; exact ⟨none, 0, rfl, Nat.le_refl _, .inl rfl⟩)⟩
          · have each : ∀ i, i < len → ∃ ds, okDs l1 ds ∧ RCells w (Kw w) ds (a.add (i * l1.length)) := by
              intro i hi
              have h2 := hel i hi
              rw [List.getElem?_eq_getElem (by omega), Option.bind_eq_some_iff, hc.1] at h2
              obtain ⟨c, h3, h4⟩ := h2
              obtain ⟨ds, d1, d2⟩ := trod_D n e l1 n' c _ h1 h4
              obtain ⟨_, g1, g2⟩ := World.cells?_some h3
              refine ⟨ds, d1, RCells_of fun j d hd => ?_⟩
              have hj : j < c.length := by have := (List.getElem?_eq_some_iff.1 hd).1; have := d2.1; omega
              have hcell := g2 j (by omega)
              rw [List.getElem?_eq_getElem hj] at hcell
              refine ⟨?_, _, hcell, d2.2 j d _ hd (List.getElem?_eq_getElem hj)⟩
              have := cell?_lt hcell
              simp only [add_block] at this ⊢
              exact this
            obtain ⟨rows, r1, r2⟩ := exists_list len each
            refine ⟨[.lst l1.length rows], ?_, RCs_one ?_⟩
            · simp only [okDs, okD]
              exact ⟨⟨trivial, by omega, okRs_iff.2 fun r hr => by obtain ⟨i, hi⟩ := List.mem_iff_getElem?.1 hr; exact (r2 i r hi).1⟩, trivial⟩
            · simp only [RD]
              exact ⟨some a, cap, by rw [r1], by omega, .inr ⟨a, rfl, RRows_of fun i r hr => ⟨okDs_len (r2 i r hr).1, (r2 i r hr).2⟩⟩⟩
        · cases h
      · cases h
    · rename_i fs hu
      split at h
      · rename_i l1 h1
        split at h
        · rename_i hc
          simp only [Option.some.injEq] at h; subst h
          obtain ⟨xs, m, _, _, hl, hxl, hf⟩ := DataW.trod_struct hu hx
          have := skFs_ok (n := m) (cs := cs) (total := l1.length) (by rw [hl, hc]) (fun f l hg cs x hx => trod_D n f l m cs x hg hx) fs.toList 0 l1 h1 (by omega) fun f hm => by
            obtain ⟨i, hi⟩ := List.mem_iff_getElem?.1 hm
            have hi' : fs[i]? = some f := by simpa using hi
            have hlt : i < xs.length := by rw [hxl]; exact (Array.getElem?_eq_some_iff.1 hi').1
            exact ⟨xs[i], by rw [hf i f hi', List.getElem?_eq_getElem hlt]⟩
          simpa using this
        · cases h
      · cases h
    · cases h
theorem R_arg1 {t : TypeId} {s : Sk} {n : Nat} {v : Value} {d : DataW H} {p : List MemPlace} {u : Value} (hs : skOf P n t = some [s]) (hv : v.cells = #[u]) (hvu : v = u) (h : DataW.Trod enc P w base spare held t v d p) {β : Nat → Loc} :
    ∃ x, okD s x ∧ R w (Kw w) β 0 (.d x) v := by
  obtain ⟨fuel, hf⟩ := h
  obtain ⟨ds, d1, d2⟩ := trod_D n t _ fuel _ _ hs hf
  rw [hv] at d2
  match ds, d1 with
  | [x], d1 =>
    simp only [okDs] at d1
    exact ⟨x, d1.1, by simp only [R]; rw [hvu]; exact d2.2 0 x u rfl rfl⟩
theorem R_argL {t e : TypeId} {s : Sk} {n : Nat} {r : Reach} {b0 : Nat} {v : Value} {d : DataW H} {p : List MemPlace} (hu : P.underlying t = some (.slice e)) (hs : skOf P n t = some [s]) (hv : Value.okWide P w r b0 t v) (h : DataW.Trod enc P w base spare held t v d p) {β : Nat → Loc} :
    ∃ x, okD s x ∧ R w (Kw w) β 0 (.d x) v := by
  obtain ⟨a, len, cap, rfl⟩ := okWide_slice hu hv
  exact R_arg1 hs rfl rfl h
end
theorem maxLen_eq : maxLen = 9223372036854775807 := by decide
theorem okD_int {k : IntKind} {d : D} (h : okD (.int k) d) : ∃ z, d = .v (.int k z) ∧ (Lit.int k z).wf = true := by
  unfold okD at h
  split at h <;> first | (obtain ⟨rfl, h⟩ := h; exact ⟨_, rfl, h⟩) | (exfalso; simp_all; done) | (rename_i e; cases e; obtain ⟨rfl, h⟩ := h; exact ⟨_, rfl, h⟩)
theorem okD_sl {l : List Sk} {d : D} (h : okD (.sl l) d) : ∃ rows, d = .lst l.length rows ∧ rows.length ≤ 9223372036854775807 ∧ ∀ r ∈ rows, okDs l r := by
  unfold okD at h
  split at h <;> first | (rename_i e; cases e; obtain ⟨rfl, h1, h2⟩ := h; exact ⟨_, rfl, by rw [← maxLen_eq]; exact h1, okRs_iff.1 h2⟩) | (exfalso; simp_all; done)
theorem okDs_cons {s : Sk} {l : List Sk} {ds : List D} (h : okDs (s :: l) ds) : ∃ d ds', ds = d :: ds' ∧ okD s d ∧ okDs l ds' := by
  match ds, h with
  | d :: ds, h => simp only [okDs] at h; exact ⟨d, ds, rfl, h.1, h.2⟩
  | [], h => simp [okDs] at h
theorem okDs_nil {ds : List D} (h : okDs [] ds) : ds = [] := by
  match ds, h with
  | [], _ => rfl
  | d :: ds, h => simp [okDs] at h
/-- A list of ints. -/
theorem dec_ints {x : D} (h : okD (.sl [.int .i64]) x) : ∃ l : List Int, x = .lst 1 (ints l) ∧ l.length ≤ 9223372036854775807 := by
  obtain ⟨rows, rfl, hl, h⟩ := okD_sl h
  obtain ⟨l, rfl⟩ := map_of (f := fun z : Int => [dI z]) (l := rows) fun r hr => by
    obtain ⟨d, ds, rfl, h1, h2⟩ := okDs_cons (h r hr)
    obtain ⟨z, rfl, _⟩ := okD_int h1
    obtain rfl := okDs_nil h2
    exact ⟨z, rfl⟩
  exact ⟨l, rfl, by simpa using hl⟩
end Go.Proofs.YtipanehdmhachaaGreatDoor.H
