/- Chapter 26: maps whose keys are parts. -/
import Derived.Test.YtkgeadhnagnloaaHdR
set_option linter.unusedSimpArgs false
set_option linter.unusedVariables false
namespace Go.Proofs.Ytkgeadhnagnloaa.H
def encK (p : Pt) : Value := .agg #[.int .i64 p.1, .int .i64 p.2]
def KP (v : Value) : Prop := ∃ p, v = encK p
def decK : Value → Option Pt
  | .agg cs => match cs.toList with
    | [.int .i64 x, .int .i64 y] => some (x, y)
    | _ => none
  | _ => none
def eqK (a b : Value) : Bool := match decK a, decK b with
  | some p, some q => decide (p = q)
  | _, _ => false
theorem eqK_enc (p q : Pt) : eqK (encK p) (encK q) = decide (p = q) := rfl
theorem avV_encK (p : Pt) : avV (encK p) = APt p := rfl
theorem pl_encK (p : Pt) : Pl (encK p) := .inl ⟨_, rfl, by simp [Value.oneCell']⟩
theorem enc_inj {p q : Pt} (h : encK p = encK q) : p = q := by
  have := eqK_enc p q
  rw [h, eqK_enc, decide_eq_true rfl] at this
  exact (of_decide_eq_true this.symm)
theorem key_chk1 (em : Bool) (p : Pt) (w : World) (n : Nat) : (Instr.checkKey em (n + 2) 29 (encK p)).run Try.prog w = .ok () w := by
  have hu : ∃ a b, (Try.prog).underlying 29 = some (.struct #[a, b]) ∧ a.type = 3 ∧ b.type = 3 ∧ a.offset = 0 ∧ b.offset = 1 := by
    have h : (match (Try.prog).underlying 29 with | some (.struct fs) => (match fs.toList with | [a, b] => a.type == 3 && b.type == 3 && a.offset == 0 && b.offset == 1 | _ => false) | _ => false) = true := by kernel_rfl
    split at h
    · rename_i fs hfs
      split at h
      · rename_i a b he
        simp only [Bool.and_eq_true, beq_iff_eq] at h
        have hfs' : fs = #[a, b] := Array.ext' he
        exact ⟨a, b, hfs.trans (congrArg (fun x => some (TypeDesc.struct x)) hfs'), h.1.1.1, h.1.1.2, h.1.2, h.2⟩
      · cases h
    · cases h
  obtain ⟨a, b, hu, h1, h2, h3, h4⟩ := hu
  obtain ⟨k, h5⟩ : ∃ k, (Try.prog).underlying 3 = some (.int k) := by
    have h : (match (Try.prog).underlying 3 with | some (.int k) => true | _ => false) = true := by kernel_rfl
    split at h
    · rename_i k hk; exact ⟨k, hk⟩
    · cases h
  have e3 : ∀ (z : Int) (w : World), (Instr.checkKey em (n + 1) 3 (.int .i64 z)).run Try.prog w = .ok () w := fun z w => by
    rw [Instr.checkKey]
    simp only [Sem.run_bind, run_underlying h5, Result.andThen_ok, Sem.run_pure]
  have eP : ∀ (i : Nat) (z : Int) (w : World), (#[Value.int .i64 p.1, Value.int .i64 p.2] : Array Value)[i]? = some (.int .i64 z) → (Go.part 3 #[.int .i64 p.1, .int .i64 p.2] i).run Try.prog w = .ok (.int .i64 z) w := fun i z w h => by
    simp only [Go.part, isAgg, Sem.run_bind, run_underlying h5, Result.andThen_ok, Sem.run_pure, h, Bool.false_eq_true, if_false]
  rw [encK, show n + 2 = (n + 1) + 1 from rfl, Instr.checkKey]
  have p1 := eP 0 p.1 w rfl
  have p2 := eP 1 p.2 w rfl
  have q1 := e3 p.1 w
  have q2 := e3 p.2 w
  simp only [Sem.run_bind, run_underlying hu, Result.andThen_ok]
  by_cases n1 : a.name = "_" <;> by_cases n2 : b.name = "_" <;> simp [h1, h2, h3, h4, n1, n2, p1, p2, q1, q2]
theorem key_chk (em : Bool) (p : Pt) (w : World) : (Instr.checkKey em 10000 29 (encK p)).run Try.prog w = .ok () w := key_chk1 em p w 9998
theorem mapTy {T et : TypeId} {z : Value} (hT : (Try.prog).underlying T = some (.map 29 et)) (hz : ∀ w, (zeroValue et).run Try.prog w = .ok z w) : MapTy Try.prog T 29 et KP eqK z where
  map := hT
  st := by
    have h : (match (Try.prog).underlying 29 with | some (.struct _) => true | _ => false) = true := by kernel_rfl
    split at h
    · rename_i fs hu; exact ⟨fs, hu⟩
    · cases h
  eq := by
    rintro _ _ w ⟨p, rfl⟩ ⟨q, rfl⟩
    have hs : shOf Try.prog 10000 29 = some (.st [(0, none, .num), (1, none, .num)]) := by kernel_rfl
    exact eqA_ok (K := fun _ => False) (β := fun _ => ⟨0, 0, 0, 0⟩) (n := 0) (w := w) 10000 29 _ (avV (encK p)) (avV (encK q)) _ _ _ hs (by rw [avV_encK, avV_encK, eqK_enc, ← pt_eq]; simp only [RS, LS, SY, ne_eq, isFl, floatV, constA, thenQ, blockQ, pack, intA, boolA, eqA, unA, nilcA, asI, asB, asS, loadA, idxA, lenA, slcA, AV.flat, AV.one, zA1, storeA, toD, srcOf, copyA, ↓reduceIte, reduceCtorEq, List.replicate, Nat.reduceBEq, Nat.reduceAdd, Nat.reduceMul, Nat.reduceSub, Nat.reduceLeDiff, Nat.reduceLT, Int.reduceToNat, Nat.reduceEqDiff, Int.reduceEq]) (R_avV_mk (pl_encK p)) (R_avV_mk (pl_encK q)) w
  sound := by
    rintro _ _ ⟨p, rfl⟩ ⟨q, rfl⟩ h
    rw [eqK_enc] at h
    rw [of_decide_eq_true h]
  chk := by
    rintro em _ w ⟨p, rfl⟩
    exact key_chk em p w
  same := by
    rintro _ ⟨p, rfl⟩
    simp [encK, Instr.sameBits]
  zero := hz
/-- A map's entries. -/
def mpE {α : Type} (f : α → Value) (l : List (Pt × α)) : List (Value × Value) := l.map fun x => (encK x.1, f x.2)
theorem mpE_key {α : Type} {f : α → Value} {l : List (Pt × α)} : ∀ p ∈ mpE f l, KP p.1 := by
  intro p hp
  obtain ⟨x, _, rfl⟩ := List.mem_map.1 hp
  exact ⟨_, rfl⟩
def lkP {α : Type} (l : List (Pt × α)) (p : Pt) : Option α := (l.find? fun x => decide (p = x.1)).map (·.2)
theorem findV_mpE {α : Type} {f : α → Value} {p : Pt} : ∀ {l : List (Pt × α)} {i : Nat}, (findV eqK (encK p) (mpE f l) i).map (·.2) = (lkP l p).map f
  | [], i => rfl
  | x :: l, i => by
    have ih := findV_mpE (f := f) (p := p) (l := l) (i := i + 1)
    simp only [mpE, List.map_cons, findV, eqK_enc, lkP, List.find?_cons] at ih ⊢
    by_cases h : p = x.1
    · simp [h]
    · simp only [h, decide_false, cond_false]; exact ih
theorem getV_mpE {α : Type} {f : α → Value} {l : List (Pt × α)} {p : Pt} : getV eqK (mpE f l) (encK p) = (lkP l p).map f := findV_mpE
theorem lkP_none {α : Type} {l : List (Pt × α)} {p : Pt} : lkP l p = none ↔ p ∉ l.map (·.1) := by
  simp only [lkP, Option.map_eq_none_iff, List.find?_eq_none, decide_eq_true_eq, List.mem_map, not_exists, not_and]
  exact ⟨fun h x hx e => h x hx e.symm, fun h x hx e => h x hx e.symm⟩
theorem setV_new {α : Type} {f : α → Value} {l : List (Pt × α)} {p : Pt} {a : α} (h : p ∉ l.map (·.1)) : setV eqK (mpE f l) (encK p) (f a) = mpE f (l ++ [(p, a)]) := by
  have hn := lkP_none.2 h
  have := findV_mpE (f := f) (p := p) (l := l) (i := 0)
  rw [hn] at this
  unfold setV
  split
  · rename_i hf; rw [hf] at this; simp at this
  · simp [mpE]
theorem lkP_mem {α : Type} {l : List (Pt × α)} {p : Pt} {a : α} (hn : (l.map (·.1)).Nodup) (h : (p, a) ∈ l) : lkP l p = some a := by
  induction l with
  | nil => simp at h
  | cons x l ih =>
    simp only [List.map_cons, List.nodup_cons] at hn
    simp only [lkP, List.find?_cons]
    rcases List.mem_cons.1 h with rfl | h
    · simp
    · have hne : ¬ p = x.1 := fun e => hn.1 (e ▸ List.mem_map_of_mem (f := (·.1)) h)
      simp only [hne, decide_false]
      exact ih hn.2 h
theorem lkP_some {α : Type} {l : List (Pt × α)} {p : Pt} {a : α} (h : lkP l p = some a) : (p, a) ∈ l := by
  simp only [lkP, Option.map_eq_some_iff] at h
  obtain ⟨x, hx, rfl⟩ := h
  have h1 := List.find?_some hx
  simp only [decide_eq_true_eq] at h1
  rw [h1]; exact List.mem_of_find?_eq_some hx
end Go.Proofs.Ytkgeadhnagnloaa.H
