/- Calls: what is kept of a call's end; functions that read from a source of numbers. -/
import Derived.Test.YtcedkkleclhglaaHxA
set_option linter.unusedSimpArgs false
set_option linter.unusedVariables false
set_option linter.unusedSectionVars false
namespace Go.Proofs.Ytcedkkleclhglaa.H

mutual
theorem renA_id : ∀ v : AV, renA id v = v
  | .d _ | .ful .. | .elm .. | .ptr .. | .own .. | .osl .. | .mp _ => rfl
  | .agg l => by simp only [renA, renL_id l]
  | .tup l => by simp only [renA, renL_id l]
  | .fn f a c => by simp only [renA, renL_id a, renL_id c]
theorem renL_id : ∀ l : List AV, renL id l = l
  | [] => rfl
  | v :: l => by simp only [renL, renA_id v, renL_id l]
end
theorem renB_id (b : Blk) : renB id b = b := by
  cases b with
  | cells T k rows => simp only [renB]; rw [show rows.map (renL id) = rows from by rw [List.map_congr_left (g := fun x => x) fun l _ => renL_id l]; simp]
mutual
theorem belA_mono {m n : Nat} (h : m ≤ n) : ∀ {v : AV}, belA m v = true → belA n v = true
  | .d _, _ | .ful .., _ | .elm .., _ => rfl
  | .ptr .., hv | .own .., hv | .osl .., hv | .mp _, hv => by simp only [belA, decide_eq_true_eq] at hv ⊢; omega
  | .agg l, hv => by simp only [belA] at hv ⊢; exact belL_mono h hv
  | .tup l, hv => by simp only [belA] at hv ⊢; exact belL_mono h hv
  | .fn f a c, hv => by
    simp only [belA, Bool.and_eq_true] at hv ⊢
    exact ⟨belL_mono h hv.1, belL_mono h hv.2⟩
theorem belL_mono {m n : Nat} (h : m ≤ n) : ∀ {l : List AV}, belL m l = true → belL n l = true
  | [], _ => rfl
  | v :: l, hv => by
    simp only [belL, Bool.and_eq_true] at hv ⊢
    exact ⟨belA_mono h hv.1, belL_mono h hv.2⟩
end
/-- What is made behind the caller's blocks is forgotten. -/
theorem ACalls.take {P : Program} {f : FuncId} {vs : List AV} {s : St} {Q Q' : AV → St → Prop} (h : ACalls P f vs s Q)
    (hq : ∀ v s', Q v s' → belA s.length v = true ∧ (∀ (i : Nat) b, i < s.length → s'[i]? = some (some b) → belB s.length b = true) ∧ Q' v (s'.take s.length)) : ACalls P f vs s Q' := by
  intro w K β us hz hr
  refine (h w K β us hz hr).mono fun e w' ⟨v, s', K', β', u, e1, q, hz', hR, hx⟩ => ?_
  obtain ⟨h1, h2, h3⟩ := hq v s' q
  have hl : (s'.take s.length).length = s.length := by rw [List.length_take]; have := hx.len; omega
  have get : ∀ {i b}, (s'.take s.length)[i]? = some (some b) → i < s.length ∧ s'[i]? = some (some b) := fun {i b} h => by
    rw [List.getElem?_take] at h
    split at h
    · exact ⟨by assumption, h⟩
    · cases h
  refine ⟨v, s'.take s.length, K', β', u, e1, h3, ⟨fun i b hb => ?_, fun i j ⟨b, hi⟩ ⟨c, hj⟩ => hz'.inj i j ⟨b, (get hi).2⟩ ⟨c, (get hj).2⟩, fun i ⟨b, hi⟩ => hz'.dis i ⟨b, (get hi).2⟩, hz'.kb⟩, ?_, ?_⟩
  · obtain ⟨g1, g2⟩ := get hb
    have := hz'.blk i b g2
    rw [hl]
    exact BlkOK_unren (r := id) (fun _ _ => rfl) (by rw [renB_id]; exact this) (h2 i b g1 g2)
  · rw [hl]
    exact R_unren (r := id) (fun _ _ => rfl) (by rw [renA_id]; exact hR) h1
  · exact { size := hx.size, io := hx.io, fix := hx.fix, len := by omega, frame := hx.frame, kmono := hx.kmono, knew := hx.knew, onew := fun i ⟨b, hi⟩ => hx.onew i ⟨b, (get hi).2⟩ }
/-- A block is given up to lists at the call's end. -/
theorem ACalls.freeze {P : Program} {f : FuncId} {vs : List AV} {s : St} {Q Q' : AV → St → Prop} (h : ACalls P f vs s Q)
    (hq : ∀ v s', Q v s' → Q' v s' ∨ ∃ id t k rows, s'[id]? = some (some (.cells t k (rowsA rows))) ∧ fitA id rows.length v ∧ Q' (frzA id k rows v) (s'.set id none)) : ACalls P f vs s Q' := by
  intro w K β us hz hr
  refine (h w K β us hz hr).mono fun e w' ⟨v, s', K', β', u, e1, q, hz', hR, hx⟩ => ?_
  rcases hq v s' q with hq | ⟨id, t, k, rows, hid, hfit, hq⟩
  · exact ⟨v, s', K', β', u, e1, hq, hz', hR, hx⟩
  have hal : Alive s' id := ⟨_, hid⟩
  let K1 : Nat → Prop := fun b => K' b ∨ b = (β' id).b
  have hK : Stays w' K' w' K1 := ⟨fun _ h => .inl h, fun _ _ => rfl⟩
  have hF : FrzH w' K1 β' id k rows := .of hz' hid hK (.inr rfl)
  have get : ∀ {i b}, (s'.set id none)[i]? = some (some b) → i ≠ id ∧ s'[i]? = some (some b) := fun {i b} h => by
    rw [List.getElem?_set] at h
    split at h
    · split at h <;> simp at h
    · rename_i e; exact ⟨fun e' => e e'.symm, h⟩
  refine ⟨frzA id k rows v, s'.set id none, K1, β', u, e1, hq, ?_, by rw [List.length_set]; exact R_frz hK hF hR hfit, ?_⟩
  · refine ⟨fun i b hi => ?_, fun i j ⟨b, hi⟩ ⟨c, hj⟩ => hz'.inj i j ⟨b, (get hi).2⟩ ⟨c, (get hj).2⟩, fun i ⟨b, hi⟩ hk => ?_, fun b hb => ?_⟩
    · rw [List.length_set]; exact hz'.old hK (Nat.le_refl _) (fun _ _ => rfl) (get hi).2 rfl
    · rcases hk with hk | hk
      · exact hz'.dis i ⟨b, (get hi).2⟩ hk
      · exact hz'.inj i id ⟨b, (get hi).2⟩ hal (get hi).1 hk
    · rcases hb with hb | hb
      · exact hz'.kb b hb
      · rw [hb]; exact hz'.lt hal
  · exact { size := hx.size, io := hx.io, fix := hx.fix, len := by rw [List.length_set]; exact hx.len, frame := hx.frame, kmono := fun b hb => .inl (hx.kmono b hb)
            knew := fun b hb => by
              rcases hb with hb | hb
              · exact hx.knew b hb
              · rcases hx.onew id hal with h | ⟨j, h1, h2⟩
                · exact .inr (.inl (by rw [hb]; exact h))
                · exact .inr (.inr ⟨j, h1, h2.trans hb.symm⟩)
            onew := fun i ⟨b, hi⟩ => hx.onew i ⟨b, (get hi).2⟩ }

/-! ### Sources of numbers -/
abbrev SrcS (T : Nat) (L : List Int) (p : Nat) : Option Blk := some (.cells T 2 [[LI L, AI .i64 p]])
/-- A method of a source: its value is data of a sort, and the source stays the same but for the place in it. -/
def SFn (P : Program) (T : Nat) (L : List Int) (f : FuncId) (vc : List AV) (V : AV → Prop) : Prop :=
  ∀ p, p ≤ L.length → ACalls P f (.ptr 0 0 0 :: vc) [SrcS T L p] fun v s' => ∃ p', p' ≤ L.length ∧ V v ∧ belA 0 v = true ∧ s' = [SrcS T L p']
theorem given1 {T p i : Nat} {L : List Int} {s : St} {vc : List AV} (hi : s[i]? = some (SrcS T L p)) (hb : belL 0 vc = true) : Given [i] s (.ptr i 0 0 :: vc) [SrcS T L p] (.ptr 0 0 0 :: vc) := by
  have hlt : i < s.length := (List.getElem?_eq_some_iff.1 hi).1
  refine ⟨rfl, by simpa using hlt, by simp, fun j b hj => ?_, ?_, ?_⟩
  · match j with
    | 0 =>
      simp only [List.getElem?_cons_zero, Option.some.injEq] at hj; subst hj
      exact ⟨rfl, by simpa [renB, renL, renA] using hi⟩
    | j + 1 => simp at hj
  · simp only [belL, belA, List.length_singleton, Bool.and_eq_true]
    refine ⟨rfl, ?_⟩
    rw [belL_iff] at hb ⊢
    exact fun v hv => belA_mono (Nat.zero_le _) (hb v hv)
  · simp only [renL, renA, renL_bel0 _ hb, nmR]; simp
theorem back1 {T p i : Nat} {L : List Int} {s : St} (hi : i < s.length) : backS [i] s [SrcS T L p] = s.set i (SrcS T L p) := by
  unfold backS
  simp only [List.length_singleton, List.drop_one, List.tail_cons, List.map_nil, List.append_nil]
  refine List.ext_getElem? fun j => ?_
  rw [List.getElem?_map, List.getElem?_set]
  by_cases hj : j < s.length
  · rw [List.getElem?_range hj]
    by_cases e : i = j
    · subst e
      have : [i].idxOf? i = some 0 := by simp [List.idxOf?, List.findIdx?_cons]
      simp [this, hi, renB, renL, renA]
    · have : [i].idxOf? j = none := by simp [List.idxOf?_eq_none_iff]; exact fun h => e (h ▸ rfl)
      simp [this, e, hj]
  · rw [List.getElem?_eq_none (by simp; omega)]
    by_cases e : i = j
    · omega
    · simp [e]; omega
theorem SFn.call {P : Program} {T : Nat} {L : List Int} {f : FuncId} {vc : List AV} {V : AV → Prop} (h : SFn P T L f vc V) {s : St} {i p : Nat} (hi : s[i]? = some (SrcS T L p)) (hb : belL 0 vc = true) (hp : p ≤ L.length) {Q : AV → St → Prop}
    (hq : ∀ v p', p' ≤ L.length → V v → belA 0 v = true → Q v (s.set i (SrcS T L p'))) : ACalls P f (.ptr i 0 0 :: vc) s Q :=
  ACalls.frame (h p hp) (given1 hi hb) fun v s' ⟨p', h1, h2, h3, h4⟩ => by
    subst h4
    rw [renA_bel0 _ h3, back1 (List.getElem?_eq_some_iff.1 hi).1]
    exact hq v p' h1 h2 h3
/-- What a method's code must come to: its value is data, or gets so if a block is given up. -/
def SEnd (T : Nat) (L : List Int) (V : AV → Prop) (v : AV) (s' : St) : Prop :=
  ∃ p', p' ≤ L.length ∧ s'[0]? = some (SrcS T L p') ∧ ((V v ∧ belA 0 v = true) ∨ ∃ id t k rows, id ≠ 0 ∧ s'[id]? = some (some (.cells t k (rowsA rows))) ∧ fitA id rows.length v ∧ V (frzA id k rows v) ∧ belA 0 (frzA id k rows v) = true)
theorem SFn.of {P : Program} {T : Nat} {L : List Int} {f : FuncId} {vc : List AV} {V : AV → Prop} {N : Nat} {c : Cd} {rs : List RC} (hf : FnOK P f N c rs) (hN : vc.length + 1 ≤ N)
    (h : ∀ p, p ≤ L.length → AW P N 1 c (argT 0 (.ptr 0 0 0 :: vc)) [SrcS T L p] (callQ rs (SEnd T L V))) : SFn P T L f vc V := by
  intro p hp
  have h1 := ACalls.of hf (vs := .ptr 0 0 0 :: vc) (s := [SrcS T L p]) (Q := SEnd T L V) (by simpa using hN) (h p hp)
  have h2 : ACalls P f (.ptr 0 0 0 :: vc) [SrcS T L p] fun v s' => ∃ p', p' ≤ L.length ∧ s'[0]? = some (SrcS T L p') ∧ V v ∧ belA 0 v = true :=
    ACalls.freeze h1 fun v s' ⟨p', g1, g2, g3⟩ => by
      rcases g3 with g3 | ⟨id, t, k, rows, e1, e2, e3, e4, e5⟩
      · exact .inl ⟨p', g1, g2, g3⟩
      · exact .inr ⟨id, t, k, rows, e2, e3, p', g1, by rw [List.getElem?_set]; simp [e1, g2], e4, e5⟩
  refine ACalls.take h2 fun v s' ⟨p', g1, g2, g3, g4⟩ => ⟨belA_mono (Nat.zero_le _) g4, fun i b hi hb => ?_, p', g1, g3, g4, ?_⟩
  · have : i = 0 := by simp at hi; omega
    subst this
    rw [g2] at hb
    simp only [Option.some.injEq] at hb; subst hb; rfl
  · cases s' with
    | nil => simp at g2
    | cons x l => simp at g2; simp [g2]
theorem SFn.mono {P : Program} {T : Nat} {L : List Int} {f : FuncId} {vc : List AV} {V V' : AV → Prop} (h : SFn P T L f vc V) (hv : ∀ v, V v → V' v) : SFn P T L f vc V' :=
  fun p hp => (h p hp).mono fun v s' ⟨p', h1, h2, h3⟩ => ⟨p', h1, hv v h2, h3⟩
/-! ### One step after the other: for 'simp', which is not to look into what comes later -/
/-- A call, and what comes behind it in a region. -/
def CallI (P : Program) (f : FuncId) (vs : List AV) (s : St) (d : Option Nat) (T : Tm) (l : List Ins) (Q : Tm → St → Prop) : Prop := ACalls P f vs s fun v s' => RunI P l (tput d v T) s' Q
def CallD (P : Program) (f : FuncId) (vs : List AV) (s : St) (d : Option Nat) (T : Tm) (st : List Ins) (l : List DI) (Q : Tm → St → Prop) : Prop := ACalls P f vs s fun v s' => allP (fun g => floatV s' T g = floatV s T g) st ∧ RunD P l (tput d v T) s' Q
def isCall : KO → Bool
  | .call .. => true
  | .callv .. => true
  | .bslice .. => false
  | .asg .. => false
  | .mkz .. => false
  | .alloc .. => false
  | .box .. => false
  | .store .. => false
  | .mkslice .. => false
  | .append .. => false
  | .copy .. => false
section
variable {P : Program} {T : Tm} {s : St} {Q : Tm → St → Prop} {d : Option Nat} {g : Nat × Bool} {l : List Ins} {m : List DI} {i : Nat} {st : List Ins}
theorem rI_nil : RunI P [] T s Q = Q T s := rfl
theorem rI_f {o : FO} : RunI P (.f d none o :: l) T s Q = match evF s T o with
    | some (C, v) => C ∧ RunI P l (tput d v T) s Q
    | none => False := rfl
/-- A step behind a guard: not looked into until its test is known. -/
def GI (c c' : Prop) (P : Program) (n : Ins) (d : Option Nat) (l : List Ins) (T : Tm) (s : St) (Q : Tm → St → Prop) : Prop := (c → RunI P (n :: l) T s Q) ∧ (c' → RunI P l (tput d (.tup []) T) s Q) ∧ (c ∨ c')
theorem GI_t {P : Program} {n : Ins} {d : Option Nat} {l : List Ins} {T : Tm} {s : St} {Q : Tm → St → Prop} : GI True False P n d l T s Q = RunI P (n :: l) T s Q := by simp [GI]
theorem GI_f {P : Program} {n : Ins} {d : Option Nat} {l : List Ins} {T : Tm} {s : St} {Q : Tm → St → Prop} : GI False True P n d l T s Q = RunI P l (tput d (.tup []) T) s Q := by simp [GI]
theorem GI.of {c c' : Prop} {P : Program} {n : Ins} {d : Option Nat} {l : List Ins} {T : Tm} {s : St} {Q : Tm → St → Prop} (h : c → RunI P (n :: l) T s Q) (g : c' → RunI P l (tput d (.tup []) T) s Q) (e : c ∨ c') : GI c c' P n d l T s Q := ⟨h, g, e⟩
def GD (c c' : Prop) (P : Program) (n : DI) (d : Option Nat) (l : List DI) (T : Tm) (s : St) (Q : Tm → St → Prop) : Prop := (c → RunD P (n :: l) T s Q) ∧ (c' → RunD P l (tput d (.tup []) T) s Q) ∧ (c ∨ c')
theorem GD_t {P : Program} {n : DI} {d : Option Nat} {l : List DI} {T : Tm} {s : St} {Q : Tm → St → Prop} : GD True False P n d l T s Q = RunD P (n :: l) T s Q := by simp [GD]
theorem GD_f {P : Program} {n : DI} {d : Option Nat} {l : List DI} {T : Tm} {s : St} {Q : Tm → St → Prop} : GD False True P n d l T s Q = RunD P l (tput d (.tup []) T) s Q := by simp [GD]
theorem GD.of {c c' : Prop} {P : Program} {n : DI} {d : Option Nat} {l : List DI} {T : Tm} {s : St} {Q : Tm → St → Prop} (h : c → RunD P (n :: l) T s Q) (g : c' → RunD P l (tput d (.tup []) T) s Q) (e : c ∨ c') : GD c c' P n d l T s Q := ⟨h, g, e⟩
theorem gate_GI {A B : Prop} : ∀ {x : Option Bool}, (match x with | some true => A | some false => B | none => False) = ((x = some true → A) ∧ (x = some false → B) ∧ (x = some true ∨ x = some false))
  | none => by simp
  | some true => by simp
  | some false => by simp
theorem gate_if {A B : Prop} : ∀ {x : Option Bool}, (match x with | some true => A | some false => B | none => False) = if x = some true then A else if x = some false then B else False
  | none => by simp
  | some true => by simp
  | some false => by simp
theorem rI_fg {o : FO} : RunI P (.f d (some g) o :: l) T s Q = GI (gate T (some g) = some true) (gate T (some g) = some false) P (.f d none o) d l T s Q := by
  unfold GI; rw [← gate_GI]; rfl
theorem rI_kg {o : KO} : RunI P (.k d (some g) o :: l) T s Q = GI (gate T (some g) = some true) (gate T (some g) = some false) P (.k d none o) d l T s Q := by
  unfold GI; rw [← gate_GI]; rfl
theorem rI_call {f : FuncId} {as : List Operand} : RunI P (.k d none (.call f as) :: l) T s Q = match opdL T as with
    | some vs => CallI P f vs s d T l Q
    | none => False := rfl
theorem rI_callv {x : Operand} {as : List Operand} : RunI P (.k d none (.callv x as) :: l) T s Q = match opd T x, opdL T as with
    | some (.fn f a c), some vs => BodyOK P f = true ∧ CallI P f (a ++ vs ++ c) s d T l Q
    | _, _ => False := rfl
theorem rI_k {o : KO} (h : isCall o = false) : RunI P (.k d none o :: l) T s Q = match evK s T o with
    | some (C, v, s') => C ∧ RunI P l (tput d v T) s' Q
    | none => False := by
  cases o <;> first | rfl | cases h
theorem rD_nil : RunD P [] T s Q = Q T s := rfl
theorem rD_f {o : FO} : RunD P (⟨i, .f d none o, st⟩ :: m) T s Q = match evF s T o with
    | some (C, v) => C ∧ RunD P m (tput d v T) s Q
    | none => False := rfl
theorem rD_fg {o : FO} : RunD P (⟨i, .f d (some g) o, st⟩ :: m) T s Q = GD (gate T (some g) = some true) (gate T (some g) = some false) P ⟨i, .f d none o, st⟩ d m T s Q := by
  unfold GD; rw [← gate_GI]; rfl
theorem rD_kg {o : KO} : RunD P (⟨i, .k d (some g) o, st⟩ :: m) T s Q = GD (gate T (some g) = some true) (gate T (some g) = some false) P ⟨i, .k d none o, st⟩ d m T s Q := by
  unfold GD; rw [← gate_GI]
  have e : gate T none = some true := rfl
  simp only [RunD, StepD, Ins.g, Ins.d, e]
  cases gate T (some g) with
  | none => rfl
  | some b => cases b <;> (cases o <;> rfl)
theorem rD_call {f : FuncId} {as : List Operand} : RunD P (⟨i, .k d none (.call f as), st⟩ :: m) T s Q = match opdL T as with
    | some vs => CallD P f vs s d T st m Q
    | none => False := rfl
theorem rD_callv {x : Operand} {as : List Operand} : RunD P (⟨i, .k d none (.callv x as), st⟩ :: m) T s Q = match opd T x, opdL T as with
    | some (.fn f a c), some vs => BodyOK P f = true ∧ CallD P f (a ++ vs ++ c) s d T st m Q
    | _, _ => False := rfl
theorem rD_bs {t k n : Nat} {z : List Value} {ps : List (Nat × Nat × Operand)} : RunD P (⟨i, .k d none (.bslice t k n z ps), st⟩ :: m) T s Q = match floatV s T (.k d none (.bslice t k n z ps)) with
    | some (C, v) => C ∧ RunD P m (tput d v T) s Q
    | none => False := rfl
def isBs : KO → Bool
  | .bslice .. => true
  | .call .. => false
  | .callv .. => false
  | .asg .. => false
  | .mkz .. => false
  | .alloc .. => false
  | .box .. => false
  | .store .. => false
  | .mkslice .. => false
  | .append .. => false
  | .copy .. => false
theorem rD_k {o : KO} (h : isCall o = false) (h' : isBs o = false) : RunD P (⟨i, .k d none o, []⟩ :: m) T s Q = match evK s T o with
    | some (C, v, s') => C ∧ RunD P m (tput d v T) s' Q
    | none => False := by
  have key : RunD P (⟨i, .k d none o, []⟩ :: m) T s Q = match evK s T o with
    | some (C, v, s') => C ∧ True ∧ RunD P m (tput d v T) s' Q
    | none => False := by
    cases o <;> first | rfl | (simp [isCall] at h; done) | (simp [isBs] at h'; done)
  rw [key]
  cases evK s T o with
  | none => rfl
  | some x => simp only [true_and]
theorem rD_ks {o : KO} {x : Ins} (h : isCall o = false) (h' : isBs o = false) : RunD P (⟨i, .k d none o, x :: st⟩ :: m) T s Q = match evK s T o with
    | some (C, v, s') => C ∧ allP (fun g => floatV s' T g = floatV s T g) (x :: st) ∧ RunD P m (tput d v T) s' Q
    | none => False := by
  cases o <;> first | rfl | (simp [isCall] at h; done) | (simp [isBs] at h'; done)
end
section
variable {P : Program} {T : Tm} {s : St} {Q : Tm → St → Prop} {d : Option Nat} {l : List Ins} {m : List DI} {i : Nat} {st : List Ins} {x : Ins}
theorem rI_asg {a0} : RunI P (.k d none (.asg a0) :: l) T s Q = match evK s T (.asg a0) with
    | some (C, v, s') => C ∧ RunI P l (tput d v T) s' Q
    | none => False := rI_k rfl
theorem rD_asg {a0} : RunD P (⟨i, .k d none (.asg a0), []⟩ :: m) T s Q = match evK s T (.asg a0) with
    | some (C, v, s') => C ∧ RunD P m (tput d v T) s' Q
    | none => False := rD_k rfl rfl
theorem rDs_asg {a0} : RunD P (⟨i, .k d none (.asg a0), x :: st⟩ :: m) T s Q = match evK s T (.asg a0) with
    | some (C, v, s') => C ∧ allP (fun g => floatV s' T g = floatV s T g) (x :: st) ∧ RunD P m (tput d v T) s' Q
    | none => False := rD_ks rfl rfl
theorem rI_mkz {a0 a1 a2 a3} : RunI P (.k d none (.mkz a0 a1 a2 a3) :: l) T s Q = match evK s T (.mkz a0 a1 a2 a3) with
    | some (C, v, s') => C ∧ RunI P l (tput d v T) s' Q
    | none => False := rI_k rfl
theorem rD_mkz {a0 a1 a2 a3} : RunD P (⟨i, .k d none (.mkz a0 a1 a2 a3), []⟩ :: m) T s Q = match evK s T (.mkz a0 a1 a2 a3) with
    | some (C, v, s') => C ∧ RunD P m (tput d v T) s' Q
    | none => False := rD_k rfl rfl
theorem rDs_mkz {a0 a1 a2 a3} : RunD P (⟨i, .k d none (.mkz a0 a1 a2 a3), x :: st⟩ :: m) T s Q = match evK s T (.mkz a0 a1 a2 a3) with
    | some (C, v, s') => C ∧ allP (fun g => floatV s' T g = floatV s T g) (x :: st) ∧ RunD P m (tput d v T) s' Q
    | none => False := rD_ks rfl rfl
theorem rI_alloc {a0 a1} : RunI P (.k d none (.alloc a0 a1) :: l) T s Q = match evK s T (.alloc a0 a1) with
    | some (C, v, s') => C ∧ RunI P l (tput d v T) s' Q
    | none => False := rI_k rfl
theorem rD_alloc {a0 a1} : RunD P (⟨i, .k d none (.alloc a0 a1), []⟩ :: m) T s Q = match evK s T (.alloc a0 a1) with
    | some (C, v, s') => C ∧ RunD P m (tput d v T) s' Q
    | none => False := rD_k rfl rfl
theorem rDs_alloc {a0 a1} : RunD P (⟨i, .k d none (.alloc a0 a1), x :: st⟩ :: m) T s Q = match evK s T (.alloc a0 a1) with
    | some (C, v, s') => C ∧ allP (fun g => floatV s' T g = floatV s T g) (x :: st) ∧ RunD P m (tput d v T) s' Q
    | none => False := rD_ks rfl rfl
theorem rI_box {a0 a1 a2} : RunI P (.k d none (.box a0 a1 a2) :: l) T s Q = match evK s T (.box a0 a1 a2) with
    | some (C, v, s') => C ∧ RunI P l (tput d v T) s' Q
    | none => False := rI_k rfl
theorem rD_box {a0 a1 a2} : RunD P (⟨i, .k d none (.box a0 a1 a2), []⟩ :: m) T s Q = match evK s T (.box a0 a1 a2) with
    | some (C, v, s') => C ∧ RunD P m (tput d v T) s' Q
    | none => False := rD_k rfl rfl
theorem rDs_box {a0 a1 a2} : RunD P (⟨i, .k d none (.box a0 a1 a2), x :: st⟩ :: m) T s Q = match evK s T (.box a0 a1 a2) with
    | some (C, v, s') => C ∧ allP (fun g => floatV s' T g = floatV s T g) (x :: st) ∧ RunD P m (tput d v T) s' Q
    | none => False := rD_ks rfl rfl
theorem rI_store {a0 a1 a2} : RunI P (.k d none (.store a0 a1 a2) :: l) T s Q = match evK s T (.store a0 a1 a2) with
    | some (C, v, s') => C ∧ RunI P l (tput d v T) s' Q
    | none => False := rI_k rfl
theorem rD_store {a0 a1 a2} : RunD P (⟨i, .k d none (.store a0 a1 a2), []⟩ :: m) T s Q = match evK s T (.store a0 a1 a2) with
    | some (C, v, s') => C ∧ RunD P m (tput d v T) s' Q
    | none => False := rD_k rfl rfl
theorem rDs_store {a0 a1 a2} : RunD P (⟨i, .k d none (.store a0 a1 a2), x :: st⟩ :: m) T s Q = match evK s T (.store a0 a1 a2) with
    | some (C, v, s') => C ∧ allP (fun g => floatV s' T g = floatV s T g) (x :: st) ∧ RunD P m (tput d v T) s' Q
    | none => False := rD_ks rfl rfl
theorem rI_mkslice {a0 a1 a2 a3 a4 a5} : RunI P (.k d none (.mkslice a0 a1 a2 a3 a4 a5) :: l) T s Q = match evK s T (.mkslice a0 a1 a2 a3 a4 a5) with
    | some (C, v, s') => C ∧ RunI P l (tput d v T) s' Q
    | none => False := rI_k rfl
theorem rD_mkslice {a0 a1 a2 a3 a4 a5} : RunD P (⟨i, .k d none (.mkslice a0 a1 a2 a3 a4 a5), []⟩ :: m) T s Q = match evK s T (.mkslice a0 a1 a2 a3 a4 a5) with
    | some (C, v, s') => C ∧ RunD P m (tput d v T) s' Q
    | none => False := rD_k rfl rfl
theorem rDs_mkslice {a0 a1 a2 a3 a4 a5} : RunD P (⟨i, .k d none (.mkslice a0 a1 a2 a3 a4 a5), x :: st⟩ :: m) T s Q = match evK s T (.mkslice a0 a1 a2 a3 a4 a5) with
    | some (C, v, s') => C ∧ allP (fun g => floatV s' T g = floatV s T g) (x :: st) ∧ RunD P m (tput d v T) s' Q
    | none => False := rD_ks rfl rfl
theorem rI_append {a0 a1 a2 a3 a4} : RunI P (.k d none (.append a0 a1 a2 a3 a4) :: l) T s Q = match evK s T (.append a0 a1 a2 a3 a4) with
    | some (C, v, s') => C ∧ RunI P l (tput d v T) s' Q
    | none => False := rI_k rfl
theorem rD_append {a0 a1 a2 a3 a4} : RunD P (⟨i, .k d none (.append a0 a1 a2 a3 a4), []⟩ :: m) T s Q = match evK s T (.append a0 a1 a2 a3 a4) with
    | some (C, v, s') => C ∧ RunD P m (tput d v T) s' Q
    | none => False := rD_k rfl rfl
theorem rDs_append {a0 a1 a2 a3 a4} : RunD P (⟨i, .k d none (.append a0 a1 a2 a3 a4), x :: st⟩ :: m) T s Q = match evK s T (.append a0 a1 a2 a3 a4) with
    | some (C, v, s') => C ∧ allP (fun g => floatV s' T g = floatV s T g) (x :: st) ∧ RunD P m (tput d v T) s' Q
    | none => False := rD_ks rfl rfl
theorem rI_copy {a0 a1 a2} : RunI P (.k d none (.copy a0 a1 a2) :: l) T s Q = match evK s T (.copy a0 a1 a2) with
    | some (C, v, s') => C ∧ RunI P l (tput d v T) s' Q
    | none => False := rI_k rfl
theorem rD_copy {a0 a1 a2} : RunD P (⟨i, .k d none (.copy a0 a1 a2), []⟩ :: m) T s Q = match evK s T (.copy a0 a1 a2) with
    | some (C, v, s') => C ∧ RunD P m (tput d v T) s' Q
    | none => False := rD_k rfl rfl
theorem rDs_copy {a0 a1 a2} : RunD P (⟨i, .k d none (.copy a0 a1 a2), x :: st⟩ :: m) T s Q = match evK s T (.copy a0 a1 a2) with
    | some (C, v, s') => C ∧ allP (fun g => floatV s' T g = floatV s T g) (x :: st) ∧ RunD P m (tput d v T) s' Q
    | none => False := rD_ks rfl rfl
theorem rI_bslice {a0 a1 a2 a3 a4} : RunI P (.k d none (.bslice a0 a1 a2 a3 a4) :: l) T s Q = match evK s T (.bslice a0 a1 a2 a3 a4) with
    | some (C, v, s') => C ∧ RunI P l (tput d v T) s' Q
    | none => False := rI_k rfl
end
theorem rowsA_nil : rowsA [] = [] := rfl
theorem rowsA_cons {r : List D} {l : List (List D)} : rowsA (r :: l) = r.map .d :: rowsA l := rfl
theorem rowsA_len (rows : List (List D)) : (rowsA rows).length = rows.length := by simp [rowsA]
theorem rowsA_take (rows : List (List D)) {n : Nat} (h : n = rows.length) : (rowsA rows).take n = rowsA rows := by rw [h, ← rowsA_len rows, List.take_length]
theorem rowsA_snoc (rows : List (List D)) (r : List D) : rowsA (rows ++ [r]) = rowsA rows ++ [r.map .d] := by simp [rowsA]
theorem take_rowsA (n : Nat) (rows : List (List D)) : (rowsA rows).take n = rowsA (rows.take n) := by simp [rowsA, List.map_take]
theorem AW_congr {P : Program} {N m : Nat} {c : Cd} {T T' : Tm} {s s' : St} {Q : Fl → Tm → St → Prop} (h1 : T = T') (h2 : s = s') : AW P N m c T s Q = AW P N m c T' s' Q := by rw [h1, h2]
attribute [congr] AW_congr
def isLoop : Cd → Bool
  | .loop _ => true
  | _ => false
theorem AW.blockS {P : Program} {N m : Nat} {T : Tm} {s : St} {Q : Fl → Tm → St → Prop} {id : Nat} {c : Cd} (hc : isLoop c = false) (h : AW P N m c T s (blockQ id Q)) : AW P N m (.block id c) T s Q := AW.block h
theorem AW.condT {P : Program} {N m : Nat} {T : Tm} {s : St} {Q : Fl → Tm → St → Prop} {x : Operand} {c d : Cd} (hx : opd T x = some (AB true)) (h : AW P N m c T s Q) : AW P N m (.cond x c d) T s Q :=
  AW.cond hx rfl (fun _ => h) fun h => by cases h
theorem AW.condF {P : Program} {N m : Nat} {T : Tm} {s : St} {Q : Fl → Tm → St → Prop} {x : Operand} {c d : Cd} (hx : opd T x = some (AB false)) (h : AW P N m d T s Q) : AW P N m (.cond x c d) T s Q :=
  AW.cond hx rfl (fun h => by cases h) fun _ => h
theorem AW.condP {P : Program} {N m : Nat} {T : Tm} {s : St} {Q : Fl → Tm → St → Prop} {x : Operand} {c d : Cd} {b : Bool} (hx : opd T x = some (AB b)) (h1 : b = true → AW P N m c T s Q) (h2 : ¬ b = true → AW P N m d T s Q) : AW P N m (.cond x c d) T s Q :=
  AW.cond hx rfl h1 fun h => h2 (by simp [h])
set_option linter.defProp false in
/-- The steps, in one name. -/
def RS := And.intro @GI_t (And.intro @GI_f (And.intro @GD_t (And.intro @GD_f (And.intro @rI_nil (And.intro @rI_f (And.intro @rI_fg (And.intro @rI_kg (And.intro @rI_call (And.intro @rI_callv (And.intro @rD_nil (And.intro @rD_f (And.intro @rD_fg (And.intro @rD_kg (And.intro @rD_call (And.intro @rD_callv (And.intro @rD_bs (And.intro @rI_asg (And.intro @rD_asg (And.intro @rDs_asg (And.intro @rI_mkz (And.intro @rD_mkz (And.intro @rDs_mkz (And.intro @rI_alloc (And.intro @rD_alloc (And.intro @rDs_alloc (And.intro @rI_box (And.intro @rD_box (And.intro @rDs_box (And.intro @rI_store (And.intro @rD_store (And.intro @rDs_store (And.intro @rI_mkslice (And.intro @rD_mkslice (And.intro @rDs_mkslice (And.intro @rI_append (And.intro @rD_append (And.intro @rDs_append (And.intro @rI_copy (And.intro @rD_copy (And.intro @rDs_copy (@rI_bslice)))))))))))))))))))))))))))))))))))))))))
set_option linter.defProp false in
/-- Plain steps of lists and numbers, in one name. -/
def LS := And.intro @rowsA_len (And.intro @take_rowsA (And.intro @List.take_length.{0} (And.intro @beq_self_eq_true.{0} (And.intro @cond_true.{1} (And.intro @cond_false.{1} (And.intro @true_and (And.intro @and_true (And.intro @List.length_cons.{0} (And.intro @List.length_nil.{0} (And.intro @List.length_map.{0, 0} (And.intro @List.length_append.{0} (And.intro @List.length_singleton.{0} (And.intro @List.getElem?_cons_zero.{0} (And.intro @List.getElem?_cons_succ.{0} (And.intro @List.getElem?_nil.{0} (And.intro @List.set_cons_zero.{0} (And.intro @List.set_cons_succ.{0} (And.intro @List.getD_cons_zero.{0} (And.intro @List.getD_cons_succ.{0} (And.intro @List.cons_append.{0} (And.intro @List.nil_append.{0} (And.intro @List.map_cons.{0, 0} (And.intro @List.map_nil.{0, 0} (And.intro @List.all_cons.{0} (And.intro @List.all_nil.{0} (And.intro @List.flatten_cons.{0} (And.intro @List.flatten_nil.{0} (And.intro @List.append_nil.{0} (And.intro @List.take_succ_cons.{0} (And.intro @List.take_zero.{0} (And.intro @List.drop_succ_cons.{0} (And.intro @List.drop_zero.{0} (And.intro @List.take_nil.{0} (And.intro @List.drop_nil.{0} (And.intro @Bool.and_true (And.intro @Bool.true_and (And.intro @Bool.and_false (And.intro @Bool.false_and (And.intro @Bool.not_true (And.intro @Bool.not_false (And.intro @beq_true (And.intro @beq_false (And.intro @Option.getD_some.{0} (And.intro @Option.getD_none.{0} (And.intro @Int.toNat_natCast (And.intro @Nat.zero_add (And.intro @Nat.add_zero (And.intro @Nat.zero_mul (And.intro @Nat.mul_one (And.intro @Nat.mul_zero (And.intro @List.range_succ (And.intro @List.range_zero (And.intro @Option.map_some.{0, 0} (And.intro @Option.bind_some.{0, 0} (And.intro @Option.some.injEq.{0} (And.intro @true_or (And.intro @or_true (And.intro @rowsA_nil (And.intro @rowsA_cons (And.intro @and_self (And.intro @not_false_eq_true (And.intro @decide_true (@decide_false)))))))))))))))))))))))))))))))))))))))))))))))))))))))))))))))
end Go.Proofs.Ytcedkkleclhglaa.H
