/- Regions that draw their order. -/
import Derived.Test.YtcedkkleclhglaaHaM
set_option linter.unusedSimpArgs false
set_option linter.unusedVariables false
set_option linter.unusedSectionVars false
namespace Go.Proofs.Ytcedkkleclhglaa.H

/-! ### What is asked of an order -/
def chainIn (il : List Ins) (pre : List Nat) : List Nat := pre.filter fun y => match il[y]? with | some n => !isFl n | none => false
def kindOK (an : List (List Nat)) (il : List Ins) (pre : List Nat) (x : Nat) (n : Ins) : Bool :=
  if isAl n then (List.range il.length).all fun z => !(getL an z).contains x || (chainIn il pre).all (getL an z).contains
  else (chainIn il pre).all (getL an x).contains
def ordOK (an : List (List Nat)) (il : List Ins) : List Nat → List Nat → Bool
  | _, [] => true
  | pre, x :: r => (match il[x]? with
      | some n => !pre.contains x && (getL an x).all pre.contains && kindOK an il pre x n
      | none => false) && ordOK an il (pre ++ [x]) r
def tmpOK (an : List (List Nat)) (il : List Ins) : Bool := (List.range il.length).all fun x => match il[x]? with
  | some n => match n.d with
    | some d => (List.range il.length).all fun z => z == x || match il[z]? with
      | some k => if isFl n || isAl n then k.d != some d && (!k.reads.contains d || (getL an z).contains x)
        else (k.d != some d && !k.reads.contains d) || (getL an z).contains x || (getL an x).contains z
      | none => true
    | none => true
  | none => true
def ancOK (an : List (List Nat)) (ops : List Oper) : Bool := (List.range ops.length).all fun i => match ops[i]? with
  | some o => (bnds o).all (fun e => decide (e < i) && (getL an i).contains e) && (getL an i).all fun j => decide (j < i) && ((getL an j).all (getL an i).contains && (bnds o).any fun e => j == e || (getL an e).contains j)
  | none => true
def stOf (an : List (List Nat)) (il : List Ins) (pre : List Nat) (x : Nat) : List Ins :=
  (pre.filter fun y => !(getL an x).contains y).filterMap fun y => match il[y]? with
    | some n => if isFl n && usesS n then some n else none
    | none => none
def mkD (an : List (List Nat)) (il : List Ins) : List Nat → List Nat → List DI
  | _, [] => []
  | pre, x :: r => match il[x]? with
    | some n => ⟨x, n, if isFl n then [] else stOf an il pre x⟩ :: mkD an il (pre ++ [x]) r
    | none => []
def selfOK (il : List Ins) : Bool := il.all fun n => !isFl n || match n.d with | some d => !n.reads.contains d | none => true
def compD (P : Program) (N : Nat) (ops : Array Oper) : Option (List DI) := match insL P N ops ops.toList with
  | some il =>
    let an := ancsOf [] (ops.toList.map bnds)
    let or := orderOf an il il.length []
    if (List.range il.length).all or.contains = true ∧ selfOK il = true ∧ ordOK an il [] or = true ∧ tmpOK an il = true ∧ ancOK an ops.toList = true ∧ P.follows .mixedOrders = true then some (mkD an il [] or) else none
  | none => none

theorem tget_filter (f : Nat → Bool) (x : Nat) : ∀ T : Tm, tget (T.filter fun q => f q.1) x = if f x then tget T x else none
  | [] => by simp [tget]
  | (j, v) :: T => by
    have ih := tget_filter f x T
    by_cases hj : f j = true
    · rw [List.filter_cons_of_pos (by simpa using hj)]
      simp only [tget, ih]
      by_cases h : j = x
      · subst h; simp [hj]
      · simp [beqN h]
    · rw [List.filter_cons_of_neg (by simpa using hj)]
      simp only [tget, ih]
      by_cases h : j = x
      · subst h; simp [hj]
      · simp [beqN h]
section
variable {an : List (List Nat)} {il : List Ins}
/-- What the checks say. -/
structure Ord (an : List (List Nat)) (il : List Ins) (pi : List Nat) : Prop where
  nd : pi.Nodup
  mem : ∀ x ∈ pi, ∃ n, il[x]? = some n
  anc : ∀ p x, pi[p]? = some x → ∀ y ∈ getL an x, y ∈ pi.take p
  kind : ∀ p x n, pi[p]? = some x → il[x]? = some n → isAl n = false → ∀ y k, y ∈ pi.take p → il[y]? = some k → isFl k = false → y ∈ getL an x
  al : ∀ p x n, pi[p]? = some x → il[x]? = some n → isAl n = true → ∀ z, x ∈ getL an z → z < il.length → ∀ y k, y ∈ pi.take p → il[y]? = some k → isFl k = false → y ∈ getL an z
theorem mem_chainIn {pre : List Nat} {y : Nat} {k : Ins} (hy : y ∈ pre) (hk : il[y]? = some k) (hf : isFl k = false) : y ∈ chainIn il pre := by
  unfold chainIn
  rw [List.mem_filter]
  exact ⟨hy, by simp [hk, hf]⟩
theorem ordOK_ord : ∀ {r pre : List Nat}, ordOK an il pre r = true → pre.Nodup → (pre ++ r).Nodup ∧ (∀ x ∈ r, ∃ n, il[x]? = some n) ∧
    (∀ p x, r[p]? = some x → ∀ y ∈ getL an x, y ∈ pre ++ r.take p) ∧
    (∀ p x n, r[p]? = some x → il[x]? = some n → isAl n = false → ∀ y k, y ∈ pre ++ r.take p → il[y]? = some k → isFl k = false → y ∈ getL an x) ∧
    (∀ p x n, r[p]? = some x → il[x]? = some n → isAl n = true → ∀ z, x ∈ getL an z → z < il.length → ∀ y k, y ∈ pre ++ r.take p → il[y]? = some k → isFl k = false → y ∈ getL an z)
  | [], pre, h, hn => ⟨by simpa using hn, by simp, by simp, by simp, by simp⟩
  | x :: r, pre, h, hn => by
    simp only [ordOK, Bool.and_eq_true] at h
    obtain ⟨h1, h2⟩ := h
    split at h1
    · rename_i n hx
      simp only [Bool.and_eq_true, Bool.not_eq_true', List.all_eq_true] at h1
      obtain ⟨⟨a1, a2⟩, a3⟩ := h1
      have hnp : x ∉ pre := by simpa using a1
      have hn' : (pre ++ [x]).Nodup := by
        rw [List.nodup_append]
        exact ⟨hn, by simp, fun a ha b hb => by simp at hb; subst hb; exact fun e => hnp (e ▸ ha)⟩
      obtain ⟨q1, q2, q3, q4, q5⟩ := ordOK_ord h2 hn'
      have app : ∀ p, (pre ++ [x]) ++ r.take p = pre ++ (x :: r).take (p + 1) := fun p => by simp
      refine ⟨by simpa using q1, ?_, ?_, ?_, ?_⟩
      · intro y hy
        rcases List.mem_cons.1 hy with rfl | hy
        · exact ⟨n, hx⟩
        · exact q2 y hy
      · intro p y hy
        cases p with
        | zero => simp at hy; subst hy; intro z hz; simpa using a2 z hz
        | succ p => rw [← app]; exact q3 p y (by simpa using hy)
      · intro p y k hy
        cases p with
        | zero =>
          simp at hy; subst hy
          intro hk ha z kz hz hkz hf
          rw [hx] at hk; cases hk
          unfold kindOK at a3
          rw [if_neg (by rw [ha]; simp)] at a3
          have := List.all_eq_true.1 a3 z (mem_chainIn (by simpa using hz) hkz hf)
          simpa using this
        | succ p => rw [← app]; exact q4 p y k (by simpa using hy)
      · intro p y k hy
        cases p with
        | zero =>
          simp at hy; subst hy
          intro hk ha z hxz hzl u ku hu hku hf
          rw [hx] at hk; cases hk
          unfold kindOK at a3
          rw [if_pos ha] at a3
          have := List.all_eq_true.1 a3 z (List.mem_range.2 hzl)
          rw [show (getL an z).contains x = true by simpa using hxz] at this
          have h9 : ∀ x ∈ chainIn il pre, x ∈ getL an z := by simpa using this
          exact h9 u (mem_chainIn (by simpa using hu) hku hf)
        | succ p => rw [← app]; exact q5 p y k (by simpa using hy)
    · cases h1
theorem Ord.of {pi : List Nat} (h : ordOK an il [] pi = true) : Ord an il pi := by
  obtain ⟨q1, q2, q3, q4, q5⟩ := ordOK_ord h (by simp)
  exact ⟨by simpa using q1, q2, by simpa using q3, by simpa using q4, by simpa using q5⟩
theorem tmpOK_get (h : tmpOK an il = true) {x z : Nat} {n k : Ins} (hx : il[x]? = some n) (hz : il[z]? = some k) (hne : z ≠ x) {d : Nat} (hd : n.d = some d) :
    ((isFl n = true ∨ isAl n = true) → k.d ≠ some d ∧ (d ∈ k.reads → x ∈ getL an z)) ∧ (k.d = some d ∨ d ∈ k.reads → x ∈ getL an z ∨ z ∈ getL an x) := by
  have hxl := (List.getElem?_eq_some_iff.1 hx).1
  have hzl := (List.getElem?_eq_some_iff.1 hz).1
  have := List.all_eq_true.1 h x (List.mem_range.2 hxl)
  simp only [hx, hd] at this
  have := List.all_eq_true.1 this z (List.mem_range.2 hzl)
  simp only [hz, beq_eq_false_iff_ne.2 hne, Bool.false_or] at this
  split at this
  · simp only [Bool.and_eq_true, bne_iff_ne, ne_eq, Bool.or_eq_true, Bool.not_eq_true', List.contains_iff_mem, ← Bool.not_eq_true] at this
    refine ⟨fun _ => ⟨this.1, fun hr => this.2.resolve_left fun hn => hn hr⟩, fun h => ?_⟩
    rcases h with h | h
    · exact absurd h this.1
    · exact .inl (this.2.resolve_left fun hn => hn h)
  · rename_i hk
    simp only [Bool.or_eq_true, Bool.and_eq_true, bne_iff_ne, ne_eq, Bool.not_eq_true', List.contains_iff_mem, ← Bool.not_eq_true] at this hk
    refine ⟨fun h => absurd h (by simpa using hk), fun h => ?_⟩
    rcases this with (⟨t1, t2⟩ | t) | t
    · rcases h with h | h
      · exact absurd h t1
      · exact absurd h t2
    · exact .inl t
    · exact .inr t
theorem ancOK_get {ops : List Oper} (h : ancOK an ops = true) {i : Nat} {o : Oper} (ho : ops[i]? = some o) : (∀ e ∈ bnds o, e < i ∧ e ∈ getL an i) ∧ ∀ j ∈ getL an i, j < i ∧ (∀ e ∈ getL an j, e ∈ getL an i) ∧ ∃ e ∈ bnds o, j = e ∨ j ∈ getL an e := by
  have hl := (List.getElem?_eq_some_iff.1 ho).1
  have := List.all_eq_true.1 h i (List.mem_range.2 hl)
  simp only [ho, Bool.and_eq_true, List.all_eq_true, decide_eq_true_eq, List.contains_iff_mem, List.any_eq_true, Bool.or_eq_true, beq_iff_eq] at this
  exact ⟨fun e he => this.1 e he, fun j hj => this.2 j hj⟩
theorem mkD_get : ∀ {r pre : List Nat}, (∀ x ∈ r, ∃ n, il[x]? = some n) → (mkD an il pre r).length = r.length ∧ ∀ (p : Nat) x n, r[p]? = some x → il[x]? = some n → (mkD an il pre r)[p]? = some ⟨x, n, if isFl n then [] else stOf an il (pre ++ r.take p) x⟩
  | [], pre, h => ⟨rfl, by simp⟩
  | x :: r, pre, h => by
    obtain ⟨n, hn⟩ := h x (List.mem_cons_self ..)
    obtain ⟨q1, q2⟩ := mkD_get (r := r) (pre := pre ++ [x]) fun y hy => h y (List.mem_cons_of_mem _ hy)
    simp only [mkD, hn]
    refine ⟨by simp [q1], fun p y k hy hk => ?_⟩
    cases p with
    | zero => simp at hy; subst hy; rw [hn] at hk; cases hk; simp
    | succ p =>
      have := q2 p y k (by simpa using hy) hk
      simpa using this
end

/-! ### The invariant -/
def lsd (l : Array Bool) (i : Nat) : Bool := l.getD i false
/-- A float that has been reckoned with, but not yet carried out, would still make the same. -/
def Replay (n : Ins) (T : Tm) (s : St) : Prop :=
  (gate T n.g = some true ∧ ∃ C v, floatV s T n = some (C, v) ∧ C ∧ ∀ d, n.d = some d → tget T d = some v) ∨ (gate T n.g = some false ∧ ∀ d, n.d = some d → tget T d = some (.tup []))
theorem Replay.congr {n : Ins} {T T' : Tm} {s s' : St} (h : Replay n T s) (h1 : ∀ t ∈ n.reads, tget T' t = tget T t) (h2 : ∀ d, n.d = some d → tget T' d = tget T d) (h3 : floatV s' T n = floatV s T n) : Replay n T' s' := by
  rcases h with ⟨a, C, v, b, c, d⟩ | ⟨a, d⟩
  · exact .inl ⟨by rw [gate_congr h1]; exact a, C, v, by rw [floatV_congr h1, h3]; exact b, c, fun x hx => by rw [h2 x hx]; exact d x hx⟩
  · exact .inr ⟨by rw [gate_congr h1]; exact a, fun x hx => by rw [h2 x hx]; exact d x hx⟩
/-- A temporary holds what the walk says: those who write it have been carried out just if they have been reckoned with. -/
def vis (il : List Ins) (done : List Nat) (L : Nat → Bool) (t : Nat) : Bool := (List.range il.length).all fun i => match il[i]? with
  | some n => n.d != some t || (done.contains i == L i)
  | none => true
theorem vis_iff {il : List Ins} {done : List Nat} {L : Nat → Bool} {t : Nat} : vis il done L t = true ↔ ∀ i n, il[i]? = some n → n.d = some t → (i ∈ done ↔ L i = true) := by
  unfold vis
  rw [List.all_eq_true]
  constructor
  · intro h i n hi hd
    have := h i (List.mem_range.2 (List.getElem?_eq_some_iff.1 hi).1)
    simp only [hi, hd, bne_self_eq_false, Bool.false_or, beq_iff_eq] at this
    rw [← this]; simp
  · intro h i hi
    cases hn : il[i]? with
    | none => rfl
    | some n =>
      simp only
      by_cases hd : n.d = some t
      · have := h i n hn hd
        simp only [hd, bne_self_eq_false, Bool.false_or, beq_iff_eq]
        rw [Bool.eq_iff_iff]; simpa using this
      · simp [hd]
structure Early (P : Program) (w0 w : World) (K : Nat → Prop) (β : Nat → Loc) (s : St) (a : Act) (n : Ins) (b : Nat) : Prop where
  ex : ∃ d o t k c z sl, n = .k (some d) none o ∧ alOf o = some (t, k, c, z, sl) ∧ zeroOf P t = some z ∧ z.length = k ∧ a.tmps[d]? = some (alU b c sl) ∧ w.heap[b]? = some (.cells ((List.replicate c z).flatten).toArray t (0, 0))
  nk : ¬ K b
  no : ∀ j, Alive s j → (β j).b ≠ b
  new : w0.heap.size ≤ b
structure DInv (P : Program) (N m : Nat) (il : List Ins) (an : List (List Nat)) (pi : List Nat) (w0 : World) (K0 : Nat → Prop) (β0 : Nat → Loc) (s0 : St) (p : Nat) (L : Nat → Bool) (T : Tm) (s : St) (w : World) (K : Nat → Prop) (β : Nat → Loc) (a : Act) (bl : Nat → Nat) : Prop where
  down : ∀ i j, L i = true → j ∈ getL an i → L j = true
  lt : ∀ i, L i = true → i < il.length
  done : ∀ i n, i ∈ pi.take p → il[i]? = some n → isFl n = false → L i = true
  lst : ∀ i n, L i = true → il[i]? = some n → isAl n = false → i ∈ pi.take p
  early : ∀ i n, L i = true → i ∉ pi.take p → il[i]? = some n → Early P w0 w K β s a n (bl i)
  einj : ∀ i j, L i = true → L j = true → i ∉ pi.take p → j ∉ pi.take p → i ≠ j → bl i ≠ bl j
  cz : Cz w K β s
  sz : a.tmps.size = N
  df : a.defers = []
  ext : Ext m w0 K0 β0 s0 w K β s
  rt : RT w K β s.length (T.filter fun q => vis il (pi.take p) L q.1) a
  pend : ∀ i n, i ∈ pi.take p → il[i]? = some n → isFl n = true → L i = false → Replay n T s
end Go.Proofs.Ytcedkkleclhglaa.H
