/- What an operation looks at. -/
import Derived.Test.YtcedkkleclhglaaHaL
set_option linter.unusedSimpArgs false
set_option linter.unusedVariables false
set_option linter.unusedSectionVars false
namespace Go.Proofs.Ytcedkkleclhglaa.H

def fOps : FO → List Operand
  | .mv x | .un _ x | .conv _ x | .nilc x | .field _ _ x | .extract _ x | .faddr _ x | .len x | .lens x | .load _ x | .slca _ _ x => [x]
  | .pick c a b => [c, a, b]
  | .bin _ x y | .binb _ x y | .bins _ x y | .shf _ x y | .eql _ _ x y | .iaddr _ _ x y | .idx _ _ _ x y | .sidx x y => [x, y]
  | .build _ ps => ps.map (·.2.2)
  | .mkfn _ a c => a ++ c
  | .mm _ l => l
  | .slc _ x lo hi mx => x :: (lo.toList ++ (hi.toList ++ mx.toList))
  | .slcs x lo hi => x :: (lo.toList ++ hi.toList)
def kOps : KO → List Operand
  | .alloc _ _ => []
  | .asg x => [x]
  | .mkz .. => []
  | .box _ _ x => [x]
  | .store _ x v => [x, v]
  | .bslice _ _ _ _ ps => ps.map (·.2.2)
  | .mkslice _ _ _ _ l c => [l, c]
  | .append _ _ _ x y => [x, y]
  | .copy _ x y => [x, y]
  | .call _ as => as
  | .callv x as => x :: as
def tmps : List Operand → List Nat
  | [] => []
  | .tmp t :: l => t :: tmps l
  | _ :: l => tmps l
/-- The temporaries at which it looks. -/
def Ins.reads : Ins → List Nat
  | .f _ g o => (g.toList.map (·.1)) ++ tmps (fOps o)
  | .k _ g o => (g.toList.map (·.1)) ++ tmps (kOps o)
theorem mem_tmps {t : Nat} : ∀ {l : List Operand}, Operand.tmp t ∈ l → t ∈ tmps l
  | x :: l, h => by
    rcases List.mem_cons.1 h with rfl | h
    · exact List.mem_cons_self ..
    · have := mem_tmps h
      cases x <;> simp [tmps, this]
section
variable {T T' : Tm}
theorem opd_congr {l : List Operand} (h : ∀ t ∈ tmps l, tget T t = tget T' t) {x : Operand} (hx : x ∈ l) : opd T x = opd T' x := by
  cases x with
  | tmp t => exact h t (mem_tmps hx)
  | _ => rfl
theorem opdL_congr : ∀ {l : List Operand}, (∀ x ∈ l, opd T x = opd T' x) → opdL T l = opdL T' l
  | [], _ => rfl
  | x :: l, h => by simp only [opdL, h x (List.mem_cons_self ..), opdL_congr fun y hy => h y (List.mem_cons_of_mem _ hy)]
theorem opdP_congr : ∀ {l : List (Nat × Nat × Operand)}, (∀ x ∈ l.map (·.2.2), opd T x = opd T' x) → opdP T l = opdP T' l
  | [], _ => rfl
  | (o, z, x) :: l, h => by
    simp only [opdP, h x (by simp), opdP_congr fun y hy => h y (by simp at hy ⊢; exact .inr hy)]
theorem optI_congr {x : Option Operand} (h : ∀ y ∈ x.toList, opd T y = opd T' y) : optI T x = optI T' x := by
  cases x with
  | none => rfl
  | some y => simp only [optI, h y (by simp)]
theorem evF_congr {s : St} {o : FO} (h : ∀ x ∈ fOps o, opd T x = opd T' x) : evF s T o = evF s T' o := by
  cases o <;> simp only [fOps] at h <;> simp only [evF]
  case build z ps => rw [opdP_congr h]
  case mkfn f a c => rw [opdL_congr fun x hx => h x (List.mem_append_left _ hx), opdL_congr fun x hx => h x (List.mem_append_right _ hx)]
  case mm mx l => rw [opdL_congr h]
  case slc sz x lo hi mx =>
    rw [h x (by simp), optI_congr fun y hy => h y (by simp only [List.mem_cons, List.mem_append]; exact .inr (.inl hy)), optI_congr fun y hy => h y (by simp only [List.mem_cons, List.mem_append]; exact .inr (.inr (.inl hy))),
      optI_congr fun y hy => h y (by simp only [List.mem_cons, List.mem_append]; exact .inr (.inr (.inr hy)))]
  case slcs x lo hi =>
    rw [h x (by simp), optI_congr fun y hy => h y (by simp only [List.mem_cons, List.mem_append]; exact .inr (.inl hy)), optI_congr fun y hy => h y (by simp only [List.mem_cons, List.mem_append]; exact .inr (.inr hy))]
  case pick c x y => rw [h c (by simp), h x (by simp), h y (by simp)]
  case bin op x y => rw [h x (by simp), h y (by simp)]
  case binb op x y => rw [h x (by simp), h y (by simp)]
  case bins op x y => rw [h x (by simp), h y (by simp)]
  case shf op x y => rw [h x (by simp), h y (by simp)]
  case eql n sh x y => rw [h x (by simp), h y (by simp)]
  case iaddr sz arr x y => rw [h x (by simp), h y (by simp)]
  case idx sz rd n x y => rw [h x (by simp), h y (by simp)]
  case sidx x y => rw [h x (by simp), h y (by simp)]
  all_goals rw [h _ (List.mem_singleton.2 rfl)]
theorem evK_congr {s : St} {o : KO} (h : ∀ x ∈ kOps o, opd T x = opd T' x) : evK s T o = evK s T' o := by
  cases o <;> simp only [kOps] at h <;> simp only [evK]
  case box t n x => rw [h x (by simp)]
  case asg x => rw [h x (by simp)]
  case store n x v => rw [h x (by simp), h v (by simp)]
  case bslice t k n z ps => rw [opdP_congr h]
  case mkslice t k b z l c => rw [h l (by simp), h c (by simp)]
  case append t k b x y => rw [h x (by simp), h y (by simp)]
  case copy k x y => rw [h x (by simp), h y (by simp)]
theorem stepV_congr {P : Program} {s : St} {i : Ins} {k : AV → St → Prop} (h : ∀ t ∈ i.reads, tget T t = tget T' t) (hs : StepV P T s i k) : StepV P T' s i k := by
  cases i with
  | f d g o =>
    have e := evF_congr (T := T) (T' := T') (s := s) (o := o) fun x hx => opd_congr (fun t ht => h t (List.mem_append_right _ ht)) hx
    simp only [StepV] at hs ⊢
    rw [← e]; exact hs
  | k d g o =>
    have h' : ∀ x ∈ kOps o, opd T x = opd T' x := fun x hx => opd_congr (fun t ht => h t (List.mem_append_right _ ht)) hx
    have e := evK_congr (s := s) h'
    cases o with
    | call f as =>
      simp only [StepV] at hs ⊢
      have e2 : opdL T as = opdL T' as := opdL_congr fun x hx => h' x hx
      rw [← e2]; exact hs
    | callv x as =>
      simp only [StepV] at hs ⊢
      have e2 : opdL T as = opdL T' as := opdL_congr fun x hx => h' x (List.mem_cons_of_mem _ hx)
      rw [← e2, ← h' x (List.mem_cons_self ..)]; exact hs
    | _ =>
      simp only [StepV] at hs ⊢
      rw [← e]; exact hs
theorem gate_congr {i : Ins} (h : ∀ t ∈ i.reads, tget T t = tget T' t) : gate T i.g = gate T' i.g := by
  have : ∀ p ∈ i.g.toList, tget T p.1 = tget T' p.1 := fun p hp => h p.1 (by
    cases i <;> simp only [Ins.reads, Ins.g] at hp ⊢ <;> exact List.mem_append_left _ (List.mem_map_of_mem hp))
  cases hg : i.g with
  | none => rfl
  | some p => simp only [gate, this p (by simp [hg])]
end
/-! ### Floats -/
/-- What a float makes: an operation that changes no memory, or a literal of a slice. -/
def floatV (s : St) (T : Tm) : Ins → PA
  | .f _ _ o => evF s T o
  | .k _ _ (.bslice t k n z ps) => match opdP T ps with
    | some l => match fillA ((List.replicate n (zeroA z)).flatten) l with
      | some cs => match toDs cs with
        | some ds => some (True, .ful k (chunk k n ds))
        | none => none
      | none => none
    | none => none
  | _ => none
def isFl : Ins → Bool
  | .f .. => true
  | .k _ _ (.bslice ..) => true
  | _ => false
/-- A new block of zeros: its type, an element's cells, how many elements, an element's zeros, whether a slice of it is made. -/
def alOf : KO → Option (Nat × Nat × Nat × List Value × Bool)
  | .alloc t z => some (t, z.length, 1, z, false)
  | .mkz t k n z => some (t, k, n, z, true)
  | _ => none
def alV (l n : Nat) (sl : Bool) : AV := if sl then .own l 0 n else .ptr l 0 0
def alU (b n : Nat) (sl : Bool) : Value := if sl then .slice (some ⟨b, 0, none⟩) n n else .pointer (some ⟨b, 0, none⟩)
theorem evK_al {o : KO} {t k n : Nat} {z : List Value} {sl : Bool} (h : alOf o = some (t, k, n, z, sl)) (s : St) (T : Tm) : evK s T o = some (True, alV s.length n sl, s ++ [some (.cells t k (List.replicate n (zeroA z)))]) := by
  cases o <;> simp only [alOf, Option.some.injEq, Prod.mk.injEq, reduceCtorEq] at h <;> obtain ⟨rfl, rfl, rfl, rfl, rfl⟩ := h <;> simp [evK, alV]
theorem stepV_al {P : Program} {o : KO} {t k n : Nat} {z : List Value} {sl : Bool} (h : alOf o = some (t, k, n, z, sl)) {T : Tm} {s : St} {d : Option Nat} {g : Option (Nat × Bool)} {K : AV → St → Prop} (hs : StepV P T s (.k d g o) K) :
    K (alV s.length n sl) (s ++ [some (.cells t k (List.replicate n (zeroA z)))]) := by
  have e := evK_al h s T
  cases o <;> simp only [alOf, reduceCtorEq] at h <;> (simp only [StepV, e] at hs; exact hs.2)
def isAl : Ins → Bool
  | .k (some _) none o => (alOf o).isSome
  | _ => false
/-- It looks at our own blocks. -/
def usesS : Ins → Bool
  | .f _ _ (.load ..) => true
  | .f _ _ (.iaddr _ none _ _) => true
  | .f _ _ (.slc ..) => true
  | _ => false
theorem floatV_pure {i : Ins} (h : usesS i = false) (s s' : St) (T : Tm) : floatV s T i = floatV s' T i := by
  cases i with
  | f d g o =>
    cases o with
    | iaddr sz arr x y =>
      cases arr with
      | none => cases h
      | some n =>
        simp only [floatV, evF]
        split
        · simp only [iaddrA]
        · rfl
    | load => cases h
    | slc => cases h
    | _ => rfl
  | k d g o => cases o <;> rfl
theorem floatV_congr {s : St} {T T' : Tm} {i : Ins} (h : ∀ t ∈ i.reads, tget T t = tget T' t) : floatV s T i = floatV s T' i := by
  cases i with
  | f d g o => exact evF_congr fun x hx => opd_congr (fun t ht => h t (List.mem_append_right _ ht)) hx
  | k d g o =>
    cases o with
    | bslice t k n z ps =>
      simp only [floatV]
      rw [opdP_congr fun x hx => opd_congr (fun t ht => h t (List.mem_append_right _ ht)) hx]
    | _ => rfl
/-- The same, as a step: of a float only its value counts. -/
theorem float_stepV {P : Program} {s : St} {T : Tm} {i : Ins} {C : Prop} {v : AV} (h : floatV s T i = some (C, v)) (hC : C) {k : AV → St → Prop} (hk : k v s) : StepV P T s i k := by
  cases i with
  | f d g o =>
    simp only [floatV] at h
    simp only [StepV, h]
    exact ⟨hC, hk⟩
  | k d g o =>
    cases o with
    | bslice t k' n z ps =>
      simp only [floatV] at h
      split at h
      · rename_i l hl
        split at h
        · rename_i cs hf
          split at h
          · rename_i ds hd
            simp only [Option.some.injEq, Prod.mk.injEq] at h; obtain ⟨rfl, rfl⟩ := h
            simp only [StepV, evK, hl, bsliceA, hf, hd]
            exact ⟨trivial, hk⟩
          · cases h
        · cases h
      · cases h
    | _ => cases h
/-! ### The order -/
structure DI where
  i : Nat
  n : Ins
  st : List Ins
def allP {α : Type} (p : α → Prop) : List α → Prop
  | [] => True
  | a :: l => p a ∧ allP p l
theorem allP_mem {α : Type} {p : α → Prop} : ∀ {l : List α} {x : α}, allP p l → x ∈ l → p x
  | a :: l, x, h, hx => by
    rcases List.mem_cons.1 hx with rfl | hx
    · exact h.1
    · exact allP_mem h.2 hx
/-- A step of a region that draws its order: a float must have a value that does not lie in a block of our own that it lays; behind others the floats that look at memory must be as they were. -/
def StepD (P : Program) (T : Tm) (s : St) (x : DI) (k : Tm → St → Prop) : Prop := match gate T x.n.g with
  | some true => if isFl x.n then match floatV s T x.n with
      | some (C, v) => C ∧ k (tput x.n.d v T) s
      | none => False
    else StepV P T s x.n fun v s' => allP (fun f => floatV s' T f = floatV s T f) x.st ∧ k (tput x.n.d v T) s'
  | some false => k (tput x.n.d (.tup []) T) s
  | none => False
def RunD (P : Program) : List DI → Tm → St → (Tm → St → Prop) → Prop
  | [], T, s, Q => Q T s
  | x :: l, T, s, Q => StepD P T s x fun T' s' => RunD P l T' s' Q

def bnds (o : Oper) : List Nat := (o.after.toList.filter fun e => Region.binds .any e).map (·.on)
def insA (l : List Nat) (x : Nat) : List Nat := if l.contains x then l else x :: l
def ancsOf : List (List Nat) → List (List Nat) → List (List Nat)
  | acc, [] => acc
  | acc, d :: ds => ancsOf (acc ++ [d.foldl (fun l e => (acc.getD e []).foldl insA (insA l e)) []]) ds
def getL (an : List (List Nat)) (i : Nat) : List Nat := an.getD i []
/-- The order: floats as soon as they can be; a new block only where the next operation waits for it. -/
def pickNext (an : List (List Nat)) (il : List Ins) (done : List Nat) : Option Nat :=
  let rdy := fun i => !done.contains i && (getL an i).all done.contains
  let idx := List.range il.length
  match idx.find? fun i => rdy i && (match il[i]? with | some n => isFl n | none => false) with
  | some i => some i
  | none => match idx.find? fun i => rdy i && (match il[i]? with | some n => !isAl n | none => false) with
    | some i => some i
    | none => idx.find? rdy
def orderOf (an : List (List Nat)) (il : List Ins) : Nat → List Nat → List Nat
  | 0, done => done.reverse
  | m + 1, done => match pickNext an il done with
    | some i => orderOf an il m (i :: done)
    | none => done.reverse
end Go.Proofs.Ytcedkkleclhglaa.H
