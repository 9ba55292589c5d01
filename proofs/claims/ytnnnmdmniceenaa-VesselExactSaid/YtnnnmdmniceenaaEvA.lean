/- Terms over integers, intervals of what they denote, and tests: plain, no program in sight. -/
import GoSem.Core.Value
import GoSem.Core.Lib
import Derived.IntWalk
set_option linter.unusedSimpArgs false
set_option linter.unusedVariables false
namespace Go.Proofs.Ytnnnmdmniceenaa.Ev

/-- Integer terms. -/
inductive E where
  | lit (z : Int) | v (i : Nat) | add (a b : E) | sub (a b : E) | mul (a b : E) | quo (a b : E) | rem (a b : E)
  | mx (a b : E) | mn (a b : E) | sw (i : E) (k : Int) (a b : E) | wr (k : IntKind) (a : E)

def den (ρ : List Int) : E → Int
  | .lit z => z
  | .v i => ρ.getD i 0
  | .add a b => den ρ a + den ρ b
  | .sub a b => den ρ a - den ρ b
  | .mul a b => den ρ a * den ρ b
  | .quo a b => (den ρ a).tdiv (den ρ b)
  | .rem a b => (den ρ a).tmod (den ρ b)
  | .mx a b => if den ρ a < den ρ b then den ρ b else den ρ a
  | .mn a b => if den ρ b < den ρ a then den ρ b else den ρ a
  | .sw i k a b => if den ρ i = k then den ρ a else den ρ b
  | .wr k a => k.wrap (den ρ a)

def IntKind.num : IntKind → Nat
  | .i8 => 0 | .i16 => 1 | .i32 => 2 | .i64 => 3 | .u8 => 4 | .u16 => 5 | .u32 => 6 | .u64 => 7
theorem IntKind.num_inj {a b : IntKind} (h : IntKind.num a = IntKind.num b) : a = b := by
  cases a <;> cases b <;> first | rfl | (simp [IntKind.num] at h)

def E.eqb : E → E → Bool
  | .lit a, .lit b => a == b
  | .v a, .v b => a == b
  | .add a b, .add c d | .sub a b, .sub c d | .mul a b, .mul c d | .quo a b, .quo c d | .rem a b, .rem c d
  | .mx a b, .mx c d | .mn a b, .mn c d => a.eqb c && b.eqb d
  | .sw i k a b, .sw j l c d => k == l && i.eqb j && a.eqb c && b.eqb d
  | .wr k a, .wr l b => IntKind.num k == IntKind.num l && a.eqb b
  | _, _ => false
theorem E.eqb_eq {a b : E} (h : a.eqb b = true) : a = b := by
  induction a generalizing b <;> cases b <;> simp_all [E.eqb]
  case add.add iha ihb _ _ => exact ⟨iha h.1, ihb h.2⟩
  case sub.sub iha ihb _ _ => exact ⟨iha h.1, ihb h.2⟩
  case mul.mul iha ihb _ _ => exact ⟨iha h.1, ihb h.2⟩
  case quo.quo iha ihb _ _ => exact ⟨iha h.1, ihb h.2⟩
  case rem.rem iha ihb _ _ => exact ⟨iha h.1, ihb h.2⟩
  case mx.mx iha ihb _ _ => exact ⟨iha h.1, ihb h.2⟩
  case mn.mn iha ihb _ _ => exact ⟨iha h.1, ihb h.2⟩
  case sw.sw ih1 ih2 ih3 _ _ _ _ => exact ⟨ih1 h.1.1.2, ih2 h.1.2, ih3 h.2⟩
  case wr.wr ih _ _ => exact ⟨IntKind.num_inj h.1, ih h.2⟩

/-- Tests. -/
inductive B where
  | lit (b : Bool) | eq (a b : E) | le (a b : E) | lt (a b : E) | nz (a : E) | not (a : B) | and (a b : B) | or (a b : B) | iff (a b : B)

def denB (ρ : List Int) : B → Bool
  | .lit b => b
  | .eq a b => decide (den ρ a = den ρ b)
  | .le a b => decide (den ρ a ≤ den ρ b)
  | .lt a b => decide (den ρ a < den ρ b)
  | .nz a => decide (den ρ a ≠ 0)
  | .not a => !denB ρ a
  | .and a b => denB ρ a && denB ρ b
  | .or a b => denB ρ a || denB ρ b
  | .iff a b => denB ρ a == denB ρ b

def B.eqb : B → B → Bool
  | .lit a, .lit b => a == b
  | .eq a b, .eq c d | .le a b, .le c d | .lt a b, .lt c d => a.eqb c && b.eqb d
  | .nz a, .nz b => a.eqb b
  | .not a, .not b => a.eqb b
  | .and a b, .and c d | .or a b, .or c d | .iff a b, .iff c d => a.eqb c && b.eqb d
  | _, _ => false
theorem B.eqb_eq {a b : B} (h : a.eqb b = true) : a = b := by
  induction a generalizing b <;> cases b <;> simp_all [B.eqb]
  case eq.eq => exact ⟨E.eqb_eq h.1, E.eqb_eq h.2⟩
  case le.le => exact ⟨E.eqb_eq h.1, E.eqb_eq h.2⟩
  case lt.lt => exact ⟨E.eqb_eq h.1, E.eqb_eq h.2⟩
  case nz.nz => exact E.eqb_eq h
  case not.not ih _ => exact ih h
  case and.and iha ihb _ _ => exact ⟨iha h.1, ihb h.2⟩
  case or.or iha ihb _ _ => exact ⟨iha h.1, ihb h.2⟩
  case iff.iff iha ihb _ _ => exact ⟨iha h.1, ihb h.2⟩

/-! ### Intervals -/
abbrev Iv := Option (Int × Int)
def InIv (x : Int) : Iv → Prop
  | none => True
  | some (l, h) => l ≤ x ∧ x ≤ h
/-- The intervals of variables, by their numbers. -/
inductive VT where
  | nil | node (l : VT) (x : Option (Int × Int)) (r : VT)
def VT.get : VT → Nat → Option (Int × Int)
  | .nil, _ => none
  | .node l x r, i => match Nat.beq i 0 with
    | true => x
    | false => match Nat.beq (Nat.mod i 2) 1 with
      | true => l.get (Nat.div i 2)
      | false => r.get (Nat.sub (Nat.div i 2) 1)
def VT.lft : VT → VT
  | .nil => .nil
  | .node l _ _ => l
def VT.rgt : VT → VT
  | .nil => .nil
  | .node _ _ r => r
def VT.val : VT → Option (Int × Int)
  | .nil => none
  | .node _ x _ => x
def VT.set : Nat → VT → Nat → Int × Int → VT
  | 0, t, _, _ => t
  | f + 1, t, i, p => match Nat.beq i 0 with
    | true => .node t.lft (some p) t.rgt
    | false => match Nat.beq (Nat.mod i 2) 1 with
      | true => .node (VT.set f t.lft (Nat.div i 2) p) t.val t.rgt
      | false => .node t.lft t.val (VT.set f t.rgt (Nat.sub (Nat.div i 2) 1) p)
theorem VT.get_eq (t : VT) (i : Nat) : t.get i = if i = 0 then t.val else if i % 2 = 1 then t.lft.get (i / 2) else t.rgt.get (i / 2 - 1) := by
  cases t with
  | nil => simp [VT.get, VT.val, VT.lft, VT.rgt]
  | node l x r =>
    have e : VT.get (.node l x r) i = match Nat.beq i 0 with
      | true => x
      | false => match Nat.beq (Nat.mod i 2) 1 with
        | true => l.get (Nat.div i 2)
        | false => r.get (Nat.sub (Nat.div i 2) 1) := rfl
    rw [e]
    by_cases h0 : i = 0
    · subst h0; rfl
    · have : Nat.beq i 0 = false := by
        cases h : Nat.beq i 0 with
        | false => rfl
        | true => exact absurd (Nat.eq_of_beq_eq_true h) h0
      rw [this, if_neg h0]
      by_cases h1 : i % 2 = 1
      · have : Nat.beq (Nat.mod i 2) 1 = true := by show Nat.beq (i % 2) 1 = true; rw [h1]; rfl
        rw [this, if_pos h1]; rfl
      · have : Nat.beq (Nat.mod i 2) 1 = false := by
          cases h : Nat.beq (Nat.mod i 2) 1 with
          | false => rfl
          | true => exact absurd (Nat.eq_of_beq_eq_true h) h1
        rw [this, if_neg h1]; rfl
theorem VT.set_eq (f : Nat) (t : VT) (i : Nat) (p : Int × Int) : VT.set (f + 1) t i p = if i = 0 then .node t.lft (some p) t.rgt else if i % 2 = 1 then .node (VT.set f t.lft (i / 2) p) t.val t.rgt else .node t.lft t.val (VT.set f t.rgt (i / 2 - 1) p) := by
  have e : VT.set (f + 1) t i p = match Nat.beq i 0 with
    | true => .node t.lft (some p) t.rgt
    | false => match Nat.beq (Nat.mod i 2) 1 with
      | true => .node (VT.set f t.lft (Nat.div i 2) p) t.val t.rgt
      | false => .node t.lft t.val (VT.set f t.rgt (Nat.sub (Nat.div i 2) 1) p) := rfl
  rw [e]
  by_cases h0 : i = 0
  · subst h0; rfl
  · have : Nat.beq i 0 = false := by
      cases h : Nat.beq i 0 with
      | false => rfl
      | true => exact absurd (Nat.eq_of_beq_eq_true h) h0
    rw [this, if_neg h0]
    by_cases h1 : i % 2 = 1
    · have : Nat.beq (Nat.mod i 2) 1 = true := by show Nat.beq (i % 2) 1 = true; rw [h1]; rfl
      rw [this, if_pos h1]; rfl
    · have : Nat.beq (Nat.mod i 2) 1 = false := by
        cases h : Nat.beq (Nat.mod i 2) 1 with
        | false => rfl
        | true => exact absurd (Nat.eq_of_beq_eq_true h) h1
      rw [this, if_neg h1]; rfl
theorem VT.get_set (p q : Int × Int) : ∀ (f : Nat) (t : VT) (i j : Nat), (VT.set f t i p).get j = some q → (j = i ∧ q = p) ∨ t.get j = some q
  | 0, t, i, j, h => .inr h
  | f + 1, t, i, j, h => by
    rw [VT.set_eq] at h
    rw [VT.get_eq t j]
    by_cases hi : i = 0
    · rw [if_pos hi, VT.get_eq] at h
      simp only [VT.val, VT.lft, VT.rgt] at h
      by_cases hj : j = 0
      · rw [if_pos hj] at h; simp only [Option.some.injEq] at h; exact .inl ⟨by omega, h.symm⟩
      · rw [if_neg hj] at h; rw [if_neg hj]; exact .inr h
    · rw [if_neg hi] at h
      by_cases hm : i % 2 = 1
      · rw [if_pos hm, VT.get_eq] at h
        simp only [VT.val, VT.lft, VT.rgt] at h
        by_cases hj : j = 0
        · rw [if_pos hj] at h ⊢; exact .inr h
        · rw [if_neg hj] at h ⊢
          by_cases hjm : j % 2 = 1
          · rw [if_pos hjm] at h ⊢
            rcases VT.get_set p q f t.lft (i / 2) (j / 2) h with ⟨h1, h2⟩ | h
            · exact .inl ⟨by omega, h2⟩
            · exact .inr h
          · rw [if_neg hjm] at h ⊢; exact .inr h
      · rw [if_neg hm, VT.get_eq] at h
        simp only [VT.val, VT.lft, VT.rgt] at h
        by_cases hj : j = 0
        · rw [if_pos hj] at h ⊢; exact .inr h
        · rw [if_neg hj] at h ⊢
          by_cases hjm : j % 2 = 1
          · rw [if_pos hjm] at h ⊢; exact .inr h
          · rw [if_neg hjm] at h ⊢
            rcases VT.get_set p q f t.rgt (i / 2 - 1) (j / 2 - 1) h with ⟨h1, h2⟩ | h
            · exact .inl ⟨by omega, h2⟩
            · exact .inr h
/-- Intervals: those of variables apart. -/
structure Fs where
  l : List (E × Int × Int)
  vt : VT
  vn : Nat
def Fs.put (s : Fs) : E × Int × Int → Fs
  | (.v i, l, h) => { s with vt := VT.set 24 s.vt i (l, h), vn := if Nat.ble s.vn i then Nat.succ i else s.vn }
  | p => { s with l := p :: s.l }
def Fs.of : List (E × Int × Int) → Fs
  | [] => ⟨[], .nil, 0⟩
  | p :: r => (Fs.of r).put p
instance : Coe (List (E × Int × Int)) Fs := ⟨Fs.of⟩
def FsOK (ρ : List Int) (s : Fs) : Prop :=
  (∀ p ∈ s.l, p.2.1 ≤ den ρ p.1 ∧ den ρ p.1 ≤ p.2.2) ∧ ∀ i p, s.vt.get i = some p → i < s.vn ∧ p.1 ≤ ρ.getD i 0 ∧ ρ.getD i 0 ≤ p.2
theorem FsOK.put {ρ : List Int} {s : Fs} (h : FsOK ρ s) {p : E × Int × Int} (hp : p.2.1 ≤ den ρ p.1 ∧ den ρ p.1 ≤ p.2.2) : FsOK ρ (s.put p) := by
  unfold Fs.put
  split
  · rename_i i l u
    refine ⟨h.1, fun j q hq => ?_⟩
    have hb : ∀ a b : Nat, Nat.ble a b = true ↔ a ≤ b := fun a b => ⟨Nat.le_of_ble_eq_true, Nat.ble_eq_true_of_le⟩
    rcases VT.get_set _ _ _ _ _ _ hq with ⟨rfl, rfl⟩ | hq
    · refine ⟨?_, hp⟩
      show j < if Nat.ble s.vn j = true then Nat.succ j else s.vn
      split
      · omega
      · rename_i hn; rw [hb] at hn; omega
    · obtain ⟨h1, h2⟩ := h.2 j q hq
      refine ⟨?_, h2⟩
      show j < if Nat.ble s.vn i = true then Nat.succ i else s.vn
      split
      · rename_i hn; rw [hb] at hn; omega
      · exact h1
  · refine ⟨fun q hq => ?_, h.2⟩
    rcases List.mem_cons.1 hq with rfl | hq
    · exact hp
    · exact h.1 q hq
theorem FsOK.of {ρ : List Int} : ∀ {l : List (E × Int × Int)}, (∀ p ∈ l, p.2.1 ≤ den ρ p.1 ∧ den ρ p.1 ≤ p.2.2) → FsOK ρ (Fs.of l)
  | [], _ => ⟨(fun _ h => by cases h), (fun i p h => by simp [Fs.of, VT.get] at h)⟩
  | p :: r, h => (FsOK.of fun q hq => h q (List.mem_cons_of_mem _ hq)).put (h p (List.mem_cons_self ..))
/-- Facts: intervals of terms, and outcomes of tests. -/
structure Fx where
  iv : Fs
  bs : List (B × Bool)
def FxOK (ρ : List Int) (fx : Fx) : Prop := FsOK ρ fx.iv ∧ ∀ p ∈ fx.bs, denB ρ p.1 = p.2
def fx0 : Fx := ⟨Fs.of [], []⟩

def meet : Iv → Iv → Iv
  | none, b => b
  | a, none => a
  | some (l, h), some (l', h') => some (if l < l' then l' else l, if h < h' then h else h')
theorem meet_in {x : Int} {a b : Iv} (ha : InIv x a) (hb : InIv x b) : InIv x (meet a b) := by
  cases a with
  | none => simpa [meet] using hb
  | some p => cases b with
    | none => simpa [meet] using ha
    | some q =>
      obtain ⟨l, h⟩ := p; obtain ⟨l', h'⟩ := q
      simp only [meet, InIv] at *
      constructor <;> split <;> omega
def look : List (E × Int × Int) → E → Iv
  | [], _ => none
  | (e, l, h) :: r, x => if e.eqb x then meet (some (l, h)) (look r x) else look r x
theorem look_in {ρ : List Int} {x : E} : ∀ (l : List (E × Int × Int)), (∀ p ∈ l, p.2.1 ≤ den ρ p.1 ∧ den ρ p.1 ≤ p.2.2) → InIv (den ρ x) (look l x)
  | [], _ => trivial
  | (e, a, b) :: r, h => by
    simp only [look]
    split
    · rename_i he
      have := E.eqb_eq he
      subst this
      exact meet_in (h _ (List.mem_cons_self ..)) (look_in r fun p hp => h p (List.mem_cons_of_mem _ hp))
    · exact look_in r fun p hp => h p (List.mem_cons_of_mem _ hp)

def mn2 (a b : Int) : Int := if a < b then a else b
def mx2 (a b : Int) : Int := if a < b then b else a
theorem mn2_l (a b : Int) : mn2 a b ≤ a := by unfold mn2; split <;> omega
theorem mn2_r (a b : Int) : mn2 a b ≤ b := by unfold mn2; split <;> omega
theorem mx2_l (a b : Int) : a ≤ mx2 a b := by unfold mx2; split <;> omega
theorem mx2_r (a b : Int) : b ≤ mx2 a b := by unfold mx2; split <;> omega
theorem mn2_mono {a b c d : Int} (h : a ≤ c) (h' : b ≤ d) : mn2 a b ≤ mn2 c d := by unfold mn2; (repeat' split) <;> omega
theorem mx2_mono {a b c d : Int} (h : a ≤ c) (h' : b ≤ d) : mx2 a b ≤ mx2 c d := by unfold mx2; (repeat' split) <;> omega
theorem lin_hi {l h x y : Int} (h1 : l ≤ x) (h2 : x ≤ h) : x * y ≤ mx2 (l * y) (h * y) := by
  rcases Int.le_total 0 y with hy | hy
  · exact Int.le_trans (Int.mul_le_mul_of_nonneg_right h2 hy) (mx2_r _ _)
  · exact Int.le_trans (Int.mul_le_mul_of_nonpos_right h1 hy) (mx2_l _ _)
theorem lin_lo {l h x y : Int} (h1 : l ≤ x) (h2 : x ≤ h) : mn2 (l * y) (h * y) ≤ x * y := by
  rcases Int.le_total 0 y with hy | hy
  · exact Int.le_trans (mn2_l _ _) (Int.mul_le_mul_of_nonneg_right h1 hy)
  · exact Int.le_trans (mn2_r _ _) (Int.mul_le_mul_of_nonpos_right h2 hy)
def ivMul (l h l' h' : Int) : Int × Int :=
  (mn2 (mn2 (l * l') (l * h')) (mn2 (h * l') (h * h')), mx2 (mx2 (l * l') (l * h')) (mx2 (h * l') (h * h')))
theorem ivMul_in {l h l' h' x y : Int} (h1 : l ≤ x) (h2 : x ≤ h) (h3 : l' ≤ y) (h4 : y ≤ h') :
    (ivMul l h l' h').1 ≤ x * y ∧ x * y ≤ (ivMul l h l' h').2 := by
  have a1 := lin_lo (y := y) h1 h2
  have a2 := lin_hi (y := y) h1 h2
  have b1 := lin_lo (y := l) h3 h4
  have b2 := lin_hi (y := l) h3 h4
  have c1 := lin_lo (y := h) h3 h4
  have c2 := lin_hi (y := h) h3 h4
  rw [Int.mul_comm y l, Int.mul_comm l' l, Int.mul_comm h' l] at b1 b2
  rw [Int.mul_comm y h, Int.mul_comm l' h, Int.mul_comm h' h] at c1 c2
  exact ⟨Int.le_trans (mn2_mono b1 c1) a1, Int.le_trans a2 (mx2_mono b2 c2)⟩
def absMax (l h : Int) : Int := mx2 (if l < 0 then -l else l) (if h < 0 then -h else h)
theorem absMax_in {l h x : Int} (h1 : l ≤ x) (h2 : x ≤ h) : (x.natAbs : Int) ≤ absMax l h := by
  unfold absMax mx2; (repeat' split) <;> omega
theorem absMax_nonneg (l h : Int) : 0 ≤ absMax l h := by unfold absMax mx2; (repeat' split) <;> omega
def ivQuo (l h l' _h' : Int) : Iv :=
  if 1 ≤ l' then let m := absMax l h / l'; some (if 0 ≤ l then 0 else -m, if h ≤ 0 then 0 else m) else none
theorem ivQuo_in {l h l' h' x y : Int} (h1 : l ≤ x) (h2 : x ≤ h) (h3 : l' ≤ y) : InIv (x.tdiv y) (ivQuo l h l' h') := by
  unfold ivQuo
  split
  · rename_i hl
    have e : (x.tdiv y).natAbs = x.natAbs / y.natAbs := Int.natAbs_tdiv x y
    have hy : l'.toNat ≤ y.natAbs := by omega
    have hm := absMax_in h1 h2
    have d1 : x.natAbs / y.natAbs ≤ x.natAbs / l'.toNat := Nat.div_le_div_left hy (by omega)
    have d2 : x.natAbs / l'.toNat ≤ (absMax l h).toNat / l'.toNat := Nat.div_le_div_right (by omega)
    have d3 : (((absMax l h).toNat / l'.toNat : Nat) : Int) = absMax l h / l' := by
      rw [Int.natCast_ediv, Int.toNat_of_nonneg (absMax_nonneg l h), Int.toNat_of_nonneg (by omega)]
    have hk : ((x.tdiv y).natAbs : Int) ≤ absMax l h / l' := by rw [← d3]; exact_mod_cast (by omega : (x.tdiv y).natAbs ≤ (absMax l h).toNat / l'.toNat)
    have hp : 0 ≤ x → 0 ≤ x.tdiv y := fun hx => Int.tdiv_nonneg hx (by omega)
    have hq : x ≤ 0 → x.tdiv y ≤ 0 := fun hx => by
      have : 0 ≤ (-x).tdiv y := Int.tdiv_nonneg (by omega) (by omega)
      rw [Int.neg_tdiv] at this; omega
    simp only [InIv]
    generalize absMax l h / l' = m at *
    generalize x.tdiv y = q at *
    constructor
    · split
      · exact hp (by omega)
      · omega
    · split
      · exact hq (by omega)
      · omega
  · trivial
def ivRem (l h l' h' : Int) : Iv :=
  if 1 ≤ l' then some (if 0 ≤ l then 0 else 1 - h', if h ≤ 0 then 0 else if 0 ≤ l then mn2 h (h' - 1) else h' - 1) else none
theorem ivRem_in {l h l' h' x y : Int} (h1 : l ≤ x) (h2 : x ≤ h) (h3 : l' ≤ y) (h4 : y ≤ h') : InIv (x.tmod y) (ivRem l h l' h') := by
  unfold ivRem
  split
  · rename_i hl
    have a := Int.tmod_lt_of_pos x (show 0 < y by omega)
    have b := Int.lt_tmod_of_pos x (show 0 < y by omega)
    have c : 0 ≤ x → 0 ≤ x.tmod y := fun hx => Int.tmod_nonneg y hx
    have d : x ≤ 0 → x.tmod y ≤ 0 := fun hx => by
      have : 0 ≤ (-x).tmod y := Int.tmod_nonneg y (by omega)
      rw [Int.neg_tmod] at this; omega
    have e : 0 ≤ x → x.tmod y ≤ x := fun hx => by
      rw [Int.tmod_eq_emod_of_nonneg hx]
      have f1 := Int.mul_ediv_add_emod x y
      have f2 : 0 ≤ y * (x / y) := Int.mul_nonneg (by omega) (Int.ediv_nonneg hx (by omega))
      omega
    simp only [InIv, mn2]
    generalize x.tmod y = q at *
    constructor
    · split <;> omega
    · split
      · omega
      · split
        · split <;> omega
        · omega
  · trivial
/-- Two numbers that are known. -/
def ivPt (f : Int → Int → Int) (l h l' h' : Int) (r : Iv) : Iv := if l = h ∧ l' = h' then some (f l l', f l l') else r
theorem ivPt_in {f : Int → Int → Int} {l h l' h' x y : Int} {r : Iv} (h1 : l ≤ x) (h2 : x ≤ h) (h3 : l' ≤ y) (h4 : y ≤ h') (hr : InIv (f x y) r) : InIv (f x y) (ivPt f l h l' h' r) := by
  unfold ivPt
  split
  · have e1 : x = l := by omega
    have e2 : y = l' := by omega
    subst e1; subst e2
    exact ⟨Int.le_refl _, Int.le_refl _⟩
  · exact hr
def ivQuo2 (l h l' h' : Int) : Iv := if 0 ≤ l ∧ 1 ≤ l' then some (l / h', h / l') else none
theorem ivQuo2_in {l h l' h' x y : Int} (h1 : l ≤ x) (h2 : x ≤ h) (h3 : l' ≤ y) (h4 : y ≤ h') : InIv (x.tdiv y) (ivQuo2 l h l' h') := by
  unfold ivQuo2
  split
  · rename_i hc
    rw [Int.tdiv_eq_ediv_of_nonneg (by omega)]
    have e : ∀ a b : Int, 0 ≤ a → 0 ≤ b → a / b = ((a.toNat / b.toNat : Nat) : Int) := fun a b ha hb => by
      rw [Int.natCast_ediv, Int.toNat_of_nonneg ha, Int.toNat_of_nonneg hb]
    refine ⟨?_, ?_⟩
    · rw [e l h' (by omega) (by omega), e x y (by omega) (by omega)]
      exact_mod_cast Nat.div_le_div (by omega) (by omega) (by omega)
    · rw [e h l' (by omega) (by omega), e x y (by omega) (by omega)]
      exact_mod_cast Nat.div_le_div (by omega) (by omega) (by omega)
  · trivial
/-- The range of a kind. -/
def kIv (k : IntKind) : Int × Int := (k.min, k.max)
def ivWr (k : IntKind) : Iv → Iv
  | some (l, h) => if k.min ≤ l ∧ h ≤ k.max then some (l, h) else some (kIv k)
  | none => some (kIv k)
theorem wrap_bd (k : IntKind) (n : Int) : k.min ≤ k.wrap n ∧ k.wrap n ≤ k.max := by
  cases k <;> simp only [IntKind.wrap, IntKind.min, IntKind.max, IntKind.signed, IntKind.bits] <;> constructor <;> (simp; try omega)
theorem wrap_in (k : IntKind) (n : Int) (h1 : k.min ≤ n) (h2 : n ≤ k.max) : k.wrap n = n := by
  cases k <;> simp [IntKind.wrap, IntKind.min, IntKind.max, IntKind.signed, IntKind.bits] at * <;> omega
def hull2 : Iv → Iv → Iv
  | some (l, h), some (l', h') => some (mn2 l l', mx2 h h')
  | _, _ => none
/-- Of two branches, that which is taken if the test is known. -/
def swIv (c : Iv) (k : Int) (a b : Iv) : Iv := match c with
  | some (l, h) => if l = k ∧ h = k then a else if k < l ∨ h < k then b else hull2 a b
  | none => hull2 a b
theorem hull2_in {x y : Int} {a b : Iv} {p : Prop} [Decidable p] (ha : InIv x a) (hb : InIv y b) : InIv (if p then x else y) (hull2 a b) := by
  revert ha hb
  cases a <;> cases b <;> simp only [hull2, InIv, mn2, mx2] <;> intro ha hb <;> first | trivial | (constructor <;> (repeat' split) <;> omega)
theorem swIv_in {i k x y : Int} {c a b : Iv} (hc : InIv i c) (ha : InIv x a) (hb : InIv y b) : InIv (if i = k then x else y) (swIv c k a b) := by
  cases c with
  | none => exact hull2_in ha hb
  | some p =>
    obtain ⟨l, h⟩ := p
    obtain ⟨h1, h2⟩ : l ≤ i ∧ i ≤ h := hc
    simp only [swIv]
    by_cases hk : l = k ∧ h = k
    · rw [if_pos (show i = k by omega), if_pos hk]; exact ha
    · rw [if_neg hk]
      by_cases hk2 : k < l ∨ h < k
      · rw [if_neg (show ¬ i = k by omega), if_pos hk2]; exact hb
      · rw [if_neg hk2]; exact hull2_in ha hb
/-- The interval of a term. -/
def iv (fx : Fx) : E → Iv
  | .lit z => some (z, z)
  | .v i => fx.iv.vt.get i
  | .add a b => meet (look fx.iv.l (.add a b)) (match iv fx a, iv fx b with | some (l, h), some (l', h') => some (l + l', h + h') | _, _ => none)
  | .sub a b => meet (look fx.iv.l (.sub a b)) (match iv fx a, iv fx b with | some (l, h), some (l', h') => some (l - h', h - l') | _, _ => none)
  | .mul a b => meet (look fx.iv.l (.mul a b)) (match iv fx a, iv fx b with | some (l, h), some (l', h') => some (ivMul l h l' h') | _, _ => none)
  | .quo a b => meet (look fx.iv.l (.quo a b)) (match iv fx a, iv fx b with | some (l, h), some (l', h') => ivPt Int.tdiv l h l' h' (meet (ivQuo l h l' h') (ivQuo2 l h l' h')) | _, _ => none)
  | .rem a b => meet (look fx.iv.l (.rem a b)) (match iv fx a, iv fx b with | some (l, h), some (l', h') => ivPt Int.tmod l h l' h' (ivRem l h l' h') | _, _ => none)
  | .mx a b => meet (look fx.iv.l (.mx a b)) (match iv fx a, iv fx b with | some (l, h), some (l', h') => some (mx2 l l', mx2 h h') | _, _ => none)
  | .mn a b => meet (look fx.iv.l (.mn a b)) (match iv fx a, iv fx b with | some (l, h), some (l', h') => some (mn2 l l', mn2 h h') | _, _ => none)
  | .sw i k a b => meet (look fx.iv.l (.sw i k a b)) (swIv (iv fx i) k (iv fx a) (iv fx b))
  | .wr k a => meet (look fx.iv.l (.wr k a)) (ivWr k (iv fx a))
theorem iv_in {ρ : List Int} {fx : Fx} (hf : FxOK ρ fx) (e : E) : InIv (den ρ e) (iv fx e) := by
  induction e with
  | lit z => exact ⟨Int.le_refl _, Int.le_refl _⟩
  | v i =>
    show InIv (ρ.getD i 0) (fx.iv.vt.get i)
    cases h : fx.iv.vt.get i with
    | none => trivial
    | some p => exact (hf.1.2 i p h).2
  | add a b ha hb =>
    refine meet_in (look_in _ hf.1.1) ?_
    revert ha hb
    cases iv fx a <;> cases iv fx b <;> simp only [InIv, den] <;> intro ha hb <;> first | trivial | (constructor <;> omega)
  | sub a b ha hb =>
    refine meet_in (look_in _ hf.1.1) ?_
    revert ha hb
    cases iv fx a <;> cases iv fx b <;> simp only [InIv, den] <;> intro ha hb <;> first | trivial | (constructor <;> omega)
  | mul a b ha hb =>
    refine meet_in (look_in _ hf.1.1) ?_
    revert ha hb
    cases iv fx a <;> cases iv fx b <;> simp only [InIv, den] <;> intro ha hb <;> first | trivial | exact ivMul_in ha.1 ha.2 hb.1 hb.2
  | quo a b ha hb =>
    refine meet_in (look_in _ hf.1.1) ?_
    revert ha hb
    cases iv fx a <;> cases iv fx b <;> simp only [den] <;> intro ha hb <;> first | trivial | exact ivPt_in ha.1 ha.2 hb.1 hb.2 (meet_in (ivQuo_in ha.1 ha.2 hb.1) (ivQuo2_in ha.1 ha.2 hb.1 hb.2))
  | rem a b ha hb =>
    refine meet_in (look_in _ hf.1.1) ?_
    revert ha hb
    cases iv fx a <;> cases iv fx b <;> simp only [den] <;> intro ha hb <;> first | trivial | exact ivPt_in ha.1 ha.2 hb.1 hb.2 (ivRem_in ha.1 ha.2 hb.1 hb.2)
  | mx a b ha hb =>
    refine meet_in (look_in _ hf.1.1) ?_
    revert ha hb
    cases iv fx a <;> cases iv fx b <;> simp only [InIv, den, mx2] <;> intro ha hb <;> first | trivial | (constructor <;> (repeat' split) <;> omega)
  | mn a b ha hb =>
    refine meet_in (look_in _ hf.1.1) ?_
    revert ha hb
    cases iv fx a <;> cases iv fx b <;> simp only [InIv, den, mn2] <;> intro ha hb <;> first | trivial | (constructor <;> (repeat' split) <;> omega)
  | sw i k a b hi ha hb =>
    refine meet_in (look_in _ hf.1.1) ?_
    exact swIv_in hi ha hb
  | wr k a ha =>
    refine meet_in (look_in _ hf.1.1) ?_
    revert ha
    cases iv fx a <;> simp only [ivWr, den] <;> intro ha
    · exact wrap_bd k _
    · split
      · rename_i h
        rw [InIv, wrap_in k _ (by have := ha.1; omega) (by have := ha.2; omega)]
        exact ha
      · exact wrap_bd k _

/-- A term that can have one value only is that number. -/
def nrm (fx : Fx) (e : E) : E := match iv fx e with
  | some (l, h) => if l = h then .lit l else e
  | none => e
theorem den_nrm {ρ : List Int} {fx : Fx} (hf : FxOK ρ fx) (e : E) : den ρ (nrm fx e) = den ρ e := by
  have := iv_in hf e
  unfold nrm
  revert this
  cases iv fx e with
  | none => intro _; rfl
  | some p =>
    obtain ⟨l, h⟩ := p
    simp only [InIv]
    intro this
    split
    · simp only [den]; omega
    · rfl
/-- What a kind makes of a term: nothing, if it fits. -/
def mkWr (fx : Fx) (k : IntKind) (e : E) : E := match iv fx e with
  | some (l, h) => if k.min ≤ l ∧ h ≤ k.max then nrm fx e else .wr k e
  | none => .wr k e
theorem den_mkWr {ρ : List Int} {fx : Fx} (hf : FxOK ρ fx) (k : IntKind) (e : E) : den ρ (mkWr fx k e) = k.wrap (den ρ e) := by
  have := iv_in hf e
  unfold mkWr
  revert this
  cases iv fx e with
  | none => intro _; rfl
  | some p =>
    obtain ⟨l, h⟩ := p
    simp only [InIv]
    intro this
    split
    · rename_i hk
      rw [den_nrm hf, wrap_in k _ (by omega) (by omega)]
    · rfl

/-! ### Tests decided -/
def lookB : List (B × Bool) → B → Option Bool
  | [], _ => none
  | (b, t) :: r, x => if b.eqb x then some t else lookB r x
theorem lookB_ok {ρ : List Int} {x : B} {t : Bool} : ∀ (l : List (B × Bool)), (∀ p ∈ l, denB ρ p.1 = p.2) → lookB l x = some t → denB ρ x = t
  | [], _, h => by simp [lookB] at h
  | (b, u) :: r, hl, h => by
    simp only [lookB] at h
    split at h
    · rename_i he
      have := B.eqb_eq he
      subst this
      have := hl _ (List.mem_cons_self ..)
      simp at h
      rw [← h]; exact this
    · exact lookB_ok r (fun p hp => hl p (List.mem_cons_of_mem _ hp)) h
def orB (x y : Option Bool) : Option Bool := match x with | some t => some t | none => y
theorem orB_ok {p : Bool → Prop} {x y : Option Bool} (hx : ∀ t, x = some t → p t) (hy : ∀ t, y = some t → p t) : ∀ t, orB x y = some t → p t := by
  intro t h
  cases x with
  | some u => exact hx t h
  | none => exact hy t h
def decEq2 : Iv → Iv → Option Bool
  | some (l, h), some (l', h') => if l = h ∧ l' = h' ∧ l = l' then some true else if h < l' ∨ h' < l then some false else none
  | _, _ => none
def decLe2 : Iv → Iv → Option Bool
  | some (l, h), some (l', h') => if h ≤ l' then some true else if h' < l then some false else none
  | _, _ => none
def decLt2 : Iv → Iv → Option Bool
  | some (l, h), some (l', h') => if h < l' then some true else if h' ≤ l then some false else none
  | _, _ => none
theorem decEq2_ok {x y : Int} {i j : Iv} (ha : InIv x i) (hb : InIv y j) (t : Bool) (h : decEq2 i j = some t) : decide (x = y) = t := by
  match i, j, h with
  | some (l, h1), some (l', h2), h =>
    simp only [decEq2, InIv] at *
    split at h
    · simp at h; subst h; simp; omega
    · split at h
      · simp at h; subst h; simp; omega
      · simp at h
  | none, _, h => simp [decEq2] at h
  | some _, none, h => simp [decEq2] at h
theorem decLe2_ok {x y : Int} {i j : Iv} (ha : InIv x i) (hb : InIv y j) (t : Bool) (h : decLe2 i j = some t) : decide (x ≤ y) = t := by
  match i, j, h with
  | some (l, h1), some (l', h2), h =>
    simp only [decLe2, InIv] at *
    split at h
    · simp at h; subst h; simp; omega
    · split at h
      · simp at h; subst h; simp; omega
      · simp at h
  | none, _, h => simp [decLe2] at h
  | some _, none, h => simp [decLe2] at h
theorem decLt2_ok {x y : Int} {i j : Iv} (ha : InIv x i) (hb : InIv y j) (t : Bool) (h : decLt2 i j = some t) : decide (x < y) = t := by
  match i, j, h with
  | some (l, h1), some (l', h2), h =>
    simp only [decLt2, InIv] at *
    split at h
    · simp at h; subst h; simp; omega
    · split at h
      · simp at h; subst h; simp; omega
      · simp at h
  | none, _, h => simp [decLt2] at h
  | some _, none, h => simp [decLt2] at h
def decAnd2 : Option Bool → Option Bool → Option Bool
  | some false, _ => some false
  | _, some false => some false
  | some true, some true => some true
  | _, _ => none
def decOr2 : Option Bool → Option Bool → Option Bool
  | some true, _ => some true
  | _, some true => some true
  | some false, some false => some false
  | _, _ => none
theorem decAnd2_ok {x y : Bool} {i j : Option Bool} (hi : ∀ t, i = some t → x = t) (hj : ∀ t, j = some t → y = t) (t : Bool) (h : decAnd2 i j = some t) : (x && y) = t := by
  rcases i with _ | _ | _ <;> rcases j with _ | _ | _ <;> simp [decAnd2] at h hi hj <;> subst h <;> simp [hi, hj]
theorem decOr2_ok {x y : Bool} {i j : Option Bool} (hi : ∀ t, i = some t → x = t) (hj : ∀ t, j = some t → y = t) (t : Bool) (h : decOr2 i j = some t) : (x || y) = t := by
  rcases i with _ | _ | _ <;> rcases j with _ | _ | _ <;> simp [decOr2] at h hi hj <;> subst h <;> simp [hi, hj]
def decIff2 : Option Bool → Option Bool → Option Bool
  | some s, some t => some (s == t)
  | _, _ => none
theorem decIff2_ok {x y : Bool} {i j : Option Bool} (hi : ∀ t, i = some t → x = t) (hj : ∀ t, j = some t → y = t) (t : Bool) (h : decIff2 i j = some t) : (x == y) = t := by
  rcases i with _ | _ | _ <;> rcases j with _ | _ | _ <;> simp [decIff2] at h hi hj <;> subst h <;> simp [hi, hj]
/-! ### Sums -/
def linAdd (x : E) (k : Int) : List (E × Int) → List (E × Int)
  | [] => [(x, k)]
  | (y, m) :: l => if x.eqb y then (y, m + k) :: l else (y, m) :: linAdd x k l
def linV (ρ : List Int) : List (E × Int) → Int
  | [] => 0
  | (x, k) :: l => k * den ρ x + linV ρ l
theorem linAdd_ok (ρ : List Int) (x : E) (k : Int) : ∀ l, linV ρ (linAdd x k l) = k * den ρ x + linV ρ l
  | [] => rfl
  | (y, m) :: l => by
    simp only [linAdd]
    split
    · rename_i h
      rw [E.eqb_eq h]
      simp only [linV, Int.add_mul]; omega
    · simp only [linV, linAdd_ok ρ x k l]; omega
def linE (k : Int) : E → List (E × Int) × Int → List (E × Int) × Int
  | .lit z, p => (p.1, p.2 + k * z)
  | .add a b, p => linE k b (linE k a p)
  | .sub a b, p => linE (-k) b (linE k a p)
  | e, p => (linAdd e k p.1, p.2)
theorem linE_ok (ρ : List Int) : ∀ (e : E) (k : Int) (p : List (E × Int) × Int), linV ρ (linE k e p).1 + (linE k e p).2 = k * den ρ e + (linV ρ p.1 + p.2)
  | .lit z, k, p => by simp only [linE, den]; omega
  | .add a b, k, p => by
    simp only [linE, linE_ok ρ b, linE_ok ρ a, den, Int.mul_add]; omega
  | .sub a b, k, p => by
    simp only [linE, linE_ok ρ b, linE_ok ρ a, den, Int.mul_sub, Int.neg_mul]; omega
  | .v _, k, p | .mul _ _, k, p | .quo _ _, k, p | .rem _ _, k, p | .mx _ _, k, p | .mn _ _, k, p | .sw _ _ _ _, k, p | .wr _ _, k, p => by
    simp only [linE, linAdd_ok]; omega
/-- The most that a sum can be. -/
def linU (fx : Fx) : List (E × Int) → Option Int
  | [] => some 0
  | (x, k) :: l => if k = 0 then linU fx l else match iv fx x, linU fx l with
    | some (a, b), some u => some ((if 0 ≤ k then k * b else k * a) + u)
    | _, _ => none
theorem linU_ok {ρ : List Int} {fx : Fx} (hf : FxOK ρ fx) : ∀ {l : List (E × Int)} {u : Int}, linU fx l = some u → linV ρ l ≤ u
  | [], u, h => by simp only [linU, Option.some.injEq] at h; subst h; exact Int.le_refl _
  | (x, k) :: l, u, h => by
    simp only [linU] at h
    split at h
    · rename_i hk
      subst hk
      have := linU_ok hf h
      simp only [linV, Int.zero_mul]; omega
    · have hx := iv_in hf x
      split at h
      · rename_i a b v hiv hl
        simp only [Option.some.injEq] at h; subst h
        rw [hiv] at hx
        have := linU_ok hf hl
        simp only [linV]
        have h2 : k * den ρ x ≤ (if 0 ≤ k then k * b else k * a) := by
          split
          · rename_i h0; exact Int.mul_le_mul_of_nonneg_left hx.2 h0
          · rename_i h0; exact Int.mul_le_mul_of_nonpos_left (by omega) hx.1
        omega
      · cases h
/-- The most that 'a - b' less the sum can be. -/
def subU (fx : Fx) (a b : E) (p : List (E × Int) × Int) : Option Int :=
  let q := linE (-1) b (linE 1 a p)
  match linU fx q.1 with
  | some u => some (u + q.2)
  | none => none
theorem subU_ok {ρ : List Int} {fx : Fx} (hf : FxOK ρ fx) {a b : E} {p : List (E × Int) × Int} {u : Int} (h : subU fx a b p = some u) : den ρ a - den ρ b + (linV ρ p.1 + p.2) ≤ u := by
  unfold subU at h
  simp only [] at h
  split at h
  · rename_i v hv
    simp only [Option.some.injEq] at h; subst h
    have h1 := linU_ok hf hv
    have h2 := linE_ok ρ b (-1) (linE 1 a p)
    have h3 := linE_ok ρ a 1 p
    omega
  · cases h
/-- What a fact says of a difference: 'p - q' is at most this. -/
def factU : B → Bool → Option (E × E × Int)
  | .lt x y, true => some (x, y, -1)
  | .lt x y, false => some (y, x, 0)
  | .le x y, true => some (x, y, 0)
  | .le x y, false => some (y, x, -1)
  | _, _ => none
theorem factU_ok {ρ : List Int} {b : B} {t : Bool} (hb : denB ρ b = t) {p q : E} {r : Int} (h : factU b t = some (p, q, r)) : den ρ p - den ρ q ≤ r := by
  unfold factU at h
  split at h <;> simp only [Option.some.injEq, Prod.mk.injEq, reduceCtorEq] at h
  · obtain ⟨rfl, rfl, rfl⟩ := h
    have := of_decide_eq_true hb; omega
  · obtain ⟨rfl, rfl, rfl⟩ := h
    have := of_decide_eq_false hb; omega
  · obtain ⟨rfl, rfl, rfl⟩ := h
    have := of_decide_eq_true hb; omega
  · obtain ⟨rfl, rfl, rfl⟩ := h
    have := of_decide_eq_false hb; omega
def byFact (fx : Fx) (a b : E) (c : Int) : List (B × Bool) → Bool
  | [] => false
  | (f, t) :: l => (match factU f t with
    | some (p, q, r) => match subU fx a b (linE (-1) p (linE 1 q ([], 0))) with
      | some u => decide (u + r ≤ c)
      | none => false
    | none => false) || byFact fx a b c l
theorem byFact_ok {ρ : List Int} {fx : Fx} (hf : FxOK ρ fx) {a b : E} {c : Int} : ∀ {l : List (B × Bool)}, (∀ p ∈ l, denB ρ p.1 = p.2) → byFact fx a b c l = true → den ρ a - den ρ b ≤ c
  | [], _, h => by simp [byFact] at h
  | (f, t) :: l, hl, h => by
    simp only [byFact, Bool.or_eq_true] at h
    rcases h with h | h
    · split at h
      · rename_i p q r hfu
        split at h
        · rename_i u hu
          have h0 := of_decide_eq_true h
          have h1 := factU_ok (hl _ (List.mem_cons_self ..)) hfu
          have h2 := subU_ok hf hu
          have h3 := linE_ok ρ p (-1) (linE 1 q ([], 0))
          have h4 := linE_ok ρ q 1 ([], 0)
          simp only [linV] at h4
          omega
        · cases h
      · cases h
    · exact byFact_ok hf (fun p hp => hl p (List.mem_cons_of_mem _ hp)) h
/-- 'a - b' is at most 'c'. -/
def leC (fx : Fx) (a b : E) (c : Int) : Bool := (match subU fx a b ([], 0) with
  | some u => decide (u ≤ c)
  | none => false) || byFact fx a b c fx.bs
theorem leC_ok {ρ : List Int} {fx : Fx} (hf : FxOK ρ fx) {a b : E} {c : Int} (h : leC fx a b c = true) : den ρ a - den ρ b ≤ c := by
  unfold leC at h
  simp only [Bool.or_eq_true] at h
  rcases h with h | h
  · split at h
    · rename_i u hu
      have h0 := of_decide_eq_true h
      have h1 := subU_ok hf hu
      simp only [linV] at h1; omega
    · cases h
  · exact byFact_ok hf hf.2 h
def linLe (fx : Fx) (a b : E) : Option Bool := if leC fx a b 0 then some true else if leC fx b a (-1) then some false else none
theorem linLe_ok {ρ : List Int} {fx : Fx} (hf : FxOK ρ fx) {a b : E} (t : Bool) (h : linLe fx a b = some t) : denB ρ (.le a b) = t := by
  unfold linLe at h
  split at h
  · rename_i hc
    simp only [Option.some.injEq] at h; subst h
    have := leC_ok hf hc
    exact decide_eq_true (by omega)
  · split at h
    · rename_i hc
      simp only [Option.some.injEq] at h; subst h
      have := leC_ok hf hc
      exact decide_eq_false (by omega)
    · cases h
def linLt (fx : Fx) (a b : E) : Option Bool := if leC fx a b (-1) then some true else if leC fx b a 0 then some false else none
theorem linLt_ok {ρ : List Int} {fx : Fx} (hf : FxOK ρ fx) {a b : E} (t : Bool) (h : linLt fx a b = some t) : denB ρ (.lt a b) = t := by
  unfold linLt at h
  split at h
  · rename_i hc
    simp only [Option.some.injEq] at h; subst h
    have := leC_ok hf hc
    exact decide_eq_true (by omega)
  · split at h
    · rename_i hc
      simp only [Option.some.injEq] at h; subst h
      have := leC_ok hf hc
      exact decide_eq_false (by omega)
    · cases h
/-- Tests that come out by their looks. -/
def synEq (a b : E) : Option Bool := if a.eqb b then some true else none
theorem synEq_ok {ρ : List Int} {a b : E} (t : Bool) (h : synEq a b = some t) : denB ρ (.eq a b) = t := by
  unfold synEq at h
  split at h
  · rename_i he
    simp only [Option.some.injEq] at h; subst h
    rw [E.eqb_eq he]; simp [denB]
  · cases h
def synLt (a b : E) : Option Bool := if a.eqb b then some false else none
theorem synLt_ok {ρ : List Int} {a b : E} (t : Bool) (h : synLt a b = some t) : denB ρ (.lt a b) = t := by
  unfold synLt at h
  split at h
  · rename_i he
    simp only [Option.some.injEq] at h; subst h
    rw [E.eqb_eq he]; simp [denB]
  · cases h
def synLe (a b : E) : Option Bool := if a.eqb b then some true else match a with
  | .mn x y => if x.eqb b || y.eqb b then some true else none
  | _ => match b with
    | .mx x y => if a.eqb x || a.eqb y then some true else none
    | _ => none
theorem synLe_ok {ρ : List Int} {a b : E} (t : Bool) (h : synLe a b = some t) : denB ρ (.le a b) = t := by
  unfold synLe at h
  split at h
  · rename_i he
    simp only [Option.some.injEq] at h; subst h
    rw [E.eqb_eq he]; simp [denB]
  · split at h
    · split at h
      · rename_i hc
        simp only [Option.some.injEq] at h; subst h
        simp only [Bool.or_eq_true] at hc
        refine decide_eq_true ?_
        simp only [den]
        rcases hc with hc | hc <;> (have e := E.eqb_eq hc; subst e; split <;> omega)
      · cases h
    · split at h
      · split at h
        · rename_i hc
          simp only [Option.some.injEq] at h; subst h
          simp only [Bool.or_eq_true] at hc
          refine decide_eq_true ?_
          simp only [den]
          rcases hc with hc | hc <;> (have e := E.eqb_eq hc; subst e; split <;> omega)
        · cases h
      · cases h
def synIff (a b : B) : Option Bool := if a.eqb b then some true else none
theorem synIff_ok {ρ : List Int} {a b : B} (t : Bool) (h : synIff a b = some t) : denB ρ (.iff a b) = t := by
  unfold synIff at h
  split at h
  · rename_i he
    simp only [Option.some.injEq] at h; subst h
    rw [B.eqb_eq he]; simp [denB]
  · cases h
def decB (fx : Fx) : B → Option Bool
  | .lit b => some b
  | .eq a b => orB (synEq a b) (orB (lookB fx.bs (.eq a b)) (decEq2 (iv fx a) (iv fx b)))
  | .le a b => orB (synLe a b) (orB (orB (lookB fx.bs (.le a b)) (decLe2 (iv fx a) (iv fx b))) (linLe fx a b))
  | .lt a b => orB (synLt a b) (orB (orB (lookB fx.bs (.lt a b)) (decLt2 (iv fx a) (iv fx b))) (linLt fx a b))
  | .nz a => orB (lookB fx.bs (.nz a)) ((decEq2 (iv fx a) (some (0, 0))).map (!·))
  | .not a => (decB fx a).map (!·)
  | .and a b => orB (decAnd2 (decB fx a) (decB fx b)) (lookB fx.bs (.and a b))
  | .or a b => orB (decOr2 (decB fx a) (decB fx b)) (lookB fx.bs (.or a b))
  | .iff a b => orB (synIff a b) (orB (lookB fx.bs (.iff a b)) (decIff2 (decB fx a) (decB fx b)))
theorem decB_ok {ρ : List Int} {fx : Fx} (hf : FxOK ρ fx) (b : B) : ∀ t, decB fx b = some t → denB ρ b = t := by
  induction b with
  | lit b => intro t h; simp only [decB, Option.some.injEq] at h; exact h
  | eq a b => exact orB_ok synEq_ok (orB_ok (fun t h => lookB_ok _ hf.2 h) (fun t h => decEq2_ok (iv_in hf a) (iv_in hf b) t h))
  | le a b => exact orB_ok synLe_ok (orB_ok (orB_ok (fun t h => lookB_ok _ hf.2 h) (fun t h => decLe2_ok (iv_in hf a) (iv_in hf b) t h)) (linLe_ok hf))
  | lt a b => exact orB_ok synLt_ok (orB_ok (orB_ok (fun t h => lookB_ok _ hf.2 h) (fun t h => decLt2_ok (iv_in hf a) (iv_in hf b) t h)) (linLt_ok hf))
  | nz a =>
    refine orB_ok (fun t h => lookB_ok _ hf.2 h) (fun t h => ?_)
    cases he : decEq2 (iv fx a) (some (0, 0)) with
    | none => rw [he] at h; simp at h
    | some u =>
      rw [he] at h
      have := decEq2_ok (iv_in hf a) (j := some (0, 0)) (y := 0) ⟨Int.le_refl _, Int.le_refl _⟩ u he
      simp only [Option.map_some, Option.some.injEq] at h
      rw [← h, ← this]; simp [denB]
  | not a ih =>
    intro t h
    cases ha : decB fx a with
    | none => rw [decB, ha] at h; simp at h
    | some u =>
      rw [decB, ha] at h
      simp only [Option.map_some, Option.some.injEq] at h
      rw [denB, ih u ha, h]
  | and a b iha ihb => exact orB_ok (fun t h => decAnd2_ok iha ihb t h) (fun t h => lookB_ok _ hf.2 h)
  | or a b iha ihb => exact orB_ok (fun t h => decOr2_ok iha ihb t h) (fun t h => lookB_ok _ hf.2 h)
  | iff a b iha ihb => exact orB_ok synIff_ok (orB_ok (fun t h => lookB_ok _ hf.2 h) (fun t h => decIff2_ok iha ihb t h))
/-- Whether a choice between two numbers is one of them. -/
def swEq : E → E → B
  | .sw i k (.lit x) (.lit y), .lit z => if x = z ∧ y ≠ z then .eq i (.lit k) else if x ≠ z ∧ y = z then .not (.eq i (.lit k)) else .eq (.sw i k (.lit x) (.lit y)) (.lit z)
  | a, b => .eq a b
theorem den_swEq (ρ : List Int) (a b : E) : denB ρ (swEq a b) = denB ρ (.eq a b) := by
  unfold swEq
  split
  · rename_i i k x y z
    split
    · rename_i h
      show decide (den ρ i = k) = decide ((if den ρ i = k then x else y) = z)
      by_cases e : den ρ i = k <;> simp [e, h]
    · split
      · rename_i h
        show (!decide (den ρ i = k)) = decide ((if den ρ i = k then x else y) = z)
        by_cases e : den ρ i = k <;> simp [e, h]
      · rfl
  · rfl
/-- A test, as short as it can be said. -/
def shortB (fx : Fx) : B → B
  | .and a b => match decB fx a, decB fx b with
    | some true, _ => b
    | _, some true => a
    | _, _ => .and a b
  | .or a b => match decB fx a, decB fx b with
    | some false, _ => b
    | _, some false => a
    | _, _ => .or a b
  | .iff a b => match decB fx a, decB fx b with
    | some true, _ => b
    | some false, _ => .not b
    | _, some true => a
    | _, some false => .not a
    | _, _ => .iff a b
  | .not (.not a) => a
  | .not (.lt a b) => .le b a
  | .not (.le a b) => .lt b a
  | .eq a b => swEq a b
  | .not (.eq a b) => match swEq a b with
    | .not c => c
    | c => .not c
  | b => b
theorem den_shortB {ρ : List Int} {fx : Fx} (hf : FxOK ρ fx) (b : B) : denB ρ (shortB fx b) = denB ρ b := by
  unfold shortB
  split
  · split
    · rename_i h; simp [denB, decB_ok hf _ _ h]
    · rename_i h _; simp [denB, decB_ok hf _ _ h]
    · rfl
  · split
    · rename_i h; simp [denB, decB_ok hf _ _ h]
    · rename_i h _; simp [denB, decB_ok hf _ _ h]
    · rfl
  · split
    · rename_i h; simp [denB, decB_ok hf _ _ h]
    · rename_i h; simp [denB, decB_ok hf _ _ h]
    · rename_i h _ _; simp [denB, decB_ok hf _ _ h]
    · rename_i h _ _; simp [denB, decB_ok hf _ _ h]
    · rfl
  · simp [denB]
  · rename_i a b
    simp only [denB]
    by_cases h : den ρ a < den ρ b
    · rw [decide_eq_true h, decide_eq_false (by omega)]; rfl
    · rw [decide_eq_false h, decide_eq_true (by omega)]; rfl
  · rename_i a b
    simp only [denB]
    by_cases h : den ρ a ≤ den ρ b
    · rw [decide_eq_true h, decide_eq_false (by omega)]; rfl
    · rw [decide_eq_false h, decide_eq_true (by omega)]; rfl
  · exact den_swEq ρ _ _
  · rename_i a b
    have h := den_swEq ρ a b
    split
    · rename_i c hc
      rw [hc] at h
      simp only [denB] at h ⊢
      rw [← h]; simp
    · simp only [denB] at h ⊢
      rw [h]
  · rfl
def nrmB (fx : Fx) (b : B) : B := match decB fx b with | some t => .lit t | none => shortB fx b
theorem den_nrmB {ρ : List Int} {fx : Fx} (hf : FxOK ρ fx) (b : B) : denB ρ (nrmB fx b) = denB ρ b := by
  unfold nrmB
  cases h : decB fx b with
  | none => exact den_shortB hf b
  | some t => simp [denB, decB_ok hf b t h]

/-- What is known once a test has come out. -/
def isLit : E → Bool
  | .lit _ => true
  | _ => false
def addIv0 (fx : Fx) (e : E) (i : Iv) : Fx := if isLit e then fx else match meet (iv fx e) i with
  | some (l, h) => { fx with iv := fx.iv.put (e, l, h) }
  | none => fx
theorem addIv0_ok {ρ : List Int} {fx : Fx} (hf : FxOK ρ fx) {e : E} {i : Iv} (h : InIv (den ρ e) i) : FxOK ρ (addIv0 fx e i) := by
  unfold addIv0
  split
  · exact hf
  · have := meet_in (iv_in hf e) h
    split
    · rename_i l h' he
      rw [he] at this
      exact ⟨hf.1.put this, hf.2⟩
    · exact hf
def capU : Iv → Int → Iv
  | some (l, h), u => some (l, mn2 h u)
  | none, _ => none
def capL : Iv → Int → Iv
  | some (l, h), u => some (mx2 l u, h)
  | none, _ => none
theorem capU_in {x u : Int} {i : Iv} (h : InIv x i) (hu : x ≤ u) : InIv x (capU i u) := by
  cases i with
  | none => trivial
  | some p => exact ⟨h.1, by have := h.2; show x ≤ mn2 p.2 u; unfold mn2; split <;> omega⟩
theorem capL_in {x u : Int} {i : Iv} (h : InIv x i) (hu : u ≤ x) : InIv x (capL i u) := by
  cases i with
  | none => trivial
  | some p => exact ⟨by have := h.1; show mx2 p.1 u ≤ x; unfold mx2; split <;> omega, h.2⟩
/-- What is known of the greatest of some numbers is known of each of them. -/
def spread : E → Fx → Fx
  | .mx a b, fx => match iv fx (.mx a b) with
    | some (_, h) => spread b (addIv0 (spread a (addIv0 fx a (capU (iv fx a) h))) b (capU (iv fx b) h))
    | none => fx
  | .mn a b, fx => match iv fx (.mn a b) with
    | some (l, _) => spread b (addIv0 (spread a (addIv0 fx a (capL (iv fx a) l))) b (capL (iv fx b) l))
    | none => fx
  | _, fx => fx
theorem spread_ok {ρ : List Int} : ∀ (e : E) (fx : Fx), FxOK ρ fx → FxOK ρ (spread e fx)
  | .mx a b, fx, hf => by
    unfold spread
    have h := iv_in hf (.mx a b)
    split
    · rename_i l u he
      rw [he] at h
      have h2 : den ρ (.mx a b) ≤ u := h.2
      simp only [den] at h2
      have ha : den ρ a ≤ u := by split at h2 <;> omega
      have hb : den ρ b ≤ u := by split at h2 <;> omega
      exact spread_ok b _ (addIv0_ok (spread_ok a _ (addIv0_ok hf (capU_in (iv_in hf a) ha))) (capU_in (iv_in hf b) hb))
    · exact hf
  | .mn a b, fx, hf => by
    unfold spread
    have h := iv_in hf (.mn a b)
    split
    · rename_i l u he
      rw [he] at h
      have h2 : l ≤ den ρ (.mn a b) := h.1
      simp only [den] at h2
      have ha : l ≤ den ρ a := by split at h2 <;> omega
      have hb : l ≤ den ρ b := by split at h2 <;> omega
      exact spread_ok b _ (addIv0_ok (spread_ok a _ (addIv0_ok hf (capL_in (iv_in hf a) ha))) (capL_in (iv_in hf b) hb))
    · exact hf
  | .lit _, _, hf | .v _, _, hf | .add _ _, _, hf | .sub _ _, _, hf | .mul _ _, _, hf | .quo _ _, _, hf | .rem _ _, _, hf | .sw _ _ _ _, _, hf | .wr _ _, _, hf => hf
def addIv (fx : Fx) (e : E) (i : Iv) : Fx := spread e (addIv0 fx e i)
theorem addIv_ok {ρ : List Int} {fx : Fx} (hf : FxOK ρ fx) {e : E} {i : Iv} (h : InIv (den ρ e) i) : FxOK ρ (addIv fx e i) := spread_ok e _ (addIv0_ok hf h)
/-- The two intervals behind a test that has come out, off the two before it. -/
def leT : Iv → Iv → Iv × Iv
  | some (l, h), some (l', h') => (some (l, mn2 h h'), some (mx2 l l', h'))
  | i, j => (i, j)
def ltT : Iv → Iv → Iv × Iv
  | some (l, h), some (l', h') => (some (l, mn2 h (h' - 1)), some (mx2 (l + 1) l', h'))
  | i, j => (i, j)
def neT : Iv → Iv → Iv
  | some (l, h), some (l', h') => if l' = h' then some (if l = l' then l + 1 else l, if h = l' then h - 1 else h) else some (l, h)
  | i, _ => i
theorem leT_ok {x y : Int} {i j : Iv} (hi : InIv x i) (hj : InIv y j) (h : x ≤ y) : InIv x (leT i j).1 ∧ InIv y (leT i j).2 := by
  match i, j with
  | none, _ => exact ⟨hi, hj⟩
  | some _, none => exact ⟨hi, hj⟩
  | some (l, h1), some (l', h2) =>
    simp only [leT, InIv, mn2, mx2] at *
    refine ⟨⟨?_, ?_⟩, ?_, ?_⟩ <;> (repeat' split) <;> omega
theorem ltT_ok {x y : Int} {i j : Iv} (hi : InIv x i) (hj : InIv y j) (h : x < y) : InIv x (ltT i j).1 ∧ InIv y (ltT i j).2 := by
  match i, j with
  | none, _ => exact ⟨hi, hj⟩
  | some _, none => exact ⟨hi, hj⟩
  | some (l, h1), some (l', h2) =>
    simp only [ltT, InIv, mn2, mx2] at *
    refine ⟨⟨?_, ?_⟩, ?_, ?_⟩ <;> (repeat' split) <;> omega
theorem neT_ok {x y : Int} {i j : Iv} (hi : InIv x i) (hj : InIv y j) (h : x ≠ y) : InIv x (neT i j) := by
  match i, j, hi, hj with
  | none, _, hi, _ => exact hi
  | some _, none, hi, _ => exact hi
  | some (l, h1), some (l', h2), hi, hj =>
    have hi' : l ≤ x ∧ x ≤ h1 := hi
    have hj' : l' ≤ y ∧ y ≤ h2 := hj
    show InIv x (if l' = h2 then some (if l = l' then l + 1 else l, if h1 = l' then h1 - 1 else h1) else some (l, h1))
    split
    · show _ ∧ _
      constructor <;> split <;> omega
    · exact hi
def add2 (fx : Fx) (a b : E) (p : Iv × Iv) : Fx := addIv (addIv fx a p.1) b p.2
theorem add2_ok {ρ : List Int} {fx : Fx} (hf : FxOK ρ fx) {a b : E} {p : Iv × Iv} (h : InIv (den ρ a) p.1 ∧ InIv (den ρ b) p.2) : FxOK ρ (add2 fx a b p) :=
  addIv_ok (addIv_ok hf h.1) h.2
def refine1 (fx : Fx) : B → Bool → Fx
  | .le a b, true => add2 fx a b (leT (iv fx a) (iv fx b))
  | .le a b, false => add2 fx b a (ltT (iv fx b) (iv fx a))
  | .lt a b, true => add2 fx a b (ltT (iv fx a) (iv fx b))
  | .lt a b, false => add2 fx b a (leT (iv fx b) (iv fx a))
  | .eq a b, true => add2 fx a b (iv fx b, iv fx a)
  | .eq a b, false => add2 fx a b (neT (iv fx a) (iv fx b), neT (iv fx b) (iv fx a))
  | .nz a, true => addIv fx a (neT (iv fx a) (some (0, 0)))
  | .nz a, false => addIv fx a (some (0, 0))
  | _, _ => fx
theorem refine1_ok {ρ : List Int} {fx : Fx} (hf : FxOK ρ fx) (b : B) (t : Bool) (h : denB ρ b = t) : FxOK ρ (refine1 fx b t) := by
  cases b with
  | le a b =>
    cases t <;> simp only [denB, decide_eq_true_eq, decide_eq_false_iff_not] at h
    · exact add2_ok hf (ltT_ok (iv_in hf _) (iv_in hf _) (by omega))
    · exact add2_ok hf (leT_ok (iv_in hf _) (iv_in hf _) h)
  | lt a b =>
    cases t <;> simp only [denB, decide_eq_true_eq, decide_eq_false_iff_not] at h
    · exact add2_ok hf (leT_ok (iv_in hf _) (iv_in hf _) (by omega))
    · exact add2_ok hf (ltT_ok (iv_in hf _) (iv_in hf _) h)
  | eq a b =>
    cases t <;> simp only [denB, decide_eq_true_eq, decide_eq_false_iff_not] at h
    · exact add2_ok hf ⟨neT_ok (iv_in hf _) (iv_in hf _) h, neT_ok (iv_in hf _) (iv_in hf _) (Ne.symm h)⟩
    · exact add2_ok hf ⟨by rw [h]; exact iv_in hf _, by rw [← h]; exact iv_in hf _⟩
  | nz a =>
    cases t <;> simp only [denB, decide_eq_true_eq, decide_eq_false_iff_not] at h
    · exact addIv_ok hf (by simp only [InIv]; omega)
    · exact addIv_ok hf (neT_ok (iv_in hf _) (j := some (0, 0)) (y := 0) ⟨Int.le_refl _, Int.le_refl _⟩ h)
  | _ => exact hf
def assume (fx : Fx) (b : B) (t : Bool) : Fx := match b, t with
  | .not a, t => assume fx a !t
  | .and a b, true => assume (assume fx a true) b true
  | .or a b, false => assume (assume fx a false) b false
  | b, t => refine1 { fx with bs := (b, t) :: fx.bs } b t
theorem addB_ok {ρ : List Int} {fx : Fx} (hf : FxOK ρ fx) {b : B} {t : Bool} (h : denB ρ b = t) : FxOK ρ { fx with bs := (b, t) :: fx.bs } :=
  ⟨hf.1, fun p hp => by
    rcases List.mem_cons.1 hp with rfl | hp
    · exact h
    · exact hf.2 p hp⟩
theorem assume_ok {ρ : List Int} (b : B) : ∀ (fx : Fx) (t : Bool), FxOK ρ fx → denB ρ b = t → FxOK ρ (assume fx b t) := by
  induction b with
  | not a ih => intro fx t hf h; exact ih fx (!t) hf (by simp only [denB] at h; rw [← h]; simp)
  | and a b iha ihb =>
    intro fx t hf h
    cases t
    · exact refine1_ok (addB_ok hf h) _ _ h
    · simp only [denB, Bool.and_eq_true] at h
      exact ihb _ _ (iha _ _ hf h.1) h.2
  | or a b iha ihb =>
    intro fx t hf h
    cases t
    · simp only [denB, Bool.or_eq_false_iff] at h
      exact ihb _ _ (iha _ _ hf h.1) h.2
    · exact refine1_ok (addB_ok hf h) _ _ h
  | lit b => intro fx t hf h; exact refine1_ok (addB_ok hf h) _ _ h
  | eq a b => intro fx t hf h; exact refine1_ok (addB_ok hf h) _ _ h
  | le a b => intro fx t hf h; exact refine1_ok (addB_ok hf h) _ _ h
  | lt a b => intro fx t hf h; exact refine1_ok (addB_ok hf h) _ _ h
  | nz a => intro fx t hf h; exact refine1_ok (addB_ok hf h) _ _ h
  | iff a b => intro fx t hf h; exact refine1_ok (addB_ok hf h) _ _ h
/-! ### Tests as numbers -/
def bE : B → E
  | .lit true => .lit 1
  | .lit false => .lit 0
  | .nz e => e
  | .eq a b => match b with
    | .lit z => .sw a z (.lit 1) (.lit 0)
    | _ => .sw (.sub a b) 0 (.lit 1) (.lit 0)
  | .le a b => .sw (.mx (.sub a b) (.lit 0)) 0 (.lit 1) (.lit 0)
  | .lt a b => .sw (.mx (.sub b a) (.lit 0)) 0 (.lit 0) (.lit 1)
  | .not b => .sw (bE b) 0 (.lit 1) (.lit 0)
  | .and a b => .sw (bE a) 0 (.lit 0) (bE b)
  | .or a b => .sw (bE a) 0 (bE b) (.lit 1)
  | .iff a b => .sw (bE a) 0 (.sw (bE b) 0 (.lit 1) (.lit 0)) (.sw (bE b) 0 (.lit 0) (.lit 1))
theorem bE_ok (ρ : List Int) : ∀ b, decide (den ρ (bE b) ≠ 0) = denB ρ b
  | .lit true => rfl
  | .lit false => rfl
  | .nz e => rfl
  | .eq a b => by
    unfold bE
    split
    · simp only [den, denB]; split <;> rename_i h <;> simp [h]
    · show decide ((if den ρ a - den ρ b = 0 then (1 : Int) else 0) ≠ 0) = decide (den ρ a = den ρ b)
      generalize den ρ a = x
      generalize den ρ b = y
      by_cases h : x = y
      · simp [h]
      · rw [if_neg (by omega)]; simp [h]
  | .le a b => by
    show decide ((if (if den ρ a - den ρ b < 0 then (0 : Int) else den ρ a - den ρ b) = 0 then (1 : Int) else 0) ≠ 0) = decide (den ρ a ≤ den ρ b)
    generalize den ρ a = x
    generalize den ρ b = y
    by_cases h : x ≤ y
    · rw [if_pos (by split <;> omega)]; simp [h]
    · rw [if_neg (by split <;> omega)]; simp [h]
  | .lt a b => by
    show decide ((if (if den ρ b - den ρ a < 0 then (0 : Int) else den ρ b - den ρ a) = 0 then (0 : Int) else 1) ≠ 0) = decide (den ρ a < den ρ b)
    generalize den ρ a = x
    generalize den ρ b = y
    by_cases h : x < y
    · rw [if_neg (by split <;> omega)]; simp [h]
    · rw [if_pos (by split <;> omega)]; simp [h]
  | .not b => by
    have h := bE_ok ρ b
    simp only [bE, den, denB]
    rw [← h]
    by_cases e : den ρ (bE b) = 0 <;> simp [e]
  | .and a b => by
    have h := bE_ok ρ a
    have h' := bE_ok ρ b
    simp only [bE, den, denB]
    rw [← h, ← h']
    by_cases e : den ρ (bE a) = 0 <;> simp [e]
  | .or a b => by
    have h := bE_ok ρ a
    have h' := bE_ok ρ b
    simp only [bE, den, denB]
    rw [← h, ← h']
    by_cases e : den ρ (bE a) = 0 <;> simp [e]
  | .iff a b => by
    have h := bE_ok ρ a
    have h' := bE_ok ρ b
    simp only [bE, den, denB]
    rw [← h, ← h']
    by_cases e : den ρ (bE a) = 0 <;> by_cases e' : den ρ (bE b) = 0 <;> simp [e, e']
end Go.Proofs.Ytnnnmdmniceenaa.Ev
