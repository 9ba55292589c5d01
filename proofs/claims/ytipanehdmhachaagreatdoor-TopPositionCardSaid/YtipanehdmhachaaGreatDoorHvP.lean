/- Chapter 8: what a vote is, and its laws, in plain Lean. -/
import Derived.Test.YtipanehdmhachaaGreatDoorKaC
set_option linter.unusedSimpArgs false
set_option linter.unusedVariables false
namespace Go.Proofs.YtipanehdmhachaaGreatDoor.H
def okP (x y : Int) : Bool := decide (-100000000 ≤ x ∧ x ≤ 100000000 ∧ -100000000 ≤ y ∧ y ≤ 100000000)
def boxP (x y u v : Int) : Int := if okP x y && okP u v then max (max (x - u) (u - x)) (max (y - v) (v - y)) else 0
def boxE (x y u v : Int) : Int := if okP x y && okP u v then 0 else 1
def cmpI (a b : Int) : Int := if a < b then -1 else if b < a then 1 else 0
structure Fx where
  t : Int
  x : Int
  y : Int
  e : Int
def agP (a b : Fx) : Bool := decide (boxE a.x a.y b.x b.y = 0 ∧ 0 ≤ a.e ∧ a.e ≤ 100000 ∧ 0 ≤ b.e ∧ b.e ≤ 100000 ∧ boxP a.x a.y b.x b.y ≤ a.e + b.e)
theorem agP_iff (a b : Fx) : agP a b = true ↔ (okP a.x a.y = true ∧ okP b.x b.y = true ∧ 0 ≤ a.e ∧ a.e ≤ 100000 ∧ 0 ≤ b.e ∧ b.e ≤ 100000 ∧ a.x - b.x ≤ a.e + b.e ∧ b.x - a.x ≤ a.e + b.e ∧ a.y - b.y ≤ a.e + b.e ∧ b.y - a.y ≤ a.e + b.e) := by
  unfold agP boxE boxP
  simp only [decide_eq_true_eq]
  cases h1 : okP a.x a.y <;> cases h2 : okP b.x b.y <;> simp <;> omega
theorem agP_symm (a b : Fx) : agP a b = agP b a := by
  rw [Bool.eq_iff_iff, agP_iff, agP_iff]
  constructor <;> (rintro ⟨h1, h2, h3⟩; exact ⟨h2, h1, by omega⟩)
instance : Inhabited Fx := ⟨⟨0, 0, 0, 0⟩⟩
def atF (l : List Fx) (i : Int) : Fx := l.getD i.toNat default
def inR (n : Nat) (i : Int) : Bool := decide (0 ≤ i ∧ i < n)
/-- Some references agree, each two of them. -/
def clqP (l : List Fx) (m : List Int) : Bool := decide (m.Pairwise (· < ·)) && m.all (inR l.length) && m.all fun a => m.all fun b => agP (atF l a) (atF l b)
theorem clqP_iff (l : List Fx) (m : List Int) : clqP l m = true ↔ m.Pairwise (· < ·) ∧ (∀ a ∈ m, 0 ≤ a ∧ a < l.length) ∧ ∀ a ∈ m, ∀ b ∈ m, agP (atF l a) (atF l b) = true := by
  unfold clqP inR
  simp only [Bool.and_eq_true, decide_eq_true_eq, List.all_eq_true, and_assoc]
theorem clqP_sub {l : List Fx} {m m' : List Int} (h : clqP l m = true) (hs : m'.Sublist m) : clqP l m' = true := by
  rw [clqP_iff] at *
  exact ⟨h.1.sublist hs, fun a ha => h.2.1 a (hs.subset ha), fun a ha b hb => h.2.2 a (hs.subset ha) b (hs.subset hb)⟩
/-- What the program asks of one more. -/
def moreP (l : List Fx) (m : List Int) (a : Int) : Bool := inR l.length a && (match m.getLast? with | none => true | some b => decide (b < a)) && (m ++ [a]).all fun b => agP (atF l a) (atF l b)
theorem clqP_snoc (l : List Fx) (m : List Int) (a : Int) : clqP l (m ++ [a]) = (clqP l m && moreP l m a) := by
  rw [Bool.eq_iff_iff, Bool.and_eq_true, clqP_iff, clqP_iff]
  unfold moreP inR
  simp only [Bool.and_eq_true, decide_eq_true_eq, List.all_eq_true, List.pairwise_append, List.mem_append, List.mem_singleton]
  constructor
  · rintro ⟨⟨h1, -, h2⟩, h3, h4⟩
    refine ⟨⟨h1, fun b hb => h3 b (.inl hb), fun b hb d hd => h4 b (.inl hb) d (.inl hd)⟩, ⟨h3 a (.inr rfl), ?_⟩, fun b hb => h4 a (.inr rfl) b hb⟩
    cases hg : m.getLast? with
    | none => rfl
    | some b => exact decide_eq_true (h2 b (List.mem_of_getLast? hg) a rfl)
  · rintro ⟨⟨h1, h2, h3⟩, ⟨h4, h5⟩, h6⟩
    refine ⟨⟨h1, List.pairwise_singleton _ _, fun b hb d hd => ?_⟩, fun b hb => ?_, fun b hb d hd => ?_⟩
    · subst hd
      rcases List.eq_nil_or_concat m with rfl | ⟨m', z, rfl⟩
      · cases hb
      · simp only [List.concat_eq_append, List.getLast?_concat, decide_eq_true_eq, List.mem_append, List.mem_singleton, List.pairwise_append] at h1 h5 hb
        rcases hb with hb | rfl
        · have := h1.2.2 b hb z rfl; omega
        · exact h5
    · rcases hb with hb | rfl
      · exact h2 b hb
      · exact h4
    · rcases hb with hb | rfl
      · rcases hd with hd | rfl
        · exact h3 b hb d hd
        · rw [agP_symm]; exact h6 b (.inl hb)
      · exact h6 d hd
theorem clqP_take {l : List Fx} {m : List Int} {i : Nat} (h : clqP l (m.take i) = false) : clqP l m = false := by
  cases hm : clqP l m
  · rfl
  · rw [clqP_sub hm (List.take_sublist i m)] at h; cases h
/-- The elements with some indices. -/
def pickP (c m : List Int) : List Int := m.filterMap fun i => if 0 ≤ i then c[i.toNat]? else none
/-- A number put into a sorted list. -/
def insI (l : List Int) (p : Int) : List Int := match l with
  | [] => [p]
  | x :: l => if x < p then x :: insI l p else if x = p then x :: l else p :: x :: l
def cauP (c m : List Int) : List Int := (pickP c m).foldl insI []
abbrev Str (l : List Int) : Prop := l.Pairwise (· < ·)
theorem insI_mem (p v : Int) : ∀ l, v ∈ insI l p ↔ v = p ∨ v ∈ l
  | [] => by simp [insI]
  | x :: l => by
    have ih := insI_mem p v l
    unfold insI
    split
    · simp only [List.mem_cons, ih]; grind
    · split
      · simp only [List.mem_cons]; grind
      · simp only [List.mem_cons]
theorem insI_str (p : Int) : ∀ {l}, Str l → Str (insI l p)
  | [], _ => by simp [insI, Str]
  | x :: l, h => by
    have h' := List.pairwise_cons.1 h
    unfold insI
    split
    · refine List.pairwise_cons.2 ⟨fun v hv => ?_, insI_str p h'.2⟩
      rcases (insI_mem p v l).1 hv with rfl | hv
      · assumption
      · exact h'.1 v hv
    · split
      · exact h
      · refine List.pairwise_cons.2 ⟨fun v hv => ?_, h⟩
        rcases List.mem_cons.1 hv with rfl | hv
        · omega
        · have := h'.1 v hv; omega
theorem fold_ins (v : Int) : ∀ (m l : List Int), Str l → Str (m.foldl insI l) ∧ (v ∈ m.foldl insI l ↔ v ∈ l ∨ v ∈ m)
  | [], l, h => by simp [h]
  | p :: m, l, h => by
    have ih := fold_ins v m (insI l p) (insI_str p h)
    simp only [List.foldl_cons, List.mem_cons]
    refine ⟨ih.1, ih.2.trans ?_⟩
    rw [insI_mem]; grind
theorem cauP_str (c m : List Int) : Str (cauP c m) := (fold_ins 0 _ [] .nil).1
theorem cauP_mem (c m : List Int) (v : Int) : v ∈ cauP c m ↔ v ∈ pickP c m := by
  have := (fold_ins v (pickP c m) [] .nil).2
  simpa [cauP] using this
/-- Strictly sorted lists with the same members are the same. -/
theorem str_ext : ∀ {a b : List Int}, Str a → Str b → (∀ v, v ∈ a ↔ v ∈ b) → a = b
  | [], [], _, _, _ => rfl
  | [], y :: b, _, _, h => by have := (h y).2 (by simp); simp at this
  | x :: a, [], _, _, h => by have := (h x).1 (by simp); simp at this
  | x :: a, y :: b, ha, hb, h => by
    have ha' := List.pairwise_cons.1 ha
    have hb' := List.pairwise_cons.1 hb
    have e : x = y := by
      have h1 := (h x).1 (by simp)
      have h2 := (h y).2 (by simp)
      rcases List.mem_cons.1 h1 with e | h1
      · exact e
      · rcases List.mem_cons.1 h2 with e | h2
        · exact e.symm
        · have := ha'.1 y h2; have := hb'.1 x h1; omega
    subst e
    rw [str_ext ha'.2 hb'.2 fun v => ?_]
    constructor
    · intro hv
      rcases List.mem_cons.1 ((h v).1 (by simp [hv])) with e | h1
      · have := ha'.1 v hv; omega
      · exact h1
    · intro hv
      rcases List.mem_cons.1 ((h v).2 (by simp [hv])) with e | h1
      · have := hb'.1 v hv; omega
      · exact h1
/-- Neighbours that are equal cut down to one. -/
def dedI : List Int → List Int
  | a :: b :: l => if a = b then dedI (b :: l) else a :: dedI (b :: l)
  | l => l
theorem dedI_mem (v : Int) : ∀ l, v ∈ dedI l ↔ v ∈ l
  | [] => by simp [dedI]
  | [a] => by simp [dedI]
  | a :: b :: l => by
    have ih := dedI_mem v (b :: l)
    unfold dedI
    split
    · rename_i e; subst e; rw [ih]; simp
    · rw [List.mem_cons, ih]; simp
theorem dedI_str : ∀ {l : List Int}, l.Pairwise (· ≤ ·) → Str (dedI l)
  | [], _ => by simp [dedI, Str]
  | [a], _ => by simp [dedI, Str]
  | a :: b :: l, h => by
    have h' := List.pairwise_cons.1 h
    unfold dedI
    split
    · exact dedI_str h'.2
    · refine List.pairwise_cons.2 ⟨fun v hv => ?_, dedI_str h'.2⟩
      have hv' := (dedI_mem v (b :: l)).1 hv
      have hb := List.pairwise_cons.1 h'.2
      have := h'.1 b (by simp)
      rcases List.mem_cons.1 hv' with rfl | hv'
      · omega
      · have := hb.1 v hv'; omega
/-- The positions of the bits of a number. -/
def bitL (n k : Nat) : List Int := ((List.range n).filter fun i => k.testBit i).map Int.ofNat
theorem bitL_mem (n k : Nat) (v : Int) : v ∈ bitL n k ↔ ∃ i, i < n ∧ k.testBit i = true ∧ v = i := by
  unfold bitL
  simp only [List.mem_map, List.mem_filter, List.mem_range]
  constructor
  · rintro ⟨i, ⟨h1, h2⟩, rfl⟩; exact ⟨i, h1, h2, rfl⟩
  · rintro ⟨i, h1, h2, rfl⟩; exact ⟨i, ⟨h1, h2⟩, rfl⟩
theorem bitL_str (n k : Nat) : Str (bitL n k) := by
  unfold bitL Str
  rw [List.pairwise_map]
  refine (List.Pairwise.filter _ List.pairwise_lt_range).imp fun h => ?_
  exact Int.ofNat_lt.2 h
theorem bitL_eq {n n' k : Nat} (h : k < 2 ^ n) (hn : n ≤ n') : bitL n' k = bitL n k := by
  refine str_ext (bitL_str _ _) (bitL_str _ _) fun v => ?_
  rw [bitL_mem, bitL_mem]
  constructor
  · rintro ⟨i, h1, h2, rfl⟩
    refine ⟨i, ?_, h2, rfl⟩
    refine Classical.byContradiction fun hi => ?_
    rw [Nat.testBit_lt_two_pow (Nat.lt_of_lt_of_le h (Nat.pow_le_pow_right (by omega) (by omega)))] at h2; cases h2
  · rintro ⟨i, h1, h2, rfl⟩; exact ⟨i, by omega, h2, rfl⟩
/-- Each set of numbers below n is that of a number's bits. -/
theorem bits_ex (p : Nat → Bool) : ∀ n, ∃ k, k < 2 ^ n ∧ ∀ i, i < n → k.testBit i = p i
  | 0 => ⟨0, by simp, fun i h => by omega⟩
  | n + 1 => by
    obtain ⟨k, h1, h2⟩ := bits_ex p n
    cases hp : p n
    · refine ⟨k, by rw [Nat.pow_succ]; omega, fun i hi => ?_⟩
      by_cases e : i = n
      · subst e; rw [hp]; exact Nat.testBit_lt_two_pow h1
      · exact h2 i (by omega)
    · refine ⟨2 ^ n + k, by rw [Nat.pow_succ]; omega, fun i hi => ?_⟩
      by_cases e : i = n
      · subst e; rw [hp, Nat.testBit_two_pow_add_eq, Nat.testBit_lt_two_pow h1]; rfl
      · rw [Nat.testBit_two_pow_add_gt (by omega)]; exact h2 i (by omega)
theorem bits_inj {n k k' : Nat} (h : k < 2 ^ n) (h' : k' < 2 ^ n) (he : bitL n k = bitL n k') : k = k' := by
  refine Nat.eq_of_testBit_eq fun i => ?_
  by_cases hi : i < n
  · have h1 := bitL_mem n k i
    have h2 := bitL_mem n k' i
    rw [he] at h1
    have h3 := h1.symm.trans h2
    have g : ∀ q : Nat, (∃ j, j < n ∧ q.testBit j = true ∧ (i : Int) = j) ↔ q.testBit i = true := fun q =>
      ⟨fun ⟨j, _, h, e⟩ => by have : i = j := by omega
                              subst this; exact h, fun h => ⟨i, hi, h, rfl⟩⟩
    rw [g, g] at h3
    exact Bool.eq_iff_iff.2 h3
  · rw [Nat.testBit_lt_two_pow (Nat.lt_of_lt_of_le h (Nat.pow_le_pow_right (by omega) (by omega))), Nat.testBit_lt_two_pow (Nat.lt_of_lt_of_le h' (Nat.pow_le_pow_right (by omega) (by omega)))]
/-- Members and their causes. -/
abbrev VS := List Int × List Int
def setP (c : List Int) (n k : Nat) : VS := (bitL n k, cauP c (bitL n k))
def setsP (c : List Int) (l : List Fx) : List VS := ((List.range (2 ^ l.length)).filter fun k => clqP l (bitL l.length k)).map (setP c l.length)
theorem setsP_mem (c : List Int) (l : List Fx) (x : VS) : x ∈ setsP c l ↔ ∃ k, k < 2 ^ l.length ∧ clqP l (bitL l.length k) = true ∧ x = setP c l.length k := by
  unfold setsP
  simp only [List.mem_map, List.mem_filter, List.mem_range, and_assoc, eq_comm]
def cmpL : List Int → List Int → Int
  | [], [] => 0
  | [], _ :: _ => -1
  | _ :: _, [] => 1
  | a :: l, b :: m => if cmpI a b = 0 then cmpL l m else cmpI a b
theorem cmpI_sw (a b : Int) : cmpI b a = -cmpI a b := by unfold cmpI; grind
theorem cmpI_zero (a b : Int) : cmpI a b = 0 ↔ a = b := by unfold cmpI; grind
theorem cmpL_sw : ∀ a b, cmpL b a = -cmpL a b
  | [], [] => rfl
  | [], _ :: _ => rfl
  | _ :: _, [] => rfl
  | a :: l, b :: m => by
    have := cmpI_sw a b
    unfold cmpL
    rw [cmpL_sw l m, this]
    split <;> split <;> omega
theorem cmpL_zero : ∀ {a b}, cmpL a b = 0 ↔ a = b
  | [], [] => by simp [cmpL]
  | [], _ :: _ => by simp [cmpL]
  | _ :: _, [] => by simp [cmpL]
  | a :: l, b :: m => by
    unfold cmpL
    have := cmpI_zero a b
    split
    · rename_i h; rw [cmpL_zero]; simp [this.1 h]
    · rename_i h; simp only [h, List.cons.injEq, false_iff, not_and]; intro e; exact absurd (this.2 e) h
theorem cmpL_trans : ∀ {a b c}, cmpL a b ≤ 0 → cmpL b c ≤ 0 → cmpL a c ≤ 0
  | [], [], _, _, h => h
  | [], _ :: _, [], _, _ => by simp [cmpL]
  | [], _ :: _, _ :: _, _, _ => by simp [cmpL]
  | _ :: _, [], _, h, _ => by simp [cmpL] at h
  | _ :: _, _ :: _, [], _, h => by simp [cmpL] at h
  | a :: l, b :: m, c :: n, h1, h2 => by
    simp only [cmpL] at *
    have ih := @cmpL_trans l m n
    simp only [cmpI] at *
    grind
def betP (a b : VS) : Int := if cmpI b.2.length a.2.length = 0 then (if cmpI b.1.length a.1.length = 0 then cmpL a.1 b.1 else cmpI b.1.length a.1.length) else cmpI b.2.length a.2.length
theorem betP_sw (a b : VS) : betP b a = -betP a b := by
  have h1 := cmpI_sw b.2.length a.2.length
  have h2 := cmpI_sw b.1.length a.1.length
  have h3 := cmpL_sw a.1 b.1
  unfold betP
  rw [h1, h2, h3]
  split <;> split <;> (try split) <;> (try split) <;> omega
theorem betP_trans {a b c : VS} (h1 : betP a b ≤ 0) (h2 : betP b c ≤ 0) : betP a c ≤ 0 := by
  have h3 := @cmpL_trans a.1 b.1 c.1
  simp only [betP, cmpI] at *
  grind
theorem betP_zero {a b : VS} (h : betP a b = 0) : a.1 = b.1 := by
  simp only [betP, cmpI] at h
  have := @cmpL_zero a.1 b.1
  grind
theorem betP_self (a : VS) : betP a a = 0 := by
  have := @cmpL_zero a.1 a.1
  simp [betP, cmpI, this]
/-- The best of some sets. -/
def Best (S : List VS) (b : VS) : Prop := b ∈ S ∧ ∀ x ∈ S, ¬ betP x b < 0
theorem sets_inj {c : List Int} {l : List Fx} {x y : VS} (hx : x ∈ setsP c l) (hy : y ∈ setsP c l) (h : x.1 = y.1) : x = y := by
  obtain ⟨k, h1, -, rfl⟩ := (setsP_mem ..).1 hx
  obtain ⟨k', h1', -, rfl⟩ := (setsP_mem ..).1 hy
  rw [bits_inj h1 h1' h]
theorem Best.uniq {c : List Int} {l : List Fx} {x y : VS} (hx : Best (setsP c l) x) (hy : Best (setsP c l) y) : x = y := by
  refine sets_inj hx.1 hy.1 (betP_zero ?_)
  have h1 := hx.2 y hy.1
  have h2 := hy.2 x hx.1
  have := betP_sw x y
  omega
theorem best_of_sorted {S L : List VS} {b : VS} (hp : (b :: L).Perm S) (hs : (b :: L).Pairwise fun x y => ¬ betP y x < 0) : Best S b := by
  refine ⟨hp.subset (by simp), fun x hx => ?_⟩
  rcases List.mem_cons.1 (hp.symm.subset hx) with rfl | hx
  · rw [betP_self]; omega
  · exact (List.pairwise_cons.1 hs).1 x hx
theorem Best.most {S : List VS} {b : VS} (h : Best S b) : ∀ x ∈ S, x.2.length ≤ b.2.length := fun x hx => by
  have := h.2 x hx
  refine Classical.byContradiction fun hn => this ?_
  have h1 : cmpI b.2.length x.2.length = -1 := by unfold cmpI; rw [if_pos (by omega)]
  unfold betP
  rw [h1, if_neg (by omega)]; omega
def minV (b : VS) (S : List VS) : VS := S.foldl (fun b x => if betP x b < 0 then x else b) b
theorem minV_best : ∀ (S : List VS) (b : VS), Best (b :: S) (minV b S)
  | [], b => ⟨by simp [minV], fun x hx => by simp at hx; subst hx; simp [minV, betP_self]⟩
  | y :: S, b => by
    have ih := minV_best S (if betP y b < 0 then y else b)
    have e : minV b (y :: S) = minV (if betP y b < 0 then y else b) S := rfl
    rw [e]
    generalize minV (if betP y b < 0 then y else b) S = z at ih
    obtain ⟨h1, h2⟩ := ih
    have hy : ∀ u v : VS, betP u v = -betP v u := fun u v => betP_sw v u
    obtain ⟨q, hq, hqy, hqb⟩ : ∃ q : VS, (if betP y b < 0 then y else b) = q ∧ betP q y ≤ 0 ∧ betP q b ≤ 0 := by
      refine ⟨_, rfl, ?_, ?_⟩
      · split
        · rw [betP_self]; omega
        · have := hy b y; omega
      · split
        · omega
        · rw [betP_self]; omega
    have hm : q = y ∨ q = b := by rw [← hq]; split <;> simp
    rw [hq] at h1 h2
    have h3 := h2 q (by simp)
    have s1 := hy z q
    refine ⟨?_, fun x hx => ?_⟩
    · rcases List.mem_cons.1 h1 with h | h
      · rw [h]; rcases hm with rfl | rfl <;> simp
      · simp [h]
    · rcases List.mem_cons.1 hx with rfl | hx
      · have := @betP_trans z q x (by omega) hqb; have := hy x z; omega
      · rcases List.mem_cons.1 hx with rfl | hx
        · have := @betP_trans z q x (by omega) hqy; have := hy x z; omega
        · exact h2 x (by simp [hx])
def bestP (S : List VS) : VS := minV (S.headD ([], [])) (S.drop 1)
theorem bestP_best {S : List VS} (h : S ≠ []) : Best S (bestP S) := by
  cases S with
  | nil => exact absurd rfl h
  | cons b S => exact minV_best S b
theorem sets_nil (c : List Int) (l : List Fx) : (([], []) : VS) ∈ setsP c l := by
  refine (setsP_mem ..).2 ⟨0, Nat.pos_of_ne_zero (by simp), ?_, ?_⟩
  · have : bitL l.length 0 = [] := by unfold bitL; simp
    rw [this]; rfl
  · have : bitL l.length 0 = [] := by unfold bitL; simp
    unfold setP; rw [this]; rfl
theorem sets_ne (c : List Int) (l : List Fx) : setsP c l ≠ [] := fun h => by have := sets_nil c l; rw [h] at this; cases this
/-- Others have as many causes. -/
def tieP (S : List VS) (b : VS) : Bool := S.any fun x => decide (x.2.length = b.2.length) && !decide (x.2 = b.2)
structure Vt where
  m : List Int
  c : List Int
  t : Bool
deriving DecidableEq
def voteP (c : List Int) (l : List Fx) : Vt := if tieP (setsP c l) (bestP (setsP c l)) then ⟨[], [], true⟩ else ⟨(bestP (setsP c l)).1, (bestP (setsP c l)).2, false⟩
def okC (c : List Int) (l : List Fx) : Bool := (List.zip c l).all fun x => decide (0 ≤ x.1) && decide (x.1 < 8) && agP x.2 x.2
def decE (c : List Int) (l : List Fx) : Int := if c.length ≠ l.length then 8 else if 8 < l.length then 2 else if okC c l then 0 else 1
def decP (c : List Int) (l : List Fx) : Vt := if decE c l = 0 then voteP c l else ⟨[], [], false⟩
theorem str_sub : ∀ {a b : List Int}, Str a → Str b → (∀ v ∈ a, v ∈ b) → a.Sublist b
  | [], _, _, _, _ => List.nil_sublist _
  | x :: a, [], _, _, h => by have := h x (by simp); simp at this
  | x :: a, y :: b, ha, hb, h => by
    have ha' := List.pairwise_cons.1 ha
    have hb' := List.pairwise_cons.1 hb
    by_cases e : x = y
    · subst e
      refine (str_sub ha'.2 hb'.2 fun v hv => ?_).cons_cons x
      rcases List.mem_cons.1 (h v (by simp [hv])) with e | h1
      · have := ha'.1 v hv; omega
      · exact h1
    · refine (str_sub ha hb'.2 fun v hv => ?_).cons y
      have hx : x ∈ b := by
        rcases List.mem_cons.1 (h x (by simp)) with h1 | h1
        · exact absurd h1 e
        · exact h1
      have hyx := hb'.1 x hx
      rcases List.mem_cons.1 (h v hv) with h1 | h1
      · rcases List.mem_cons.1 hv with h2 | h2
        · omega
        · have := ha'.1 v h2; omega
      · exact h1
theorem setP_mem2 (c : List Int) (n k : Nat) (v : Int) : v ∈ (setP c n k).2 ↔ ∃ i, i < n ∧ k.testBit i = true ∧ c[i]? = some v := by
  unfold setP
  rw [cauP_mem]
  unfold pickP
  simp only [List.mem_filterMap, bitL_mem]
  constructor
  · rintro ⟨_, ⟨i, h1, h2, rfl⟩, h3⟩
    rw [if_pos (by omega)] at h3
    exact ⟨i, h1, h2, by simpa using h3⟩
  · rintro ⟨i, h1, h2, h3⟩
    exact ⟨i, ⟨i, h1, h2, rfl⟩, by rw [if_pos (by omega)]; simpa using h3⟩
theorem atF_nat {l : List Fx} {i : Nat} (h : i < l.length) : atF l i = l[i] := by
  unfold atF
  simp [List.getD, h]
theorem clq_bits (l : List Fx) (k : Nat) : clqP l (bitL l.length k) = true ↔ ∀ (i j : Nat) (hi : i < l.length) (hj : j < l.length), k.testBit i = true → k.testBit j = true → agP l[i] l[j] = true := by
  rw [clqP_iff]
  constructor
  · rintro ⟨-, -, h⟩ i j hi hj bi bj
    have := h i ((bitL_mem ..).2 ⟨i, hi, bi, rfl⟩) j ((bitL_mem ..).2 ⟨j, hj, bj, rfl⟩)
    rwa [atF_nat hi, atF_nat hj] at this
  · intro h
    refine ⟨bitL_str _ _, fun a ha => ?_, fun a ha b hb => ?_⟩
    · obtain ⟨i, h1, _, rfl⟩ := (bitL_mem ..).1 ha; omega
    · obtain ⟨i, h1, h2, rfl⟩ := (bitL_mem ..).1 ha
      obtain ⟨j, h3, h4, rfl⟩ := (bitL_mem ..).1 hb
      rw [atF_nat h1, atF_nat h3]; exact h i j h1 h3 h2 h4
theorem tieP_iff (S : List VS) (b : VS) : tieP S b = true ↔ ∃ x ∈ S, x.2.length = b.2.length ∧ x.2 ≠ b.2 := by
  unfold tieP
  simp only [List.any_eq_true, Bool.and_eq_true, decide_eq_true_eq, Bool.not_eq_true', decide_eq_false_iff_not]
/-- What a vote is. -/
theorem vote_cases (c : List Int) (l : List Fx) :
    (voteP c l = ⟨[], [], true⟩ ∧ ∃ x ∈ setsP c l, ∃ y ∈ setsP c l, x.2.length = y.2.length ∧ x.2 ≠ y.2 ∧ ∀ z ∈ setsP c l, z.2.length ≤ x.2.length) ∨
    ((voteP c l).t = false ∧ Best (setsP c l) ((voteP c l).m, (voteP c l).c) ∧ ∀ z ∈ setsP c l, z.2.length ≤ (voteP c l).c.length ∧ (z.2.length = (voteP c l).c.length → z.2 = (voteP c l).c)) := by
  have hb := bestP_best (sets_ne c l)
  have hm := hb.most
  unfold voteP
  cases ht : tieP (setsP c l) (bestP (setsP c l))
  · right
    refine ⟨rfl, hb, fun z hz => ⟨hm z hz, fun e => ?_⟩⟩
    refine Classical.byContradiction fun hn => ?_
    rw [(tieP_iff _ _).2 ⟨z, hz, e, hn⟩] at ht; cases ht
  · left
    obtain ⟨x, h1, h2, h3⟩ := (tieP_iff _ _).1 ht
    exact ⟨rfl, x, h1, _, hb.1, h2, h3, fun z hz => by have := hm z hz; omega⟩
/-- Right references, each with a cause of its own, and wrong ones that agree with none of them and have fewer causes. -/
theorem vote_right {c : List Int} {l : List Fx} {n : Nat} (hl : c.length = l.length) (hn : n ≤ l.length) (hc : ∀ i : Nat, i < n → c[i]? = some (i : Int))
    (hr : ∀ (i j : Nat) (hi : i < l.length) (hj : j < l.length), i < n → j < n → agP l[i] l[j] = true)
    (hw : ∀ (i j : Nat) (hi : i < l.length) (hj : j < l.length), i < n → n ≤ j → agP l[i] l[j] = false)
    {W : List Int} (hW : Str W) (hWn : W.length < n) (hWc : ∀ j : Nat, n ≤ j → ∀ v, c[j]? = some v → v ∈ W) : (voteP c l).m = (List.range n).map Int.ofNat := by
  let z0 : List Int := (List.range n).map Int.ofNat
  have hz0 : Str z0 := by
    simp only [z0, Str]
    rw [List.pairwise_map]
    exact List.pairwise_lt_range.imp fun h => Int.ofNat_lt.2 h
  have hz0l : z0.length = n := by simp [z0]
  have hz0m : ∀ v, v ∈ z0 ↔ ∃ i, i < n ∧ v = (i : Int) := fun v => by
    simp only [z0, List.mem_map, List.mem_range]
    constructor
    · rintro ⟨i, h, rfl⟩; exact ⟨i, h, rfl⟩
    · rintro ⟨i, h, rfl⟩; exact ⟨i, h, rfl⟩
  obtain ⟨k0, hk0, hb0⟩ := bits_ex (fun i => decide (i < n)) l.length
  have hS0 : setP c l.length k0 ∈ setsP c l := (setsP_mem ..).2 ⟨k0, hk0, (clq_bits l k0).2 fun i j hi hj bi bj => by
    rw [hb0 i hi, decide_eq_true_eq] at bi; rw [hb0 j hj, decide_eq_true_eq] at bj
    exact hr i j hi hj bi bj, rfl⟩
  have hC0 : (setP c l.length k0).2 = z0 := by
    refine str_ext (cauP_str _ _) hz0 fun v => ?_
    refine (setP_mem2 c _ k0 v).trans ?_
    rw [hz0m]
    constructor
    · rintro ⟨i, h1, h2, h3⟩
      rw [hb0 i h1, decide_eq_true_eq] at h2
      rw [hc i h2] at h3
      exact ⟨i, h2, by simpa using h3.symm⟩
    · rintro ⟨i, h1, rfl⟩
      exact ⟨i, by omega, by rw [hb0 i (by omega)]; simpa using h1, hc i h1⟩
  -- every other set
  have key : ∀ k, k < 2 ^ l.length → clqP l (bitL l.length k) = true → (setP c l.length k).2.length ≤ n ∧ ((setP c l.length k).2.length = n → (setP c l.length k).2 = z0 ∧ (setP c l.length k).1 = z0) := by
    intro k hk hq
    rw [clq_bits] at hq
    by_cases hex : ∃ j, j < l.length ∧ n ≤ j ∧ k.testBit j = true
    · obtain ⟨j, hj, hnj, bj⟩ := hex
      have hsub : (setP c l.length k).2.Sublist W := str_sub (cauP_str _ _) hW fun v hv => by
        obtain ⟨i, h1, h2, h3⟩ := (setP_mem2 c _ k v).1 hv
        by_cases hin : i < n
        · have := hq i j h1 hj h2 bj
          rw [hw i j h1 hj hin hnj] at this; cases this
        · exact hWc i (by omega) v h3
      have := hsub.length_le
      exact ⟨by omega, fun e => by omega⟩
    · have hall : ∀ i, i < l.length → k.testBit i = true → i < n := fun i hi bi => Classical.byContradiction fun hni => hex ⟨i, hi, by omega, bi⟩
      have hsub : (setP c l.length k).2.Sublist z0 := str_sub (cauP_str _ _) hz0 fun v hv => by
        obtain ⟨i, h1, h2, h3⟩ := (setP_mem2 c _ k v).1 hv
        have hin := hall i h1 h2
        rw [hc i hin] at h3
        exact (hz0m v).2 ⟨i, hin, by simpa using h3.symm⟩
      have hle := hsub.length_le
      rw [hz0l] at hle
      refine ⟨hle, fun e => ?_⟩
      have e2 : (setP c l.length k).2 = z0 := hsub.eq_of_length (by rw [e, hz0l])
      refine ⟨e2, str_ext (bitL_str _ _) hz0 fun v => ?_⟩
      refine (bitL_mem l.length k v).trans ?_
      rw [hz0m]
      constructor
      · rintro ⟨i, h1, h2, rfl⟩; exact ⟨i, hall i h1 h2, rfl⟩
      · rintro ⟨i, h1, rfl⟩
        have hi : (i : Int) ∈ (setP c l.length k).2 := by rw [e2]; exact (hz0m _).2 ⟨i, h1, rfl⟩
        obtain ⟨j, g1, g2, g3⟩ := (setP_mem2 c _ k _).1 hi
        rw [hc j (hall j g1 g2)] at g3
        have : j = i := by simp only [Option.some.injEq] at g3; omega
        subst this
        exact ⟨j, g1, g2, rfl⟩
  rcases vote_cases c l with ⟨h1, x, hx, y, hy, h2, h3, h4⟩ | ⟨h1, h2, h3⟩
  · exfalso
    obtain ⟨kx, a1, a2, rfl⟩ := (setsP_mem ..).1 hx
    obtain ⟨ky, b1, b2, rfl⟩ := (setsP_mem ..).1 hy
    have k1 := key kx a1 a2
    have k2 := key ky b1 b2
    have h5 := h4 _ hS0
    rw [hC0, hz0l] at h5
    exact h3 ((k1.2 (by omega)).1.trans (k2.2 (by omega)).1.symm)
  · obtain ⟨k, a1, a2, a3⟩ := (setsP_mem ..).1 h2.1
    have k1 := key k a1 a2
    have h5 := (h3 _ hS0).1
    rw [hC0, hz0l] at h5
    have e2 : (voteP c l).c = (setP c l.length k).2 := congrArg Prod.snd a3
    have e1 : (voteP c l).m = (setP c l.length k).1 := congrArg Prod.fst a3
    rw [e1]
    exact (k1.2 (by rw [e2] at h5; omega)).2
/-- One step of the reference: the best one so far. -/
def stepV (b : Vt) (x : VS) : Vt := if b.c.length < x.2.length then ⟨x.1, x.2, false⟩ else if x.2.length = b.c.length ∧ x.2 ≠ b.c then ⟨b.m, b.c, true⟩ else if x.2.length = b.c.length ∧ (b.m.length < x.1.length ∨ x.1.length = b.m.length ∧ cmpL x.1 b.m < 0) then ⟨x.1, b.c, b.t⟩ else b
structure RefJ (S : List VS) (b : Vt) : Prop where
  most : ∀ x ∈ S, x.2.length ≤ b.c.length
  tie : b.t = true ↔ ∃ x ∈ S, x.2.length = b.c.length ∧ x.2 ≠ b.c
  has : ∃ x ∈ S, x.2 = b.c
  best : b.t = false → Best S (b.m, b.c)
theorem bet_less {x : VS} {m c : List Int} (h : x.2 = c) : betP x (m, c) < 0 ↔ (m.length < x.1.length ∨ x.1.length = m.length ∧ cmpL x.1 m < 0) := by
  subst h
  simp only [betP, cmpI]
  grind
theorem bet_gt {x y : VS} (h : x.2.length < y.2.length) : ¬ betP x y < 0 := by
  have h1 : cmpI y.2.length x.2.length = 1 := by unfold cmpI; rw [if_neg (by omega), if_pos (by omega)]
  unfold betP
  rw [h1, if_neg (by omega)]; omega
theorem RefJ.step {S : List VS} {b : Vt} (h : RefJ S b) (x : VS) : RefJ (S ++ [x]) (stepV b x) := by
  obtain ⟨h1, h2, ⟨u, hu, hu2⟩, h3⟩ := h
  unfold stepV
  split
  · rename_i g
    refine ⟨fun y hy => ?_, ⟨fun e => (by cases e), fun ⟨y, hy, e1, e2⟩ => ?_⟩, ⟨x, by simp, rfl⟩, fun _ => ⟨by simp, fun y hy => ?_⟩⟩
    · rcases List.mem_append.1 hy with hy | hy
      · have := h1 y hy; simp only; omega
      · simp at hy; subst hy; exact Nat.le_refl _
    · rcases List.mem_append.1 hy with hy | hy
      · have := h1 y hy; simp only at e1; omega
      · simp at hy; subst hy; exact absurd rfl e2
    · rcases List.mem_append.1 hy with hy | hy
      · have := h1 y hy; exact bet_gt (by simp only; omega)
      · simp at hy; subst hy
        show ¬ betP y y < 0
        rw [betP_self]; omega
  · split
    · rename_i g g2
      refine ⟨fun y hy => ?_, ⟨fun _ => ⟨x, by simp, g2⟩, fun _ => rfl⟩, ⟨u, by simp [hu], hu2⟩, fun e => (by cases e)⟩
      rcases List.mem_append.1 hy with hy | hy
      · exact h1 y hy
      · simp at hy; subst hy; have := g2.1; simp only; omega
    · rename_i g g2
      have hx : x.2.length = b.c.length → x.2 = b.c := fun e => Classical.byContradiction fun hn => g2 ⟨e, hn⟩
      have hm : ∀ y ∈ S ++ [x], y.2.length ≤ b.c.length := fun y hy => by
        rcases List.mem_append.1 hy with hy | hy
        · exact h1 y hy
        · simp at hy; subst hy; omega
      have ht : b.t = true ↔ ∃ y ∈ S ++ [x], y.2.length = b.c.length ∧ y.2 ≠ b.c := by
        rw [h2]
        constructor
        · rintro ⟨y, hy, e⟩; exact ⟨y, by simp [hy], e⟩
        · rintro ⟨y, hy, e1, e2⟩
          rcases List.mem_append.1 hy with hy | hy
          · exact ⟨y, hy, e1, e2⟩
          · simp at hy; subst hy; exact absurd (hx e1) e2
      have hsw : ∀ u v : VS, betP u v = -betP v u := fun u v => betP_sw v u
      split
      · rename_i g3
        have e := hx g3.1
        refine ⟨hm, ht, ⟨u, by simp [hu], hu2⟩, fun hf => ?_⟩
        have hb := h3 hf
        have hl := (bet_less (m := b.m) e).2 g3.2
        have ex : ((x.1, b.c) : VS) = x := by rw [← e]
        show Best (S ++ [x]) (x.1, b.c)
        rw [ex]
        refine ⟨by simp, fun y hy => ?_⟩
        rcases List.mem_append.1 hy with hy | hy
        · have a1 := hb.2 y hy
          have a2 := hsw y (b.m, b.c)
          have a3 := @betP_trans x (b.m, b.c) y (by omega) (by omega)
          have a4 := hsw y x
          omega
        · simp at hy; subst hy; rw [betP_self]; omega
      · rename_i g3
        refine ⟨hm, ht, ⟨u, by simp [hu], hu2⟩, fun hf => ?_⟩
        have hb := h3 hf
        refine ⟨by simp [hb.1], fun y hy => ?_⟩
        rcases List.mem_append.1 hy with hy | hy
        · exact hb.2 y hy
        · simp at hy; subst hy
          by_cases e : y.2.length = b.c.length
          · intro hl
            exact g3 ⟨e, (bet_less (hx e)).1 hl⟩
          · exact bet_gt (by simp only; omega)
theorem RefJ.fold : ∀ {L S : List VS} {b : Vt}, RefJ S b → RefJ (S ++ L) (L.foldl stepV b)
  | [], S, b, h => by simpa using h
  | x :: L, S, b, h => by
    have := RefJ.fold (L := L) (h.step x)
    rw [List.append_assoc] at this
    simpa using this
end Go.Proofs.YtipanehdmhachaaGreatDoor.H
