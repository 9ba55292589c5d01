/- Chapter 10: plain laws of votes in which all agree, and of means. -/
import Derived.Test.YtipanehdmhachaaGreatDoorHqE
set_option linter.unusedSimpArgs false
set_option linter.unusedVariables false
set_option linter.unusedSectionVars false
namespace Go.Proofs.YtipanehdmhachaaGreatDoor.H
variable [DR]
theorem cauP_len (c m : List Int) : (cauP c m).length ≤ m.length := by
  have h : ∀ (q l : List Int), (q.foldl insI l).length ≤ l.length + q.length := by
    intro q
    induction q with
    | nil => intro l; simp
    | cons p q ih =>
      intro l
      rw [List.foldl_cons, List.length_cons]
      have := ih (insI l p)
      have hi : ∀ l : List Int, (insI l p).length ≤ l.length + 1 := by
        intro l
        induction l with
        | nil => simp [insI]
        | cons x l ih =>
          simp only [insI]
          split
          · simpa using ih
          · split <;> simp
      have := hi l
      omega
  have h1 := h (pickP c m) []
  have h2 := pick_len c m
  unfold cauP
  simp only [List.length_nil] at h1
  omega
def upI (n : Nat) : List Int := (List.range n).map Int.ofNat
theorem upI_mem {n : Nat} {v : Int} : v ∈ upI n ↔ 0 ≤ v ∧ v < n := by
  simp only [upI, List.mem_map, List.mem_range]
  constructor
  · rintro ⟨i, h, rfl⟩
    exact ⟨Int.natCast_nonneg i, Int.ofNat_lt.2 h⟩
  · rintro ⟨h1, h2⟩
    exact ⟨v.toNat, by omega, by simp; omega⟩
theorem upI_str (n : Nat) : Str (upI n) := by
  simp only [upI, Str]
  rw [List.pairwise_map]
  exact List.pairwise_lt_range.imp fun h => Int.ofNat_lt.2 h
theorem bits_full (n : Nat) : bitL n (2 ^ n - 1) = upI n := by
  refine str_ext (bitL_str _ _) (upI_str n) fun v => ?_
  rw [bitL_mem, upI_mem]
  constructor
  · rintro ⟨i, h, -, rfl⟩; omega
  · rintro ⟨h1, h2⟩
    exact ⟨v.toNat, by omega, by rw [Nat.testBit_two_pow_sub_one]; simp; omega, by omega⟩
theorem pick_all {c : List Int} {v : Int} : v ∈ pickP c (upI c.length) ↔ v ∈ c := by
  unfold pickP
  rw [List.mem_filterMap]
  constructor
  · rintro ⟨i, hi, h⟩
    split at h
    · exact List.mem_of_getElem? h
    · cases h
  · intro h
    obtain ⟨i, hi, rfl⟩ := List.getElem_of_mem h
    refine ⟨i, upI_mem.2 ⟨by omega, by omega⟩, ?_⟩
    rw [if_pos (by omega)]
    simp [hi]
/-- All agree, with causes of their own: all are members. -/
theorem vote_all {c : List Int} {l : List Fx} (hl : c.length = l.length) (hc : Str c) (ha : ∀ f ∈ l, ∀ g ∈ l, agP f g = true) : voteP c l = ⟨upI l.length, c, false⟩ := by
  have hfull : clqP l (bitL l.length (2 ^ l.length - 1)) = true := by
    rw [clq_bits]
    intro i j hi hj _ _
    exact ha _ (List.getElem_mem hi) _ (List.getElem_mem hj)
  have hp : 2 ^ l.length - 1 < 2 ^ l.length := by have := Nat.two_pow_pos l.length; omega
  have hS0 : setP c l.length (2 ^ l.length - 1) ∈ setsP c l := (setsP_mem ..).2 ⟨_, hp, hfull, rfl⟩
  have hcf : (setP c l.length (2 ^ l.length - 1)).2 = c := by
    show cauP c (bitL l.length (2 ^ l.length - 1)) = c
    rw [bits_full, ← hl]
    exact str_ext (cauP_str _ _) hc fun v => by rw [cauP_mem, pick_all]
  have key : ∀ x ∈ setsP c l, x.2.length ≤ l.length ∧ (x.2.length = l.length → x.1 = upI l.length) := by
    intro x hx
    obtain ⟨k, h1, -, rfl⟩ := (setsP_mem ..).1 hx
    have h2 : (setP c l.length k).2.length ≤ (bitL l.length k).length := cauP_len c _
    have h3 := bit_len l.length k
    refine ⟨by omega, fun e => ?_⟩
    show bitL l.length k = upI l.length
    have hs : (bitL l.length k).Sublist (upI l.length) := str_sub (bitL_str _ _) (upI_str _) fun v hv => by
      obtain ⟨i, g1, -, rfl⟩ := (bitL_mem ..).1 hv
      exact upI_mem.2 ⟨by omega, by omega⟩
    have hul : (upI l.length).length = l.length := by simp [upI]
    exact hs.eq_of_length_le (by omega)
  have uniq : ∀ x ∈ setsP c l, x.2.length = l.length → x = (upI l.length, c) := by
    intro x hx e
    have h1 := (key x hx).2 e
    have h2 := sets_inj hx hS0 (by rw [h1]; show _ = bitL l.length (2 ^ l.length - 1); rw [bits_full])
    rw [h2]
    refine Prod.ext ?_ hcf
    show bitL l.length (2 ^ l.length - 1) = _
    rw [bits_full]
  rcases vote_cases c l with ⟨h1, x, hx, y, hy, h2, h3, h4⟩ | ⟨h1, h2, h3⟩
  · exfalso
    have h5 := h4 _ hS0
    rw [hcf, hl] at h5
    have hx1 := uniq x hx (by have := (key x hx).1; omega)
    have hy1 := uniq y hy (by have := (key x hx).1; omega)
    rw [hx1, hy1] at h3
    exact h3 rfl
  · have h5 := (h3 _ hS0).1
    rw [hcf, hl] at h5
    have h6 := uniq _ h2.1 (by have := (key _ h2.1).1; simp only at this ⊢; omega)
    simp only [Prod.mk.injEq] at h6
    have : voteP c l = ⟨(voteP c l).m, (voteP c l).c, (voteP c l).t⟩ := rfl
    rw [this, h6.1, h6.2, h1]
theorem okC_all {c : List Int} {l : List Fx} (hc : ∀ v ∈ c, 0 ≤ v ∧ v < 8) (ha : ∀ f ∈ l, agP f f = true) : okC c l = true := by
  unfold okC
  rw [List.all_eq_true]
  rintro ⟨v, f⟩ hx
  have h1 := List.of_mem_zip hx
  have := hc v h1.1
  simp only [Bool.and_eq_true, decide_eq_true_eq]
  exact ⟨⟨this.1, this.2⟩, ha f h1.2⟩
theorem dec_all {c : List Int} {l : List Fx} (hl : c.length = l.length) (h8 : l.length ≤ 8) (hc : Str c) (hr : ∀ v ∈ c, 0 ≤ v ∧ v < 8) (ha : ∀ f ∈ l, ∀ g ∈ l, agP f g = true) : decP c l = ⟨upI l.length, c, false⟩ := by
  have hE : decE c l = 0 := by
    unfold decE
    rw [if_neg (by omega), if_neg (by omega), okC_all hr fun f hf => ha f hf f hf]; rfl
  unfold decP
  rw [if_pos hE]
  exact vote_all hl hc ha
theorem okF_of {f : Fx} (h1 : okP f.x f.y = true) (h2 : 1 ≤ f.e) (h3 : f.e ≤ 100000) : okF f = true := by
  unfold okF
  have := (wt_bound f.e).2.2 h2 h3
  rw [h1]
  simp; omega
/-! ### Means -/
theorem half_in {n d B : Int} (hd : 0 < d) (h1 : -(B * d) ≤ n) (h2 : n ≤ B * d) : -B ≤ halfP n d ∧ halfP n d ≤ B := by
  unfold halfP
  constructor
  · rw [Int.le_ediv_iff_mul_le (by omega)]
    have : -B * (2 * d) = -(2 * (B * d)) := by rw [Int.neg_mul, Int.mul_left_comm]
    omega
  · have : (2 * n + d) / (2 * d) < B + 1 := by
      rw [Int.ediv_lt_iff_lt_mul (by omega)]
      have : (B + 1) * (2 * d) = 2 * (B * d) + 2 * d := by rw [Int.add_mul, Int.mul_left_comm]; omega
      omega
    omega
theorem wx_in {w x B : Int} (hw : 0 ≤ w) (h1 : -B ≤ x) (h2 : x ≤ B) : -(B * w) ≤ w * x ∧ w * x ≤ B * w := by
  have a := Int.mul_le_mul_of_nonneg_left h1 hw
  have b := Int.mul_le_mul_of_nonneg_left h2 hw
  rw [Int.mul_neg] at a
  rw [Int.mul_comm B w]
  exact ⟨a, b⟩
structure InS (a : Int × Int × Int) : Prop where
  x : -(100000000 * a.2.2) ≤ a.1 ∧ a.1 ≤ 100000000 * a.2.2
  y : -(100000000 * a.2.2) ≤ a.2.1 ∧ a.2.1 ≤ 100000000 * a.2.2
  n : 0 ≤ a.2.2
theorem InS.step {a : Int × Int × Int} {f : Fx} {m : Int} (h : InS a) (hf : okF f = true) (hm : wtP f.e ≤ m) : InS (stepP m a f) ∧ a.2.2 < (stepP m a f).2.2 := by
  obtain ⟨hx, hy, he, hw, -⟩ := okF_iff hf
  have hu := up_bound hw hm
  have h1 := wx_in (w := upP (1000 * wtP f.e) m) (by omega) hx.1 hx.2
  have h2 := wx_in (w := upP (1000 * wtP f.e) m) (by omega) hy.1 hy.2
  obtain ⟨g1, g2, g3⟩ := h
  unfold stepP
  simp only
  have e : 100000000 * (a.2.2 + upP (1000 * wtP f.e) m) = 100000000 * a.2.2 + 100000000 * upP (1000 * wtP f.e) m := Int.mul_add ..
  exact ⟨⟨by simp only; omega, by simp only; omega, by simp only; omega⟩, by omega⟩
theorem InS.fold {m : Int} : ∀ {l : List Fx} {a : Int × Int × Int}, (∀ f ∈ l, okF f = true ∧ wtP f.e ≤ m) → InS a → InS (l.foldl (stepP m) a) ∧ a.2.2 ≤ (l.foldl (stepP m) a).2.2 ∧ (l ≠ [] → a.2.2 < (l.foldl (stepP m) a).2.2)
  | [], a, _, h => ⟨h, Int.le_refl _, fun h => absurd rfl h⟩
  | f :: l, a, hl, h => by
    have hf := hl f (List.mem_cons_self ..)
    have h1 := h.step hf.1 hf.2
    have h2 := InS.fold (l := l) (fun g hg => hl g (List.mem_cons_of_mem _ hg)) h1.1
    rw [List.foldl_cons]
    exact ⟨h2.1, by omega, fun _ => by omega⟩
theorem mean_in {l : List Fx} (h0 : l ≠ []) (h : ∀ f ∈ l, okF f = true) : okP (meanX l) (meanY l) = true := by
  have h1 := InS.fold (m := mostP l) (l := l) (a := (0, 0, 0)) (fun f hf => ⟨h f hf, most_le.2 f hf⟩) ⟨by simp, by simp, by simp⟩
  have e : l.foldl (stepP (mostP l)) (0, 0, 0) = sumsP l := rfl
  rw [e] at h1
  obtain ⟨⟨g1, g2, g3⟩, -, h3⟩ := h1
  have h3 := h3 h0
  simp only at h3
  have m1 := half_in (n := (sumsP l).1) (B := 100000000) h3 g1.1 g1.2
  have m2 := half_in (n := (sumsP l).2.1) (B := 100000000) h3 g2.1 g2.2
  unfold okP meanX meanY
  simp only [decide_eq_true_eq]
  exact ⟨m1.1, m1.2, m2.1, m2.2⟩
theorem far_ge {x y : Int} : ∀ {l : List Fx} {b : Int}, b ≤ l.foldl (farP x y) b ∧ ∀ f ∈ l, boxP x y f.x f.y + f.e ≤ l.foldl (farP x y) b
  | [], b => ⟨Int.le_refl _, fun f hf => by cases hf⟩
  | g :: l, b => by
    obtain ⟨h1, h2⟩ := far_ge (x := x) (y := y) (l := l) (b := farP x y b g)
    rw [List.foldl_cons]
    have h3 : b ≤ farP x y b g := by unfold farP; omega
    have h4 : boxP x y g.x g.y + g.e ≤ farP x y b g := by unfold farP; omega
    refine ⟨by omega, fun f hf => ?_⟩
    rcases List.mem_cons.1 hf with rfl | hf
    · omega
    · exact h2 f hf
theorem far_le {x y B : Int} : ∀ {l : List Fx} {b : Int}, b ≤ B → (∀ f ∈ l, boxP x y f.x f.y + f.e ≤ B) → l.foldl (farP x y) b ≤ B
  | [], b, h, _ => h
  | g :: l, b, h, hl => by
    rw [List.foldl_cons]
    refine far_le ?_ fun f hf => hl f (List.mem_cons_of_mem _ hf)
    have := hl g (List.mem_cons_self ..)
    unfold farP; omega
theorem chk_of {l : List Fx} (h0 : l ≠ []) (h8 : l.length ≤ 8) (h : ∀ f ∈ l, okF f = true) : chkF l = 0 := by
  unfold chkF
  rw [if_neg (fun e => h0 (List.length_eq_zero_iff.1 e)), if_neg (by omega), if_pos (List.all_eq_true.2 h)]
end Go.Proofs.YtipanehdmhachaaGreatDoor.H
