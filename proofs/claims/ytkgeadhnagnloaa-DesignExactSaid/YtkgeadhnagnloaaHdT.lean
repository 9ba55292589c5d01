/- Chapter 26, plain: how distances are found, in both ways. -/
import Derived.Test.YtkgeadhnagnloaaHdS
set_option linter.unusedSimpArgs false
set_option linter.unusedVariables false
namespace Go.Proofs.Ytkgeadhnagnloaa.H
/-- What is known of distances behind so many parts of the queue. -/
structure Bfs (ls : List Ln) (t : Pt) (m : List (Pt × Nat)) (k : Nat) : Prop where
  nd : (m.map (·.1)).Nodup
  has : (t, 0) ∈ m
  le : k ≤ m.length
  way : ∀ x ∈ m, Way ls t x.2 x.1
  srt : ∀ (i j : Nat) x y, m[i]? = some x → m[j]? = some y → i ≤ j → x.2 ≤ y.2
  top : ∀ x, m[k]? = some x → ∀ y ∈ m, y.2 ≤ x.2 + 1
  don : ∀ (j : Nat) x, j < k → m[j]? = some x → ∀ l ∈ ls, l.2 = x.1 → ∃ v, (l.1, v) ∈ m ∧ v ≤ x.2 + 1
  cand : ∀ x ∈ m, x.1 ∈ t :: ls.map (·.1)
/-- In the midst of a part's links. -/
structure BfsI (ls : List Ln) (t : Pt) (m : List (Pt × Nat)) (k : Nat) (q : Pt) (d i : Nat) : Prop where
  b : Bfs ls t m k
  at_ : m[k]? = some (q, d)
  lnk : ∀ l ∈ ls.take i, l.2 = q → ∃ v, (l.1, v) ∈ m ∧ v ≤ d + 1
theorem bfs0 (ls : List Ln) (t : Pt) : Bfs ls t [(t, 0)] 0 where
  nd := by simp
  has := by simp
  le := by simp
  way := by intro x hx; simp only [List.mem_singleton] at hx; subst hx; exact .here
  srt := by
    intro i j x y hi hj _
    have h1 := List.mem_of_getElem? hi
    have h2 := List.mem_of_getElem? hj
    simp only [List.mem_singleton] at h1 h2
    subst h1 h2; exact Nat.le_refl _
  top := by
    intro x _ y hy
    simp only [List.mem_singleton] at hy; subst hy; simp
  don := fun j x hj => absurd hj (by omega)
  cand := by intro x hx; simp only [List.mem_singleton] at hx; subst hx; simp
theorem Bfs.len {ls : List Ln} {t : Pt} {m : List (Pt × Nat)} {k : Nat} (h : Bfs ls t m k) : m.length ≤ ls.length + 1 := by
  have := nodup_len h.nd (m := t :: ls.map (·.1)) fun p hp => by
    obtain ⟨x, hx, rfl⟩ := List.mem_map.1 hp
    exact h.cand x hx
  simpa using this
theorem BfsI.skip {ls : List Ln} {t : Pt} {m : List (Pt × Nat)} {k : Nat} {q : Pt} {d i : Nat} (h : BfsI ls t m k q d i) (hi : i < ls.length) (hs : ls[i].2 = q → ls[i].1 ∈ m.map (·.1)) : BfsI ls t m k q d (i + 1) where
  b := h.b
  at_ := h.at_
  lnk := by
    intro l hl e
    rcases (mem_take_succ hi).1 hl with hl | rfl
    · exact h.lnk l hl e
    · obtain ⟨x, hx, hx1⟩ := List.mem_map.1 (hs e)
      exact ⟨x.2, by rw [← hx1]; exact hx, h.b.top _ h.at_ x hx⟩
theorem BfsI.add {ls : List Ln} {t : Pt} {m : List (Pt × Nat)} {k : Nat} {q : Pt} {d i : Nat} (h : BfsI ls t m k q d i) (hi : i < ls.length) (hq : ls[i].2 = q) (hn : ls[i].1 ∉ m.map (·.1)) : BfsI ls t (m ++ [(ls[i].1, d + 1)]) k q d (i + 1) := by
  have hk : k < m.length := (List.getElem?_eq_some_iff.1 h.at_).1
  have hqd := List.mem_of_getElem? h.at_
  have get : ∀ (j : Nat) x, (m ++ [(ls[i].1, d + 1)])[j]? = some x → (j < m.length ∧ m[j]? = some x) ∨ (j = m.length ∧ x = (ls[i].1, d + 1)) := by
    intro j x hx
    rw [List.getElem?_append] at hx
    split at hx
    · exact .inl ⟨by assumption, hx⟩
    · right
      have := (List.getElem?_eq_some_iff.1 hx)
      obtain ⟨h1, h2⟩ := this
      simp at h1 h2
      exact ⟨by omega, h2.symm⟩
  refine ⟨?_, by rw [List.getElem?_append_left hk]; exact h.at_, ?_⟩
  · constructor
    · rw [List.map_append, List.nodup_append]
      refine ⟨h.b.nd, by simp, fun a ha b hb e => ?_⟩
      simp only [List.map_cons, List.map_nil, List.mem_singleton] at hb
      exact hn (by rw [← hb, ← e]; exact ha)
    · exact List.mem_append_left _ h.b.has
    · have := h.b.le; simp; omega
    · intro x hx
      rcases List.mem_append.1 hx with hx | hx
      · exact h.b.way x hx
      · simp only [List.mem_singleton] at hx
        subst hx
        exact .step (List.getElem_mem hi) (by rw [hq]; exact h.b.way _ hqd)
    · intro a b x y ha hb hab
      rcases get a x ha with ⟨h1, h2⟩ | ⟨h1, rfl⟩ <;> rcases get b y hb with ⟨g1, g2⟩ | ⟨g1, rfl⟩
      · exact h.b.srt a b x y h2 g2 hab
      · exact h.b.top _ h.at_ x (List.mem_of_getElem? h2)
      · omega
      · exact Nat.le_refl _
    · intro x hx y hy
      rw [List.getElem?_append_left hk] at hx
      rw [h.at_] at hx
      simp only [Option.some.injEq] at hx
      subst hx
      rcases List.mem_append.1 hy with hy | hy
      · exact h.b.top _ h.at_ y hy
      · simp only [List.mem_singleton] at hy; subst hy; exact Nat.le_refl _
    · intro j x hj hx l hl e
      rw [List.getElem?_append_left (by omega)] at hx
      obtain ⟨v, h1, h2⟩ := h.b.don j x hj hx l hl e
      exact ⟨v, List.mem_append_left _ h1, h2⟩
    · intro x hx
      rcases List.mem_append.1 hx with hx | hx
      · exact h.b.cand x hx
      · simp only [List.mem_singleton] at hx
        subst hx
        exact List.mem_cons_of_mem _ (List.mem_map_of_mem (List.getElem_mem hi))
  · intro l hl e
    rcases (mem_take_succ hi).1 hl with hl | rfl
    · obtain ⟨v, h1, h2⟩ := h.lnk l hl e
      exact ⟨v, List.mem_append_left _ h1, h2⟩
    · exact ⟨d + 1, List.mem_append_right _ (by simp), Nat.le_refl _⟩
theorem BfsI.next {ls : List Ln} {t : Pt} {m : List (Pt × Nat)} {k : Nat} {q : Pt} {d : Nat} (h : BfsI ls t m k q d ls.length) : Bfs ls t m (k + 1) := by
  have hk : k < m.length := (List.getElem?_eq_some_iff.1 h.at_).1
  have hl := h.lnk
  rw [List.take_length] at hl
  refine { h.b with le := hk, top := ?_, don := ?_ }
  · intro x hx y hy
    have h1 := h.b.srt k (k + 1) _ x h.at_ hx (by omega)
    have h2 := h.b.top _ h.at_ y hy
    simp only at h1 h2
    omega
  · intro j x hj hx l hll e
    by_cases hjk : j < k
    · exact h.b.don j x hjk hx l hll e
    · have : j = k := by omega
      subst this
      rw [h.at_] at hx
      simp only [Option.some.injEq] at hx
      subst hx
      exact hl l hll e
theorem Bfs.fin {ls : List Ln} {t : Pt} {m : List (Pt × Nat)} (h : Bfs ls t m m.length) (p : Pt) : lkP m p = dstP ls t p := by
  have key : ∀ (n : Nat) (p : Pt), Way ls t n p → ∃ v, (p, v) ∈ m ∧ v ≤ n := by
    intro n p hw
    induction hw with
    | here => exact ⟨0, h.has, Nat.le_refl _⟩
    | @step n x hx _ ih =>
      obtain ⟨v, h1, h2⟩ := ih
      obtain ⟨j, hj, e⟩ := List.getElem_of_mem h1
      obtain ⟨u, h3, h4⟩ := h.don j (x.2, v) hj (by rw [← e]; exact List.getElem?_eq_getElem hj) x hx rfl
      exact ⟨u, h3, by simp only at h4; omega⟩
  cases hl : lkP m p with
  | some v =>
    have hm := lkP_some hl
    symm
    rw [dstP_some]
    refine ⟨h.way _ hm, fun n hn => ?_⟩
    obtain ⟨u, h1, h2⟩ := key n p hn
    have := lkP_mem h.nd h1
    rw [hl] at this
    simp only [Option.some.injEq] at this
    omega
  | none =>
    symm
    rw [dstP_none]
    intro n hn
    obtain ⟨u, h1, h2⟩ := key n p hn
    rw [lkP_mem h.nd h1] at hl; cases hl
/-! ### The reference's rounds -/
structure Bf (ls : List Ln) (t : Pt) (ps : List Pt) (o : List Int) (r : Nat) : Prop where
  len : o.length = ps.length
  way : ∀ (i : Nat) (p : Pt) (z : Int), ps[i]? = some p → o[i]? = some z → z = -1 ∨ 0 ≤ z ∧ Way ls t z.toNat p
  dst : ∀ (i : Nat) (p : Pt) (n : Nat), n ≤ r → ps[i]? = some p → Dst ls t p n → o[i]? = some (n : Int)
structure BfI (ls : List Ln) (t : Pt) (ps : List Pt) (o : List Int) (r k : Nat) : Prop where
  b : Bf ls t ps o r
  lnk : ∀ l ∈ ls.take k, ∀ (i : Nat), ps[i]? = some l.1 → Dst ls t l.2 r → Dst ls t l.1 (r + 1) → o[i]? = some ((r + 1 : Nat) : Int)
theorem bf0 (ls : List Ln) (t : Pt) (ps : List Pt) : Bf ls t ps (ps.map fun p => if p = t then 0 else -1) 0 where
  len := by simp
  way := by
    intro i p z hp hz
    rw [List.getElem?_map, hp] at hz
    simp only [Option.map_some, Option.some.injEq] at hz
    subst hz
    by_cases h : p = t
    · subst h; right; rw [if_pos rfl]; exact ⟨Int.le_refl _, .here⟩
    · left; rw [if_neg h]
  dst := by
    intro i p n hn hp hd
    have : n = 0 := by omega
    subst this
    rw [List.getElem?_map, hp, hd.1.zero]
    simp
theorem BfI.skip {ls : List Ln} {t : Pt} {ps : List Pt} {o : List Int} {r k f g : Nat} {a b : Int} (h : BfI ls t ps o r k) (hk : k < ls.length) (hnd : ∀ (i : Nat), ps[i]? = some ls[k].1 → i = f) (hg : ps[g]? = some ls[k].2)
    (ha : o[f]? = some a) (hb : o[g]? = some b) (hn : 0 ≤ b → 0 ≤ a ∧ a ≤ b + 1) : BfI ls t ps o r (k + 1) where
  b := h.b
  lnk := by
    intro l hl i hi hd1 hd2
    rcases (mem_take_succ hk).1 hl with hl | rfl
    · exact h.lnk l hl i hi hd1 hd2
    · have hif := hnd i hi
      subst hif
      have hbr := h.b.dst g _ r (Nat.le_refl _) hg hd1
      rw [hb] at hbr
      simp only [Option.some.injEq] at hbr
      obtain ⟨h1, h2⟩ := hn (by omega)
      rcases h.b.way i _ a hi ha with h3 | ⟨_, h3⟩
      · omega
      · have := hd2.2 _ h3
        rw [ha]
        congr 1
        omega
theorem BfI.set {ls : List Ln} {t : Pt} {ps : List Pt} {o : List Int} {r k f g : Nat} {a b : Int} (h : BfI ls t ps o r k) (hk : k < ls.length) (hnd : ∀ (i : Nat), ps[i]? = some ls[k].1 → i = f) (hf : ps[f]? = some ls[k].1) (hg : ps[g]? = some ls[k].2)
    (ha : o[f]? = some a) (hb : o[g]? = some b) (hb0 : 0 ≤ b) (hn : a < 0 ∨ b + 1 < a) : BfI ls t ps (o.set f (b + 1)) r (k + 1) := by
  have hfl : f < o.length := (List.getElem?_eq_some_iff.1 ha).1
  have hwb : Way ls t b.toNat ls[k].2 := by
    rcases h.b.way g _ b hg hb with h3 | ⟨_, h3⟩
    · omega
    · exact h3
  have hw : Way ls t (b.toNat + 1) ls[k].1 := .step (List.getElem_mem hk) hwb
  have keep : ∀ (i : Nat) (p : Pt) (n : Nat), ps[i]? = some p → Dst ls t p n → o[i]? = some (n : Int) → (o.set f (b + 1))[i]? = some (n : Int) := by
    intro i p n hi hd ho
    rw [List.getElem?_set]
    split
    · rename_i e
      subst e
      exfalso
      rw [hf] at hi
      simp only [Option.some.injEq] at hi
      subst hi
      rw [ha] at ho
      simp only [Option.some.injEq] at ho
      have := hd.2 _ hw
      omega
    · exact ho
  refine ⟨⟨by rw [List.length_set]; exact h.b.len, ?_, fun i p n hn hi hd => keep i p n hi hd (h.b.dst i p n hn hi hd)⟩, ?_⟩
  · intro i p z hi hz
    rw [List.getElem?_set] at hz
    split at hz
    · rename_i e
      subst e
      simp only [hfl, if_true, Option.some.injEq] at hz
      subst hz
      rw [hf] at hi
      simp only [Option.some.injEq] at hi
      subst hi
      right
      refine ⟨by omega, ?_⟩
      have : (b + 1).toNat = b.toNat + 1 := by omega
      rw [this]; exact hw
    · exact h.b.way i p z hi hz
  · intro l hl i hi hd1 hd2
    rcases (mem_take_succ hk).1 hl with hl | rfl
    · exact keep i l.1 (r + 1) hi hd2 (h.lnk l hl i hi hd1 hd2)
    · have hif := hnd i hi
      subst hif
      have hbr := h.b.dst g _ r (Nat.le_refl _) hg hd1
      rw [hb] at hbr
      simp only [Option.some.injEq] at hbr
      rw [List.getElem?_set, if_pos rfl, if_pos hfl]
      congr 1; omega
theorem BfI.next {ls : List Ln} {t : Pt} {ps : List Pt} {o : List Int} {r : Nat} (h : BfI ls t ps o r ls.length) : Bf ls t ps o (r + 1) := by
  have hl := h.lnk
  rw [List.take_length] at hl
  refine ⟨h.b.len, h.b.way, fun i p n hn hi hd => ?_⟩
  by_cases hnr : n ≤ r
  · exact h.b.dst i p n hnr hi hd
  · have : n = r + 1 := by omega
    subst this
    obtain ⟨x, hx, rfl, hd1⟩ := hd.succ
    exact hl x hx i hi hd1 hd
/-- A distance as the reference keeps it. -/
noncomputable def dI' (ls : List Ln) (t p : Pt) : Int := match dstP ls t p with
  | some n => n
  | none => -1
noncomputable def stO (ls : List Ln) (t : Pt) (ps : List Pt) : List Int := ps.map (dI' ls t)
theorem Bf.fin {ls : List Ln} {t : Pt} {ps : List Pt} {o : List Int} (hl : ∀ x ∈ ls, x.2 ∈ ps) (h : Bf ls t ps o ps.length) : o = stO ls t ps := by
  refine List.ext_getElem? fun i => ?_
  unfold stO
  rw [List.getElem?_map]
  cases hp : ps[i]? with
  | none =>
    have := List.getElem?_eq_none_iff.1 hp
    rw [Option.map_none, List.getElem?_eq_none_iff, h.len]; exact this
  | some p =>
    rw [Option.map_some]
    have hmem := List.mem_of_getElem? hp
    cases hd : dstP ls t p with
    | some n =>
      have hd' := dstP_some.1 hd
      have := dst_lt hmem hl hd'
      rw [h.dst i p n (by omega) hp hd', dI', hd]
    | none =>
      have hn := dstP_none.1 hd
      have hi : i < o.length := by rw [h.len]; exact (List.getElem?_eq_some_iff.1 hp).1
      have ho : o[i]? = some o[i] := List.getElem?_eq_getElem hi
      rcases h.way i p _ hp ho with h1 | ⟨_, h1⟩
      · rw [ho, dI', hd, h1]
      · exact absurd h1 (hn _)
end Go.Proofs.Ytkgeadhnagnloaa.H
