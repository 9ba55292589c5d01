/- Chapter 10: references that are right (or all wrong by the same way), plainly. -/
import Derived.Test.YtipanehdmhachaaGreatDoorHqG
set_option linter.unusedSimpArgs false
set_option linter.unusedVariables false
set_option linter.unusedSectionVars false
namespace Go.Proofs.YtipanehdmhachaaGreatDoor.H
variable [DR]
theorem spb {sp a : Int} (h0 : 0 ≤ sp) (h1 : sp ≤ 40) (h2 : 0 ≤ a) (h3 : a ≤ 20) : 0 ≤ sp * a ∧ sp * a ≤ 800 := by
  have a1 := Int.mul_nonneg h0 h2
  have a2 := Int.mul_le_mul h1 h3 h2 (by omega)
  omega
/-- A fix that was right when it came: how far from the place it can be by now. -/
structure Nr (sp : Int) (f : Fx) (k x y : Int) : Prop where
  e : 1 ≤ f.e ∧ f.e ≤ 100
  t : 1 ≤ f.t ∧ f.t ≤ k
  x1 : f.x - x ≤ f.e + sp * (k - f.t)
  x2 : x - f.x ≤ f.e + sp * (k - f.t)
  y1 : f.y - y ≤ f.e + sp * (k - f.t)
  y2 : y - f.y ≤ f.e + sp * (k - f.t)
def Mv (sp x y x' y' : Int) : Prop := x' - x ≤ sp ∧ x - x' ≤ sp ∧ y' - y ≤ sp ∧ y - y' ≤ sp
structure Bd (sp k x y : Int) : Prop where
  s : 0 ≤ sp ∧ sp ≤ 40
  k : 0 ≤ k ∧ k ≤ 20
  x : -200000 ≤ x ∧ x ≤ 200000
  y : -200000 ≤ y ∧ y ≤ 200000
theorem Nr.move {sp k x y x' y' : Int} {f : Fx} (h : Nr sp f k x y) (hm : Mv sp x y x' y') : Nr sp f (k + 1) x' y' := by
  obtain ⟨a, b, c1, c2, c3, c4⟩ := h
  obtain ⟨m1, m2, m3, m4⟩ := hm
  have e : sp * (k + 1 - f.t) = sp * (k - f.t) + sp := by
    rw [show k + 1 - f.t = (k - f.t) + 1 by omega, Int.mul_add, Int.mul_one]
  exact ⟨a, by omega, by rw [e]; omega, by rw [e]; omega, by rw [e]; omega, by rw [e]; omega⟩
theorem Nr.bd {sp k x y : Int} {f : Fx} (h : Nr sp f k x y) (hb : Bd sp k x y) : 0 ≤ sp * (k - f.t) ∧ sp * (k - f.t) ≤ 800 := spb hb.s.1 hb.s.2 (by have := h.t; omega) (by have := h.t; have := hb.k; omega)
theorem Nr.va {sp k x y : Int} {f : Fx} (h : Nr sp f k x y) (hb : Bd sp k x y) : vaF f = true := by
  have h1 := h.bd hb
  obtain ⟨a, b, c1, c2, c3, c4⟩ := h
  obtain ⟨b1, b2, b3, b4⟩ := hb
  rw [vaF_iff]
  omega
def RO (r : Rf) (sp : Int) : Prop := vaR r = true ∧ r.s = sp ∧ r.fz = 0
/-- Ahead of the tick. -/
def TrQ (r : Rf) (sp : Int) (t : Tk) (k x y : Int) : Prop :=
  (t.seen = false ∧ t.state = 0) ∨ (t.seen = true ∧ t.good = t.last ∧ (1 ≤ t.same ∧ t.same ≤ t.last.t) ∧ Nr sp t.last k x y ∧ (k - t.last.t < r.st → t.state = 1))
def TrP (r : Rf) (sp : Int) (t : Tk) (k x y : Int) : Prop :=
  (t.seen = false ∧ t.state = 0) ∨ (t.seen = true ∧ t.good = t.last ∧ (1 ≤ t.same ∧ t.same ≤ t.last.t) ∧ Nr sp t.last k x y ∧ t.state = if k - t.last.t < r.st then 1 else 2)
theorem TrP.move {r : Rf} {sp k x y x' y' : Int} {t : Tk} (h : TrP r sp t k x y) (hm : Mv sp x y x' y') : TrQ r sp t (k + 1) x' y' ∧ (t.seen = true → t.last.t ≤ k) := by
  rcases h with h | ⟨a, b, c, d, e⟩
  · exact ⟨.inl h, fun hs => by rw [h.1] at hs; cases hs⟩
  · refine ⟨.inr ⟨a, b, c, d.move hm, fun hk => by rw [e, if_pos (by omega)]⟩, fun _ => d.t.2⟩
theorem TrQ.va {r : Rf} {sp k x y : Int} {t : Tk} (h : TrQ r sp t k x y) (hb : Bd sp k x y) : vaT t = true := by
  rcases h with h | ⟨a, b, c, d, e⟩
  · simp [vaT, h.1]
  · have := d.va hb
    have hk := hb.k
    have hdt := d.t
    simp only [vaT, a, b, this, inP, Bool.not_true, Bool.and_self, Bool.false_or, decide_eq_true_eq, Bool.true_and]
    omega
theorem TrQ.tick {r : Rf} {sp k x y : Int} {t : Tk} (hr : RO r sp) (h : TrQ r sp t k x y) (hb : Bd sp k x y) : TrP r sp (if (tickP r t k).2 = 0 then (tickP r t k).1 else t) k x y ∧ (if (tickP r t k).2 = 0 then (tickP r t k).1 else t).last = t.last ∧ (if (tickP r t k).2 = 0 then (tickP r t k).1 else t).seen = t.seen := by
  have hv := h.va hb
  have hi : inP k 0 2147483648 = true := by have := hb.k; simp [inP]; omega
  unfold tickP
  rw [hr.1, hi, hv]
  rcases h with h | ⟨a, b, c, d, e⟩
  · simp only [h.1, Bool.and_self, Bool.not_true, Bool.false_eq_true, if_false, Bool.false_and, if_true]
    exact ⟨.inl h, trivial, trivial⟩
  · have ht := d.t
    by_cases hs : r.st ≤ k - t.last.t
    · have h1 : ¬ k < t.last.t := by omega
      simp only [a, h1, hs, decide_false, decide_true, Bool.and_self, Bool.and_false, Bool.not_true, Bool.false_eq_true, if_false, if_true]
      exact ⟨.inr ⟨rfl, b, c, d, by simp only; rw [if_neg (by omega)]⟩, trivial, trivial⟩
    · have h1 : ¬ k < t.last.t := by omega
      simp only [a, h1, hs, decide_false, Bool.and_false, Bool.and_self, Bool.not_true, Bool.false_eq_true, if_false, if_true]
      exact ⟨.inr ⟨a, b, c, d, by rw [e (by omega), if_pos (by omega)]⟩, trivial, trivial⟩
def ms1 (r : Rf) (t : Tk) (s : Sg) : Tk := if (msP r t (sgF s)).2 = 0 then (msP r t (sgF s)).1 else t
structure GS (k x y : Int) (s : Sg) : Prop where
  t : s.t = k
  c : 1 ≤ s.c ∧ s.c ≤ 100
  a : s.a - x ≤ s.c ∧ x - s.a ≤ s.c
  b : s.b - y ≤ s.c ∧ y - s.b ≤ s.c
theorem GS.nr {sp k x y : Int} {s : Sg} (h : GS k x y s) (hk : 1 ≤ k) : Nr sp (sgF s) k x y := by
  obtain ⟨a, b, c, d⟩ := h
  have e : sp * (k - s.t) = 0 := by rw [a, Int.sub_self, Int.mul_zero]
  exact ⟨b, by show 1 ≤ s.t ∧ s.t ≤ k; omega, by show s.a - x ≤ s.c + sp * (k - s.t); omega, by show x - s.a ≤ s.c + sp * (k - s.t); omega, by show s.b - y ≤ s.c + sp * (k - s.t); omega, by show y - s.b ≤ s.c + sp * (k - s.t); omega⟩
theorem TrQ.fix {r : Rf} {sp k x y : Int} {t : Tk} {s : Sg} (hr : RO r sp) (h : TrQ r sp t k x y) (hb : Bd sp k x y) (hl : t.seen = true → t.last.t < k) (hk : 1 ≤ k) (hs : GS k x y s) : TrQ r sp (ms1 r t s) k x y ∧ (ms1 r t s).last = sgF s ∧ (ms1 r t s).seen = true := by
  have hv := h.va hb
  have hn := hs.nr (sp := sp) hk
  have hf := hn.va hb
  have hft : (sgF s).t = k := hs.t
  unfold ms1 msP
  rw [hr.1, hf, hv]
  rcases h with h | ⟨a, b, c, d, e⟩
  · simp only [h.1, Bool.and_self, Bool.not_true, Bool.false_eq_true, if_false, Bool.false_and, Bool.not_false, if_true]
    exact ⟨.inr ⟨rfl, rfl, by simp only; omega, hn, fun _ => rfl⟩, trivial, trivial⟩
  · have h1 : ¬ (sgF s).t ≤ t.last.t := by have := hl a; omega
    have hj : jumP r t.good (sgF s) = false := by
      unfold jumP
      rw [b]
      have hd := d.bd hb
      have e1 : r.s * ((sgF s).t - t.last.t) = sp * (k - t.last.t) := by rw [hr.2.1, hft]
      rw [e1]
      obtain ⟨d1, d2, d3, d4, d5, d6⟩ := d
      obtain ⟨n1, n2, n3, n4, n5, n6⟩ := hn
      have e2 : sp * (k - (sgF s).t) = 0 := by rw [hft, Int.sub_self, Int.mul_zero]
      rw [e2] at n3 n4 n5 n6
      rw [decide_eq_false_iff_not]
      unfold boxP
      split <;> omega
    have hsm : 1 ≤ sameP t (sgF s) ∧ sameP t (sgF s) ≤ (sgF s).t := by
      have hla := hl a
      unfold sameP
      split <;> omega
    simp only [a, h1, hj, hr.2.2, decide_false, Bool.and_false, Bool.and_self, Bool.not_true, Bool.false_eq_true, if_false, ne_eq, not_true_eq_false, false_and, if_true]
    exact ⟨.inr ⟨rfl, rfl, hsm, hn, fun _ => rfl⟩, trivial, trivial⟩
/-! ### All tracks of a tick -/
theorem tkT_eq (l : List Rf) (k : Int) (i : Nat) (t : Tk) : tkT l k i t = if (tickP (l.getD i rf0) t k).2 = 0 then (tickP (l.getD i rf0) t k).1 else t := rfl
theorem takeP_at {l : List Rf} {ts : List Tk} {k : Int} {fs : List Sg} {i : Nat} (hi : i < ts.length) : (takeP l ts k fs).getD i tk0 = tkT l k i ((fs.foldl (stepS l k) ts).getD i tk0) := by
  have h : i < (fs.foldl (stepS l k) ts).length := by rw [foldS_len]; exact hi
  unfold takeP
  simp [List.getD, List.getElem?_mapIdx, h]
theorem stepS_at {l : List Rf} {cur : List Tk} {k : Int} {s : Sg} {i : Nat} (hl : cur.length = l.length) (hi : i < l.length) (hs : isS l k s = true) :
    (stepS l k cur s).getD i tk0 = if s.src = i then ms1 (l.getD i rf0) (cur.getD i tk0) s else cur.getD i tk0 := by
  unfold stepS
  rw [hs]
  simp only [isS, decide_eq_true_eq] at hs
  simp only [if_true]
  by_cases e : s.src = i
  · rw [if_pos e]
    have e2 : s.src.toNat = i := by omega
    rw [e2]
    unfold ms1
    split
    · simp [List.getD, hl, hi]
    · rfl
  · rw [if_neg e]
    have e2 : ¬ s.src.toNat = i := by omega
    split
    · simp [List.getD, List.getElem?_set, e2]
    · rfl
theorem foldS_at {l : List Rf} {k : Int} {i : Nat} (hi : i < l.length) : ∀ {fs : List Sg} {cur : List Tk}, cur.length = l.length → (∀ s ∈ fs, isS l k s = true) → fs.Pairwise (fun a b => a.src ≠ b.src) →
    (∃ s, s ∈ fs ∧ s.src = i ∧ (fs.foldl (stepS l k) cur).getD i tk0 = ms1 (l.getD i rf0) (cur.getD i tk0) s) ∨ ((∀ s ∈ fs, s.src ≠ i) ∧ (fs.foldl (stepS l k) cur).getD i tk0 = cur.getD i tk0)
  | [], cur, _, _, _ => .inr ⟨by simp, rfl⟩
  | s :: fs, cur, hl, hs, hp => by
    rw [List.pairwise_cons] at hp
    have h1 := stepS_at hl hi (hs s (List.mem_cons_self ..))
    have h2 := foldS_at hi (fs := fs) (cur := stepS l k cur s) (by rw [stepS_len]; exact hl) (fun x hx => hs x (List.mem_cons_of_mem _ hx)) hp.2
    rw [List.foldl_cons]
    rcases h2 with ⟨x, hx, e1, e2⟩ | ⟨hn, e2⟩
    · have hne : s.src ≠ i := fun e => hp.1 x hx (e.trans e1.symm)
      rw [if_neg hne] at h1
      exact .inl ⟨x, List.mem_cons_of_mem _ hx, e1, by rw [e2, h1]⟩
    · by_cases e : s.src = i
      · rw [if_pos e] at h1
        exact .inl ⟨s, List.mem_cons_self .., e, by rw [e2, h1]⟩
      · rw [if_neg e] at h1
        refine .inr ⟨fun x hx => ?_, by rw [e2, h1]⟩
        rcases List.mem_cons.1 hx with rfl | hx
        · exact e
        · exact hn x hx
/-- References with causes of their own, tracks that may have been right, each about its own place. -/
structure TrA (l : List Rf) (sp : Int) (off : Nat → Int) (ts : List Tk) (k x y : Int) : Prop where
  len : ts.length = l.length
  tr : ∀ i, i < l.length → TrP (l.getD i rf0) sp (ts.getD i tk0) k (x + off i) y
structure RfA (l : List Rf) (sp : Int) (off : Nat → Int) : Prop where
  len : l.length ≤ 8
  ro : ∀ i, i < l.length → RO (l.getD i rf0) sp
  c : ∀ i, i < l.length → (l.getD i rf0).c = i
  off : ∀ i, 0 ≤ off i ∧ off i ≤ 100000
structure GSA (l : List Rf) (off : Nat → Int) (k x y : Int) (fs : List Sg) : Prop where
  is : ∀ s ∈ fs, isS l k s = true
  pw : fs.Pairwise (fun a b => a.src ≠ b.src)
  gs : ∀ s ∈ fs, GS k (x + off s.src.toNat) y s
structure Bd0 (sp k x y : Int) : Prop where
  s : 0 ≤ sp ∧ sp ≤ 40
  k : 0 ≤ k ∧ k ≤ 20
  x : -1000 ≤ x ∧ x ≤ 1000
  y : -1000 ≤ y ∧ y ≤ 1000
theorem Bd0.bd {sp k x y o : Int} (h : Bd0 sp k x y) (ho : 0 ≤ o ∧ o ≤ 100000) : Bd sp k (x + o) y := by
  obtain ⟨a, b, c, d⟩ := h
  exact ⟨a, b, by omega, by omega⟩
theorem TrA.step {l : List Rf} {sp : Int} {off : Nat → Int} {ts : List Tk} {k x y x' y' : Int} {fs : List Sg} (hl : RfA l sp off) (h : TrA l sp off ts k x y) (hm : Mv sp x y x' y') (hb : Bd0 sp (k + 1) x' y') (hk : 0 ≤ k) (hs : GSA l off (k + 1) x' y' fs) :
    TrA l sp off (takeP l ts (k + 1) fs) (k + 1) x' y' ∧ ∀ i, i < l.length → ((∃ s, s ∈ fs ∧ s.src = i) → ((takeP l ts (k + 1) fs).getD i tk0).seen = true ∧ ((takeP l ts (k + 1) fs).getD i tk0).last.t = k + 1) ∧
      ((∀ s ∈ fs, s.src ≠ i) → ((takeP l ts (k + 1) fs).getD i tk0).seen = (ts.getD i tk0).seen ∧ ((takeP l ts (k + 1) fs).getD i tk0).last = (ts.getD i tk0).last) := by
  have key : ∀ i, i < l.length → TrP (l.getD i rf0) sp ((takeP l ts (k + 1) fs).getD i tk0) (k + 1) (x' + off i) y' ∧ ((∃ s, s ∈ fs ∧ s.src = i) → ((takeP l ts (k + 1) fs).getD i tk0).seen = true ∧ ((takeP l ts (k + 1) fs).getD i tk0).last.t = k + 1) ∧
      ((∀ s ∈ fs, s.src ≠ i) → ((takeP l ts (k + 1) fs).getD i tk0).seen = (ts.getD i tk0).seen ∧ ((takeP l ts (k + 1) fs).getD i tk0).last = (ts.getD i tk0).last) := by
    intro i hi
    have hr := hl.ro i hi
    have ho := hl.off i
    have hbd := hb.bd ho
    have hm' : Mv sp (x + off i) y (x' + off i) y' := by unfold Mv at hm ⊢; omega
    obtain ⟨hq, hla⟩ := (h.tr i hi).move hm'
    rw [takeP_at (by rw [h.len]; exact hi), tkT_eq]
    rcases foldS_at (l := l) (k := k + 1) hi h.len hs.is hs.pw with ⟨s, h1, h2, h3⟩ | ⟨h1, h3⟩
    · have hg := hs.gs s h1
      have e : s.src.toNat = i := by omega
      rw [e] at hg
      obtain ⟨q1, q2, q3⟩ := hq.fix hr hbd (fun hx => by have := hla hx; omega) (by omega) hg
      obtain ⟨g1, g2, g3⟩ := q1.tick hr hbd
      rw [h3]
      exact ⟨g1, fun _ => ⟨g3.trans q3, by rw [g2, q2]; exact hg.t⟩, fun hn => absurd h2 (hn s h1)⟩
    · obtain ⟨g1, g2, g3⟩ := hq.tick hr hbd
      rw [h3]
      exact ⟨g1, fun ⟨s, a, b⟩ => absurd b (h1 s a), fun _ => ⟨g3, g2⟩⟩
  exact ⟨⟨(takeP_len ..).trans h.len, fun i hi => (key i hi).1⟩, fun i hi => (key i hi).2⟩
/-! ### The vote and the mean -/
structure NrF (f : Fx) (x y : Int) : Prop where
  ok : okF f = true
  x1 : f.x - x ≤ f.e ∧ x - f.x ≤ f.e
  y1 : f.y - y ≤ f.e ∧ y - f.y ≤ f.e
theorem TrP.now {r : Rf} {sp k x y : Int} {t : Tk} (h : TrP r sp t k x y) (hb : Bd sp k x y) (hn : nowB t k sp = true) : NrF (nowF t k sp) x y ∧ (nowF t k sp).e ≤ 1000 := by
  obtain ⟨e, h1, h2, h3, h4, h5, h6⟩ := nowB_ok hn
  have hok := (okP_F hn).1
  rcases h with h | ⟨a, b, c, d, g⟩
  · rw [h.2] at h6; cases h6
  · have hd := d.bd hb
    have hgr : (growP t.last.e sp (k - t.last.t)).1 = t.last.e + sp * (k - t.last.t) := by
      unfold growP
      have := d.e
      have := d.t
      have := hb.k
      have := hb.s
      rw [if_neg (by omega)]
      simp only; omega
    rw [e] at hok ⊢
    rw [hgr] at hok ⊢
    obtain ⟨d1, d2, d3, d4, d5, d6⟩ := d
    exact ⟨⟨hok, ⟨d3, d4⟩, d5, d6⟩, by simp only; omega⟩
theorem TrP.usable {r : Rf} {sp k x y : Int} {t : Tk} (h : TrP r sp t k x y) (hb : Bd sp k x y) (hs : t.seen = true) : nowB t k sp = decide (k - t.last.t < r.st) := by
  rcases h with h | ⟨a, b, c, d, g⟩
  · rw [h.1] at hs; cases hs
  · have hd := d.bd hb
    have hv := d.va hb
    have h1 := d.e
    have h2 := d.t
    have h3 := hb.k
    have h4 := hb.s
    unfold nowB useP
    have hgr : growP t.last.e sp (k - t.last.t) = (t.last.e + sp * (k - t.last.t), 0) := by
      unfold growP
      rw [if_neg (by omega)]
      refine Prod.ext ?_ rfl
      simp only; omega
    rw [g, hv, hgr]
    by_cases hc : k - t.last.t < r.st
    · simp [hc]; omega
    · simp [hc]
theorem NrF.ag {f g : Fx} {x y : Int} (hf : NrF f x y) (hg : NrF g x y) : agP f g = true := by
  have a := okF_iff hf.ok
  have b := okF_iff hg.ok
  have h1 := hf.x1
  have h2 := hf.y1
  have h3 := hg.x1
  have h4 := hg.y1
  rw [agP_iff]
  refine ⟨by simp [okP]; omega, by simp [okP]; omega, by omega, by omega, by omega, by omega, by omega, by omega, by omega, by omega⟩
/-- The mean of right fixes holds. -/
theorem mean_holds {F : List Fx} {time x y : Int} (h0 : F ≠ []) (h8 : F.length ≤ 8) (h : ∀ f ∈ F, NrF f x y) (hp : okP x y = true) : holdsP (nextG time F) x y = true ∧ (nextG time F).s = 1 := by
  have hok : ∀ f ∈ F, okF f = true := fun f hf => (h f hf).ok
  have hc := chk_of h0 h8 hok
  have hm := mean_in h0 hok
  have hb : ∀ f ∈ F, boxP (meanX F) (meanY F) f.x f.y + f.e ≤ boundP F := (far_ge (l := F) (b := 0)).2
  unfold nextG
  rw [if_pos hc]
  obtain ⟨f, hf⟩ := List.exists_mem_of_ne_nil F h0
  have h1 := hb f hf
  have h2 := h f hf
  have hfo := okF_iff h2.ok
  have hfp : okP f.x f.y = true := by simp [okP]; omega
  refine ⟨?_, rfl⟩
  simp only [holdsP, hp, hm, Bool.and_true, ne_eq, Bool.and_eq_true, decide_eq_true_eq]
  refine ⟨by decide, ?_⟩
  have a := h2.x1
  have b := h2.y1
  unfold boxP at h1 ⊢
  rw [hm, hfp] at h1
  rw [hm, hp]
  simp only [Bool.and_self, if_true] at h1 ⊢
  omega
theorem fixS_at {ts : List Tk} {k sp : Int} {S : List Nat} {f : Fx} (h : f ∈ fixS ts k sp S) : ∃ i, i ∈ S ∧ f = nowF (ts.getD i tk0) k sp := by
  obtain ⟨i, hi, rfl⟩ := List.mem_map.1 h
  exact ⟨i, hi, rfl⟩
theorem lost_holds {e : Es} {sp k x y x' y' : Int} (hb : 0 ≤ e.b ∧ e.b ≤ 200000000) (ht : e.t = k) (h : holdsP e x y = true) (hm : Mv sp x y x' y') (hs : 0 ≤ sp ∧ sp ≤ 40) (hp : okP x' y' = true) :
    holdsP ⟨e.x, e.y, (growP e.b sp (k + 1 - e.t)).1, k + 1, 2⟩ x' y' = true := by
  have hg : (growP e.b sp (k + 1 - e.t)).1 = min (e.b + sp) 200000000 := by
    unfold growP
    rw [ht, show k + 1 - k = 1 by omega, Int.mul_one, if_neg (by omega)]
  simp only [holdsP, Bool.and_eq_true, decide_eq_true_eq] at h ⊢
  obtain ⟨⟨⟨h1, h2⟩, h3⟩, h4⟩ := h
  refine ⟨⟨⟨by decide, hp⟩, h3⟩, ?_⟩
  rw [hg]
  unfold boxP at h4 ⊢
  rw [h2, h3] at h4
  rw [hp, h3]
  simp only [okP, decide_eq_true_eq] at h2 h3 hp
  simp only [Bool.and_self, if_true] at h4 ⊢
  obtain ⟨m1, m2, m3, m4⟩ := hm
  omega
theorem cauS_idx {l : List Rf} {sp : Int} {off : Nat → Int} {S : List Nat} (hl : RfA l sp off) (hS : ∀ i ∈ S, i < l.length) : cauS l S = idxS S := by
  unfold cauS idxS
  refine List.map_congr_left fun i hi => ?_
  exact hl.c i (hS i hi)
theorem okP_bd {sp k x y : Int} (h : Bd0 sp k x y) : okP x y = true := by
  have := h.x; have := h.y
  simp [okP]; omega
theorem good_next {l : List Rf} {sp : Int} {off : Nat → Int} {ts : List Tk} {k x y : Int} {e : Es} {m : List Int} (hl : RfA l sp off) (h : TrA l sp off ts k x y) (hb : Bd0 sp k x y) (hm : m ≠ []) (ho : ∀ i ∈ goodP (selP ts k sp l.length) m, off i = 0) (h0 : goodP (selP ts k sp l.length) m ≠ []) :
    holdsP (nextP e k sp ts (selP ts k sp l.length) m) x y = true ∧ (nextP e k sp ts (selP ts k sp l.length) m).s = 1 := by
  unfold nextP
  rw [if_pos hm]
  have hlen := goodP_len (selP ts k sp l.length) m
  have hsl := selP_len ts k sp l.length
  have h8 := hl.len
  refine mean_holds (by simpa [fixS] using h0) (by simp [fixS]; omega) (fun f hf => ?_) (okP_bd hb)
  obtain ⟨i, hi, rfl⟩ := fixS_at hf
  have hi2 := selP_mem.1 (List.mem_filter.1 hi).1
  have hn := ((h.tr i hi2.1).now (hb.bd (hl.off i)) hi2.2).1
  rw [ho i hi, Int.add_zero] at hn
  exact hn
/-- The estimate behind the steps so far. -/
structure EsI (e : Es) (k x y : Int) : Prop where
  b : 0 ≤ e.b ∧ e.b ≤ 200000000
  t : e.t = k
  p : okP e.x e.y = true
  h : e.s ≠ 0 → holdsP e x y = true
theorem TrA.chk {l : List Rf} {sp : Int} {off : Nat → Int} {ts : List Tk} {k x y : Int} {e : Es} (hl : RfA l sp off) (h : TrA l sp off ts k x y) (he : EsI e k x y) (hs : 0 ≤ sp ∧ sp ≤ 40) (hk : 0 ≤ k ∧ k < 20) : ChkOK l sp ts e (k + 1) := by
  refine ⟨⟨hl.len, fun r hr => ?_⟩, h.len, by simp [timesP]; omega, he.b, by have := he.t; omega, he.p, fun t ht hsn => ?_⟩
  · obtain ⟨i, hi, rfl⟩ := List.getElem_of_mem hr
    have := (hl.ro i hi).1
    simpa [List.getD, hi] using this
  · obtain ⟨i, hi, rfl⟩ := List.getElem_of_mem ht
    have := h.tr i (by have := h.len; omega)
    simp only [List.getD, hi, List.getElem?_eq_getElem, Option.getD_some] at this
    rcases this with g | ⟨a, b, c, d, g⟩
    · rw [g.1] at hsn; cases hsn
    · have := d.t; omega
end Go.Proofs.YtipanehdmhachaaGreatDoor.H
