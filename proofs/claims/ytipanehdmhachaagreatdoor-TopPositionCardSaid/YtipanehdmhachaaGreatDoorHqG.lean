/- Chapter 10: what holds behind every step; signals in any order. -/
import Derived.Test.YtipanehdmhachaaGreatDoorHqP
set_option linter.unusedSimpArgs false
set_option linter.unusedVariables false
set_option linter.unusedSectionVars false
namespace Go.Proofs.YtipanehdmhachaaGreatDoor.H
variable [DR]
theorem nowB_ok {t : Tk} {time speed : Int} (h : nowB t time speed = true) :
    nowF t time speed = ⟨t.last.t, t.last.x, t.last.y, (growP t.last.e speed (time - t.last.t)).1⟩ ∧ okP t.last.x t.last.y = true ∧ 1 ≤ (growP t.last.e speed (time - t.last.t)).1 ∧ (growP t.last.e speed (time - t.last.t)).1 ≤ 100000 ∧ t.last.t ≤ time ∧ vaF t.last = true ∧ t.state = 1 := by
  unfold nowB at h
  simp only [Bool.and_eq_true, decide_eq_true_eq] at h
  obtain ⟨⟨h1, h2⟩, h3⟩ := h
  have h1' := h1
  unfold useP at h1
  simp only [Bool.and_eq_true, decide_eq_true_eq] at h1
  obtain ⟨⟨h4, h5⟩, h6⟩ := h1
  refine ⟨by unfold nowF; rw [if_pos h1'], ?_, ?_, h3, h6, h5, h4⟩
  · have := (vaF_iff.1 h5).2.1
    simpa [okP] using this
  · have h7 := (vaF_iff.1 h5).2.2
    unfold growP at h2 ⊢
    split
    · rename_i hc; rw [if_pos hc] at h2; simp at h2
    · rename_i hc
      have := grow_bound (b := speed) (c := time - t.last.t) (by omega) (by omega) (by omega) (by omega)
      simp only; omega
theorem okP_F {t : Tk} {time speed : Int} (h : nowB t time speed = true) : okF (nowF t time speed) = true ∧ agP (nowF t time speed) (nowF t time speed) = true := by
  obtain ⟨e, h1, h2, h3, -⟩ := nowB_ok h
  rw [e]
  refine ⟨okF_of h1 h2 h3, ?_⟩
  rw [agP_iff]
  exact ⟨h1, h1, by simp only; omega, by simp only; omega, by simp only; omega, by simp only; omega, by simp only; omega, by simp only; omega, by simp only; omega, by simp only; omega⟩
/-! ### Sums between bounds -/
theorem half_lohi {n d lo hi : Int} (hd : 0 < d) (h1 : lo * d ≤ n) (h2 : n ≤ hi * d) : lo ≤ halfP n d ∧ halfP n d ≤ hi := by
  unfold halfP
  constructor
  · rw [Int.le_ediv_iff_mul_le (by omega)]
    have : lo * (2 * d) = 2 * (lo * d) := Int.mul_left_comm ..
    omega
  · have : (2 * n + d) / (2 * d) < hi + 1 := by
      rw [Int.ediv_lt_iff_lt_mul (by omega)]
      have : (hi + 1) * (2 * d) = 2 * (hi * d) + 2 * d := by rw [Int.add_mul, Int.mul_left_comm]; omega
      omega
    omega
structure InB (lx hx ly hy : Int) (a : Int × Int × Int) : Prop where
  x : lx * a.2.2 ≤ a.1 ∧ a.1 ≤ hx * a.2.2
  y : ly * a.2.2 ≤ a.2.1 ∧ a.2.1 ≤ hy * a.2.2
theorem InB.step {lx hx ly hy : Int} {a : Int × Int × Int} {f : Fx} {m : Int} (h : InB lx hx ly hy a) (hf : okF f = true) (hm : wtP f.e ≤ m) (h1 : lx ≤ f.x ∧ f.x ≤ hx) (h2 : ly ≤ f.y ∧ f.y ≤ hy) : InB lx hx ly hy (stepP m a f) := by
  obtain ⟨-, -, he, hw, -⟩ := okF_iff hf
  have hu := up_bound hw hm
  generalize hW : upP (1000 * wtP f.e) m = w at hu
  have hw0 : 0 ≤ w := by omega
  have a1 := Int.mul_le_mul_of_nonneg_left h1.1 hw0
  have a2 := Int.mul_le_mul_of_nonneg_left h1.2 hw0
  have a3 := Int.mul_le_mul_of_nonneg_left h2.1 hw0
  have a4 := Int.mul_le_mul_of_nonneg_left h2.2 hw0
  obtain ⟨g1, g2⟩ := h
  unfold stepP
  rw [hW]
  refine ⟨?_, ?_⟩
  · simp only
    rw [Int.mul_add, Int.mul_add, Int.mul_comm lx w, Int.mul_comm hx w]
    omega
  · simp only
    rw [Int.mul_add, Int.mul_add, Int.mul_comm ly w, Int.mul_comm hy w]
    omega
theorem InB.fold {lx hx ly hy m : Int} : ∀ {l : List Fx} {a : Int × Int × Int}, (∀ f ∈ l, (okF f = true ∧ wtP f.e ≤ m) ∧ (lx ≤ f.x ∧ f.x ≤ hx) ∧ ly ≤ f.y ∧ f.y ≤ hy) → InB lx hx ly hy a → InB lx hx ly hy (l.foldl (stepP m) a)
  | [], a, _, h => h
  | f :: l, a, hl, h => by
    have hf := hl f (List.mem_cons_self ..)
    rw [List.foldl_cons]
    exact InB.fold (fun g hg => hl g (List.mem_cons_of_mem _ hg)) (h.step hf.1.1 hf.1.2 hf.2.1 hf.2.2)
theorem mean_lohi {l : List Fx} {lx hx ly hy : Int} (h0 : l ≠ []) (h : ∀ f ∈ l, okF f = true) (hb : ∀ f ∈ l, (lx ≤ f.x ∧ f.x ≤ hx) ∧ ly ≤ f.y ∧ f.y ≤ hy) : (lx ≤ meanX l ∧ meanX l ≤ hx) ∧ ly ≤ meanY l ∧ meanY l ≤ hy := by
  have h1 := InS.fold (m := mostP l) (l := l) (a := (0, 0, 0)) (fun f hf => ⟨h f hf, most_le.2 f hf⟩) ⟨by simp, by simp, by simp⟩
  have h2 := InB.fold (m := mostP l) (l := l) (a := (0, 0, 0)) (lx := lx) (hx := hx) (ly := ly) (hy := hy) (fun f hf => ⟨⟨h f hf, most_le.2 f hf⟩, hb f hf⟩) ⟨by simp, by simp⟩
  have e : l.foldl (stepP (mostP l)) (0, 0, 0) = sumsP l := rfl
  rw [e] at h1 h2
  have h3 := h1.2.2 h0
  simp only at h3
  exact ⟨half_lohi h3 h2.x.1 h2.x.2, half_lohi h3 h2.y.1 h2.y.2⟩
/-- Fixes of which each two agree: the mean is near each of them. -/
theorem mean_near {l : List Fx} (h : ∀ f ∈ l, okF f = true) (ha : ∀ f ∈ l, ∀ g ∈ l, agP f g = true) : ∀ f ∈ l, boxP (meanX l) (meanY l) f.x f.y ≤ 200000 := by
  intro f hf
  have h0 : l ≠ [] := List.ne_nil_of_mem hf
  have hm := mean_in h0 h
  obtain ⟨hx, hy, he, -⟩ := okF_iff (h f hf)
  have hok : okP f.x f.y = true := by simp [okP]; omega
  have hb := mean_lohi (lx := f.x - 200000) (hx := f.x + 200000) (ly := f.y - 200000) (hy := f.y + 200000) h0 h (fun g hg => by
    have := (agP_iff f g).1 (ha f hf g hg)
    obtain ⟨-, -, he2, -⟩ := okF_iff (h g hg)
    omega)
  unfold boxP
  rw [hm, hok]
  simp; omega
theorem bound_le {l : List Fx} (h : ∀ f ∈ l, okF f = true) (ha : ∀ f ∈ l, ∀ g ∈ l, agP f g = true) : 0 ≤ boundP l ∧ boundP l ≤ 300000 := by
  constructor
  · exact far_ge.1
  · refine far_le (by decide) fun f hf => ?_
    have := mean_near h ha f hf
    obtain ⟨-, -, he, -⟩ := okF_iff (h f hf)
    omega
/-! ### The members' fixes -/
theorem selP_mem {ts : List Tk} {time speed : Int} {n i : Nat} : i ∈ selP ts time speed n ↔ i < n ∧ nowB (ts.getD i tk0) time speed = true := by
  simp [selP]
theorem memS_mem {S : List Nat} {m : List Int} {v : Int} (h : v ∈ memS S m) (hm : ∀ k ∈ m, 0 ≤ k ∧ k < S.length) : ∃ k, k ∈ m ∧ ∃ (hk : k.toNat < S.length), v = (S[k.toNat] : Int) := by
  unfold memS at h
  obtain ⟨k, h1, rfl⟩ := List.mem_map.1 h
  have := hm k h1
  have hk : k.toNat < S.length := by omega
  exact ⟨k, h1, hk, by simp [idxS, hk]⟩
theorem clq_atF {l : List Fx} {m : List Int} (h : clqP l m = true) {a b : Int} (ha : a ∈ m) (hb : b ∈ m) : agP (atF l a) (atF l b) = true := ((clqP_iff l m).1 h).2.2 a ha b hb
theorem dec_clq (c : List Int) (l : List Fx) : clqP l (decP c l).m = true := by
  unfold decP
  split
  · unfold voteP
    split
    · rfl
    · obtain ⟨k, -, hq, hk⟩ := (setsP_mem ..).1 (bestP_best (sets_ne c l)).1
      simp only
      rw [hk]
      exact hq
  · rfl
theorem good_fix {l : List Rf} {ts : List Tk} {time speed : Int} {S : List Nat} {i : Nat} (h : i ∈ goodP S (voteS l ts time speed S).m) : i ∈ S ∧ ∃ k, k ∈ (decP (cauS l S) (fixS ts time speed S)).m ∧ nowR ts time speed i = atF (fixS ts time speed S) k := by
  unfold goodP at h
  rw [List.mem_filter, decide_eq_true_eq] at h
  have hfl : (fixS ts time speed S).length = S.length := by simp [fixS]
  obtain ⟨k, h1, hk, e⟩ := memS_mem (show (i : Int) ∈ memS S (decP (cauS l S) (fixS ts time speed S)).m from h.2) (fun k hk => by have := dec_mem hk; rw [hfl] at this; exact this)
  have e' : i = S[k.toNat] := by omega
  refine ⟨h.1, k, h1, ?_⟩
  rw [e']
  simp [atF, fixS, hk]
theorem good_ok {l : List Rf} {ts : List Tk} {time speed : Int} {n : Nat} : (∀ f ∈ fixS ts time speed (goodP (selP ts time speed n) (voteS l ts time speed (selP ts time speed n)).m), okF f = true) ∧
    ∀ f ∈ fixS ts time speed (goodP (selP ts time speed n) (voteS l ts time speed (selP ts time speed n)).m), ∀ g ∈ fixS ts time speed (goodP (selP ts time speed n) (voteS l ts time speed (selP ts time speed n)).m), agP f g = true := by
  constructor
  · intro f hf
    obtain ⟨i, hi, rfl⟩ := List.mem_map.1 hf
    exact (okP_F (selP_mem.1 (good_fix hi).1).2).1
  · intro f hf g hg
    obtain ⟨i, hi, rfl⟩ := List.mem_map.1 hf
    obtain ⟨j, hj, rfl⟩ := List.mem_map.1 hg
    obtain ⟨-, k, hk, e1⟩ := good_fix hi
    obtain ⟨-, k', hk', e2⟩ := good_fix hj
    rw [e1, e2]
    exact clq_atF (dec_clq _ _) hk hk'
/-! ### Behind every step -/
structure Inv (l : List Rf) (ts : List Tk) (e : Es) (time : Int) : Prop where
  len : ts.length = l.length
  sn : ∀ t ∈ ts, t.seen = true → t.last.t ≤ time
  b : 0 ≤ e.b ∧ e.b ≤ 200000000
  et : 0 ≤ e.t ∧ e.t ≤ time
  pt : okP e.x e.y = true
theorem Inv.chk {l : List Rf} {ts : List Tk} {e : Es} {t0 time speed : Int} (h : Inv l ts e t0) (hc : CfgOK l) (ht : timesP time speed = true) (h0 : t0 ≤ time) : ChkOK l speed ts e time :=
  ⟨hc, h.len, ht, h.b, ⟨h.et.1, by have := h.et; omega⟩, h.pt, fun t h1 h2 => by have := h.sn t h1 h2; omega⟩
theorem msP_last {r : Rf} {t : Tk} {f : Fx} (h : (msP r t f).2 = 0) : (msP r t f).1.last = f := by
  unfold msP at h ⊢
  split
  · rename_i h1; rw [if_pos h1] at h; simp at h
  · rename_i h1; rw [if_neg h1] at h
    split
    · rename_i h2; rw [if_pos h2] at h; simp at h
    · rename_i h2; rw [if_neg h2] at h
      split
      · rfl
      · split
        · rfl
        · split <;> rfl
theorem tickP_last {r : Rf} {t : Tk} {time : Int} (h : (tickP r t time).2 = 0) : (tickP r t time).1.last = t.last ∧ (tickP r t time).1.seen = t.seen := by
  unfold tickP at h ⊢
  split
  · rename_i h1; rw [if_pos h1] at h; simp at h
  · rename_i h1; rw [if_neg h1] at h
    split
    · rename_i h2; rw [if_pos h2] at h; simp at h
    · split <;> exact ⟨rfl, rfl⟩
theorem stepS_seen {l : List Rf} {time : Int} {cur : List Tk} {s : Sg} (h : ∀ t ∈ cur, t.seen = true → t.last.t ≤ time) : ∀ t ∈ stepS l time cur s, t.seen = true → t.last.t ≤ time := by
  unfold stepS
  split
  · rename_i hs
    split
    · rename_i h2
      intro t ht hst
      rcases List.mem_or_eq_of_mem_set ht with ht | rfl
      · exact h t ht hst
      · rw [msP_last h2]
        simp only [isS, decide_eq_true_eq] at hs
        show s.t ≤ time
        omega
    · exact h
  · exact h
theorem foldS_seen {l : List Rf} {time : Int} : ∀ {fs : List Sg} {cur : List Tk}, (∀ t ∈ cur, t.seen = true → t.last.t ≤ time) → ∀ t ∈ fs.foldl (stepS l time) cur, t.seen = true → t.last.t ≤ time
  | [], _, h => h
  | s :: fs, cur, h => by rw [List.foldl_cons]; exact foldS_seen (stepS_seen h)
theorem takeP_seen {l : List Rf} {time : Int} {fs : List Sg} {ts : List Tk} (h : ∀ t ∈ ts, t.seen = true → t.last.t ≤ time) : ∀ t ∈ takeP l ts time fs, t.seen = true → t.last.t ≤ time := by
  intro t ht hs
  unfold takeP at ht
  have hf := foldS_seen (l := l) (fs := fs) h
  obtain ⟨i, hi, rfl⟩ := List.getElem_of_mem ht
  rw [List.getElem_mapIdx] at hs ⊢
  rw [List.length_mapIdx] at hi
  have hg := hf _ (List.getElem_mem hi)
  unfold tkT at hs ⊢
  split
  · rename_i h0
    rw [if_pos h0] at hs
    obtain ⟨a, b⟩ := tickP_last h0
    rw [b] at hs; rw [a]
    exact hg hs
  · rename_i h0
    rw [if_neg h0] at hs
    exact hg hs
theorem nextP_inv {l : List Rf} {speed : Int} {ts : List Tk} {e : Es} {time : Int} (hl : l.length ≤ 8) (ht : 0 ≤ time) (hb : 0 ≤ e.b ∧ e.b ≤ 200000000) (hp : okP e.x e.y = true) :
    (0 ≤ (stepEs l speed ts e time).b ∧ (stepEs l speed ts e time).b ≤ 200000000) ∧ (stepEs l speed ts e time).t = time ∧ okP (stepEs l speed ts e time).x (stepEs l speed ts e time).y = true := by
  obtain ⟨g1, g2⟩ := good_ok (l := l) (ts := ts) (time := time) (speed := speed) (n := l.length)
  unfold stepEs nextP
  generalize selP ts time speed l.length = S at g1 g2
  generalize fixS ts time speed (goodP S (voteS l ts time speed S).m) = F at g1 g2
  split
  · unfold nextG
    split
    · rename_i hc
      obtain ⟨h0, -, -⟩ := chk_zero hc
      have hF : F ≠ [] := fun e => by rw [e] at h0; simp at h0
      have := bound_le g1 g2
      exact ⟨by simp only; omega, rfl, mean_in hF g1⟩
    · exact ⟨by simp only; omega, rfl, rfl⟩
  · split
    · refine ⟨?_, rfl, hp⟩
      simp only
      unfold growP
      split
      · simp only; omega
      · rename_i hc
        have := grow_bound (b := speed) (c := time - e.t) (by omega) (by omega) (by omega) (by omega)
        simp only; omega
    · exact ⟨by simp only; omega, rfl, rfl⟩
theorem Inv.step {l : List Rf} {speed : Int} {ts : List Tk} {e : Es} {time : Int} (h : ChkOK l speed ts e time) (fs : List Sg) : Inv l (takeP l ts time fs) (stepEs l speed (takeP l ts time fs) e time) time := by
  have ht := h.tm
  simp only [timesP, decide_eq_true_eq] at ht
  obtain ⟨a, b, c⟩ := nextP_inv (l := l) (speed := speed) (ts := takeP l ts time fs) (e := e) (time := time) h.cfg.1 ht.1.1 h.b h.pt
  exact ⟨(takeP_len ..).trans h.len, takeP_seen h.sn, a, by rw [b]; omega, c⟩
/-! ### Signals in any order -/
end Go.Proofs.YtipanehdmhachaaGreatDoor.H
