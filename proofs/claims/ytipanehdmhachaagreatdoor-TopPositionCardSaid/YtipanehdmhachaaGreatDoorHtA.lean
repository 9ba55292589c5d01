/- TopPosition, plainly: right references against wrong ones that are far away. -/
import Derived.Test.YtipanehdmhachaaGreatDoorHqN
set_option linter.unusedSimpArgs false
set_option linter.unusedVariables false
set_option linter.unusedSectionVars false
namespace Go.Proofs.YtipanehdmhachaaGreatDoor.H
variable [DR]
def offT (right : Nat) (i : Nat) : Int := if i < right then 0 else 100000
theorem offT_in (right i : Nat) : 0 ≤ offT right i ∧ offT right i ≤ 100000 := by unfold offT; split <;> omega
theorem idx_range (n : Nat) : idxS (List.range n) = upI n := rfl
theorem selP_all {ts : List Tk} {k sp : Int} {n : Nat} (h : ∀ i, i < n → nowB (ts.getD i tk0) k sp = true) : selP ts k sp n = List.range n := by
  unfold selP
  rw [List.filter_eq_self]
  intro i hi
  exact h i (List.mem_range.1 hi)
theorem selP_none {ts : List Tk} {k sp : Int} {n : Nat} (h : ∀ i, i < n → nowB (ts.getD i tk0) k sp = false) : selP ts k sp n = [] := by
  unfold selP
  rw [List.filter_eq_nil_iff]
  intro i hi
  rw [h i (List.mem_range.1 hi)]; simp
theorem memS_up {n r : Nat} (h : r ≤ n) : memS (List.range n) (upI r) = upI r := by
  unfold memS upI
  rw [List.map_map]
  refine List.map_congr_left fun i hi => ?_
  have : i < n := by have := List.mem_range.1 hi; omega
  simp [idxS, List.getD, this]
theorem goodP_up {n r i : Nat} : i ∈ goodP (List.range n) (upI r) ↔ i < n ∧ i < r := by
  unfold goodP
  rw [List.mem_filter, List.mem_range, decide_eq_true_eq, upI_mem]
  constructor
  · rintro ⟨h1, h2, h3⟩; omega
  · rintro ⟨h1, h2⟩; omega
theorem voteM_of {c : List Int} {l : List Fx} {m : List Int} (hl : c.length = l.length) (h8 : l.length ≤ 8) (hc : ∀ v ∈ c, 0 ≤ v ∧ v < 8) (ha : ∀ f ∈ l, agP f f = true) (hv : (voteP c l).m = m) : (decP c l).m = m := by
  have hE : decE c l = 0 := by
    unfold decE
    rw [if_neg (by omega), if_neg (by omega), okC_all hc ha]; rfl
  unfold decP
  rw [if_pos hE, hv]
/-- The vote: the members are the right ones. -/
theorem top_vote {l : List Rf} {sp : Int} {ts : List Tk} {k x y : Int} {right : Nat} (hl : RfA l sp (offT right)) (h : TrA l sp (offT right) ts k x y) (hb : Bd0 sp k x y) (hr : right ≤ l.length) (hw : l.length < 2 * right) (hall : ∀ i, i < l.length → nowB (ts.getD i tk0) k sp = true) :
    (voteS l ts k sp (List.range l.length)).m = upI right := by
  have h8 := hl.len
  have hfl : (fixS ts k sp (List.range l.length)).length = l.length := by simp [fixS]
  have hci : cauS l (List.range l.length) = upI l.length := (cauS_idx hl fun i hi => List.mem_range.1 hi).trans (idx_range _)
  have hnow : ∀ i, i < l.length → NrF (nowF (ts.getD i tk0) k sp) (x + offT right i) y ∧ (nowF (ts.getD i tk0) k sp).e ≤ 1000 := fun i hi => (h.tr i hi).now (hb.bd (hl.off i)) (hall i hi)
  have hget : ∀ (i : Nat) (hi : i < (fixS ts k sp (List.range l.length)).length), (fixS ts k sp (List.range l.length))[i] = nowF (ts.getD i tk0) k sp := fun i hi => by simp [fixS, nowR]
  have hd : (decP (cauS l (List.range l.length)) (fixS ts k sp (List.range l.length))).m = upI right := by
    rw [hci]
    refine voteM_of (by rw [hfl]; simp [upI]) (by omega) (fun v hv => by have := upI_mem.1 hv; omega) (fun f hf => ?_) ?_
    · obtain ⟨i, hi, rfl⟩ := fixS_at hf
      have := (hnow i (List.mem_range.1 hi)).1
      exact this.ag this
    · refine vote_right (n := right) (W := (List.range (l.length - right)).map fun j => ((right + j : Nat) : Int)) (by rw [hfl]; simp [upI]) (by omega) (fun i hi => ?_) (fun i j hi hj h1 h2 => ?_) (fun i j hi hj h1 h2 => ?_) ?_ (by simp; omega) (fun j hj v hv => ?_)
      · have : i < l.length := by omega
        simp [upI, this]
      · rw [hget i hi, hget j hj]
        have a := (hnow i (by omega)).1
        have b := (hnow j (by omega)).1
        have e1 : offT right i = 0 := by unfold offT; rw [if_pos h1]
        have e2 : offT right j = 0 := by unfold offT; rw [if_pos h2]
        rw [e1] at a; rw [e2] at b
        exact a.ag b
      · rw [hget i hi, hget j hj]
        obtain ⟨a, a2⟩ := hnow i (by omega)
        obtain ⟨b, b2⟩ := hnow j (by omega)
        have e1 : offT right i = 0 := by unfold offT; rw [if_pos h1]
        have e2 : offT right j = 100000 := by unfold offT; rw [if_neg (by omega)]
        rw [e1] at a; rw [e2] at b
        have a3 := a.x1
        have b3 := b.x1
        cases hg : agP (nowF (ts.getD i tk0) k sp) (nowF (ts.getD j tk0) k sp) with
        | false => rfl
        | true => rw [agP_iff] at hg; omega
      · simp only [Str]
        rw [List.pairwise_map]
        exact List.pairwise_lt_range.imp fun h => by omega
      · have hv' := upI_mem.1 (List.mem_of_getElem? hv)
        have hv2 : v = (j : Int) := by
          have hj2 : j < (upI l.length).length := (List.getElem?_eq_some_iff.1 hv).1
          simp only [upI, List.length_map, List.length_range] at hj2
          simp [upI, hj2] at hv
          exact hv.symm
        rw [List.mem_map]
        exact ⟨j - right, by rw [List.mem_range]; omega, by omega⟩
  show memS (List.range l.length) (decP (cauS l (List.range l.length)) (fixS ts k sp (List.range l.length))).m = upI right
  rw [hd]
  exact memS_up hr
/-- What holds behind the step of the time k. -/
structure TopI (l : List Rf) (sp : Int) (right : Nat) (silent : Int) (ts : List Tk) (e : Es) (k x y : Int) : Prop where
  tr : TrA l sp (offT right) ts k x y
  es : EsI e k x y
  sn : 1 ≤ k → ∀ i, i < l.length → (ts.getD i tk0).seen = true ∧ (ts.getD i tk0).last.t = min k (silent - 1)
  ok : 1 ≤ k → e.s ≠ 0
theorem top_step {l : List Rf} {sp : Int} {right : Nat} {silent : Int} {ts : List Tk} {k x y x' y' : Int} {e : Es} {fs : List Sg} (hl : RfA l sp (offT right)) (hst : ∀ i, i < l.length → (l.getD i rf0).st = 3) (h : TopI l sp right silent ts e k x y) (hr0 : 0 < right) (hr : right ≤ l.length) (hw : l.length < 2 * right) (hs : 3 ≤ silent)
    (hm : Mv sp x y x' y') (hb : Bd0 sp (k + 1) x' y') (hk : 0 ≤ k ∧ k < 20) (hg : GSA l (offT right) (k + 1) x' y' fs) (hf1 : k + 1 < silent → ∀ i, i < l.length → ∃ s, s ∈ fs ∧ s.src = (i : Int)) (hf2 : ¬ k + 1 < silent → fs = []) :
    ChkOK l sp ts e (k + 1) ∧ TopI l sp right silent (takeP l ts (k + 1) fs) (stepEs l sp (takeP l ts (k + 1) fs) e (k + 1)) (k + 1) x' y' ∧ holdsP (stepEs l sp (takeP l ts (k + 1) fs) e (k + 1)) x' y' = true ∧
      (stepEs l sp (takeP l ts (k + 1) fs) e (k + 1)).s = if k + 1 - min (k + 1) (silent - 1) < 3 then 1 else 2 := by
  have hc := h.tr.chk hl h.es hb.s hk
  obtain ⟨h1, hp⟩ := h.tr.step hl hm hb hk.1 hg
  have hsn : ∀ i, i < l.length → ((takeP l ts (k + 1) fs).getD i tk0).seen = true ∧ ((takeP l ts (k + 1) fs).getD i tk0).last.t = min (k + 1) (silent - 1) := fun i hi => by
    by_cases hks : k + 1 < silent
    · obtain ⟨a, b⟩ := (hp i hi).1 (hf1 hks i hi)
      exact ⟨a, by rw [b]; omega⟩
    · obtain ⟨a, b⟩ := (hp i hi).2 (by rw [hf2 hks]; simp)
      obtain ⟨c, d⟩ := h.sn (by omega) i hi
      exact ⟨a.trans c, by rw [b, d]; omega⟩
  obtain ⟨c1, c2, c3⟩ := nextP_inv (l := l) (speed := sp) (ts := takeP l ts (k + 1) fs) (e := e) (time := k + 1) hl.len (by omega) h.es.b h.es.p
  generalize takeP l ts (k + 1) fs = ts2 at h1 hsn c1 c2 c3
  have hus : ∀ i, i < l.length → nowB (ts2.getD i tk0) (k + 1) sp = decide (k + 1 - min (k + 1) (silent - 1) < 3) := fun i hi => by
    obtain ⟨a, b⟩ := hsn i hi
    rw [(h1.tr i hi).usable (hb.bd (hl.off i)) a, b, hst i hi]
  have key : holdsP (stepEs l sp ts2 e (k + 1)) x' y' = true ∧ (stepEs l sp ts2 e (k + 1)).s = if k + 1 - min (k + 1) (silent - 1) < 3 then 1 else 2 := by
    by_cases hu : k + 1 - min (k + 1) (silent - 1) < 3
    · rw [if_pos hu]
      have hall : ∀ i, i < l.length → nowB (ts2.getD i tk0) (k + 1) sp = true := fun i hi => by rw [hus i hi]; simpa using hu
      have hS := selP_all hall
      have hv := top_vote hl h1 hb hr hw hall
      unfold stepEs
      rw [hS, hv]
      have hg0 := good_next (e := e) (m := upI right) hl h1 hb (fun e => by
        have : (0 : Int) ∈ upI right := upI_mem.2 ⟨by omega, by omega⟩
        rw [e] at this; cases this) (fun i hi => by
        rw [hS] at hi
        have := (goodP_up.1 hi).2
        unfold offT; rw [if_pos this]) (by
        rw [hS]
        exact List.ne_nil_of_mem (goodP_up.2 ⟨by omega, hr0⟩))
      rw [hS] at hg0
      exact hg0
    · rw [if_neg hu]
      have hnone : ∀ i, i < l.length → nowB (ts2.getD i tk0) (k + 1) sp = false := fun i hi => by rw [hus i hi]; simpa using hu
      have hS := selP_none hnone
      have hd : decP [] [] = ⟨upI 0, [], false⟩ := dec_all rfl (by simp) (by simp [Str]) (fun v hv => by simp at hv) (fun f hf => by simp at hf)
      have hv : (voteS l ts2 (k + 1) sp []).m = [] := by
        unfold voteS
        have hc : cauS l [] = [] := rfl
        have hf : fixS ts2 (k + 1) sp [] = [] := rfl
        rw [hc, hf, hd]; rfl
      have hes : e.s ≠ 0 := h.ok (by omega)
      unfold stepEs nextP
      rw [hS, hv, if_neg (by simp), if_pos hes]
      exact ⟨lost_holds h.es.b h.es.t (h.es.h hes) hm hb.s (okP_bd hb), rfl⟩
  refine ⟨hc, ⟨h1, ⟨c1, c2, c3, fun _ => key.1⟩, fun _ => hsn, fun _ => ?_⟩, key.1, key.2⟩
  rw [key.2]; split <;> decide
end Go.Proofs.YtipanehdmhachaaGreatDoor.H
