/- Chapter 10: one reference alone. -/
import Derived.Test.YtbhffdbkdfkpgaaGreatDoorHqG
set_option linter.unusedSimpArgs false
set_option linter.unusedVariables false
namespace Go.Proofs.YtbhffdbkdfkpgaaGreatDoor.H
theorem sel1 {t : Tk} {time speed : Int} : selP [t] time speed 1 = if nowB t time speed then [0] else [] := by
  rw [selP_succ]
  simp [selP]
theorem one_good {r : Rf} {t : Tk} {time speed : Int} (hr : vaR r = true) (h : nowB t time speed = true) (e : Es) : stepEs [r] speed [t] e time = ⟨t.last.x, t.last.y, (growP t.last.e speed (time - t.last.t)).1, time, 1⟩ := by
  obtain ⟨he, h1, h2, h3, -⟩ := nowB_ok h
  obtain ⟨k1, k2⟩ := okP_F h
  rw [vaR_iff] at hr
  have hs : selP [t] time speed [r].length = [0] := by rw [show [r].length = 1 from rfl, sel1, h]; rfl
  have hc : cauS [r] [0] = [r.c] := rfl
  have hf : fixS [t] time speed [0] = [nowF t time speed] := rfl
  have hd : decP [r.c] [nowF t time speed] = ⟨upI 1, [r.c], false⟩ := dec_all rfl (by simp) (by simp [Str]) (fun v hv => by simp at hv; omega) (fun f hf g hg => by simp at hf hg; subst hf hg; exact k2)
  have hv : (voteS [r] [t] time speed [0]).m = [0] := by
    unfold voteS
    rw [hc, hf, hd]
    rfl
  unfold stepEs nextP
  rw [hs, hv, if_pos (by simp)]
  have hg : goodP [0] [0] = [0] := rfl
  rw [hg, hf]
  obtain ⟨f1, f2, f3, f4⟩ := fuse_one k1
  unfold nextG
  rw [if_pos f1, f2, f3, f4, he]
theorem one_lost {r : Rf} {t : Tk} {time speed : Int} (h : nowB t time speed = false) (e : Es) : stepEs [r] speed [t] e time = if e.s ≠ 0 then ⟨e.x, e.y, (growP e.b speed (time - e.t)).1, time, 2⟩ else ⟨0, 0, 0, time, 0⟩ := by
  have hs : selP [t] time speed [r].length = [] := by rw [show [r].length = 1 from rfl, sel1, h]; rfl
  have hd : decP [] [] = ⟨upI 0, [], false⟩ := dec_all rfl (by simp) (by simp [Str]) (fun v hv => by simp at hv) (fun f hf => by simp at hf)
  have hv : (voteS [r] [t] time speed []).m = [] := by
    unfold voteS
    have hc : cauS [r] [] = [] := rfl
    have hf : fixS [t] time speed [] = [] := rfl
    rw [hc, hf, hd]
    rfl
  unfold stepEs nextP
  rw [hs, hv, if_neg (by simp)]
def tk1 (r : Rf) (time : Int) (t : Tk) : Tk := if (tickP r t time).2 = 0 then (tickP r t time).1 else t
theorem take1_nil (r : Rf) (t : Tk) (time : Int) : takeP [r] [t] time [] = [tk1 r time t] := rfl
theorem take1_fix (r : Rf) (t : Tk) (time x y e : Int) : takeP [r] [t] time [⟨1, 0, time, x, y, e⟩] = [tk1 r time (if (msP r t ⟨time, x, y, e⟩).2 = 0 then (msP r t ⟨time, x, y, e⟩).1 else t)] := by
  unfold takeP
  rw [List.foldl_cons, List.foldl_nil]
  have hi : isS [r] time ⟨1, 0, time, x, y, e⟩ = true := by simp [isS]
  unfold stepS
  rw [hi]
  simp only [if_true, sgF]
  show List.mapIdx _ (if (msP r t ⟨time, x, y, e⟩).2 = 0 then [(msP r t ⟨time, x, y, e⟩).1] else [t]) = _
  split <;> rfl
/-- A track with one fix, good until it is stale. -/
def trk (r : Rf) (f : Fx) (k : Int) : Tk := ⟨f, f, true, 1, if k - f.t < r.st then 1 else 2⟩
theorem trk_va {r : Rf} {f : Fx} {k : Int} (h : vaF f = true) : vaT (trk r f k) = true := by simp [vaT, trk, h, inP]
theorem tk1_trk {r : Rf} {f : Fx} {j k : Int} (hr : vaR r = true) (hf : vaF f = true) (h1 : f.t ≤ j) (h2 : j ≤ k) (h3 : k ≤ 2147483648) : tk1 r k (trk r f j) = trk r f k := by
  have hf' := vaF_iff.1 hf
  have hi : inP k 0 2147483648 = true := by simp [inP]; omega
  have hlt : ¬ k < f.t := by omega
  unfold tk1 tickP
  rw [hr, hi, trk_va hf]
  by_cases hs : k - f.t < r.st
  · have hs' : ¬ r.st ≤ k - f.t := by omega
    have hj : j - f.t < r.st := by omega
    simp [trk, hlt, hs', hs, hj]
  · have hs' : r.st ≤ k - f.t := by omega
    simp [trk, hlt, hs', hs]
theorem ms_first {r : Rf} {f : Fx} (hr : vaR r = true) (hf : vaF f = true) (hs : 1 ≤ r.st) : msP r tk0 f = (trk r f f.t, 0) := by
  unfold msP
  rw [hr, hf]
  have : vaT tk0 = true := rfl
  rw [this]
  simp [tk0, trk]; omega
theorem nowB_trk {r : Rf} {f : Fx} {k speed : Int} (hf : vaF f = true) (h1 : f.t ≤ k) (hk : k - f.t < r.st) (hs : 0 ≤ speed ∧ speed ≤ 1000) (h2 : k ≤ 2147483648) (hb : f.e + speed * (k - f.t) ≤ 100000) : nowB (trk r f k) k speed = true ∧ (growP (trk r f k).last.e speed (k - (trk r f k).last.t)).1 = f.e + speed * (k - f.t) := by
  have hf' := vaF_iff.1 hf
  have hu : useP (trk r f k) k = true := by simp [useP, trk, hk, hf, h1]
  have hg := grow_bound (b := speed) (c := k - f.t) (by omega) (by omega) (by omega) (by omega)
  have hgr : growP f.e speed (k - f.t) = (f.e + speed * (k - f.t), 0) := by
    unfold growP
    rw [if_neg (by omega)]
    refine Prod.ext ?_ rfl
    simp only; omega
  unfold nowB
  rw [hu]
  have e : (trk r f k).last = f := rfl
  rw [e, hgr]
  simp [hb]
theorem nowB_stale {r : Rf} {f : Fx} {k speed : Int} (hk : ¬ k - f.t < r.st) : nowB (trk r f k) k speed = false := by
  simp [nowB, useP, trk, hk]
end Go.Proofs.YtbhffdbkdfkpgaaGreatDoor.H
