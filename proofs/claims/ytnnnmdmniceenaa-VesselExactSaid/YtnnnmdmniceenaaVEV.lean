/- VesselExact: all twin functions are the same. -/
import Derived.Test.YtnnnmdmniceenaaVEU
set_option linter.unusedSimpArgs false
set_option linter.unusedVariables false
set_option maxRecDepth 100000
namespace Go.Proofs.Ytnnnmdmniceenaa
open Go.RowKit Ev
theorem wrap_sub_wrap (a b : Int) : IntKind.i64.wrap (a - IntKind.i64.wrap b) = IntKind.i64.wrap (a - b) := by
  have h1 : (IntKind.i64.wrap b) % 18446744073709551616 = b % 18446744073709551616 := by
    show (let m := b % 18446744073709551616; if (true && decide (m ≥ 9223372036854775808)) = true then m - 18446744073709551616 else m) % 18446744073709551616 = _
    simp only []
    split <;> omega
  have h2 : (a - IntKind.i64.wrap b) % 18446744073709551616 = (a - b) % 18446744073709551616 := by omega
  show (let m := (a - IntKind.i64.wrap b) % 18446744073709551616; if (true && decide (m ≥ 9223372036854775808)) = true then m - 18446744073709551616 else m) = (let m := (a - b) % 18446744073709551616; if (true && decide (m ≥ 9223372036854775808)) = true then m - 18446744073709551616 else m)
  rw [h2]
section
variable {g : Nat → List Int → List Int} {l c : Int} {z : List Int}
theorem same_of {n : Nat} {xs xs' : List Int} (h : xs.take n = xs'.take n) (h1 : xs.length = n) (h2 : xs'.length = n) : xs' = xs := by
  rw [List.take_of_length_le (by omega), List.take_of_length_le (by omega)] at h
  exact h.symm
theorem tw33 (hg : EnOK g l c z en46) (hl : EnLp g z en46) : TwOK g ⟨33, 32, 122, c_rstepg.rg, c_stepg.rg⟩ := by
  intro xs xs' h1 h2 h3 h4 h5
  have e := same_of h1 h3 h2
  subst e
  have e1 := hg.2.2.2.2.2.2.2.2.2.2.2.2.2.1 xs'
  rw [show c_rstepg.key = 33 from rfl, rowF_lt (by decide)] at e1
  have e2 := hg.2.2.2.2.2.2.2.2.2.2.2.2.2.2.1 xs'
  rw [show c_stepg.key = 32 from rfl, rowF_lt (by decide)] at e2
  rw [e1, e2]
  have e3 := list122 (xs := xs') h3
  have hk := fun i => (show xs'.getD i 0 = (fun i => xs'.getD i 0) i from rfl)
  rw [show l :: c :: xs' = l :: c :: L122 (fun i => xs'.getD i 0) from congrArg _ (congrArg _ e3)]
  rw [rstepg_ok (en46_31 hg) (fun i => xs'.getD i 0) (RngOK_get h5 25 _ _ rfl) (RngOK_get h5 37 _ _ rfl) (RngOK_get h5 49 _ _ rfl) (RngOK_get h5 61 _ _ rfl) (RngOK_get h5 73 _ _ rfl) (RngOK_get h5 85 _ _ rfl) (RngOK_get h5 97 _ _ rfl) (RngOK_get h5 121 _ _ rfl)]
  exact (stepg_ok (en46_31 hg) (fun i => xs'.getD i 0) (RngOK_get h5 25 _ _ rfl) (RngOK_get h5 37 _ _ rfl) (RngOK_get h5 49 _ _ rfl) (RngOK_get h5 61 _ _ rfl) (RngOK_get h5 73 _ _ rfl) (RngOK_get h5 85 _ _ rfl) (RngOK_get h5 97 _ _ rfl) (RngOK_get h5 121 _ _ rfl)).symm
theorem tw35 (hg : EnOK g l c z en46) (hl : EnLp g z en46) : TwOK g ⟨35, 34, 123, c_rrung.rg, c_rung.rg⟩ := by
  intro xs xs' h1 h2 h3 h4 h5
  have e := same_of h1 h3 h2
  subst e
  have e1 := hg.2.2.2.2.2.2.2.2.2.2.2.1 xs'
  rw [show c_rrung.key = 35 from rfl, rowF_lt (by decide)] at e1
  have e2 := hg.2.2.2.2.2.2.2.2.2.2.2.2.1 xs'
  rw [show c_rung.key = 34 from rfl, rowF_lt (by decide)] at e2
  rw [e1, e2]
  have e3 := list123 (xs := xs') h3
  have hk := fun i => (show xs'.getD i 0 = (fun i => xs'.getD i 0) i from rfl)
  rw [show l :: c :: xs' = l :: c :: L123 (fun i => xs'.getD i 0) from congrArg _ (congrArg _ e3)]
  rw [rrung_ok hg hl (fun i => xs'.getD i 0) (RngOK_get h5 26 _ _ rfl) (RngOK_get h5 38 _ _ rfl) (RngOK_get h5 50 _ _ rfl) (RngOK_get h5 62 _ _ rfl) (RngOK_get h5 74 _ _ rfl) (RngOK_get h5 86 _ _ rfl) (RngOK_get h5 98 _ _ rfl) (RngOK_get h5 122 _ _ rfl)]
  exact (rung_ok hg hl (fun i => xs'.getD i 0) (RngOK_get h5 26 _ _ rfl) (RngOK_get h5 38 _ _ rfl) (RngOK_get h5 50 _ _ rfl) (RngOK_get h5 62 _ _ rfl) (RngOK_get h5 74 _ _ rfl) (RngOK_get h5 86 _ _ rfl) (RngOK_get h5 98 _ _ rfl) (RngOK_get h5 122 _ _ rfl)).symm
set_option maxHeartbeats 4000000 in
theorem tw37 (hg : EnOK g l c z en46) : TwOK g ⟨37, 36, 122, c_rstepb.rg, c_stepb.rg⟩ := by
  intro xs xs' h1 h2 h3 h4 h5
  have e := same_of h1 h3 h2
  subst e
  have e1 := hg.2.2.2.2.2.2.2.2.2.1 xs'
  rw [show c_rstepb.key = 37 from rfl, rowF_lt (by decide)] at e1
  have e2 := hg.2.2.2.2.2.2.2.2.2.2.1 xs'
  rw [show c_stepb.key = 36 from rfl, rowF_lt (by decide)] at e2
  rw [e1, e2]
  simp only [t_rstepb, t_stepb, Ev.runT, List.map_cons, List.map_nil, den, ite_self]
set_option maxHeartbeats 4000000 in
theorem tw39 (hg : EnOK g l c z en46) : TwOK g ⟨39, 38, 123, c_rrunb.rg, c_runb.rg⟩ := by
  intro xs xs' h1 h2 h3 h4 h5
  have e := same_of h1 h3 h2
  subst e
  have e1 := hg.2.2.2.2.2.2.2.1 xs'
  rw [show c_rrunb.key = 39 from rfl, rowF_lt (by decide)] at e1
  have e2 := hg.2.2.2.2.2.2.2.2.1 xs'
  rw [show c_runb.key = 38 from rfl, rowF_lt (by decide)] at e2
  rw [e1, e2]
  simp only [t_rrunb, t_runb, Ev.runT, ite_self, denB, den, List.getD_cons_succ, List.map_cons, List.map_nil]
  generalize xs'.getD 14 0 = q
  by_cases hq : 0 ≤ q ∧ q ≤ 400
  · rw [if_neg (by simp; omega), if_neg (by simp; omega)]
  · rw [if_pos (by simp; omega), if_pos (by simp; omega)]
set_option maxHeartbeats 4000000 in
theorem tw41 (hg : EnOK g l c z en46) : TwOK g ⟨41, 40, 7, c_validr.rg, c_validv.rg⟩ := by
  intro xs xs' h1 h2 h3 h4 h5
  have e := same_of h1 h3 h2
  subst e
  match xs', h2 with
  | [T, X, Y, C, u, w, t], _ =>
    have e1 := hg.2.2.2.2.2.1 [T, X, Y, C, u, w, t]
    rw [show c_validr.key = 41 from rfl, rowF_lt (by decide)] at e1
    have e2 := hg.2.2.2.2.2.2.1 [T, X, Y, C, u, w, t]
    rw [show c_validv.key = 40 from rfl, rowF_lt (by decide)] at e2
    rw [e1, e2]
    simp only [t_validr, t_validv, Ev.runT, denB, den, List.getD_cons_succ, List.getD_cons_zero, List.map_cons, List.map_nil]
    by_cases a1 : 0 ≤ T ∧ T ≤ 2147483648
    rotate_left
    · rw [if_neg (c := (decide (0 ≤ T) && decide (T ≤ 2147483648)) = true) (by simp; omega), if_neg (c := (decide (0 ≤ T) && decide (T ≤ 2147483648)) = true) (by simp; omega)]
    rw [if_pos (c := (decide (0 ≤ T) && decide (T ≤ 2147483648)) = true) (by simp; omega), if_pos (c := (decide (0 ≤ T) && decide (T ≤ 2147483648)) = true) (by simp; omega)]
    by_cases a2 : -10000000000 ≤ X ∧ X ≤ 10000000000
    rotate_left
    · rw [if_neg (c := (decide (-10000000000 ≤ X) && decide (X ≤ 10000000000)) = true) (by simp; omega), if_pos (c := (decide (X < -10000000000) || decide (10000000000 < X)) = true) (by simp; omega)]
    rw [if_pos (c := (decide (-10000000000 ≤ X) && decide (X ≤ 10000000000)) = true) (by simp; omega), if_neg (c := (decide (X < -10000000000) || decide (10000000000 < X)) = true) (by simp; omega)]
    by_cases a3 : -10000000000 ≤ Y ∧ Y ≤ 10000000000
    rotate_left
    · rw [if_neg (c := (decide (-10000000000 ≤ Y) && decide (Y ≤ 10000000000)) = true) (by simp; omega), if_pos (c := (decide (Y < -10000000000) || decide (10000000000 < Y)) = true) (by simp; omega)]
    rw [if_pos (c := (decide (-10000000000 ≤ Y) && decide (Y ≤ 10000000000)) = true) (by simp; omega), if_neg (c := (decide (Y < -10000000000) || decide (10000000000 < Y)) = true) (by simp; omega)]
    by_cases a4 : 0 ≤ C ∧ C < 360000
    rotate_left
    · rw [if_neg (c := (decide (0 ≤ C) && decide (C ≤ 359999)) = true) (by simp; omega), if_neg (c := (decide (0 ≤ C) && decide (C < 360000)) = true) (by simp; omega)]
    rw [if_pos (c := (decide (0 ≤ C) && decide (C ≤ 359999)) = true) (by simp; omega), if_pos (c := (decide (0 ≤ C) && decide (C < 360000)) = true) (by simp; omega)]
    by_cases a5 : -100000 ≤ u ∧ u ≤ 100000
    rotate_left
    · rw [if_neg (c := (decide (-100000 ≤ u) && decide (u ≤ 100000)) = true) (by simp; omega), if_pos (c := (decide (u < -100000) || decide (100000 < u)) = true) (by simp; omega)]
    rw [if_pos (c := (decide (-100000 ≤ u) && decide (u ≤ 100000)) = true) (by simp; omega), if_neg (c := (decide (u < -100000) || decide (100000 < u)) = true) (by simp; omega)]
    by_cases a6 : -100000 ≤ w ∧ w ≤ 100000
    rotate_left
    · rw [if_neg (c := (decide (-100000 ≤ w) && decide (w ≤ 100000)) = true) (by simp; omega), if_pos (c := (decide (w < -100000) || decide (100000 < w)) = true) (by simp; omega)]
    rw [if_pos (c := (decide (-100000 ≤ w) && decide (w ≤ 100000)) = true) (by simp; omega), if_neg (c := (decide (w < -100000) || decide (100000 < w)) = true) (by simp; omega)]
    by_cases a7 : -10000 ≤ t ∧ t ≤ 10000
    rotate_left
    · rw [if_pos (c := (decide (t < -10000) || decide (10000 < t)) = true) (by simp; omega)]
      congr 1
      repeat' split
      all_goals omega
    · rw [if_neg (c := (decide (t < -10000) || decide (10000 < t)) = true) (by simp; omega)]
      congr 1
      repeat' split
      all_goals omega
set_option maxHeartbeats 4000000 in
theorem tw43 (hg : EnOK g l c z en46) : TwOK g ⟨43, 42, 1, c_floorg.rg, c_halfg.rg⟩ := by
  intro xs xs' h1 h2 h3 h4 h5
  match xs, xs', h3, h2, h1, h4, h5 with
  | [n, d], [n', d'], _, _, h1, h4, h5 =>
    have hn : n' = n := by simpa using h1.symm
    have hd' : d' = 50 := by have := h4.2.1; omega
    have hd : d = 100 := by have := h5.2.1; omega
    subst hn hd' hd
    have hb := h4.1
    have e1 := hg.2.2.2.1 [n', 50]
    rw [show c_floorg.key = 43 from rfl, rowF_lt (by decide)] at e1
    have e2 := hg.2.2.2.2.1 [n', 100]
    rw [show c_halfg.key = 42 from rfl, rowF_lt (by decide)] at e2
    rw [e1, e2]
    simp only [t_floorg, t_halfg, Ev.runT, denB, den, List.getD_cons_succ, List.getD_cons_zero, List.map_cons, List.map_nil, decide_eq_true_eq]
    have e5 := Int.mul_tdiv_add_tmod n' 100
    have e6 := Int.mul_ediv_add_emod n' 100
    by_cases hh : n'.tmod 100 < 0
    · have e7 := tm_neg (by decide) hh
      have e8 := floor_neg (by decide) hh
      rw [if_pos hh, if_pos hh, e7, e8]
      have w0 : n' / 100 * 100 = n' - n' % 100 := by omega
      have e9 : IntKind.i64.wrap (n' - IntKind.i64.wrap (n' / 100 * 100)) = n' % 100 := by
        have : IntKind.i64.wrap (n' - IntKind.i64.wrap (n' / 100 * 100)) = IntKind.i64.wrap (n' - n' / 100 * 100) := wrap_sub_wrap _ _
        rw [this, i64w (by omega) (by omega)]
        omega
      rw [e9, i64w (n := 100 - n' % 100) (by omega) (by omega)]
      by_cases hq : 50 ≤ n' % 100
      · rw [if_pos hq, if_pos (by omega)]
      · rw [if_neg hq, if_neg (by omega)]
    · have e7 := tm_pos (by decide) hh
      have e8 := floor_nonneg (by decide) (show 0 ≤ n'.tmod 100 by omega)
      rw [if_neg hh, if_neg hh, e7, e8]
      have e9 : IntKind.i64.wrap (n' - n' / 100 * 100) = n' % 100 := by
        rw [i64w (by omega) (by omega)]
        omega
      rw [e9, i64w (n := 100 - n' % 100) (by omega) (by omega)]
      by_cases hq : 50 ≤ n' % 100
      · rw [if_pos hq, if_pos (by omega)]
      · rw [if_neg hq, if_neg (by omega)]
theorem g44 (hg : EnOK g l c z en46) (x : Int) : rowF g z 44 [x, 3600] = [x % 3600] := by
  have h := hg.2.2.1 [x, 3600]
  rw [show c_modg.key = 44 from rfl] at h
  rw [h]
  simp only [t_modg, Ev.runT, denB, den, List.getD_cons_succ, List.getD_cons_zero, List.map_cons, List.map_nil, decide_eq_true_eq]
  have h1 := Int.mul_ediv_add_emod x 3600
  split
  · rename_i h; rw [floor_neg (by decide) h]; congr 1; omega
  · rename_i h; rw [floor_nonneg (by decide) (by omega)]; congr 1; omega
set_option maxHeartbeats 4000000 in
theorem tw46 (hg : EnOK g l c z en46) : TwOK g ⟨46, 45, 7, c_headr.rg, c_headv.rg⟩ := by
  intro xs xs' h1 h2 h3 h4 h5
  have e := same_of h1 h3 h2
  subst e
  match xs', h2 with
  | [T, X, Y, C, u, w, t], _ =>
    have e1 := hg.1 [T, X, Y, C, u, w, t]
    rw [show c_headr.key = 46 from rfl, rowF_lt (by decide)] at e1
    have e2 := hg.2.1 [T, X, Y, C, u, w, t]
    rw [show c_headv.key = 45 from rfl, rowF_lt (by decide)] at e2
    rw [e1, e2]
    simp only [t_headr, t_headv, Ev.runT, denB, den, List.getD_cons_succ, List.getD_cons_zero, List.map_cons, List.map_nil, decide_eq_true_eq, g44 hg, fit1, List.cons_append, List.nil_append]
    have r1 : (if C.tmod 100 < 0 then [(C.tdiv 100 - 1) % 3600] else [C.tdiv 100 % 3600]) = [C / 100 % 3600] := by
      split
      · rename_i h; rw [floor_neg (by decide) h]
      · rename_i h; rw [floor_nonneg (by decide) (by omega)]
    have r2 : (if C.tmod 360000 < 0 then [(C.tmod 360000 + 360000).tdiv 100] else [(C.tmod 360000).tdiv 100]) = [C / 100 % 3600] := by
      split
      · rename_i h; rw [tm_neg (by decide) h, Int.tdiv_eq_ediv_of_nonneg (by omega)]; congr 1; omega
      · rename_i h; rw [tm_pos (by decide) h, Int.tdiv_eq_ediv_of_nonneg (by omega)]; congr 1; omega
    exact r2.trans r1.symm
theorem twins_ok (hg : EnOK g l c z en46) (hl : EnLp g z en46) : (∀ w ∈ [(⟨33, 32, 122, c_rstepg.rg, c_stepg.rg⟩ : Tw), ⟨35, 34, 123, c_rrung.rg, c_rung.rg⟩, ⟨37, 36, 122, c_rstepb.rg, c_stepb.rg⟩, ⟨39, 38, 123, c_rrunb.rg, c_runb.rg⟩, ⟨41, 40, 7, c_validr.rg, c_validv.rg⟩, ⟨43, 42, 1, c_floorg.rg, c_halfg.rg⟩, ⟨46, 45, 7, c_headr.rg, c_headv.rg⟩], TwOK g w) ∧ RgsOK g [(11, c_list.rng), (10, c_sane.rng)] := by
  refine ⟨?_, ?_⟩
  · intro w hw
    simp only [List.mem_cons, List.not_mem_nil, or_false] at hw
    rcases hw with rfl | rfl | rfl | rfl | rfl | rfl | rfl
    · exact tw33 hg hl
    · exact tw35 hg hl
    · exact tw37 hg
    · exact tw39 hg
    · exact tw41 hg
    · exact tw43 hg
    · exact tw46 hg
  · intro p hp xs
    have h18 := en31_18 (en46_31 hg)
    simp only [List.mem_cons, List.not_mem_nil, or_false] at hp
    rcases hp with rfl | rfl
    · exact rng_of h18.2.2.2.2.2.2.2.1 t_list_chk rfl rfl xs
    · exact rng_of h18.2.2.2.2.2.2.2.2.1 t_sane_chk rfl rfl xs
end
end Go.Proofs.Ytnnnmdmniceenaa
