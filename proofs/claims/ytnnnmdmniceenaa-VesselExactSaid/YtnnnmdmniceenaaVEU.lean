/- VesselExact: the twin functions are the same, continued. -/
import Derived.Test.YtnnnmdmniceenaaVET
set_option linter.unusedSimpArgs false
set_option linter.unusedVariables false
set_option maxRecDepth 100000
namespace Go.Proofs.Ytnnnmdmniceenaa
open Go.RowKit Ev
section
variable {M I D S a b e T X Y C u w t : Int} {n : Nat}
theorem itZ2 (h : ¬ VP (T + 1) (xN M I D S a b e X C u w t) (yN M I D S a b e Y C u w t) (cN I S e C t) (nsZ u D a M) (nsZ w D b M) (nsZ t S e I)) : [0, 0, 0, 0, 0, 0, 0, 2] = itZ M I D S a b e (n + 1) T X Y C u w t := by simp only [itZ]; rw [if_neg h]
theorem itZs (h : VP (T + 1) (xN M I D S a b e X C u w t) (yN M I D S a b e Y C u w t) (cN I S e C t) (nsZ u D a M) (nsZ w D b M) (nsZ t S e I)) : itZ M I D S a b e n (T + 1) (xN M I D S a b e X C u w t) (yN M I D S a b e Y C u w t) (cN I S e C t) (nsZ u D a M) (nsZ w D b M) (nsZ t S e I) = itZ M I D S a b e (n + 1) T X Y C u w t := by simp only [itZ]; rw [if_pos h]
end
section
variable {g : Nat → List Int → List Int} {l c : Int} {z : List Int}
def t_rungB : T (List E) :=
(.ite (.lt (.v 242) (.v 16))
(.call 13 [(.sub (.mul (.lit 10000) (.v 13)) (.mul (.v 4) (.v 247))), (.v 2)] 1
(.call 13 [(.sub (.mul (.lit 10000) (.v 14)) (.mul (.v 4) (.v 248))), (.v 2)] 1
(.call 13 [(.sub (.mul (.lit 10000) (.v 15)) (.mul (.v 5) (.v 249))), (.v 3)] 1
(.call 15 [(.add (.v 246) (.add (.v 249) (.v 252))), (.lit 360000)] 1
(.call 16 [(.quo (.v 253) (.lit 100)), (.lit 3600)] 1
(.call 17 [(.v 254)] 1
(.call 18 [(.v 254)] 1
(.call 14 [(.sub (.mul (.add (.v 247) (.v 250)) (.v 256)) (.mul (.add (.v 248) (.v 251)) (.v 255))), (.lit 10000)] 1
(.call 14 [(.add (.mul (.add (.v 247) (.v 250)) (.v 255)) (.mul (.add (.v 248) (.v 251)) (.v 256))), (.lit 10000)] 1
(.ite (.le (.add (.v 243) (.lit 1)) (.lit 2147483648))
(.ite (.or (.lt (.add (.v 244) (.v 257)) (.lit (-10000000000))) (.lt (.lit 10000000000) (.add (.v 244) (.v 257))))
(.leaf [(.lit 0), (.lit 0), (.lit 0), (.lit 0), (.lit 0), (.lit 0), (.lit 0), (.lit 2)])
(.ite (.or (.lt (.add (.v 245) (.v 258)) (.lit (-10000000000))) (.lt (.lit 10000000000) (.add (.v 245) (.v 258))))
(.leaf [(.lit 0), (.lit 0), (.lit 0), (.lit 0), (.lit 0), (.lit 0), (.lit 0), (.lit 2)])
(.ite (.or (.lt (.add (.v 247) (.v 250)) (.lit (-100000))) (.lt (.lit 100000) (.add (.v 247) (.v 250))))
(.leaf [(.lit 0), (.lit 0), (.lit 0), (.lit 0), (.lit 0), (.lit 0), (.lit 0), (.lit 2)])
(.ite (.or (.lt (.add (.v 248) (.v 251)) (.lit (-100000))) (.lt (.lit 100000) (.add (.v 248) (.v 251))))
(.leaf [(.lit 0), (.lit 0), (.lit 0), (.lit 0), (.lit 0), (.lit 0), (.lit 0), (.lit 2)])
(.ite (.or (.lt (.add (.v 249) (.v 252)) (.lit (-10000))) (.lt (.lit 10000) (.add (.v 249) (.v 252))))
(.leaf [(.lit 0), (.lit 0), (.lit 0), (.lit 0), (.lit 0), (.lit 0), (.lit 0), (.lit 2)])
(.again 340 242 [(.add (.v 242) (.lit 1)), (.add (.v 243) (.lit 1)), (.add (.v 244) (.v 257)), (.add (.v 245) (.v 258)), (.v 253), (.add (.v 247) (.v 250)), (.add (.v 248) (.v 251)), (.add (.v 249) (.v 252))]))))))
(.leaf [(.lit 0), (.lit 0), (.lit 0), (.lit 0), (.lit 0), (.lit 0), (.lit 0), (.lit 2)])))))))))))
(.leaf [(.v 243), (.v 244), (.v 245), (.v 246), (.v 247), (.v 248), (.v 249), (.lit 0)]))
def P_rung (l c : Int) (k : Nat → Int) : List Int := [l, c, (k 0), (k 1), (k 2), (k 3), (k 4), (k 5), (k 6), (k 7), (k 8), (k 9), (k 10), (k 11), (k 12), (k 13), (k 14), (k 15), (k 16), (k 17), (k 18), (k 19), (k 20), (k 21), (k 22), (k 23), (k 24), (k 25), (k 26), (k 27), (k 28), (k 29), (k 30), (k 31), (k 32), (k 33), (k 34), (k 35), (k 36), (k 37), (k 38), (k 39), (k 40), (k 41), (k 42), (k 43), (k 44), (k 45), (k 46), (k 47), (k 48), (k 49), (k 50), (k 51), (k 52), (k 53), (k 54), (k 55), (k 56), (k 57), (k 58), (k 59), (k 60), (k 61), (k 62), (k 63), (k 64), (k 65), (k 66), (k 67), (k 68), (k 69), (k 70), (k 71), (k 72), (k 73), (k 74), (k 75), (k 76), (k 77), (k 78), (k 79), (k 80), (k 81), (k 82), (k 83), (k 84), (k 85), (k 86), (k 87), (k 88), (k 89), (k 90), (k 91), (k 92), (k 93), (k 94), (k 95), (k 96), (k 97), (k 98), (k 99), (k 100), (k 101), (k 102), (k 103), (k 104), (k 105), (k 106), (k 107), (k 108), (k 109), (k 110), (k 111), (k 112), (k 113), (k 114), (k 115), (k 116), (k 117), (k 118), (k 119), (k 120), (k 121), (k 122), (k 15), (k 16), (k 17), (k 18), (k 19), (k 20), (k 21), (k 22), (k 23), (k 24), (k 25), (k 26), 1, (k 27), (k 28), (k 29), (k 30), (k 31), (k 32), (k 33), (k 34), (k 35), (k 36), (k 37), (k 38), 1, (k 39), (k 40), (k 41), (k 42), (k 43), (k 44), (k 45), (k 46), (k 47), (k 48), (k 49), (k 50), 1, (k 51), (k 52), (k 53), (k 54), (k 55), (k 56), (k 57), (k 58), (k 59), (k 60), (k 61), (k 62), 1, (k 63), (k 64), (k 65), (k 66), (k 67), (k 68), (k 69), (k 70), (k 71), (k 72), (k 73), (k 74), 1, (k 75), (k 76), (k 77), (k 78), (k 79), (k 80), (k 81), (k 82), (k 83), (k 84), (k 85), (k 86), 1, (k 87), (k 88), (k 89), (k 90), (k 91), (k 92), (k 93), (k 94), (k 95), (k 96), (k 97), (k 98), 1, (k 99), (k 100), (k 101), (k 102), (k 103), (k 104), (k 105), (k 106), (k 107), (k 108), (k 109), (k 110), 1, (k 111), (k 112), (k 113), (k 114), (k 115), (k 116), (k 117), (k 118), (k 119), (k 120), (k 121), (k 122), 1]
set_option maxHeartbeats 8000000 in
theorem loop_rung (hg : EnOK g l c z en46) (hl : EnLp g z en46) (k : Nat → Int) (hH : HP (k 0) (k 1) (k 2) (k 3)) (hF : FP (k 11) (k 12) (k 13)) : ∀ (n : Nat) (i T X Y C u w t : Int), k 14 - i = n → VP T X Y C u w t → rowF g z 2340 (P_rung l c k ++ [i, T, X, Y, C, u, w, t]) = itZ (k 0) (k 1) (k 2) (k 3) (k 11) (k 12) (k 13) n T X Y C u w t := by
  have heq : ∀ ρ, rowF g z 2340 ρ = Ev.runT (rowF g z) ρ t_rungB := fun ρ => hl.2.2.2.2.2.2.2.2.2.2.2.2.1 (340, t_rungB) (by rw [show t_rung.lps = [(340, t_rungB)] by rfl]; exact List.mem_cons_self ..) ρ
  have hg0 : EnOK g l c z en46 := hg
  have hg : EnOK g l c z en31 := en46_31 hg
  unfold HP at hH
  unfold FP at hF
  intro n
  induction n with
  | zero =>
    intro i T X Y C u w t hn hV
    rw [heq]
    refine runE_ite (b' := decide (i < k 14)) (by kernel_rfl) (fun h => ?_) (fun h => ?_)
    · exfalso; simp only [decide_eq_true_eq] at h; omega
    · exact runE_leaf (xs := [T, X, Y, C, u, w, t, 0]) (by kernel_rfl) (by simp only [itZ])
  | succ n ih =>
    intro i T X Y C u w t hn hV
    rw [heq]
    refine runE_ite (b' := decide (i < k 14)) (by kernel_rfl) (fun h => ?_) (fun h => ?_)
    rotate_left
    · exfalso; simp only [decide_eq_false_iff_not] at h; omega
    unfold VP at hV
    have m0 := mul_bd (x := (k 2)) (y := u) (a := 1000000) (b := 100000) (by omega) (by omega) (by omega) (by omega) (by omega) (by omega)
    have m1 := mul_bd (x := (k 2)) (y := w) (a := 1000000) (b := 100000) (by omega) (by omega) (by omega) (by omega) (by omega) (by omega)
    have m2 := mul_bd (x := (k 3)) (y := t) (a := 1073741824) (b := 10000) (by omega) (by omega) (by omega) (by omega) (by omega) (by omega)
    have hc := cN_bd (k 1) (k 3) (k 13) C t
    refine runE_call (xs := [10000 * (k 11) - (k 2) * u, (k 0)]) (R := [halfZ (10000 * (k 11) - (k 2) * u) (k 0)]) (by kernel_rfl) (r13 hg (by omega) (by omega) (by omega)) rfl ?_
    refine runE_call (xs := [10000 * (k 12) - (k 2) * w, (k 0)]) (R := [halfZ (10000 * (k 12) - (k 2) * w) (k 0)]) (by kernel_rfl) (r13 hg (by omega) (by omega) (by omega)) rfl ?_
    refine runE_call (xs := [10000 * (k 13) - (k 3) * t, (k 1)]) (R := [halfZ (10000 * (k 13) - (k 3) * t) (k 1)]) (by kernel_rfl) (r13 hg (by omega) (by omega) (by omega)) rfl ?_
    refine runE_call (xs := [(C + (nsZ t (k 3) (k 13) (k 1))), 360000]) (R := [(cN (k 1) (k 3) (k 13) C t)]) (by kernel_rfl) (r15 hg _) rfl ?_
    refine runE_call (xs := [((cN (k 1) (k 3) (k 13) C t)).tdiv (100), 3600]) (R := [(hN (k 1) (k 3) (k 13) C t)]) (by kernel_rfl) (r16 hg _) rfl ?_
    refine runE_call (xs := [(hN (k 1) (k 3) (k 13) C t)]) (R := [(sinN (hN (k 1) (k 3) (k 13) C t))]) (by kernel_rfl) (r17 hg _) rfl ?_
    refine runE_call (xs := [(hN (k 1) (k 3) (k 13) C t)]) (R := [(sinN ((hN (k 1) (k 3) (k 13) C t) + 900))]) (by kernel_rfl) (r18 hg _) rfl ?_
    refine runE_call (xs := [(((nsZ u (k 2) (k 11) (k 0)) * (sinN ((hN (k 1) (k 3) (k 13) C t) + 900))) - ((nsZ w (k 2) (k 12) (k 0)) * (sinN (hN (k 1) (k 3) (k 13) C t)))), 10000]) (R := [(dX (nsZ u (k 2) (k 11) (k 0)) (nsZ w (k 2) (k 12) (k 0)) (hN (k 1) (k 3) (k 13) C t))]) (by kernel_rfl) (r14 hg _) rfl ?_
    refine runE_call (xs := [(((nsZ u (k 2) (k 11) (k 0)) * (sinN (hN (k 1) (k 3) (k 13) C t))) + ((nsZ w (k 2) (k 12) (k 0)) * (sinN ((hN (k 1) (k 3) (k 13) C t) + 900)))), 10000]) (R := [(dY (nsZ u (k 2) (k 11) (k 0)) (nsZ w (k 2) (k 12) (k 0)) (hN (k 1) (k 3) (k 13) C t))]) (by kernel_rfl) (r14 hg _) rfl ?_
    refine runE_tie (b' := decide ((T + 1) ≤ 2147483648)) (by kernel_rfl) (fun h_1 => ?_) (fun h_1 => ?_)
    · simp only [Bool.or_eq_true, Bool.and_eq_true, Bool.or_eq_false_iff, Bool.and_eq_false_iff, Bool.not_eq_true', Bool.not_eq_false', decide_eq_true_eq, decide_eq_false_iff_not, Bool.not_not, ne_eq] at h_1
      refine runE_leaf (xs := [0, 0, 0, 0, 0, 0, 0, 2]) (by kernel_rfl) ?_
      exact itZ2 (by unfold VP; omega)
    simp only [Bool.or_eq_true, Bool.and_eq_true, Bool.or_eq_false_iff, Bool.and_eq_false_iff, Bool.not_eq_true', Bool.not_eq_false', decide_eq_true_eq, decide_eq_false_iff_not, Bool.not_not, ne_eq] at h_1
    refine runE_ite (b' := (decide ((xN (k 0) (k 1) (k 2) (k 3) (k 11) (k 12) (k 13) X C u w t) < (-10000000000)) || decide (10000000000 < (xN (k 0) (k 1) (k 2) (k 3) (k 11) (k 12) (k 13) X C u w t)))) (by kernel_rfl) (fun h_2 => ?_) (fun h_2 => ?_)
    · simp only [Bool.or_eq_true, Bool.and_eq_true, Bool.or_eq_false_iff, Bool.and_eq_false_iff, Bool.not_eq_true', Bool.not_eq_false', decide_eq_true_eq, decide_eq_false_iff_not, Bool.not_not, ne_eq] at h_2
      refine runE_leaf (xs := [0, 0, 0, 0, 0, 0, 0, 2]) (by kernel_rfl) ?_
      exact itZ2 (by unfold VP; omega)
    simp only [Bool.or_eq_true, Bool.and_eq_true, Bool.or_eq_false_iff, Bool.and_eq_false_iff, Bool.not_eq_true', Bool.not_eq_false', decide_eq_true_eq, decide_eq_false_iff_not, Bool.not_not, ne_eq] at h_2
    refine runE_ite (b' := (decide ((yN (k 0) (k 1) (k 2) (k 3) (k 11) (k 12) (k 13) Y C u w t) < (-10000000000)) || decide (10000000000 < (yN (k 0) (k 1) (k 2) (k 3) (k 11) (k 12) (k 13) Y C u w t)))) (by kernel_rfl) (fun h_3 => ?_) (fun h_3 => ?_)
    · simp only [Bool.or_eq_true, Bool.and_eq_true, Bool.or_eq_false_iff, Bool.and_eq_false_iff, Bool.not_eq_true', Bool.not_eq_false', decide_eq_true_eq, decide_eq_false_iff_not, Bool.not_not, ne_eq] at h_3
      refine runE_leaf (xs := [0, 0, 0, 0, 0, 0, 0, 2]) (by kernel_rfl) ?_
      exact itZ2 (by unfold VP; omega)
    simp only [Bool.or_eq_true, Bool.and_eq_true, Bool.or_eq_false_iff, Bool.and_eq_false_iff, Bool.not_eq_true', Bool.not_eq_false', decide_eq_true_eq, decide_eq_false_iff_not, Bool.not_not, ne_eq] at h_3
    refine runE_ite (b' := (decide ((nsZ u (k 2) (k 11) (k 0)) < (-100000)) || decide (100000 < (nsZ u (k 2) (k 11) (k 0))))) (by kernel_rfl) (fun h_4 => ?_) (fun h_4 => ?_)
    · simp only [Bool.or_eq_true, Bool.and_eq_true, Bool.or_eq_false_iff, Bool.and_eq_false_iff, Bool.not_eq_true', Bool.not_eq_false', decide_eq_true_eq, decide_eq_false_iff_not, Bool.not_not, ne_eq] at h_4
      refine runE_leaf (xs := [0, 0, 0, 0, 0, 0, 0, 2]) (by kernel_rfl) ?_
      exact itZ2 (by unfold VP; omega)
    simp only [Bool.or_eq_true, Bool.and_eq_true, Bool.or_eq_false_iff, Bool.and_eq_false_iff, Bool.not_eq_true', Bool.not_eq_false', decide_eq_true_eq, decide_eq_false_iff_not, Bool.not_not, ne_eq] at h_4
    refine runE_ite (b' := (decide ((nsZ w (k 2) (k 12) (k 0)) < (-100000)) || decide (100000 < (nsZ w (k 2) (k 12) (k 0))))) (by kernel_rfl) (fun h_5 => ?_) (fun h_5 => ?_)
    · simp only [Bool.or_eq_true, Bool.and_eq_true, Bool.or_eq_false_iff, Bool.and_eq_false_iff, Bool.not_eq_true', Bool.not_eq_false', decide_eq_true_eq, decide_eq_false_iff_not, Bool.not_not, ne_eq] at h_5
      refine runE_leaf (xs := [0, 0, 0, 0, 0, 0, 0, 2]) (by kernel_rfl) ?_
      exact itZ2 (by unfold VP; omega)
    simp only [Bool.or_eq_true, Bool.and_eq_true, Bool.or_eq_false_iff, Bool.and_eq_false_iff, Bool.not_eq_true', Bool.not_eq_false', decide_eq_true_eq, decide_eq_false_iff_not, Bool.not_not, ne_eq] at h_5
    refine runE_ite (b' := (decide ((nsZ t (k 3) (k 13) (k 1)) < (-10000)) || decide (10000 < (nsZ t (k 3) (k 13) (k 1))))) (by kernel_rfl) (fun h_6 => ?_) (fun h_6 => ?_)
    · simp only [Bool.or_eq_true, Bool.and_eq_true, Bool.or_eq_false_iff, Bool.and_eq_false_iff, Bool.not_eq_true', Bool.not_eq_false', decide_eq_true_eq, decide_eq_false_iff_not, Bool.not_not, ne_eq] at h_6
      refine runE_leaf (xs := [0, 0, 0, 0, 0, 0, 0, 2]) (by kernel_rfl) ?_
      exact itZ2 (by unfold VP; omega)
    simp only [Bool.or_eq_true, Bool.and_eq_true, Bool.or_eq_false_iff, Bool.and_eq_false_iff, Bool.not_eq_true', Bool.not_eq_false', decide_eq_true_eq, decide_eq_false_iff_not, Bool.not_not, ne_eq] at h_6
    refine runE_again (xs := P_rung l c k ++ [(i + 1), (T + 1), (xN (k 0) (k 1) (k 2) (k 3) (k 11) (k 12) (k 13) X C u w t), (yN (k 0) (k 1) (k 2) (k 3) (k 11) (k 12) (k 13) Y C u w t), (cN (k 1) (k 3) (k 13) C t), (nsZ u (k 2) (k 11) (k 0)), (nsZ w (k 2) (k 12) (k 0)), (nsZ t (k 3) (k 13) (k 1))]) (by kernel_rfl) ?_
    refine Eq.trans (ih _ _ _ _ _ _ _ _ (by omega) (by unfold VP; omega)) ?_
    exact itZs (by unfold VP; omega)
set_option maxHeartbeats 8000000 in
theorem rung_ok (hg : EnOK g l c z en46) (hl : EnLp g z en46) (k : Nat → Int) (H0 : -1000 ≤ k 26 ∧ k 26 ≤ 1000) (H1 : -1000 ≤ k 38 ∧ k 38 ≤ 1000) (H2 : -1000 ≤ k 50 ∧ k 50 ≤ 1000) (H3 : -1000 ≤ k 62 ∧ k 62 ≤ 1000) (H4 : -1000 ≤ k 74 ∧ k 74 ≤ 1000) (H5 : -1000 ≤ k 86 ∧ k 86 ≤ 1000) (H6 : -1000 ≤ k 98 ∧ k 98 ≤ 1000) (H8 : -1000 ≤ k 122 ∧ k 122 ≤ 1000) : Ev.runT (rowF g z) (l :: c :: L123 k) t_rung = rnZ (k 0) (k 1) (k 2) (k 3) (k 11) (k 12) (k 13) (-1000 ≤ k 110 ∧ k 110 ≤ 1000) (k 14) (k 4) (k 5) (k 6) (k 7) (k 8) (k 9) (k 10) := by
  refine runE_ite (b' := (decide ((k 14) < 0) || decide (400 < (k 14)))) (by kernel_rfl) (fun h_1 => ?_) (fun h_1 => ?_)
  · simp only [Bool.or_eq_true, Bool.and_eq_true, Bool.or_eq_false_iff, Bool.and_eq_false_iff, Bool.not_eq_true', Bool.not_eq_false', decide_eq_true_eq, decide_eq_false_iff_not, Bool.not_not, ne_eq] at h_1
    refine runE_leaf (xs := [0, 0, 0, 0, 0, 0, 0, 2]) (by kernel_rfl) ?_
    exact rnZ2 (by omega)
  simp only [Bool.or_eq_true, Bool.and_eq_true, Bool.or_eq_false_iff, Bool.and_eq_false_iff, Bool.not_eq_true', Bool.not_eq_false', decide_eq_true_eq, decide_eq_false_iff_not, Bool.not_not, ne_eq] at h_1
  refine runE_call (xs := [(k 15), (k 16), (k 17), (k 18), (k 19), (k 20), (k 21), (k 22), (k 23), (k 24), (k 25), (k 26)]) (R := [(k 15), (k 16), (k 17), (k 18), (k 19), (k 20), (k 21), (k 22), (k 23), (k 24), (k 25), (k 26), 1]) (by kernel_rfl) (r19p (en46_31 hg) H0) rfl ?_
  refine runE_ite (b' := false) (by kernel_rfl) (fun h => absurd h (by decide)) (fun _ => ?_)
  refine runE_call (xs := [(k 27), (k 28), (k 29), (k 30), (k 31), (k 32), (k 33), (k 34), (k 35), (k 36), (k 37), (k 38)]) (R := [(k 27), (k 28), (k 29), (k 30), (k 31), (k 32), (k 33), (k 34), (k 35), (k 36), (k 37), (k 38), 1]) (by kernel_rfl) (r19p (en46_31 hg) H1) rfl ?_
  refine runE_ite (b' := false) (by kernel_rfl) (fun h => absurd h (by decide)) (fun _ => ?_)
  refine runE_call (xs := [(k 39), (k 40), (k 41), (k 42), (k 43), (k 44), (k 45), (k 46), (k 47), (k 48), (k 49), (k 50)]) (R := [(k 39), (k 40), (k 41), (k 42), (k 43), (k 44), (k 45), (k 46), (k 47), (k 48), (k 49), (k 50), 1]) (by kernel_rfl) (r19p (en46_31 hg) H2) rfl ?_
  refine runE_ite (b' := false) (by kernel_rfl) (fun h => absurd h (by decide)) (fun _ => ?_)
  refine runE_call (xs := [(k 51), (k 52), (k 53), (k 54), (k 55), (k 56), (k 57), (k 58), (k 59), (k 60), (k 61), (k 62)]) (R := [(k 51), (k 52), (k 53), (k 54), (k 55), (k 56), (k 57), (k 58), (k 59), (k 60), (k 61), (k 62), 1]) (by kernel_rfl) (r19p (en46_31 hg) H3) rfl ?_
  refine runE_ite (b' := false) (by kernel_rfl) (fun h => absurd h (by decide)) (fun _ => ?_)
  refine runE_call (xs := [(k 63), (k 64), (k 65), (k 66), (k 67), (k 68), (k 69), (k 70), (k 71), (k 72), (k 73), (k 74)]) (R := [(k 63), (k 64), (k 65), (k 66), (k 67), (k 68), (k 69), (k 70), (k 71), (k 72), (k 73), (k 74), 1]) (by kernel_rfl) (r19p (en46_31 hg) H4) rfl ?_
  refine runE_ite (b' := false) (by kernel_rfl) (fun h => absurd h (by decide)) (fun _ => ?_)
  refine runE_call (xs := [(k 75), (k 76), (k 77), (k 78), (k 79), (k 80), (k 81), (k 82), (k 83), (k 84), (k 85), (k 86)]) (R := [(k 75), (k 76), (k 77), (k 78), (k 79), (k 80), (k 81), (k 82), (k 83), (k 84), (k 85), (k 86), 1]) (by kernel_rfl) (r19p (en46_31 hg) H5) rfl ?_
  refine runE_ite (b' := false) (by kernel_rfl) (fun h => absurd h (by decide)) (fun _ => ?_)
  refine runE_call (xs := [(k 87), (k 88), (k 89), (k 90), (k 91), (k 92), (k 93), (k 94), (k 95), (k 96), (k 97), (k 98)]) (R := [(k 87), (k 88), (k 89), (k 90), (k 91), (k 92), (k 93), (k 94), (k 95), (k 96), (k 97), (k 98), 1]) (by kernel_rfl) (r19p (en46_31 hg) H6) rfl ?_
  refine runE_ite (b' := false) (by kernel_rfl) (fun h => absurd h (by decide)) (fun _ => ?_)
  by_cases hok : -1000 ≤ k 110 ∧ k 110 ≤ 1000
  rotate_left
  · refine runE_call (xs := [(k 99), (k 100), (k 101), (k 102), (k 103), (k 104), (k 105), (k 106), (k 107), (k 108), (k 109), (k 110)]) (R := [0, 0, 0, 0, 0, 0, 0, 0, 0, 0, 0, 0, 0]) (by kernel_rfl) (r19n (en46_31 hg) hok) rfl ?_
    refine runE_ite (b' := true) (by kernel_rfl) (fun _ => ?_) (fun h => absurd h (by decide))
    refine runE_leaf (xs := [0, 0, 0, 0, 0, 0, 0, 60]) (by kernel_rfl) ?_
    exact rnZ60 (by omega) (by unfold HP; omega)
  refine runE_call (xs := [(k 99), (k 100), (k 101), (k 102), (k 103), (k 104), (k 105), (k 106), (k 107), (k 108), (k 109), (k 110)]) (R := [(k 99), (k 100), (k 101), (k 102), (k 103), (k 104), (k 105), (k 106), (k 107), (k 108), (k 109), (k 110), 1]) (by kernel_rfl) (r19p (en46_31 hg) hok) rfl ?_
  refine runE_ite (b' := false) (by kernel_rfl) (fun h => absurd h (by decide)) (fun _ => ?_)
  refine runE_call (xs := [(k 111), (k 112), (k 113), (k 114), (k 115), (k 116), (k 117), (k 118), (k 119), (k 120), (k 121), (k 122)]) (R := [(k 111), (k 112), (k 113), (k 114), (k 115), (k 116), (k 117), (k 118), (k 119), (k 120), (k 121), (k 122), 1]) (by kernel_rfl) (r19p (en46_31 hg) H8) rfl ?_
  refine runE_ite (b' := false) (by kernel_rfl) (fun h => absurd h (by decide)) (fun _ => ?_)
  refine runE_ite (b' := (((((((decide ((k 0) < 1) || decide (1000000 < (k 0))) || decide ((k 1) < 1)) || decide (1073741824 < (k 1))) || decide ((k 2) < 0)) || decide ((k 0) < (k 2))) || decide ((k 3) < 0)) || decide ((k 1) < (k 3)))) (by kernel_rfl) (fun h_2 => ?_) (fun h_2 => ?_)
  · simp only [Bool.or_eq_true, Bool.and_eq_true, Bool.or_eq_false_iff, Bool.and_eq_false_iff, Bool.not_eq_true', Bool.not_eq_false', decide_eq_true_eq, decide_eq_false_iff_not, Bool.not_not, ne_eq] at h_2
    refine runE_leaf (xs := [0, 0, 0, 0, 0, 0, 0, 60]) (by kernel_rfl) ?_
    exact rnZ60 (by omega) (by unfold HP; omega)
  simp only [Bool.or_eq_true, Bool.and_eq_true, Bool.or_eq_false_iff, Bool.and_eq_false_iff, Bool.not_eq_true', Bool.not_eq_false', decide_eq_true_eq, decide_eq_false_iff_not, Bool.not_not, ne_eq] at h_2
  refine runE_tie (b' := (decide (0 ≤ (k 4)) && decide ((k 4) ≤ 2147483648))) (by kernel_rfl) (fun h_3 => ?_) (fun h_3 => ?_)
  · simp only [Bool.or_eq_true, Bool.and_eq_true, Bool.or_eq_false_iff, Bool.and_eq_false_iff, Bool.not_eq_true', Bool.not_eq_false', decide_eq_true_eq, decide_eq_false_iff_not, Bool.not_not, ne_eq] at h_3
    refine runE_leaf (xs := [0, 0, 0, 0, 0, 0, 0, 61]) (by kernel_rfl) ?_
    exact rnZ61 (by omega) (by unfold HP; omega) (by unfold VP; omega)
  simp only [Bool.or_eq_true, Bool.and_eq_true, Bool.or_eq_false_iff, Bool.and_eq_false_iff, Bool.not_eq_true', Bool.not_eq_false', decide_eq_true_eq, decide_eq_false_iff_not, Bool.not_not, ne_eq] at h_3
  refine runE_ite (b' := (decide ((k 5) < (-10000000000)) || decide (10000000000 < (k 5)))) (by kernel_rfl) (fun h_4 => ?_) (fun h_4 => ?_)
  · simp only [Bool.or_eq_true, Bool.and_eq_true, Bool.or_eq_false_iff, Bool.and_eq_false_iff, Bool.not_eq_true', Bool.not_eq_false', decide_eq_true_eq, decide_eq_false_iff_not, Bool.not_not, ne_eq] at h_4
    refine runE_leaf (xs := [0, 0, 0, 0, 0, 0, 0, 61]) (by kernel_rfl) ?_
    exact rnZ61 (by omega) (by unfold HP; omega) (by unfold VP; omega)
  simp only [Bool.or_eq_true, Bool.and_eq_true, Bool.or_eq_false_iff, Bool.and_eq_false_iff, Bool.not_eq_true', Bool.not_eq_false', decide_eq_true_eq, decide_eq_false_iff_not, Bool.not_not, ne_eq] at h_4
  refine runE_ite (b' := (decide ((k 6) < (-10000000000)) || decide (10000000000 < (k 6)))) (by kernel_rfl) (fun h_5 => ?_) (fun h_5 => ?_)
  · simp only [Bool.or_eq_true, Bool.and_eq_true, Bool.or_eq_false_iff, Bool.and_eq_false_iff, Bool.not_eq_true', Bool.not_eq_false', decide_eq_true_eq, decide_eq_false_iff_not, Bool.not_not, ne_eq] at h_5
    refine runE_leaf (xs := [0, 0, 0, 0, 0, 0, 0, 61]) (by kernel_rfl) ?_
    exact rnZ61 (by omega) (by unfold HP; omega) (by unfold VP; omega)
  simp only [Bool.or_eq_true, Bool.and_eq_true, Bool.or_eq_false_iff, Bool.and_eq_false_iff, Bool.not_eq_true', Bool.not_eq_false', decide_eq_true_eq, decide_eq_false_iff_not, Bool.not_not, ne_eq] at h_5
  refine runE_tie (b' := (decide (0 ≤ (k 7)) && decide ((k 7) < 360000))) (by kernel_rfl) (fun h_6 => ?_) (fun h_6 => ?_)
  · simp only [Bool.or_eq_true, Bool.and_eq_true, Bool.or_eq_false_iff, Bool.and_eq_false_iff, Bool.not_eq_true', Bool.not_eq_false', decide_eq_true_eq, decide_eq_false_iff_not, Bool.not_not, ne_eq] at h_6
    refine runE_leaf (xs := [0, 0, 0, 0, 0, 0, 0, 61]) (by kernel_rfl) ?_
    exact rnZ61 (by omega) (by unfold HP; omega) (by unfold VP; omega)
  simp only [Bool.or_eq_true, Bool.and_eq_true, Bool.or_eq_false_iff, Bool.and_eq_false_iff, Bool.not_eq_true', Bool.not_eq_false', decide_eq_true_eq, decide_eq_false_iff_not, Bool.not_not, ne_eq] at h_6
  refine runE_ite (b' := (decide ((k 8) < (-100000)) || decide (100000 < (k 8)))) (by kernel_rfl) (fun h_7 => ?_) (fun h_7 => ?_)
  · simp only [Bool.or_eq_true, Bool.and_eq_true, Bool.or_eq_false_iff, Bool.and_eq_false_iff, Bool.not_eq_true', Bool.not_eq_false', decide_eq_true_eq, decide_eq_false_iff_not, Bool.not_not, ne_eq] at h_7
    refine runE_leaf (xs := [0, 0, 0, 0, 0, 0, 0, 61]) (by kernel_rfl) ?_
    exact rnZ61 (by omega) (by unfold HP; omega) (by unfold VP; omega)
  simp only [Bool.or_eq_true, Bool.and_eq_true, Bool.or_eq_false_iff, Bool.and_eq_false_iff, Bool.not_eq_true', Bool.not_eq_false', decide_eq_true_eq, decide_eq_false_iff_not, Bool.not_not, ne_eq] at h_7
  refine runE_ite (b' := (decide ((k 9) < (-100000)) || decide (100000 < (k 9)))) (by kernel_rfl) (fun h_8 => ?_) (fun h_8 => ?_)
  · simp only [Bool.or_eq_true, Bool.and_eq_true, Bool.or_eq_false_iff, Bool.and_eq_false_iff, Bool.not_eq_true', Bool.not_eq_false', decide_eq_true_eq, decide_eq_false_iff_not, Bool.not_not, ne_eq] at h_8
    refine runE_leaf (xs := [0, 0, 0, 0, 0, 0, 0, 61]) (by kernel_rfl) ?_
    exact rnZ61 (by omega) (by unfold HP; omega) (by unfold VP; omega)
  simp only [Bool.or_eq_true, Bool.and_eq_true, Bool.or_eq_false_iff, Bool.and_eq_false_iff, Bool.not_eq_true', Bool.not_eq_false', decide_eq_true_eq, decide_eq_false_iff_not, Bool.not_not, ne_eq] at h_8
  refine runE_ite (b' := (decide ((k 10) < (-10000)) || decide (10000 < (k 10)))) (by kernel_rfl) (fun h_9 => ?_) (fun h_9 => ?_)
  · simp only [Bool.or_eq_true, Bool.and_eq_true, Bool.or_eq_false_iff, Bool.and_eq_false_iff, Bool.not_eq_true', Bool.not_eq_false', decide_eq_true_eq, decide_eq_false_iff_not, Bool.not_not, ne_eq] at h_9
    refine runE_leaf (xs := [0, 0, 0, 0, 0, 0, 0, 61]) (by kernel_rfl) ?_
    exact rnZ61 (by omega) (by unfold HP; omega) (by unfold VP; omega)
  simp only [Bool.or_eq_true, Bool.and_eq_true, Bool.or_eq_false_iff, Bool.and_eq_false_iff, Bool.not_eq_true', Bool.not_eq_false', decide_eq_true_eq, decide_eq_false_iff_not, Bool.not_not, ne_eq] at h_9
  refine runE_ite (b' := (decide ((k 11) < (-1000000)) || decide (1000000 < (k 11)))) (by kernel_rfl) (fun h_10 => ?_) (fun h_10 => ?_)
  · simp only [Bool.or_eq_true, Bool.and_eq_true, Bool.or_eq_false_iff, Bool.and_eq_false_iff, Bool.not_eq_true', Bool.not_eq_false', decide_eq_true_eq, decide_eq_false_iff_not, Bool.not_not, ne_eq] at h_10
    refine runE_leaf (xs := [0, 0, 0, 0, 0, 0, 0, 1]) (by kernel_rfl) ?_
    exact rnZ1 (by omega) (by unfold HP; omega) (by unfold VP; omega) (by unfold FP; omega)
  simp only [Bool.or_eq_true, Bool.and_eq_true, Bool.or_eq_false_iff, Bool.and_eq_false_iff, Bool.not_eq_true', Bool.not_eq_false', decide_eq_true_eq, decide_eq_false_iff_not, Bool.not_not, ne_eq] at h_10
  refine runE_ite (b' := (decide ((k 12) < (-1000000)) || decide (1000000 < (k 12)))) (by kernel_rfl) (fun h_11 => ?_) (fun h_11 => ?_)
  · simp only [Bool.or_eq_true, Bool.and_eq_true, Bool.or_eq_false_iff, Bool.and_eq_false_iff, Bool.not_eq_true', Bool.not_eq_false', decide_eq_true_eq, decide_eq_false_iff_not, Bool.not_not, ne_eq] at h_11
    refine runE_leaf (xs := [0, 0, 0, 0, 0, 0, 0, 1]) (by kernel_rfl) ?_
    exact rnZ1 (by omega) (by unfold HP; omega) (by unfold VP; omega) (by unfold FP; omega)
  simp only [Bool.or_eq_true, Bool.and_eq_true, Bool.or_eq_false_iff, Bool.and_eq_false_iff, Bool.not_eq_true', Bool.not_eq_false', decide_eq_true_eq, decide_eq_false_iff_not, Bool.not_not, ne_eq] at h_11
  refine runE_ite (b' := (decide ((k 13) < (-1000000)) || decide (1000000 < (k 13)))) (by kernel_rfl) (fun h_12 => ?_) (fun h_12 => ?_)
  · simp only [Bool.or_eq_true, Bool.and_eq_true, Bool.or_eq_false_iff, Bool.and_eq_false_iff, Bool.not_eq_true', Bool.not_eq_false', decide_eq_true_eq, decide_eq_false_iff_not, Bool.not_not, ne_eq] at h_12
    refine runE_leaf (xs := [0, 0, 0, 0, 0, 0, 0, 1]) (by kernel_rfl) ?_
    exact rnZ1 (by omega) (by unfold HP; omega) (by unfold VP; omega) (by unfold FP; omega)
  simp only [Bool.or_eq_true, Bool.and_eq_true, Bool.or_eq_false_iff, Bool.and_eq_false_iff, Bool.not_eq_true', Bool.not_eq_false', decide_eq_true_eq, decide_eq_false_iff_not, Bool.not_not, ne_eq] at h_12
  refine Eq.trans ?_ (rnZ0 (by omega) ⟨hok, by unfold HP; omega⟩ (by unfold VP; omega) (by unfold FP; omega)).symm
  refine runE_loop (xs := P_rung l c k ++ [0, (k 4), (k 5), (k 6), (k 7), (k 8), (k 9), (k 10)]) (by kernel_rfl) ?_
  exact loop_rung hg hl k (by unfold HP; omega) (by unfold FP; omega) _ _ _ _ _ _ _ _ _ (by omega) (by unfold VP; omega)
def t_rrungB : T (List E) :=
(.ite (.lt (.v 125) (.v 16))
(.call 33 [(.v 2), (.v 3), (.v 4), (.v 5), (.v 126), (.v 127), (.v 128), (.v 129), (.v 130), (.v 131), (.v 132), (.v 13), (.v 14), (.v 15), (.v 17), (.v 18), (.v 19), (.v 20), (.v 21), (.v 22), (.v 23), (.v 24), (.v 25), (.v 26), (.v 27), (.v 28), (.v 29), (.v 30), (.v 31), (.v 32), (.v 33), (.v 34), (.v 35), (.v 36), (.v 37), (.v 38), (.v 39), (.v 40), (.v 41), (.v 42), (.v 43), (.v 44), (.v 45), (.v 46), (.v 47), (.v 48), (.v 49), (.v 50), (.v 51), (.v 52), (.v 53), (.v 54), (.v 55), (.v 56), (.v 57), (.v 58), (.v 59), (.v 60), (.v 61), (.v 62), (.v 63), (.v 64), (.v 65), (.v 66), (.v 67), (.v 68), (.v 69), (.v 70), (.v 71), (.v 72), (.v 73), (.v 74), (.v 75), (.v 76), (.v 77), (.v 78), (.v 79), (.v 80), (.v 81), (.v 82), (.v 83), (.v 84), (.v 85), (.v 86), (.v 87), (.v 88), (.v 89), (.v 90), (.v 91), (.v 92), (.v 93), (.v 94), (.v 95), (.v 96), (.v 97), (.v 98), (.v 99), (.v 100), (.v 101), (.v 102), (.v 103), (.v 104), (.v 105), (.v 106), (.v 107), (.v 108), (.v 109), (.v 110), (.v 111), (.v 112), (.v 113), (.v 114), (.v 115), (.v 116), (.v 117), (.v 118), (.v 119), (.v 120), (.v 121), (.v 122), (.v 123), (.v 124)] 8
(.ite (.not (.eq (.v 140) (.lit 0)))
(.leaf [(.lit 0), (.lit 0), (.lit 0), (.lit 0), (.lit 0), (.lit 0), (.lit 0), (.v 140)])
(.again 350 125 [(.add (.v 125) (.lit 1)), (.v 133), (.v 134), (.v 135), (.v 136), (.v 137), (.v 138), (.v 139)])))
(.leaf [(.v 126), (.v 127), (.v 128), (.v 129), (.v 130), (.v 131), (.v 132), (.lit 0)]))
def P_rrung (l c : Int) (k : Nat → Int) : List Int := [l, c, (k 0), (k 1), (k 2), (k 3), (k 4), (k 5), (k 6), (k 7), (k 8), (k 9), (k 10), (k 11), (k 12), (k 13), (k 14), (k 15), (k 16), (k 17), (k 18), (k 19), (k 20), (k 21), (k 22), (k 23), (k 24), (k 25), (k 26), (k 27), (k 28), (k 29), (k 30), (k 31), (k 32), (k 33), (k 34), (k 35), (k 36), (k 37), (k 38), (k 39), (k 40), (k 41), (k 42), (k 43), (k 44), (k 45), (k 46), (k 47), (k 48), (k 49), (k 50), (k 51), (k 52), (k 53), (k 54), (k 55), (k 56), (k 57), (k 58), (k 59), (k 60), (k 61), (k 62), (k 63), (k 64), (k 65), (k 66), (k 67), (k 68), (k 69), (k 70), (k 71), (k 72), (k 73), (k 74), (k 75), (k 76), (k 77), (k 78), (k 79), (k 80), (k 81), (k 82), (k 83), (k 84), (k 85), (k 86), (k 87), (k 88), (k 89), (k 90), (k 91), (k 92), (k 93), (k 94), (k 95), (k 96), (k 97), (k 98), (k 99), (k 100), (k 101), (k 102), (k 103), (k 104), (k 105), (k 106), (k 107), (k 108), (k 109), (k 110), (k 111), (k 112), (k 113), (k 114), (k 115), (k 116), (k 117), (k 118), (k 119), (k 120), (k 121), (k 122)]
set_option maxHeartbeats 8000000 in
theorem loop_rrung (hg : EnOK g l c z en46) (hl : EnLp g z en46) (k : Nat → Int) (H0 : -1000 ≤ k 26 ∧ k 26 ≤ 1000) (H1 : -1000 ≤ k 38 ∧ k 38 ≤ 1000) (H2 : -1000 ≤ k 50 ∧ k 50 ≤ 1000) (H3 : -1000 ≤ k 62 ∧ k 62 ≤ 1000) (H4 : -1000 ≤ k 74 ∧ k 74 ≤ 1000) (H5 : -1000 ≤ k 86 ∧ k 86 ≤ 1000) (H6 : -1000 ≤ k 98 ∧ k 98 ≤ 1000) (H8 : -1000 ≤ k 122 ∧ k 122 ≤ 1000) (hok : -1000 ≤ k 110 ∧ k 110 ≤ 1000) (hH : HP (k 0) (k 1) (k 2) (k 3)) (hF : FP (k 11) (k 12) (k 13)) : ∀ (n : Nat) (i T X Y C u w t : Int), k 14 - i = n → VP T X Y C u w t → rowF g z 2350 (P_rrung l c k ++ [i, T, X, Y, C, u, w, t]) = itZ (k 0) (k 1) (k 2) (k 3) (k 11) (k 12) (k 13) n T X Y C u w t := by
  have heq : ∀ ρ, rowF g z 2350 ρ = Ev.runT (rowF g z) ρ t_rrungB := fun ρ => hl.2.2.2.2.2.2.2.2.2.2.2.1 (350, t_rrungB) (by rw [show t_rrung.lps = [(350, t_rrungB)] by rfl]; exact List.mem_cons_self ..) ρ
  have hg0 : EnOK g l c z en46 := hg
  have hg : EnOK g l c z en31 := en46_31 hg
  unfold HP at hH
  unfold FP at hF
  intro n
  induction n with
  | zero =>
    intro i T X Y C u w t hn hV
    rw [heq]
    refine runE_ite (b' := decide (i < k 14)) (by kernel_rfl) (fun h => ?_) (fun h => ?_)
    · exfalso; simp only [decide_eq_true_eq] at h; omega
    · exact runE_leaf (xs := [T, X, Y, C, u, w, t, 0]) (by kernel_rfl) (by simp only [itZ])
  | succ n ih =>
    intro i T X Y C u w t hn hV
    rw [heq]
    refine runE_ite (b' := decide (i < k 14)) (by kernel_rfl) (fun h => ?_) (fun h => ?_)
    rotate_left
    · exfalso; simp only [decide_eq_false_iff_not] at h; omega
    unfold VP at hV
    have hst : rowF g z 33 (L122 (fun q => if q < 4 then k q else if q = 4 then T else if q = 5 then X else if q = 6 then Y else if q = 7 then C else if q = 8 then u else if q = 9 then w else if q = 10 then t else if q < 14 then k q else k (q + 1))) = mvZ (k 0) (k 1) (k 2) (k 3) (k 11) (k 12) (k 13) T X Y C u w t := by
      rw [rowF_lt (by decide)]
      have h33 := hg0.2.2.2.2.2.2.2.2.2.2.2.2.2.1 (L122 (fun q => if q < 4 then k q else if q = 4 then T else if q = 5 then X else if q = 6 then Y else if q = 7 then C else if q = 8 then u else if q = 9 then w else if q = 10 then t else if q < 14 then k q else k (q + 1)))
      rw [show c_rstepg.key = 33 from rfl, rowF_lt (by decide)] at h33
      rw [h33]
      refine (rstepg_ok hg (fun q => if q < 4 then k q else if q = 4 then T else if q = 5 then X else if q = 6 then Y else if q = 7 then C else if q = 8 then u else if q = 9 then w else if q = 10 then t else if q < 14 then k q else k (q + 1)) H0 H1 H2 H3 H4 H5 H6 H8).trans ?_
      exact stZ0 (M := k 0) (I := k 1) (D := k 2) (S := k 3) (a := k 11) (b := k 12) (e := k 13) (ok := -1000 ≤ k 110 ∧ k 110 ≤ 1000) (T := T) (X := X) (Y := Y) (C := C) (u := u) (w := w) (t := t) ⟨hok, by unfold HP; omega⟩ (by unfold VP; omega) (by unfold FP; omega)
    by_cases hv : VP (T + 1) (xN (k 0) (k 1) (k 2) (k 3) (k 11) (k 12) (k 13) X C u w t) (yN (k 0) (k 1) (k 2) (k 3) (k 11) (k 12) (k 13) Y C u w t) (cN (k 1) (k 3) (k 13) C t) (nsZ u (k 2) (k 11) (k 0)) (nsZ w (k 2) (k 12) (k 0)) (nsZ t (k 3) (k 13) (k 1))
    · refine runE_call (xs := L122 (fun q => if q < 4 then k q else if q = 4 then T else if q = 5 then X else if q = 6 then Y else if q = 7 then C else if q = 8 then u else if q = 9 then w else if q = 10 then t else if q < 14 then k q else k (q + 1))) (R := [(T + 1), (xN (k 0) (k 1) (k 2) (k 3) (k 11) (k 12) (k 13) X C u w t), (yN (k 0) (k 1) (k 2) (k 3) (k 11) (k 12) (k 13) Y C u w t), (cN (k 1) (k 3) (k 13) C t), (nsZ u (k 2) (k 11) (k 0)), (nsZ w (k 2) (k 12) (k 0)), (nsZ t (k 3) (k 13) (k 1)), 0]) (by kernel_rfl) (hst.trans (mvR0 hv).symm) rfl ?_
      refine runE_ite (b' := false) (by kernel_rfl) (fun h => absurd h (by decide)) (fun _ => ?_)
      refine runE_again (xs := P_rrung l c k ++ [i + 1, (T + 1), (xN (k 0) (k 1) (k 2) (k 3) (k 11) (k 12) (k 13) X C u w t), (yN (k 0) (k 1) (k 2) (k 3) (k 11) (k 12) (k 13) Y C u w t), (cN (k 1) (k 3) (k 13) C t), (nsZ u (k 2) (k 11) (k 0)), (nsZ w (k 2) (k 12) (k 0)), (nsZ t (k 3) (k 13) (k 1))]) (by kernel_rfl) ?_
      refine Eq.trans (ih _ _ _ _ _ _ _ _ (by omega) hv) ?_
      exact itZs hv
    · refine runE_call (xs := L122 (fun q => if q < 4 then k q else if q = 4 then T else if q = 5 then X else if q = 6 then Y else if q = 7 then C else if q = 8 then u else if q = 9 then w else if q = 10 then t else if q < 14 then k q else k (q + 1))) (R := [0, 0, 0, 0, 0, 0, 0, 2]) (by kernel_rfl) (hst.trans (mvR2 hv).symm) rfl ?_
      refine runE_ite (b' := true) (by kernel_rfl) (fun _ => ?_) (fun h => absurd h (by decide))
      exact runE_leaf (xs := [0, 0, 0, 0, 0, 0, 0, 2]) (by kernel_rfl) (itZ2 hv)
set_option maxHeartbeats 8000000 in
theorem rrung_ok (hg : EnOK g l c z en46) (hl : EnLp g z en46) (k : Nat → Int) (H0 : -1000 ≤ k 26 ∧ k 26 ≤ 1000) (H1 : -1000 ≤ k 38 ∧ k 38 ≤ 1000) (H2 : -1000 ≤ k 50 ∧ k 50 ≤ 1000) (H3 : -1000 ≤ k 62 ∧ k 62 ≤ 1000) (H4 : -1000 ≤ k 74 ∧ k 74 ≤ 1000) (H5 : -1000 ≤ k 86 ∧ k 86 ≤ 1000) (H6 : -1000 ≤ k 98 ∧ k 98 ≤ 1000) (H8 : -1000 ≤ k 122 ∧ k 122 ≤ 1000) : Ev.runT (rowF g z) (l :: c :: L123 k) t_rrung = rnZ (k 0) (k 1) (k 2) (k 3) (k 11) (k 12) (k 13) (-1000 ≤ k 110 ∧ k 110 ≤ 1000) (k 14) (k 4) (k 5) (k 6) (k 7) (k 8) (k 9) (k 10) := by
  by_cases hok : -1000 ≤ k 110 ∧ k 110 ≤ 1000
  rotate_left
  · refine runE_ite (b' := !(decide (0 ≤ k 14) && decide (k 14 ≤ 400))) (by kernel_rfl) (fun h => ?_) (fun h => ?_)
    · simp only [Bool.or_eq_true, Bool.and_eq_true, Bool.or_eq_false_iff, Bool.and_eq_false_iff, Bool.not_eq_true', Bool.not_eq_false', decide_eq_true_eq, decide_eq_false_iff_not, Bool.not_not, ne_eq] at h
      exact runE_leaf (xs := [0, 0, 0, 0, 0, 0, 0, 2]) (by kernel_rfl) (rnZ2 (by omega))
    · simp only [Bool.or_eq_true, Bool.and_eq_true, Bool.or_eq_false_iff, Bool.and_eq_false_iff, Bool.not_eq_true', Bool.not_eq_false', decide_eq_true_eq, decide_eq_false_iff_not, Bool.not_not, ne_eq] at h
      refine runE_ite (b' := !(decide (-1000 ≤ k 110) && decide (k 110 ≤ 1000))) (by kernel_rfl) (fun h => ?_) (fun h => ?_)
      · exact runE_leaf (xs := [0, 0, 0, 0, 0, 0, 0, 60]) (by kernel_rfl) (rnZ60 (by omega) (fun h => hok h.1))
      · exfalso; simp only [Bool.or_eq_true, Bool.and_eq_true, Bool.or_eq_false_iff, Bool.and_eq_false_iff, Bool.not_eq_true', Bool.not_eq_false', decide_eq_true_eq, decide_eq_false_iff_not, Bool.not_not, ne_eq] at h; omega
  refine runE_ite (b' := !((decide (0 ≤ (k 14)) && decide ((k 14) ≤ 400)))) (by kernel_rfl) (fun h_1 => ?_) (fun h_1 => ?_)
  · simp only [Bool.or_eq_true, Bool.and_eq_true, Bool.or_eq_false_iff, Bool.and_eq_false_iff, Bool.not_eq_true', Bool.not_eq_false', decide_eq_true_eq, decide_eq_false_iff_not, Bool.not_not, ne_eq] at h_1
    refine runE_leaf (xs := [0, 0, 0, 0, 0, 0, 0, 2]) (by kernel_rfl) ?_
    exact rnZ2 (by omega)
  simp only [Bool.or_eq_true, Bool.and_eq_true, Bool.or_eq_false_iff, Bool.and_eq_false_iff, Bool.not_eq_true', Bool.not_eq_false', decide_eq_true_eq, decide_eq_false_iff_not, Bool.not_not, ne_eq] at h_1
  refine runE_ite (b' := !((decide ((-1000) ≤ (k 110)) && decide ((k 110) ≤ 1000)))) (by kernel_rfl) (fun h_2 => ?_) (fun h_2 => ?_)
  · simp only [Bool.or_eq_true, Bool.and_eq_true, Bool.or_eq_false_iff, Bool.and_eq_false_iff, Bool.not_eq_true', Bool.not_eq_false', decide_eq_true_eq, decide_eq_false_iff_not, Bool.not_not, ne_eq] at h_2
    refine runE_leaf (xs := [0, 0, 0, 0, 0, 0, 0, 60]) (by kernel_rfl) ?_
    exact rnZ60 (by omega) (by unfold HP; omega)
  simp only [Bool.or_eq_true, Bool.and_eq_true, Bool.or_eq_false_iff, Bool.and_eq_false_iff, Bool.not_eq_true', Bool.not_eq_false', decide_eq_true_eq, decide_eq_false_iff_not, Bool.not_not, ne_eq] at h_2
  refine runE_tie (b' := !(!((decide (1 ≤ (k 0)) && decide ((k 0) ≤ 1000000))))) (by kernel_rfl) (fun h_3 => ?_) (fun h_3 => ?_)
  · simp only [Bool.or_eq_true, Bool.and_eq_true, Bool.or_eq_false_iff, Bool.and_eq_false_iff, Bool.not_eq_true', Bool.not_eq_false', decide_eq_true_eq, decide_eq_false_iff_not, Bool.not_not, ne_eq] at h_3
    refine runE_leaf (xs := [0, 0, 0, 0, 0, 0, 0, 60]) (by kernel_rfl) ?_
    exact rnZ60 (by omega) (by unfold HP; omega)
  simp only [Bool.or_eq_true, Bool.and_eq_true, Bool.or_eq_false_iff, Bool.and_eq_false_iff, Bool.not_eq_true', Bool.not_eq_false', decide_eq_true_eq, decide_eq_false_iff_not, Bool.not_not, ne_eq] at h_3
  refine runE_tie (b' := !(!((decide (1 ≤ (k 1)) && decide ((k 1) ≤ 1073741824))))) (by kernel_rfl) (fun h_4 => ?_) (fun h_4 => ?_)
  · simp only [Bool.or_eq_true, Bool.and_eq_true, Bool.or_eq_false_iff, Bool.and_eq_false_iff, Bool.not_eq_true', Bool.not_eq_false', decide_eq_true_eq, decide_eq_false_iff_not, Bool.not_not, ne_eq] at h_4
    refine runE_leaf (xs := [0, 0, 0, 0, 0, 0, 0, 60]) (by kernel_rfl) ?_
    exact rnZ60 (by omega) (by unfold HP; omega)
  simp only [Bool.or_eq_true, Bool.and_eq_true, Bool.or_eq_false_iff, Bool.and_eq_false_iff, Bool.not_eq_true', Bool.not_eq_false', decide_eq_true_eq, decide_eq_false_iff_not, Bool.not_not, ne_eq] at h_4
  refine runE_tie (b' := !(!((decide (0 ≤ (k 2)) && decide ((k 2) ≤ (k 0)))))) (by kernel_rfl) (fun h_5 => ?_) (fun h_5 => ?_)
  · simp only [Bool.or_eq_true, Bool.and_eq_true, Bool.or_eq_false_iff, Bool.and_eq_false_iff, Bool.not_eq_true', Bool.not_eq_false', decide_eq_true_eq, decide_eq_false_iff_not, Bool.not_not, ne_eq] at h_5
    refine runE_leaf (xs := [0, 0, 0, 0, 0, 0, 0, 60]) (by kernel_rfl) ?_
    exact rnZ60 (by omega) (by unfold HP; omega)
  simp only [Bool.or_eq_true, Bool.and_eq_true, Bool.or_eq_false_iff, Bool.and_eq_false_iff, Bool.not_eq_true', Bool.not_eq_false', decide_eq_true_eq, decide_eq_false_iff_not, Bool.not_not, ne_eq] at h_5
  refine runE_ite (b' := !((decide (0 ≤ (k 3)) && decide ((k 3) ≤ (k 1))))) (by kernel_rfl) (fun h_6 => ?_) (fun h_6 => ?_)
  · simp only [Bool.or_eq_true, Bool.and_eq_true, Bool.or_eq_false_iff, Bool.and_eq_false_iff, Bool.not_eq_true', Bool.not_eq_false', decide_eq_true_eq, decide_eq_false_iff_not, Bool.not_not, ne_eq] at h_6
    refine runE_leaf (xs := [0, 0, 0, 0, 0, 0, 0, 60]) (by kernel_rfl) ?_
    exact rnZ60 (by omega) (by unfold HP; omega)
  simp only [Bool.or_eq_true, Bool.and_eq_true, Bool.or_eq_false_iff, Bool.and_eq_false_iff, Bool.not_eq_true', Bool.not_eq_false', decide_eq_true_eq, decide_eq_false_iff_not, Bool.not_not, ne_eq] at h_6
  refine runE_tie (b' := (decide (0 ≤ (k 4)) && decide ((k 4) ≤ 2147483648))) (by kernel_rfl) (fun h_7 => ?_) (fun h_7 => ?_)
  · simp only [Bool.or_eq_true, Bool.and_eq_true, Bool.or_eq_false_iff, Bool.and_eq_false_iff, Bool.not_eq_true', Bool.not_eq_false', decide_eq_true_eq, decide_eq_false_iff_not, Bool.not_not, ne_eq] at h_7
    refine runE_leaf (xs := [0, 0, 0, 0, 0, 0, 0, 61]) (by kernel_rfl) ?_
    exact rnZ61 (by omega) (by unfold HP; omega) (by unfold VP; omega)
  simp only [Bool.or_eq_true, Bool.and_eq_true, Bool.or_eq_false_iff, Bool.and_eq_false_iff, Bool.not_eq_true', Bool.not_eq_false', decide_eq_true_eq, decide_eq_false_iff_not, Bool.not_not, ne_eq] at h_7
  refine runE_tie (b' := (decide ((-10000000000) ≤ (k 5)) && decide ((k 5) ≤ 10000000000))) (by kernel_rfl) (fun h_8 => ?_) (fun h_8 => ?_)
  · simp only [Bool.or_eq_true, Bool.and_eq_true, Bool.or_eq_false_iff, Bool.and_eq_false_iff, Bool.not_eq_true', Bool.not_eq_false', decide_eq_true_eq, decide_eq_false_iff_not, Bool.not_not, ne_eq] at h_8
    refine runE_leaf (xs := [0, 0, 0, 0, 0, 0, 0, 61]) (by kernel_rfl) ?_
    exact rnZ61 (by omega) (by unfold HP; omega) (by unfold VP; omega)
  simp only [Bool.or_eq_true, Bool.and_eq_true, Bool.or_eq_false_iff, Bool.and_eq_false_iff, Bool.not_eq_true', Bool.not_eq_false', decide_eq_true_eq, decide_eq_false_iff_not, Bool.not_not, ne_eq] at h_8
  refine runE_tie (b' := (decide ((-10000000000) ≤ (k 6)) && decide ((k 6) ≤ 10000000000))) (by kernel_rfl) (fun h_9 => ?_) (fun h_9 => ?_)
  · simp only [Bool.or_eq_true, Bool.and_eq_true, Bool.or_eq_false_iff, Bool.and_eq_false_iff, Bool.not_eq_true', Bool.not_eq_false', decide_eq_true_eq, decide_eq_false_iff_not, Bool.not_not, ne_eq] at h_9
    refine runE_leaf (xs := [0, 0, 0, 0, 0, 0, 0, 61]) (by kernel_rfl) ?_
    exact rnZ61 (by omega) (by unfold HP; omega) (by unfold VP; omega)
  simp only [Bool.or_eq_true, Bool.and_eq_true, Bool.or_eq_false_iff, Bool.and_eq_false_iff, Bool.not_eq_true', Bool.not_eq_false', decide_eq_true_eq, decide_eq_false_iff_not, Bool.not_not, ne_eq] at h_9
  refine runE_tie (b' := (decide (0 ≤ (k 7)) && decide ((k 7) ≤ 359999))) (by kernel_rfl) (fun h_10 => ?_) (fun h_10 => ?_)
  · simp only [Bool.or_eq_true, Bool.and_eq_true, Bool.or_eq_false_iff, Bool.and_eq_false_iff, Bool.not_eq_true', Bool.not_eq_false', decide_eq_true_eq, decide_eq_false_iff_not, Bool.not_not, ne_eq] at h_10
    refine runE_leaf (xs := [0, 0, 0, 0, 0, 0, 0, 61]) (by kernel_rfl) ?_
    exact rnZ61 (by omega) (by unfold HP; omega) (by unfold VP; omega)
  simp only [Bool.or_eq_true, Bool.and_eq_true, Bool.or_eq_false_iff, Bool.and_eq_false_iff, Bool.not_eq_true', Bool.not_eq_false', decide_eq_true_eq, decide_eq_false_iff_not, Bool.not_not, ne_eq] at h_10
  refine runE_tie (b' := (decide ((-100000) ≤ (k 8)) && decide ((k 8) ≤ 100000))) (by kernel_rfl) (fun h_11 => ?_) (fun h_11 => ?_)
  · simp only [Bool.or_eq_true, Bool.and_eq_true, Bool.or_eq_false_iff, Bool.and_eq_false_iff, Bool.not_eq_true', Bool.not_eq_false', decide_eq_true_eq, decide_eq_false_iff_not, Bool.not_not, ne_eq] at h_11
    refine runE_leaf (xs := [0, 0, 0, 0, 0, 0, 0, 61]) (by kernel_rfl) ?_
    exact rnZ61 (by omega) (by unfold HP; omega) (by unfold VP; omega)
  simp only [Bool.or_eq_true, Bool.and_eq_true, Bool.or_eq_false_iff, Bool.and_eq_false_iff, Bool.not_eq_true', Bool.not_eq_false', decide_eq_true_eq, decide_eq_false_iff_not, Bool.not_not, ne_eq] at h_11
  refine runE_tie (b' := (decide ((-100000) ≤ (k 9)) && decide ((k 9) ≤ 100000))) (by kernel_rfl) (fun h_12 => ?_) (fun h_12 => ?_)
  · simp only [Bool.or_eq_true, Bool.and_eq_true, Bool.or_eq_false_iff, Bool.and_eq_false_iff, Bool.not_eq_true', Bool.not_eq_false', decide_eq_true_eq, decide_eq_false_iff_not, Bool.not_not, ne_eq] at h_12
    refine runE_leaf (xs := [0, 0, 0, 0, 0, 0, 0, 61]) (by kernel_rfl) ?_
    exact rnZ61 (by omega) (by unfold HP; omega) (by unfold VP; omega)
  simp only [Bool.or_eq_true, Bool.and_eq_true, Bool.or_eq_false_iff, Bool.and_eq_false_iff, Bool.not_eq_true', Bool.not_eq_false', decide_eq_true_eq, decide_eq_false_iff_not, Bool.not_not, ne_eq] at h_12
  refine runE_ite (b' := !((decide ((-10000) ≤ (k 10)) && decide ((k 10) ≤ 10000)))) (by kernel_rfl) (fun h_13 => ?_) (fun h_13 => ?_)
  · simp only [Bool.or_eq_true, Bool.and_eq_true, Bool.or_eq_false_iff, Bool.and_eq_false_iff, Bool.not_eq_true', Bool.not_eq_false', decide_eq_true_eq, decide_eq_false_iff_not, Bool.not_not, ne_eq] at h_13
    refine runE_leaf (xs := [0, 0, 0, 0, 0, 0, 0, 61]) (by kernel_rfl) ?_
    exact rnZ61 (by omega) (by unfold HP; omega) (by unfold VP; omega)
  simp only [Bool.or_eq_true, Bool.and_eq_true, Bool.or_eq_false_iff, Bool.and_eq_false_iff, Bool.not_eq_true', Bool.not_eq_false', decide_eq_true_eq, decide_eq_false_iff_not, Bool.not_not, ne_eq] at h_13
  refine runE_tie (b' := !(!((decide ((-1000000) ≤ (k 11)) && decide ((k 11) ≤ 1000000))))) (by kernel_rfl) (fun h_14 => ?_) (fun h_14 => ?_)
  · simp only [Bool.or_eq_true, Bool.and_eq_true, Bool.or_eq_false_iff, Bool.and_eq_false_iff, Bool.not_eq_true', Bool.not_eq_false', decide_eq_true_eq, decide_eq_false_iff_not, Bool.not_not, ne_eq] at h_14
    refine runE_leaf (xs := [0, 0, 0, 0, 0, 0, 0, 1]) (by kernel_rfl) ?_
    exact rnZ1 (by omega) (by unfold HP; omega) (by unfold VP; omega) (by unfold FP; omega)
  simp only [Bool.or_eq_true, Bool.and_eq_true, Bool.or_eq_false_iff, Bool.and_eq_false_iff, Bool.not_eq_true', Bool.not_eq_false', decide_eq_true_eq, decide_eq_false_iff_not, Bool.not_not, ne_eq] at h_14
  refine runE_tie (b' := !(!((decide ((-1000000) ≤ (k 12)) && decide ((k 12) ≤ 1000000))))) (by kernel_rfl) (fun h_15 => ?_) (fun h_15 => ?_)
  · simp only [Bool.or_eq_true, Bool.and_eq_true, Bool.or_eq_false_iff, Bool.and_eq_false_iff, Bool.not_eq_true', Bool.not_eq_false', decide_eq_true_eq, decide_eq_false_iff_not, Bool.not_not, ne_eq] at h_15
    refine runE_leaf (xs := [0, 0, 0, 0, 0, 0, 0, 1]) (by kernel_rfl) ?_
    exact rnZ1 (by omega) (by unfold HP; omega) (by unfold VP; omega) (by unfold FP; omega)
  simp only [Bool.or_eq_true, Bool.and_eq_true, Bool.or_eq_false_iff, Bool.and_eq_false_iff, Bool.not_eq_true', Bool.not_eq_false', decide_eq_true_eq, decide_eq_false_iff_not, Bool.not_not, ne_eq] at h_15
  refine runE_ite (b' := !((decide ((-1000000) ≤ (k 13)) && decide ((k 13) ≤ 1000000)))) (by kernel_rfl) (fun h_16 => ?_) (fun h_16 => ?_)
  · simp only [Bool.or_eq_true, Bool.and_eq_true, Bool.or_eq_false_iff, Bool.and_eq_false_iff, Bool.not_eq_true', Bool.not_eq_false', decide_eq_true_eq, decide_eq_false_iff_not, Bool.not_not, ne_eq] at h_16
    refine runE_leaf (xs := [0, 0, 0, 0, 0, 0, 0, 1]) (by kernel_rfl) ?_
    exact rnZ1 (by omega) (by unfold HP; omega) (by unfold VP; omega) (by unfold FP; omega)
  simp only [Bool.or_eq_true, Bool.and_eq_true, Bool.or_eq_false_iff, Bool.and_eq_false_iff, Bool.not_eq_true', Bool.not_eq_false', decide_eq_true_eq, decide_eq_false_iff_not, Bool.not_not, ne_eq] at h_16
  refine Eq.trans ?_ (rnZ0 (by omega) ⟨hok, by unfold HP; omega⟩ (by unfold VP; omega) (by unfold FP; omega)).symm
  refine runE_loop (xs := P_rrung l c k ++ [0, (k 4), (k 5), (k 6), (k 7), (k 8), (k 9), (k 10)]) (by kernel_rfl) ?_
  exact loop_rrung hg hl k H0 H1 H2 H3 H4 H5 H6 H8 hok (by unfold HP; omega) (by unfold FP; omega) _ _ _ _ _ _ _ _ _ (by omega) (by unfold VP; omega)
end
end Go.Proofs.Ytnnnmdmniceenaa
