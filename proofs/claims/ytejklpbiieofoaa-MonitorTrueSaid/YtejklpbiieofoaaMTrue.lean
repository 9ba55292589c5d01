/- 'dynpos/dynposlaw07.MonitorTrue': the tree of its walk, and that each of its leaves is true. -/
import Derived.Test.YtejklpbiieofoaaEvQ
import Derived.Test.YtejklpbiieofoaaM07S
import Derived.Test.YtejklpbiieofoaaM07T
import Derived.Test.YtejklpbiieofoaaM07V
set_option linter.unusedSimpArgs false
set_option linter.unusedVariables false
namespace Go.Proofs.Ytejklpbiieofoaa.monitorTrue
open Go.RowKit Ev
def tab : List (FuncId × PC) := [(12, cStep), (16, cTick), (13, cSane)]
def SS : List Sh := []
def hints : FuncId → Nat → Option Hint := fun f u => if f = 3 then (match u with | 0 => some { id := 0, ps := [.tmp 9, .tmp 6, .tmp 7, .tmp 8, .cell 3 1, .cell 5 0, .cell 5 1, .cell 5 2, .cell 5 3, .cell 5 4, .cell 5 5, .cell 5 6, .cell 5 7, .cell 5 8, .cell 5 9, .cell 5 10], rg := [(0, 11), (-100000, 100000), (-100000, 100000), (0, 1000), (0, 600), (0, 2147483648), (-100000000, 100000000), (-100000000, 100000000), (0, 100000), (0, 2147483648), (-100000000, 100000000), (-100000000, 100000000), (0, 100000), (0, 1), (0, 2147483648), (0, 4)], me := .v 0 } | _ => none) else none
def tree1 : T Leaf :=
  (.ite (.or (.not (.eq (.v 51) (.lit 0))) (.not (.eq (.v 50) (.lit 1))))
   (.leaf ((.bool (.lit false)), [], []))
   (.asr (.le (.lit (-100000)) (.add (.v 13) (.add (.mul (.sub (.lit 0) (.sw (.v 4) 0 (.lit 0) (.sw (.v 4) 1 (.lit 10) (.lit 100)))) (.add (.lit 1) (.v 28))) (.v 30))))
   (.asr (.le (.add (.v 13) (.add (.mul (.sub (.lit 0) (.sw (.v 4) 0 (.lit 0) (.sw (.v 4) 1 (.lit 10) (.lit 100)))) (.add (.lit 1) (.v 28))) (.v 30))) (.lit 100000))
   (.asr (.le (.lit (-100000)) (.add (.v 14) (.add (.mul (.sub (.lit 0) (.sw (.v 4) 0 (.lit 0) (.sw (.v 4) 1 (.lit 10) (.lit 100)))) (.add (.lit 1) (.v 28))) (.v 32))))
   (.asr (.le (.add (.v 14) (.add (.mul (.sub (.lit 0) (.sw (.v 4) 0 (.lit 0) (.sw (.v 4) 1 (.lit 10) (.lit 100)))) (.add (.lit 1) (.v 28))) (.v 32))) (.lit 100000))
   (.asr (.le (.add (.v 15) (.add (.lit 1) (.v 28))) (.lit 1000))
   (.asr (.le (.v 49) (.lit 2147483648))
   (.again 0 12 [(.sub (.v 12) (.lit 1)), (.add (.v 13) (.add (.mul (.sub (.lit 0) (.sw (.v 4) 0 (.lit 0) (.sw (.v 4) 1 (.lit 10) (.lit 100)))) (.add (.lit 1) (.v 28))) (.v 30))), (.add (.v 14) (.add (.mul (.sub (.lit 0) (.sw (.v 4) 0 (.lit 0) (.sw (.v 4) 1 (.lit 10) (.lit 100)))) (.add (.lit 1) (.v 28))) (.v 32))), (.add (.v 15) (.add (.lit 1) (.v 28))), (.v 39), (.v 40), (.v 41), (.v 42), (.v 43), (.v 44), (.v 45), (.v 46), (.v 47), (.v 48), (.v 49), (.v 50)])
   )
   )
   )
   )
   )
   )
  )
  
def tree2 : T Leaf :=
 (.ite (.lt (.lit 0) (.v 12))
  (.call 900 [(.lit 4), (.mn (.v 0) (.lit 600)), (.v 16)] 2
  (.call 900 [(.add (.sub (.mul (.sw (.v 4) 0 (.lit 0) (.sw (.v 4) 1 (.lit 10) (.lit 100))) (.add (.lit 1) (.v 28))) (.mul (.sub (.lit 0) (.sw (.v 4) 0 (.lit 0) (.sw (.v 4) 1 (.lit 10) (.lit 100)))) (.add (.lit 1) (.v 28)))) (.lit 1)), (.mn (.v 0) (.lit 600)), (.v 29)] 2
  (.call 900 [(.add (.sub (.mul (.sw (.v 4) 0 (.lit 0) (.sw (.v 4) 1 (.lit 10) (.lit 100))) (.add (.lit 1) (.v 28))) (.mul (.sub (.lit 0) (.sw (.v 4) 0 (.lit 0) (.sw (.v 4) 1 (.lit 10) (.lit 100)))) (.add (.lit 1) (.v 28)))) (.lit 1)), (.mn (.v 0) (.lit 600)), (.v 31)] 2
  (.call 900 [(.lit 3), (.mn (.v 0) (.lit 600)), (.v 33)] 2
  (.call 900 [(.add (.sub (.sw (.v 34) 0 (.lit 1) (.sw (.v 34) 1 (.lit 10) (.lit 200))) (.sub (.lit 0) (.sw (.v 34) 0 (.lit 1) (.sw (.v 34) 1 (.lit 10) (.lit 200))))) (.lit 1)), (.mn (.v 0) (.lit 600)), (.v 35)] 2
  (.call 900 [(.add (.sub (.sw (.v 34) 0 (.lit 1) (.sw (.v 34) 1 (.lit 10) (.lit 200))) (.sub (.lit 0) (.sw (.v 34) 0 (.lit 1) (.sw (.v 34) 1 (.lit 10) (.lit 200))))) (.lit 1)), (.mn (.v 0) (.lit 600)), (.v 37)] 2
  (.call 30 [(.v 2), (.sw (.v 4) 0 (.lit 0) (.sw (.v 4) 1 (.lit 10) (.lit 100))), (.sw (.v 6) 0 (.lit 1) (.sw (.v 6) 1 (.lit 3) (.lit 10))), (.lit 0), (.v 17), (.v 18), (.v 19), (.v 20), (.v 21), (.v 22), (.v 23), (.v 24), (.v 25), (.v 26), (.v 27), (.add (.v 15) (.add (.lit 1) (.v 28))), (.add (.add (.v 13) (.add (.mul (.sub (.lit 0) (.sw (.v 4) 0 (.lit 0) (.sw (.v 4) 1 (.lit 10) (.lit 100)))) (.add (.lit 1) (.v 28))) (.v 30))) (.add (.sub (.lit 0) (.sw (.v 34) 0 (.lit 1) (.sw (.v 34) 1 (.lit 10) (.lit 200)))) (.v 36))), (.add (.add (.v 14) (.add (.mul (.sub (.lit 0) (.sw (.v 4) 0 (.lit 0) (.sw (.v 4) 1 (.lit 10) (.lit 100)))) (.add (.lit 1) (.v 28))) (.v 32))) (.add (.sub (.lit 0) (.sw (.v 34) 0 (.lit 1) (.sw (.v 34) 1 (.lit 10) (.lit 200)))) (.v 38))), (.sw (.v 34) 0 (.lit 1) (.sw (.v 34) 1 (.lit 10) (.lit 200)))] 12
tree1)
  )
  )
  )
  )
  )
  )
  (.call 7 [] 1
  (.leaf ((.bool (.lit true)), [], []))
  )
 )

def tree : T Leaf :=
(.call 900 [(.lit 4), (.mn (.v 0) (.lit 600)), (.lit 0)] 2
(.call 900 [(.lit 3), (.mn (.v 0) (.lit 600)), (.v 3)] 2
(.call 900 [(.lit 3), (.mn (.v 0) (.lit 600)), (.v 5)] 2
(.call 900 [(.lit 4), (.mn (.v 0) (.lit 600)), (.v 7)] 2
(.call 900 [(.lit 12), (.mn (.v 0) (.lit 600)), (.v 9)] 2
(.loop 0 [(.v 10), (.lit 0), (.lit 0), (.lit 0), (.v 11), (.lit 0), (.lit 0), (.lit 0), (.lit 0), (.lit 0), (.lit 0), (.lit 0), (.lit 0), (.lit 0), (.lit 0), (.lit 0)] [(0, 11), ((-100000), 100000), ((-100000), 100000), (0, 1000), (0, 600), (0, 2147483648), ((-100000000), 100000000), ((-100000000), 100000000), (0, 100000), (0, 2147483648), ((-100000000), 100000000), ((-100000000), 100000000), (0, 100000), (0, 1), (0, 2147483648), (0, 4)]
tree2)
)
)
)
)
)
theorem tree_eq : (evFn Try.prog (rowCtx tab hints) 60 12 3 (.sls 0 (.v 0) (.v 1) :: shsS SS 2) [] (rowFx (rngE 2 (ksRg (shsKs SS)))) (shsW SS + 2)).strip = tree := by kernel_rfl
def JJ : Nat → List Int → List Int → Prop := fun _ ρ xs => (0 ≤ xs.getD 3 0 ∧ xs.getD 3 0 + 4 * xs.getD 0 0 ≤ 44) ∧ (-(100 * xs.getD 3 0) ≤ xs.getD 1 0 ∧ xs.getD 1 0 ≤ 100 * xs.getD 3 0) ∧ (-(100 * xs.getD 3 0) ≤ xs.getD 2 0 ∧ xs.getD 2 0 ≤ 100 * xs.getD 3 0) ∧ (xs.getD 13 0 = 0 ∨ (xs.getD 5 0 = xs.getD 3 0 ∧ xs.getD 9 0 = xs.getD 3 0 ∧ xs.getD 6 0 = xs.getD 10 0 ∧ xs.getD 7 0 = xs.getD 11 0 ∧ xs.getD 8 0 = xs.getD 12 0 ∧ (-xs.getD 12 0 ≤ xs.getD 10 0 - xs.getD 1 0 ∧ xs.getD 10 0 - xs.getD 1 0 ≤ xs.getD 12 0) ∧ (-xs.getD 12 0 ≤ xs.getD 11 0 - xs.getD 2 0 ∧ xs.getD 11 0 - xs.getD 2 0 ≤ xs.getD 12 0) ∧ (1 ≤ xs.getD 12 0 ∧ xs.getD 12 0 ≤ 200) ∧ (1 ≤ xs.getD 14 0 ∧ xs.getD 14 0 + xs.getD 0 0 ≤ 12)))

set_option maxRecDepth 100000 in
set_option maxHeartbeats 4000000 in
theorem plain (l c : Int) (hr : KsOK (shsKs SS) []) : T.okJ JJ m07F LTrue [l, c] tree := by
  simp [tree, T.okJ, LTrue, denB, den, m07F, gSane, fit1]
  intro v0 q0 _ _ v1 q1 _ _ v2 q2 _ _ v3 q3 _ _ k0 q4 hk0 hk0'
  refine ⟨by simp [JJ]; omega, ?_⟩
  intro xs hl hR hJ
  match xs, hl with
  | [k, x, y, time, at_, lt, lx, ly, le, gt, gx, gy, ge, se, sm, sta], _ =>
  simp [JJ] at hJ
  simp [RngOK] at hR
  obtain ⟨r_k, r_x, r_y, r_t, r_at, r_lt, r_lx, r_ly, r_le, r_gt, r_gx, r_gy, r_ge, r_se, r_sm, r_sta⟩ := hR
  obtain ⟨j1, j2, j3, j4⟩ := hJ
  simp [tree2, T.okJ, LTrue, denB, den, m07F, gSane, fit1]
  have hs : 0 ≤ (if v1 = 0 then (0 : Int) else if v1 = 1 then 10 else 100) ∧ (if v1 = 0 then (0 : Int) else if v1 = 1 then 10 else 100) ≤ 100 := by (repeat' split) <;> omega
  have hst : 1 ≤ (if v2 = 0 then (1 : Int) else if v2 = 1 then 3 else 10) ∧ (if v2 = 0 then (1 : Int) else if v2 = 1 then 3 else 10) ≤ 10 := by (repeat' split) <;> omega
  generalize hqs : (if v1 = 0 then (0 : Int) else if v1 = 1 then 10 else 100) = s at *
  generalize hqt : (if v2 = 0 then (1 : Int) else if v2 = 1 then 3 else 10) = st at *
  intro hk1 d q5 hd hd' dx q6 hdx hdx' hdx2 dy q7 hdy hdy' hdy2 ve q8 hv hv' ex q9 hex hex' hex2 ey q10 hey hey' hey2
  have he : 1 ≤ (if ve = 0 then (1 : Int) else if ve = 1 then 10 else 200) ∧ (if ve = 0 then (1 : Int) else if ve = 1 then 10 else 200) ≤ 200 := by (repeat' split) <;> omega
  generalize hqe : (if ve = 0 then (1 : Int) else if ve = 1 then 10 else 200) = e at *
  have hp0 : 0 ≤ s * (1 + d) := Int.mul_nonneg hs.1 (by omega)
  have hp1 : s * (1 + d) ≤ 100 * (1 + d) := Int.mul_le_mul_of_nonneg_right hs.2 (by omega)
  simp only [Int.neg_mul] at hdx' hdy' ⊢
  generalize hG : gStep _ = G
  generalize hP : s * (1 + d) = p at *
  replace hdx' : dx ≤ p + p := by have := hdx' (by omega); omega
  replace hdy' : dy ≤ p + p := by have := hdy' (by omega); omega
  replace hex' : ex ≤ e + e := by have := hex' (by omega); omega
  replace hey' : ey ≤ e + e := by have := hey' (by omega); omega
  clear hdx2 hdy2 hex2 hey2 r_at r_lx r_ly r_le r_gx r_gy r_ge r_sta r_lt r_gt
  have key : ∃ q, G = [time + (1 + d), x + (-p + dx) + (-e + ex), y + (-p + dy) + (-e + ey), e, time + (1 + d), x + (-p + dx) + (-e + ex), y + (-p + dy) + (-e + ey), e, 1, q, 1, 0] ∧ 1 ≤ q ∧ q + k ≤ 13 := by
    have hc := step_cases v0 s st 0 lt lx ly le gt gx gy ge se sm sta (time + (1 + d)) (x + (-p + dx) + (-e + ex)) (y + (-p + dy) + (-e + ey)) e
    have hq := same_cases lx ly sm (x + (-p + dx) + (-e + ex)) (y + (-p + dy) + (-e + ey))
    have hG' : G = stepS v0 s st 0 lt lx ly le gt gx gy ge se sm sta (time + (1 + d)) (x + (-p + dx) + (-e + ex)) (y + (-p + dy) + (-e + ey)) e := hG.symm
    rw [← hG'] at hc
    clear hG hG' hr
    generalize sameS lx ly sm (x + (-p + dx) + (-e + ex)) (y + (-p + dy) + (-e + ey)) = q at *
    by_cases h0 : se = 0
    · rcases hc with ⟨h1, _⟩ | ⟨h1, ⟨h2, e1⟩ | ⟨h2, h3, e1⟩ | ⟨h2, h3, h4, e1⟩ | ⟨h2, h3, h4, h5, h6, e1⟩ | ⟨h2, h3, h4, h5, e1⟩⟩
      · exfalso; omega
      · exact ⟨1, e1, by omega, by omega⟩
      all_goals exact absurd h0 h2
    · have hj := j4.resolve_left h0
      obtain ⟨i1, i2, i3, i4, i5, i6, i7, i8, i9, i10⟩ := hj
      have e2 : time + (1 + d) - gt = 1 + d := by omega
      rw [e2, hP] at hc
      clear j4 e2 hP
      rcases hc with ⟨h1, _⟩ | ⟨h1, ⟨h2, e1⟩ | ⟨h2, h3, e1⟩ | ⟨h2, h3, h4, e1⟩ | ⟨h2, h3, h4, h5, h6, e1⟩ | ⟨h2, h3, h4, h5, e1⟩⟩
      · exfalso; clear hq; omega
      · exact absurd h2 h0
      · exfalso; clear hq h1; omega
      · exfalso
        clear hq h1 e1
        simp only [lt_max'] at h4
        rcases h4 with (h4 | h4) | h4 | h4 <;> omega
      · exfalso; clear h4 e1 h1 hq; omega
      · clear h4 h1; exact ⟨q, e1, by omega, by omega⟩
  obtain ⟨q, hG', b1, b2⟩ := key
  clear hG
  subst hG'
  simp only [fit12]
  simp [tree1, T.okJ, LTrue, denB, den, m07F, gSane, fit1, hqs, hqt, hqe, JJ]
  simp only [Int.neg_mul, hP]
  clear hqs hqt hqe
  repeat' apply And.intro
  all_goals omega
theorem walk (a0 : Option Addr) (len0 cap0 : Nat) (z0 : List Int) (w : World) (w0 : IsRow .i64 w a0 len0 cap0 z0) (r : List Int) (hr : KsOK (shsKs SS) r) :
    Calls Try.prog 3 (.slice a0 len0 cap0 :: shsV SS r).toArray w fun e w' => e = .returned (.bool true) ∧ Below w.heap.size w w' := by
  match r, hr.length, hr with
  | [], _, hr => exact row_lawSS w0 (g := m07F) (l := tab) ⟨step_ok, tick_ok, sane07_ok, trivial⟩ (by kernel_rfl) tree_eq (plain _ _ hr) hr
end Go.Proofs.Ytejklpbiieofoaa.monitorTrue
