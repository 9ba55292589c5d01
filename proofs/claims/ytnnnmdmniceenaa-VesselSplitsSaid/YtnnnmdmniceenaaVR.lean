/- Chapter 23: running, in plain integers. -/
import Derived.Test.YtnnnmdmniceenaaVD
import Derived.Test.YtnnnmdmniceenaaVL
set_option linter.unusedSimpArgs false
set_option linter.unusedVariables false
set_option maxRecDepth 100000
namespace Go.Proofs.Ytnnnmdmniceenaa
open Go.RowKit Ev
theorem getD_lt {ρ s : List Int} {j : Nat} (h : j < ρ.length) : (ρ ++ s).getD j 0 = ρ.getD j 0 := by
  simp only [List.getD_eq_getElem?_getD]
  rw [List.getElem?_append_left h]
def t_runB : T (List E) :=
(.ite (.lt (.v 126) (.v 16))
(.call 13 [(.sub (.mul (.lit 10000) (.v 13)) (.mul (.v 4) (.v 131))), (.v 2)] 1
(.call 13 [(.sub (.mul (.lit 10000) (.v 14)) (.mul (.v 4) (.v 132))), (.v 2)] 1
(.call 13 [(.sub (.mul (.lit 10000) (.v 15)) (.mul (.v 5) (.v 133))), (.v 3)] 1
(.call 15 [(.add (.v 130) (.add (.v 133) (.v 136))), (.lit 360000)] 1
(.call 16 [(.quo (.v 137) (.lit 100)), (.lit 3600)] 1
(.call 17 [(.v 138)] 1
(.call 18 [(.v 138)] 1
(.call 14 [(.sub (.mul (.add (.v 131) (.v 134)) (.v 140)) (.mul (.add (.v 132) (.v 135)) (.v 139))), (.lit 10000)] 1
(.call 14 [(.add (.mul (.add (.v 131) (.v 134)) (.v 139)) (.mul (.add (.v 132) (.v 135)) (.v 140))), (.lit 10000)] 1
(.ite (.le (.add (.v 127) (.lit 1)) (.lit 2147483648))
(.ite (.or (.lt (.add (.v 128) (.v 141)) (.lit (-10000000000))) (.lt (.lit 10000000000) (.add (.v 128) (.v 141))))
(.leaf [(.lit 0), (.lit 0), (.lit 0), (.lit 0), (.lit 0), (.lit 0), (.lit 0), (.lit 2)])
(.ite (.or (.lt (.add (.v 129) (.v 142)) (.lit (-10000000000))) (.lt (.lit 10000000000) (.add (.v 129) (.v 142))))
(.leaf [(.lit 0), (.lit 0), (.lit 0), (.lit 0), (.lit 0), (.lit 0), (.lit 0), (.lit 2)])
(.ite (.or (.lt (.add (.v 131) (.v 134)) (.lit (-100000))) (.lt (.lit 100000) (.add (.v 131) (.v 134))))
(.leaf [(.lit 0), (.lit 0), (.lit 0), (.lit 0), (.lit 0), (.lit 0), (.lit 0), (.lit 2)])
(.ite (.or (.lt (.add (.v 132) (.v 135)) (.lit (-100000))) (.lt (.lit 100000) (.add (.v 132) (.v 135))))
(.leaf [(.lit 0), (.lit 0), (.lit 0), (.lit 0), (.lit 0), (.lit 0), (.lit 0), (.lit 2)])
(.ite (.or (.lt (.add (.v 133) (.v 136)) (.lit (-10000))) (.lt (.lit 10000) (.add (.v 133) (.v 136))))
(.leaf [(.lit 0), (.lit 0), (.lit 0), (.lit 0), (.lit 0), (.lit 0), (.lit 0), (.lit 2)])
(.again 230 126 [(.add (.v 126) (.lit 1)), (.add (.v 127) (.lit 1)), (.add (.v 128) (.v 141)), (.add (.v 129) (.v 142)), (.v 137), (.add (.v 131) (.v 134)), (.add (.v 132) (.v 135)), (.add (.v 133) (.v 136))]))))))
(.leaf [(.lit 0), (.lit 0), (.lit 0), (.lit 0), (.lit 0), (.lit 0), (.lit 0), (.lit 2)])))))))))))
(.leaf [(.v 127), (.v 128), (.v 129), (.v 130), (.v 131), (.v 132), (.v 133), (.lit 0)]))
theorem t_run9_lps : t_run9.lps = [(230, t_runB)] := by rfl
section
variable (F : Nat → List Int → List Int) (M I D S a b e : Int)
def nS (M D a s : Int) : Int := s + (F 13 [10000 * a - D * s, M]).getD 0 0
def nC (C tu : Int) : Int := (F 15 [C + nS F I S e tu, 360000]).getD 0 0
def hG (C : Int) : Int := (F 16 [C.tdiv 100, 3600]).getD 0 0
def nX (X C su sw : Int) : Int := X + (F 14 [su * (F 18 [hG F C]).getD 0 0 - sw * (F 17 [hG F C]).getD 0 0, 10000]).getD 0 0
def nY (Y C su sw : Int) : Int := Y + (F 14 [su * (F 17 [hG F C]).getD 0 0 + sw * (F 18 [hG F C]).getD 0 0, 10000]).getD 0 0
def errR : List Int := [0, 0, 0, 0, 0, 0, 0, 2]
/-- So many ticks. -/
def itR : Nat → Int → Int → Int → Int → Int → Int → Int → List Int
  | 0, T, X, Y, C, su, sw, tu => [T, X, Y, C, su, sw, tu, 0]
  | n + 1, T, X, Y, C, su, sw, tu =>
    if decide (T + 1 ≤ 2147483648) = true then
      if (decide (nX F X (nC F I S e C tu) (nS F M D a su) (nS F M D b sw) < -10000000000) || decide (10000000000 < nX F X (nC F I S e C tu) (nS F M D a su) (nS F M D b sw))) = true then errR else
      if (decide (nY F Y (nC F I S e C tu) (nS F M D a su) (nS F M D b sw) < -10000000000) || decide (10000000000 < nY F Y (nC F I S e C tu) (nS F M D a su) (nS F M D b sw))) = true then errR else
      if (decide (nS F M D a su < -100000) || decide (100000 < nS F M D a su)) = true then errR else
      if (decide (nS F M D b sw < -100000) || decide (100000 < nS F M D b sw)) = true then errR else
      if (decide (nS F I S e tu < -10000) || decide (10000 < nS F I S e tu)) = true then errR else
      itR n (T + 1) (nX F X (nC F I S e C tu) (nS F M D a su) (nS F M D b sw)) (nY F Y (nC F I S e C tu) (nS F M D a su) (nS F M D b sw)) (nC F I S e C tu) (nS F M D a su) (nS F M D b sw) (nS F I S e tu)
    else errR
variable {F M I D S a b e}
theorem itR_form : ∀ (n : Nat) (T X Y C su sw tu : Int), (∃ t x y c u w v : Int, itR F M I D S a b e n T X Y C su sw tu = [t, x, y, c, u, w, v, 0] ∧ ∀ m, itR F M I D S a b e (n + m) T X Y C su sw tu = itR F M I D S a b e m t x y c u w v) ∨ (itR F M I D S a b e n T X Y C su sw tu = errR ∧ ∀ m, itR F M I D S a b e (n + m) T X Y C su sw tu = errR)
  | 0, T, X, Y, C, su, sw, tu => .inl ⟨T, X, Y, C, su, sw, tu, rfl, fun m => by rw [Nat.zero_add]⟩
  | n + 1, T, X, Y, C, su, sw, tu => by
    have hs : ∀ m, n + 1 + m = (n + m) + 1 := fun m => by omega
    simp only [hs, itR]
    split
    · split
      · exact .inr ⟨rfl, fun _ => rfl⟩
      · split
        · exact .inr ⟨rfl, fun _ => rfl⟩
        · split
          · exact .inr ⟨rfl, fun _ => rfl⟩
          · split
            · exact .inr ⟨rfl, fun _ => rfl⟩
            · split
              · exact .inr ⟨rfl, fun _ => rfl⟩
              · exact itR_form n _ _ _ _ _ _ _
    · exact .inr ⟨rfl, fun _ => rfl⟩
theorem itR_list (n : Nat) (T X Y C su sw tu : Int) : ∃ t x y c u w v k : Int, itR F M I D S a b e n T X Y C su sw tu = [t, x, y, c, u, w, v, k] := by
  rcases itR_form (F := F) (M := M) (I := I) (D := D) (S := S) (a := a) (b := b) (e := e) n T X Y C su sw tu with ⟨t, x, y, c, u, w, v, h, _⟩ | ⟨h, _⟩
  · exact ⟨t, x, y, c, u, w, v, 0, h⟩
  · exact ⟨0, 0, 0, 0, 0, 0, 0, 2, h⟩
end
theorem body_run {F : Nat → List Int → List Int} {P : List Int} (hP : P.length = 126) (i T X Y C su sw tu : Int) : Ev.runT F (P ++ [i, T, X, Y, C, su, sw, tu]) t_runB =
    if decide (i < P.getD 16 0) = true then
    (if decide (T + 1 ≤ 2147483648) = true then
      if (decide (nX F X (nC F (P.getD 3 0) (P.getD 5 0) (P.getD 15 0) C tu) (nS F (P.getD 2 0) (P.getD 4 0) (P.getD 13 0) su) (nS F (P.getD 2 0) (P.getD 4 0) (P.getD 14 0) sw) < -10000000000) || decide (10000000000 < nX F X (nC F (P.getD 3 0) (P.getD 5 0) (P.getD 15 0) C tu) (nS F (P.getD 2 0) (P.getD 4 0) (P.getD 13 0) su) (nS F (P.getD 2 0) (P.getD 4 0) (P.getD 14 0) sw))) = true then errR else
      if (decide (nY F Y (nC F (P.getD 3 0) (P.getD 5 0) (P.getD 15 0) C tu) (nS F (P.getD 2 0) (P.getD 4 0) (P.getD 13 0) su) (nS F (P.getD 2 0) (P.getD 4 0) (P.getD 14 0) sw) < -10000000000) || decide (10000000000 < nY F Y (nC F (P.getD 3 0) (P.getD 5 0) (P.getD 15 0) C tu) (nS F (P.getD 2 0) (P.getD 4 0) (P.getD 13 0) su) (nS F (P.getD 2 0) (P.getD 4 0) (P.getD 14 0) sw))) = true then errR else
      if (decide (nS F (P.getD 2 0) (P.getD 4 0) (P.getD 13 0) su < -100000) || decide (100000 < nS F (P.getD 2 0) (P.getD 4 0) (P.getD 13 0) su)) = true then errR else
      if (decide (nS F (P.getD 2 0) (P.getD 4 0) (P.getD 14 0) sw < -100000) || decide (100000 < nS F (P.getD 2 0) (P.getD 4 0) (P.getD 14 0) sw)) = true then errR else
      if (decide (nS F (P.getD 3 0) (P.getD 5 0) (P.getD 15 0) tu < -10000) || decide (10000 < nS F (P.getD 3 0) (P.getD 5 0) (P.getD 15 0) tu)) = true then errR else
      F 2230 (P ++ [i + 1, T + 1, nX F X (nC F (P.getD 3 0) (P.getD 5 0) (P.getD 15 0) C tu) (nS F (P.getD 2 0) (P.getD 4 0) (P.getD 13 0) su) (nS F (P.getD 2 0) (P.getD 4 0) (P.getD 14 0) sw), nY F Y (nC F (P.getD 3 0) (P.getD 5 0) (P.getD 15 0) C tu) (nS F (P.getD 2 0) (P.getD 4 0) (P.getD 13 0) su) (nS F (P.getD 2 0) (P.getD 4 0) (P.getD 14 0) sw), nC F (P.getD 3 0) (P.getD 5 0) (P.getD 15 0) C tu, nS F (P.getD 2 0) (P.getD 4 0) (P.getD 13 0) su, nS F (P.getD 2 0) (P.getD 4 0) (P.getD 14 0) sw, nS F (P.getD 3 0) (P.getD 5 0) (P.getD 15 0) tu])
    else errR) else [T, X, Y, C, su, sw, tu, 0] := by
  have tk : ∀ s : List Int, (P ++ s).take 126 = P := fun s => by rw [← hP, List.take_left]
  have v126 : ∀ s : List Int, (P ++ s).getD 126 0 = s.getD 0 0 := getD_at hP 0
  have v127 : ∀ s : List Int, (P ++ s).getD 127 0 = s.getD 1 0 := getD_at hP 1
  have v128 : ∀ s : List Int, (P ++ s).getD 128 0 = s.getD 2 0 := getD_at hP 2
  have v129 : ∀ s : List Int, (P ++ s).getD 129 0 = s.getD 3 0 := getD_at hP 3
  have v130 : ∀ s : List Int, (P ++ s).getD 130 0 = s.getD 4 0 := getD_at hP 4
  have v131 : ∀ s : List Int, (P ++ s).getD 131 0 = s.getD 5 0 := getD_at hP 5
  have v132 : ∀ s : List Int, (P ++ s).getD 132 0 = s.getD 6 0 := getD_at hP 6
  have v133 : ∀ s : List Int, (P ++ s).getD 133 0 = s.getD 7 0 := getD_at hP 7
  have v134 : ∀ s : List Int, (P ++ s).getD 134 0 = s.getD 8 0 := getD_at hP 8
  have v135 : ∀ s : List Int, (P ++ s).getD 135 0 = s.getD 9 0 := getD_at hP 9
  have v136 : ∀ s : List Int, (P ++ s).getD 136 0 = s.getD 10 0 := getD_at hP 10
  have v137 : ∀ s : List Int, (P ++ s).getD 137 0 = s.getD 11 0 := getD_at hP 11
  have v138 : ∀ s : List Int, (P ++ s).getD 138 0 = s.getD 12 0 := getD_at hP 12
  have v139 : ∀ s : List Int, (P ++ s).getD 139 0 = s.getD 13 0 := getD_at hP 13
  have v140 : ∀ s : List Int, (P ++ s).getD 140 0 = s.getD 14 0 := getD_at hP 14
  have v141 : ∀ s : List Int, (P ++ s).getD 141 0 = s.getD 15 0 := getD_at hP 15
  have v142 : ∀ s : List Int, (P ++ s).getD 142 0 = s.getD 16 0 := getD_at hP 16
  have u2 : ∀ s : List Int, (P ++ s).getD 2 0 = P.getD 2 0 := fun s => getD_lt (by omega)
  have u3 : ∀ s : List Int, (P ++ s).getD 3 0 = P.getD 3 0 := fun s => getD_lt (by omega)
  have u4 : ∀ s : List Int, (P ++ s).getD 4 0 = P.getD 4 0 := fun s => getD_lt (by omega)
  have u5 : ∀ s : List Int, (P ++ s).getD 5 0 = P.getD 5 0 := fun s => getD_lt (by omega)
  have u13 : ∀ s : List Int, (P ++ s).getD 13 0 = P.getD 13 0 := fun s => getD_lt (by omega)
  have u14 : ∀ s : List Int, (P ++ s).getD 14 0 = P.getD 14 0 := fun s => getD_lt (by omega)
  have u15 : ∀ s : List Int, (P ++ s).getD 15 0 = P.getD 15 0 := fun s => getD_lt (by omega)
  have u16 : ∀ s : List Int, (P ++ s).getD 16 0 = P.getD 16 0 := fun s => getD_lt (by omega)
  simp only [t_runB, Ev.runT, List.map_cons, List.map_nil, denB, den, List.append_assoc, List.cons_append, List.nil_append, fit1, tk, v126, v127, v128, v129, v130, v131, v132, v133, v134, v135, v136, v137, v138, v139, v140, v141, v142, u2, u3, u4, u5, u13, u14, u15, u16, List.getD_cons_zero, List.getD_cons_succ]
  rfl
section
variable {g : Nat → List Int → List Int} {l c : Int} {z : List Int}
theorem loop_run (hl : EnLp g z en23) {P : List Int} (hP : P.length = 126) : ∀ (n : Nat) (i T X Y C su sw tu : Int), P.getD 16 0 - i = n →
    rowF g z 2230 (P ++ [i, T, X, Y, C, su, sw, tu]) = itR (rowF g z) (P.getD 2 0) (P.getD 3 0) (P.getD 4 0) (P.getD 5 0) (P.getD 13 0) (P.getD 14 0) (P.getD 15 0) n T X Y C su sw tu := by
  have heq : ∀ ρ, rowF g z 2230 ρ = Ev.runT (rowF g z) ρ t_runB := fun ρ => hl.1 (230, t_runB) (by rw [t_run9_lps]; exact List.mem_cons_self ..) ρ
  intro n
  induction n with
  | zero =>
    intro i T X Y C su sw tu h
    rw [heq, body_run hP, if_neg (by rw [decide_eq_true_eq]; omega)]
    rfl
  | succ n ih =>
    intro i T X Y C su sw tu h
    rw [heq, body_run hP, if_pos (decide_eq_true (show i < P.getD 16 0 by omega)), ih _ _ _ _ _ _ _ _ (by omega)]
    rfl
theorem en23_22 (hg : EnOK g l c z en23) : EnOK g l c z en22 := hg.2
/-- What running gives. -/
theorem run9_it (hg : EnOK g l c z en23) (hl : EnLp g z en23) {xs : List Int} (hx : xs.length = 123) (hn : 0 ≤ xs.getD 14 0) :
    g 23 xs = itR (rowF g z) (xs.getD 0 0) (xs.getD 1 0) (xs.getD 2 0) (xs.getD 3 0) (xs.getD 11 0) (xs.getD 12 0) (xs.getD 13 0) (xs.getD 14 0).toNat (xs.getD 4 0) (xs.getD 5 0) (xs.getD 6 0) (xs.getD 7 0) (xs.getD 8 0) (xs.getD 9 0) (xs.getD 10 0) := by
  have h := hg.1 xs
  rw [show c_run9.key = 23 from rfl, rowF_lt (by decide)] at h
  rw [h]
  unfold t_run9
  simp only [Ev.runT, fit1]
  generalize (rowF g z 19 _).getD 0 0 = q
  have hP : ((l :: c :: xs) ++ [q]).length = 126 := by simp [hx]
  have lo : ∀ k, k < 123 → ((l :: c :: xs) ++ [q]).getD (k + 2) 0 = xs.getD k 0 := fun k hk => by
    rw [getD_lt (by simp; omega)]; rfl
  simp only [List.map_cons, List.map_nil, den]
  rw [show ((l :: c :: xs) ++ [q]).getD 6 0 = xs.getD 4 0 from lo 4 (by omega), show ((l :: c :: xs) ++ [q]).getD 7 0 = xs.getD 5 0 from lo 5 (by omega), show ((l :: c :: xs) ++ [q]).getD 8 0 = xs.getD 6 0 from lo 6 (by omega), show ((l :: c :: xs) ++ [q]).getD 9 0 = xs.getD 7 0 from lo 7 (by omega), show ((l :: c :: xs) ++ [q]).getD 10 0 = xs.getD 8 0 from lo 8 (by omega), show ((l :: c :: xs) ++ [q]).getD 11 0 = xs.getD 9 0 from lo 9 (by omega), show ((l :: c :: xs) ++ [q]).getD 12 0 = xs.getD 10 0 from lo 10 (by omega)]
  have h16 := lo 14 (by omega)
  refine (loop_run hl hP (xs.getD 14 0).toNat 0 _ _ _ _ _ _ _ (by rw [h16]; omega)).trans ?_
  rw [lo 0 (by omega), lo 1 (by omega), lo 2 (by omega), lo 3 (by omega), lo 11 (by omega), lo 12 (by omega), lo 13 (by omega)]
/-- Without speed and force nothing moves. -/
theorem itR_still (hg : EnOK g l c z en18) {M I D S X Y C : Int} (hM : 1 ≤ M ∧ M ≤ 1073741824) (hI : 1 ≤ I ∧ I ≤ 1073741824) (hX : -10000000000 ≤ X ∧ X ≤ 10000000000) (hY : -10000000000 ≤ Y ∧ Y ≤ 10000000000) (hC : 0 ≤ C ∧ C < 360000) : ∀ (n : Nat) (T : Int), T + n ≤ 2147483648 →
    itR (rowF g z) M I D S 0 0 0 n T X Y C 0 0 0 = [T + n, X, Y, C, 0, 0, 0, 0]
  | 0, T, h => by simp [itR]
  | n + 1, T, h => by
    have e0 : ∀ d M : Int, 1 ≤ M → M ≤ 1073741824 → nS (rowF g z) M d 0 0 = 0 := fun d M h1 h2 => by
      unfold nS
      rw [rowF_lt (by decide), show (10000 : Int) * 0 - d * 0 = 0 by omega, g13 hg h1 h2 (by omega), halfZ_zero (by omega)]
      rfl
    have eC : nC (rowF g z) I S 0 C 0 = C := by
      unfold nC
      rw [e0 S I hI.1 hI.2, rowF_lt (by decide), g15 hg (by omega)]
      show (C + 0) % 360000 = C
      omega
    have z1 : ∀ q r : Int, (0 : Int) * q - 0 * r = 0 := fun q r => by omega
    have z2 : ∀ q r : Int, (0 : Int) * q + 0 * r = 0 := fun q r => by omega
    have e14 : g 14 [0, 10000] = [0] := by rw [g14 hg (by omega) (by omega) (by omega), halfZ_zero (by omega)]
    have eX : nX (rowF g z) X C 0 0 = X := by
      unfold nX
      rw [z1, rowF_lt (show 14 < 900 by decide), e14]
      show X + 0 = X
      omega
    have eY : nY (rowF g z) Y C 0 0 = Y := by
      unfold nY
      rw [z2, rowF_lt (show 14 < 900 by decide), e14]
      show Y + 0 = Y
      omega
    simp only [itR, e0 D M hM.1 hM.2, e0 S I hI.1 hI.2, eC, eX, eY]
    rw [if_pos (decide_eq_true (by omega)), if_neg (by simp; omega), if_neg (by simp; omega), if_neg (by simp), if_neg (by simp), if_neg (by simp), itR_still hg hM hI hX hY hC n (T + 1) (by omega)]
    congr 1
    omega
end
end Go.Proofs.Ytnnnmdmniceenaa
