/- VesselExact: the twin functions are the same. -/
import Derived.Test.YtnnnmdmniceenaaVEL
import Derived.Test.YtnnnmdmniceenaaEvTw
set_option linter.unusedSimpArgs false
set_option linter.unusedVariables false
set_option maxRecDepth 100000
namespace Go.Proofs.Ytnnnmdmniceenaa
open Go.RowKit Ev
section
variable {F : Nat → List Int → List Int} {Q : List Int → Prop} {ρ xs R : List Int} {k m : Nat} {es : List E} {t e : T (List E)} {b : B}
theorem runQ_call (hx : es.map (den ρ) = xs) (he : F k xs = R) (hm : R.length = m) (h : Q (Ev.runT F (ρ ++ R) t)) : Q (Ev.runT F ρ (.call k es m t)) := by
  show Q (Ev.runT F (ρ ++ fit m (F k (es.map (den ρ)))) t)
  rw [hx, he, fit_len hm]; exact h
theorem runQ_ite {b' : Bool} (hb : denB ρ b = b') (h1 : b' = true → Q (Ev.runT F ρ t)) (h2 : b' = false → Q (Ev.runT F ρ e)) : Q (Ev.runT F ρ (.ite b t e)) := by
  show Q (if denB ρ b = true then Ev.runT F ρ t else Ev.runT F ρ e)
  rw [hb]
  cases b' with
  | true => exact h1 rfl
  | false => exact h2 rfl
theorem runQ_leaf (hx : es.map (den ρ) = xs) (h : Q xs) : Q (Ev.runT F ρ (.leaf es)) := by
  show Q (es.map (den ρ))
  rw [hx]; exact h
end
def HP (M I D S : Int) : Prop := (1 ≤ M ∧ M ≤ 1000000) ∧ (1 ≤ I ∧ I ≤ 1073741824) ∧ (0 ≤ D ∧ D ≤ M) ∧ 0 ≤ S ∧ S ≤ I
def VP (T X Y C u w t : Int) : Prop := (0 ≤ T ∧ T ≤ 2147483648) ∧ (-10000000000 ≤ X ∧ X ≤ 10000000000) ∧ (-10000000000 ≤ Y ∧ Y ≤ 10000000000) ∧ (0 ≤ C ∧ C < 360000) ∧ (-100000 ≤ u ∧ u ≤ 100000) ∧ (-100000 ≤ w ∧ w ≤ 100000) ∧ (-10000 ≤ t ∧ t ≤ 10000)
def FP (a b e : Int) : Prop := (-1000000 ≤ a ∧ a ≤ 1000000) ∧ (-1000000 ≤ b ∧ b ≤ 1000000) ∧ (-1000000 ≤ e ∧ e ≤ 1000000)
open Classical in
/-- A motion behind a tick, if it is valid. -/
noncomputable def mvR (T X Y C u w t : Int) : List Int := if VP T X Y C u w t then [T, X, Y, C, u, w, t, 0] else [0, 0, 0, 0, 0, 0, 0, 2]
def dX (u w h : Int) : Int := halfZ (u * sinN (h + 900) - w * sinN h) 10000
def dY (u w h : Int) : Int := halfZ (u * sinN h + w * sinN (h + 900)) 10000
section
variable (M I D S a b e : Int)
def cN (C t : Int) : Int := (C + nsZ t S e I) % 360000
def hN (C t : Int) : Int := (cN I S e C t).tdiv 100 % 3600
def xN (X C u w t : Int) : Int := X + dX (nsZ u D a M) (nsZ w D b M) (hN I S e C t)
def yN (Y C u w t : Int) : Int := Y + dY (nsZ u D a M) (nsZ w D b M) (hN I S e C t)
noncomputable def mvZ (T X Y C u w t : Int) : List Int := mvR (T + 1) (xN M I D S a b e X C u w t) (yN M I D S a b e Y C u w t) (cN I S e C t) (nsZ u D a M) (nsZ w D b M) (nsZ t S e I)
open Classical in
noncomputable def stZ (ok : Prop) (T X Y C u w t : Int) : List Int := if ok ∧ HP M I D S then (if VP T X Y C u w t then (if FP a b e then mvZ M I D S a b e T X Y C u w t else [0, 0, 0, 0, 0, 0, 0, 1]) else [0, 0, 0, 0, 0, 0, 0, 61]) else [0, 0, 0, 0, 0, 0, 0, 60]
/-- So many ticks. -/
noncomputable def itZ : Nat → Int → Int → Int → Int → Int → Int → Int → List Int
  | 0, T, X, Y, C, u, w, t => [T, X, Y, C, u, w, t, 0]
  | n + 1, T, X, Y, C, u, w, t => open Classical in if VP (T + 1) (xN M I D S a b e X C u w t) (yN M I D S a b e Y C u w t) (cN I S e C t) (nsZ u D a M) (nsZ w D b M) (nsZ t S e I) then itZ n (T + 1) (xN M I D S a b e X C u w t) (yN M I D S a b e Y C u w t) (cN I S e C t) (nsZ u D a M) (nsZ w D b M) (nsZ t S e I) else [0, 0, 0, 0, 0, 0, 0, 2]
open Classical in
noncomputable def rnZ (ok : Prop) (k T X Y C u w t : Int) : List Int := if 0 ≤ k ∧ k ≤ 400 then (if ok ∧ HP M I D S then (if VP T X Y C u w t then (if FP a b e then itZ M I D S a b e k.toNat T X Y C u w t else [0, 0, 0, 0, 0, 0, 0, 1]) else [0, 0, 0, 0, 0, 0, 0, 61]) else [0, 0, 0, 0, 0, 0, 0, 60]) else [0, 0, 0, 0, 0, 0, 0, 2]
end
section
variable {M I D S a b e : Int} {ok : Prop} {T X Y C u w t : Int}
theorem stZ60 (h : ¬ (ok ∧ HP M I D S)) : [0, 0, 0, 0, 0, 0, 0, 60] = stZ M I D S a b e ok T X Y C u w t := by unfold stZ; rw [if_neg h]
theorem stZ61 (h1 : ok ∧ HP M I D S) (h : ¬ VP T X Y C u w t) : [0, 0, 0, 0, 0, 0, 0, 61] = stZ M I D S a b e ok T X Y C u w t := by unfold stZ; rw [if_pos h1, if_neg h]
theorem stZ1 (h1 : ok ∧ HP M I D S) (h2 : VP T X Y C u w t) (h : ¬ FP a b e) : [0, 0, 0, 0, 0, 0, 0, 1] = stZ M I D S a b e ok T X Y C u w t := by unfold stZ; rw [if_pos h1, if_pos h2, if_neg h]
theorem stZ0 (h1 : ok ∧ HP M I D S) (h2 : VP T X Y C u w t) (h3 : FP a b e) : stZ M I D S a b e ok T X Y C u w t = mvZ M I D S a b e T X Y C u w t := by unfold stZ; rw [if_pos h1, if_pos h2, if_pos h3]
theorem rnZ2 {k : Int} (h : ¬ (0 ≤ k ∧ k ≤ 400)) : [0, 0, 0, 0, 0, 0, 0, 2] = rnZ M I D S a b e ok k T X Y C u w t := by unfold rnZ; rw [if_neg h]
theorem rnZ60 {k : Int} (h0 : 0 ≤ k ∧ k ≤ 400) (h : ¬ (ok ∧ HP M I D S)) : [0, 0, 0, 0, 0, 0, 0, 60] = rnZ M I D S a b e ok k T X Y C u w t := by unfold rnZ; rw [if_pos h0, if_neg h]
theorem rnZ61 {k : Int} (h0 : 0 ≤ k ∧ k ≤ 400) (h1 : ok ∧ HP M I D S) (h : ¬ VP T X Y C u w t) : [0, 0, 0, 0, 0, 0, 0, 61] = rnZ M I D S a b e ok k T X Y C u w t := by unfold rnZ; rw [if_pos h0, if_pos h1, if_neg h]
theorem rnZ1 {k : Int} (h0 : 0 ≤ k ∧ k ≤ 400) (h1 : ok ∧ HP M I D S) (h2 : VP T X Y C u w t) (h : ¬ FP a b e) : [0, 0, 0, 0, 0, 0, 0, 1] = rnZ M I D S a b e ok k T X Y C u w t := by unfold rnZ; rw [if_pos h0, if_pos h1, if_pos h2, if_neg h]
theorem rnZ0 {k : Int} (h0 : 0 ≤ k ∧ k ≤ 400) (h1 : ok ∧ HP M I D S) (h2 : VP T X Y C u w t) (h3 : FP a b e) : rnZ M I D S a b e ok k T X Y C u w t = itZ M I D S a b e k.toNat T X Y C u w t := by unfold rnZ; rw [if_pos h0, if_pos h1, if_pos h2, if_pos h3]
theorem mvR2 (h : ¬ VP T X Y C u w t) : [0, 0, 0, 0, 0, 0, 0, 2] = mvR T X Y C u w t := by unfold mvR; rw [if_neg h]
theorem mvR0 (h : VP T X Y C u w t) : [T, X, Y, C, u, w, t, 0] = mvR T X Y C u w t := by unfold mvR; rw [if_pos h]
end
def L122 (k : Nat → Int) : List Int := [k 0, k 1, k 2, k 3, k 4, k 5, k 6, k 7, k 8, k 9, k 10, k 11, k 12, k 13, k 14, k 15, k 16, k 17, k 18, k 19, k 20, k 21, k 22, k 23, k 24, k 25, k 26, k 27, k 28, k 29, k 30, k 31, k 32, k 33, k 34, k 35, k 36, k 37, k 38, k 39, k 40, k 41, k 42, k 43, k 44, k 45, k 46, k 47, k 48, k 49, k 50, k 51, k 52, k 53, k 54, k 55, k 56, k 57, k 58, k 59, k 60, k 61, k 62, k 63, k 64, k 65, k 66, k 67, k 68, k 69, k 70, k 71, k 72, k 73, k 74, k 75, k 76, k 77, k 78, k 79, k 80, k 81, k 82, k 83, k 84, k 85, k 86, k 87, k 88, k 89, k 90, k 91, k 92, k 93, k 94, k 95, k 96, k 97, k 98, k 99, k 100, k 101, k 102, k 103, k 104, k 105, k 106, k 107, k 108, k 109, k 110, k 111, k 112, k 113, k 114, k 115, k 116, k 117, k 118, k 119, k 120, k 121]
def L123 (k : Nat → Int) : List Int := [k 0, k 1, k 2, k 3, k 4, k 5, k 6, k 7, k 8, k 9, k 10, k 11, k 12, k 13, k 14, k 15, k 16, k 17, k 18, k 19, k 20, k 21, k 22, k 23, k 24, k 25, k 26, k 27, k 28, k 29, k 30, k 31, k 32, k 33, k 34, k 35, k 36, k 37, k 38, k 39, k 40, k 41, k 42, k 43, k 44, k 45, k 46, k 47, k 48, k 49, k 50, k 51, k 52, k 53, k 54, k 55, k 56, k 57, k 58, k 59, k 60, k 61, k 62, k 63, k 64, k 65, k 66, k 67, k 68, k 69, k 70, k 71, k 72, k 73, k 74, k 75, k 76, k 77, k 78, k 79, k 80, k 81, k 82, k 83, k 84, k 85, k 86, k 87, k 88, k 89, k 90, k 91, k 92, k 93, k 94, k 95, k 96, k 97, k 98, k 99, k 100, k 101, k 102, k 103, k 104, k 105, k 106, k 107, k 108, k 109, k 110, k 111, k 112, k 113, k 114, k 115, k 116, k 117, k 118, k 119, k 120, k 121, k 122]
theorem list_fn : ∀ (xs : List Int) (n : Nat), xs.length = n → xs = (List.range n).map fun i => xs.getD i 0 := by
  intro xs n h
  apply List.ext_getElem
  · simp [h]
  · intro i h1 h2
    simp [List.getD_eq_getElem?_getD, h1]
theorem list122 {xs : List Int} (h : xs.length = 122) : xs = L122 fun i => xs.getD i 0 := (list_fn xs 122 h).trans (by kernel_rfl)
theorem list123 {xs : List Int} (h : xs.length = 123) : xs = L123 fun i => xs.getD i 0 := (list_fn xs 123 h).trans (by kernel_rfl)
section
variable {g : Nat → List Int → List Int} {l c : Int} {z : List Int}
theorem runE_call {F : Nat → List Int → List Int} {V : List Int} {ρ xs R : List Int} {k m : Nat} {es : List E} {t : T (List E)} (hx : es.map (den ρ) = xs) (he : F k xs = R) (hm : R.length = m) (h : Ev.runT F (ρ ++ R) t = V) : Ev.runT F ρ (.call k es m t) = V := by
  show Ev.runT F (ρ ++ fit m (F k (es.map (den ρ)))) t = V
  rw [hx, he, fit_len hm]; exact h
theorem runE_ite {F : Nat → List Int → List Int} {V : List Int} {ρ : List Int} {t e : T (List E)} {b : B} {b' : Bool} (hb : denB ρ b = b') (h1 : b' = true → Ev.runT F ρ t = V) (h2 : b' = false → Ev.runT F ρ e = V) : Ev.runT F ρ (.ite b t e) = V := by
  show (if denB ρ b = true then Ev.runT F ρ t else Ev.runT F ρ e) = V
  rw [hb]
  cases b' with
  | true => exact h1 rfl
  | false => exact h2 rfl
theorem runE_tie {F : Nat → List Int → List Int} {V : List Int} {ρ : List Int} {t e : T (List E)} {b : B} {b' : Bool} (hb : denB ρ b = b') (h2 : b' = false → Ev.runT F ρ e = V) (h1 : b' = true → Ev.runT F ρ t = V) : Ev.runT F ρ (.ite b t e) = V := runE_ite hb h1 h2
theorem runE_leaf {F : Nat → List Int → List Int} {V : List Int} {ρ xs : List Int} {es : List E} (hx : es.map (den ρ) = xs) (h : xs = V) : Ev.runT F ρ (.leaf es) = V := by
  show es.map (den ρ) = V
  rw [hx]; exact h
theorem runE_loop {F : Nat → List Int → List Int} {V : List Int} {ρ xs : List Int} {i : Nat} {es : List E} {rg : List (Int × Int)} {t : T (List E)} (hx : ρ ++ es.map (den ρ) = xs) (h : F (2000 + i) xs = V) : Ev.runT F ρ (.loop i es rg t) = V := by
  show F (2000 + i) (ρ ++ es.map (den ρ)) = V
  rw [hx]; exact h
theorem runE_again {F : Nat → List Int → List Int} {V : List Int} {ρ xs : List Int} {i n : Nat} {es : List E} (hx : ρ.take n ++ es.map (den ρ) = xs) (h : F (2000 + i) xs = V) : Ev.runT F ρ (.again i n es) = V := by
  show F (2000 + i) (ρ.take n ++ es.map (den ρ)) = V
  rw [hx]; exact h
theorem cN_bd (I S e C t : Int) : 0 ≤ cN I S e C t ∧ cN I S e C t < 360000 := by unfold cN; omega
theorem en46_31 (hg : EnOK g l c z en46) : EnOK g l c z en31 := hg.2.2.2.2.2.2.2.2.2.2.2.2.2.2.2
theorem r19p (hg : EnOK g l c z en31) {k0 k1 k2 k3 k4 k5 k6 k7 k8 k9 k10 k11 : Int} (h : -1000 ≤ k11 ∧ k11 ≤ 1000) : rowF g z 19 [k0, k1, k2, k3, k4, k5, k6, k7, k8, k9, k10, k11] = [k0, k1, k2, k3, k4, k5, k6, k7, k8, k9, k10, k11, 1] := by rw [rowF_lt (by decide), g19 hg, if_pos h]
theorem r19n (hg : EnOK g l c z en31) {k0 k1 k2 k3 k4 k5 k6 k7 k8 k9 k10 k11 : Int} (h : ¬ (-1000 ≤ k11 ∧ k11 ≤ 1000)) : rowF g z 19 [k0, k1, k2, k3, k4, k5, k6, k7, k8, k9, k10, k11] = [0, 0, 0, 0, 0, 0, 0, 0, 0, 0, 0, 0, 0] := by rw [rowF_lt (by decide), g19 hg, if_neg h]
theorem r13 (hg : EnOK g l c z en31) {x d : Int} (hd : 1 ≤ d) (hd2 : d ≤ 1073741824) (hx : -20000000000000 ≤ x ∧ x ≤ 20000000000000) : rowF g z 13 [x, d] = [halfZ x d] := by rw [rowF_lt (by decide), g13 (en31_18 hg) hd hd2 hx]
theorem r14 (hg : EnOK g l c z en31) (x : Int) : rowF g z 14 [x, 10000] = [halfZ x 10000] := by rw [rowF_lt (by decide), g14 (en31_18 hg) (by decide) (by decide)]
theorem r15 (hg : EnOK g l c z en31) (x : Int) : rowF g z 15 [x, 360000] = [x % 360000] := by rw [rowF_lt (by decide), g15 (en31_18 hg) (by decide)]
theorem r16 (hg : EnOK g l c z en31) (x : Int) : rowF g z 16 [x, 3600] = [x % 3600] := by rw [rowF_lt (by decide), g16 (en31_18 hg) (by decide)]
theorem r17 (hg : EnOK g l c z en31) (x : Int) : rowF g z 17 [x] = [sinN x] := by rw [rowF_lt (by decide), g17 (en31_18 hg)]
theorem r18 (hg : EnOK g l c z en31) (x : Int) : rowF g z 18 [x] = [sinN (x + 900)] := by rw [rowF_lt (by decide), g18 (en31_18 hg)]
theorem r24 (hg : EnOK g l c z en31) {n d : Int} (hd : 1 ≤ d) : rowF g z 24 [n, d] = [halfZ n d] := by rw [rowF_lt (by decide), g24 hg hd]
theorem r25 (hg : EnOK g l c z en31) {n d : Int} (hd : 1 ≤ d) : rowF g z 25 [n, d] = [halfZ n d] := by rw [rowF_lt (by decide), g25 hg hd]
theorem r26 (hg : EnOK g l c z en31) (n : Int) : rowF g z 26 [n, 10000] = [halfZ n 10000] := by rw [rowF_lt (by decide), g26 hg]
theorem r30 (hg : EnOK g l c z en31) {x h : Int} (e : x = h) (h0 : 0 ≤ h) : rowF g z 30 [x] = [sinN h] := by rw [rowF_lt (by decide), e, g30 hg h0]
theorem r31 (hg : EnOK g l c z en31) {x h : Int} (e : x = h) (h0 : 0 ≤ h) : rowF g z 31 [x] = [sinN (h + 900)] := by rw [rowF_lt (by decide), e, g31 hg h0]
theorem hN_pos (I S e C t : Int) : 0 ≤ hN I S e C t := by unfold hN; omega
theorem hN_eq (I S e C t : Int) : (cN I S e C t).tdiv 100 = hN I S e C t := by
  unfold hN
  have h1 : 0 ≤ cN I S e C t := by unfold cN; omega
  have h2 : cN I S e C t < 360000 := by unfold cN; omega
  generalize cN I S e C t = x at h1 h2 ⊢
  rw [Int.tdiv_eq_ediv_of_nonneg h1]
  omega
theorem h_neg {C n x : Int} (hx : x = (C + n) % 360000) (h : (C + n).tmod 360000 < 0) : (C + n).tmod 360000 + 360000 = x ∧ (((C + n).tmod 360000 + 360000).tmod 360000).tdiv 100 = x.tdiv 100 := by
  have h1 := tm_neg (by decide) h
  rw [h1, ← hx]
  refine ⟨rfl, ?_⟩
  rw [Int.tmod_eq_of_lt (by omega) (by omega)]
theorem h_pos {C n x : Int} (hx : x = (C + n) % 360000) (h : ¬ (C + n).tmod 360000 < 0) : (C + n).tmod 360000 = x ∧ (((C + n).tmod 360000).tmod 360000).tdiv 100 = x.tdiv 100 := by
  have h1 := tm_pos (by decide) h
  rw [h1, ← hx]
  refine ⟨rfl, ?_⟩
  rw [Int.tmod_eq_of_lt (by omega) (by omega)]
set_option maxHeartbeats 8000000 in
theorem stepg_ok (hg : EnOK g l c z en31) (k : Nat → Int) (H0 : -1000 ≤ k 25 ∧ k 25 ≤ 1000) (H1 : -1000 ≤ k 37 ∧ k 37 ≤ 1000) (H2 : -1000 ≤ k 49 ∧ k 49 ≤ 1000) (H3 : -1000 ≤ k 61 ∧ k 61 ≤ 1000) (H4 : -1000 ≤ k 73 ∧ k 73 ≤ 1000) (H5 : -1000 ≤ k 85 ∧ k 85 ≤ 1000) (H6 : -1000 ≤ k 97 ∧ k 97 ≤ 1000) (H8 : -1000 ≤ k 121 ∧ k 121 ≤ 1000) : Ev.runT (rowF g z) (l :: c :: L122 k) t_stepg = stZ (k 0) (k 1) (k 2) (k 3) (k 11) (k 12) (k 13) (-1000 ≤ k 109 ∧ k 109 ≤ 1000) (k 4) (k 5) (k 6) (k 7) (k 8) (k 9) (k 10) := by
  refine runE_call (xs := [(k 14), (k 15), (k 16), (k 17), (k 18), (k 19), (k 20), (k 21), (k 22), (k 23), (k 24), (k 25)]) (R := [(k 14), (k 15), (k 16), (k 17), (k 18), (k 19), (k 20), (k 21), (k 22), (k 23), (k 24), (k 25), 1]) (by kernel_rfl) (r19p hg H0) rfl ?_
  refine runE_ite (b' := false) (by kernel_rfl) (fun h => absurd h (by decide)) (fun _ => ?_)
  refine runE_call (xs := [(k 26), (k 27), (k 28), (k 29), (k 30), (k 31), (k 32), (k 33), (k 34), (k 35), (k 36), (k 37)]) (R := [(k 26), (k 27), (k 28), (k 29), (k 30), (k 31), (k 32), (k 33), (k 34), (k 35), (k 36), (k 37), 1]) (by kernel_rfl) (r19p hg H1) rfl ?_
  refine runE_ite (b' := false) (by kernel_rfl) (fun h => absurd h (by decide)) (fun _ => ?_)
  refine runE_call (xs := [(k 38), (k 39), (k 40), (k 41), (k 42), (k 43), (k 44), (k 45), (k 46), (k 47), (k 48), (k 49)]) (R := [(k 38), (k 39), (k 40), (k 41), (k 42), (k 43), (k 44), (k 45), (k 46), (k 47), (k 48), (k 49), 1]) (by kernel_rfl) (r19p hg H2) rfl ?_
  refine runE_ite (b' := false) (by kernel_rfl) (fun h => absurd h (by decide)) (fun _ => ?_)
  refine runE_call (xs := [(k 50), (k 51), (k 52), (k 53), (k 54), (k 55), (k 56), (k 57), (k 58), (k 59), (k 60), (k 61)]) (R := [(k 50), (k 51), (k 52), (k 53), (k 54), (k 55), (k 56), (k 57), (k 58), (k 59), (k 60), (k 61), 1]) (by kernel_rfl) (r19p hg H3) rfl ?_
  refine runE_ite (b' := false) (by kernel_rfl) (fun h => absurd h (by decide)) (fun _ => ?_)
  refine runE_call (xs := [(k 62), (k 63), (k 64), (k 65), (k 66), (k 67), (k 68), (k 69), (k 70), (k 71), (k 72), (k 73)]) (R := [(k 62), (k 63), (k 64), (k 65), (k 66), (k 67), (k 68), (k 69), (k 70), (k 71), (k 72), (k 73), 1]) (by kernel_rfl) (r19p hg H4) rfl ?_
  refine runE_ite (b' := false) (by kernel_rfl) (fun h => absurd h (by decide)) (fun _ => ?_)
  refine runE_call (xs := [(k 74), (k 75), (k 76), (k 77), (k 78), (k 79), (k 80), (k 81), (k 82), (k 83), (k 84), (k 85)]) (R := [(k 74), (k 75), (k 76), (k 77), (k 78), (k 79), (k 80), (k 81), (k 82), (k 83), (k 84), (k 85), 1]) (by kernel_rfl) (r19p hg H5) rfl ?_
  refine runE_ite (b' := false) (by kernel_rfl) (fun h => absurd h (by decide)) (fun _ => ?_)
  refine runE_call (xs := [(k 86), (k 87), (k 88), (k 89), (k 90), (k 91), (k 92), (k 93), (k 94), (k 95), (k 96), (k 97)]) (R := [(k 86), (k 87), (k 88), (k 89), (k 90), (k 91), (k 92), (k 93), (k 94), (k 95), (k 96), (k 97), 1]) (by kernel_rfl) (r19p hg H6) rfl ?_
  refine runE_ite (b' := false) (by kernel_rfl) (fun h => absurd h (by decide)) (fun _ => ?_)
  by_cases hok : -1000 ≤ k 109 ∧ k 109 ≤ 1000
  rotate_left
  · refine runE_call (xs := [(k 98), (k 99), (k 100), (k 101), (k 102), (k 103), (k 104), (k 105), (k 106), (k 107), (k 108), (k 109)]) (R := [0, 0, 0, 0, 0, 0, 0, 0, 0, 0, 0, 0, 0]) (by kernel_rfl) (r19n hg hok) rfl ?_
    refine runE_ite (b' := true) (by kernel_rfl) (fun _ => ?_) (fun h => absurd h (by decide))
    refine runE_leaf (xs := [0, 0, 0, 0, 0, 0, 0, 60]) (by kernel_rfl) ?_
    exact stZ60 (by unfold HP; omega)
  refine runE_call (xs := [(k 98), (k 99), (k 100), (k 101), (k 102), (k 103), (k 104), (k 105), (k 106), (k 107), (k 108), (k 109)]) (R := [(k 98), (k 99), (k 100), (k 101), (k 102), (k 103), (k 104), (k 105), (k 106), (k 107), (k 108), (k 109), 1]) (by kernel_rfl) (r19p hg hok) rfl ?_
  refine runE_ite (b' := false) (by kernel_rfl) (fun h => absurd h (by decide)) (fun _ => ?_)
  refine runE_call (xs := [(k 110), (k 111), (k 112), (k 113), (k 114), (k 115), (k 116), (k 117), (k 118), (k 119), (k 120), (k 121)]) (R := [(k 110), (k 111), (k 112), (k 113), (k 114), (k 115), (k 116), (k 117), (k 118), (k 119), (k 120), (k 121), 1]) (by kernel_rfl) (r19p hg H8) rfl ?_
  refine runE_ite (b' := false) (by kernel_rfl) (fun h => absurd h (by decide)) (fun _ => ?_)
  refine runE_ite (b' := (((((((decide ((k 0) < 1) || decide (1000000 < (k 0))) || decide ((k 1) < 1)) || decide (1073741824 < (k 1))) || decide ((k 2) < 0)) || decide ((k 0) < (k 2))) || decide ((k 3) < 0)) || decide ((k 1) < (k 3)))) (by kernel_rfl) (fun h_1 => ?_) (fun h_1 => ?_)
  · simp only [Bool.or_eq_true, Bool.and_eq_true, Bool.or_eq_false_iff, Bool.and_eq_false_iff, Bool.not_eq_true', Bool.not_eq_false', decide_eq_true_eq, decide_eq_false_iff_not, Bool.not_not, ne_eq] at h_1
    refine runE_leaf (xs := [0, 0, 0, 0, 0, 0, 0, 60]) (by kernel_rfl) ?_
    exact stZ60 (by unfold HP; omega)
  simp only [Bool.or_eq_true, Bool.and_eq_true, Bool.or_eq_false_iff, Bool.and_eq_false_iff, Bool.not_eq_true', Bool.not_eq_false', decide_eq_true_eq, decide_eq_false_iff_not, Bool.not_not, ne_eq] at h_1
  refine runE_tie (b' := (decide (0 ≤ (k 4)) && decide ((k 4) ≤ 2147483648))) (by kernel_rfl) (fun h_2 => ?_) (fun h_2 => ?_)
  · simp only [Bool.or_eq_true, Bool.and_eq_true, Bool.or_eq_false_iff, Bool.and_eq_false_iff, Bool.not_eq_true', Bool.not_eq_false', decide_eq_true_eq, decide_eq_false_iff_not, Bool.not_not, ne_eq] at h_2
    refine runE_leaf (xs := [0, 0, 0, 0, 0, 0, 0, 61]) (by kernel_rfl) ?_
    exact stZ61 (by unfold HP; omega) (by unfold VP; omega)
  simp only [Bool.or_eq_true, Bool.and_eq_true, Bool.or_eq_false_iff, Bool.and_eq_false_iff, Bool.not_eq_true', Bool.not_eq_false', decide_eq_true_eq, decide_eq_false_iff_not, Bool.not_not, ne_eq] at h_2
  refine runE_ite (b' := (decide ((k 5) < (-10000000000)) || decide (10000000000 < (k 5)))) (by kernel_rfl) (fun h_3 => ?_) (fun h_3 => ?_)
  · simp only [Bool.or_eq_true, Bool.and_eq_true, Bool.or_eq_false_iff, Bool.and_eq_false_iff, Bool.not_eq_true', Bool.not_eq_false', decide_eq_true_eq, decide_eq_false_iff_not, Bool.not_not, ne_eq] at h_3
    refine runE_leaf (xs := [0, 0, 0, 0, 0, 0, 0, 61]) (by kernel_rfl) ?_
    exact stZ61 (by unfold HP; omega) (by unfold VP; omega)
  simp only [Bool.or_eq_true, Bool.and_eq_true, Bool.or_eq_false_iff, Bool.and_eq_false_iff, Bool.not_eq_true', Bool.not_eq_false', decide_eq_true_eq, decide_eq_false_iff_not, Bool.not_not, ne_eq] at h_3
  refine runE_ite (b' := (decide ((k 6) < (-10000000000)) || decide (10000000000 < (k 6)))) (by kernel_rfl) (fun h_4 => ?_) (fun h_4 => ?_)
  · simp only [Bool.or_eq_true, Bool.and_eq_true, Bool.or_eq_false_iff, Bool.and_eq_false_iff, Bool.not_eq_true', Bool.not_eq_false', decide_eq_true_eq, decide_eq_false_iff_not, Bool.not_not, ne_eq] at h_4
    refine runE_leaf (xs := [0, 0, 0, 0, 0, 0, 0, 61]) (by kernel_rfl) ?_
    exact stZ61 (by unfold HP; omega) (by unfold VP; omega)
  simp only [Bool.or_eq_true, Bool.and_eq_true, Bool.or_eq_false_iff, Bool.and_eq_false_iff, Bool.not_eq_true', Bool.not_eq_false', decide_eq_true_eq, decide_eq_false_iff_not, Bool.not_not, ne_eq] at h_4
  refine runE_tie (b' := (decide (0 ≤ (k 7)) && decide ((k 7) < 360000))) (by kernel_rfl) (fun h_5 => ?_) (fun h_5 => ?_)
  · simp only [Bool.or_eq_true, Bool.and_eq_true, Bool.or_eq_false_iff, Bool.and_eq_false_iff, Bool.not_eq_true', Bool.not_eq_false', decide_eq_true_eq, decide_eq_false_iff_not, Bool.not_not, ne_eq] at h_5
    refine runE_leaf (xs := [0, 0, 0, 0, 0, 0, 0, 61]) (by kernel_rfl) ?_
    exact stZ61 (by unfold HP; omega) (by unfold VP; omega)
  simp only [Bool.or_eq_true, Bool.and_eq_true, Bool.or_eq_false_iff, Bool.and_eq_false_iff, Bool.not_eq_true', Bool.not_eq_false', decide_eq_true_eq, decide_eq_false_iff_not, Bool.not_not, ne_eq] at h_5
  refine runE_ite (b' := (decide ((k 8) < (-100000)) || decide (100000 < (k 8)))) (by kernel_rfl) (fun h_6 => ?_) (fun h_6 => ?_)
  · simp only [Bool.or_eq_true, Bool.and_eq_true, Bool.or_eq_false_iff, Bool.and_eq_false_iff, Bool.not_eq_true', Bool.not_eq_false', decide_eq_true_eq, decide_eq_false_iff_not, Bool.not_not, ne_eq] at h_6
    refine runE_leaf (xs := [0, 0, 0, 0, 0, 0, 0, 61]) (by kernel_rfl) ?_
    exact stZ61 (by unfold HP; omega) (by unfold VP; omega)
  simp only [Bool.or_eq_true, Bool.and_eq_true, Bool.or_eq_false_iff, Bool.and_eq_false_iff, Bool.not_eq_true', Bool.not_eq_false', decide_eq_true_eq, decide_eq_false_iff_not, Bool.not_not, ne_eq] at h_6
  refine runE_ite (b' := (decide ((k 9) < (-100000)) || decide (100000 < (k 9)))) (by kernel_rfl) (fun h_7 => ?_) (fun h_7 => ?_)
  · simp only [Bool.or_eq_true, Bool.and_eq_true, Bool.or_eq_false_iff, Bool.and_eq_false_iff, Bool.not_eq_true', Bool.not_eq_false', decide_eq_true_eq, decide_eq_false_iff_not, Bool.not_not, ne_eq] at h_7
    refine runE_leaf (xs := [0, 0, 0, 0, 0, 0, 0, 61]) (by kernel_rfl) ?_
    exact stZ61 (by unfold HP; omega) (by unfold VP; omega)
  simp only [Bool.or_eq_true, Bool.and_eq_true, Bool.or_eq_false_iff, Bool.and_eq_false_iff, Bool.not_eq_true', Bool.not_eq_false', decide_eq_true_eq, decide_eq_false_iff_not, Bool.not_not, ne_eq] at h_7
  refine runE_ite (b' := (decide ((k 10) < (-10000)) || decide (10000 < (k 10)))) (by kernel_rfl) (fun h_8 => ?_) (fun h_8 => ?_)
  · simp only [Bool.or_eq_true, Bool.and_eq_true, Bool.or_eq_false_iff, Bool.and_eq_false_iff, Bool.not_eq_true', Bool.not_eq_false', decide_eq_true_eq, decide_eq_false_iff_not, Bool.not_not, ne_eq] at h_8
    refine runE_leaf (xs := [0, 0, 0, 0, 0, 0, 0, 61]) (by kernel_rfl) ?_
    exact stZ61 (by unfold HP; omega) (by unfold VP; omega)
  simp only [Bool.or_eq_true, Bool.and_eq_true, Bool.or_eq_false_iff, Bool.and_eq_false_iff, Bool.not_eq_true', Bool.not_eq_false', decide_eq_true_eq, decide_eq_false_iff_not, Bool.not_not, ne_eq] at h_8
  refine runE_ite (b' := (decide ((k 11) < (-1000000)) || decide (1000000 < (k 11)))) (by kernel_rfl) (fun h_9 => ?_) (fun h_9 => ?_)
  · simp only [Bool.or_eq_true, Bool.and_eq_true, Bool.or_eq_false_iff, Bool.and_eq_false_iff, Bool.not_eq_true', Bool.not_eq_false', decide_eq_true_eq, decide_eq_false_iff_not, Bool.not_not, ne_eq] at h_9
    refine runE_leaf (xs := [0, 0, 0, 0, 0, 0, 0, 1]) (by kernel_rfl) ?_
    exact stZ1 (by unfold HP; omega) (by unfold VP; omega) (by unfold FP; omega)
  simp only [Bool.or_eq_true, Bool.and_eq_true, Bool.or_eq_false_iff, Bool.and_eq_false_iff, Bool.not_eq_true', Bool.not_eq_false', decide_eq_true_eq, decide_eq_false_iff_not, Bool.not_not, ne_eq] at h_9
  refine runE_ite (b' := (decide ((k 12) < (-1000000)) || decide (1000000 < (k 12)))) (by kernel_rfl) (fun h_10 => ?_) (fun h_10 => ?_)
  · simp only [Bool.or_eq_true, Bool.and_eq_true, Bool.or_eq_false_iff, Bool.and_eq_false_iff, Bool.not_eq_true', Bool.not_eq_false', decide_eq_true_eq, decide_eq_false_iff_not, Bool.not_not, ne_eq] at h_10
    refine runE_leaf (xs := [0, 0, 0, 0, 0, 0, 0, 1]) (by kernel_rfl) ?_
    exact stZ1 (by unfold HP; omega) (by unfold VP; omega) (by unfold FP; omega)
  simp only [Bool.or_eq_true, Bool.and_eq_true, Bool.or_eq_false_iff, Bool.and_eq_false_iff, Bool.not_eq_true', Bool.not_eq_false', decide_eq_true_eq, decide_eq_false_iff_not, Bool.not_not, ne_eq] at h_10
  refine runE_ite (b' := (decide ((k 13) < (-1000000)) || decide (1000000 < (k 13)))) (by kernel_rfl) (fun h_11 => ?_) (fun h_11 => ?_)
  · simp only [Bool.or_eq_true, Bool.and_eq_true, Bool.or_eq_false_iff, Bool.and_eq_false_iff, Bool.not_eq_true', Bool.not_eq_false', decide_eq_true_eq, decide_eq_false_iff_not, Bool.not_not, ne_eq] at h_11
    refine runE_leaf (xs := [0, 0, 0, 0, 0, 0, 0, 1]) (by kernel_rfl) ?_
    exact stZ1 (by unfold HP; omega) (by unfold VP; omega) (by unfold FP; omega)
  simp only [Bool.or_eq_true, Bool.and_eq_true, Bool.or_eq_false_iff, Bool.and_eq_false_iff, Bool.not_eq_true', Bool.not_eq_false', decide_eq_true_eq, decide_eq_false_iff_not, Bool.not_not, ne_eq] at h_11
  refine Eq.trans ?_ (stZ0 ⟨hok, by unfold HP; omega⟩ (by unfold VP; omega) (by unfold FP; omega)).symm
  have m0 := mul_bd (x := (k 2)) (y := (k 8)) (a := 1000000) (b := 100000) (by omega) (by omega) (by omega) (by omega) (by omega) (by omega)
  have m1 := mul_bd (x := (k 2)) (y := (k 9)) (a := 1000000) (b := 100000) (by omega) (by omega) (by omega) (by omega) (by omega) (by omega)
  have m2 := mul_bd (x := (k 3)) (y := (k 10)) (a := 1073741824) (b := 10000) (by omega) (by omega) (by omega) (by omega) (by omega) (by omega)
  have hc := cN_bd (k 1) (k 3) (k 13) (k 7) (k 10)
  refine runE_call (xs := [10000 * (k 11) - (k 2) * (k 8), (k 0)]) (R := [halfZ (10000 * (k 11) - (k 2) * (k 8)) (k 0)]) (by kernel_rfl) (r13 hg (by omega) (by omega) (by omega)) rfl ?_
  refine runE_call (xs := [10000 * (k 12) - (k 2) * (k 9), (k 0)]) (R := [halfZ (10000 * (k 12) - (k 2) * (k 9)) (k 0)]) (by kernel_rfl) (r13 hg (by omega) (by omega) (by omega)) rfl ?_
  refine runE_call (xs := [10000 * (k 13) - (k 3) * (k 10), (k 1)]) (R := [halfZ (10000 * (k 13) - (k 3) * (k 10)) (k 1)]) (by kernel_rfl) (r13 hg (by omega) (by omega) (by omega)) rfl ?_
  refine runE_call (xs := [((k 7) + (nsZ (k 10) (k 3) (k 13) (k 1))), 360000]) (R := [(cN (k 1) (k 3) (k 13) (k 7) (k 10))]) (by kernel_rfl) (r15 hg _) rfl ?_
  refine runE_call (xs := [((cN (k 1) (k 3) (k 13) (k 7) (k 10))).tdiv (100), 3600]) (R := [(hN (k 1) (k 3) (k 13) (k 7) (k 10))]) (by kernel_rfl) (r16 hg _) rfl ?_
  refine runE_call (xs := [(hN (k 1) (k 3) (k 13) (k 7) (k 10))]) (R := [(sinN (hN (k 1) (k 3) (k 13) (k 7) (k 10)))]) (by kernel_rfl) (r17 hg _) rfl ?_
  refine runE_call (xs := [(hN (k 1) (k 3) (k 13) (k 7) (k 10))]) (R := [(sinN ((hN (k 1) (k 3) (k 13) (k 7) (k 10)) + 900))]) (by kernel_rfl) (r18 hg _) rfl ?_
  refine runE_call (xs := [(((nsZ (k 8) (k 2) (k 11) (k 0)) * (sinN ((hN (k 1) (k 3) (k 13) (k 7) (k 10)) + 900))) - ((nsZ (k 9) (k 2) (k 12) (k 0)) * (sinN (hN (k 1) (k 3) (k 13) (k 7) (k 10))))), 10000]) (R := [(dX (nsZ (k 8) (k 2) (k 11) (k 0)) (nsZ (k 9) (k 2) (k 12) (k 0)) (hN (k 1) (k 3) (k 13) (k 7) (k 10)))]) (by kernel_rfl) (r14 hg _) rfl ?_
  refine runE_call (xs := [(((nsZ (k 8) (k 2) (k 11) (k 0)) * (sinN (hN (k 1) (k 3) (k 13) (k 7) (k 10)))) + ((nsZ (k 9) (k 2) (k 12) (k 0)) * (sinN ((hN (k 1) (k 3) (k 13) (k 7) (k 10)) + 900)))), 10000]) (R := [(dY (nsZ (k 8) (k 2) (k 11) (k 0)) (nsZ (k 9) (k 2) (k 12) (k 0)) (hN (k 1) (k 3) (k 13) (k 7) (k 10)))]) (by kernel_rfl) (r14 hg _) rfl ?_
  refine runE_tie (b' := decide (((k 4) + 1) ≤ 2147483648)) (by kernel_rfl) (fun h_12 => ?_) (fun h_12 => ?_)
  · simp only [Bool.or_eq_true, Bool.and_eq_true, Bool.or_eq_false_iff, Bool.and_eq_false_iff, Bool.not_eq_true', Bool.not_eq_false', decide_eq_true_eq, decide_eq_false_iff_not, Bool.not_not, ne_eq] at h_12
    refine runE_leaf (xs := [0, 0, 0, 0, 0, 0, 0, 2]) (by kernel_rfl) ?_
    exact mvR2 (by unfold VP; omega)
  simp only [Bool.or_eq_true, Bool.and_eq_true, Bool.or_eq_false_iff, Bool.and_eq_false_iff, Bool.not_eq_true', Bool.not_eq_false', decide_eq_true_eq, decide_eq_false_iff_not, Bool.not_not, ne_eq] at h_12
  refine runE_ite (b' := (decide ((xN (k 0) (k 1) (k 2) (k 3) (k 11) (k 12) (k 13) (k 5) (k 7) (k 8) (k 9) (k 10)) < (-10000000000)) || decide (10000000000 < (xN (k 0) (k 1) (k 2) (k 3) (k 11) (k 12) (k 13) (k 5) (k 7) (k 8) (k 9) (k 10))))) (by kernel_rfl) (fun h_13 => ?_) (fun h_13 => ?_)
  · simp only [Bool.or_eq_true, Bool.and_eq_true, Bool.or_eq_false_iff, Bool.and_eq_false_iff, Bool.not_eq_true', Bool.not_eq_false', decide_eq_true_eq, decide_eq_false_iff_not, Bool.not_not, ne_eq] at h_13
    refine runE_leaf (xs := [0, 0, 0, 0, 0, 0, 0, 2]) (by kernel_rfl) ?_
    exact mvR2 (by unfold VP; omega)
  simp only [Bool.or_eq_true, Bool.and_eq_true, Bool.or_eq_false_iff, Bool.and_eq_false_iff, Bool.not_eq_true', Bool.not_eq_false', decide_eq_true_eq, decide_eq_false_iff_not, Bool.not_not, ne_eq] at h_13
  refine runE_ite (b' := (decide ((yN (k 0) (k 1) (k 2) (k 3) (k 11) (k 12) (k 13) (k 6) (k 7) (k 8) (k 9) (k 10)) < (-10000000000)) || decide (10000000000 < (yN (k 0) (k 1) (k 2) (k 3) (k 11) (k 12) (k 13) (k 6) (k 7) (k 8) (k 9) (k 10))))) (by kernel_rfl) (fun h_14 => ?_) (fun h_14 => ?_)
  · simp only [Bool.or_eq_true, Bool.and_eq_true, Bool.or_eq_false_iff, Bool.and_eq_false_iff, Bool.not_eq_true', Bool.not_eq_false', decide_eq_true_eq, decide_eq_false_iff_not, Bool.not_not, ne_eq] at h_14
    refine runE_leaf (xs := [0, 0, 0, 0, 0, 0, 0, 2]) (by kernel_rfl) ?_
    exact mvR2 (by unfold VP; omega)
  simp only [Bool.or_eq_true, Bool.and_eq_true, Bool.or_eq_false_iff, Bool.and_eq_false_iff, Bool.not_eq_true', Bool.not_eq_false', decide_eq_true_eq, decide_eq_false_iff_not, Bool.not_not, ne_eq] at h_14
  refine runE_ite (b' := (decide ((nsZ (k 8) (k 2) (k 11) (k 0)) < (-100000)) || decide (100000 < (nsZ (k 8) (k 2) (k 11) (k 0))))) (by kernel_rfl) (fun h_15 => ?_) (fun h_15 => ?_)
  · simp only [Bool.or_eq_true, Bool.and_eq_true, Bool.or_eq_false_iff, Bool.and_eq_false_iff, Bool.not_eq_true', Bool.not_eq_false', decide_eq_true_eq, decide_eq_false_iff_not, Bool.not_not, ne_eq] at h_15
    refine runE_leaf (xs := [0, 0, 0, 0, 0, 0, 0, 2]) (by kernel_rfl) ?_
    exact mvR2 (by unfold VP; omega)
  simp only [Bool.or_eq_true, Bool.and_eq_true, Bool.or_eq_false_iff, Bool.and_eq_false_iff, Bool.not_eq_true', Bool.not_eq_false', decide_eq_true_eq, decide_eq_false_iff_not, Bool.not_not, ne_eq] at h_15
  refine runE_ite (b' := (decide ((nsZ (k 9) (k 2) (k 12) (k 0)) < (-100000)) || decide (100000 < (nsZ (k 9) (k 2) (k 12) (k 0))))) (by kernel_rfl) (fun h_16 => ?_) (fun h_16 => ?_)
  · simp only [Bool.or_eq_true, Bool.and_eq_true, Bool.or_eq_false_iff, Bool.and_eq_false_iff, Bool.not_eq_true', Bool.not_eq_false', decide_eq_true_eq, decide_eq_false_iff_not, Bool.not_not, ne_eq] at h_16
    refine runE_leaf (xs := [0, 0, 0, 0, 0, 0, 0, 2]) (by kernel_rfl) ?_
    exact mvR2 (by unfold VP; omega)
  simp only [Bool.or_eq_true, Bool.and_eq_true, Bool.or_eq_false_iff, Bool.and_eq_false_iff, Bool.not_eq_true', Bool.not_eq_false', decide_eq_true_eq, decide_eq_false_iff_not, Bool.not_not, ne_eq] at h_16
  refine runE_ite (b' := (decide ((nsZ (k 10) (k 3) (k 13) (k 1)) < (-10000)) || decide (10000 < (nsZ (k 10) (k 3) (k 13) (k 1))))) (by kernel_rfl) (fun h_17 => ?_) (fun h_17 => ?_)
  · simp only [Bool.or_eq_true, Bool.and_eq_true, Bool.or_eq_false_iff, Bool.and_eq_false_iff, Bool.not_eq_true', Bool.not_eq_false', decide_eq_true_eq, decide_eq_false_iff_not, Bool.not_not, ne_eq] at h_17
    refine runE_leaf (xs := [0, 0, 0, 0, 0, 0, 0, 2]) (by kernel_rfl) ?_
    exact mvR2 (by unfold VP; omega)
  simp only [Bool.or_eq_true, Bool.and_eq_true, Bool.or_eq_false_iff, Bool.and_eq_false_iff, Bool.not_eq_true', Bool.not_eq_false', decide_eq_true_eq, decide_eq_false_iff_not, Bool.not_not, ne_eq] at h_17
  refine runE_leaf (xs := [((k 4) + 1), (xN (k 0) (k 1) (k 2) (k 3) (k 11) (k 12) (k 13) (k 5) (k 7) (k 8) (k 9) (k 10)), (yN (k 0) (k 1) (k 2) (k 3) (k 11) (k 12) (k 13) (k 6) (k 7) (k 8) (k 9) (k 10)), (cN (k 1) (k 3) (k 13) (k 7) (k 10)), (nsZ (k 8) (k 2) (k 11) (k 0)), (nsZ (k 9) (k 2) (k 12) (k 0)), (nsZ (k 10) (k 3) (k 13) (k 1)), 0]) (by kernel_rfl) ?_
  exact mvR0 (by unfold VP; omega)
set_option maxHeartbeats 8000000 in
theorem rstepg_ok (hg : EnOK g l c z en31) (k : Nat → Int) (H0 : -1000 ≤ k 25 ∧ k 25 ≤ 1000) (H1 : -1000 ≤ k 37 ∧ k 37 ≤ 1000) (H2 : -1000 ≤ k 49 ∧ k 49 ≤ 1000) (H3 : -1000 ≤ k 61 ∧ k 61 ≤ 1000) (H4 : -1000 ≤ k 73 ∧ k 73 ≤ 1000) (H5 : -1000 ≤ k 85 ∧ k 85 ≤ 1000) (H6 : -1000 ≤ k 97 ∧ k 97 ≤ 1000) (H8 : -1000 ≤ k 121 ∧ k 121 ≤ 1000) : Ev.runT (rowF g z) (l :: c :: L122 k) t_rstepg = stZ (k 0) (k 1) (k 2) (k 3) (k 11) (k 12) (k 13) (-1000 ≤ k 109 ∧ k 109 ≤ 1000) (k 4) (k 5) (k 6) (k 7) (k 8) (k 9) (k 10) := by
  by_cases hok : -1000 ≤ k 109 ∧ k 109 ≤ 1000
  rotate_left
  · refine runE_ite (b' := !(decide (-1000 ≤ k 109) && decide (k 109 ≤ 1000))) (by kernel_rfl) (fun h => ?_) (fun h => ?_)
    · refine runE_leaf (xs := [0, 0, 0, 0, 0, 0, 0, 60]) (by kernel_rfl) ?_
      exact stZ60 (fun h => hok h.1)
    · exfalso; simp only [Bool.or_eq_true, Bool.and_eq_true, Bool.or_eq_false_iff, Bool.and_eq_false_iff, Bool.not_eq_true', Bool.not_eq_false', decide_eq_true_eq, decide_eq_false_iff_not, Bool.not_not, ne_eq] at h; omega
  refine runE_ite (b' := !((decide ((-1000) ≤ (k 109)) && decide ((k 109) ≤ 1000)))) (by kernel_rfl) (fun h_1 => ?_) (fun h_1 => ?_)
  · simp only [Bool.or_eq_true, Bool.and_eq_true, Bool.or_eq_false_iff, Bool.and_eq_false_iff, Bool.not_eq_true', Bool.not_eq_false', decide_eq_true_eq, decide_eq_false_iff_not, Bool.not_not, ne_eq] at h_1
    refine runE_leaf (xs := [0, 0, 0, 0, 0, 0, 0, 60]) (by kernel_rfl) ?_
    exact stZ60 (by unfold HP; omega)
  simp only [Bool.or_eq_true, Bool.and_eq_true, Bool.or_eq_false_iff, Bool.and_eq_false_iff, Bool.not_eq_true', Bool.not_eq_false', decide_eq_true_eq, decide_eq_false_iff_not, Bool.not_not, ne_eq] at h_1
  refine runE_tie (b' := !(!((decide (1 ≤ (k 0)) && decide ((k 0) ≤ 1000000))))) (by kernel_rfl) (fun h_2 => ?_) (fun h_2 => ?_)
  · simp only [Bool.or_eq_true, Bool.and_eq_true, Bool.or_eq_false_iff, Bool.and_eq_false_iff, Bool.not_eq_true', Bool.not_eq_false', decide_eq_true_eq, decide_eq_false_iff_not, Bool.not_not, ne_eq] at h_2
    refine runE_leaf (xs := [0, 0, 0, 0, 0, 0, 0, 60]) (by kernel_rfl) ?_
    exact stZ60 (by unfold HP; omega)
  simp only [Bool.or_eq_true, Bool.and_eq_true, Bool.or_eq_false_iff, Bool.and_eq_false_iff, Bool.not_eq_true', Bool.not_eq_false', decide_eq_true_eq, decide_eq_false_iff_not, Bool.not_not, ne_eq] at h_2
  refine runE_tie (b' := !(!((decide (1 ≤ (k 1)) && decide ((k 1) ≤ 1073741824))))) (by kernel_rfl) (fun h_3 => ?_) (fun h_3 => ?_)
  · simp only [Bool.or_eq_true, Bool.and_eq_true, Bool.or_eq_false_iff, Bool.and_eq_false_iff, Bool.not_eq_true', Bool.not_eq_false', decide_eq_true_eq, decide_eq_false_iff_not, Bool.not_not, ne_eq] at h_3
    refine runE_leaf (xs := [0, 0, 0, 0, 0, 0, 0, 60]) (by kernel_rfl) ?_
    exact stZ60 (by unfold HP; omega)
  simp only [Bool.or_eq_true, Bool.and_eq_true, Bool.or_eq_false_iff, Bool.and_eq_false_iff, Bool.not_eq_true', Bool.not_eq_false', decide_eq_true_eq, decide_eq_false_iff_not, Bool.not_not, ne_eq] at h_3
  refine runE_tie (b' := !(!((decide (0 ≤ (k 2)) && decide ((k 2) ≤ (k 0)))))) (by kernel_rfl) (fun h_4 => ?_) (fun h_4 => ?_)
  · simp only [Bool.or_eq_true, Bool.and_eq_true, Bool.or_eq_false_iff, Bool.and_eq_false_iff, Bool.not_eq_true', Bool.not_eq_false', decide_eq_true_eq, decide_eq_false_iff_not, Bool.not_not, ne_eq] at h_4
    refine runE_leaf (xs := [0, 0, 0, 0, 0, 0, 0, 60]) (by kernel_rfl) ?_
    exact stZ60 (by unfold HP; omega)
  simp only [Bool.or_eq_true, Bool.and_eq_true, Bool.or_eq_false_iff, Bool.and_eq_false_iff, Bool.not_eq_true', Bool.not_eq_false', decide_eq_true_eq, decide_eq_false_iff_not, Bool.not_not, ne_eq] at h_4
  refine runE_ite (b' := !((decide (0 ≤ (k 3)) && decide ((k 3) ≤ (k 1))))) (by kernel_rfl) (fun h_5 => ?_) (fun h_5 => ?_)
  · simp only [Bool.or_eq_true, Bool.and_eq_true, Bool.or_eq_false_iff, Bool.and_eq_false_iff, Bool.not_eq_true', Bool.not_eq_false', decide_eq_true_eq, decide_eq_false_iff_not, Bool.not_not, ne_eq] at h_5
    refine runE_leaf (xs := [0, 0, 0, 0, 0, 0, 0, 60]) (by kernel_rfl) ?_
    exact stZ60 (by unfold HP; omega)
  simp only [Bool.or_eq_true, Bool.and_eq_true, Bool.or_eq_false_iff, Bool.and_eq_false_iff, Bool.not_eq_true', Bool.not_eq_false', decide_eq_true_eq, decide_eq_false_iff_not, Bool.not_not, ne_eq] at h_5
  refine runE_tie (b' := (decide (0 ≤ (k 4)) && decide ((k 4) ≤ 2147483648))) (by kernel_rfl) (fun h_6 => ?_) (fun h_6 => ?_)
  · simp only [Bool.or_eq_true, Bool.and_eq_true, Bool.or_eq_false_iff, Bool.and_eq_false_iff, Bool.not_eq_true', Bool.not_eq_false', decide_eq_true_eq, decide_eq_false_iff_not, Bool.not_not, ne_eq] at h_6
    refine runE_leaf (xs := [0, 0, 0, 0, 0, 0, 0, 61]) (by kernel_rfl) ?_
    exact stZ61 (by unfold HP; omega) (by unfold VP; omega)
  simp only [Bool.or_eq_true, Bool.and_eq_true, Bool.or_eq_false_iff, Bool.and_eq_false_iff, Bool.not_eq_true', Bool.not_eq_false', decide_eq_true_eq, decide_eq_false_iff_not, Bool.not_not, ne_eq] at h_6
  refine runE_tie (b' := (decide ((-10000000000) ≤ (k 5)) && decide ((k 5) ≤ 10000000000))) (by kernel_rfl) (fun h_7 => ?_) (fun h_7 => ?_)
  · simp only [Bool.or_eq_true, Bool.and_eq_true, Bool.or_eq_false_iff, Bool.and_eq_false_iff, Bool.not_eq_true', Bool.not_eq_false', decide_eq_true_eq, decide_eq_false_iff_not, Bool.not_not, ne_eq] at h_7
    refine runE_leaf (xs := [0, 0, 0, 0, 0, 0, 0, 61]) (by kernel_rfl) ?_
    exact stZ61 (by unfold HP; omega) (by unfold VP; omega)
  simp only [Bool.or_eq_true, Bool.and_eq_true, Bool.or_eq_false_iff, Bool.and_eq_false_iff, Bool.not_eq_true', Bool.not_eq_false', decide_eq_true_eq, decide_eq_false_iff_not, Bool.not_not, ne_eq] at h_7
  refine runE_tie (b' := (decide ((-10000000000) ≤ (k 6)) && decide ((k 6) ≤ 10000000000))) (by kernel_rfl) (fun h_8 => ?_) (fun h_8 => ?_)
  · simp only [Bool.or_eq_true, Bool.and_eq_true, Bool.or_eq_false_iff, Bool.and_eq_false_iff, Bool.not_eq_true', Bool.not_eq_false', decide_eq_true_eq, decide_eq_false_iff_not, Bool.not_not, ne_eq] at h_8
    refine runE_leaf (xs := [0, 0, 0, 0, 0, 0, 0, 61]) (by kernel_rfl) ?_
    exact stZ61 (by unfold HP; omega) (by unfold VP; omega)
  simp only [Bool.or_eq_true, Bool.and_eq_true, Bool.or_eq_false_iff, Bool.and_eq_false_iff, Bool.not_eq_true', Bool.not_eq_false', decide_eq_true_eq, decide_eq_false_iff_not, Bool.not_not, ne_eq] at h_8
  refine runE_tie (b' := (decide (0 ≤ (k 7)) && decide ((k 7) ≤ 359999))) (by kernel_rfl) (fun h_9 => ?_) (fun h_9 => ?_)
  · simp only [Bool.or_eq_true, Bool.and_eq_true, Bool.or_eq_false_iff, Bool.and_eq_false_iff, Bool.not_eq_true', Bool.not_eq_false', decide_eq_true_eq, decide_eq_false_iff_not, Bool.not_not, ne_eq] at h_9
    refine runE_leaf (xs := [0, 0, 0, 0, 0, 0, 0, 61]) (by kernel_rfl) ?_
    exact stZ61 (by unfold HP; omega) (by unfold VP; omega)
  simp only [Bool.or_eq_true, Bool.and_eq_true, Bool.or_eq_false_iff, Bool.and_eq_false_iff, Bool.not_eq_true', Bool.not_eq_false', decide_eq_true_eq, decide_eq_false_iff_not, Bool.not_not, ne_eq] at h_9
  refine runE_tie (b' := (decide ((-100000) ≤ (k 8)) && decide ((k 8) ≤ 100000))) (by kernel_rfl) (fun h_10 => ?_) (fun h_10 => ?_)
  · simp only [Bool.or_eq_true, Bool.and_eq_true, Bool.or_eq_false_iff, Bool.and_eq_false_iff, Bool.not_eq_true', Bool.not_eq_false', decide_eq_true_eq, decide_eq_false_iff_not, Bool.not_not, ne_eq] at h_10
    refine runE_leaf (xs := [0, 0, 0, 0, 0, 0, 0, 61]) (by kernel_rfl) ?_
    exact stZ61 (by unfold HP; omega) (by unfold VP; omega)
  simp only [Bool.or_eq_true, Bool.and_eq_true, Bool.or_eq_false_iff, Bool.and_eq_false_iff, Bool.not_eq_true', Bool.not_eq_false', decide_eq_true_eq, decide_eq_false_iff_not, Bool.not_not, ne_eq] at h_10
  refine runE_tie (b' := (decide ((-100000) ≤ (k 9)) && decide ((k 9) ≤ 100000))) (by kernel_rfl) (fun h_11 => ?_) (fun h_11 => ?_)
  · simp only [Bool.or_eq_true, Bool.and_eq_true, Bool.or_eq_false_iff, Bool.and_eq_false_iff, Bool.not_eq_true', Bool.not_eq_false', decide_eq_true_eq, decide_eq_false_iff_not, Bool.not_not, ne_eq] at h_11
    refine runE_leaf (xs := [0, 0, 0, 0, 0, 0, 0, 61]) (by kernel_rfl) ?_
    exact stZ61 (by unfold HP; omega) (by unfold VP; omega)
  simp only [Bool.or_eq_true, Bool.and_eq_true, Bool.or_eq_false_iff, Bool.and_eq_false_iff, Bool.not_eq_true', Bool.not_eq_false', decide_eq_true_eq, decide_eq_false_iff_not, Bool.not_not, ne_eq] at h_11
  refine runE_ite (b' := !((decide ((-10000) ≤ (k 10)) && decide ((k 10) ≤ 10000)))) (by kernel_rfl) (fun h_12 => ?_) (fun h_12 => ?_)
  · simp only [Bool.or_eq_true, Bool.and_eq_true, Bool.or_eq_false_iff, Bool.and_eq_false_iff, Bool.not_eq_true', Bool.not_eq_false', decide_eq_true_eq, decide_eq_false_iff_not, Bool.not_not, ne_eq] at h_12
    refine runE_leaf (xs := [0, 0, 0, 0, 0, 0, 0, 61]) (by kernel_rfl) ?_
    exact stZ61 (by unfold HP; omega) (by unfold VP; omega)
  simp only [Bool.or_eq_true, Bool.and_eq_true, Bool.or_eq_false_iff, Bool.and_eq_false_iff, Bool.not_eq_true', Bool.not_eq_false', decide_eq_true_eq, decide_eq_false_iff_not, Bool.not_not, ne_eq] at h_12
  refine runE_tie (b' := !(!((decide ((-1000000) ≤ (k 11)) && decide ((k 11) ≤ 1000000))))) (by kernel_rfl) (fun h_13 => ?_) (fun h_13 => ?_)
  · simp only [Bool.or_eq_true, Bool.and_eq_true, Bool.or_eq_false_iff, Bool.and_eq_false_iff, Bool.not_eq_true', Bool.not_eq_false', decide_eq_true_eq, decide_eq_false_iff_not, Bool.not_not, ne_eq] at h_13
    refine runE_leaf (xs := [0, 0, 0, 0, 0, 0, 0, 1]) (by kernel_rfl) ?_
    exact stZ1 (by unfold HP; omega) (by unfold VP; omega) (by unfold FP; omega)
  simp only [Bool.or_eq_true, Bool.and_eq_true, Bool.or_eq_false_iff, Bool.and_eq_false_iff, Bool.not_eq_true', Bool.not_eq_false', decide_eq_true_eq, decide_eq_false_iff_not, Bool.not_not, ne_eq] at h_13
  refine runE_tie (b' := !(!((decide ((-1000000) ≤ (k 12)) && decide ((k 12) ≤ 1000000))))) (by kernel_rfl) (fun h_14 => ?_) (fun h_14 => ?_)
  · simp only [Bool.or_eq_true, Bool.and_eq_true, Bool.or_eq_false_iff, Bool.and_eq_false_iff, Bool.not_eq_true', Bool.not_eq_false', decide_eq_true_eq, decide_eq_false_iff_not, Bool.not_not, ne_eq] at h_14
    refine runE_leaf (xs := [0, 0, 0, 0, 0, 0, 0, 1]) (by kernel_rfl) ?_
    exact stZ1 (by unfold HP; omega) (by unfold VP; omega) (by unfold FP; omega)
  simp only [Bool.or_eq_true, Bool.and_eq_true, Bool.or_eq_false_iff, Bool.and_eq_false_iff, Bool.not_eq_true', Bool.not_eq_false', decide_eq_true_eq, decide_eq_false_iff_not, Bool.not_not, ne_eq] at h_14
  refine runE_ite (b' := !((decide ((-1000000) ≤ (k 13)) && decide ((k 13) ≤ 1000000)))) (by kernel_rfl) (fun h_15 => ?_) (fun h_15 => ?_)
  · simp only [Bool.or_eq_true, Bool.and_eq_true, Bool.or_eq_false_iff, Bool.and_eq_false_iff, Bool.not_eq_true', Bool.not_eq_false', decide_eq_true_eq, decide_eq_false_iff_not, Bool.not_not, ne_eq] at h_15
    refine runE_leaf (xs := [0, 0, 0, 0, 0, 0, 0, 1]) (by kernel_rfl) ?_
    exact stZ1 (by unfold HP; omega) (by unfold VP; omega) (by unfold FP; omega)
  simp only [Bool.or_eq_true, Bool.and_eq_true, Bool.or_eq_false_iff, Bool.and_eq_false_iff, Bool.not_eq_true', Bool.not_eq_false', decide_eq_true_eq, decide_eq_false_iff_not, Bool.not_not, ne_eq] at h_15
  refine Eq.trans ?_ (stZ0 ⟨hok, by unfold HP; omega⟩ (by unfold VP; omega) (by unfold FP; omega)).symm
  have m0 := mul_bd (x := (k 2)) (y := (k 8)) (a := 1000000) (b := 100000) (by omega) (by omega) (by omega) (by omega) (by omega) (by omega)
  have m1 := mul_bd (x := (k 2)) (y := (k 9)) (a := 1000000) (b := 100000) (by omega) (by omega) (by omega) (by omega) (by omega) (by omega)
  have m2 := mul_bd (x := (k 3)) (y := (k 10)) (a := 1073741824) (b := 10000) (by omega) (by omega) (by omega) (by omega) (by omega) (by omega)
  have hc := cN_bd (k 1) (k 3) (k 13) (k 7) (k 10)
  refine runE_call (xs := [10000 * (k 11) - (k 2) * (k 8), (k 0)]) (R := [halfZ (10000 * (k 11) - (k 2) * (k 8)) (k 0)]) (by kernel_rfl) (r25 hg (by omega)) rfl ?_
  refine runE_call (xs := [10000 * (k 12) - (k 2) * (k 9), (k 0)]) (R := [halfZ (10000 * (k 12) - (k 2) * (k 9)) (k 0)]) (by kernel_rfl) (r25 hg (by omega)) rfl ?_
  refine runE_call (xs := [10000 * (k 13) - (k 3) * (k 10), (k 1)]) (R := [halfZ (10000 * (k 13) - (k 3) * (k 10)) (k 1)]) (by kernel_rfl) (r24 hg (by omega)) rfl ?_
  refine runE_tie (b' := decide ((((k 7) + (nsZ (k 10) (k 3) (k 13) (k 1)))).tmod (360000) < 0)) (by kernel_rfl) (fun h_16 => ?_) (fun h_16 => ?_)
  · simp only [Bool.or_eq_true, Bool.and_eq_true, Bool.or_eq_false_iff, Bool.and_eq_false_iff, Bool.not_eq_true', Bool.not_eq_false', decide_eq_true_eq, decide_eq_false_iff_not, Bool.not_not, ne_eq] at h_16
    refine runE_call (xs := [(((((k 7) + (nsZ (k 10) (k 3) (k 13) (k 1)))).tmod (360000)).tmod (360000)).tdiv (100)]) (R := [(sinN ((hN (k 1) (k 3) (k 13) (k 7) (k 10)) + 900))]) (by kernel_rfl) (r31 hg ((h_pos (C := (k 7)) (n := (nsZ (k 10) (k 3) (k 13) (k 1))) (x := (cN (k 1) (k 3) (k 13) (k 7) (k 10))) rfl (by omega)).2.trans (hN_eq _ _ _ _ _)) (hN_pos _ _ _ _ _)) rfl ?_
    refine runE_call (xs := [(((((k 7) + (nsZ (k 10) (k 3) (k 13) (k 1)))).tmod (360000)).tmod (360000)).tdiv (100)]) (R := [(sinN (hN (k 1) (k 3) (k 13) (k 7) (k 10)))]) (by kernel_rfl) (r30 hg ((h_pos (C := (k 7)) (n := (nsZ (k 10) (k 3) (k 13) (k 1))) (x := (cN (k 1) (k 3) (k 13) (k 7) (k 10))) rfl (by omega)).2.trans (hN_eq _ _ _ _ _)) (hN_pos _ _ _ _ _)) rfl ?_
    refine runE_call (xs := [(((nsZ (k 8) (k 2) (k 11) (k 0)) * (sinN ((hN (k 1) (k 3) (k 13) (k 7) (k 10)) + 900))) - ((nsZ (k 9) (k 2) (k 12) (k 0)) * (sinN (hN (k 1) (k 3) (k 13) (k 7) (k 10))))), 10000]) (R := [(dX (nsZ (k 8) (k 2) (k 11) (k 0)) (nsZ (k 9) (k 2) (k 12) (k 0)) (hN (k 1) (k 3) (k 13) (k 7) (k 10)))]) (by kernel_rfl) (r26 hg _) rfl ?_
    refine runE_call (xs := [(((nsZ (k 8) (k 2) (k 11) (k 0)) * (sinN (hN (k 1) (k 3) (k 13) (k 7) (k 10)))) + ((nsZ (k 9) (k 2) (k 12) (k 0)) * (sinN ((hN (k 1) (k 3) (k 13) (k 7) (k 10)) + 900)))), 10000]) (R := [(dY (nsZ (k 8) (k 2) (k 11) (k 0)) (nsZ (k 9) (k 2) (k 12) (k 0)) (hN (k 1) (k 3) (k 13) (k 7) (k 10)))]) (by kernel_rfl) (r26 hg _) rfl ?_
    refine runE_tie (b' := decide (((k 4) + 1) ≤ 2147483648)) (by kernel_rfl) (fun h_17 => ?_) (fun h_17 => ?_)
    · simp only [Bool.or_eq_true, Bool.and_eq_true, Bool.or_eq_false_iff, Bool.and_eq_false_iff, Bool.not_eq_true', Bool.not_eq_false', decide_eq_true_eq, decide_eq_false_iff_not, Bool.not_not, ne_eq] at h_17
      refine runE_leaf (xs := [0, 0, 0, 0, 0, 0, 0, 2]) (by kernel_rfl) ?_
      exact mvR2 (by unfold VP; omega)
    simp only [Bool.or_eq_true, Bool.and_eq_true, Bool.or_eq_false_iff, Bool.and_eq_false_iff, Bool.not_eq_true', Bool.not_eq_false', decide_eq_true_eq, decide_eq_false_iff_not, Bool.not_not, ne_eq] at h_17
    refine runE_tie (b' := (decide ((-10000000000) ≤ (xN (k 0) (k 1) (k 2) (k 3) (k 11) (k 12) (k 13) (k 5) (k 7) (k 8) (k 9) (k 10))) && decide ((xN (k 0) (k 1) (k 2) (k 3) (k 11) (k 12) (k 13) (k 5) (k 7) (k 8) (k 9) (k 10)) ≤ 10000000000))) (by kernel_rfl) (fun h_18 => ?_) (fun h_18 => ?_)
    · simp only [Bool.or_eq_true, Bool.and_eq_true, Bool.or_eq_false_iff, Bool.and_eq_false_iff, Bool.not_eq_true', Bool.not_eq_false', decide_eq_true_eq, decide_eq_false_iff_not, Bool.not_not, ne_eq] at h_18
      refine runE_leaf (xs := [0, 0, 0, 0, 0, 0, 0, 2]) (by kernel_rfl) ?_
      exact mvR2 (by unfold VP; omega)
    simp only [Bool.or_eq_true, Bool.and_eq_true, Bool.or_eq_false_iff, Bool.and_eq_false_iff, Bool.not_eq_true', Bool.not_eq_false', decide_eq_true_eq, decide_eq_false_iff_not, Bool.not_not, ne_eq] at h_18
    refine runE_tie (b' := (decide ((-10000000000) ≤ (yN (k 0) (k 1) (k 2) (k 3) (k 11) (k 12) (k 13) (k 6) (k 7) (k 8) (k 9) (k 10))) && decide ((yN (k 0) (k 1) (k 2) (k 3) (k 11) (k 12) (k 13) (k 6) (k 7) (k 8) (k 9) (k 10)) ≤ 10000000000))) (by kernel_rfl) (fun h_19 => ?_) (fun h_19 => ?_)
    · simp only [Bool.or_eq_true, Bool.and_eq_true, Bool.or_eq_false_iff, Bool.and_eq_false_iff, Bool.not_eq_true', Bool.not_eq_false', decide_eq_true_eq, decide_eq_false_iff_not, Bool.not_not, ne_eq] at h_19
      refine runE_leaf (xs := [0, 0, 0, 0, 0, 0, 0, 2]) (by kernel_rfl) ?_
      exact mvR2 (by unfold VP; omega)
    simp only [Bool.or_eq_true, Bool.and_eq_true, Bool.or_eq_false_iff, Bool.and_eq_false_iff, Bool.not_eq_true', Bool.not_eq_false', decide_eq_true_eq, decide_eq_false_iff_not, Bool.not_not, ne_eq] at h_19
    refine runE_tie (b' := (decide ((-100000) ≤ (nsZ (k 8) (k 2) (k 11) (k 0))) && decide ((nsZ (k 8) (k 2) (k 11) (k 0)) ≤ 100000))) (by kernel_rfl) (fun h_20 => ?_) (fun h_20 => ?_)
    · simp only [Bool.or_eq_true, Bool.and_eq_true, Bool.or_eq_false_iff, Bool.and_eq_false_iff, Bool.not_eq_true', Bool.not_eq_false', decide_eq_true_eq, decide_eq_false_iff_not, Bool.not_not, ne_eq] at h_20
      refine runE_leaf (xs := [0, 0, 0, 0, 0, 0, 0, 2]) (by kernel_rfl) ?_
      exact mvR2 (by unfold VP; omega)
    simp only [Bool.or_eq_true, Bool.and_eq_true, Bool.or_eq_false_iff, Bool.and_eq_false_iff, Bool.not_eq_true', Bool.not_eq_false', decide_eq_true_eq, decide_eq_false_iff_not, Bool.not_not, ne_eq] at h_20
    refine runE_tie (b' := (decide ((-100000) ≤ (nsZ (k 9) (k 2) (k 12) (k 0))) && decide ((nsZ (k 9) (k 2) (k 12) (k 0)) ≤ 100000))) (by kernel_rfl) (fun h_21 => ?_) (fun h_21 => ?_)
    · simp only [Bool.or_eq_true, Bool.and_eq_true, Bool.or_eq_false_iff, Bool.and_eq_false_iff, Bool.not_eq_true', Bool.not_eq_false', decide_eq_true_eq, decide_eq_false_iff_not, Bool.not_not, ne_eq] at h_21
      refine runE_leaf (xs := [0, 0, 0, 0, 0, 0, 0, 2]) (by kernel_rfl) ?_
      exact mvR2 (by unfold VP; omega)
    simp only [Bool.or_eq_true, Bool.and_eq_true, Bool.or_eq_false_iff, Bool.and_eq_false_iff, Bool.not_eq_true', Bool.not_eq_false', decide_eq_true_eq, decide_eq_false_iff_not, Bool.not_not, ne_eq] at h_21
    refine runE_ite (b' := !((decide ((-10000) ≤ (nsZ (k 10) (k 3) (k 13) (k 1))) && decide ((nsZ (k 10) (k 3) (k 13) (k 1)) ≤ 10000)))) (by kernel_rfl) (fun h_22 => ?_) (fun h_22 => ?_)
    · simp only [Bool.or_eq_true, Bool.and_eq_true, Bool.or_eq_false_iff, Bool.and_eq_false_iff, Bool.not_eq_true', Bool.not_eq_false', decide_eq_true_eq, decide_eq_false_iff_not, Bool.not_not, ne_eq] at h_22
      refine runE_leaf (xs := [0, 0, 0, 0, 0, 0, 0, 2]) (by kernel_rfl) ?_
      exact mvR2 (by unfold VP; omega)
    simp only [Bool.or_eq_true, Bool.and_eq_true, Bool.or_eq_false_iff, Bool.and_eq_false_iff, Bool.not_eq_true', Bool.not_eq_false', decide_eq_true_eq, decide_eq_false_iff_not, Bool.not_not, ne_eq] at h_22
    refine runE_leaf (xs := [((k 4) + 1), (xN (k 0) (k 1) (k 2) (k 3) (k 11) (k 12) (k 13) (k 5) (k 7) (k 8) (k 9) (k 10)), (yN (k 0) (k 1) (k 2) (k 3) (k 11) (k 12) (k 13) (k 6) (k 7) (k 8) (k 9) (k 10)), (((k 7) + (nsZ (k 10) (k 3) (k 13) (k 1)))).tmod (360000), (nsZ (k 8) (k 2) (k 11) (k 0)), (nsZ (k 9) (k 2) (k 12) (k 0)), (nsZ (k 10) (k 3) (k 13) (k 1)), 0]) (by kernel_rfl) ?_
    rw [(h_pos (C := (k 7)) (n := (nsZ (k 10) (k 3) (k 13) (k 1))) (x := (cN (k 1) (k 3) (k 13) (k 7) (k 10))) rfl (by omega)).1]
    exact mvR0 (by unfold VP; omega)
  simp only [Bool.or_eq_true, Bool.and_eq_true, Bool.or_eq_false_iff, Bool.and_eq_false_iff, Bool.not_eq_true', Bool.not_eq_false', decide_eq_true_eq, decide_eq_false_iff_not, Bool.not_not, ne_eq] at h_16
  refine runE_call (xs := [((((((k 7) + (nsZ (k 10) (k 3) (k 13) (k 1)))).tmod (360000) + 360000)).tmod (360000)).tdiv (100)]) (R := [(sinN ((hN (k 1) (k 3) (k 13) (k 7) (k 10)) + 900))]) (by kernel_rfl) (r31 hg ((h_neg (C := (k 7)) (n := (nsZ (k 10) (k 3) (k 13) (k 1))) (x := (cN (k 1) (k 3) (k 13) (k 7) (k 10))) rfl h_16).2.trans (hN_eq _ _ _ _ _)) (hN_pos _ _ _ _ _)) rfl ?_
  refine runE_call (xs := [((((((k 7) + (nsZ (k 10) (k 3) (k 13) (k 1)))).tmod (360000) + 360000)).tmod (360000)).tdiv (100)]) (R := [(sinN (hN (k 1) (k 3) (k 13) (k 7) (k 10)))]) (by kernel_rfl) (r30 hg ((h_neg (C := (k 7)) (n := (nsZ (k 10) (k 3) (k 13) (k 1))) (x := (cN (k 1) (k 3) (k 13) (k 7) (k 10))) rfl h_16).2.trans (hN_eq _ _ _ _ _)) (hN_pos _ _ _ _ _)) rfl ?_
  refine runE_call (xs := [(((nsZ (k 8) (k 2) (k 11) (k 0)) * (sinN ((hN (k 1) (k 3) (k 13) (k 7) (k 10)) + 900))) - ((nsZ (k 9) (k 2) (k 12) (k 0)) * (sinN (hN (k 1) (k 3) (k 13) (k 7) (k 10))))), 10000]) (R := [(dX (nsZ (k 8) (k 2) (k 11) (k 0)) (nsZ (k 9) (k 2) (k 12) (k 0)) (hN (k 1) (k 3) (k 13) (k 7) (k 10)))]) (by kernel_rfl) (r26 hg _) rfl ?_
  refine runE_call (xs := [(((nsZ (k 8) (k 2) (k 11) (k 0)) * (sinN (hN (k 1) (k 3) (k 13) (k 7) (k 10)))) + ((nsZ (k 9) (k 2) (k 12) (k 0)) * (sinN ((hN (k 1) (k 3) (k 13) (k 7) (k 10)) + 900)))), 10000]) (R := [(dY (nsZ (k 8) (k 2) (k 11) (k 0)) (nsZ (k 9) (k 2) (k 12) (k 0)) (hN (k 1) (k 3) (k 13) (k 7) (k 10)))]) (by kernel_rfl) (r26 hg _) rfl ?_
  refine runE_tie (b' := decide (((k 4) + 1) ≤ 2147483648)) (by kernel_rfl) (fun h_23 => ?_) (fun h_23 => ?_)
  · simp only [Bool.or_eq_true, Bool.and_eq_true, Bool.or_eq_false_iff, Bool.and_eq_false_iff, Bool.not_eq_true', Bool.not_eq_false', decide_eq_true_eq, decide_eq_false_iff_not, Bool.not_not, ne_eq] at h_23
    refine runE_leaf (xs := [0, 0, 0, 0, 0, 0, 0, 2]) (by kernel_rfl) ?_
    exact mvR2 (by unfold VP; omega)
  simp only [Bool.or_eq_true, Bool.and_eq_true, Bool.or_eq_false_iff, Bool.and_eq_false_iff, Bool.not_eq_true', Bool.not_eq_false', decide_eq_true_eq, decide_eq_false_iff_not, Bool.not_not, ne_eq] at h_23
  refine runE_tie (b' := (decide ((-10000000000) ≤ (xN (k 0) (k 1) (k 2) (k 3) (k 11) (k 12) (k 13) (k 5) (k 7) (k 8) (k 9) (k 10))) && decide ((xN (k 0) (k 1) (k 2) (k 3) (k 11) (k 12) (k 13) (k 5) (k 7) (k 8) (k 9) (k 10)) ≤ 10000000000))) (by kernel_rfl) (fun h_24 => ?_) (fun h_24 => ?_)
  · simp only [Bool.or_eq_true, Bool.and_eq_true, Bool.or_eq_false_iff, Bool.and_eq_false_iff, Bool.not_eq_true', Bool.not_eq_false', decide_eq_true_eq, decide_eq_false_iff_not, Bool.not_not, ne_eq] at h_24
    refine runE_leaf (xs := [0, 0, 0, 0, 0, 0, 0, 2]) (by kernel_rfl) ?_
    exact mvR2 (by unfold VP; omega)
  simp only [Bool.or_eq_true, Bool.and_eq_true, Bool.or_eq_false_iff, Bool.and_eq_false_iff, Bool.not_eq_true', Bool.not_eq_false', decide_eq_true_eq, decide_eq_false_iff_not, Bool.not_not, ne_eq] at h_24
  refine runE_tie (b' := (decide ((-10000000000) ≤ (yN (k 0) (k 1) (k 2) (k 3) (k 11) (k 12) (k 13) (k 6) (k 7) (k 8) (k 9) (k 10))) && decide ((yN (k 0) (k 1) (k 2) (k 3) (k 11) (k 12) (k 13) (k 6) (k 7) (k 8) (k 9) (k 10)) ≤ 10000000000))) (by kernel_rfl) (fun h_25 => ?_) (fun h_25 => ?_)
  · simp only [Bool.or_eq_true, Bool.and_eq_true, Bool.or_eq_false_iff, Bool.and_eq_false_iff, Bool.not_eq_true', Bool.not_eq_false', decide_eq_true_eq, decide_eq_false_iff_not, Bool.not_not, ne_eq] at h_25
    refine runE_leaf (xs := [0, 0, 0, 0, 0, 0, 0, 2]) (by kernel_rfl) ?_
    exact mvR2 (by unfold VP; omega)
  simp only [Bool.or_eq_true, Bool.and_eq_true, Bool.or_eq_false_iff, Bool.and_eq_false_iff, Bool.not_eq_true', Bool.not_eq_false', decide_eq_true_eq, decide_eq_false_iff_not, Bool.not_not, ne_eq] at h_25
  refine runE_tie (b' := (decide ((-100000) ≤ (nsZ (k 8) (k 2) (k 11) (k 0))) && decide ((nsZ (k 8) (k 2) (k 11) (k 0)) ≤ 100000))) (by kernel_rfl) (fun h_26 => ?_) (fun h_26 => ?_)
  · simp only [Bool.or_eq_true, Bool.and_eq_true, Bool.or_eq_false_iff, Bool.and_eq_false_iff, Bool.not_eq_true', Bool.not_eq_false', decide_eq_true_eq, decide_eq_false_iff_not, Bool.not_not, ne_eq] at h_26
    refine runE_leaf (xs := [0, 0, 0, 0, 0, 0, 0, 2]) (by kernel_rfl) ?_
    exact mvR2 (by unfold VP; omega)
  simp only [Bool.or_eq_true, Bool.and_eq_true, Bool.or_eq_false_iff, Bool.and_eq_false_iff, Bool.not_eq_true', Bool.not_eq_false', decide_eq_true_eq, decide_eq_false_iff_not, Bool.not_not, ne_eq] at h_26
  refine runE_tie (b' := (decide ((-100000) ≤ (nsZ (k 9) (k 2) (k 12) (k 0))) && decide ((nsZ (k 9) (k 2) (k 12) (k 0)) ≤ 100000))) (by kernel_rfl) (fun h_27 => ?_) (fun h_27 => ?_)
  · simp only [Bool.or_eq_true, Bool.and_eq_true, Bool.or_eq_false_iff, Bool.and_eq_false_iff, Bool.not_eq_true', Bool.not_eq_false', decide_eq_true_eq, decide_eq_false_iff_not, Bool.not_not, ne_eq] at h_27
    refine runE_leaf (xs := [0, 0, 0, 0, 0, 0, 0, 2]) (by kernel_rfl) ?_
    exact mvR2 (by unfold VP; omega)
  simp only [Bool.or_eq_true, Bool.and_eq_true, Bool.or_eq_false_iff, Bool.and_eq_false_iff, Bool.not_eq_true', Bool.not_eq_false', decide_eq_true_eq, decide_eq_false_iff_not, Bool.not_not, ne_eq] at h_27
  refine runE_ite (b' := !((decide ((-10000) ≤ (nsZ (k 10) (k 3) (k 13) (k 1))) && decide ((nsZ (k 10) (k 3) (k 13) (k 1)) ≤ 10000)))) (by kernel_rfl) (fun h_28 => ?_) (fun h_28 => ?_)
  · simp only [Bool.or_eq_true, Bool.and_eq_true, Bool.or_eq_false_iff, Bool.and_eq_false_iff, Bool.not_eq_true', Bool.not_eq_false', decide_eq_true_eq, decide_eq_false_iff_not, Bool.not_not, ne_eq] at h_28
    refine runE_leaf (xs := [0, 0, 0, 0, 0, 0, 0, 2]) (by kernel_rfl) ?_
    exact mvR2 (by unfold VP; omega)
  simp only [Bool.or_eq_true, Bool.and_eq_true, Bool.or_eq_false_iff, Bool.and_eq_false_iff, Bool.not_eq_true', Bool.not_eq_false', decide_eq_true_eq, decide_eq_false_iff_not, Bool.not_not, ne_eq] at h_28
  refine runE_leaf (xs := [((k 4) + 1), (xN (k 0) (k 1) (k 2) (k 3) (k 11) (k 12) (k 13) (k 5) (k 7) (k 8) (k 9) (k 10)), (yN (k 0) (k 1) (k 2) (k 3) (k 11) (k 12) (k 13) (k 6) (k 7) (k 8) (k 9) (k 10)), ((((k 7) + (nsZ (k 10) (k 3) (k 13) (k 1)))).tmod (360000) + 360000), (nsZ (k 8) (k 2) (k 11) (k 0)), (nsZ (k 9) (k 2) (k 12) (k 0)), (nsZ (k 10) (k 3) (k 13) (k 1)), 0]) (by kernel_rfl) ?_
  rw [(h_neg (C := (k 7)) (n := (nsZ (k 10) (k 3) (k 13) (k 1))) (x := (cN (k 1) (k 3) (k 13) (k 7) (k 10))) rfl h_16).1]
  exact mvR0 (by unfold VP; omega)
end
end Go.Proofs.Ytnnnmdmniceenaa
