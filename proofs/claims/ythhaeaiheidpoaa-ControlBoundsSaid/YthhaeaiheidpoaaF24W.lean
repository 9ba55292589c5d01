/- A controller: what is valid, what it demands, and the contracts' shapes. -/
import Derived.Test.YthhaeaiheidpoaaF24L
set_option linter.unusedSimpArgs false
set_option linter.unusedVariables false
namespace Go.Proofs.Ythhaeaiheidpoaa
open Ev
def gnsOK (a b c d e f g h i : Int) : Prop := (0 ≤ a ∧ a ≤ 100000) ∧ (0 ≤ b ∧ b ≤ 100000) ∧ (0 ≤ c ∧ c ≤ 100000) ∧ (0 ≤ d ∧ d ≤ 100000) ∧ (0 ≤ e ∧ e ≤ 100000) ∧ (0 ≤ f ∧ f ≤ 100000) ∧ (0 ≤ g ∧ g ≤ 10000000) ∧ (0 ≤ h ∧ h ≤ 5000) ∧ (0 ≤ i ∧ i ≤ 500000)
instance (a b c d e f g h i : Int) : Decidable (gnsOK a b c d e f g h i) := by unfold gnsOK; infer_instance
abbrev ptOK (x y : Int) : Prop := -100000000 ≤ x ∧ x ≤ 100000000 ∧ -100000000 ≤ y ∧ y ≤ 100000000
def kprOK (m x y h lx ly hd : Int) : Prop := (-m ≤ x ∧ x ≤ m) ∧ (-m ≤ y ∧ y ≤ m) ∧ (-m ≤ h ∧ h ≤ m) ∧ ptOK lx ly ∧ 0 ≤ hd ∧ hd < 3600
instance (m x y h lx ly hd : Int) : Decidable (kprOK m x y h lx ly hd) := by unfold kprOK; infer_instance
abbrev kpr : Sh := .agg [some .i64, some .i64, some .i64, some .i64, some .i64, some .i64, none]
abbrev frc : Sh := .agg [some .i64, some .i64, some .i64]
/-- Whether a keeper is valid for gains. -/
def vldS (a b c d e f g h i x y z lx ly hd : Int) : Int := if gnsOK a b c d e f g h i ∧ kprOK g x y z lx ly hd then 1 else 0
def gVld (l : List Int) : List Int := [vldS (l.getD 0 0) (l.getD 1 0) (l.getD 2 0) (l.getD 3 0) (l.getD 4 0) (l.getD 5 0) (l.getD 6 0) (l.getD 7 0) (l.getD 8 0) (l.getD 9 0) (l.getD 10 0) (l.getD 11 0) (l.getD 12 0) (l.getD 13 0) (l.getD 14 0)]
def cVld : PC := { args := [gns, kpr], res := [boolS], key := 24, dom := [r64, r64, r64, r64, r64, r64, r64, r64, r64, r64, r64, r64, r64, r64, r64, r01], rng := [r01] }
/-- What is demanded in one direction: the gains, the distance, the new sum, the way, the most. -/
def ansS (g s c a x u m : Int) : Int := cutS (rndS (g * a + s * x - c * u) 1000) m
def demOK (m x y h lx ly hd px py a tx ty th : Int) : Prop := kprOK m x y h lx ly hd ∧ ptOK px py ∧ ptOK tx ty ∧ (0 ≤ a ∧ a < 3600) ∧ 0 ≤ th ∧ th < 3600
instance (m x y h lx ly hd px py a tx ty th : Int) : Decidable (demOK m x y h lx ly hd px py a tx ty th) := by unfold demOK; infer_instance
def demV (n s c p d t ms mf my x y h lx ly hd se px py a tx ty th : Int) : List Int :=
  [ansS n s c (bodyA px py tx ty a) (cutS (x + bodyA px py tx ty a) ms) (if se ≠ 0 then bodyA lx ly px py a else 0) mf,
   ansS n s c (bodyR px py tx ty a) (cutS (y + bodyR px py tx ty a) ms) (if se ≠ 0 then bodyR lx ly px py a else 0) mf,
   ansS p d t (sgnS (th - a)) (cutS (h + sgnS (th - a)) ms) (if se ≠ 0 then sgnS (a - hd) else 0) my,
   cutS (x + bodyA px py tx ty a) ms, cutS (y + bodyR px py tx ty a) ms, cutS (h + sgnS (th - a)) ms, px, py, a, 1, 0]
def demE (e : Int) : List Int := [0, 0, 0, 0, 0, 0, 0, 0, 0, 0, e]
def demS (n s c p d t ms mf my x y h lx ly hd se px py a tx ty th : Int) : List Int :=
  if gnsOK n s c p d t ms mf my then if demOK ms x y h lx ly hd px py a tx ty th then demV n s c p d t ms mf my x y h lx ly hd se px py a tx ty th else demE 1 else demE 62
def gDem (l : List Int) : List Int := demS (l.getD 0 0) (l.getD 1 0) (l.getD 2 0) (l.getD 3 0) (l.getD 4 0) (l.getD 5 0) (l.getD 6 0) (l.getD 7 0) (l.getD 8 0) (l.getD 9 0) (l.getD 10 0) (l.getD 11 0) (l.getD 12 0) (l.getD 13 0) (l.getD 14 0) (l.getD 15 0) (l.getD 16 0) (l.getD 17 0) (l.getD 18 0) (l.getD 19 0) (l.getD 20 0) (l.getD 21 0)
def cDem : PC := { args := [gns, kpr, pt, i64, frc], res := [frc, kpr, i64], key := 25,
                   dom := [r64, r64, r64, r64, r64, r64, r64, r64, r64, r64, r64, r64, r64, r64, r64, r01, r64, r64, r64, r64, r64, r64],
                   rng := [(-5000, 5000), (-5000, 5000), (-500000, 500000), (-10000000, 10000000), (-10000000, 10000000), (-10000000, 10000000), rP, rP, (0, 3599), r01, (0, 62)] }
theorem vld_cases (a b c d e f g h i x y z lx ly hd : Int) : (((0 ≤ a ∧ a ≤ 100000) ∧ (0 ≤ b ∧ b ≤ 100000) ∧ (0 ≤ c ∧ c ≤ 100000) ∧ (0 ≤ d ∧ d ≤ 100000) ∧ (0 ≤ e ∧ e ≤ 100000) ∧ (0 ≤ f ∧ f ≤ 100000) ∧ (0 ≤ g ∧ g ≤ 10000000) ∧ (0 ≤ h ∧ h ≤ 5000) ∧ (0 ≤ i ∧ i ≤ 500000)) ∧
    ((-g ≤ x ∧ x ≤ g) ∧ (-g ≤ y ∧ y ≤ g) ∧ (-g ≤ z ∧ z ≤ g) ∧ (-100000000 ≤ lx ∧ lx ≤ 100000000 ∧ -100000000 ≤ ly ∧ ly ≤ 100000000) ∧ 0 ≤ hd ∧ hd < 3600)) ∧ vldS a b c d e f g h i x y z lx ly hd = 1 ∨
    ¬ (((0 ≤ a ∧ a ≤ 100000) ∧ (0 ≤ b ∧ b ≤ 100000) ∧ (0 ≤ c ∧ c ≤ 100000) ∧ (0 ≤ d ∧ d ≤ 100000) ∧ (0 ≤ e ∧ e ≤ 100000) ∧ (0 ≤ f ∧ f ≤ 100000) ∧ (0 ≤ g ∧ g ≤ 10000000) ∧ (0 ≤ h ∧ h ≤ 5000) ∧ (0 ≤ i ∧ i ≤ 500000)) ∧
    ((-g ≤ x ∧ x ≤ g) ∧ (-g ≤ y ∧ y ≤ g) ∧ (-g ≤ z ∧ z ≤ g) ∧ (-100000000 ≤ lx ∧ lx ≤ 100000000 ∧ -100000000 ≤ ly ∧ ly ≤ 100000000) ∧ 0 ≤ hd ∧ hd < 3600)) ∧ vldS a b c d e f g h i x y z lx ly hd = 0 := by
  unfold vldS
  split
  · rename_i h; exact .inl ⟨h, rfl⟩
  · rename_i h; exact .inr ⟨h, rfl⟩
theorem cutS_bd {x m : Int} (h : 0 ≤ m) : -m ≤ cutS x m ∧ cutS x m ≤ m := by unfold cutS; omega
theorem dem_bad1 {n s c p d t ms mf my x y h lx ly hd se px py a tx ty th : Int} (hn : ¬ gnsOK n s c p d t ms mf my) : demS n s c p d t ms mf my x y h lx ly hd se px py a tx ty th = demE 62 := if_neg hn
theorem dem_bad2 {n s c p d t ms mf my x y h lx ly hd se px py a tx ty th : Int} (hn : gnsOK n s c p d t ms mf my) (hd' : ¬ demOK ms x y h lx ly hd px py a tx ty th) : demS n s c p d t ms mf my x y h lx ly hd se px py a tx ty th = demE 1 := by
  unfold demS; rw [if_pos hn, if_neg hd']
theorem dem_good {n s c p d t ms mf my x y h lx ly hd se px py a tx ty th : Int} (hn : gnsOK n s c p d t ms mf my) (hd' : demOK ms x y h lx ly hd px py a tx ty th) : demS n s c p d t ms mf my x y h lx ly hd se px py a tx ty th = demV n s c p d t ms mf my x y h lx ly hd se px py a tx ty th := by
  unfold demS; rw [if_pos hn, if_pos hd']
theorem dem_rng (n s c p d t ms mf my x y h lx ly hd se px py a tx ty th : Int) : RngOK cDem.rng (demS n s c p d t ms mf my x y h lx ly hd se px py a tx ty th) := by
  unfold demS
  split
  · rename_i hg
    split
    · rename_i hd'
      unfold gnsOK at hg
      unfold demOK at hd'
      have b1 := cutS_bd (x := x + bodyA px py tx ty a) (m := ms) (by omega)
      have b2 := cutS_bd (x := y + bodyR px py tx ty a) (m := ms) (by omega)
      have b3 := cutS_bd (x := h + sgnS (th - a)) (m := ms) (by omega)
      refine ⟨?_, ?_, ?_, ?_, ?_, ?_, ?_, ?_, ?_, ⟨by decide, by decide⟩, ⟨by decide, by decide⟩, trivial⟩
      · have := cutS_bd (x := rndS (n * (bodyA px py tx ty a) + s * (cutS (x + bodyA px py tx ty a) ms) - c * (if se ≠ 0 then bodyA lx ly px py a else 0)) 1000) (m := mf) (by omega)
        unfold ansS; omega
      · have := cutS_bd (x := rndS (n * (bodyR px py tx ty a) + s * (cutS (y + bodyR px py tx ty a) ms) - c * (if se ≠ 0 then bodyR lx ly px py a else 0)) 1000) (m := mf) (by omega)
        unfold ansS; omega
      · have := cutS_bd (x := rndS (p * (sgnS (th - a)) + d * (cutS (h + sgnS (th - a)) ms) - t * (if se ≠ 0 then sgnS (a - hd) else 0)) 1000) (m := my) (by omega)
        unfold ansS; omega
      · omega
      · omega
      · omega
      · exact ⟨hd'.2.1.1, hd'.2.1.2.1⟩
      · exact ⟨hd'.2.1.2.2.1, hd'.2.1.2.2.2⟩
      · omega
    · simp [demE, RngOK, cDem]
  · simp [demE, RngOK, cDem]
def zDem (e : Int) : SV := .tup [(.agg [(.int .i64 (.lit 0)), (.int .i64 (.lit 0)), (.int .i64 (.lit 0))]), (.agg [(.int .i64 (.lit 0)), (.int .i64 (.lit 0)), (.int .i64 (.lit 0)), (.int .i64 (.lit 0)), (.int .i64 (.lit 0)), (.int .i64 (.lit 0)), (.bool (.lit false))]), (.int .i64 (.lit e))]
theorem zDem_ok {l : List Int} {e : Int} (h : l = demE e) (ρ : List Int) : LVal (retV cDem.res l) ρ (zDem e, [], []) := by
  subst h
  intro η
  simp [zDem, demE, cDem, denV, denL, denB, den, retV, shsV, shV, cellV, cellsV, Sh.w]
theorem cut_if (t m : Int) : (if -m < (if m < t then m else t) then (if m < t then m else t) else -m) = cutS t m := by
  unfold cutS
  repeat' split
  all_goals omega
theorem body_in {px py tx ty a : Int} (h1 : ptOK px py) (h2 : ptOK tx ty) (h3 : 0 ≤ a) (h4 : a < 3600) : bodyS px py tx ty a = [bodyA px py tx ty a, bodyR px py tx ty a] := by
  unfold bodyS
  rw [if_pos ⟨decide_eq_true h1, decide_eq_true h2, h3, h4⟩]
end Go.Proofs.Ythhaeaiheidpoaa
