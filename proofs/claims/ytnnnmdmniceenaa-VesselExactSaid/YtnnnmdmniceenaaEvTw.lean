/- Trees whose tests compare what two functions give: a check that the kernel does. -/
import Derived.Test.YtnnnmdmniceenaaEvZ
import Derived.Test.YtnnnmdmniceenaaOkJ
import Derived.Test.YtnnnmdmniceenaaEvW
set_option linter.unusedSimpArgs false
set_option linter.unusedVariables false
namespace Go.Proofs.Ytnnnmdmniceenaa
open Go.RowKit Ev
namespace Ev
/-- Two functions that give the same of arguments whose first numbers are the same, in their ranges. -/
structure Tw where
  k' : Nat
  k : Nat
  p : Nat
  rg' : List (Int × Int)
  rg : List (Int × Int)
def TwOK (g : Nat → List Int → List Int) (w : Tw) : Prop := ∀ xs xs' : List Int, xs.take w.p = xs'.take w.p → xs'.length = w.rg'.length → xs.length = w.rg.length → RngOK w.rg' xs' → RngOK w.rg xs → g w.k' xs' = g w.k xs
abbrev Eqs := List (Nat × Nat × Nat)
abbrev Hs := List (Nat × List E × Nat × Nat)
def sv : Eqs → Nat → Nat
  | [], i => i
  | (n, n0, m) :: r, i => match Nat.ble n i && Nat.blt i (n + m) with
    | true => n0 + (i - n)
    | false => sv r i
def sE (q : Eqs) : E → E
  | .lit z => .lit z
  | .v i => .v (sv q i)
  | .add a b => .add (sE q a) (sE q b)
  | .sub a b => .sub (sE q a) (sE q b)
  | .mul a b => .mul (sE q a) (sE q b)
  | .quo a b => .quo (sE q a) (sE q b)
  | .rem a b => .rem (sE q a) (sE q b)
  | .mx a b => .mx (sE q a) (sE q b)
  | .mn a b => .mn (sE q a) (sE q b)
  | .sw i k a b => .sw (sE q i) k (sE q a) (sE q b)
  | .wr k a => .wr k (sE q a)
def sB (q : Eqs) : B → B
  | .lit b => .lit b
  | .eq a b => .eq (sE q a) (sE q b)
  | .le a b => .le (sE q a) (sE q b)
  | .lt a b => .lt (sE q a) (sE q b)
  | .nz a => .nz (sE q a)
  | .not a => .not (sB q a)
  | .and a b => .and (sB q a) (sB q b)
  | .or a b => .or (sB q a) (sB q b)
  | .iff a b => .iff (sB q a) (sB q b)
def EqOK (n : Nat) (ρ : List Int) (q : Eqs) : Prop := ∀ p ∈ q, p.1 + p.2.2 ≤ n ∧ p.2.1 + p.2.2 ≤ n ∧ ∀ j, j < p.2.2 → ρ.getD (p.2.1 + j) 0 = ρ.getD (p.1 + j) 0
theorem sv_ok {n : Nat} {ρ : List Int} : ∀ {q : Eqs}, EqOK n ρ q → ∀ i, ρ.getD (sv q i) 0 = ρ.getD i 0
  | [], _, _ => rfl
  | (n1, n0, m) :: r, h, i => by
    unfold sv
    split
    · rename_i hc
      simp only [Bool.and_eq_true] at hc
      have h1 := ble_iff.1 hc.1
      have h2 := blt_iff.1 hc.2
      have := (h _ (List.mem_cons_self ..)).2.2 (i - n1) (by show i - n1 < m; omega)
      rw [this]
      show ρ.getD (n1 + (i - n1)) 0 = _
      congr 1; omega
    · exact sv_ok (fun p hp => h p (List.mem_cons_of_mem _ hp)) i
theorem sE_ok {n : Nat} {ρ : List Int} {q : Eqs} (h : EqOK n ρ q) (e : E) : den ρ (sE q e) = den ρ e := by
  induction e with
  | v i => exact sv_ok h i
  | _ => simp_all [sE, den]
theorem sB_ok {n : Nat} {ρ : List Int} {q : Eqs} (h : EqOK n ρ q) (b : B) : denB ρ (sB q b) = denB ρ b := by
  induction b <;> simp_all [sB, denB, sE_ok h]
theorem EqOK.more {n m : Nat} {ρ : List Int} {q : Eqs} (h : EqOK n ρ q) (hl : ρ.length = n) (s : List Int) : EqOK (n + m) (ρ ++ s) q := fun p hp => by
  obtain ⟨h1, h2, h3⟩ := h p hp
  refine ⟨by omega, by omega, fun j hj => ?_⟩
  simp only [List.getD_eq_getElem?_getD]
  rw [List.getElem?_append_left (by omega), List.getElem?_append_left (by omega)]
  have := h3 j hj
  simpa only [List.getD_eq_getElem?_getD] using this
def inR (fx : Fx) : List (Int × Int) → List E → Bool
  | [], [] => true
  | (l, h) :: r, e :: es => (match iv fx e with
    | some (a, b) => decide (l ≤ a ∧ b ≤ h)
    | none => false) && inR fx r es
  | _, _ => false
theorem inR_ok {ρ : List Int} {fx : Fx} (hf : FxOK ρ fx) : ∀ {r : List (Int × Int)} {es : List E}, inR fx r es = true → es.length = r.length ∧ RngOK r (es.map (den ρ))
  | [], [], _ => ⟨rfl, trivial⟩
  | (l, h) :: r, e :: es, hh => by
    simp only [inR, Bool.and_eq_true] at hh
    obtain ⟨h1, h2⟩ := hh
    obtain ⟨i1, i2⟩ := inR_ok hf h2
    split at h1
    · rename_i a b hi
      have := iv_in hf e
      rw [hi] at this
      have h3 : l ≤ a ∧ b ≤ h := of_decide_eq_true h1
      exact ⟨by simp [i1], ⟨by have := this.1; omega, by have := this.2; omega⟩, i2⟩
    · cases h1
  | [], _ :: _, h => by cases h
  | _ :: _, [], h => by cases h
def eqP : Nat → List E → List E → Bool
  | 0, _, _ => true
  | p + 1, a :: l, b :: r => a.eqb b && eqP p l r
  | _, _, _ => false
theorem eqP_ok : ∀ {p : Nat} {l r : List E}, eqP p l r = true → l.take p = r.take p
  | 0, _, _, _ => rfl
  | p + 1, a :: l, b :: r, h => by
    simp only [eqP, Bool.and_eq_true] at h
    simp only [List.take_succ_cons, E.eqb_eq h.1, eqP_ok h.2]
  | p + 1, [], _, h => by cases h
  | p + 1, _ :: _, [], h => by cases h
def twin1 (fx : Fx) (k' : Nat) (es' : List E) (k : Nat) (es : List E) : List Tw → Bool
  | [] => false
  | w :: r => (Nat.beq w.k' k' && Nat.beq w.k k && eqP w.p es es' && inR fx w.rg' es' && inR fx w.rg es) || twin1 fx k' es' k es r
def twin (tws : List Tw) (fx : Fx) (k' : Nat) (es' : List E) (m : Nat) : Hs → Option Nat
  | [] => none
  | (k, es, n0, m0) :: r => match Nat.beq m0 m && twin1 fx k' es' k es tws with
    | true => some n0
    | false => twin tws fx k' es' m r
theorem twin1_ok {g : Nat → List Int → List Int} {ρ : List Int} {fx : Fx} (hf : FxOK ρ fx) {k' k : Nat} {es' es : List E} : ∀ {tws : List Tw}, (∀ w ∈ tws, TwOK g w) → twin1 fx k' es' k es tws = true → g k' (es'.map (den ρ)) = g k (es.map (den ρ))
  | [], _, h => by cases h
  | w :: r, hw, h => by
    simp only [twin1, Bool.or_eq_true, Bool.and_eq_true] at h
    rcases h with ⟨⟨⟨⟨h1, h2⟩, h3⟩, h4⟩, h5⟩ | h
    · have h1 := Nat.eq_of_beq_eq_true h1
      have h2 := Nat.eq_of_beq_eq_true h2
      obtain ⟨a1, a2⟩ := inR_ok hf h4
      obtain ⟨b1, b2⟩ := inR_ok hf h5
      have := hw w (List.mem_cons_self ..) (es.map (den ρ)) (es'.map (den ρ)) (by rw [← List.map_take, ← List.map_take, eqP_ok h3]) (by simp [a1]) (by simp [b1]) a2 b2
      rw [h1, h2] at this
      exact this
    · exact twin1_ok hf (fun w hm => hw w (List.mem_cons_of_mem _ hm)) h
/-- The last calls: what they gave lies at these places. -/
def HsOK (g : Nat → List Int → List Int) (n : Nat) (ρ : List Int) (hs : Hs) : Prop := ∀ p ∈ hs, p.2.2.1 + p.2.2.2 ≤ n ∧ p.2.1.all (clE n) = true ∧ ∀ j, j < p.2.2.2 → ρ.getD (p.2.2.1 + j) 0 = (g p.1 (p.2.1.map (den ρ))).getD j 0
theorem HsOK.more {g : Nat → List Int → List Int} {n : Nat} {ρ : List Int} {hs : Hs} (h : HsOK g n ρ hs) (hl : ρ.length = n) (m : Nat) (s : List Int) : HsOK g (n + m) (ρ ++ s) hs := fun p hp => by
  obtain ⟨h1, h2, h3⟩ := h p hp
  refine ⟨by omega, List.all_eq_true.2 fun e he => clE_more (Nat.le_add_right _ _) e (List.all_eq_true.1 h2 e he), fun j hj => ?_⟩
  have e : p.2.1.map (den (ρ ++ s)) = p.2.1.map (den ρ) := List.map_congr_left fun e he => clE_ok (List.all_eq_true.1 h2 e he) (by omega) _
  rw [e, ← h3 j hj]
  simp only [List.getD_eq_getElem?_getD]
  rw [List.getElem?_append_left (by omega)]
theorem twin_ok {g : Nat → List Int → List Int} {n : Nat} {ρ : List Int} {fx : Fx} (hf : FxOK ρ fx) {tws : List Tw} (hw : ∀ w ∈ tws, TwOK g w) {k' m : Nat} {es' : List E} : ∀ {hs : Hs} {n0 : Nat}, HsOK g n ρ hs → twin tws fx k' es' m hs = some n0 →
    n0 + m ≤ n ∧ ∀ j, j < m → ρ.getD (n0 + j) 0 = (g k' (es'.map (den ρ))).getD j 0
  | [], _, _, h => by cases h
  | (k, es, n1, m1) :: r, n0, hs, h => by
    unfold twin at h
    split at h
    · rename_i hc
      simp only [Option.some.injEq] at h; subst h
      simp only [Bool.and_eq_true] at hc
      have hm := Nat.eq_of_beq_eq_true hc.1
      obtain ⟨h1, _, h3⟩ := hs _ (List.mem_cons_self ..)
      subst hm
      refine ⟨h1, fun j hj => ?_⟩
      rw [twin1_ok hf hw hc.2]
      exact h3 j hj
    · exact twin_ok hf hw (fun p hp => hs p (List.mem_cons_of_mem _ hp)) h
def lkR : List (Nat × List (Int × Int)) → Nat → List (Int × Int)
  | [], _ => []
  | (i, r) :: l, k => match Nat.beq i k with
    | true => r
    | false => lkR l k
def srcR (fx : Fx) (n : Nat) : List E → List (Int × Int)
  | e :: _ => match iv fx e with
    | some (a, b) => match decide (1 ≤ a) with
      | true => [(0, b - 1)]
      | false => []
    | none => []
  | [] => []
/-- Each leaf that can be reached is plainly true. -/
def chkT (tws : List Tw) (rgs : List (Nat × List (Int × Int))) : Nat → Fx → Eqs → Hs → T Leaf → Bool
  | _, _, _, _, .leaf l => trueLeaf l
  | n, fx, q, hs, .ite b t e => match decB fx (sB q b) with
    | some true => chkT tws rgs n fx q hs t
    | some false => chkT tws rgs n fx q hs e
    | none => clB n b && (chkT tws rgs n (assume fx b true) q hs t && chkT tws rgs n (assume fx b false) q hs e)
  | n, fx, q, hs, .call k es m t => match Nat.beq k 900 with
    | true => Nat.beq m 2 && chkT tws rgs (n + 2) (addR (rngE n (srcR fx n es)) fx) q hs t
    | false => Nat.blt k 900 && es.all (clE n) && Nat.ble (lkR rgs k).length m && chkT tws rgs (n + m) (addR (rngE n (lkR rgs k)) fx) (match twin tws fx k es m hs with
      | some n0 => ((n, n0, m) :: q).take 4
      | none => q) (((k, es, n, m) :: hs).take 3) t
  | _, _, _, _, _ => false
def RgsOK (g : Nat → List Int → List Int) (rgs : List (Nat × List (Int × Int))) : Prop := ∀ p ∈ rgs, ∀ xs, RngOK p.2 (g p.1 xs)
theorem lkR_ok {g : Nat → List Int → List Int} {k : Nat} : ∀ {rgs : List (Nat × List (Int × Int))}, RgsOK g rgs → ∀ xs, RngOK (lkR rgs k) (g k xs)
  | [], _, _ => trivial
  | (i, r) :: l, h, xs => by
    unfold lkR
    split
    · rename_i hb
      have := Nat.eq_of_beq_eq_true hb
      subst this
      exact h _ (List.mem_cons_self ..) xs
    · exact lkR_ok (fun p hp => h p (List.mem_cons_of_mem _ hp)) xs
theorem rngE_app {n : Nat} {ρ s : List Int} (hl : ρ.length = n) {r : List (Int × Int)} (h : RngOK r s) : ∀ p ∈ rngE n r, p.2.1 ≤ den (ρ ++ s) p.1 ∧ den (ρ ++ s) p.1 ≤ p.2.2 := fun p hp => by
  obtain ⟨i, a, b, h1, rfl⟩ := rngE_mem hp
  have := RngOK_get h i a b h1
  show a ≤ (ρ ++ s).getD (n + i) 0 ∧ (ρ ++ s).getD (n + i) 0 ≤ b
  rw [getD_at hl i s]
  exact this
theorem rngE_cl {n m : Nat} {r : List (Int × Int)} (h : r.length ≤ m) : ∀ p ∈ rngE n r, clE (n + m) p.1 = true := fun p hp => by
  obtain ⟨i, a, b, h1, rfl⟩ := rngE_mem hp
  have := (List.getElem?_eq_some_iff.1 h1).1
  simp only [clE, Nat.blt_eq]; omega
theorem fit_getD (m : Nat) (l : List Int) (j : Nat) (h : j < m) : (fit m l).getD j 0 = l.getD j 0 := by
  simp [fit, List.getD_eq_getElem?_getD, h]
theorem fit_rng {m : Nat} : ∀ {r : List (Int × Int)} {l : List Int}, r.length ≤ m → RngOK r l → RngOK r (fit m l) := by
  have key : ∀ (r : List (Int × Int)) (l s : List Int), (∀ i, i < r.length → s.getD i 0 = l.getD i 0) → r.length ≤ s.length → RngOK r l → RngOK r s := by
    intro r
    induction r with
    | nil => intro _ _ _ _ _; trivial
    | cons p r ih =>
      intro l s h hs hr
      cases l with
      | nil => exact hr.elim
      | cons x l => cases s with
        | nil => simp at hs
        | cons y s =>
          have h0 := h 0 (by simp)
          simp only [List.getD_cons_zero] at h0
          obtain ⟨a, b⟩ := p
          refine ⟨by rw [h0]; exact hr.1, ih l s (fun i hi => ?_) (by simpa using hs) hr.2⟩
          have := h (i + 1) (by simp; omega)
          simpa only [List.getD_cons_succ] using this
  intro r l hm hr
  exact key r l _ (fun i hi => fit_getD m l i (by omega)) (by rw [fit_length]; exact hm) hr
theorem chkT_ok {J : Nat → List Int → List Int → Prop} {g : Nat → List Int → List Int} {tws : List Tw} {rgs : List (Nat × List (Int × Int))} (hw : ∀ w ∈ tws, TwOK g w) (hr : RgsOK g rgs) : ∀ (t : T Leaf) (n : Nat) (fx : Fx) (q : Eqs) (hs : Hs) (ρ : List Int),
    chkT tws rgs n fx q hs t = true → ρ.length = n → FxOK ρ fx → clFx n fx = true → EqOK n ρ q → HsOK g n ρ hs → T.okJ J g LTrue ρ t
  | .leaf l, n, fx, q, hs, ρ, h, hl, hf, hc, hq, hh => trueLeaf_ok h ρ
  | .ite b t e, n, fx, q, hs, ρ, h, hl, hf, hc, hq, hh => by
    unfold chkT at h
    refine okJ_ite (fun hb => ?_) fun hb => ?_
    · split at h
      · exact chkT_ok hw hr t n fx q hs ρ h hl hf hc hq hh
      · rename_i hd
        have := decB_ok hf _ _ hd
        rw [sB_ok hq, hb] at this; cases this
      · simp only [Bool.and_eq_true] at h
        exact chkT_ok hw hr t n _ q hs ρ h.2.1 hl (assume_ok b fx true hf hb) (assume_cl b _ _ hc h.1) hq hh
    · split at h
      · rename_i hd
        have := decB_ok hf _ _ hd
        rw [sB_ok hq, hb] at this; cases this
      · exact chkT_ok hw hr e n fx q hs ρ h hl hf hc hq hh
      · simp only [Bool.and_eq_true] at h
        exact chkT_ok hw hr e n _ q hs ρ h.2.2 hl (assume_ok b fx false hf hb) (assume_cl b _ _ hc h.1) hq hh
  | .call k es m t, n, fx, q, hs, ρ, h, hl, hf, hc, hq, hh => by
    unfold chkT at h
    split at h
    · rename_i hk
      have hk := Nat.eq_of_beq_eq_true hk
      subst hk
      simp only [Bool.and_eq_true] at h
      have hm := Nat.eq_of_beq_eq_true h.1
      subst hm
      refine okJ_src fun v p h0 h1 => ?_
      have hsl : (srcR fx n es).length ≤ 2 := by
        unfold srcR
        repeat' split
        all_goals simp
      have hsr : RngOK (srcR fx n es) [v, p] := by
        unfold srcR
        split
        · rename_i e r
          split
          · rename_i a b hi
            split
            · rename_i ha
              have ha := of_decide_eq_true ha
              have hin := iv_in hf e
              rw [hi] at hin
              have e0 : ((e :: r).map (den ρ)).getD 0 0 = den ρ e := rfl
              rw [e0] at h1
              have := h1 (by have := hin.1; omega)
              exact ⟨⟨h0, by have := hin.2; omega⟩, trivial⟩
            · trivial
          · trivial
        · trivial
      exact chkT_ok hw hr t (n + 2) _ q hs _ h.2 (by simp [hl]) (addR_ok (rngE_app hl hsr) (clFx_ok hc (by omega) _ hf)) (addR_cl _ _ (clFx_more (Nat.le_add_right _ _) hc) (List.all_eq_true.2 (rngE_cl hsl))) (hq.more hl _) (hh.more hl _ _)
    · simp only [Bool.and_eq_true] at h
      obtain ⟨⟨⟨hk, hes⟩, hrl⟩, h⟩ := h
      have hk := blt_iff.1 hk
      have hrl := ble_iff.1 hrl
      refine okJ_call hk ?_
      have hrng := fit_rng hrl (lkR_ok (k := k) hr (es.map (den ρ)))
      have hres : ∀ j, j < m → (ρ ++ fit m (g k (es.map (den ρ)))).getD (n + j) 0 = (g k (es.map (den ρ))).getD j 0 := fun j hj => by rw [getD_at hl, fit_getD m _ j hj]
      refine chkT_ok hw hr t (n + m) _ _ _ _ h (by rw [List.length_append, fit_length, hl]) (addR_ok (rngE_app hl hrng) (clFx_ok hc (by omega) _ hf)) (addR_cl _ _ (clFx_more (Nat.le_add_right _ _) hc) (List.all_eq_true.2 (rngE_cl hrl))) ?_ ?_
      · split
        · rename_i n0 ht
          obtain ⟨t1, t2⟩ := twin_ok hf hw hh ht
          intro p hp
          rcases List.mem_cons.1 (List.mem_of_mem_take hp) with rfl | hp
          · refine ⟨Nat.le_refl _, by show n0 + m ≤ n + m; omega, fun j hj => ?_⟩
            show (ρ ++ _).getD (n0 + j) 0 = (ρ ++ _).getD (n + j) 0
            have hj : j < m := hj
            rw [hres j hj, ← t2 j hj]
            simp only [List.getD_eq_getElem?_getD]
            rw [List.getElem?_append_left (by omega)]
          · exact hq.more hl _ p hp
        · exact hq.more hl _
      · intro p hp
        rcases List.mem_cons.1 (List.mem_of_mem_take hp) with rfl | hp
        · refine ⟨Nat.le_refl _, List.all_eq_true.2 fun e he => clE_more (Nat.le_add_right _ _) e (List.all_eq_true.1 hes e he), fun j hj => ?_⟩
          have e : es.map (den (ρ ++ fit m (g k (es.map (den ρ))))) = es.map (den ρ) := List.map_congr_left fun e he => clE_ok (List.all_eq_true.1 hes e he) (by omega) _
          show (ρ ++ _).getD (n + j) 0 = (g k (es.map (den (ρ ++ _)))).getD j 0
          rw [e]
          exact hres j hj
        · exact hh.more hl _ _ p hp
  | .asr _ _, _, _, _, _, _, h, _, _, _, _, _ | .bad, _, _, _, _, _, h, _, _, _, _, _ | .loop .., _, _, _, _, _, h, _, _, _, _, _ | .again .., _, _, _, _, _, h, _, _, _, _, _ => by cases h
/-! ### Such checks in parts -/
theorem and_t {a b : Bool} (ha : a = true) (hb : b = true) : (a && b) = true := by rw [ha, hb]; rfl
section
variable {P : Program} {C : Ctx} {F : Nat} {inl : Inl Leaf} {f : FuncId} {k0 : X → St → T Leaf} {Z : T Leaf → Bool}
theorem z_piece {ct : Ct} (h : ct.isGo = true) {s : St} {R : (X → St → T Leaf) → Bool} (hp : ∀ K : X → St → T Leaf, Z (ev P C F inl f ct.code ct.un s K) = R K) (hr : R (plug P C F inl f k0 ct.fr) = true) : Z (at_ P C F inl f k0 ct s) = true := by
  rcases ct with ⟨c, u, r⟩ | ⟨x, r⟩ | ⟨n, c, u, r⟩
  · exact (hp _).trans hr
  · cases h
  · cases h
theorem z_back {r : List Fr} {x : X} {s : St} {ct : Ct} {n m : Nat} (h : grp m (adm C F f n (.back x r)) = ct) (ht : Z (at_ P C F inl f k0 ct s) = true) : Z (plug P C F inl f k0 r x s) = true := by
  subst h
  rw [grp_ok, adm_ok] at ht
  exact ht
theorem z_adm {ct0 : Ct} {s : St} {ct : Ct} {n m : Nat} (h : grp m (adm C F f n ct0) = ct) (ht : Z (at_ P C F inl f k0 ct s) = true) : Z (at_ P C F inl f k0 ct0 s) = true := by
  subst h
  rw [grp_ok, adm_ok] at ht
  exact ht
theorem at_cond1e {ct : Ct} {s : St} {b : B} (h : condB ct s = some (b, some true)) : at_ P C F inl f k0 ct s = at_ P C F inl f k0 (thn ct) s := by
  unfold condB condOp at h
  split at h
  · rename_i c hc
    split at hc
    · rename_i c' a b' u r
      simp only [Option.some.injEq] at hc; subst hc
      split at h
      · rename_i t' ho
        simp only [Option.some.injEq, Prod.mk.injEq] at h
        obtain ⟨rfl, hd⟩ := h
        simp only [at_, ev, ho, hd]
        rfl
      · cases h
    · cases hc
  · cases h
theorem at_cond0e {ct : Ct} {s : St} {b : B} (h : condB ct s = some (b, some false)) : at_ P C F inl f k0 ct s = at_ P C F inl f k0 (els ct) s := by
  unfold condB condOp at h
  split at h
  · rename_i c hc
    split at hc
    · rename_i c' a b' u r
      simp only [Option.some.injEq] at hc; subst hc
      split at h
      · rename_i t' ho
        simp only [Option.some.injEq, Prod.mk.injEq] at h
        obtain ⟨rfl, hd⟩ := h
        simp only [at_, ev, ho, hd]
        rfl
      · cases h
    · cases hc
  · cases h
theorem z_cond1 {ct : Ct} {s : St} {b : B} (h : condB ct s = some (b, some true)) (ht : Z (at_ P C F inl f k0 (thn ct) s) = true) : Z (at_ P C F inl f k0 ct s) = true := by rw [at_cond1e h]; exact ht
theorem z_cond0 {ct : Ct} {s : St} {b : B} (h : condB ct s = some (b, some false)) (ht : Z (at_ P C F inl f k0 (els ct) s) = true) : Z (at_ P C F inl f k0 ct s) = true := by rw [at_cond0e h]; exact ht
theorem at_conde {ct : Ct} {s s1 s2 : St} {b : B} (h : condB ct s = some (b, none)) (h1 : { s with fx := assume s.fx b true } = s1) (h2 : { s with fx := assume s.fx b false } = s2) : at_ P C F inl f k0 ct s = .ite b (at_ P C F inl f k0 (thn ct) s1) (at_ P C F inl f k0 (els ct) s2) := by
  subst h1; subst h2
  unfold condB condOp at h
  split at h
  · rename_i c hc
    split at hc
    · rename_i c' a b' u r
      simp only [Option.some.injEq] at hc; subst hc
      split at h
      · rename_i t' ho
        simp only [Option.some.injEq, Prod.mk.injEq] at h
        obtain ⟨rfl, hd⟩ := h
        simp only [at_, ev, ho, hd, fB_eq, St.knowF_eq]
        rfl
      · cases h
    · cases hc
  · cases h
/-- A test that neither the walk nor the check decides. -/
theorem z_cond {ct : Ct} {s s1 s2 : St} {b : B} {tws : List Tw} {rgs : List (Nat × List (Int × Int))} {n : Nat} {fx fx1 fx2 : Fx} {q : Eqs} {hs : Hs} (h : condB ct s = some (b, none)) (h1 : { s with fx := assume s.fx b true } = s1) (h2 : { s with fx := assume s.fx b false } = s2)
    (hd : decB fx (sB q b) = none) (hb : clB n b = true) (e1 : assume fx b true = fx1) (e2 : assume fx b false = fx2)
    (ht : chkT tws rgs n fx1 q hs (at_ P C F inl f k0 (thn ct) s1) = true) (he : chkT tws rgs n fx2 q hs (at_ P C F inl f k0 (els ct) s2) = true) : chkT tws rgs n fx q hs (at_ P C F inl f k0 ct s) = true := by
  rw [at_conde h h1 h2]
  unfold chkT
  rw [hd]
  dsimp only
  rw [hb, e1, e2, ht, he]; rfl
end
theorem evFn_Z {Z : T Leaf → Bool} {P : Program} {C : Ctx} {F d : Nat} {f : FuncId} {args : List SV} {fx : Fx} {n : Nat} {fn : Func} {c : Code} {s : St} (hchk : (clL n (ltB ([] : Blks).length) args && clBs n (ltB ([] : Blks).length) [] && clFx n fx) = true) (hf : P.funcs[f]? = some fn) (hc : fn.body = some c)
    (hs : { t := args ++ List.replicate (fn.ntmps - args.length) .undef, b := [], fx := fx, n := n, wd := [], cs := [] } = s) (ht : Z (at_ P C F (evD P C F d) f (endX P fn fun v σ => .leaf (nrmV σ.fx v, σ.b, σ.wd)) (.go c 0 []) s) = true) : Z (evFn P C F (d + 1) f args [] fx n) = true := by
  subst hs
  unfold evFn
  rw [if_pos hchk]
  simp only [evD, hf, hc]
  rw [fVs_eq]
  exact ht
end Ev
/-- A law with a list, ints, bools and structs, by such a check of its walk. -/
theorem row_lawZ {w : World} {a : Option Addr} {len cap : Nat} {z : List Int} (hrow : IsRow .i64 w a len cap z) {es : List En} (hes : EnCon es) (hkl : EnKl es = true)
    {f : FuncId} {ss : List Sh} {F d : Nat} {r : List Int} {lh : FuncId → Nat → Option Hint} {tws : List Tw} {rgs : List (Nat × List (Int × Int))}
    (hz : chkT tws rgs (shsW ss + 2) (rowFx (rngE 2 (ksRg (shsKs ss)))) [] [] (evFn Try.prog (rowCtxE (exL es) [] lh) F d f (.sls 0 (.v 0) (.v 1) :: shsS ss 2) [] (rowFx (rngE 2 (ksRg (shsKs ss)))) (shsW ss + 2)) = true) (hcl : clFx (shsW ss + 2) (rowFx (rngE 2 (ksRg (shsKs ss)))) = true)
    (ht : ∀ g, EnOK g len cap z es → EnLp g z es → (∀ w ∈ tws, TwOK g w) ∧ RgsOK g rgs) (hr : KsOK (shsKs ss) r) :
    Calls Try.prog f (.slice a len cap :: shsV ss r).toArray w fun e w' => e = .returned (.bool true) ∧ Below w.heap.size w w' := by
  obtain ⟨g, h1, h2⟩ := gEx hkl z len cap
  obtain ⟨t1, t2⟩ := ht g h1 h2
  have hJ := chkT_ok (J := fun _ _ _ => True) t1 t2 _ _ _ _ _ ((len : Int) :: (cap : Int) :: r) hz (show r.length + 2 = shsW ss + 2 by rw [hr.length, shsW_ks]) (rowFx_ok hrow (ksRg_ok [(len : Int), (cap : Int)] hr)) hcl (fun p hp => by cases hp) (fun p hp => by cases hp)
  exact law_okG (Φ := (rowSig g a len cap z).withJ fun _ _ _ => True) (ρ := (len : Int) :: (cap : Int) :: r) (ctx_js (rowCtxE_ok hrow (l := []) trivial rfl (hes hrow h1 h2)) _) rfl (okJ_ok _ _ hJ) (show r.length + 2 = shsW ss + 2 by rw [hr.length, shsW_ks]) (rowFx_ok hrow (ksRg_ok [(len : Int), (cap : Int)] hr)) (by
    have := shs_den hr [(len : Int), (cap : Int)] (envΦ (rowSig g a len cap z))
    have e : denV ([(len : Int), (cap : Int)] ++ r) (envΦ (rowSig g a len cap z)) (.sls 0 (.v 0) (.v 1)) = .slice a len cap := by simp [denV, den, envΦ, rowSig]
    exact congrArg List.toArray (congr (congrArg List.cons e) this)) ⟨r, rfl⟩ (isRow_sig hrow g).1
end Go.Proofs.Ytnnnmdmniceenaa
