/- Contracts off trees: the contract, and its law. -/
import Derived.Test.YtnnnmdmniceenaaEvV
set_option linter.unusedSimpArgs false
set_option linter.unusedVariables false
namespace Go.Proofs.Ytnnnmdmniceenaa.Ev
open Go.RowKit
/-! ### Tests over a contract's numbers, at a call -/
def suE (es : List E) : E → E
  | .lit z => .lit z
  | .v i => match Nat.blt i 2 with
    | true => .v i
    | false => es.getD (Nat.sub i 2) (.lit 0)
  | .add a b => .add (suE es a) (suE es b)
  | .sub a b => .sub (suE es a) (suE es b)
  | .mul a b => .mul (suE es a) (suE es b)
  | .quo a b => .quo (suE es a) (suE es b)
  | .rem a b => .rem (suE es a) (suE es b)
  | .mx a b => .mx (suE es a) (suE es b)
  | .mn a b => .mn (suE es a) (suE es b)
  | .sw i k a b => .sw (suE es i) k (suE es a) (suE es b)
  | .wr k a => .wr k (suE es a)
def suB (es : List E) : B → B
  | .lit b => .lit b
  | .eq a b => .eq (suE es a) (suE es b)
  | .le a b => .le (suE es a) (suE es b)
  | .lt a b => .lt (suE es a) (suE es b)
  | .nz a => .nz (suE es a)
  | .not a => .not (suB es a)
  | .and a b => .and (suB es a) (suB es b)
  | .or a b => .or (suB es a) (suB es b)
  | .iff a b => .iff (suB es a) (suB es b)
theorem suE_ok {es : List E} {x y : Int} {s : List Int} (e : E) : den (x :: y :: s) (suE es e) = den (x :: y :: es.map (den (x :: y :: s))) e := by
  induction e with
  | v i =>
    unfold suE
    rcases i with _ | _ | i
    · rfl
    · rfl
    · show den (x :: y :: s) (match Nat.blt (i + 2) 2 with | true => .v (i + 2) | false => es.getD (Nat.sub (i + 2) 2) (.lit 0)) = _
      have h : Nat.blt (i + 2) 2 = false := by
        cases h : Nat.blt (i + 2) 2 with
        | false => rfl
        | true => have := Nat.le_of_ble_eq_true h; omega
      rw [h]
      show den (x :: y :: s) (es.getD (i + 2 - 2) (.lit 0)) = (es.map (den (x :: y :: s))).getD i 0
      rw [Nat.add_sub_cancel]
      simp only [List.getD_eq_getElem?_getD, List.getElem?_map]
      cases es[i]? <;> rfl
  | _ => simp_all [suE, den]
theorem suB_ok {es : List E} {x y : Int} {s : List Int} (b : B) : denB (x :: y :: s) (suB es b) = denB (x :: y :: es.map (den (x :: y :: s))) b := by
  induction b <;> simp_all [suB, denB, suE_ok]
/-- Ranges that are not known. -/
def askV (fx : Fx) : List (Int × Int) → List E → List B
  | (l, h) :: r, e :: es => match iv fx e with
    | some (a, b) => if l ≤ a ∧ b ≤ h then askV fx r es else .le (.lit l) e :: .le e (.lit h) :: askV fx r es
    | none => .le (.lit l) e :: .le e (.lit h) :: askV fx r es
  | _, _ => []
theorem askV_ok {ρ : List Int} {fx : Fx} (hf : FxOK ρ fx) : ∀ {r : List (Int × Int)} {es : List E}, (∀ b ∈ askN fx (askV fx r es), denB ρ b = true) → ∀ b ∈ askR r es, denB ρ b = true
  | [], es, h, b, hb => by simp [askR] at hb
  | (l, u) :: r, [], h, b, hb => by simp [askR] at hb
  | (l, u) :: r, e :: es, h, b, hb => by
    have h := askN_ok hf h
    have two : ∀ (h' : ∀ b ∈ (.le (.lit l) e :: .le e (.lit u) :: askV fx r es), denB ρ b = true), denB ρ b = true := fun h' => by
      simp only [askR] at hb
      rcases List.mem_cons.1 hb with rfl | hb
      · exact h' _ (List.mem_cons_self ..)
      · rcases List.mem_cons.1 hb with rfl | hb
        · exact h' _ (List.mem_cons_of_mem _ (List.mem_cons_self ..))
        · refine askV_ok (r := r) (es := es) hf ?_ b hb
          intro c hc
          have hsub : ∀ (l : List B), (∀ x ∈ l, denB ρ x = true) → ∀ x ∈ askN fx l, denB ρ x = true := by
            intro l
            induction l with
            | nil => intro _ x hx; cases hx
            | cons y l ih =>
              intro hl x hx
              simp only [askN] at hx
              rcases List.mem_append.1 hx with hx | hx
              · unfold need at hx
                split at hx
                · cases hx
                · simp only [List.mem_singleton] at hx; subst hx; exact hl _ (List.mem_cons_self ..)
              · exact ih (fun x hx => hl x (List.mem_cons_of_mem _ hx)) x hx
          exact hsub _ (fun x hx => h' x (List.mem_cons_of_mem _ (List.mem_cons_of_mem _ hx))) c hc
    unfold askV at h
    split at h
    · rename_i a c hiv
      split at h
      · rename_i hc
        have hi := iv_in hf e
        rw [hiv] at hi
        simp only [askR] at hb
        rcases List.mem_cons.1 hb with rfl | hb
        · exact decide_eq_true (show l ≤ den ρ e by have := hi.1; omega)
        · rcases List.mem_cons.1 hb with rfl | hb
          · exact decide_eq_true (show den ρ e ≤ u by have := hi.2; omega)
          · refine askV_ok (r := r) (es := es) hf ?_ b hb
            intro c hc
            have hsub : ∀ (l : List B), (∀ x ∈ l, denB ρ x = true) → ∀ x ∈ askN fx l, denB ρ x = true := by
              intro l
              induction l with
              | nil => intro _ x hx; cases hx
              | cons y l ih =>
                intro hl x hx
                simp only [askN] at hx
                rcases List.mem_append.1 hx with hx | hx
                · unfold need at hx
                  split at hx
                  · cases hx
                  · simp only [List.mem_singleton] at hx; subst hx; exact hl _ (List.mem_cons_self ..)
                · exact ih (fun x hx => hl x (List.mem_cons_of_mem _ hx)) x hx
            exact hsub _ h c hc
      · exact two h
    · exact two h
/-! ### Trees that give numbers -/
/-- The tree gives so many numbers, whatever happens. -/
def T.det (M : Nat) : T (List E) → Bool
  | .leaf es => Nat.beq es.length M
  | .ite _ t e => t.det M && e.det M
  | .call _ _ _ t => t.det M
  | .loop _ _ _ t => t.det M
  | .again _ _ _ => true
  | _ => false
/-- What it gives; a loop gives what its function (key 2000 + its number) gives of all that is known and of the loop's own numbers. -/
def runT (F : Nat → List Int → List Int) : List Int → T (List E) → List Int
  | ρ, .leaf es => es.map (den ρ)
  | ρ, .ite b t e => if denB ρ b = true then runT F ρ t else runT F ρ e
  | ρ, .call k es m t => runT F (ρ ++ fit m (F k (es.map (den ρ)))) t
  | ρ, .loop id es _ _ => F (2000 + id) (ρ ++ es.map (den ρ))
  | ρ, .again id n es => F (2000 + id) (ρ.take n ++ es.map (den ρ))
  | _, _ => []
/-- The loops of a tree. -/
def T.lps : T (List E) → List (Nat × T (List E))
  | .ite _ t e => t.lps ++ e.lps
  | .call _ _ _ t => t.lps
  | .asr _ t => t.lps
  | .loop id _ _ t => (id, t) :: t.lps
  | _ => []
/-- The loops' functions give what their trees give. -/
def LpOK (F : Nat → List Int → List Int) (t : T (List E)) : Prop := ∀ p ∈ t.lps, ∀ ρ, F (2000 + p.1) ρ = runT F ρ p.2
theorem det_ok {Φ : Sig} {M : Nat} {R : List Int} : ∀ (t : T (List E)) (ρ : List Int), t.det M = true → LpOK Φ t → runT Φ ρ t = R → t.ok (Φ.withJ fun id ρ xs => Φ (2000 + id) (ρ ++ xs) = R) (fun ρ' es => es.length = M ∧ es.map (den ρ') = R) ρ
  | .leaf es, ρ, h, _, hR => ⟨Nat.eq_of_beq_eq_true h, hR⟩
  | .ite b t e, ρ, h, hl, hR => by
    simp only [T.det, Bool.and_eq_true] at h
    simp only [runT] at hR
    refine ⟨fun hb => det_ok t ρ h.1 (fun p hp => hl p (List.mem_append_left _ hp)) ?_, fun hb => det_ok e ρ h.2 (fun p hp => hl p (List.mem_append_right _ hp)) ?_⟩
    · rw [if_pos hb] at hR; exact hR
    · rw [if_neg (by rw [hb]; simp)] at hR; exact hR
  | .call k es m t, ρ, h, hl, hR => det_ok t _ h hl hR
  | .loop id es rg t, ρ, h, hl, hR => ⟨hR, fun xs _ _ h3 => det_ok t _ h (fun p hp => hl p (List.mem_cons_of_mem _ hp)) (((hl (id, t) (List.mem_cons_self ..)) _).symm.trans h3)⟩
  | .again id n es, ρ, _, _, hR => hR
  | .asr _ _, _, h, _, _ | .bad, _, h, _, _ => by cases h
/-- A number that is plainly in its range. -/
def rgE (l h : Int) : E → Bool
  | .lit z => decide (l ≤ z ∧ z ≤ h)
  | .mx (.lit a) (.mn (.lit b) _) => decide (l ≤ a ∧ a ≤ h ∧ b ≤ h)
  | .sw _ _ a b => rgE l h a && rgE l h b
  | _ => false
theorem rgE_ok {l h : Int} (ρ : List Int) : ∀ (e : E), rgE l h e = true → l ≤ den ρ e ∧ den ρ e ≤ h := by
  intro e
  induction e with
  | lit z => intro he; simpa [rgE, den] using he
  | mx a b _ _ =>
    intro he
    unfold rgE at he
    split at he <;> rename_i heq <;> simp_all
    obtain ⟨rfl, rfl⟩ := heq
    simp only [den]
    constructor <;> (repeat' split) <;> omega
  | sw i k a b _ iha ihb =>
    intro he
    simp only [rgE, Bool.and_eq_true] at he
    simp only [den]
    split
    · exact iha he.1
    · exact ihb he.2
  | _ => intro he; simp [rgE] at he
def clampL : List (Int × Int) → List E → List E
  | (l, h) :: r, e :: es => (if rgE l h e then e else .mx (.lit l) (.mn (.lit h) e)) :: clampL r es
  | _, es => es
theorem clampL_length : ∀ (r : List (Int × Int)) (es : List E), (clampL r es).length = es.length
  | [], es => by cases es <;> rfl
  | _ :: _, [] => rfl
  | _ :: r, _ :: es => by simp [clampL, clampL_length r es]
theorem clampL_ok {ρ : List Int} : ∀ {r : List (Int × Int)} {es : List E}, (∀ b ∈ askR r es, denB ρ b = true) → (clampL r es).map (den ρ) = es.map (den ρ)
  | [], es, _ => by cases es <;> rfl
  | _ :: _, [], _ => rfl
  | (l, h) :: r, e :: es, hb => by
    simp only [askR] at hb
    have h1 : l ≤ den ρ e := of_decide_eq_true (hb _ (List.mem_cons_self ..))
    have h2 : den ρ e ≤ h := of_decide_eq_true (hb _ (List.mem_cons_of_mem _ (List.mem_cons_self ..)))
    simp only [clampL, List.map_cons, clampL_ok fun b hb' => hb b (List.mem_cons_of_mem _ (List.mem_cons_of_mem _ hb'))]
    congr 1
    split
    · rfl
    · simp only [den]; (repeat' split) <;> omega
/-- Each leaf's numbers are plainly in their ranges. -/
def rgL : List (Int × Int) → List E → Bool
  | [], _ => true
  | (l, h) :: r, e :: es => rgE l h e && rgL r es
  | _, _ => false
def T.rgd (rg : List (Int × Int)) : T (List E) → Bool
  | .leaf es => rgL rg es
  | .ite _ t e => t.rgd rg && e.rgd rg
  | .call _ _ _ t => t.rgd rg
  | _ => false
theorem rgL_ok (ρ : List Int) : ∀ {r : List (Int × Int)} {es : List E}, rgL r es = true → RngOK r (es.map (den ρ))
  | [], _, _ => trivial
  | (l, h) :: r, e :: es, hh => by
    simp only [rgL, Bool.and_eq_true] at hh
    exact ⟨rgE_ok ρ e hh.1, rgL_ok ρ hh.2⟩
  | _ :: _, [], h => by cases h
theorem rgd_ok {F : Nat → List Int → List Int} {rg : List (Int × Int)} : ∀ (t : T (List E)) (ρ : List Int), t.rgd rg = true → RngOK rg (runT F ρ t)
  | .leaf es, ρ, h => rgL_ok ρ h
  | .ite b t e, ρ, h => by
    simp only [T.rgd, Bool.and_eq_true] at h
    simp only [runT]
    split
    · exact rgd_ok t ρ h.1
    · exact rgd_ok e ρ h.2
  | .call k es m t, ρ, h => rgd_ok t _ h
  | .asr _ _, _, h | .bad, _, h | .loop .., _, h | .again .., _, h => by cases h
/-! ### The contract -/
def lk : List (Nat × Nat) → Nat → Nat
  | [], _ => 0
  | (i, j) :: r, k => match Nat.beq i k with
    | true => j
    | false => lk r k
def memN (x : Nat) : List Nat → Bool
  | [] => false
  | y :: l => Nat.beq x y || memN x l
def ndup : List Nat → Bool
  | [] => true
  | x :: l => !memN x l && ndup l
theorem memN_iff {x : Nat} : ∀ {l : List Nat}, memN x l = true ↔ x ∈ l
  | [] => by simp [memN]
  | y :: l => by
    simp only [memN, Bool.or_eq_true, memN_iff, List.mem_cons]
    constructor
    · rintro (h | h)
      · exact .inl (Nat.eq_of_beq_eq_true h)
      · exact .inr h
    · rintro (h | h)
      · subst h; exact .inl (Nat.beq_refl x)
      · exact .inr h
theorem ndup_ok : ∀ {l : List Nat}, ndup l = true → l.Nodup
  | [], _ => List.nodup_nil
  | x :: l, h => by
    simp only [ndup, Bool.and_eq_true, Bool.not_eq_true'] at h
    refine List.nodup_cons.2 ⟨fun hm => ?_, ndup_ok h.2⟩
    rw [memN_iff.2 hm] at h; cases h.1
structure MC where
  args : List Pt
  blks : List Bt
  rg : List (Int × Int)
  dom : List B
  res : List Pt
  out : List Bt
  nn : Nat
  rng : List (Int × Int)
  key : Nat
  clamp : Bool := false
  rgx : List (Int × Int) := []
/-- The ranges that are told at a call: those that are proved by hand, if there are any. -/
def MC.rngs (c : MC) : List (Int × Int) := match c.rgx with
  | [] => c.rng
  | r => r
def MC.nbp (c : MC) : Nat := c.blks.length
def MC.W (c : MC) : Nat := lW Pt.w c.args + bW c.blks
def MC.M (c : MC) : Nat := lW Pt.w c.res + bW c.out
/-- Where a block of the contract lies at a call: the caller's, or a new one. -/
def MC.mo (c : MC) (ms : List Nat) (nb : Nat) (i : Nat) : Nat := match Nat.blt i c.nbp with
  | true => ms.getD i 0
  | false => nb + (i - c.nbp)
def MC.con (c : MC) : Con := fun vs bl fx n nb =>
  fL fN ((List.range c.nbp).map (lk (lPr Pt.pr c.args vs))) fun ms =>
  match lGet (Pt.get (fun i => ms.getD i 0) fx) c.args vs, bGet (fun i => ms.getD i 0) fx bl c.blks with
  | some ea, some eb =>
    if ndup ms && ms.all (fun j => Nat.blt j nb) then
      some { v := oneV (lSv Pt.w (Pt.sv (c.mo ms nb) (ea ++ eb)) c.res n), wr := bSv (c.mo ms nb) (ea ++ eb) c.out (n + lW Pt.w c.res), nn := c.nn
             asr := askN fx (askV fx c.rg (ea ++ eb) ++ c.dom.map (suB (ea ++ eb))), cal := some (c.key, ea ++ eb, c.M), rng := rngE n c.rngs }
    else none
  | _, _ => none
/-- Blocks and facts at the beginning of the function's own walk. -/
def MC.blks0 (c : MC) : Blks := (bSv id [] c.blks (2 + lW Pt.w c.args)).map (·.2)
def MC.fx0 (c : MC) : Fx := { rowFx (rngE 2 c.rg) with bs := (rowFx []).bs ++ c.dom.map fun b => (b, true) }
def resVs (ss : List Pt) (v : SV) : Option (List SV) := match ss with
  | [_] => some [v]
  | _ => match v with
    | .tup l => some l
    | _ => none
/-- Where a block of the contract lies at the end of the function's own walk. -/
def MC.ml (c : MC) (news : List Nat) (i : Nat) : Nat := match Nat.blt i c.nbp with
  | true => i
  | false => news.getD (i - c.nbp) 0
def MC.nums (c : MC) (fx : Fx) (v : SV) (b : Blks) (wd : List Nat) : Option (List E × List Nat) := match resVs c.res v with
  | some vs =>
    fL fN ((List.range c.nn).map fun q => lk (lPr Pt.pr c.res vs) (c.nbp + q)) fun news =>
    match lGet (Pt.get (c.ml news) fx) c.res vs, bGet (c.ml news) fx (getB b) c.out with
    | some ea, some eb => if ndup news && news.all (fun j => Nat.ble c.nbp j && Nat.blt j b.length) && wd.all (fun j => Nat.ble c.nbp j || c.out.any fun t => Nat.beq t.1 j) then some (ea ++ eb, news) else none
    | _, _ => none
  | none => none
def MC.leaf (c : MC) (v : SV) (σ : St) : T (List E) := match c.nums σ.fx v σ.b σ.wd with
  | some (es, _) => wrapA (askN σ.fx (askV σ.fx c.rng es)) (.leaf (if c.clamp then clampL c.rng es else es))
  | none => .bad
def MC.tree (P : Program) (C : Ctx) (F d : Nat) (f : FuncId) (c : MC) : T (List E) :=
  if St.cl { t := [], b := c.blks0, fx := c.fx0, n := 2 + c.W, wd := [] } && clL (2 + c.W) (ltB c.blks0.length) (lSv Pt.w (Pt.sv id []) c.args 2) then
    evD P C F d f (lSv Pt.w (Pt.sv id []) c.args 2) { t := [], b := c.blks0, fx := c.fx0, n := 2 + c.W, wd := [] } c.leaf
  else .bad
/-- The contract's own parts fit. -/
def MC.wf (c : MC) : Bool := (c.blks.map (·.1) == List.range c.nbp) && ndup (c.out.map (·.1)) && c.out.all (fun t => Nat.blt t.1 (c.nbp + c.nn)) && (List.range c.nn).all (fun q => c.out.any fun t => Nat.beq t.1 (c.nbp + q)) &&
  c.args.all (Pt.lt c.nbp 0) && c.blks.all (fun t => t.2.2.all (Pc.lt c.nbp 0)) && c.res.all (Pt.lt (c.nbp + c.nn) c.W) && c.out.all (fun t => t.2.2.all (Pc.lt (c.nbp + c.nn) c.W)) && Nat.beq c.rg.length c.W && Nat.ble c.rng.length c.M && c.args.all Pt.inp && c.blks.all (fun t => t.2.2.all Pc.inp)
end Go.Proofs.Ytnnnmdmniceenaa.Ev
