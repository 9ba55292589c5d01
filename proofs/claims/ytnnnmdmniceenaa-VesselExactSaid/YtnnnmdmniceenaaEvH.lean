/- Contracts of functions of ints, bools and plain structs: from a tree to a contract. -/
import Derived.Test.YtnnnmdmniceenaaEvG
set_option linter.unusedSimpArgs false
set_option linter.unusedVariables false
namespace Go.Proofs.Ytnnnmdmniceenaa.Ev
open Go.RowKit
/-- A cell's kind: an int of a kind, or a bool. -/
abbrev Ck := Option IntKind
/-- An argument's or a result's shape. -/
inductive Sh where
  | one (k : Ck) | agg (l : List Ck)
def cellE (fx : Fx) : Ck → SV → Option E
  | some k, .int l e => if keq k l then some e else none
  | none, .bool b => match decB fx b with
    | some true => some (.lit 1)
    | some false => some (.lit 0)
    | none => some (bE b)
  | _, _ => none
def cellV : Ck → Int → Value
  | some k, x => .int k x
  | none, x => .bool (decide (x ≠ 0))
def cellS : Ck → Nat → SV
  | some k, i => .int k (.v i)
  | none, i => .bool (.nz (.v i))
theorem cellE_ok {fx : Fx} {k : Ck} {v : SV} {e : E} (h : cellE fx k v = some e) {ρ : List Int} (hf : FxOK ρ fx) (η : Env) : denV ρ η v = cellV k (den ρ e) := by
  unfold cellE at h
  split at h
  · split at h
    · rename_i hk
      have := keq_eq hk
      subst this
      simp only [Option.some.injEq] at h; subst h; rfl
    · simp at h
  · split at h
    · rename_i hd
      simp only [Option.some.injEq] at h; subst h
      simp [denV, decB_ok hf _ _ hd, cellV, den]
    · rename_i hd
      simp only [Option.some.injEq] at h; subst h
      simp [denV, decB_ok hf _ _ hd, cellV, den]
    · simp only [Option.some.injEq] at h; subst h
      simp only [denV, cellV, bE_ok]
  · simp at h
theorem cellS_ok (k : Ck) (i : Nat) (ρ : List Int) (η : Env) : denV ρ η (cellS k i) = cellV k (ρ.getD i 0) := by cases k <;> rfl
def cellsE (fx : Fx) : List Ck → List SV → Option (List E)
  | [], [] => some []
  | k :: ks, v :: vs => match cellE fx k v, cellsE fx ks vs with
    | some e, some r => some (e :: r)
    | _, _ => none
  | _, _ => none
def cellsV : List Ck → List Int → List Value
  | [], _ => []
  | k :: ks, l => cellV k (l.headD 0) :: cellsV ks l.tail
def cellsS : List Ck → Nat → List SV
  | [], _ => []
  | k :: ks, i => cellS k i :: cellsS ks (i + 1)
theorem cellsE_ok {fx : Fx} {ρ : List Int} (hf : FxOK ρ fx) (η : Env) : ∀ {ks : List Ck} {vs : List SV} {es : List E}, cellsE fx ks vs = some es → es.length = ks.length ∧ ∀ r, vs.map (denV ρ η) = cellsV ks (es.map (den ρ) ++ r)
  | [], [], es, h => by simp [cellsE] at h; subst h; simp [cellsV]
  | k :: ks, v :: vs, es, h => by
    simp only [cellsE] at h
    split at h
    · rename_i e r' he hr
      simp only [Option.some.injEq] at h; subst h
      have ih := cellsE_ok hf η hr
      exact ⟨by simp [ih.1], fun r => by simp [cellsV, cellE_ok he hf η, ih.2 r]⟩
    · simp at h
  | [], _ :: _, _, h => by simp [cellsE] at h
  | _ :: _, [], _, h => by simp [cellsE] at h
theorem cellsS_ok (ρ : List Int) (η : Env) : ∀ (ks : List Ck) (i : Nat) (l : List Int), (∀ j, j < ks.length → ρ.getD (i + j) 0 = l.getD j 0) → (cellsS ks i).map (denV ρ η) = cellsV ks l
  | [], _, _, _ => rfl
  | k :: ks, i, l, h => by
    simp only [cellsS, List.map_cons, cellsV]
    have h0 := h 0 (by simp)
    rw [cellS_ok, cellsS_ok ρ η ks (i + 1) l.tail (fun j hj => by
      have := h (j + 1) (by simp; omega)
      rw [show i + 1 + j = i + (j + 1) by omega, this]
      cases l <;> simp)]
    congr 1
    rw [Nat.add_zero] at h0
    rw [h0]
    cases l <;> simp
def Sh.w : Sh → Nat
  | .one _ => 1
  | .agg l => l.length
def shE (fx : Fx) : Sh → SV → Option (List E)
  | .one k, v => match cellE fx k v with
    | some e => some [e]
    | none => none
  | .agg ks, .agg vs => cellsE fx ks vs
  | _, _ => none
def shV : Sh → List Int → Value
  | .one k, l => cellV k (l.headD 0)
  | .agg ks, l => .agg (cellsV ks l).toArray
def shS : Sh → Nat → SV
  | .one k, i => cellS k i
  | .agg ks, i => .agg (cellsS ks i)
theorem shE_ok {fx : Fx} {ρ : List Int} (hf : FxOK ρ fx) (η : Env) {s : Sh} {v : SV} {es : List E} (h : shE fx s v = some es) : es.length = s.w ∧ ∀ r, denV ρ η v = shV s (es.map (den ρ) ++ r) := by
  unfold shE at h
  split at h
  · split at h
    · rename_i e he
      simp only [Option.some.injEq] at h; subst h
      exact ⟨rfl, fun r => by simp [shV, cellE_ok he hf η]⟩
    · simp at h
  · have := cellsE_ok hf η h
    exact ⟨this.1, fun r => by simp [denV, denL_map, shV, this.2 r]⟩
  · simp at h
theorem shS_ok (ρ : List Int) (η : Env) (s : Sh) (i : Nat) (l : List Int) (h : ∀ j, j < s.w → ρ.getD (i + j) 0 = l.getD j 0) : denV ρ η (shS s i) = shV s l := by
  cases s with
  | one k =>
    have := h 0 (by simp [Sh.w])
    rw [Nat.add_zero] at this
    simp only [shS, shV, cellS_ok, this]
    cases l <;> simp
  | agg ks => simp only [shS, shV, denV, denL_map]; rw [cellsS_ok ρ η ks i l h]
def shsW : List Sh → Nat
  | [] => 0
  | s :: r => s.w + shsW r
def shsE (fx : Fx) : List Sh → List SV → Option (List E)
  | [], [] => some []
  | s :: ss, v :: vs => match shE fx s v, shsE fx ss vs with
    | some e, some r => some (e ++ r)
    | _, _ => none
  | _, _ => none
def shsV : List Sh → List Int → List Value
  | [], _ => []
  | s :: ss, l => shV s l :: shsV ss (l.drop s.w)
def shsS : List Sh → Nat → List SV
  | [], _ => []
  | s :: ss, i => shS s i :: shsS ss (i + s.w)
theorem shsE_ok {fx : Fx} {ρ : List Int} (hf : FxOK ρ fx) (η : Env) : ∀ {ss : List Sh} {vs : List SV} {es : List E}, shsE fx ss vs = some es → es.length = shsW ss ∧ vs.map (denV ρ η) = shsV ss (es.map (den ρ))
  | [], [], es, h => by simp [shsE] at h; subst h; simp [shsV, shsW]
  | s :: ss, v :: vs, es, h => by
    simp only [shsE] at h
    split at h
    · rename_i e r' he hr
      simp only [Option.some.injEq] at h; subst h
      have ih := shsE_ok hf η hr
      have h1 := shE_ok hf η he
      refine ⟨by simp [ih.1, h1.1, shsW], ?_⟩
      simp only [List.map_cons, shsV, List.map_append, h1.2 (r'.map (den ρ)), ih.2]
      congr 2
      rw [List.drop_left' (by simp [h1.1])]
    · simp at h
  | [], _ :: _, _, h => by simp [shsE] at h
  | _ :: _, [], _, h => by simp [shsE] at h
theorem shsS_ok (ρ : List Int) (η : Env) : ∀ (ss : List Sh) (i : Nat) (l : List Int), (∀ j, j < shsW ss → ρ.getD (i + j) 0 = l.getD j 0) → (shsS ss i).map (denV ρ η) = shsV ss l
  | [], _, _, _ => rfl
  | s :: ss, i, l, h => by
    simp only [shsS, List.map_cons, shsV]
    rw [shS_ok ρ η s i l (fun j hj => h j (by simp [shsW]; omega)), shsS_ok ρ η ss (i + s.w) (l.drop s.w) (fun j hj => by
      have := h (s.w + j) (by simp [shsW]; omega)
      rw [show i + s.w + j = i + (s.w + j) by omega, this]
      simp [List.getD_eq_getElem?_getD])]
/-- One result, or several. -/
def retV (ss : List Sh) (l : List Int) : Value := match ss with
  | [s] => shV s l
  | ss => .tuple (shsV ss l).toArray
def retS (ss : List Sh) (i : Nat) : SV := match ss with
  | [s] => shS s i
  | ss => .tup (shsS ss i)
theorem retS_ok (ρ : List Int) (η : Env) (ss : List Sh) (i : Nat) (l : List Int) (h : ∀ j, j < shsW ss → ρ.getD (i + j) 0 = l.getD j 0) : denV ρ η (retS ss i) = retV ss l := by
  unfold retS retV
  split
  · rename_i s
    exact shS_ok ρ η s i l fun j hj => h j (by simp [shsW]; omega)
  · simp only [denV, denL_map]
    rw [shsS_ok ρ η ss i l h]
/-- A contract of a function that only computes: the arguments' and results' shapes, the function's name in the signature, what it asks, what is known of its results. -/
structure PC where
  args : List Sh
  res : List Sh
  key : Nat
  dom : List (Int × Int)
  rng : List (Int × Int)
def PC.con (c : PC) : Con := fun vs _ fx n _ => match shsE fx c.args vs with
  | some es => some { v := retS c.res n, wr := [], nn := 0, asr := askN fx (askR c.dom es), cal := some (c.key, es, shsW c.res), rng := rngE n c.rng }
  | none => none
/-- What is to be proved of a contract. -/
structure PCOK (P : Program) (f : FuncId) (c : PC) (g : List Int → List Int) : Prop where
  body : BodyOK P f = true
  wide : c.rng.length ≤ shsW c.res
  call : ∀ (es : List E) (ρ : List Int), es.length = shsW c.args → (∀ b ∈ askR c.dom es, denB ρ b = true) →
    (∀ i l h, c.rng[i]? = some (l, h) → l ≤ (g (es.map (den ρ))).getD i 0 ∧ (g (es.map (den ρ))).getD i 0 ≤ h) ∧
    ∀ w, Calls P f (shsV c.args (es.map (den ρ))).toArray w fun e w' => e = .returned (retV c.res (g (es.map (den ρ)))) ∧ Below w.heap.size w w'
theorem PCOK.con {P : Program} {Φ : Sig} {f : FuncId} {c : PC} {g : List Int → List Int} (h : PCOK P f c g) (hg : Φ c.key = g) : ConOK P Φ f c.con := by
  refine ⟨h.body, fun vs bl fx n nb r hr ρ η w hf hcal hasr hb hbn => ?_⟩
  unfold PC.con at hr
  split at hr
  · rename_i es hes
    simp only [Option.some.injEq] at hr; subst hr
    obtain ⟨h1, h2⟩ := shsE_ok hf η hes
    have hres := hcal _ _ _ rfl
    rw [hg] at hres
    obtain ⟨hr1, hr2⟩ := h.call es ρ h1 (askN_ok hf hasr)
    refine ⟨fun p hp => ?_, ?_⟩
    · obtain ⟨i, a, b, hi, rfl⟩ := rngE_mem hp
      have hil : i < c.rng.length := (List.getElem?_eq_some_iff.1 hi).1
      have := hr1 i a b hi
      rw [← hres i (by have := h.wide; omega)] at this
      exact this
    · rw [h2]
      refine (hr2 w).mono fun e w' ⟨he, hB⟩ => ⟨η, ?_, ?_⟩
      · rw [he, retS_ok ρ η c.res n _ hres]
      · exact { size := hB.size, io := ⟨hB.os, hB.tape, hB.output⟩, al := rfl, same := fun _ _ => ⟨rfl, rfl⟩, frame := fun b hb' _ => hB.block b hb'
                made := fun i T cs hm => by cases hm
                fresh := fun i h1 h2 => by simp only [] at h2; omega
                apart := fun i j h1 h2 => by simp only [] at h2; omega
                known := fun p hp => by cases hp
                once := by simp }
  · simp at hr
/-- The leaf is this value. -/
def LVal (x : Value) : List Int → Leaf → Prop := fun ρ l => ∀ η, denV ρ η l.1 = x
theorem call_of_tree {P : Program} {C : Ctx} {Φ : Sig} (hC : CtxOK P Φ C) {F d : Nat} {f : FuncId} {ss : List Sh} {fx : Fx} {n : Nat} {ρ : List Int} {x : Value}
    {t : T Leaf} (he : evFn P C F d f (shsS ss 0) [] fx n = t) (ht : t.ok Φ (LVal x) ρ) (hn : ρ.length = n) (hf : FxOK ρ fx) {w : World} (hp : ∃ s, ρ = Φ.pre ++ s) (hg : Φ.good w) :
    Calls P f (shsV ss ρ).toArray w fun e w' => e = .returned x ∧ Below w.heap.size w w' := by
  have hv : (shsS ss 0).map (denV ρ (envΦ Φ)) = shsV ss ρ := shsS_ok ρ _ ss 0 ρ fun j _ => by rw [Nat.zero_add]
  rw [← hv]
  exact (evFn_ok hC (he ▸ ht) hn hf (Rb_nil hp hg)).mono fun e w' ⟨ρ', η', v, b', wd, he, hL, hd⟩ => by
    subst he
    exact ⟨by rw [hL η'], hd.io.1, hd.io.2.1, hd.io.2.2, hd.size, fun k hk => hd.frame k hk fun i _ hi => by simp at hi⟩
theorem askR_ok {ρ : List Int} : ∀ (r : List (Int × Int)) (es : List E) (n : Nat) (xs : List Int), (∀ b ∈ askR r es, denB ρ b = true) → r.length = es.length → (∀ i, i < es.length → xs.getD (n + i) 0 = (es.map (den ρ)).getD i 0) →
    ∀ p ∈ rngE n r, p.2.1 ≤ den xs p.1 ∧ den xs p.1 ≤ p.2.2
  | [], _, _, _, _, _, _, p, hp => by cases hp
  | (l, h) :: r, [], _, _, _, hl, _, _, _ => by simp at hl
  | (l, h) :: r, e :: es, n, xs, hb, hl, hx, p, hp => by
    simp only [rngE] at hp
    simp only [askR] at hb
    rcases List.mem_cons.1 hp with rfl | hp
    · have h0 := hx 0 (by simp)
      simp only [Nat.add_zero, List.map_cons, List.getD_cons_zero] at h0
      have b1 : l ≤ den ρ e := of_decide_eq_true (hb _ (List.mem_cons_self ..))
      have b2 : den ρ e ≤ h := of_decide_eq_true (hb _ (List.mem_cons_of_mem _ (List.mem_cons_self ..)))
      simp only [den, h0]
      exact ⟨b1, b2⟩
    · refine askR_ok r es (n + 1) xs (fun b hb' => hb b (List.mem_cons_of_mem _ (List.mem_cons_of_mem _ hb'))) (by simpa using hl) (fun i hi => ?_) p hp
      have := hx (i + 1) (by simp; omega)
      rw [show n + 1 + i = n + (i + 1) by omega, this]
      simp
/-- A contract off a tree. -/
theorem pc_of_tree {P : Program} {C : Ctx} {Φ : Sig} (hC : CtxOK P Φ C) (hpre : Φ.pre = []) (hgood : ∀ w, Φ.good w) {F d : Nat} {f : FuncId} {c : PC} {g : List Int → List Int}
    (hb : BodyOK P f = true) (hw : decide (c.rng.length ≤ shsW c.res) = true) (hdl : c.dom.length = shsW c.args) {t : T Leaf} (he : evFn P C F d f (shsS c.args 0) [] ⟨rngE 0 c.dom, []⟩ c.dom.length = t)
    (hok : ∀ xs : List Int, xs.length = c.dom.length → (∀ p ∈ rngE 0 c.dom, p.2.1 ≤ den xs p.1 ∧ den xs p.1 ≤ p.2.2) →
      RngOK c.rng (g xs) ∧ t.ok Φ (LVal (retV c.res (g xs))) xs) : PCOK P f c g where
  body := hb
  wide := of_decide_eq_true hw
  call := fun es ρ hes ha => by
    have hx := askR_ok c.dom es 0 (es.map (den ρ)) ha (by rw [hdl, hes]) (fun i _ => by rw [Nat.zero_add])
    obtain ⟨h1, h2⟩ := hok (es.map (den ρ)) (by simp [hes, hdl]) hx
    exact ⟨RngOK_get h1, fun w => call_of_tree hC he h2 (by simp [hes, hdl]) ⟨FsOK.of hx, fun _ h => by cases h⟩ ⟨_, by rw [hpre]; rfl⟩ (hgood w)⟩
theorem fit0 (l : List Int) : fit 0 l = [] := rfl
theorem fit1 (l : List Int) : fit 1 l = [l.getD 0 0] := rfl
theorem fit2 (l : List Int) : fit 2 l = [l.getD 0 0, l.getD 1 0] := rfl
theorem fit3 (l : List Int) : fit 3 l = [l.getD 0 0, l.getD 1 0, l.getD 2 0] := rfl
theorem fit4 (l : List Int) : fit 4 l = [l.getD 0 0, l.getD 1 0, l.getD 2 0, l.getD 3 0] := rfl
/-! ### Tables of contracts -/
def ctxFn : List (FuncId × PC) → FuncId → Option Con
  | [], _ => none
  | (f, c) :: l, g => if f = g then some c.con else ctxFn l g
def ctxOf (l : List (FuncId × PC)) : Ctx := { fn := ctxFn l }
def TabOK (P : Program) (Φ : Sig) : List (FuncId × PC) → Prop
  | [] => True
  | (f, c) :: l => PCOK P f c (Φ c.key) ∧ TabOK P Φ l
theorem ctxFn_ok {P : Program} {Φ : Sig} : ∀ {l : List (FuncId × PC)}, TabOK P Φ l → ∀ f c, ctxFn l f = some c → ConOK P Φ f c
  | [], _ => fun f c h => by simp [ctxFn] at h
  | (f, c) :: l, h => fun g d hd => by
    simp only [ctxFn] at hd
    split at hd
    · rename_i hfg
      subst hfg
      simp only [Option.some.injEq] at hd; subst hd
      exact h.1.con rfl
    · exact ctxFn_ok h.2 g d hd
theorem ctxOf_ok {P : Program} {Φ : Sig} {l : List (FuncId × PC)} (h : TabOK P Φ l) : CtxOK P Φ (ctxOf l) := ⟨ctxFn_ok h, noLd Φ⟩
end Go.Proofs.Ytnnnmdmniceenaa.Ev
