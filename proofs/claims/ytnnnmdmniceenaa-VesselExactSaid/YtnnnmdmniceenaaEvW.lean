/- Walks in parts: a law's tree, put together of the trees of stretches of its code. -/
import Derived.Test.YtnnnmdmniceenaaEvR
import Derived.Test.YtnnnmdmniceenaaEvG
set_option linter.unusedSimpArgs false
set_option linter.unusedVariables false
namespace Go.Proofs.Ytnnnmdmniceenaa.Ev
/-- What is left to be done behind a stretch. -/
inductive Fr where
  | seq (b : Code) (u : Nat) | block (id : Nat) | rnd (n : Nat) (c : Code) (u : Nat)
/-- A place in a walk: at a code, behind one, at a loop with so many rounds left. -/
inductive Ct where
  | go (c : Code) (u : Nat) (r : List Fr) | back (x : X) (r : List Fr) | lp (n : Nat) (c : Code) (u : Nat) (r : List Fr)
def Ct.code : Ct → Code
  | .go c _ _ => c
  | _ => .skip
def Ct.un : Ct → Nat
  | .go _ u _ => u
  | _ => 0
def Ct.fr : Ct → List Fr
  | .go _ _ r => r
  | .back _ r => r
  | .lp _ _ _ r => r
/-- The first statements of a sequence, and the others. -/
def spl : Nat → Code → Code × Option Code
  | 0, c => (c, none)
  | n + 1, c => match c with
    | .seq a b => match n with
      | 0 => (a, some b)
      | _ + 1 => (.seq a (spl n b).1, (spl n b).2)
    | c => (c, none)
section
variable (P : Program) (C : Ctx) (F : Nat) (inl : Inl Leaf) (f : FuncId) (k0 : X → St → T Leaf)
def plug : List Fr → X → St → T Leaf
  | [] => k0
  | .seq b u :: r => thenX (fun s' => ev P C F inl f b u s' (plug r)) (plug r)
  | .block id :: r => blockX id (plug r)
  | .rnd n c u :: r => thenX (fun s' => rounds (fun s'' K' => ev P C F inl f c u s'' K') n s' (plug r)) (plug r)
def at_ : Ct → St → T Leaf
  | .go c u r, s => ev P C F inl f c u s (plug P C F inl f k0 r)
  | .back x r, s => plug P C F inl f k0 r x s
  | .lp n c u r, s => rounds (fun s'' K' => ev P C F inl f c u s'' K') n s (plug P C F inl f k0 r)
/-- A step that looks at no state. -/
def adm1 : Ct → Ct
  | .go .skip _ r => .back .normal r
  | .go (.seq a b) u r => .go a u (.seq b u :: r)
  | .go (.block id c) _ r => .go c id (.block id :: r)
  | .go (.loop c) u r => match C.lh f u with
    | none => .lp F c u r
    | some _ => .go (.loop c) u r
  | .go (.exit id) _ r => .back (.exit id) r
  | .go .ret _ r => .back .ret r
  | .lp (n + 1) c u r => .go c u (.rnd n c u :: r)
  | .back .normal (.seq b u :: r) => .go b u r
  | .back (.exit i) (.block id :: r) => if i = id then .back .normal r else .back (.exit i) r
  | .back .normal (.rnd n c u :: r) => .lp n c u r
  | .back x (_ :: r) => .back x r
  | c => c
def adm : Nat → Ct → Ct
  | 0, c => c
  | n + 1, c => adm n (adm1 C F f c)
/-- The stretch of the first statements. -/
def grp (n : Nat) : Ct → Ct
  | .go c u r => match (spl n c).2 with
    | some b => .go (spl n c).1 u (.seq b u :: r)
    | none => .go c u r
  | c => c
def thn : Ct → Ct
  | .go (.cond _ a _) u r => .go a u r
  | c => c
def els : Ct → Ct
  | .go (.cond _ _ b) u r => .go b u r
  | c => c
variable {P C F inl f k0}
theorem adm1_ok (ct : Ct) (s : St) : at_ P C F inl f k0 (adm1 C F f ct) s = at_ P C F inl f k0 ct s := by
  unfold adm1
  split
  · rfl
  · rfl
  · rfl
  · rename_i c u r
    split
    · rename_i h
      simp only [at_, ev, h]
    · rfl
  · rfl
  · rfl
  · rfl
  · rfl
  · rename_i i id r
    split
    · rename_i h
      simp only [at_, plug, blockX, if_pos h]
    · rename_i h
      simp only [at_, plug, blockX, if_neg h]
  · rfl
  · rename_i x fr r h1 h2 h3
    rcases fr with ⟨b, u⟩ | id | ⟨n, c, u⟩
    · rcases x with _ | i | _
      · exact (h1 b u rfl rfl).elim
      · rfl
      · rfl
    · rcases x with _ | i | _
      · rfl
      · exact (h2 i id rfl rfl).elim
      · rfl
    · rcases x with _ | i | _
      · exact (h3 n c u rfl rfl).elim
      · rfl
      · rfl
  · rfl
theorem adm_ok (n : Nat) (ct : Ct) (s : St) : at_ P C F inl f k0 (adm C F f n ct) s = at_ P C F inl f k0 ct s := by
  induction n generalizing ct with
  | zero => rfl
  | succ n ih => exact (ih _).trans (adm1_ok ct s)
theorem spl_ok {α : Type} {inl : Inl α} (n : Nat) : ∀ (c : Code) (u : Nat) (s : St) (K : X → St → T α), ev P C F inl f c u s K = match (spl n c).2 with
    | some b => ev P C F inl f (spl n c).1 u s (thenX (fun s' => ev P C F inl f b u s' K) K)
    | none => ev P C F inl f c u s K := by
  induction n with
  | zero => intro c u s K; rfl
  | succ n ih =>
    intro c u s K
    cases c with
    | seq a b =>
      rcases n with _ | n
      · rfl
      · have e1 : (spl (n + 1 + 1) (.seq a b)).2 = (spl (n + 1) b).2 := rfl
        have e2 : (spl (n + 1 + 1) (.seq a b)).1 = .seq a (spl (n + 1) b).1 := rfl
        rw [e1, e2]
        cases hs : (spl (n + 1) b).2 with
        | none => rfl
        | some y =>
          dsimp only
          simp only [ev]
          congr 1
          funext x' s'
          rcases x' with _ | i | _
          · show ev P C F inl f b u s' K = _
            rw [ih, hs]
            rfl
          · rfl
          · rfl
    | _ => rfl
theorem grp_ok (n : Nat) (ct : Ct) (s : St) : at_ P C F inl f k0 (grp n ct) s = at_ P C F inl f k0 ct s := by
  unfold grp
  split
  · rename_i c u r
    split
    · rename_i b h
      have := spl_ok (P := P) (C := C) (F := F) (inl := inl) (f := f) n c u s (plug P C F inl f k0 r)
      rw [h] at this
      exact this.symm
    · rfl
  · rfl
def Ct.isGo : Ct → Bool
  | .go _ _ _ => true
  | _ => false
/-- A stretch whose walk is known whatever comes behind it. -/
theorem at_piece {ct : Ct} (h : ct.isGo = true) {s : St} {R : (X → St → T Leaf) → T Leaf} (hp : ∀ K : X → St → T Leaf, (ev P C F inl f ct.code ct.un s K).strip = R K) : (at_ P C F inl f k0 ct s).strip = R (plug P C F inl f k0 ct.fr) := by
  rcases ct with ⟨c, u, r⟩ | ⟨x, r⟩ | ⟨n, c, u, r⟩
  · exact hp _
  · cases h
  · cases h
theorem at_back {r : List Fr} {x : X} {s : St} {ct : Ct} {n m : Nat} (h : grp m (adm C F f n (.back x r)) = ct) {t : T Leaf} (ht : (at_ P C F inl f k0 ct s).strip = t) : (plug P C F inl f k0 r x s).strip = t := by
  subst h
  rw [grp_ok, adm_ok] at ht
  exact ht
theorem at_adm {ct0 : Ct} {s : St} {ct : Ct} {n m : Nat} (h : grp m (adm C F f n ct0) = ct) {t : T Leaf} (ht : (at_ P C F inl f k0 ct s).strip = t) : (at_ P C F inl f k0 ct0 s).strip = t := by
  subst h
  rw [grp_ok, adm_ok] at ht
  exact ht
def condOp : Ct → Option Operand
  | .go (.cond c _ _) _ _ => some c
  | _ => none
def condB (ct : Ct) (s : St) : Option (B × Option Bool) := match condOp ct with
  | some c => match opdF s.fx s.t c with
    | some (.bool t) => some (t, decB s.fx t)
    | _ => none
  | none => none
theorem at_cond1 {ct : Ct} {s : St} {b : B} (h : condB ct s = some (b, some true)) {t : T Leaf} (ht : (at_ P C F inl f k0 (thn ct) s).strip = t) : (at_ P C F inl f k0 ct s).strip = t := by
  unfold condB condOp at h
  split at h
  · rename_i c hc
    split at hc
    · rename_i c' a b' u r
      simp only [Option.some.injEq] at hc; subst hc
      split at h
      · rename_i t' ho
        simp only [Option.some.injEq, Prod.mk.injEq] at h
        obtain ⟨rfl, hd⟩ := h
        simp only [at_, ev, ho, hd]
        exact ht
      · cases h
    · cases hc
  · cases h
theorem at_cond0 {ct : Ct} {s : St} {b : B} (h : condB ct s = some (b, some false)) {t : T Leaf} (ht : (at_ P C F inl f k0 (els ct) s).strip = t) : (at_ P C F inl f k0 ct s).strip = t := by
  unfold condB condOp at h
  split at h
  · rename_i c hc
    split at hc
    · rename_i c' a b' u r
      simp only [Option.some.injEq] at hc; subst hc
      split at h
      · rename_i t' ho
        simp only [Option.some.injEq, Prod.mk.injEq] at h
        obtain ⟨rfl, hd⟩ := h
        simp only [at_, ev, ho, hd]
        exact ht
      · cases h
    · cases hc
  · cases h
theorem at_cond {ct : Ct} {s s1 s2 : St} {b : B} (h : condB ct s = some (b, none)) (h1 : { s with fx := assume s.fx b true } = s1) (h2 : { s with fx := assume s.fx b false } = s2) {t e : T Leaf} (ht : (at_ P C F inl f k0 (thn ct) s1).strip = t) (he : (at_ P C F inl f k0 (els ct) s2).strip = e) :
    (at_ P C F inl f k0 ct s).strip = .ite b t e := by
  subst h1; subst h2
  unfold condB condOp at h
  split at h
  · rename_i c hc
    split at hc
    · rename_i c' a b' u r
      simp only [Option.some.injEq] at hc; subst hc
      split at h
      · rename_i t' ho
        simp only [Option.some.injEq, Prod.mk.injEq] at h
        obtain ⟨rfl, hd⟩ := h
        simp only [at_, ev, ho, hd, fB_eq, St.knowF_eq, T.strip]
        exact congr (congrArg (T.ite t') ht) he
      · cases h
    · cases hc
  · cases h
end
/-- The walk of a whole law, from its function's code. -/
theorem evFn_at {P : Program} {C : Ctx} {F d : Nat} {f : FuncId} {args : List SV} {fx : Fx} {n : Nat} {fn : Func} {c : Code} {s : St} (hchk : (clL n (ltB ([] : Blks).length) args && clBs n (ltB ([] : Blks).length) [] && clFx n fx) = true) (hf : P.funcs[f]? = some fn) (hc : fn.body = some c)
    (hs : { t := args ++ List.replicate (fn.ntmps - args.length) .undef, b := [], fx := fx, n := n, wd := [], cs := [] } = s) {t : T Leaf} (ht : (at_ P C F (evD P C F d) f (endX P fn fun v σ => .leaf (nrmV σ.fx v, σ.b, σ.wd)) (.go c 0 []) s).strip = t) : (evFn P C F (d + 1) f args [] fx n).strip = t := by
  subst hs
  unfold evFn
  rw [if_pos hchk]
  simp only [evD, hf, hc]
  rw [fVs_eq]
  exact ht
end Go.Proofs.Ytnnnmdmniceenaa.Ev
