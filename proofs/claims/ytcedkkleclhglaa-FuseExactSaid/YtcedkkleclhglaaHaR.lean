/- Compact code, functions: the rules. -/
import Derived.Test.YtcedkkleclhglaaHaQ
set_option linter.unusedSimpArgs false
set_option linter.unusedVariables false
set_option linter.unusedSectionVars false
namespace Go.Proofs.Ytcedkkleclhglaa.H

inductive Cd where
  | skip | ops (l : List Ins) | opd (l : List DI) | seq (a b : Cd) | cond (x : Operand) (a b : Cd) | block (id : Nat) (c : Cd) | loop (c : Cd) | exit (id : Nat) | ret
def comp (P : Program) (N : Nat) : Code → Option Cd
  | .skip => some .skip
  | .region _ ops false => match insL P N ops ops.toList with
    | some l => some (.ops l)
    | none => none
  | .region _ ops true => match compD P N ops with
    | some l => some (.opd l)
    | none => none
  | .seq a b => match comp P N a, comp P N b with
    | some x, some y => some (.seq x y)
    | _, _ => none
  | .cond c a b => match comp P N a, comp P N b with
    | some x, some y => some (.cond c x y)
    | _, _ => none
  | .block id c => match comp P N c with
    | some x => some (.block id x)
    | none => none
  | .loop c => match comp P N c with
    | some x => some (.loop x)
    | none => none
  | .exit id => some (.exit id)
  | .ret => some .ret
  | _ => none
/-- What must hold for a piece of code to end so; the first 'm' blocks keep their places. -/
def AW (P : Program) (N m : Nat) (c : Cd) (T : Tm) (s : St) (Q : Fl → Tm → St → Prop) : Prop :=
  ∀ code, comp P N code = some c → ∀ w K β a, Fr N w K β s T a → m ≤ s.length → code.wp P (After N m w K β s Q) a w
section
variable {P : Program} {N m : Nat} {T : Tm} {s : St} {Q : Fl → Tm → St → Prop}
theorem After.mono {w : World} {K : Nat → Prop} {β : Nat → Loc} {Q' : Fl → Tm → St → Prop} (hq : ∀ fl T s, Q fl T s → Q' fl T s) : ∀ e a' w', After N m w K β s Q e a' w' → After N m w K β s Q' e a' w' :=
  fun e a' w' ⟨fl, T', s', K', β', h1, h2, h3⟩ => ⟨fl, T', s', K', β', h1, hq _ _ _ h2, h3⟩
theorem AW.mono {c : Cd} {Q' : Fl → Tm → St → Prop} (h : AW P N m c T s Q) (hq : ∀ fl T s, Q fl T s → Q' fl T s) : AW P N m c T s Q' :=
  fun code hc w K β a hf hm => wp_mono (h code hc w K β a hf hm) (After.mono hq)
/-- What ends a piece of code, from an earlier moment on. -/
theorem After.trans {w w1 : World} {K K1 : Nat → Prop} {β β1 : Nat → Loc} {s1 : St} (hx : Ext m w K β s w1 K1 β1 s1) : ∀ e a' w', After N m w1 K1 β1 s1 Q e a' w' → After N m w K β s Q e a' w' :=
  fun e a' w' ⟨fl, T', s', K', β', h1, h2, h3, h4⟩ => ⟨fl, T', s', K', β', h1, h2, h3, hx.trans (Nat.le_refl _) h4⟩
theorem comp_inv : ∀ {code : Code} {c : Cd}, comp P N code = some c → match c with
    | .skip => code = .skip
    | .ops l => ∃ id ops, code = .region id ops false ∧ insL P N ops ops.toList = some l
    | .opd l => ∃ id ops, code = .region id ops true ∧ compD P N ops = some l
    | .seq a b => ∃ x y, code = .seq x y ∧ comp P N x = some a ∧ comp P N y = some b
    | .cond o a b => ∃ x y, code = .cond o x y ∧ comp P N x = some a ∧ comp P N y = some b
    | .block id a => ∃ x, code = .block id x ∧ comp P N x = some a
    | .loop a => ∃ x, code = .loop x ∧ comp P N x = some a
    | .exit id => code = .exit id
    | .ret => code = .ret
  | .skip, c, h => by simp only [comp, Option.some.injEq] at h; subst h; rfl
  | .region id ops false, c, h => by
    simp only [comp] at h
    split at h
    · rename_i l hl; simp only [Option.some.injEq] at h; subst h; exact ⟨_, _, rfl, hl⟩
    · cases h
  | .region id ops true, c, h => by
    simp only [comp] at h
    split at h
    · rename_i l hl; simp only [Option.some.injEq] at h; subst h; exact ⟨_, _, rfl, hl⟩
    · cases h
  | .seq a b, c, h => by
    simp only [comp] at h
    split at h
    · rename_i x y h1 h2; simp only [Option.some.injEq] at h; subst h; exact ⟨_, _, rfl, h1, h2⟩
    · cases h
  | .cond o a b, c, h => by
    simp only [comp] at h
    split at h
    · rename_i x y h1 h2; simp only [Option.some.injEq] at h; subst h; exact ⟨_, _, rfl, h1, h2⟩
    · cases h
  | .block id a, c, h => by
    simp only [comp] at h
    split at h
    · rename_i x h1; simp only [Option.some.injEq] at h; subst h; exact ⟨_, rfl, h1⟩
    · cases h
  | .loop a, c, h => by
    simp only [comp] at h
    split at h
    · rename_i x h1; simp only [Option.some.injEq] at h; subst h; exact ⟨_, rfl, h1⟩
    · cases h
  | .exit id, c, h => by simp only [comp, Option.some.injEq] at h; subst h; rfl
  | .ret, c, h => by simp only [comp, Option.some.injEq] at h; subst h; rfl
  | .rangeFunc .., c, h => by simp [comp] at h
  | .scope .., c, h => by simp [comp] at h
  | .label .., c, h => by simp [comp] at h
  | .goto .., c, h => by simp [comp] at h
  | .refuse .., c, h => by simp [comp] at h
theorem AW.skip (h : Q .normal T s) : AW P N m .skip T s Q := by
  intro code hc w K β a hf hm
  obtain rfl := comp_inv hc
  exact wp_skip ⟨.normal, T, s, K, β, rfl, h, hf, .refl hm⟩
theorem AW.ret (h : Q .ret T s) : AW P N m .ret T s Q := by
  intro code hc w K β a hf hm
  obtain rfl := comp_inv hc
  exact wp_ret ⟨.ret, T, s, K, β, rfl, h, hf, .refl hm⟩
theorem AW.exit {id : Nat} (h : Q (.exit id) T s) : AW P N m (.exit id) T s Q := by
  intro code hc w K β a hf hm
  obtain rfl := comp_inv hc
  exact wp_exit ⟨.exit id, T, s, K, β, rfl, h, hf, .refl hm⟩
theorem AW.ops {l : List Ins} (h : RunI P l T s (Q .normal)) : AW P N m (.ops l) T s Q := by
  intro code hc w K β a hf hm
  obtain ⟨id, ops, rfl, hl⟩ := comp_inv hc
  exact region_plain hl h hf hm
theorem AW.draw {l : List DI} (h : RunD P l T s (Q .normal)) : AW P N m (.opd l) T s Q := by
  intro code hc w K β a hf hm
  obtain ⟨id, ops, rfl, hl⟩ := comp_inv hc
  exact region_draw hl h hf hm
/-- What a piece of code must do for what follows it. -/
def thenQ (M : Tm → St → Prop) (Q : Fl → Tm → St → Prop) : Fl → Tm → St → Prop
  | .normal => M
  | e => Q e
theorem AW.seq {c d : Cd} {M : Tm → St → Prop} (h : AW P N m c T s (thenQ M Q)) (hd : ∀ T s, M T s → AW P N m d T s Q) : AW P N m (.seq c d) T s Q := by
  intro code hc w K β a hf hm
  obtain ⟨x, y, rfl, h1, h2⟩ := comp_inv hc
  refine wp_seq (wp_mono (h _ h1 w K β a hf hm) fun e a' w' ⟨fl, T', s', K', β', e1, e2, e3, e4⟩ => ?_)
  subst e1
  cases fl with
  | normal => exact wp_mono (hd T' s' e2 _ h2 w' K' β' a' e3 e4.len) (After.trans e4)
  | ret => exact ⟨.ret, T', s', K', β', rfl, e2, e3, e4⟩
  | exit id => exact ⟨.exit id, T', s', K', β', rfl, e2, e3, e4⟩
/-- The same, what follows being walked at once. -/
theorem AW.seq' {c d : Cd} (h : AW P N m c T s (thenQ (fun T s => AW P N m d T s Q) Q)) : AW P N m (.seq c d) T s Q := AW.seq h fun _ _ h => h
theorem AW.cond {x : Operand} {c d : Cd} {v : AV} {b : Bool} (hx : opd T x = some v) (hb : asB v = some b) (ht : b = true → AW P N m c T s Q) (hf' : b = false → AW P N m d T s Q) : AW P N m (.cond x c d) T s Q := by
  intro code hc w K β a hf hm
  obtain ⟨y, z, rfl, h1, h2⟩ := comp_inv hc
  have hv := R_asB (opd_ok hf.rt hx) hb
  exact wp_cond_split hv (fun h => ht h _ h1 w K β a hf hm) (fun h => hf' h _ h2 w K β a hf hm)
def blockQ (id : Nat) (Q : Fl → Tm → St → Prop) : Fl → Tm → St → Prop
  | .exit j => if j = id then Q .normal else Q (.exit j)
  | e => Q e
theorem AW.block {id : Nat} {c : Cd} (h : AW P N m c T s (blockQ id Q)) : AW P N m (.block id c) T s Q := by
  intro code hc w K β a hf hm
  obtain ⟨x, rfl, h1⟩ := comp_inv hc
  refine wp_block (wp_mono (h _ h1 w K β a hf hm) fun e a' w' ⟨fl, T', s', K', β', e1, e2, e3, e4⟩ => ?_)
  subst e1
  cases fl with
  | normal => exact ⟨.normal, T', s', K', β', rfl, e2, e3, e4⟩
  | ret => exact ⟨.ret, T', s', K', β', rfl, e2, e3, e4⟩
  | exit j =>
    simp only [Fl.ex, Exit.inBlock]
    simp only [blockQ] at e2
    split
    · rename_i hj; rw [if_pos hj] at e2; exact ⟨.normal, T', s', K', β', rfl, e2, e3, e4⟩
    · rename_i hj; rw [if_neg hj] at e2; exact ⟨.exit j, T', s', K', β', rfl, e2, e3, e4⟩
theorem wp_loopN {c : Code} {Q : Exit → Act → World → Prop} (J : Nat → Act → World → Prop) (round : ∀ n a w, J n a w → c.wp P (Exit.then (fun a' w' => ∃ k, k < n ∧ J k a' w') Q) a w) {n : Nat} {a : Act} {w : World} (h0 : J n a w) : (Code.loop c).wp P Q a w := by
  intro b k cs
  have key : ∀ n a w, J n a w → ∃ e a' w', Q e a' w' ∧ Arrives P (lone (b.at a (.code c :: .inLoop c :: k)) cs w) b k cs e a' w' := by
    intro n
    induction n using Nat.strongRecOn with
    | _ n ih =>
      intro a w hI
      obtain ⟨e, a₁, w₁, hq, harr⟩ := round n a w hI b (.inLoop c :: k) cs
      cases e with
      | normal =>
        obtain ⟨k', hlt, hI₁⟩ := hq
        obtain ⟨e₂, a₂, w₂, hq₂, harr₂⟩ := ih k' hlt a₁ w₁ hI₁
        exact ⟨e₂, a₂, w₂, hq₂, .of_steps (Steps.trans harr (.one step_inLoop)) harr₂⟩
      | exit id => exact ⟨_, a₁, w₁, hq, .pass (x := .inLoop c) rfl (fun _ _ => .inl (by simp)) harr⟩
      | goto l => exact ⟨_, a₁, w₁, hq, .pass (x := .inLoop c) rfl (fun _ _ => .inl (by simp)) harr⟩
      | ret => exact ⟨_, a₁, w₁, hq, .pass (x := .inLoop c) rfl (fun _ _ => .inl (by simp)) harr⟩
      | panic ch => exact ⟨_, a₁, w₁, hq, .pass (x := .inLoop c) rfl (fun _ _ => .inl (by simp)) harr⟩
      | outgrown => exact ⟨_, a₁, w₁, hq, .pass (x := .inLoop c) rfl (fun _ _ => .inl (by simp)) harr⟩
  obtain ⟨e, a', w', hq, harr⟩ := key n a w h0
  exact ⟨e, a', w', hq, .of_steps (.one step_loop) harr⟩
/-- A loop: 'I n' holds ahead of each round, and the number gets less. -/
theorem AW.loop {c : Cd} (I : Nat → Tm → St → Prop) (n : Nat) (h0 : I n T s) (hr : ∀ n T s, I n T s → AW P N m c T s (thenQ (fun T' s' => ∃ k, k < n ∧ I k T' s') Q)) : AW P N m (.loop c) T s Q := by
  intro code hc w K β a hf hm
  obtain ⟨x, rfl, h1⟩ := comp_inv hc
  refine wp_loopN (fun k a' w' => ∃ T' s' K' β', I k T' s' ∧ Fr N w' K' β' s' T' a' ∧ Ext m w K β s w' K' β' s') (fun k a1 w1 ⟨T1, s1, K1, β1, i1, f1, x1⟩ => ?_) ⟨T, s, K, β, h0, hf, .refl hm⟩
  refine wp_mono (hr k T1 s1 i1 x h1 w1 K1 β1 a1 f1 x1.len) fun e a' w' ⟨fl, T', s', K', β', e1, e2, e3, e4⟩ => ?_
  subst e1
  cases fl with
  | normal =>
    obtain ⟨k', hk, hi⟩ := e2
    exact ⟨k', hk, T', s', K', β', hi, e3, x1.trans (Nat.le_refl _) e4⟩
  | ret => exact ⟨.ret, T', s', K', β', rfl, e2, e3, x1.trans (Nat.le_refl _) e4⟩
  | exit id => exact ⟨.exit id, T', s', K', β', rfl, e2, e3, x1.trans (Nat.le_refl _) e4⟩

/-! ### Less is known -/
/-- Temporaries and blocks may be forgotten. -/
theorem AW.forget {c : Cd} {T' : Tm} {s' : St} (h : AW P N m c T' s' Q) (hT : ∀ i v, tget T' i = some v → tget T i = some v) (hl : s'.length = s.length) (hs : ∀ (i : Nat) b, s'[i]? = some (some b) → s[i]? = some (some b)) : AW P N m c T s Q := by
  intro code hc w K β a hf hm
  have hcz : Cz w K β s' := ⟨fun i b hi => by rw [hl]; exact hf.cz.blk i b (hs i b hi), fun i j ⟨b, hi⟩ ⟨c, hj⟩ => hf.cz.inj i j ⟨b, hs i b hi⟩ ⟨c, hs j c hj⟩, fun i ⟨b, hi⟩ => hf.cz.dis i ⟨b, hs i b hi⟩, hf.cz.kb⟩
  refine wp_mono (h code hc w K β a ⟨hcz, by rw [hl]; exact RT_sub hf.rt hT, hf.sz, hf.df⟩ (by omega)) (After.trans ?_)
  exact { size := Nat.le_refl _, io := .refl _, fix := fun _ _ => rfl, len := by omega, frame := fun _ _ _ => rfl, kmono := fun _ h => h, knew := fun _ h => .inl h, onew := fun i ⟨b, hi⟩ => .inr ⟨i, ⟨b, hs i b hi⟩, rfl⟩ }
end
end Go.Proofs.Ytcedkkleclhglaa.H
