/- The source's method N: its contract. -/
import Derived.Test.YtnnnmdmniceenaaEvN
import Derived.Test.YtnnnmdmniceenaaRows
set_option linter.unusedSimpArgs false
set_option linter.unusedVariables false
namespace Go.Proofs.Ytnnnmdmniceenaa
open Go.RowKit Ev
abbrev big60 : Int := 1152921504606846976
/-- Where the source stands: a block of its list and its place. -/
def srcCon : Con := fun args bl fx n nb => match args with
  | [.ptr i 0, .int .i64 e] => match bl i with
    | some (T, [.sls 0 len cap, .int .i64 at_]) => match iv fx e with
      | some (_, h) => if T = 62 ∧ i < nb then
          some { v := .int .i64 (.v n), wr := [(i, some (T, [.sls 0 len cap, .int .i64 (.v (n + 1))]))], nn := 0
                 asr := askN fx [.le (.lit 0) at_, .le at_ (.lit 600), .le (.lit (-big60)) e, .le e (.lit big60), .le (.lit 0) len, .le len (.lit 600), .le len (.v 0)]
                 cal := some (900, [e, len, at_], 2), rng := [(.v n, 0, if h < 1 then 0 else h - 1), (.v (n + 1), 0, 600)] }
        else none
      | none => none
    | _ => none
  | _ => none
def nCtx : Ctx := { fn := fun _ => none, ld := rowLd }
def t_n : T Leaf :=
  (.ite (.le (.v 3) (.v 5))
 (.leaf ((.int .i64 (.lit 0)), [some (62, [(.sls 0 (.v 3) (.v 4)), (.int .i64 (.v 5))])], []))
 (.asr (.lt (.sub (.add (.v 5) (.lit 1)) (.lit 1)) (.v 0))
 (.call 1000 [(.sub (.add (.v 5) (.lit 1)) (.lit 1))] 1
 (.ite (.lt (.v 2) (.lit 1))
  (.leaf ((.int .i64 (.lit 0)), [some (62, [(.sls 0 (.v 3) (.v 4)), (.int .i64 (.add (.v 5) (.lit 1)))])], [0]))
  (.leaf ((.int .i64 (.rem (.add (.rem (.v 6) (.v 2)) (.v 2)) (.v 2))), [some (62, [(.sls 0 (.v 3) (.v 4)), (.int .i64 (.add (.v 5) (.lit 1)))])], [0]))
 )
 )
 )
)
theorem t_n_eq : evFn Try.prog nCtx 100 12 28 [.ptr 0 0, .int .i64 (.v 2)] [some (62, [.sls 0 (.v 3) (.v 4), .int .i64 (.v 5)])]
    ⟨Fs.of [(.v 0, 0, 9223372036854775807), (.v 2, -1152921504606846976, 1152921504606846976), (.v 3, 0, 600), (.v 5, 0, 600)], [(.le (.v 3) (.v 0), true)]⟩ 6 = t_n := by kernel_rfl
/-- The leaf: this number, and the source at this place. -/
def LSrc (x y : Int) : List Int → Leaf → Prop := fun ρ l => (∀ η, denV ρ η l.1 = .int .i64 x) ∧ (∀ i ∈ l.2.2, i = 0) ∧ ∃ e, getB l.2.1 0 = some (62, [.sls 0 (.v 3) (.v 4), .int .i64 e]) ∧ den ρ e = y
theorem mkMod_bd (x : Int) {n : Int} (h : 1 ≤ n) : 0 ≤ mkMod x n ∧ mkMod x n < n := by
  unfold mkMod
  rw [if_neg (by omega)]
  have a := Int.lt_tmod_of_pos x (show 0 < n by omega)
  exact ⟨Int.tmod_nonneg _ (by omega), Int.tmod_lt_of_pos _ (by omega)⟩
theorem src_ok {w0 : World} {a : Option Addr} {len cap : Nat} {z : List Int} (hrow : IsRow .i64 w0 a len cap z) (g : Nat → List Int → List Int) (hlen : (len : Int) ≤ 9223372036854775807) :
    ConOK Try.prog (rowSig g a len cap z) 28 srcCon := by
  refine ⟨by kernel_rfl, fun args bl fx n nb r hr ρ η w hf hcal hasr hb hbn => ?_⟩
  unfold srcCon at hr
  split at hr
  · rename_i i e
    split at hr
    · rename_i T ln cp at_ hbl
      split at hr
      · rename_i lo hi hiv
        split at hr
        · rename_i hc
          obtain ⟨rfl, hinb⟩ := hc
          simp only [Option.some.injEq] at hr; subst hr
          have hq := askN_ok hf hasr
          have q0 : 0 ≤ den ρ at_ := of_decide_eq_true (hq (.le (.lit 0) at_) (by simp))
          have q1 : den ρ at_ ≤ 600 := of_decide_eq_true (hq (.le at_ (.lit 600)) (by simp))
          have q2 : -big60 ≤ den ρ e := of_decide_eq_true (hq (.le (.lit (-big60)) e) (by simp))
          have q3 : den ρ e ≤ big60 := of_decide_eq_true (hq (.le e (.lit big60)) (by simp))
          have q4 : 0 ≤ den ρ ln := of_decide_eq_true (hq (.le (.lit 0) ln) (by simp))
          have q5 : den ρ ln ≤ 600 := of_decide_eq_true (hq (.le ln (.lit 600)) (by simp))
          have q6 : den ρ ln ≤ den ρ (.v 0) := of_decide_eq_true (hq (.le ln (.v 0)) (by simp))
          have hv0 : den ρ (.v 0) = len := by
            obtain ⟨s, hs⟩ := hb.pf
            simp [den, hs, rowSig]
          rw [hv0] at q6
          have c0 := hcal _ _ _ rfl 0 (by omega)
          have c1 := hcal _ _ _ rfl 1 (by omega)
          have hsrc : (rowSig g a len cap z) 900 = srcF z := rfl
          rw [hsrc] at c0 c1
          simp only [List.map_cons, List.map_nil, Nat.add_zero] at c0 c1
          generalize hE : den ρ e = e' at *
          generalize hL : den ρ ln = l' at *
          generalize hA : den ρ at_ = at' at *
          -- the values that come out
          have hres : 0 ≤ (srcF z [e', l', at']).getD 1 0 ∧ (srcF z [e', l', at']).getD 1 0 ≤ 600 ∧ 0 ≤ (srcF z [e', l', at']).getD 0 0 ∧ (srcF z [e', l', at']).getD 0 0 ≤ (if hi < 1 then 0 else hi - 1) := by
            have hiv' := iv_in hf e
            rw [hiv, hE] at hiv'
            have h2 : e' ≤ hi := hiv'.2
            unfold srcF
            simp only [List.getD_cons_zero, List.getD_cons_succ]
            split
            · simp only [List.getD_cons_zero, List.getD_cons_succ]
              refine ⟨q0, q1, Int.le_refl _, ?_⟩
              split <;> omega
            · simp only [List.getD_cons_zero, List.getD_cons_succ]
              by_cases h1 : 1 ≤ e'
              · have := mkMod_bd (z.getD at'.toNat 0) h1
                refine ⟨by omega, by omega, this.1, ?_⟩
                rw [if_neg (by omega)]; omega
              · have e0 : mkMod (z.getD at'.toNat 0) e' = 0 := by unfold mkMod; rw [if_pos (by omega)]
                rw [e0]
                refine ⟨by omega, by omega, Int.le_refl _, ?_⟩
                split <;> omega
          refine ⟨fun p hp => ?_, ?_⟩
          · simp only [List.mem_cons, List.not_mem_nil, or_false] at hp
            rcases hp with rfl | rfl
            · simp only [den]; rw [c0]; exact ⟨hres.2.2.1, hres.2.2.2⟩
            · simp only [den]; rw [c1]; exact ⟨hres.1, hres.2.1⟩
          · -- the walk, with the source as block 0
            have hC : CtxOK Try.prog (rowSig g a len cap z) nCtx := ⟨(fun f c h => by cases h), (isRow_sig hrow g).2.1⟩
            have hT : Holds w (η.β i) 62 ([.sls 0 ln cp, .int .i64 at_].map (denV ρ η)) (η.κ i) := hb.holds i _ _ hbl
            let ρN : List Int := [(len : Int), (cap : Int), e', l', den ρ cp, at']
            let ηN : Env := { β := fun _ => η.β i, κ := fun _ => η.κ i, α := η.α }
            have hcells : ([.sls 0 ln cp, .int .i64 at_] : List SV).map (denV ρ η) = ([.sls 0 (.v 3) (.v 4), .int .i64 (.v 5)] : List SV).map (denV ρN ηN) := by
              simp [denV, den, ρN, ηN, hL, hA]
            have hN := evFn_ok (L := LSrc ((srcF z [e', l', at']).getD 0 0) ((srcF z [e', l', at']).getD 1 0)) hC (f := 28) (args := [.ptr 0 0, .int .i64 (.v 2)]) (b := [some (62, [.sls 0 (.v 3) (.v 4), .int .i64 (.v 5)])])
              (fx := ⟨Fs.of [(.v 0, 0, 9223372036854775807), (.v 2, -1152921504606846976, 1152921504606846976), (.v 3, 0, 600), (.v 5, 0, 600)], [(.le (.v 3) (.v 0), true)]⟩) (n := 6) (F := 100) (d := 12) (ρ := ρN) (η := ηN) (w := w)
              (by
                rw [t_n_eq]
                simp only [t_n, T.ok, denB, den, ρN, List.getD_cons_zero, List.getD_cons_succ, decide_eq_true_eq, decide_eq_false_iff_not, List.map_cons, List.map_nil]
                refine ⟨fun h => ?_, fun h => ⟨by omega, ?_, ?_⟩⟩
                · refine ⟨fun η => ?_, (fun i hi => by cases hi), _, rfl, ?_⟩
                  · simp [denV, den, srcF, h]
                  · simp [den, srcF, h]
                · intro h1
                  have h1 : e' < 1 := by simpa using h1
                  refine ⟨fun η => ?_, (fun i hi => by simpa using hi), _, rfl, ?_⟩
                  · simp [denV, den, srcF, h, mkMod, h1]
                  · simp [den, srcF, h]
                · intro h1
                  have h1 : ¬ e' < 1 := by simpa using h1
                  refine ⟨fun η => ?_, (fun i hi => by simpa using hi), _, rfl, ?_⟩
                  · have hz : (at' + 1 - 1).toNat = at'.toNat := by omega
                    simp [denV, den, srcF, h, mkMod, h1, fit1, rowSig, rowF]
                  · simp [den, srcF, h])
              rfl
              (by
                refine ⟨FsOK.of fun p hp => ?_, fun p hp => ?_⟩
                · simp only [List.mem_cons, List.not_mem_nil, or_false] at hp
                  rcases hp with rfl | rfl | rfl | rfl <;> simp only [den, ρN, List.getD_cons_zero, List.getD_cons_succ]
                  · exact ⟨by omega, hlen⟩
                  · exact ⟨q2, q3⟩
                  · exact ⟨q4, q5⟩
                  · exact ⟨q0, q1⟩
                · simp only [List.mem_cons, List.not_mem_nil, or_false] at hp
                  subst hp
                  simpa [denB, den, ρN] using q6)
              { al := hb.al, pf := ⟨_, rfl⟩, gh := hb.gh
                ap := fun j hj => hb.ap i (by rw [hbl]; rfl)
                holds := fun j T' cs hj => by
                  have hj0 : j = 0 := by
                    rcases Nat.eq_zero_or_pos j with h | h
                    · exact h
                    · rw [getB_none (show 1 ≤ j from h)] at hj; cases hj
                  subst hj0
                  simp only [getB, List.getD_cons_zero, Option.some.injEq, Prod.mk.injEq] at hj
                  obtain ⟨rfl, rfl⟩ := hj
                  rw [← hcells]; exact hT
                inj := fun j k hj hk hne => by
                  have z0 : ∀ j, (getB [some ((62 : TypeId), ([.sls 0 (.v 3) (.v 4), .int .i64 (.v 5)] : List SV))] j).isSome = true → j = 0 := fun j hj => by
                    rcases Nat.eq_zero_or_pos j with h | h
                    · exact h
                    · rw [getB_none (show 1 ≤ j from h)] at hj; cases hj
                  exact absurd ((z0 j hj).trans (z0 k hk).symm) hne }
            have hargs : ([.ptr i 0, .int .i64 e] : List SV).map (denV ρ η) = ([.ptr 0 0, .int .i64 (.v 2)] : List SV).map (denV ρN ηN) := by simp [denV, den, ρN, ηN, hE]
            rw [hargs]
            refine hN.mono fun ev w' ⟨ρ', η', v, b', wd, he, hL', hd⟩ => ⟨η, ?_, ?_⟩
            · rw [he, hL'.1 η', ← c0]; rfl
            · obtain ⟨_, hwd, ec, hb0, hec⟩ := hL'
              have hβ : η'.β 0 = η.β i := by
                have := hd.env.lt 0 (by simp)
                exact this.1
              have hκ : η'.κ 0 = η.κ i := by
                have := hd.env.lt 0 (by simp)
                exact this.2
              obtain ⟨s, hs⟩ := hd.pre
              have hα : η'.α = η.α := hd.env.al
              exact {
                size := hd.size, io := hd.io, al := rfl, same := fun _ _ => ⟨rfl, rfl⟩
                frame := fun b hb' hne => hd.frame b hb' fun j hj _ => by
                  rw [hwd j hj]
                  exact hne (i, _) (List.mem_singleton.2 rfl) hinb
                made := fun j T' cs hm => by
                  simp only [List.mem_singleton, Prod.mk.injEq, Option.some.injEq] at hm
                  obtain ⟨rfl, rfl, rfl⟩ := hm
                  have := hd.rb.holds 0 _ _ hb0
                  rw [hβ, hκ] at this
                  have e1 : ([.sls 0 ln cp, .int .i64 (.v (n + 1))] : List SV).map (denV ρ η) = ([.sls 0 (.v 3) (.v 4), .int .i64 ec] : List SV).map (denV ρ' η') := by
                    simp only [denV, den, List.map_cons, List.map_nil]
                    rw [hec, c1]
                    simp [hs, hα, ρN, hL]
                  rw [e1]; exact this
                fresh := fun j h1 h2 => by simp only [] at h2; omega
                apart := fun j k h1 h2 => by simp only [] at h2; omega
                known := fun p hp => by
                  rw [List.mem_singleton.1 hp]
                  exact .inl ⟨hinb, by rw [hbl]; rfl⟩
                once := by simp }
        · cases hr
      · cases hr
    · cases hr
  · cases hr
/-- The table of a law with a list: the source, and contracts of numbers alone. -/
def rowCtx (l : List (FuncId × PC)) (lh : FuncId → Nat → Option Hint := fun _ _ => none) : Ctx := { fn := fun f => if f = 28 then some srcCon else ctxFn l f, ld := rowLd, lh := lh }
theorem rowCtx_ok {w0 : World} {a : Option Addr} {len cap : Nat} {z : List Int} (hrow : IsRow .i64 w0 a len cap z) {g : Nat → List Int → List Int} {l : List (FuncId × PC)} (h : TabOK Try.prog { f := g } l) (hk : l.all (fun p => decide (p.2.key < 900)) = true) {lh : FuncId → Nat → Option Hint} :
    CtxOK Try.prog (rowSig g a len cap z) (rowCtx l lh) := by
  obtain ⟨_, h2, h3, h4⟩ := isRow_sig hrow g
  refine ⟨fun f c hc => ?_, h2⟩
  simp only [rowCtx] at hc
  split at hc
  · rename_i hf
    subst hf
    simp only [Option.some.injEq] at hc; subst hc
    refine src_ok hrow g ?_
    have : len ≤ 9223372036854775807 := Nat.le_trans h3 h4
    omega
  · exact ctxFn_ok (rowTab h hk) f c hc
/-- The facts about the list's length that a walk starts with. -/
def rowFx (l : List (E × Int × Int)) : Fx := ⟨Fs.of ((.v 0, 0, 9223372036854775807) :: (.v 1, 0, 9223372036854775807) :: l), [(.le (.mn (.v 0) (.lit 600)) (.v 1), true), (.le (.v 0) (.v 1), true)]⟩
theorem rowFx_ok {w0 : World} {a : Option Addr} {len cap : Nat} {z : List Int} (hrow : IsRow .i64 w0 a len cap z) {r : List Int} {l : List (E × Int × Int)} (h : ∀ p ∈ l, p.2.1 ≤ den ((len : Int) :: (cap : Int) :: r) p.1 ∧ den ((len : Int) :: (cap : Int) :: r) p.1 ≤ p.2.2) :
    FxOK ((len : Int) :: (cap : Int) :: r) (rowFx l) := by
  obtain ⟨_, _, h3, h4⟩ := isRow_sig hrow fun _ _ => []
  have h4 : cap ≤ 9223372036854775807 := h4
  refine ⟨FsOK.of fun p hp => ?_, fun p hp => ?_⟩
  · simp only [List.mem_cons] at hp
    rcases hp with rfl | rfl | hp
    · simp only [den, List.getD_cons_zero]; omega
    · simp only [den, List.getD_cons_zero, List.getD_cons_succ]; omega
    · exact h p hp
  · simp only [rowFx, List.mem_cons, List.not_mem_nil, or_false] at hp
    rcases hp with rfl | rfl
    · refine decide_eq_true ?_
      simp only [den, List.getD_cons_zero, List.getD_cons_succ]
      split <;> omega
    · refine decide_eq_true ?_
      simp only [den, List.getD_cons_zero, List.getD_cons_succ]
      omega
theorem fxNil (ρ : List Int) : ∀ p ∈ ([] : List (E × Int × Int)), p.2.1 ≤ den ρ p.1 ∧ den ρ p.1 ≤ p.2.2 := fun _ h => by cases h
theorem fxCons {ρ : List Int} {e : E} {l h : Int} {r : List (E × Int × Int)} (h1 : l ≤ den ρ e ∧ den ρ e ≤ h) (hr : ∀ p ∈ r, p.2.1 ≤ den ρ p.1 ∧ den ρ p.1 ≤ p.2.2) : ∀ p ∈ (e, l, h) :: r, p.2.1 ≤ den ρ p.1 ∧ den ρ p.1 ≤ p.2.2 := fun p hp => by
  rcases List.mem_cons.1 hp with rfl | hp
  · exact h1
  · exact hr p hp
/-- A law with a list whose walk's leaves are all plainly true. -/
theorem row_triv {w : World} {a : Option Addr} {len cap : Nat} {z : List Int} (hrow : IsRow .i64 w a len cap z) {g : Nat → List Int → List Int} {l : List (FuncId × PC)} (h : TabOK Try.prog { f := g } l) (hk : l.all (fun p => decide (p.2.key < 900)) = true)
    {f : FuncId} {args : List SV} {F d : Nat} {fl : List (E × Int × Int)} {r : List Int} {n : Nat} {lh : FuncId → Nat → Option Hint} (ht : (evFn Try.prog (rowCtx l lh) F d f args [] (rowFx fl) n).triv = true) (hn : r.length + 2 = n)
    (hf : ∀ p ∈ fl, p.2.1 ≤ den ((len : Int) :: (cap : Int) :: r) p.1 ∧ den ((len : Int) :: (cap : Int) :: r) p.1 ≤ p.2.2) {vs : Array Value} (hv : (args.map (denV ((len : Int) :: (cap : Int) :: r) (envΦ (rowSig g a len cap z)))).toArray = vs) :
    Calls Try.prog f vs w fun e w' => e = .returned (.bool true) ∧ Below w.heap.size w w' :=
  law_okG (rowCtx_ok hrow h hk) rfl (triv_ok rfl _ _ ht) (by simpa using hn) (rowFx_ok hrow hf) hv ⟨r, rfl⟩ (isRow_sig hrow g).1
/-- A tree's law, the source's numbers being any of their ranges. -/
def T.okD {α : Type} (g : Nat → List Int → List Int) (L : List Int → α → Prop) : List Int → T α → Prop
  | ρ, .leaf a => L ρ a
  | ρ, .ite b t e => (denB ρ b = true → T.okD g L ρ t) ∧ (denB ρ b = false → T.okD g L ρ e)
  | ρ, .asr b t => denB ρ b = true ∧ T.okD g L ρ t
  | ρ, .call k es m t => if k = 900 then ∀ v p : Int, 0 ≤ v → (1 ≤ (es.map (den ρ)).getD 0 0 → v < (es.map (den ρ)).getD 0 0) → ((es.map (den ρ)).getD 0 0 < 1 → v = 0) → m = 2 ∧ T.okD g L (ρ ++ [v, p]) t
      else if k = 1000 then False else T.okD g L (ρ ++ fit m (g k (es.map (den ρ)))) t
  | ρ, .loop _ es rg t => ∀ xs, xs.length = es.length → RngOK rg xs → T.okD g L (ρ ++ xs) t
  | _, .again _ _ _ => True
  | _, .bad => False
theorem okD_ok {α : Type} {g : Nat → List Int → List Int} {L : List Int → α → Prop} {a : Option Addr} {len cap : Nat} {z : List Int} : ∀ (t : T α) (ρ : List Int), T.okD g L ρ t → t.ok (rowSig g a len cap z) L ρ
  | .leaf _, _, h => h
  | .ite b t e, ρ, h => ⟨fun hb => okD_ok t ρ (h.1 hb), fun hb => okD_ok e ρ (h.2 hb)⟩
  | .asr b t, ρ, h => ⟨h.1, okD_ok t ρ h.2⟩
  | .call k es m t, ρ, h => by
    simp only [T.okD] at h
    show T.ok _ L (ρ ++ fit m (rowF g z k (es.map (den ρ)))) t
    split at h
    · rename_i hk
      subst hk
      have hs : rowF g z 900 = srcF z := rfl
      rw [hs]
      generalize es.map (den ρ) = xs at *
      have key : 0 ≤ (srcF z xs).getD 0 0 ∧ (1 ≤ xs.getD 0 0 → (srcF z xs).getD 0 0 < xs.getD 0 0) ∧ (xs.getD 0 0 < 1 → (srcF z xs).getD 0 0 = 0) := by
        unfold srcF
        split
        · exact ⟨Int.le_refl _, fun h1 => by show (0 : Int) < _; omega, fun _ => rfl⟩
        · simp only [List.getD_cons_zero]
          refine ⟨?_, fun h1 => (mkMod_bd _ h1).2, fun h1 => by unfold mkMod; rw [if_pos h1]⟩
          by_cases h1 : 1 ≤ xs.getD 0 0
          · exact (mkMod_bd _ h1).1
          · unfold mkMod; rw [if_pos (by omega)]; exact Int.le_refl _
      obtain ⟨h1, h2⟩ := h _ ((srcF z xs).getD 1 0) key.1 key.2.1 key.2.2
      subst h1
      exact okD_ok t _ h2
    · rename_i hk
      split at h
      · exact h.elim
      · rename_i hk2
        have hs : rowF g z k = g k := by unfold rowF; rw [if_neg hk2, if_neg hk]
        rw [hs]
        exact okD_ok t _ h
  | .loop id es rg t, ρ, h => ⟨trivial, fun xs h1 h2 _ => okD_ok t _ (h xs h1 h2)⟩
  | .again _ _ _, _, _ => trivial
  | .bad, _, h => h.elim
/-- A law with a list, off its tree. -/
theorem row_law {w : World} {a : Option Addr} {len cap : Nat} {z : List Int} (hrow : IsRow .i64 w a len cap z) {g : Nat → List Int → List Int} {l : List (FuncId × PC)} (h : TabOK Try.prog { f := g } l) (hk : l.all (fun p => decide (p.2.key < 900)) = true)
    {f : FuncId} {args : List SV} {F d : Nat} {fl : List (E × Int × Int)} {r : List Int} {n : Nat} {lh : FuncId → Nat → Option Hint} {t : T Leaf} (he : evFn Try.prog (rowCtx l lh) F d f args [] (rowFx fl) n = t) (ht : T.okD g LTrue ((len : Int) :: (cap : Int) :: r) t) (hn : r.length + 2 = n)
    (hf : ∀ p ∈ fl, p.2.1 ≤ den ((len : Int) :: (cap : Int) :: r) p.1 ∧ den ((len : Int) :: (cap : Int) :: r) p.1 ≤ p.2.2) {vs : Array Value} (hv : (args.map (denV ((len : Int) :: (cap : Int) :: r) (envΦ (rowSig g a len cap z)))).toArray = vs) :
    Calls Try.prog f vs w fun e w' => e = .returned (.bool true) ∧ Below w.heap.size w w' :=
  law_okG (rowCtx_ok hrow h hk) he (okD_ok _ _ ht) (by simpa using hn) (rowFx_ok hrow hf) hv ⟨r, rfl⟩ (isRow_sig hrow g).1
end Go.Proofs.Ytnnnmdmniceenaa
