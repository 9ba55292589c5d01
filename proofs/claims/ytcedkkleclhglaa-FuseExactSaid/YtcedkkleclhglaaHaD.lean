/- The laws of the operations that change no memory. -/
import Derived.Test.YtcedkkleclhglaaHaC
set_option linter.unusedSimpArgs false
set_option linter.unusedVariables false
set_option linter.unusedSectionVars false
namespace Go.Proofs.Ytcedkkleclhglaa.H
section
variable {P : Program} {w : World} {K : Nat → Prop} {β : Nat → Loc} {n : Nat}
theorem run_eqGuard_int (op : BinOp) (t : TypeId) (x y : Operand) (k l : IntKind) (m n : Int) (w : World) : (eqGuard op t x y (.int k m) (.int l n)).run P w = .ok () w := by
  unfold eqGuard; split <;> rfl
theorem run_eqGuard_bool (op : BinOp) (t : TypeId) (x y : Operand) (m n : Bool) (w : World) : (eqGuard op t x y (.bool m) (.bool n)).run P w = .ok () w := by
  unfold eqGuard; split <;> rfl
theorem run_eqGuard_str (op : BinOp) (t : TypeId) (x y : Operand) (m n : ByteArray) (w : World) : (eqGuard op t x y (.string m) (.string n)).run P w = .ok () w := by
  unfold eqGuard; split <;> rfl
/-- A run that gives a value that 'v' tells, and changes nothing. -/
def Gives (P : Program) (w : World) (K : Nat → Prop) (β : Nat → Loc) (n : Nat) (v : AV) (s : Sem Value) : Prop := ∃ u, s.run P w = .ok u w ∧ R w K β n v u

theorem intA_ok {op : BinOp} {k : IntKind} {a b : Int} {C : Prop} {v : AV} (h : intA op k a b = some (C, v)) (hC : C) (t : TypeId) (xo yo : Operand) :
    Gives P w K β n v (do eqGuard op t xo yo (.int k a) (.int k b); binOp op t (.int k a) (.int k b)) := by
  have hg := fun op => run_eqGuard_int (P := P) op t xo yo k k a b w
  unfold intA at h
  split at h <;> simp only [Option.some.injEq, Prod.mk.injEq, reduceCtorEq] at h <;> obtain ⟨rfl, rfl⟩ := h <;>
    refine ⟨_, ?_, by first | exact R_int _ _ | exact R_bool _⟩ <;> simp only [Sem.run_bind, hg, Result.andThen_ok]
  case h_4 => simp [binOp, Op.intDiv, hC]
  case h_5 => simp [binOp, Op.intDiv, hC]
  case h_6 => simp only [binOp, Op.intCmp, ne_eq, not_true, if_false]; rfl
  case h_7 => simp only [binOp, Op.intCmp, ne_eq, not_true, if_false]; rfl
  case h_10 => simp only [binOp, Op.intCmp, ne_eq, not_true, if_false]; rfl
  case h_11 => simp only [binOp, Op.intCmp, ne_eq, not_true, if_false]; rfl
  all_goals first
    | (simp [binOp, Op.intArith]; done)
    | (simp [binOp, Op.intCmp]; done)
    | (simp [binOp, Op.intBits]; done)
theorem boolA_ok {op : BinOp} {a b : Bool} {C : Prop} {v : AV} (h : boolA op a b = some (C, v)) (t : TypeId) (ht : P.underlying t = some .bool) (xo yo : Operand) :
    Gives P w K β n v (do eqGuard op t xo yo (.bool a) (.bool b); binOp op t (.bool a) (.bool b)) := by
  have hg := fun op => run_eqGuard_bool (P := P) op t xo yo a b w
  have he : (Op.equalIn 10000 t (.bool a) (.bool b)).run P w = .ok (a == b) w := run_equalIn_bool' w 9999 t _ _ ht
  unfold boolA at h
  split at h <;> simp only [Option.some.injEq, Prod.mk.injEq, reduceCtorEq] at h <;> obtain ⟨rfl, rfl⟩ := h <;>
    refine ⟨_, ?_, R_bool _⟩ <;> simp only [Sem.run_bind, hg, Result.andThen_ok] <;>
    simp only [binOp, Op.equal, Op.maxDepth, Sem.run_bind, he, Result.andThen_ok, Sem.run_pure]
theorem strA_ok {op : BinOp} {a b : ByteArray} {C : Prop} {v : AV} (h : strA op a b = some (C, v)) (hC : C) (t : TypeId) (xo yo : Operand) :
    Gives P w K β n v (do eqGuard op t xo yo (.string a) (.string b); binOp op t (.string a) (.string b)) := by
  have hg := fun op => run_eqGuard_str (P := P) op t xo yo a b w
  unfold strA at h
  split at h <;> simp only [Option.some.injEq, Prod.mk.injEq, reduceCtorEq] at h <;> obtain ⟨rfl, rfl⟩ := h <;>
    refine ⟨_, ?_, by first | exact R_str _ | exact R_bool _⟩ <;> simp only [Sem.run_bind, hg, Result.andThen_ok]
  case h_4 =>
    have : ¬ (((a.size + b.size : Nat) : Int) > IntKind.i64.max) := by omega
    simp only [binOp, Op.stringOp, if_neg this, Sem.run_pure]
  all_goals (simp only [binOp, Op.stringOp, Sem.run_pure])
theorem R_asI {x : AV} {u : Value} {k : IntKind} {z : Int} (h : R w K β n x u) (hx : asI x = some (k, z)) : u = .int k z := by
  rw [asI_some hx] at h; exact R_AI h
theorem R_asB {x : AV} {u : Value} {b : Bool} (h : R w K β n x u) (hx : asB x = some b) : u = .bool b := by
  rw [asB_some hx] at h; exact R_AB h
theorem R_asS {x : AV} {u : Value} {b : ByteArray} (h : R w K β n x u) (hx : asS x = some b) : u = .string b := by
  rw [asS_some hx] at h; exact R_AS h
theorem binA_ok {op : BinOp} {x y : AV} {ux uy : Value} {C : Prop} {v : AV} (h : binA op x y = some (C, v)) (hC : C) (hx : R w K β n x ux) (hy : R w K β n y uy) (t : TypeId)
    (xo yo : Operand) : Gives P w K β n v (do eqGuard op t xo yo ux uy; binOp op t ux uy) := by
  unfold binA at h
  split at h
  · rename_i k a l b h1 h2
    split at h
    · rename_i hk
      subst hk
      rw [R_asI hx h1, R_asI hy h2]
      exact intA_ok h hC t xo yo
    · cases h
  · cases h
theorem binbA_ok {op : BinOp} {x y : AV} {ux uy : Value} {C : Prop} {v : AV} (h : binbA op x y = some (C, v)) (hx : R w K β n x ux) (hy : R w K β n y uy) (t : TypeId)
    (ht : P.underlying t = some .bool) (xo yo : Operand) : Gives P w K β n v (do eqGuard op t xo yo ux uy; binOp op t ux uy) := by
  unfold binbA at h
  split at h
  · rename_i a b h1 h2
    rw [R_asB hx h1, R_asB hy h2]
    exact boolA_ok h t ht xo yo
  · cases h
theorem binsA_ok {op : BinOp} {x y : AV} {ux uy : Value} {C : Prop} {v : AV} (h : binsA op x y = some (C, v)) (hC : C) (hx : R w K β n x ux) (hy : R w K β n y uy) (t : TypeId)
    (xo yo : Operand) : Gives P w K β n v (do eqGuard op t xo yo ux uy; binOp op t ux uy) := by
  unfold binsA at h
  split at h
  · rename_i a b h1 h2
    rw [R_asS hx h1, R_asS hy h2]
    exact strA_ok h hC t xo yo
  · cases h
theorem shfA_ok {op : BinOp} {x y : AV} {ux uy : Value} {C : Prop} {v : AV} (h : shfA op x y = some (C, v)) (hC : C) (hx : R w K β n x ux) (hy : R w K β n y uy) (t : TypeId)
    (xo yo : Operand) : Gives P w K β n v (do eqGuard op t xo yo ux uy; binOp op t ux uy) := by
  unfold shfA at h
  split at h
  · rename_i k a l b h1 h2
    rw [R_asI hx h1, R_asI hy h2]
    have hg := fun op => run_eqGuard_int (P := P) op t xo yo k l a b w
    split at h <;> simp only [Option.some.injEq, Prod.mk.injEq, reduceCtorEq] at h <;> obtain ⟨rfl, rfl⟩ := h <;>
      refine ⟨_, ?_, R_int _ _⟩ <;> simp only [Sem.run_bind, hg, Result.andThen_ok] <;>
      simp [binOp, Op.shift, Int.not_lt.2 hC]
  · cases h
theorem run_eqGuard_agg' (w : World) (op : BinOp) (t : TypeId) (xo yo : Operand) (xs ys : Array Value) (h : P.eqGuardType P.depth t = false) : (eqGuard op t xo yo (.agg xs) (.agg ys)).run P w = .ok () w := run_eqGuard_agg w _ _ _ _ _ _ h
theorem eqlA_ok {op : BinOp} {neg : Bool} {sh : Sh} {x y : AV} {ux uy : Value} {C : Prop} {v : AV} (h : eqlA neg sh x y = some (C, v)) (hx : R w K β n x ux) (hy : R w K β n y uy) (t : TypeId)
    {fs : Array Field} (hu : P.underlying t = some (.struct fs)) (hg : P.eqGuardType P.depth t = false) (hs : shOf P 10000 t = some sh) (ho : op = if neg then .neq else .eql) (xo yo : Operand) :
    Gives P w K β n v (do eqGuard op t xo yo ux uy; binOp op t ux uy) := by
  unfold eqlA at h
  split at h
  · rename_i b hb
    simp only [Option.some.injEq, Prod.mk.injEq] at h; obtain ⟨rfl, rfl⟩ := h
    have he := eqA_ok 10000 t sh x y ux uy b hs hb hx hy w
    have hagg : ∃ xs ys, ux = .agg xs ∧ uy = .agg ys := by
      have : ∃ l, sh = .st l := by
        unfold shOf at hs
        simp only [hu] at hs
        split at hs
        · cases hs
        · simp only [Option.map_eq_some_iff] at hs
          obtain ⟨l, _, h⟩ := hs
          exact ⟨l, h.symm⟩
      obtain ⟨l, rfl⟩ := this
      simp only [eqA] at hb
      split at hb
      · simp only [R] at hx hy
        obtain ⟨us, rfl, _⟩ := hx
        obtain ⟨vs, rfl, _⟩ := hy
        exact ⟨_, _, rfl, rfl⟩
      · cases hb
    obtain ⟨xs, ys, rfl, rfl⟩ := hagg
    refine ⟨_, ?_, R_bool _⟩
    subst ho
    cases neg
    · simp only [Bool.false_eq_true, if_false, Sem.run_bind, run_eqGuard_agg' w _ _ _ _ _ _ hg, Result.andThen_ok, run_eql_struct, he]
    · simp only [if_true, Sem.run_bind, run_eqGuard_agg' w _ _ _ _ _ _ hg, Result.andThen_ok, run_neq_struct, he]
  · cases h
theorem unA_ok {op : UnOp} {x : AV} {ux : Value} {C : Prop} {v : AV} (h : unA op x = some (C, v)) (hx : R w K β n x ux) : Gives P w K β n v (Op.unary op ux) := by
  unfold unA at h
  split at h
  · split at h
    · rename_i k a h1
      simp only [Option.some.injEq, Prod.mk.injEq] at h; obtain ⟨rfl, rfl⟩ := h
      rw [R_asI hx h1]
      exact ⟨_, by simp [Op.unary, Op.intArith], R_int _ _⟩
    · cases h
  · split at h
    · rename_i b h1
      simp only [Option.some.injEq, Prod.mk.injEq] at h; obtain ⟨rfl, rfl⟩ := h
      rw [R_asB hx h1]
      exact ⟨_, by simp [Op.unary], R_bool _⟩
    · cases h
  · cases h
theorem convA_ok {k : IntKind} {x : AV} {ux : Value} {C : Prop} {v : AV} (h : convA k x = some (C, v)) (hx : R w K β n x ux) {src dst : TypeId} {k' : IntKind} (hs : P.underlying src = some (.int k')) (hd : P.underlying dst = some (.int k)) :
    Gives P w K β n v (convert src dst ux) := by
  unfold convA at h
  split at h
  · rename_i j a h1
    simp only [Option.some.injEq, Prod.mk.injEq] at h; obtain ⟨rfl, rfl⟩ := h
    rw [R_asI hx h1]
    exact ⟨_, by simp [convert, run_underlying hs, run_underlying hd, Conv.intToInt], R_int _ _⟩
  · cases h

/-! ### Literals of structs and arrays -/
theorem foldl_set (l : List Value) (off : Nat) : ∀ (cs : Array Value) (k : Nat), off + k + l.length ≤ cs.size →
    (l.zipIdx k).foldl (fun cs (c, j) => cs.setIfInBounds (off + j) c) cs = (cs.toList.take (off + k) ++ l ++ cs.toList.drop (off + k + l.length)).toArray := by
  induction l with
  | nil => intro cs k _; simp
  | cons v l ih =>
    intro cs k hk
    simp only [List.length_cons] at hk
    simp only [List.zipIdx_cons, List.foldl_cons]
    rw [ih _ _ (by simp; omega)]
    congr 1
    rw [Array.toList_setIfInBounds]
    have a1 : (cs.toList.set (off + k) v).take (off + (k + 1)) = cs.toList.take (off + k) ++ [v] := by
      rw [show off + (k + 1) = (off + k) + 1 by omega, List.take_succ_eq_append_getElem (by simp; omega), List.take_set_of_le (Nat.le_refl _)]
      simp
    have a2 : (cs.toList.set (off + k) v).drop (off + (k + 1) + l.length) = cs.toList.drop (off + k + (l.length + 1)) := by
      rw [List.drop_set_of_lt (by omega)]
      congr 1; omega
    rw [a1, a2]; simp
theorem setA_ok {cs l cs' : List AV} {off : Nat} {us vs : List Value} (h : setA cs off l = some cs') (hc : RL w K β n cs us) (hl : RL w K β n l vs) :
    off + vs.length ≤ us.length ∧ RL w K β n cs' (us.take off ++ vs ++ us.drop (off + vs.length)) := by
  unfold setA at h
  split at h
  · rename_i hle
    simp only [Option.some.injEq] at h; subst h
    rw [RL_length hl, RL_length hc]
    exact ⟨hle, RL_append (RL_append (RL_take hc _) hl) (RL_drop hc _)⟩
  · cases h
theorem fillA_ok {g : Nat → Option (Nat × Nat)} {T : Tm} {a : Act} (hT : RT w K β n T a) : ∀ (ps : List (Nat × Operand)) (qs : List (Nat × Nat × Operand)) (rs : List (Nat × Nat × AV)) (cells cs : List AV) (us : List Value),
    putP g ps = some qs → opdP T qs = some rs → fillA cells rs = some cs → RL w K β n cells us →
    ∃ vs, Instr.fill g us.toArray (ps.map fun p => (p.1, a.eval p.2)) = some vs.toArray ∧ RL w K β n cs vs
  | [], qs, rs, cells, cs, us, h1, h2, h3, hr => by
    simp only [putP, Option.some.injEq] at h1; subst h1
    simp only [opdP, Option.some.injEq] at h2; subst h2
    simp only [fillA, Option.some.injEq] at h3; subst h3
    exact ⟨us, by simp [Instr.fill], hr⟩
  | (i, x) :: ps, qs, rs, cells, cs, us, h1, h2, h3, hr => by
    simp only [putP] at h1
    split at h1
    · rename_i o z r hg hp
      simp only [Option.some.injEq] at h1; subst h1
      simp only [opdP] at h2
      split at h2
      · rename_i v r' hv hr'
        simp only [Option.some.injEq] at h2; subst h2
        simp only [fillA] at h3
        split at h3
        · rename_i l hl
          split at h3
          · rename_i hz
            split at h3
            · rename_i cs1 h4
              obtain ⟨vs, e1, e2, _⟩ := flat_ok hl (opd_ok hT hv)
              obtain ⟨q1, q2⟩ := setA_ok h4 hr e2
              obtain ⟨ws, e3, e4⟩ := fillA_ok (g := g) hT ps r r' cs1 cs _ hp hr' h3 q2
              refine ⟨ws, ?_, e4⟩
              have hf := foldl_set vs o us.toArray 0 (by simpa using q1)
              have hvl := RL_length e2
              simp only [List.map_cons, Instr.fill, hg, e1]
              rw [if_neg (by simp; omega)]
              rw [Array.zipIdx_toArray, List.foldl_toArray, hf]
              simpa using e3
            · cases h3
          · cases h3
        · cases h3
      · cases h2
    · cases h1
theorem zeroA_ok {P : Program} {T : TypeId} {z : List Value} (h : zeroOf P T = some z) : RL w K β n (zeroA z) z := by
  unfold zeroOf at h
  split at h
  · split at h
    · split at h
      · rename_i hc
        simp only [Option.some.injEq] at h; subst h
        rename_i i zz hz
        have := RL_map (w := w) (K := K) (β := β) (n := n) (f := zA1) (g := fun c => c) zz.cells.toList fun c hc' => by
            have := List.all_eq_true.1 hc c hc'
            unfold zA1
            split
            · simp only [R]; exact ⟨none, rfl, .inl rfl⟩
            · simp only [R, RD]; exact ⟨trivial, this⟩
        simpa [zeroA] using this
      · cases h
    · cases h
  · cases h
theorem zeroOf_info {P : Program} {T : TypeId} {z : List Value} (h : zeroOf P T = some z) : ∃ i zv, P.info? T = some i ∧ i.zero = some zv ∧ zv.cells = z.toArray ∧ ∀ x ∈ z, x.oneCell' = true := by
  unfold zeroOf at h
  split at h
  · rename_i i hi
    split at h
    · rename_i zv hz
      split at h
      · rename_i hc
        simp only [Option.some.injEq] at h; subst h
        exact ⟨i, zv, hi, hz, by simp, fun x hx => List.all_eq_true.1 hc x hx⟩
      · cases h
    · cases h
  · cases h
theorem build_ok {T : TypeId} {Tm' : Tm} {a : Act} (hT : RT w K β n Tm' a) {z : List Value} {g : Nat → Option (Nat × Nat)} {ps : Array (Nat × Operand)} {qs : List (Nat × Nat × Operand)} {rs : List (Nat × Nat × AV)} {cs : List AV}
    (hz : zeroOf P T = some z) (hg : placesA P T = some g) (hp : putP g ps.toList = some qs) (ho : opdP Tm' qs = some rs) (hf : fillA (zeroA z) rs = some cs) :
    Gives P w K β n (.agg cs) (Instr.build T (ps.map fun (i, x) => (i, a.eval x))) := by
  obtain ⟨i, zv, hi, hzv, hc, _⟩ := zeroOf_info hz
  obtain ⟨vs, e1, e2⟩ := fillA_ok hT ps.toList qs rs _ cs z hp ho hf (zeroA_ok hz)
  refine ⟨.agg vs.toArray, ?_, by simp only [R]; exact ⟨vs, rfl, e2⟩⟩
  have e0 : (ps.map fun (i, x) => (i, a.eval x)).toList = ps.toList.map fun p => (p.1, a.eval p.2) := by simp
  unfold placesA at hg
  split at hg
  · rename_i m el hu
    split at hg
    · rename_i sz hs
      simp only [Option.some.injEq] at hg; subst hg
      cases hie : P.info? el with
      | none => simp [sizeT, hie] at hs
      | some ie =>
        have hm : ie.size = sz := by simpa [sizeT, hie] using hs
        refine run_build w T _ vs.toArray ?_
        simp only [Program.built, hi, hu, hzv, hie, hc, e0, hm]
        exact e1
    · cases hg
  · rename_i fs hu
    split at hg
    · rename_i l hl
      simp only [Option.some.injEq] at hg; subst hg
      refine run_build w T _ vs.toArray ?_
      simp only [Program.built, hi, hu, hzv, hl, hc, e0]
      exact e1
    · cases hg
  · cases hg
end
end Go.Proofs.Ytcedkkleclhglaa.H
