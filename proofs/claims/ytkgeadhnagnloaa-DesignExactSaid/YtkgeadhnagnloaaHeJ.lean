/- Chapter 26: designs in which one thing is changed. -/
import Derived.Test.YtkgeadhnagnloaaHeI
set_option linter.unusedSimpArgs false
set_option linter.unusedVariables false
namespace Go.Proofs.Ytkgeadhnagnloaa.H
def VBt (v : AV) : Prop := ∃ ps ls gs, v = ADs ps ls (grs gs) ∧ ps.length ≤ 1000 ∧ ls.length ≤ 1000 ∧ gs.length ≤ 1000 ∧ ∀ g ∈ gs, g.2.length ≤ 1000
def FPs (rows : List (List D)) : Prop := ∃ l : List Pt, rows = pts l ∧ l.length ≤ 1000
def FLn (rows : List (List D)) : Prop := ∃ l : List Ln, rows = lns l ∧ l.length ≤ 1000
def FGr (rows : List (List D)) : Prop := ∃ l : List Gr, rows = grs l ∧ l.length ≤ 1000 ∧ ∀ g ∈ l, g.2.length ≤ 1000
/-- A list, whatever bears it. -/
def Cmp (T k : Nat) (F : List (List D) → Prop) (x : AV) (s' : St) : Prop := (∃ rows, F rows ∧ (x = .d (.lst k rows) ∨ x = .ful k rows ∨ (rows = [] ∧ x = .ful 0 []))) ∨
  (∃ id off len R, id ≠ 0 ∧ x = .own id off len ∧ s'[id]? = some (some (.cells T k (rowsA R))) ∧ off + len ≤ R.length ∧ F ((R.drop off).take len))
def Cmd (k : Nat) (F : List (List D) → Prop) (x : AV) : Prop := ∃ rows, F rows ∧ (x = .d (.lst k rows) ∨ x = .ful k rows ∨ (rows = [] ∧ x = .ful 0 []))
def oid : AV → Option Nat
  | .own id _ _ => some id
  | _ => none
def BtE (L : List Int) (v : AV) (s' : St) : Prop := ∃ p', p' ≤ L.length ∧ s'[0]? = some (SrcS SRC L p') ∧ ∃ x y z a b c, v = .agg [x, y, z] ∧ Cmp 29 2 FPs x s' ∧ Cmp 60 4 FLn y s' ∧ Cmp 32 2 FGr z s' ∧ (oid x = none ∨ oid x = some a) ∧ (oid y = none ∨ oid y = some b) ∧ (oid z = none ∨ oid z = some c) ∧ a ≠ b ∧ a ≠ c ∧ b ≠ c
theorem Cmp.fix {T k : Nat} {F : List (List D) → Prop} {x : AV} {s' : St} (h : Cmp T k F x s') {id k2 : Nat} {R : List (List D)} (hid : oid x ≠ some id) : frzA id k2 R x = x ∧ fitA id R.length x ∧ Cmp T k F x (s'.set id none) := by
  rcases h with ⟨rows, hF, rfl | rfl | ⟨_, rfl⟩⟩ | ⟨j, off, len, R', hj, rfl, hs, hle, hF⟩
  · exact ⟨rfl, trivial, .inl ⟨rows, hF, .inl rfl⟩⟩
  · exact ⟨rfl, trivial, .inl ⟨rows, hF, .inr (.inl rfl)⟩⟩
  · exact ⟨rfl, trivial, .inl ⟨rows, hF, .inr (.inr ⟨‹_›, rfl⟩)⟩⟩
  · have hne : j ≠ id := fun e => hid (by rw [e]; rfl)
    exact ⟨by simp only [frzA, if_neg hne], fun e => absurd e hne, .inr ⟨j, off, len, R', hj, rfl, by rw [List.getElem?_set_ne (fun e => hne e.symm)]; exact hs, hle, hF⟩⟩
theorem Cmd.fix {k : Nat} {F : List (List D) → Prop} {x : AV} (h : Cmd k F x) {id k2 : Nat} {R : List (List D)} : frzA id k2 R x = x ∧ fitA id R.length x := by
  rcases h with ⟨rows, hF, rfl | rfl | ⟨_, rfl⟩⟩ <;> exact ⟨rfl, trivial⟩
theorem oid_ne {x : AV} {a b : Nat} (h : oid x = none ∨ oid x = some a) (hab : a ≠ b) : oid x ≠ some b := by
  rcases h with h | h <;> rw [h] <;> simp [hab]
theorem own_oid {id off len a : Nat} (h : oid (.own id off len) = none ∨ oid (.own id off len) = some a) : id = a := by
  rcases h with h | h <;> simp [oid] at h; exact h
theorem get0_set {s' : St} {id : Nat} (h : id ≠ 0) : (s'.set id none)[0]? = s'[0]? := by rw [List.getElem?_set_ne h]
theorem bt_fn {P : Program} {L : List Int} {f : FuncId} {vs : List AV} {p : Nat} (h : ACalls P f vs [SrcS SRC L p] (BtE L)) : ACalls P f vs [SrcS SRC L p] fun v s' => ∃ p', p' ≤ L.length ∧ VBt v ∧ belA 0 v = true ∧ s' = [SrcS SRC L p'] := by
  have h1 : ACalls P f vs [SrcS SRC L p] fun v s' => ∃ p', p' ≤ L.length ∧ s'[0]? = some (SrcS SRC L p') ∧ ∃ x y z b c, v = .agg [x, y, z] ∧ Cmd 2 FPs x ∧ Cmp 60 4 FLn y s' ∧ Cmp 32 2 FGr z s' ∧ (oid y = none ∨ oid y = some b) ∧ (oid z = none ∨ oid z = some c) ∧ b ≠ c := by
    refine ACalls.freeze h fun v s' ⟨p', hp', hs, x, y, z, a, b, c, e, hx, hy, hz, ox, oy, oz, hab, hac, hbc⟩ => ?_
    subst e
    rcases hx with hx | ⟨id, off, len, R, hid, rfl, hR, hle, hF⟩
    · exact .inl ⟨p', hp', hs, x, y, z, b, c, rfl, hx, hy, hz, oy, oz, hbc⟩
    · have ea := own_oid ox
      subst ea
      obtain ⟨y1, y2, y3⟩ := hy.fix (k2 := 2) (R := R) (oid_ne oy (Ne.symm hab))
      obtain ⟨z1, z2, z3⟩ := hz.fix (k2 := 2) (R := R) (oid_ne oz (Ne.symm hac))
      refine .inr ⟨id, 29, 2, R, hR, ⟨fun _ => hle, y2, z2, trivial⟩, p', hp', by rw [get0_set hid]; exact hs, .d (.lst 2 ((R.drop off).take len)), y, z, b, c, ?_, ⟨_, hF, .inl rfl⟩, y3, z3, oy, oz, hbc⟩
      simp only [frzA, frzL, if_true, y1, z1]
  have h2 : ACalls P f vs [SrcS SRC L p] fun v s' => ∃ p', p' ≤ L.length ∧ s'[0]? = some (SrcS SRC L p') ∧ ∃ x y z c, v = .agg [x, y, z] ∧ Cmd 2 FPs x ∧ Cmd 4 FLn y ∧ Cmp 32 2 FGr z s' ∧ (oid z = none ∨ oid z = some c) := by
    refine ACalls.freeze h1 fun v s' ⟨p', hp', hs, x, y, z, b, c, e, hx, hy, hz, oy, oz, hbc⟩ => ?_
    subst e
    rcases hy with hy | ⟨id, off, len, R, hid, rfl, hR, hle, hF⟩
    · exact .inl ⟨p', hp', hs, x, y, z, c, rfl, hx, hy, hz, oz⟩
    · have eb := own_oid oy
      subst eb
      obtain ⟨x1, x2⟩ := hx.fix (id := id) (k2 := 4) (R := R)
      obtain ⟨z1, z2, z3⟩ := hz.fix (k2 := 4) (R := R) (oid_ne oz (Ne.symm hbc))
      refine .inr ⟨id, 60, 4, R, hR, ⟨x2, fun _ => hle, z2, trivial⟩, p', hp', by rw [get0_set hid]; exact hs, x, .d (.lst 4 ((R.drop off).take len)), z, c, ?_, hx, ⟨_, hF, .inl rfl⟩, z3, oz⟩
      simp only [frzA, frzL, if_true, x1, z1]
  have h3 : ACalls P f vs [SrcS SRC L p] fun v s' => ∃ p', p' ≤ L.length ∧ s'[0]? = some (SrcS SRC L p') ∧ ∃ x y z, v = .agg [x, y, z] ∧ Cmd 2 FPs x ∧ Cmd 4 FLn y ∧ Cmd 2 FGr z := by
    refine ACalls.freeze h2 fun v s' ⟨p', hp', hs, x, y, z, c, e, hx, hy, hz, oz⟩ => ?_
    subst e
    rcases hz with hz | ⟨id, off, len, R, hid, rfl, hR, hle, hF⟩
    · exact .inl ⟨p', hp', hs, x, y, z, rfl, hx, hy, hz⟩
    · obtain ⟨x1, x2⟩ := hx.fix (id := id) (k2 := 2) (R := R)
      obtain ⟨y1, y2⟩ := hy.fix (id := id) (k2 := 2) (R := R)
      refine .inr ⟨id, 32, 2, R, hR, ⟨x2, y2, fun _ => hle, trivial⟩, p', hp', by rw [get0_set hid]; exact hs, x, y, .d (.lst 2 ((R.drop off).take len)), ?_, hx, hy, ⟨_, hF, .inl rfl⟩⟩
      simp only [frzA, frzL, if_true, x1, y1]
  have wk : ∀ {k : Nat} {F : List (List D) → Prop} {x : AV}, Cmd k F x → ∃ rows, F rows ∧ Wk x (.d (.lst k rows)) := fun ⟨rows, hF, h⟩ => by
    rcases h with rfl | rfl | ⟨rfl, rfl⟩
    · exact ⟨_, hF, .same _⟩
    · exact ⟨_, hF, .ful _ _⟩
    · exact ⟨_, hF, .nil _ _⟩
  have h4 : ACalls P f vs [SrcS SRC L p] fun v s' => ∃ p', p' ≤ L.length ∧ s'[0]? = some (SrcS SRC L p') ∧ VBt v ∧ belA 0 v = true := ACalls.endW h3 fun v s' ⟨p', hp', hs, x, y, z, e, hx, hy, hz⟩ => by
    subst e
    obtain ⟨r1, ⟨ps, rfl, hps⟩, w1⟩ := wk hx
    obtain ⟨r2, ⟨ls, rfl, hls⟩, w2⟩ := wk hy
    obtain ⟨r3, ⟨gs, rfl, hgs, hgl⟩, w3⟩ := wk hz
    exact ⟨ADs ps ls (grs gs), .agg (.cons w1 (.cons w2 (.cons w3 .nil))), p', hp', hs, ⟨ps, ls, gs, rfl, hps, hls, hgs, hgl⟩, rfl⟩
  refine ACalls.take h4 fun v s' ⟨p', g1, g2, g3, g4⟩ => ⟨belA_mono (Nat.zero_le _) g4, fun i b hi hb => ?_, p', g1, g3, g4, ?_⟩
  · have : i = 0 := by simp at hi; omega
    subst this
    rw [g2] at hb
    simp only [Option.some.injEq] at hb; subst hb; rfl
  · cases s' with
    | nil => simp at g2
    | cons x l => simp at g2; simp [g2]
def bentE : Cd :=
  (.seq (.seq (.ops [.f (some 18) none (.mv (.tmp 0)),
    .k (some 19) none (.call 32 [(.tmp 18), (.const (.int .i64 6))])])
  (.block 0
   (.seq (.ops [.f (some 29) none (.bin .eql (.tmp 19) (.const (.int .i64 0))),
     .k (some 28) none (.asg (.tmp 29))])
   (.cond (.tmp 28)
    (.opd [⟨0, .f (some 30) none (.faddr 0 (.tmp 3)), []⟩,
      ⟨1, .f (some 31) none (.load none (.tmp 30)), []⟩,
      ⟨2, .f (some 32) none (.mv (.tmp 0)), []⟩,
      ⟨4, .f (some 34) none (.mv (.tmp 0)), []⟩,
      ⟨5, .k (some 35) none (.bslice 3 1 4 [(.int .i64 0)] [(0, 1, (.const (.int .i64 (-1)))), (1, 1, (.const (.int .i64 0))), (2, 1, (.const (.int .i64 63))), (3, 1, (.const (.int .i64 64)))]), []⟩,
      ⟨3, .k (some 33) none (.call 50 [(.tmp 32), (.const (.int .i64 0)), (.const (.int .i64 10))]), [.f (some 31) none (.load none (.tmp 30))]⟩,
      ⟨6, .k (some 36) none (.call 51 [(.tmp 34), (.tmp 35)]), [.f (some 31) none (.load none (.tmp 30))]⟩,
      ⟨7, .f (some 37) none (.build [(.int .i64 0), (.int .i64 0)] [(0, 1, (.tmp 33)), (1, 1, (.tmp 36))]), []⟩,
      ⟨8, .k (some 38) none (.bslice 29 2 1 [(.int .i64 0), (.int .i64 0)] [(0, 2, (.tmp 37))]), []⟩,
      ⟨9, .k (some 39) none (.append 29 2 16 (.tmp 31) (.tmp 38)), []⟩,
      ⟨10, .f (some 40) none (.faddr 0 (.tmp 3)), []⟩,
      ⟨11, .k none none (.store 1 (.tmp 40) (.tmp 39)), []⟩])
    (.seq (.ops [.f (some 42) none (.bin .eql (.tmp 19) (.const (.int .i64 1))),
      .k (some 41) none (.asg (.tmp 42))])
    (.cond (.tmp 41)
     (.opd [⟨0, .f (some 43) none (.faddr 1 (.tmp 3)), []⟩,
       ⟨1, .f (some 44) none (.load none (.tmp 43)), []⟩,
       ⟨2, .f (some 45) none (.mv (.tmp 0)), []⟩,
       ⟨4, .f (some 47) none (.mv (.tmp 0)), []⟩,
       ⟨3, .k (some 46) none (.call 29 [(.tmp 45)]), [.f (some 44) none (.load none (.tmp 43))]⟩,
       ⟨5, .k (some 48) none (.call 29 [(.tmp 47)]), [.f (some 44) none (.load none (.tmp 43))]⟩,
       ⟨6, .f (some 49) none (.build [(.int .i64 0), (.int .i64 0), (.int .i64 0), (.int .i64 0)] [(0, 2, (.tmp 46)), (2, 2, (.tmp 48))]), []⟩,
       ⟨7, .k (some 50) none (.bslice 60 4 1 [(.int .i64 0), (.int .i64 0), (.int .i64 0), (.int .i64 0)] [(0, 4, (.tmp 49))]), []⟩,
       ⟨8, .k (some 51) none (.append 60 4 32 (.tmp 44) (.tmp 50)), []⟩,
       ⟨9, .f (some 52) none (.faddr 1 (.tmp 3)), []⟩,
       ⟨10, .k none none (.store 1 (.tmp 52) (.tmp 51)), []⟩])
     (.seq (.ops [.f (some 54) none (.bin .eql (.tmp 19) (.const (.int .i64 2))),
       .k (some 53) none (.asg (.tmp 54))])
     (.cond (.tmp 53)
      (.opd [⟨0, .f (some 55) none (.faddr 2 (.tmp 3)), []⟩,
        ⟨1, .f (some 56) none (.load none (.tmp 55)), []⟩,
        ⟨2, .f (some 57) none (.mv (.tmp 0)), []⟩,
        ⟨3, .k (some 58) none (.bslice 9 1 6 [(.string ⟨#[]⟩)] [(0, 1, (.const (.string ⟨#[111, 110, 101]⟩))), (1, 1, (.const (.string ⟨#[]⟩))), (2, 1, (.const (.string ⟨#[65]⟩))), (3, 1, (.const (.string ⟨#[98, 32, 99]⟩))), (4, 1, (.const (.string ⟨#[116, 119, 101, 108, 118, 101, 45, 98, 121, 116, 101, 115]⟩))), (5, 1, (.const (.string ⟨#[116, 104, 105, 114, 116, 101, 101, 110, 45, 98, 121, 116, 101]⟩)))]), []⟩,
        ⟨5, .f (some 60) none (.mv (.tmp 0)), []⟩,
        ⟨4, .k (some 59) none (.call 52 [(.tmp 57), (.tmp 58)]), [.f (some 56) none (.load none (.tmp 55))]⟩,
        ⟨6, .k (some 61) none (.call 12 [(.tmp 60), (.const (.int .i64 2))]), [.f (some 56) none (.load none (.tmp 55))]⟩,
        ⟨7, .f (some 62) none (.build [(.string ⟨#[]⟩), (.slice none 0 0)] [(0, 1, (.tmp 59)), (1, 1, (.tmp 61))]), []⟩,
        ⟨8, .k (some 63) none (.bslice 32 2 1 [(.string ⟨#[]⟩), (.slice none 0 0)] [(0, 2, (.tmp 62))]), []⟩,
        ⟨9, .k (some 64) none (.append 32 2 40 (.tmp 56) (.tmp 63)), []⟩,
        ⟨10, .f (some 65) none (.faddr 2 (.tmp 3)), []⟩,
        ⟨11, .k none none (.store 1 (.tmp 65) (.tmp 64)), []⟩])
      (.seq (.ops [.f (some 67) none (.bin .eql (.tmp 19) (.const (.int .i64 3))),
        .k (some 66) none (.asg (.tmp 67))])
      (.cond (.tmp 66)
       (.seq (.ops [.f (some 68) none (.faddr 1 (.tmp 3)),
         .f (some 69) none (.load none (.tmp 68)),
         .f (some 70) none (.len (.tmp 69)),
         .f (some 71) none (.bin .gtr (.tmp 70) (.const (.int .i64 0)))])
       (.cond (.tmp 71)
        (.seq (.ops [.f (some 72) none (.mv (.tmp 0)),
          .f (some 73) none (.faddr 1 (.tmp 3)),
          .f (some 74) none (.load none (.tmp 73)),
          .f (some 75) none (.len (.tmp 74)),
          .k (some 76) none (.call 32 [(.tmp 72), (.tmp 75)]),
          .k (some 5) none (.asg (.tmp 76))])
        (.opd [⟨0, .f (some 77) none (.faddr 1 (.tmp 3)), []⟩,
          ⟨1, .f (some 78) none (.load none (.tmp 77)), []⟩,
          ⟨2, .f (some 79) none (.mv (.tmp 5)), []⟩,
          ⟨3, .f (some 80) none (.faddr 1 (.tmp 3)), []⟩,
          ⟨4, .f (some 81) none (.load none (.tmp 80)), []⟩,
          ⟨5, .f (some 82) none (.mv (.tmp 5)), []⟩,
          ⟨6, .f (some 83) none (.iaddr 4 none (.tmp 81) (.tmp 82)), []⟩,
          ⟨7, .f (some 84) none (.faddr 0 (.tmp 83)), []⟩,
          ⟨8, .f (some 85) none (.load (some 2) (.tmp 84)), []⟩,
          ⟨9, .f (some 86) none (.iaddr 4 none (.tmp 78) (.tmp 79)), []⟩,
          ⟨10, .f (some 87) none (.faddr 2 (.tmp 86)), []⟩,
          ⟨11, .k none none (.store 2 (.tmp 87) (.tmp 85)), []⟩]))
        .skip))
       (.seq (.ops [.f (some 89) none (.bin .eql (.tmp 19) (.const (.int .i64 4))),
         .k (some 88) none (.asg (.tmp 89))])
       (.cond (.tmp 88)
        (.seq (.ops [.f (some 90) none (.faddr 0 (.tmp 3)),
          .f (some 91) none (.load none (.tmp 90)),
          .f (some 92) none (.len (.tmp 91)),
          .f (some 93) none (.bin .gtr (.tmp 92) (.const (.int .i64 1)))])
        (.cond (.tmp 93)
         (.opd [⟨0, .f (some 94) none (.faddr 0 (.tmp 3)), []⟩,
           ⟨1, .f (some 95) none (.load none (.tmp 94)), []⟩,
           ⟨2, .f (some 96) none (.faddr 0 (.tmp 3)), []⟩,
           ⟨3, .f (some 97) none (.load none (.tmp 96)), []⟩,
           ⟨4, .f (some 98) none (.faddr 0 (.tmp 3)), []⟩,
           ⟨5, .f (some 99) none (.load none (.tmp 98)), []⟩,
           ⟨6, .f (some 100) none (.iaddr 2 none (.tmp 99) (.const (.int .i64 1))), []⟩,
           ⟨7, .f (some 101) none (.load (some 2) (.tmp 100)), []⟩,
           ⟨8, .f (some 102) none (.faddr 0 (.tmp 3)), []⟩,
           ⟨9, .f (some 103) none (.load none (.tmp 102)), []⟩,
           ⟨10, .f (some 104) none (.iaddr 2 none (.tmp 103) (.const (.int .i64 0))), []⟩,
           ⟨11, .f (some 105) none (.load (some 2) (.tmp 104)), []⟩,
           ⟨12, .f (some 106) none (.iaddr 2 none (.tmp 95) (.const (.int .i64 0))), []⟩,
           ⟨13, .k none none (.store 2 (.tmp 106) (.tmp 101)), [.f (some 97) none (.load none (.tmp 96))]⟩,
           ⟨14, .f (some 107) none (.iaddr 2 none (.tmp 97) (.const (.int .i64 1))), []⟩,
           ⟨15, .k none none (.store 2 (.tmp 107) (.tmp 105)), []⟩])
         .skip))
        (.seq (.ops [.f (some 20) none (.faddr 0 (.tmp 3)),
          .f (some 21) none (.load none (.tmp 20)),
          .f (some 22) none (.len (.tmp 21)),
          .f (some 23) none (.bin .gtr (.tmp 22) (.const (.int .i64 0)))])
        (.cond (.tmp 23)
         (.ops [.f (some 24) none (.faddr 0 (.tmp 3)),
           .f (some 25) none (.load none (.tmp 24)),
           .f (some 26) none (.slc 2 (.tmp 25) (some (.const (.int .i64 1))) none none),
           .f (some 27) none (.faddr 0 (.tmp 3)),
           .k none none (.store 1 (.tmp 27) (.tmp 26))])
         .skip))))))))))))))
  (.seq (.ops [.f (some 108) none (.load (some 3) (.tmp 3)),
    .k none none (.store 3 (.tmp 4) (.tmp 108))])
  .ret))
/-- An untouched list. -/
theorem cmp_g {α : Type} {T k id : Nat} {f : α → List D} {F : List (List D) → Prop} {l : List α} {s' : St} (hid : id ≠ 0) (hF : F (l.map f)) (hs : s'[id]? = some (gBg T k f l)) : Cmp T k F (gVg id l) s' ∧ (oid (gVg id l) = none ∨ oid (gVg id l) = some id) := by
  cases l with
  | nil => exact ⟨.inl ⟨[], hF, .inr (.inr ⟨rfl, rfl⟩)⟩, .inl rfl⟩
  | cons x l =>
    refine ⟨.inr ⟨id, 0, _, (x :: l).map f, hid, rfl, hs, by simp, ?_⟩, .inr rfl⟩
    rw [List.drop_zero, List.take_of_length_le (by simp)]
    exact hF
theorem cmp_o {T k id n : Nat} {F : List (List D) → Prop} {R : List (List D)} {s' : St} (hid : id ≠ 0) (hF : F R) (hn : n = R.length) (hs : s'[id]? = some (some (.cells T k (rowsA R)))) : Cmp T k F (.own id 0 n) s' ∧ (oid (.own id 0 n) = none ∨ oid (.own id 0 n) = some id) := by
  subst hn
  refine ⟨.inr ⟨id, 0, _, R, hid, rfl, hs, by omega, ?_⟩, .inr rfl⟩
  rw [List.drop_zero, List.take_of_length_le (Nat.le_refl _)]
  exact hF
theorem rowsA_lns {l : List Ln} {i : Nat} (h : i < l.length) : (rowsA (lns l)).getD i [] = [AI .i64 l[i].1.1, AI .i64 l[i].1.2, AI .i64 l[i].2.1, AI .i64 l[i].2.2] := by simp [rowsA, h, lnR]
theorem gVg_one {α : Type} (id : Nat) (l : List α) : AV.one (gVg id l) = true := by cases l <;> rfl
theorem gVg_flat {α : Type} (id : Nat) (l : List α) : AV.flat (gVg id l) = some [gVg id l] := by cases l <;> rfl
set_option maxRecDepth 100000 in
set_option maxHeartbeats 16000000 in
theorem bent_tail {L : List Int} (hL : L.length ≤ 600) {ps : List Pt} {ls : List Ln} {gs : List Gr} (hp : ps.length ≤ 100) (hl : ls.length ≤ 100) (hg : gs.length ≤ 100) (hgl : ∀ g ∈ gs, g.2.length ≤ 100) {p : Nat} (hpL : p ≤ L.length) :
    AW Try.prog 109 1 bentE [(0, .ptr 0 0 0), (3, .ptr 1 0 0), (4, .ptr 2 0 0)] [SrcS SRC L p, some (.cells 27 3 [[gVg 3 ps, gVg 4 ls, gVg 5 gs]]), some (.cells 27 3 [[.ful 0 [], .ful 0 [], .ful 0 []]]), gBg 29 2 ptR ps, gBg 60 4 lnR ls, gBg 32 2 grR gs] (callQ [.cell 4 (some 3)] (BtE L)) := by
  unfold bentE
  have FP : FPs (ps.map ptR) := ⟨ps, rfl, by omega⟩
  have FL : FLn (ls.map lnR) := ⟨ls, rfl, by omega⟩
  have FG : FGr (gs.map grR) := ⟨gs, rfl, by omega, fun g hg => Nat.le_trans (hgl g hg) (by omega)⟩
  refine AW.seq' (AW.seq' (AW.ops ?_))
  simp only [RS, LS, SY, ne_eq, isFl, floatV, constA, thenQ, blockQ, pack, intA, boolA, eqA, unA, nilcA, asI, asB, asS, loadA, idxA, lenA, slcA, AV.flat, AV.one, zA1, storeA, toD, srcOf, copyA, ↓reduceIte, reduceCtorEq, List.replicate, Nat.reduceBEq, Nat.reduceAdd, Nat.reduceMul, Nat.reduceSub, Nat.reduceLeDiff, Nat.reduceLT, Int.reduceToNat, Nat.reduceEqDiff, Int.reduceEq]
  refine SFn.call (n_ok hL 6 (by omega)) rfl rfl hpL (fun v p hp hv hb => ?_)
  obtain ⟨z, z0, z1, rfl⟩ := hv
  simp only [RS, LS, SY, ne_eq, isFl, floatV, constA, thenQ, blockQ, pack, intA, boolA, eqA, unA, nilcA, asI, asB, asS, loadA, idxA, lenA, slcA, AV.flat, AV.one, zA1, storeA, toD, srcOf, copyA, ↓reduceIte, reduceCtorEq, List.replicate, Nat.reduceBEq, Nat.reduceAdd, Nat.reduceMul, Nat.reduceSub, Nat.reduceLeDiff, Nat.reduceLT, Int.reduceToNat, Nat.reduceEqDiff, Int.reduceEq]
  have fin : ∀ {p : Nat} {x y z : AV} {s' : St} {a b c : Nat}, p ≤ L.length → s'[0]? = some (SrcS SRC L p) → (Cmp 29 2 FPs x s' ∧ (oid x = none ∨ oid x = some a)) → (Cmp 60 4 FLn y s' ∧ (oid y = none ∨ oid y = some b)) → (Cmp 32 2 FGr z s' ∧ (oid z = none ∨ oid z = some c)) → (a ≠ b ∧ a ≠ c ∧ b ≠ c) → BtE L (.agg [x, y, z]) s' := fun hp hs hx hy hz hab => ⟨_, hp, hs, _, _, _, _, _, _, rfl, hx.1, hy.1, hz.1, hx.2, hy.2, hz.2, hab⟩
  rcases (by omega : z = 0 ∨ z = 1 ∨ z = 2 ∨ z = 3 ∨ z = 4 ∨ z = 5) with rfl | rfl | rfl | rfl | rfl | rfl
  · -- a part more
    cases ps with
    | nil =>
      rw [gVg_nil, gBg_nil]
      repeat' (first | refine AW.seq' ?_ | with_reducible refine AW.blockS rfl ?_ | ((first | refine AW.ops ?_ | refine AW.draw ?_ | refine AW.skip ?_ | refine AW.ret ?_ | refine AW.exit ?_ |  (refine SFn.call (range_ok hL 0 10 (by omega) (by omega) (by omega)) rfl rfl (by assumption) (fun v p hp hv hb => ?_); obtain ⟨x, x0, x1, rfl⟩ := hv) |  (refine SFn.call (pick_ok hL [-1, 0, 63, 64] (by simp) (by simp)) rfl rfl (by assumption) (fun v p hp hv hb => ?_); obtain ⟨y, y0, rfl⟩ := hv)) <;> simp (disch := omega) only [RS, LS, SY, ne_eq, isFl, floatV, constA, thenQ, blockQ, pack, intA, boolA, eqA, unA, nilcA, asI, asB, asS, loadA, idxA, lenA, slcA, AV.flat, AV.one, zA1, storeA, toD, srcOf, copyA, ↓reduceIte, reduceCtorEq, List.replicate, Nat.reduceBEq, Nat.reduceAdd, Nat.reduceMul, Nat.reduceSub, Nat.reduceLeDiff, Nat.reduceLT, Int.reduceToNat, Nat.reduceEqDiff, Int.reduceEq, wrap_id, ↓gVg_one, ↓gVg_flat]) | refine AW.condT rfl ?_ | refine AW.condF rfl ?_ | refine And.intro (by omega) ?_ | fail)
      exact fin (by assumption) rfl (cmp_o (R := pts [(x, y)]) (by decide) ⟨[(x, y)], rfl, by simp⟩ rfl rfl) (cmp_g (by decide) FL rfl) (cmp_g (by decide) FG rfl) ⟨by decide, by decide, by decide⟩
    | cons q ps =>
      rw [gVg_cons, gBg_cons]
      have htk : List.take ps.length (List.map ptR ps) = List.map ptR ps := List.take_of_length_le (by simp)
      simp only [List.length_cons] at hp
      repeat' (first | refine AW.seq' ?_ | with_reducible refine AW.blockS rfl ?_ | ((first | refine AW.ops ?_ | refine AW.draw ?_ | refine AW.skip ?_ | refine AW.ret ?_ | refine AW.exit ?_ |  (refine SFn.call (range_ok hL 0 10 (by omega) (by omega) (by omega)) rfl rfl (by assumption) (fun v p hp hv hb => ?_); obtain ⟨x, x0, x1, rfl⟩ := hv) |  (refine SFn.call (pick_ok hL [-1, 0, 63, 64] (by simp) (by simp)) rfl rfl (by assumption) (fun v p hp hv hb => ?_); obtain ⟨y, y0, rfl⟩ := hv)) <;> simp (disch := omega) only [RS, LS, SY, ne_eq, isFl, floatV, constA, thenQ, blockQ, pack, intA, boolA, eqA, unA, nilcA, asI, asB, asS, loadA, idxA, lenA, slcA, AV.flat, AV.one, zA1, storeA, toD, srcOf, copyA, ↓reduceIte, reduceCtorEq, List.replicate, Nat.reduceBEq, Nat.reduceAdd, Nat.reduceMul, Nat.reduceSub, Nat.reduceLeDiff, Nat.reduceLT, Int.reduceToNat, Nat.reduceEqDiff, Int.reduceEq, wrap_id, htk, ↓gVg_one, ↓gVg_flat]) | refine AW.condT rfl ?_ | refine AW.condF rfl ?_ | refine And.intro (by omega) ?_ | fail)
      have e : rowsA (pts (q :: (ps ++ [(x, y)]))) = [AV.d (dI q.fst), AV.d (dI q.snd)] :: (rowsA (List.map ptR ps) ++ [[AV.d (dI x), AV.d (dI y)]]) := by simp [rowsA]
      exact fin (by assumption) rfl (cmp_o (R := pts (q :: (ps ++ [(x, y)]))) (by decide) ⟨_, rfl, by simp; omega⟩ (by simp) (by rw [e]; rfl)) (cmp_g (by decide) FL rfl) (cmp_g (by decide) FG rfl) ⟨by decide, by decide, by decide⟩
  · -- a link more
    cases ls with
    | nil =>
      rw [gVg_nil, gBg_nil]
      repeat' (first | refine AW.seq' ?_ | with_reducible refine AW.blockS rfl ?_ | ((first | refine AW.ops ?_ | refine AW.draw ?_ | refine AW.skip ?_ | refine AW.ret ?_ | refine AW.exit ?_ |  (refine SFn.call (part_ok hL) rfl rfl (by assumption) (fun v p hp hv hb => ?_); (first | (have _ := x; obtain ⟨y, rfl, hy⟩ := hv) | obtain ⟨x, rfl, hx⟩ := hv))) <;> simp (disch := omega) only [RS, LS, SY, ne_eq, isFl, floatV, constA, thenQ, blockQ, pack, intA, boolA, eqA, unA, nilcA, asI, asB, asS, loadA, idxA, lenA, slcA, AV.flat, AV.one, zA1, storeA, toD, srcOf, copyA, ↓reduceIte, reduceCtorEq, List.replicate, Nat.reduceBEq, Nat.reduceAdd, Nat.reduceMul, Nat.reduceSub, Nat.reduceLeDiff, Nat.reduceLT, Int.reduceToNat, Nat.reduceEqDiff, Int.reduceEq, wrap_id, ↓gVg_one, ↓gVg_flat]) | refine AW.condT rfl ?_ | refine AW.condF rfl ?_ | refine And.intro (by omega) ?_ | fail)
      exact fin (by assumption) rfl (cmp_g (by decide) FP rfl) (cmp_o (R := lns [(x, y)]) (by decide) ⟨[(x, y)], rfl, by simp⟩ rfl rfl) (cmp_g (by decide) FG rfl) ⟨by decide, by decide, by decide⟩
    | cons q ls =>
      rw [gVg_cons, gBg_cons]
      have htk : List.take ls.length (List.map lnR ls) = List.map lnR ls := List.take_of_length_le (by simp)
      simp only [List.length_cons] at hl
      repeat' (first | refine AW.seq' ?_ | with_reducible refine AW.blockS rfl ?_ | ((first | refine AW.ops ?_ | refine AW.draw ?_ | refine AW.skip ?_ | refine AW.ret ?_ | refine AW.exit ?_ |  (refine SFn.call (part_ok hL) rfl rfl (by assumption) (fun v p hp hv hb => ?_); (first | (have _ := x; obtain ⟨y, rfl, hy⟩ := hv) | obtain ⟨x, rfl, hx⟩ := hv))) <;> simp (disch := omega) only [RS, LS, SY, ne_eq, isFl, floatV, constA, thenQ, blockQ, pack, intA, boolA, eqA, unA, nilcA, asI, asB, asS, loadA, idxA, lenA, slcA, AV.flat, AV.one, zA1, storeA, toD, srcOf, copyA, ↓reduceIte, reduceCtorEq, List.replicate, Nat.reduceBEq, Nat.reduceAdd, Nat.reduceMul, Nat.reduceSub, Nat.reduceLeDiff, Nat.reduceLT, Int.reduceToNat, Nat.reduceEqDiff, Int.reduceEq, wrap_id, htk, ↓gVg_one, ↓gVg_flat]) | refine AW.condT rfl ?_ | refine AW.condF rfl ?_ | refine And.intro (by omega) ?_ | fail)
      have e : rowsA (lns (q :: (ls ++ [(x, y)]))) = List.map AV.d (lnR q) :: (rowsA (List.map lnR ls) ++ [[AV.d (dI x.1), AV.d (dI x.2), AV.d (dI y.1), AV.d (dI y.2)]]) := by simp [rowsA, lnR]
      exact fin (by assumption) rfl (cmp_g (by decide) FP rfl) (cmp_o (R := lns (q :: (ls ++ [(x, y)]))) (by decide) ⟨_, rfl, by simp; omega⟩ (by simp) (by rw [e]; rfl)) (cmp_g (by decide) FG rfl) ⟨by decide, by decide, by decide⟩
  · -- a group more
    have hT := text_ok hL [⟨#[111, 110, 101]⟩, ⟨#[]⟩, ⟨#[65]⟩, ⟨#[98, 32, 99]⟩, ⟨#[116, 119, 101, 108, 118, 101, 45, 98, 121, 116, 101, 115]⟩, ⟨#[116, 104, 105, 114, 116, 101, 101, 110, 45, 98, 121, 116, 101]⟩] (by simp) (by simp)
    cases gs with
    | nil =>
      rw [gVg_nil, gBg_nil]
      repeat' (first | refine AW.seq' ?_ | with_reducible refine AW.blockS rfl ?_ | ((first | refine AW.ops ?_ | refine AW.draw ?_ | refine AW.skip ?_ | refine AW.ret ?_ | refine AW.exit ?_ |  (refine SFn.call hT rfl rfl (by assumption) (fun v p hp hv hb => ?_); obtain ⟨x, x0, rfl⟩ := hv) |  (refine SFn.call (parts_ok hL 2 (by omega)).frozen rfl rfl (by assumption) (fun v p hp hv hb => ?_); obtain ⟨_, ⟨m, rfl, hm, hmv⟩, rfl⟩ := hv)) <;> simp (disch := omega) only [RS, LS, SY, ne_eq, isFl, floatV, constA, thenQ, blockQ, pack, intA, boolA, eqA, unA, nilcA, asI, asB, asS, loadA, idxA, lenA, slcA, AV.flat, AV.one, zA1, storeA, toD, srcOf, copyA, ↓reduceIte, reduceCtorEq, List.replicate, Nat.reduceBEq, Nat.reduceAdd, Nat.reduceMul, Nat.reduceSub, Nat.reduceLeDiff, Nat.reduceLT, Int.reduceToNat, Nat.reduceEqDiff, Int.reduceEq, wrap_id, ↓gVg_one, ↓gVg_flat]) | refine AW.condT rfl ?_ | refine AW.condF rfl ?_ | refine And.intro (by omega) ?_ | fail)
      exact fin (by assumption) rfl (cmp_g (by decide) FP rfl) (cmp_g (by decide) FL rfl) (cmp_o (R := grs [(x, m)]) (by decide) ⟨[(x, m)], rfl, by simp, fun g hg => by simp only [List.mem_singleton] at hg; subst hg; simp only; omega⟩ rfl rfl) ⟨by decide, by decide, by decide⟩
    | cons q gs =>
      rw [gVg_cons, gBg_cons]
      have htk : List.take gs.length (List.map grR gs) = List.map grR gs := List.take_of_length_le (by simp)
      simp only [List.length_cons] at hg
      repeat' (first | refine AW.seq' ?_ | with_reducible refine AW.blockS rfl ?_ | ((first | refine AW.ops ?_ | refine AW.draw ?_ | refine AW.skip ?_ | refine AW.ret ?_ | refine AW.exit ?_ |  (refine SFn.call hT rfl rfl (by assumption) (fun v p hp hv hb => ?_); obtain ⟨x, x0, rfl⟩ := hv) |  (refine SFn.call (parts_ok hL 2 (by omega)).frozen rfl rfl (by assumption) (fun v p hp hv hb => ?_); obtain ⟨_, ⟨m, rfl, hm, hmv⟩, rfl⟩ := hv)) <;> simp (disch := omega) only [RS, LS, SY, ne_eq, isFl, floatV, constA, thenQ, blockQ, pack, intA, boolA, eqA, unA, nilcA, asI, asB, asS, loadA, idxA, lenA, slcA, AV.flat, AV.one, zA1, storeA, toD, srcOf, copyA, ↓reduceIte, reduceCtorEq, List.replicate, Nat.reduceBEq, Nat.reduceAdd, Nat.reduceMul, Nat.reduceSub, Nat.reduceLeDiff, Nat.reduceLT, Int.reduceToNat, Nat.reduceEqDiff, Int.reduceEq, wrap_id, htk, ↓gVg_one, ↓gVg_flat]) | refine AW.condT rfl ?_ | refine AW.condF rfl ?_ | refine And.intro (by omega) ?_ | fail)
      have e : rowsA (grs (q :: (gs ++ [(x, m)]))) = List.map AV.d (grR q) :: (rowsA (List.map grR gs) ++ [[.d (.v (.string x)), LP m]]) := by simp [rowsA, grR]
      refine fin (by assumption) rfl (cmp_g (by decide) FP rfl) (cmp_g (by decide) FL rfl) (cmp_o (R := grs (q :: (gs ++ [(x, m)]))) (by decide) ⟨_, rfl, by simp; omega, fun g hg => ?_⟩ (by simp) (by rw [e]; rfl)) ⟨by decide, by decide, by decide⟩
      rcases List.mem_cons.1 hg with rfl | hg
      · exact Nat.le_trans (hgl _ (List.mem_cons_self ..)) (by omega)
      · rcases List.mem_append.1 hg with hg | hg
        · exact Nat.le_trans (hgl _ (List.mem_cons_of_mem _ hg)) (by omega)
        · simp only [List.mem_singleton] at hg; subst hg; simp only; omega
  · -- a link from a part to itself
    cases ls with
    | nil =>
      rw [gVg_nil, gBg_nil]
      have h0 : ¬ (0 : Int) < ((0 : Nat) : Int) := by decide
      repeat' (first | refine AW.seq' ?_ | with_reducible refine AW.blockS rfl ?_ | ((first | refine AW.ops ?_ | refine AW.draw ?_ | refine AW.skip ?_ | refine AW.ret ?_ | refine AW.exit ?_) <;> simp (disch := omega) only [RS, LS, SY, ne_eq, isFl, floatV, constA, thenQ, blockQ, pack, intA, boolA, eqA, unA, nilcA, asI, asB, asS, loadA, idxA, lenA, slcA, AV.flat, AV.one, zA1, storeA, toD, srcOf, copyA, ↓reduceIte, reduceCtorEq, List.replicate, Nat.reduceBEq, Nat.reduceAdd, Nat.reduceMul, Nat.reduceSub, Nat.reduceLeDiff, Nat.reduceLT, Int.reduceToNat, Nat.reduceEqDiff, Int.reduceEq, wrap_id, h0, ↓gVg_one, ↓gVg_flat]) | refine AW.condT rfl ?_ | refine AW.condF rfl ?_ | refine And.intro (by omega) ?_ | fail)
      exact fin (b := 4) (by assumption) rfl (cmp_g (by decide) FP rfl) ⟨.inl ⟨[], ⟨[], rfl, by simp⟩, .inr (.inr ⟨rfl, rfl⟩)⟩, .inl rfl⟩ (cmp_g (by decide) FG rfl) ⟨by decide, by decide, by decide⟩
    | cons q ls =>
      rw [gVg_cons, gBg_cons]
      simp only [List.length_cons] at hl
      have hcons : (lnR q :: List.map lnR ls) = lns (q :: ls) := rfl
      generalize hqq : q :: ls = m at *
      have hml : ls.length + 1 = m.length := by rw [← hqq]; rfl
      have h0 : (0 : Int) < (m.length : Int) := by omega
      repeat' (first | refine AW.seq' ?_ | with_reducible refine AW.blockS rfl ?_ | ((first | refine AW.ops ?_ | refine AW.draw ?_ | refine AW.skip ?_ | refine AW.ret ?_ | refine AW.exit ?_ |  (refine SFn.call (n_ok hL (m.length : Int) (by omega)) rfl rfl (by assumption) (fun v p hp hv hb => ?_); obtain ⟨z, z0, z1, rfl⟩ := hv; obtain ⟨z, rfl⟩ := Int.eq_ofNat_of_zero_le z0)) <;> simp (disch := omega) only [RS, LS, SY, ne_eq, isFl, floatV, constA, thenQ, blockQ, pack, intA, boolA, eqA, unA, nilcA, asI, asB, asS, loadA, idxA, lenA, slcA, AV.flat, AV.one, zA1, storeA, toD, srcOf, copyA, ↓reduceIte, reduceCtorEq, List.replicate, Nat.reduceBEq, Nat.reduceAdd, Nat.reduceMul, Nat.reduceSub, Nat.reduceLeDiff, Nat.reduceLT, Int.reduceToNat, Nat.reduceEqDiff, Int.reduceEq, wrap_id, h0, @rowsA_lns m, ↓gVg_one, ↓gVg_flat]) | refine AW.condT rfl ?_ | refine AW.condF rfl ?_ | refine And.intro (by omega) ?_ | fail)
      have hzm : z < m.length := by omega
      have e : rowsA (lns (m.set z (m[z].1, m[z].1))) = (rowsA (List.map lnR m)).set z [AI .i64 m[z].1.1, AI .i64 m[z].1.2, AI .i64 m[z].1.1, AI .i64 m[z].1.2] := by simp [rowsA, List.map_set, lnR]
      exact fin (by assumption) rfl (cmp_g (by decide) FP rfl) (cmp_o (R := lns (m.set z (m[z].1, m[z].1))) (by decide) ⟨_, rfl, by rw [List.length_set]; omega⟩ (by simp) (by rw [e]; rfl)) (cmp_g (by decide) FG rfl) ⟨by decide, by decide, by decide⟩
  · -- two parts change places
    cases ps with
    | nil =>
      rw [gVg_nil, gBg_nil]
      have h0 : ¬ (1 : Int) < ((0 : Nat) : Int) := by decide
      repeat' (first | refine AW.seq' ?_ | with_reducible refine AW.blockS rfl ?_ | ((first | refine AW.ops ?_ | refine AW.draw ?_ | refine AW.skip ?_ | refine AW.ret ?_ | refine AW.exit ?_) <;> simp (disch := omega) only [RS, LS, SY, ne_eq, isFl, floatV, constA, thenQ, blockQ, pack, intA, boolA, eqA, unA, nilcA, asI, asB, asS, loadA, idxA, lenA, slcA, AV.flat, AV.one, zA1, storeA, toD, srcOf, copyA, ↓reduceIte, reduceCtorEq, List.replicate, Nat.reduceBEq, Nat.reduceAdd, Nat.reduceMul, Nat.reduceSub, Nat.reduceLeDiff, Nat.reduceLT, Int.reduceToNat, Nat.reduceEqDiff, Int.reduceEq, wrap_id, h0, ↓gVg_one, ↓gVg_flat]) | refine AW.condT rfl ?_ | refine AW.condF rfl ?_ | refine And.intro (by omega) ?_ | fail)
      exact fin (a := 3) (by assumption) rfl ⟨.inl ⟨[], ⟨[], rfl, by simp⟩, .inr (.inr ⟨rfl, rfl⟩)⟩, .inl rfl⟩ (cmp_g (by decide) FL rfl) (cmp_g (by decide) FG rfl) ⟨by decide, by decide, by decide⟩
    | cons q ps =>
      rw [gVg_cons, gBg_cons]
      cases ps with
      | nil =>
        have h0 : ¬ (1 : Int) < ((1 : Nat) : Int) := by decide
        repeat' (first | refine AW.seq' ?_ | with_reducible refine AW.blockS rfl ?_ | ((first | refine AW.ops ?_ | refine AW.draw ?_ | refine AW.skip ?_ | refine AW.ret ?_ | refine AW.exit ?_) <;> simp (disch := omega) only [RS, LS, SY, ne_eq, isFl, floatV, constA, thenQ, blockQ, pack, intA, boolA, eqA, unA, nilcA, asI, asB, asS, loadA, idxA, lenA, slcA, AV.flat, AV.one, zA1, storeA, toD, srcOf, copyA, ↓reduceIte, reduceCtorEq, List.replicate, Nat.reduceBEq, Nat.reduceAdd, Nat.reduceMul, Nat.reduceSub, Nat.reduceLeDiff, Nat.reduceLT, Int.reduceToNat, Nat.reduceEqDiff, Int.reduceEq, wrap_id, h0, ↓gVg_one, ↓gVg_flat]) | refine AW.condT rfl ?_ | refine AW.condF rfl ?_ | refine And.intro (by omega) ?_ | fail)
        exact fin (by assumption) rfl (cmp_o (R := pts [q]) (by decide) ⟨[q], rfl, by simp⟩ rfl rfl) (cmp_g (by decide) FL rfl) (cmp_g (by decide) FG rfl) ⟨by decide, by decide, by decide⟩
      | cons r ps =>
        simp only [List.length_cons] at hp
        have h0 : (1 : Int) < ((ps.length + 1 + 1 : Nat) : Int) := by omega
        repeat' (first | refine AW.seq' ?_ | with_reducible refine AW.blockS rfl ?_ | ((first | refine AW.ops ?_ | refine AW.draw ?_ | refine AW.skip ?_ | refine AW.ret ?_ | refine AW.exit ?_) <;> simp (disch := omega) only [RS, LS, SY, ne_eq, isFl, floatV, constA, thenQ, blockQ, pack, intA, boolA, eqA, unA, nilcA, asI, asB, asS, loadA, idxA, lenA, slcA, AV.flat, AV.one, zA1, storeA, toD, srcOf, copyA, ↓reduceIte, reduceCtorEq, List.replicate, Nat.reduceBEq, Nat.reduceAdd, Nat.reduceMul, Nat.reduceSub, Nat.reduceLeDiff, Nat.reduceLT, Int.reduceToNat, Nat.reduceEqDiff, Int.reduceEq, wrap_id, h0, ↓gVg_one, ↓gVg_flat]) | refine AW.condT rfl ?_ | refine AW.condF rfl ?_ | refine And.intro (by omega) ?_ | fail)
        exact fin (by assumption) rfl (cmp_o (R := pts (r :: q :: ps)) (by decide) ⟨_, rfl, by simp; omega⟩ (by simp) rfl) (cmp_g (by decide) FL rfl) (cmp_g (by decide) FG rfl) ⟨by decide, by decide, by decide⟩
  · -- the first part goes
    cases ps with
    | nil =>
      rw [gVg_nil, gBg_nil]
      have h0 : ¬ (0 : Int) < ((0 : Nat) : Int) := by decide
      repeat' (first | refine AW.seq' ?_ | with_reducible refine AW.blockS rfl ?_ | ((first | refine AW.ops ?_ | refine AW.draw ?_ | refine AW.skip ?_ | refine AW.ret ?_ | refine AW.exit ?_) <;> simp (disch := omega) only [RS, LS, SY, ne_eq, isFl, floatV, constA, thenQ, blockQ, pack, intA, boolA, eqA, unA, nilcA, asI, asB, asS, loadA, idxA, lenA, slcA, AV.flat, AV.one, zA1, storeA, toD, srcOf, copyA, ↓reduceIte, reduceCtorEq, List.replicate, Nat.reduceBEq, Nat.reduceAdd, Nat.reduceMul, Nat.reduceSub, Nat.reduceLeDiff, Nat.reduceLT, Int.reduceToNat, Nat.reduceEqDiff, Int.reduceEq, wrap_id, h0, ↓gVg_one, ↓gVg_flat]) | refine AW.condT rfl ?_ | refine AW.condF rfl ?_ | refine And.intro (by omega) ?_ | fail)
      exact fin (a := 3) (by assumption) rfl ⟨.inl ⟨[], ⟨[], rfl, by simp⟩, .inr (.inr ⟨rfl, rfl⟩)⟩, .inl rfl⟩ (cmp_g (by decide) FL rfl) (cmp_g (by decide) FG rfl) ⟨by decide, by decide, by decide⟩
    | cons q ps =>
      rw [gVg_cons, gBg_cons]
      simp only [List.length_cons] at hp
      have h0 : (0 : Int) < ((ps.length + 1 : Nat) : Int) := by omega
      repeat' (first | refine AW.seq' ?_ | with_reducible refine AW.blockS rfl ?_ | ((first | refine AW.ops ?_ | refine AW.draw ?_ | refine AW.skip ?_ | refine AW.ret ?_ | refine AW.exit ?_) <;> simp (disch := omega) only [RS, LS, SY, ne_eq, isFl, floatV, constA, thenQ, blockQ, pack, intA, boolA, eqA, unA, nilcA, asI, asB, asS, loadA, idxA, lenA, slcA, AV.flat, AV.one, zA1, storeA, toD, srcOf, copyA, ↓reduceIte, reduceCtorEq, List.replicate, Nat.reduceBEq, Nat.reduceAdd, Nat.reduceMul, Nat.reduceSub, Nat.reduceLeDiff, Nat.reduceLT, Int.reduceToNat, Nat.reduceEqDiff, Int.reduceEq, wrap_id, h0, ↓gVg_one, ↓gVg_flat]) | refine AW.condT rfl ?_ | refine AW.condF rfl ?_ | refine And.intro (by omega) ?_ | fail)
      exact fin (a := 3) (by assumption) rfl ⟨.inr ⟨3, 1, _, pts (q :: ps), by decide, rfl, rfl, by simp; omega, ⟨ps, by simp [List.take_of_length_le], by omega⟩⟩, .inr rfl⟩ (cmp_g (by decide) FL rfl) (cmp_g (by decide) FG rfl) ⟨by decide, by decide, by decide⟩
set_option maxRecDepth 100000 in
set_option maxHeartbeats 16000000 in
theorem bent_ok {L : List Int} (hL : L.length ≤ 600) (ps : List Pt) (ls : List Ln) (gs : List Gr) (hp : ps.length ≤ 100) (hl : ls.length ≤ 100) (hg : gs.length ≤ 100) (hgl : ∀ g ∈ gs, g.2.length ≤ 100) : SFn Try.prog SRC L 20 [ADs ps ls (grs gs)] VBt := by
  intro p hpL
  refine bt_fn (ACalls.of fn20 (by simp) ?_)
  unfold c20
  rcases ps with _ | ⟨x, ps⟩ <;> rcases ls with _ | ⟨y, ls⟩ <;> rcases gs with _ | ⟨z, gs⟩
  all_goals
    have hp' := hp
    have hl' := hl
    have hg' := hg
    simp only [List.length_cons, List.length_nil] at hp' hl' hg'
    iterate 4 (refine AW.seq' (AW.ops ?_); simp only [RS, LS, SY, ne_eq, isFl, floatV, constA, thenQ, blockQ, pack, intA, boolA, eqA, unA, nilcA, asI, asB, asS, loadA, idxA, lenA, slcA, AV.flat, AV.one, zA1, storeA, toD, srcOf, copyA, ↓reduceIte, reduceCtorEq, List.replicate, Nat.reduceBEq, Nat.reduceAdd, Nat.reduceMul, Nat.reduceSub, Nat.reduceLeDiff, Nat.reduceLT, Int.reduceToNat, Nat.reduceEqDiff, Int.reduceEq]; try refine And.intro (by omega) ?_)
  · refine AW.nrm [0, 1, 2, 90, 91, 92] ?_ (bent_tail (ps := []) (ls := []) (gs := []) hL hp hl hg hgl hpL)
    exact ⟨rfl, by decide, rfl, by simp [NT, belA, belL, tget, renA, renL, nmL], ⟨⟨rfl, rfl⟩, ⟨⟨rfl, rfl⟩, ⟨⟨rfl, rfl⟩, trivial⟩⟩⟩⟩
  · refine AW.nrm [0, 1, 2, 90, 91, 3] ?_ (bent_tail (ps := []) (ls := []) (gs := (z :: gs)) hL hp hl hg hgl hpL)
    exact ⟨rfl, by decide, rfl, by simp [NT, belA, belL, tget, renA, renL, nmL], ⟨⟨rfl, rfl⟩, ⟨⟨rfl, rfl⟩, ⟨⟨rfl, rfl⟩, ⟨⟨belB_rowsA _ _ _ (grs (z :: gs)), by rw [renB_rowsA]; rfl⟩, trivial⟩⟩⟩⟩⟩
  · refine AW.nrm [0, 1, 2, 90, 3, 92] ?_ (bent_tail (ps := []) (ls := (y :: ls)) (gs := []) hL hp hl hg hgl hpL)
    exact ⟨rfl, by decide, rfl, by simp [NT, belA, belL, tget, renA, renL, nmL], ⟨⟨rfl, rfl⟩, ⟨⟨rfl, rfl⟩, ⟨⟨rfl, rfl⟩, ⟨⟨belB_rowsA _ _ _ (lns (y :: ls)), by rw [renB_rowsA]; rfl⟩, trivial⟩⟩⟩⟩⟩
  · refine AW.nrm [0, 1, 2, 90, 3, 4] ?_ (bent_tail (ps := []) (ls := (y :: ls)) (gs := (z :: gs)) hL hp hl hg hgl hpL)
    exact ⟨rfl, by decide, rfl, by simp [NT, belA, belL, tget, renA, renL, nmL], ⟨⟨rfl, rfl⟩, ⟨⟨rfl, rfl⟩, ⟨⟨rfl, rfl⟩, ⟨⟨belB_rowsA _ _ _ (lns (y :: ls)), by rw [renB_rowsA]; rfl⟩, ⟨⟨belB_rowsA _ _ _ (grs (z :: gs)), by rw [renB_rowsA]; rfl⟩, trivial⟩⟩⟩⟩⟩⟩
  · refine AW.nrm [0, 1, 2, 3, 91, 92] ?_ (bent_tail (ps := (x :: ps)) (ls := []) (gs := []) hL hp hl hg hgl hpL)
    exact ⟨rfl, by decide, rfl, by simp [NT, belA, belL, tget, renA, renL, nmL], ⟨⟨rfl, rfl⟩, ⟨⟨rfl, rfl⟩, ⟨⟨rfl, rfl⟩, ⟨⟨belB_rowsA _ _ _ (pts (x :: ps)), by rw [renB_rowsA]; rfl⟩, trivial⟩⟩⟩⟩⟩
  · refine AW.nrm [0, 1, 2, 3, 91, 4] ?_ (bent_tail (ps := (x :: ps)) (ls := []) (gs := (z :: gs)) hL hp hl hg hgl hpL)
    exact ⟨rfl, by decide, rfl, by simp [NT, belA, belL, tget, renA, renL, nmL], ⟨⟨rfl, rfl⟩, ⟨⟨rfl, rfl⟩, ⟨⟨rfl, rfl⟩, ⟨⟨belB_rowsA _ _ _ (pts (x :: ps)), by rw [renB_rowsA]; rfl⟩, ⟨⟨belB_rowsA _ _ _ (grs (z :: gs)), by rw [renB_rowsA]; rfl⟩, trivial⟩⟩⟩⟩⟩⟩
  · refine AW.nrm [0, 1, 2, 3, 4, 92] ?_ (bent_tail (ps := (x :: ps)) (ls := (y :: ls)) (gs := []) hL hp hl hg hgl hpL)
    exact ⟨rfl, by decide, rfl, by simp [NT, belA, belL, tget, renA, renL, nmL], ⟨⟨rfl, rfl⟩, ⟨⟨rfl, rfl⟩, ⟨⟨rfl, rfl⟩, ⟨⟨belB_rowsA _ _ _ (pts (x :: ps)), by rw [renB_rowsA]; rfl⟩, ⟨⟨belB_rowsA _ _ _ (lns (y :: ls)), by rw [renB_rowsA]; rfl⟩, trivial⟩⟩⟩⟩⟩⟩
  · refine AW.nrm [0, 1, 2, 3, 4, 5] ?_ (bent_tail (ps := (x :: ps)) (ls := (y :: ls)) (gs := (z :: gs)) hL hp hl hg hgl hpL)
    exact ⟨rfl, by decide, rfl, by simp [NT, belA, belL, tget, renA, renL, nmL], ⟨⟨rfl, rfl⟩, ⟨⟨rfl, rfl⟩, ⟨⟨rfl, rfl⟩, ⟨⟨belB_rowsA _ _ _ (pts (x :: ps)), by rw [renB_rowsA]; rfl⟩, ⟨⟨belB_rowsA _ _ _ (lns (y :: ls)), by rw [renB_rowsA]; rfl⟩, ⟨⟨belB_rowsA _ _ _ (grs (z :: gs)), by rw [renB_rowsA]; rfl⟩, trivial⟩⟩⟩⟩⟩⟩⟩
end Go.Proofs.Ytkgeadhnagnloaa.H
