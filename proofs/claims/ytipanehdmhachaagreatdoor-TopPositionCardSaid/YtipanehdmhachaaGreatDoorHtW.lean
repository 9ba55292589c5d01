/- The sanity check of TopPosition, run. -/
import Derived.Test.YtipanehdmhachaaGreatDoorHtG
import Derived.Lib.SlBytesConst
set_option linter.unusedSimpArgs false
set_option linter.unusedVariables false
set_option linter.unusedSectionVars false
set_option maxRecDepth 1000000
namespace Go.Proofs.YtipanehdmhachaaGreatDoor.H
namespace X
section
variable [DR] {P : Program} {N m : Nat} {T : Tm} {s : St} {Q : Fl → Tm → St → Prop}
def AWk (P : Program) (N m : Nat) (code : Code) (T : Tm) (s : St) (Q : Fl → Tm → St → Prop) : Prop := ∀ w K β a, Fr N w K β s T a → m ≤ s.length → code.wp P (After N m w K β s Q) a w
theorem AWk.of {code : Code} {c : Cd} (hc : comp P N code = some c) (h : AW P N m c T s Q) : AWk P N m code T s Q := h code hc
theorem AWk.seq {x y : Code} (h : AWk P N m x T s (thenQ (fun T s => AWk P N m y T s Q) Q)) : AWk P N m (.seq x y) T s Q := by
  intro w K β a hf hm
  refine wp_seq (wp_mono (h w K β a hf hm) fun e a' w' ⟨fl, T', s', K', β', e1, e2, e3, e4⟩ => ?_)
  subst e1
  cases fl with
  | normal => exact wp_mono (e2 w' K' β' a' e3 e4.len) (After.trans e4)
  | ret => exact ⟨.ret, T', s', K', β', rfl, e2, e3, e4⟩
  | exit id => exact ⟨.exit id, T', s', K', β', rfl, e2, e3, e4⟩
theorem ofk {f : FuncId} {fn : Func} {code : Code} {rs : List RC} (h1 : P.funcs[f]? = some fn) (h2 : fn.body = some code) (h4 : rcsOf P fn.results.toList = some rs) {vs : List AV} {Q : AV → St → Prop} (hN : vs.length ≤ fn.ntmps) (h : AWk P fn.ntmps s.length code (argT 0 vs) s (callQ rs Q)) : ACalls P f vs s Q := by
  intro w K β us hz hr
  have hul := RL_length hr
  refine calls_of_wp h1 h2 (wp_mono (h w K β _ ⟨hz, fun i v hv => ?_, by simp; omega, rfl⟩ (Nat.le_refl _)) ?_)
  · obtain ⟨_, hv⟩ := argT_get hv
    obtain ⟨u, g1, g2⟩ := RL_get hr hv
    have hlt := (List.getElem?_eq_some_iff.1 g1).1
    refine ⟨u, ?_, g2⟩
    rw [Array.getElem?_append_left (by simpa using hlt)]
    simpa using g1
  · rintro e a' w' ⟨fl, T', s', K', β', rfl, hq, hfr, hx⟩
    have fin : RetQ rs Q T' s' → (a'.defers = [] ∧ ∃ v, (results fn a'.tmps).run P w' = .ok v w' ∧ ∃ v0 s0 K0 β0 u, Ending.returned v = .returned u ∧ Q v0 s0 ∧ Cz w' K0 β0 s0 ∧ R w' K0 β0 s0.length v0 u ∧ Ext s.length w K β s w' K0 β0 s0) := by
      intro hret
      unfold RetQ at hret
      split at hret
      · rename_i C l hl
        obtain ⟨us', e1, e2⟩ := resL_ok (P := P) hfr.cz hfr.rt h4 hl hret.1
        refine ⟨hfr.df, ?_⟩
        have hm : (fn.results.mapM (rsem a'.tmps)).run P w' = .ok us'.toArray w' := by
          rw [Array.mapM_eq_mapM_toList]
          simp only [Sem.run_map, e1, Result.andThen_ok]
        have hul' := RL_length e2
        match l, us', e2, hul' with
        | [v], [u], e2, _ =>
          simp only [RL] at e2
          obtain ⟨u', _, hu, hR, rfl⟩ := e2
          simp only [List.cons.injEq, and_true] at hu; subst hu
          exact ⟨u, by simp only [results_eq, Sem.run_bind, hm, Result.andThen_ok]; simp, v, s', K', β', u, rfl, hret.2, hfr.cz, hR, hx⟩
        | [], [], e2, _ => exact ⟨.tuple #[], by simp only [results_eq, Sem.run_bind, hm, Result.andThen_ok]; simp, .tup [], s', K', β', _, rfl, hret.2, hfr.cz, by simp only [R]; exact ⟨[], rfl, e2⟩, hx⟩
        | x :: y :: l, u :: v :: us, e2, _ => exact ⟨.tuple (u :: v :: us).toArray, by simp only [results_eq, Sem.run_bind, hm, Result.andThen_ok]; simp, .tup (x :: y :: l), s', K', β', _, rfl, hret.2, hfr.cz, by simp only [R]; exact ⟨_, rfl, e2⟩, hx⟩
      · exact hret.elim
    cases fl with
    | normal => exact fin hq
    | ret => exact fin hq
    | exit id => exact hq.elim
/-- '[]byte("..")': a literal, and its mark; what comes behind in the region. -/
theorem mark {ops : Array Oper} {id d0 d1 t e n : Nat} {o0 o1 : Oper} {bs : List UInt8} {l : List Ins} (h0 : ops[0]? = some o0) (h1 : ops[1]? = some o1) (g0 : o0.guard = none) (g1 : o1.guard = none) (k0 : o0.dst = some d0) (k1 : o1.dst = some d1) (hd0 : d0 < N) (hd1 : d1 < N)
    (op1 : o1.op = .convert t t (.tmp d0)) (ht : P.underlying t = some (.slice e)) (he : P.underlying e = some (.int .u8)) (hb : bs ≠ [])
    (run0 : ∀ (a : Act) (w : World), (execOp a.eval o0).run P w = .ok (.value (.slice (some ⟨w.heap.size, 0, none⟩) bs.length bs.length)) (w.alloc (.cells (bs.map fun b => Value.int .u8 b.toNat).toArray e)))
    (hsz : ops.size = n + 2) (hl : ∀ p ∈ (List.range' 2 n).zip l, ∃ o, ops[p.1]? = some o ∧ insOf P N ops o = some p.2) (hll : l.length = n)
    (hr : RunI P l (tput (some d1) (.ful 1 (bs.map byR)) (tput (some d0) (.d (.lst 1 (bs.map byR))) T)) s (Q .normal)) : AWk P N m (.region id ops false) T s Q := by
  intro w K β a hf hm
  refine wp_region ?_
  have hrange : List.range ops.size = 0 :: 1 :: List.range' 2 n := by
    rw [hsz, List.range_eq_range', List.range'_succ, List.range'_succ]
  rw [hrange]
  let C : Array Value := (bs.map fun b => Value.int .u8 b.toNat).toArray
  let u : Value := .slice (some ⟨w.heap.size, 0, none⟩) bs.length bs.length
  let w2 : World := w.alloc (.cells C e (C.size, C.size + 1))
  have want : ∀ (o : Oper) (y : Nat → Option Bool), o.guard = none → Region.wanted o y = true := fun o y h => by simp [Region.wanted, h]
  simp only [wpOps, h0]
  rw [if_pos (want _ _ g0)]
  refine .inl ?_
  unfold Oper.wp
  rw [run0 a w]
  simp only [Oper.upon, wpOps, h1]
  rw [if_pos (want _ _ g1)]
  refine .inl ?_
  have hev : (a.put o0.dst u).eval (.tmp d0) = u := by
    have hlt : d0 < a.tmps.size := by rw [hf.sz]; exact hd0
    simp [Act.eval, Act.put, k0, hlt]
  have run1 : (execOp (a.put o0.dst u).eval o1).run P (w.alloc (.cells C e)) = .ok (.value u) w2 := by
    obtain ⟨dst, op, ty, pos, aft, grd⟩ := o1
    simp only at op1
    subst op1
    show (do pure (Next.value (← convert t t ((a.put o0.dst u).eval (.tmp d0)))) : Sem Next).run P _ = _
    rw [hev]
    simp only [Sem.run_bind, Go.Lib.run_convert_bytes_const w t e C bs.length bs.length ht he, Result.andThen_ok, Sem.run_pure, u, w2]
  change o1.upon P (a.put o0.dst u) (wpOps P ops (After N m w K β s Q) (List.range' 2 n)) (After N m w K β s Q) ((execOp (a.put o0.dst u).eval o1).run P (w.alloc (.cells C e)))
  rw [run1]
  change wpOps P ops (After N m w K β s Q) (List.range' 2 n) ((a.put o0.dst u).put o1.dst u) w2
  obtain ⟨c1, c2⟩ := hf.cz.frozB (w' := w2) (o := .cells C e (C.size, C.size + 1)) rfl ⟨rfl, rfl, rfl, fun _ => Nat.le_refl _⟩
  have hlen : (bs.map byR).length = bs.length := List.length_map ..
  have hrow : RRows w2 (fun b => K b ∨ b = w.heap.size) 1 (bs.map byR) ⟨w.heap.size, 0, none⟩ := by
    refine RRows_of fun i r hi => ?_
    rw [List.getElem?_map, Option.map_eq_some_iff] at hi
    obtain ⟨b, hb, rfl⟩ := hi
    refine ⟨rfl, ?_⟩
    simp only [byR, RCells, RD]
    rw [Nat.mul_one, add_addr, Nat.zero_add]
    refine ⟨.inr rfl, ⟨.int .u8 b.toNat, ?_, rfl, rfl⟩, trivial⟩
    have hget : C[i]? = some (.int .u8 b.toNat) := by simp [C, hb]
    have hp : w2.heap = w.heap.push (.cells C e (C.size, C.size + 1)) := rfl
    unfold World.cell?
    rw [hp]
    simp [hget]
  have hR : R w2 (fun b => K b ∨ b = w.heap.size) β s.length (.d (.lst 1 (bs.map byR))) u := by
    simp only [R, RD, u]
    exact ⟨_, _, by rw [hlen], by rw [hlen]; exact Nat.le_refl _, .inr ⟨_, rfl, hrow⟩⟩
  have hR2 : R w2 (fun b => K b ∨ b = w.heap.size) β s.length (.ful 1 (bs.map byR)) u := by
    simp only [R, u]
    exact ⟨_, by rw [hlen], .inr ⟨_, rfl, hrow⟩⟩
  have hf2 : RT w2 (fun b => K b ∨ b = w.heap.size) β s.length (tput o0.dst (.d (.lst 1 (bs.map byR))) T) (a.put o0.dst u) := RT_put (by rw [k0, hf.sz]; simp [okDst, hd0]) hf.rt hf.cz c2 hR
  have hsz1 : (a.put o0.dst u).tmps.size = N := by rw [put_size]; exact hf.sz
  have hf3 : RT w2 (fun b => K b ∨ b = w.heap.size) β s.length (tput o1.dst (.ful 1 (bs.map byR)) (tput o0.dst (.d (.lst 1 (bs.map byR))) T)) ((a.put o0.dst u).put o1.dst u) := RT_put (by rw [k1, hsz1]; simp [okDst, hd1]) hf2 c1 (.refl (Nat.le_refl _)) hR2
  rw [k0, k1] at hf3
  have e1 : ((List.range' 2 n).zip l).map (·.1) = List.range' 2 n := by rw [List.map_fst_zip]; simp [hll]
  have e2 : ((List.range' 2 n).zip l).map (·.2) = l := by rw [List.map_snd_zip]; simp [hll]
  have := runI_ok (P := P) (N := N) (ops := ops) (m := m) (w0 := w) (K0 := K) (β0 := β) (s0 := s) (Q := Q) ((List.range' 2 n).zip l) hl (by rw [e2]; exact hr) (w := w2) (a := ((a.put o0.dst u).put o1.dst u)) ⟨c1, by rw [k0, k1]; exact hf3, by rw [put_size]; exact hsz1, by rw [put_defers', put_defers']; exact hf.df⟩ (by
    have := c2
    exact { size := c2.size, io := c2.io, fix := fun i hi => c2.fix i (by omega), len := by omega, frame := c2.frame, kmono := c2.kmono, knew := c2.knew, onew := c2.onew })
  rw [e1] at this
  exact this
theorem hl_of {ops : Array Oper} {n : Nat} {l : List Ins} (hsz : ops.size = n + 2) (h : insL P N ops (ops.toList.drop 2) = some l) : l.length = n ∧ ∀ p ∈ (List.range' 2 n).zip l, ∃ o, ops[p.1]? = some o ∧ insOf P N ops o = some p.2 := by
  obtain ⟨q1, q2⟩ := insL_get h
  have hn : l.length = n := by rw [q1, List.length_drop, Array.length_toList]; omega
  refine ⟨hn, fun p hp => ?_⟩
  obtain ⟨j, hj⟩ := List.getElem?_of_mem hp
  rw [List.getElem?_zip_eq_some] at hj
  obtain ⟨h1, h2⟩ := hj
  obtain ⟨o, ho, hi⟩ := q2 j p.2 h2
  have hlt := (List.getElem?_eq_some_iff.1 h1).1
  rw [List.length_range'] at hlt
  rw [List.getElem?_range' hlt] at h1
  simp only [Option.some.injEq] at h1
  rw [List.getElem?_drop] at ho
  exact ⟨o, by rw [← h1, Nat.one_mul, ← Array.getElem?_toList]; exact ho, hi⟩
theorem bslice_run {T el k n : Nat} {z : List Value} (hu : P.underlying T = some (.slice el)) (hs : sizeT P el = some k) (hz0 : zeroOf P el = some z) (hc : n * k ≤ 16777216 ∧ z.length = k ∧ 0 < k)
    {a : Act} {w : World} {ps : Array (Nat × Operand)} {qs : List (Nat × Nat × Operand)} {rs : List (Nat × Nat × AV)} {cs : List AV}
    (hq : putP (fun i => some (i * k, k)) ps.toList = some qs) (hr : opdP [] qs = some rs) (hf : fillA ((List.replicate n (zeroA z)).flatten) rs = some cs) (hn : n * k ≠ 0) :
    ∃ us, (Instr.buildSlice T n (ps.map fun (i, x) => (i, a.eval x))).run P w = .ok (.slice (some ⟨w.heap.size, 0, none⟩) n n) (w.alloc (.cells us.toArray el)) ∧ RL w (fun _ => False) loc0 0 cs us := by
  obtain ⟨i, zv, hi, hzv, hzc, h1⟩ := zeroOf_info hz0
  obtain ⟨us, e1, e2⟩ := fillA_ok (w := w) (K := fun _ => False) (β := loc0) (n := 0) (T := []) (a := a) (fun i v h => by cases h) ps.toList qs rs _ cs _ hq hr hf (RL_zeros hz0 n)
  have hlim : ¬ (n * k > 2 ^ 24) := by omega
  have hps : (ps.map fun (i, x) => (i, a.eval x)).toList = ps.toList.map fun p => (p.1, a.eval p.2) := by simp
  have hzr : ∀ w, (zeroValue el).run P w = .ok zv w := fun w => by simp [zeroValue, typeInfo, hi, hzv]
  have hm := made_arr hc.2.1 hc.2.2 n
  rw [← hzc] at hm
  refine ⟨us, ?_, e2⟩
  simp only [Instr.buildSlice, Sem.run_bind, run_underlying hu, Result.andThen_ok, run_sizeOf hs, if_neg hlim, Sem.run_pure, if_neg hn, hzr, hm, hps, e1]
  simp [newRow]
theorem RL_bytes {w : World} {K : Nat → Prop} {β : Nat → Loc} : ∀ {bs : List UInt8} {us : List Value}, RL w K β 0 (bs.map fun b => AI .u8 b.toNat) us → us = bs.map fun b => Value.int .u8 b.toNat
  | [], us, h => by simpa [RL] using h
  | b :: bs, us, h => by
    simp only [List.map_cons, RL, R, RD] at h
    obtain ⟨u, us', e, ⟨rfl, -⟩, h⟩ := h
    rw [e, RL_bytes h]; rfl
end
/-! ### The run -/
noncomputable def qa : Code → Code
  | .seq a _ => a
  | c => c
noncomputable def qb : Code → Code
  | .seq _ b => b
  | c => c
noncomputable def b11 : Code := match Tryz.f11.body with
  | some c => c
  | none => .skip
noncomputable def p0 : Code := qa b11
noncomputable def p1 : Code := qa (qb b11)
noncomputable def p2 : Code := qa (qb (qb b11))
noncomputable def p3 : Code := qa (qb (qb (qb b11)))
noncomputable def p4 : Code := qb (qb (qb (qb b11)))
theorem body_eq : Tryz.f11.body = some (.seq p0 (.seq p1 (.seq p2 (.seq p3 p4)))) := by kernel_rfl
noncomputable def cc (c : Code) : Cd := (comp Tryz.prog 93 c).getD .skip
theorem ntm : Tryz.f11.ntmps = 93 := by kernel_rfl
theorem cc0 : comp Tryz.prog 93 p0 = some (cc p0) := by kernel_rfl
theorem cc1 : comp Tryz.prog 93 p1 = some (cc p1) := by kernel_rfl
theorem cc2 : comp Tryz.prog 93 p2 = some (cc p2) := by kernel_rfl
theorem cc4 : comp Tryz.prog 93 p4 = some (cc p4) := by kernel_rfl
noncomputable def nx (r : Option Res) : Tm × St := match r with
  | some (.fl .normal T s) => (T, s)
  | _ => ([], [])
noncomputable def x0 : Option Res := exec Tryz.prog GT 5000 (.code (cc p0) [] [])
noncomputable def t0 : Tm × St := nx x0
theorem e0 : x0 = some (.fl .normal t0.1 t0.2) := by kernel_rfl
noncomputable def x1 : Option Res := exec Tryz.prog GT 5000 (.code (cc p1) t0.1 t0.2)
noncomputable def t1 : Tm × St := nx x1
theorem e1 : x1 = some (.fl .normal t1.1 t1.2) := by kernel_rfl
noncomputable def x2 : Option Res := exec Tryz.prog GT 5000 (.code (cc p2) t1.1 t1.2)
noncomputable def t2 : Tm × St := nx x2
theorem e2 : x2 = some (.fl .normal t2.1 t2.2) := by kernel_rfl
noncomputable def ops3 : Array Oper := match p3 with
  | .region _ ops _ => ops
  | _ => #[]
noncomputable def id3 : Nat := match p3 with
  | .region id _ _ => id
  | _ => 0
theorem hp3 : p3 = .region id3 ops3 false := by kernel_rfl
noncomputable def o30 : Oper := ops3.getD 0 default
noncomputable def o31 : Oper := ops3.getD 1 default
noncomputable def bsG : List UInt8 := [103, 97, 114, 98, 97, 103, 101]
noncomputable def l3 : List Ins := (insL Tryz.prog 93 ops3 (ops3.toList.drop 2)).getD []
theorem hl3 : insL Tryz.prog 93 ops3 (ops3.toList.drop 2) = some l3 := by kernel_rfl
noncomputable def ps3 : Array (Nat × Operand) := match o30.op with
  | .buildSlice _ _ ps => ps
  | _ => #[]
noncomputable def qs3 : List (Nat × Nat × Operand) := (putP (fun i => some (i * 1, 1)) ps3.toList).getD []
noncomputable def rs3 : List (Nat × Nat × AV) := (opdP [] qs3).getD []
theorem run30 (a : Act) (w : World) : (execOp a.eval o30).run Tryz.prog w = .ok (.value (.slice (some ⟨w.heap.size, 0, none⟩) bsG.length bsG.length)) (w.alloc (.cells (bsG.map fun b => Value.int .u8 b.toNat).toArray 5)) := by
  obtain ⟨us, h1, h2⟩ := bslice_run (P := Tryz.prog) (T := 70) (el := 5) (k := 1) (n := 7) (z := [.int .u8 0]) (a := a) (w := w) (ps := ps3) (qs := qs3) (rs := rs3) (cs := bsG.map fun b => AI .u8 b.toNat) (by kernel_rfl) (by kernel_rfl) (by kernel_rfl) (by decide) (by kernel_rfl) (by kernel_rfl) (by kernel_rfl) (by decide)
  have h3 := RL_bytes h2
  subst h3
  have e : o30.op = .buildSlice 70 7 ps3 := by kernel_rfl
  have : execOp a.eval o30 = (do pure (Next.value (← Instr.buildSlice 70 7 (ps3.map fun (i, x) => (i, a.eval x))))) := by
    unfold execOp
    rw [e]
  rw [this]
  simp only [Sem.run_bind, h1, Result.andThen_ok, Sem.run_pure]
  rfl
noncomputable def T3 : Tm := tput (some 29) (.ful 1 (bsG.map byR)) (tput (some 28) (.d (.lst 1 (bsG.map byR))) t2.1)
noncomputable def x3 : Option Res := exec Tryz.prog GT 20000 (.ins l3 T3 t2.2)
noncomputable def t3 : Tm × St := nx x3
theorem e3 : x3 = some (.fl .normal t3.1 t3.2) := by kernel_rfl
noncomputable def x4 : Option Res := exec Tryz.prog GT 20000 (.code (cc p4) t3.1 t3.2)
noncomputable def t4 : Tm × St := match x4 with
  | some (.fl .ret T s) => (T, s)
  | _ => ([], [])
end X
end Go.Proofs.YtipanehdmhachaaGreatDoor.H
