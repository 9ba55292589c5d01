/- The sanity check of TopPosition, run: the end. -/
import Derived.Test.YtipanehdmhachaaGreatDoorHtB
set_option linter.unusedSimpArgs false
set_option linter.unusedVariables false
set_option linter.unusedSectionVars false
set_option maxRecDepth 1000000
namespace Go.Proofs.YtipanehdmhachaaGreatDoor.H
namespace X
theorem run_code {n : Nat} {c : Cd} {T T' : Tm} {s s' : St} {fl : Fl} (h : exec Tryz.prog GT n (.code c T s) = some (.fl fl T' s')) {N m : Nat} {Q : Fl → Tm → St → Prop} (hq : Q fl T' s') : AW Tryz.prog N m c T s Q := exec_ok GT_ok _ _ _ h _ _ _ hq
theorem run_ins {n : Nat} {l : List Ins} {T T' : Tm} {s s' : St} (h : exec Tryz.prog GT n (.ins l T s) = some (.fl .normal T' s')) {Q : Tm → St → Prop} (hq : Q T' s') : RunI Tryz.prog l T s Q := (exec_ok GT_ok _ _ _ h Q).2 hq
structure RunH (l : List Ins) (T : Tm) (s : St) (Q : Tm → St → Prop) : Prop where
  run : RunI Tryz.prog l T s Q
theorem goIns {n : Nat} {l : List Ins} {T T' : Tm} {s s' : St} (h : exec Tryz.prog GT n (.ins l T s) = some (.fl .normal T' s')) {F : Tm → St → Prop} {G : Fl → Tm → St → Prop} (hq : F T' s') : RunH l T s (thenQ F G .normal) := ⟨run_ins h hq⟩
theorem g0 : exec Tryz.prog GT 5000 (.code (cc p0) [] []) = some (.fl .normal t0.1 t0.2) := e0
theorem g1 : exec Tryz.prog GT 5000 (.code (cc p1) t0.1 t0.2) = some (.fl .normal t1.1 t1.2) := e1
theorem g2 : exec Tryz.prog GT 5000 (.code (cc p2) t1.1 t1.2) = some (.fl .normal t2.1 t2.2) := e2
theorem g3 : exec Tryz.prog GT 20000 (.ins l3 (tput (some 29) (.ful 1 (bsG.map byR)) (tput (some 28) (.d (.lst 1 (bsG.map byR))) t2.1)) t2.2) = some (.fl .normal t3.1 t3.2) := e3
theorem g4 : exec Tryz.prog GT 20000 (.code (cc p4) t3.1 t3.2) = some (.fl .ret t4.1 t4.2) := e4
theorem ret4 : callQ [RC.tmp 0] (fun r (_ : St) => r = AB true) .ret t4.1 t4.2 := by
  simp only [callQ, RetQ, res4]
  exact ⟨⟨trivial, trivial⟩, rfl⟩
theorem w4 : AWk Tryz.prog 93 0 p4 t3.1 t3.2 (callQ [RC.tmp 0] fun r _ => r = AB true) := AWk.of cc4 (run_code g4 ret4)
theorem size3 : ops3.size = 8 + 2 := by kernel_rfl
theorem get30 : ops3[0]? = some o30 := by kernel_rfl
theorem get31 : ops3[1]? = some o31 := by kernel_rfl
theorem gd30 : o30.guard = none := by kernel_rfl
theorem gd31 : o31.guard = none := by kernel_rfl
theorem ds30 : o30.dst = some 28 := by kernel_rfl
theorem ds31 : o31.dst = some 29 := by kernel_rfl
theorem op31 : o31.op = .convert 70 70 (.tmp 28) := by kernel_rfl
theorem un70 : Tryz.prog.underlying 70 = some (.slice 5) := by kernel_rfl
theorem un5 : Tryz.prog.underlying 5 = some (.int .u8) := by kernel_rfl
theorem bs0 : bsG ≠ [] := by simp [bsG]
theorem mark3 {l : List Ins} (hl : insL Tryz.prog 93 ops3 (ops3.toList.drop 2) = some l) {T : Tm} {s : St} {Q : Fl → Tm → St → Prop} (hr : RunH l (tput (some 29) (.ful 1 (bsG.map byR)) (tput (some 28) (.d (.lst 1 (bsG.map byR))) T)) s (Q .normal)) : AWk Tryz.prog 93 0 (.region id3 ops3 false) T s Q :=
  mark get30 get31 gd30 gd31 ds30 ds31 (by decide) (by decide) op31 un70 un5 bs0 run30 size3 (hl_of size3 hl).2 (hl_of size3 hl).1 hr.run
theorem h3 : RunH l3 (tput (some 29) (.ful 1 (bsG.map byR)) (tput (some 28) (.d (.lst 1 (bsG.map byR))) t2.1)) t2.2 (thenQ (fun T s => AWk Tryz.prog 93 0 p4 T s (callQ [RC.tmp 0] fun r _ => r = AB true)) (callQ [RC.tmp 0] fun r _ => r = AB true) .normal) := goIns g3 w4
theorem k3 : AWk Tryz.prog 93 0 (.region id3 ops3 false) t2.1 t2.2 (thenQ (fun T s => AWk Tryz.prog 93 0 p4 T s (callQ [RC.tmp 0] fun r _ => r = AB true)) (callQ [RC.tmp 0] fun r _ => r = AB true)) := mark3 hl3 h3
theorem w3 : AWk Tryz.prog 93 0 p3 t2.1 t2.2 (thenQ (fun T s => AWk Tryz.prog 93 0 p4 T s (callQ [RC.tmp 0] fun r _ => r = AB true)) (callQ [RC.tmp 0] fun r _ => r = AB true)) := by
  rw [hp3]
  exact k3
theorem w2 : AWk Tryz.prog 93 0 p2 t1.1 t1.2 (thenQ (fun T s => AWk Tryz.prog 93 0 (.seq p3 p4) T s (callQ [RC.tmp 0] fun r _ => r = AB true)) (callQ [RC.tmp 0] fun r _ => r = AB true)) := AWk.of cc2 (run_code g2 (AWk.seq w3))
theorem w1 : AWk Tryz.prog 93 0 p1 t0.1 t0.2 (thenQ (fun T s => AWk Tryz.prog 93 0 (.seq p2 (.seq p3 p4)) T s (callQ [RC.tmp 0] fun r _ => r = AB true)) (callQ [RC.tmp 0] fun r _ => r = AB true)) := AWk.of cc1 (run_code g1 (AWk.seq w2))
theorem w0 : AWk Tryz.prog 93 0 p0 [] [] (thenQ (fun T s => AWk Tryz.prog 93 0 (.seq p1 (.seq p2 (.seq p3 p4))) T s (callQ [RC.tmp 0] fun r _ => r = AB true)) (callQ [RC.tmp 0] fun r _ => r = AB true)) := AWk.of cc0 (run_code g0 (AWk.seq w1))
/-- The sanity check says that all is well. -/
theorem awake_ok : ACalls Tryz.prog 11 [] [] fun r _ => r = AB true := by
  refine ofk Tryz.func11 body_eq (rs := [.tmp 0]) (by kernel_rfl) (by simp) ?_
  rw [ntm]
  exact AWk.seq w0
end X
end Go.Proofs.YtipanehdmhachaaGreatDoor.H
