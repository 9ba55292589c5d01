/- EstimateLoses. -/
import Derived.Test.YtipanehdmhachaaGreatDoorHqF
import Derived.Test.YtipanehdmhachaaGreatDoorHvC
set_option linter.unusedSimpArgs false
set_option linter.unusedVariables false
set_option linter.unusedSectionVars false
namespace Go.Proofs.YtipanehdmhachaaGreatDoor.H
variable [DR]
def VFt (time : Int) (f : Fx) : Prop := f.t = time ∧ f.x ∈ [0, 0, 1, 20, -30, 1000] ∧ f.y ∈ [0, 0, 5, -20] ∧ f.e ∈ [1, 10, 50, 200]
theorem VFt.small {time : Int} {f : Fx} (h : VFt time f) : f.t = time ∧ -1000 ≤ f.x ∧ f.x ≤ 1000 ∧ -1000 ≤ f.y ∧ f.y ≤ 1000 ∧ 1 ≤ f.e ∧ f.e ≤ 200 := by
  obtain ⟨h0, h1, h2, h3⟩ := h
  simp only [List.mem_cons, List.not_mem_nil, or_false] at h1 h2 h3
  omega
theorem VFt.va {time : Int} {f : Fx} (h : VFt time f) (h0 : 0 ≤ time) (h1 : time ≤ 2147483648) : vaF f = true := by
  have := h.small
  rw [vaF_iff]; omega
theorem VFt.ok {time : Int} {f : Fx} (h : VFt time f) : okP f.x f.y = true := by
  have := h.small
  simp [okP]; omega
set_option maxHeartbeats 8000000 in
set_option maxRecDepth 8000 in
abbrev r10 : Rf := ⟨0, 1000, 2, 0⟩
def stN (a : Nat) : Int := if a ≤ 1 then 1 else 2
def esL (f : Fx) (sp : Int) (a : Nat) : Es := ⟨f.x, f.y, f.e + sp * (a : Int), ((a + 1 : Nat) : Int), stN a⟩
abbrev lL : AV := .ful 4 [[D.v (Value.int IntKind.i64 0), D.v (Value.int IntKind.i64 1000), D.v (Value.int IntKind.i64 2), D.v (Value.int IntKind.i64 0)]]
abbrev loT (f : Fx) (sp : Int) (n a : Nat) : Tm := [(17, AI .i64 ((a + 2 : Nat) : Int)), (16, AI .i64 n), (6, lL), (7, AI .i64 sp), (8, LT [trk r10 f ((a + 1 : Nat) : Int)]), (9, .ptr 0 0 0), (11, .ptr 1 0 0), (14, .ptr 2 0 0), (15, LT [trk r10 f 1])]
abbrev loS (f : Fx) (sp : Int) (a : Nat) : St := [some (.cells 35 5 [[AI .i64 (esL f sp a).x, AI .i64 (esL f sp a).y, AI .i64 (esL f sp a).b, AI .i64 (esL f sp a).t, AI .i64 (esL f sp a).s]]), some (.cells 58 4 [[AI .i64 f.t, AI .i64 f.x, AI .i64 f.y, AI .i64 f.e]]), some (.cells 35 5 [[AI .i64 f.x, AI .i64 f.y, AI .i64 f.e, AI .i64 1, AI .i64 1]])]
end Go.Proofs.YtipanehdmhachaaGreatDoor.H
