/- The sanity check of TopPosition, run: behind the telegrams. -/
import Derived.Test.YtipanehdmhachaaGreatDoorHtW
set_option linter.unusedSimpArgs false
set_option linter.unusedVariables false
set_option linter.unusedSectionVars false
set_option maxRecDepth 1000000
namespace Go.Proofs.YtipanehdmhachaaGreatDoor.H
namespace X
theorem e4 : x4 = some (.fl .ret t4.1 t4.2) := by kernel_rfl
theorem res4 : resL t4.1 t4.2 [.tmp 0] = some (True ∧ True, [AB true]) := by
  have h : tget t4.1 0 = some (AB true) := by kernel_rfl
  simp only [resL, resV, h]
end X
end Go.Proofs.YtipanehdmhachaaGreatDoor.H
