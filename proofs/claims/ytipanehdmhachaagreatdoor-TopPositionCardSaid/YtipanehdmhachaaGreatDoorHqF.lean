/- Chapter 10: one reference alone. -/
import Derived.Test.YtipanehdmhachaaGreatDoorHqG
set_option linter.unusedSimpArgs false
set_option linter.unusedVariables false
set_option linter.unusedSectionVars false
namespace Go.Proofs.YtipanehdmhachaaGreatDoor.H
variable [DR]
/-- A track with one fix, good until it is stale. -/
def trk (r : Rf) (f : Fx) (k : Int) : Tk := ⟨f, f, true, 1, if k - f.t < r.st then 1 else 2⟩
end Go.Proofs.YtipanehdmhachaaGreatDoor.H
