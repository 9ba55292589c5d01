/- TopPosition: the law. -/
import Derived.Test.YtipanehdmhachaaGreatDoorHtY
import Derived.Test.YtipanehdmhachaaGreatDoorHtP
set_option linter.unusedSimpArgs false
set_option linter.unusedVariables false
set_option linter.unusedSectionVars false
namespace Go.Proofs.YtipanehdmhachaaGreatDoor.H
theorem awake_fn : @Fn X.noDR Tryz.prog 11 [] (AB true) := @ACalls.take X.noDR _ _ _ _ _ _ X.awake_ok fun r s' h1 => ⟨by rw [h1]; rfl, fun i b hi => by simp at hi, h1, by simp⟩
theorem top_law (t : List Int) : @ACalls X.noDR Tryz.prog 3 [LI t] [] fun v _ => v = AB true := @top_walk X.noDR awake_fn t
end Go.Proofs.YtipanehdmhachaaGreatDoor.H
