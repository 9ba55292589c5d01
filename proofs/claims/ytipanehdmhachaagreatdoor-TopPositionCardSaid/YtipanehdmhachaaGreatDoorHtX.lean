/- TopPosition: what the seven laid variables give. -/
import Derived.Test.YtipanehdmhachaaGreatDoorHvX
import Derived.LaidSub
import Derived.Lay
set_option linter.unusedSimpArgs false
set_option linter.unusedVariables false
set_option linter.unusedSectionVars false
namespace Go.Proofs.YtipanehdmhachaaGreatDoor.H
variable [DR]
def laid7 : List (String × DataW Unit) := [("math/bits.deBruijn32tab", Rows.laid_math_bits_deBruijn32tab), ("math/bits.deBruijn64tab", Rows.laid_math_bits_deBruijn64tab), ("internal/strconv.uint64pow10", Rows.laid_internal_strconv_uint64pow10), ("unicode/utf8.acceptRanges", Rows.laid_unicode_utf8_acceptRanges), ("strconv.ErrRange", Rows.laid_strconv_ErrRange), ("strconv.ErrSyntax", Rows.laid_strconv_ErrSyntax), ("unicode/utf8.first", Rows.laid_unicode_utf8_first)]
def keep2 : String × DataW Unit → Bool := fun x => x.1 == "math/bits.deBruijn32tab" || x.1 == "math/bits.deBruijn64tab"
theorem keep_eq : laid7.filter keep2 = laid2 := by kernel_rfl
theorem gl_of7 {W : World} (h : laidMetH Tryz.prog laid7 W) : GL W fun b => b < W.heap.size := gl_of (by have := h.filter keep2; rwa [keep_eq] at this)
theorem all_met (os : Os) (args : Array Value) : laidMetH Tryz.prog laid7 ((World.laidAll Tryz.prog os laid7).forCall (fun _ _ => 0) ⟨#[], args, []⟩).memory := by
  rw [MakeChecks.laidMetH_plain _ _ _ (by kernel_rfl)]
  exact laidMet_laidAll _ (by kernel_rfl) (by kernel_rfl)
end Go.Proofs.YtipanehdmhachaaGreatDoor.H
