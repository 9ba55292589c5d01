/- 'dynpos/dynposlaw01.ArithExact': the walk; both sides make the same calls. -/
import Derived.Test.YtkhlgjdfdifoeaaArithS
import Derived.Test.YtkhlgjdfdifoeaaSrc
namespace Go.Proofs.Ytkhlgjdfdifoeaa.arithExact
open Go.RowKit Ev
def hints : FuncId → Nat → Option Hint := fun f u => if f = 7 then (match u with
  | 0 => some { id := 0, ps := [.tmp 35], rg := [(0, 6)], me := .sub (.lit 6) (.v 0) }
  | 2 => some { id := 2, ps := [.tmp 59], rg := [(0, 6)], me := .sub (.lit 6) (.v 0) }
  | 4 => some { id := 4, ps := [.tmp 145], rg := [(0, 6)], me := .sub (.lit 6) (.v 0) }
  | _ => none) else none
abbrev fl : List (E × Int × Int) := [(.v 2, (-9223372036854775808), 9223372036854775807), (.v 3, (-9223372036854775808), 9223372036854775807), (.v 4, (-9223372036854775808), 9223372036854775807)]
theorem tree_triv : (evFn Try.prog (rowCtx arithTab hints) 100 12 7 [.sls 0 (.v 0) (.v 1), .int .i64 (.v 2), .int .i64 (.v 3), .int .i64 (.v 4)] [] (rowFx fl) 5).triv = true := by kernel_rfl
theorem walk (a0 : Option Addr) (len0 cap0 : Nat) (z0 : List Int) (a1 : Int) (a2 : Int) (a3 : Int) (w : World) (w0 : IsRow .i64 w a0 len0 cap0 z0) (w1 : (Lit.int .i64 a1).wf = true) (w2 : (Lit.int .i64 a2).wf = true) (w3 : (Lit.int .i64 a3).wf = true) :
    Calls Try.prog 7 #[.slice a0 len0 cap0, .int .i64 a1, .int .i64 a2, .int .i64 a3] w fun e w' => e = .returned (.bool true) ∧ Below w.heap.size w w' :=
  row_triv w0 arithTab_ok (by kernel_rfl) tree_triv (r := [a1, a2, a3]) rfl (fxCons (wf_bd w1) (fxCons (wf_bd w2) (fxCons (wf_bd w3) (fxNil _)))) rfl
end Go.Proofs.Ytkhlgjdfdifoeaa.arithExact
