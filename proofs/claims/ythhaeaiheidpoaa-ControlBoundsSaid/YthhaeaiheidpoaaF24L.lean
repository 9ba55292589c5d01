/- Gains: what is checked, and the contract's shape. -/
import Derived.Test.YthhaeaiheidpoaaF24D
set_option linter.unusedSimpArgs false
set_option linter.unusedVariables false
namespace Go.Proofs.Ythhaeaiheidpoaa
open Ev
def inG (x m : Int) : Bool := decide (0 ≤ x ∧ x ≤ m)
/-- Whether gains are valid: 0, or the error. -/
def chkS (a b c d e f g h i : Int) : Int := if 0 ≤ a ∧ a ≤ 100000 ∧ 0 ≤ b ∧ b ≤ 100000 ∧ 0 ≤ c ∧ c ≤ 100000 ∧ 0 ≤ d ∧ d ≤ 100000 ∧ 0 ≤ e ∧ e ≤ 100000 ∧ 0 ≤ f ∧ f ≤ 100000 ∧ 0 ≤ g ∧ g ≤ 10000000 ∧ 0 ≤ h ∧ h ≤ 5000 ∧ 0 ≤ i ∧ i ≤ 500000 then 0 else 62
def gChk (l : List Int) : List Int := [chkS (l.getD 0 0) (l.getD 1 0) (l.getD 2 0) (l.getD 3 0) (l.getD 4 0) (l.getD 5 0) (l.getD 6 0) (l.getD 7 0) (l.getD 8 0)]
abbrev gns : Sh := .agg [some .i64, some .i64, some .i64, some .i64, some .i64, some .i64, some .i64, some .i64, some .i64]
def cChk : PC := { args := [gns], res := [i64], key := 23, dom := [r64, r64, r64, r64, r64, r64, r64, r64, r64], rng := [(0, 62)] }
end Go.Proofs.Ythhaeaiheidpoaa
