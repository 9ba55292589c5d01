/- Package arith and its reference: the contracts' shapes. -/
import Derived.Test.YtejklpbiieofoaaPlain
import Derived.Test.YtejklpbiieofoaaEvH
set_option linter.unusedSimpArgs false
set_option linter.unusedVariables false
namespace Go.Proofs.Ytejklpbiieofoaa
open Ev
abbrev i64 : Sh := .one (some .i64)
abbrev boolS : Sh := .one none
abbrev r64 : Int × Int := (-9223372036854775808, 9223372036854775807)
abbrev rM : Int × Int := (-1000000000000000000, 1000000000000000000)
def cFloor : PC := { args := [i64, i64], res := [i64, i64], key := 0, dom := [r64, r64], rng := [rM, (0, 1)] }
def cHalf : PC := { args := [i64, i64], res := [i64, i64], key := 1, dom := [r64, r64], rng := [rM, (0, 1)] }
def cUp : PC := { args := [i64, i64], res := [i64, i64], key := 2, dom := [r64, r64], rng := [rM, (0, 1)] }
def cMod : PC := { args := [i64, i64], res := [i64, i64], key := 3, dom := [r64, r64], rng := [(0, 999999999), (0, 1)] }
def cRoot : PC := { args := [i64], res := [i64, i64], key := 4, dom := [r64], rng := [(0, 1000000000), (0, 1)] }
def cClamp : PC := { args := [i64, i64, i64], res := [i64], key := 5, dom := [r64, r64, r64], rng := [r64] }
def cNear : PC := { args := [i64, i64, i64], res := [i64], key := 6, dom := [r64, r64, r64], rng := [r64] }
/-- 'sane': no arguments, true. -/
def cSane : PC := { args := [], res := [boolS], key := 7, dom := [], rng := [(1, 1)] }
def a0 (l : List Int) : Int := l.getD 0 0
def a1 (l : List Int) : Int := l.getD 1 0
def a2 (l : List Int) : Int := l.getD 2 0
def gFloor (l : List Int) : List Int := [floorS (a0 l) (a1 l), divE (a0 l) (a1 l)]
def gHalf (l : List Int) : List Int := [halfS (a0 l) (a1 l), divE (a0 l) (a1 l)]
def gUp (l : List Int) : List Int := [upS (a0 l) (a1 l), divE (a0 l) (a1 l)]
def gMod (l : List Int) : List Int := [modS (a0 l) (a1 l), divE (a0 l) (a1 l)]
def gRoot (l : List Int) : List Int := [rootS (a0 l), rootE (a0 l)]
def gClamp (l : List Int) : List Int := [clampS (a0 l) (a1 l) (a2 l)]
def gNear (l : List Int) : List Int := [nearS (a0 l) (a1 l) (a2 l)]
def gSane (_ : List Int) : List Int := [1]
end Go.Proofs.Ytejklpbiieofoaa
