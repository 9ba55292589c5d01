/- Chapter 8: compact code. -/
import Derived.Test.YtnbfcknhohdeeaaDoorKaC
import Derived.Test.YtnbfcknhohdeeaaDoorRows
set_option linter.unusedSimpArgs false
set_option linter.unusedVariables false
set_option maxRecDepth 100000
namespace Go.Proofs.YtnbfcknhohdeeaaDoor.H
/-! 'dynpos/dynposlaw08.VoteAgrees' -/
def c3_0 : Cd :=
(.block 1
 (.seq (.ops [.f (some 59) none (.iaddr 1 none (.tmp 55) (.tmp 57)),
   .f (some 60) none (.load none (.tmp 59)),
   .k (some 11) none (.asg (.tmp 60))])
 (.seq (.ops [.f (some 61) none (.mv (.tmp 3)),
   .k (some 62) none (.call 10 [(.tmp 61), (.const (.int .i64 2))]),
   .f (some 63) none (.bin .eql (.tmp 62) (.const (.int .i64 1)))])
 (.cond (.tmp 63)
  (.ops [.f (some 64) none (.mv (.tmp 9)),
    .f (some 65) none (.mv (.tmp 11)),
    .k (some 66) none (.bslice 3 1 1 [(.int .i64 0)] [(0, 1, (.tmp 65))]),
    .k (some 67) none (.append 3 1 8 (.tmp 64) (.tmp 66)),
    .k (some 9) none (.asg (.tmp 67))])
  .skip))))
def c3 : Cd :=
(.seq (.ops [.k (some 2) none (.asg (.const (.bool false)))])
(.seq (.ops [.f (some 12) none (.mv (.tmp 0)),
  .k (some 13) none (.call 8 [(.tmp 12)]),
  .k (some 3) none (.asg (.tmp 13))])
(.seq (.ops [.f (some 14) none (.mv (.tmp 3)),
  .k (some 15) none (.call 9 [(.tmp 14), (.const (.int .i64 0))]),
  .f (some 16) none (.mv (.tmp 3)),
  .k (some 17) none (.call 9 [(.tmp 16), (.const (.int .i64 0))]),
  .k (some 4) none (.alloc 26 [(.int .i64 0), (.int .i64 0), (.int .i64 0), (.int .i64 0)]),
  .k (some 5) none (.alloc 26 [(.int .i64 0), (.int .i64 0), (.int .i64 0), (.int .i64 0)]),
  .k none none (.store 4 (.tmp 4) (.tmp 15)),
  .k none none (.store 4 (.tmp 5) (.tmp 17))])
(.seq (.ops [.f (some 18) none (.load (some 4) (.tmp 4)),
  .k (some 6) none (.alloc 26 [(.int .i64 0), (.int .i64 0), (.int .i64 0), (.int .i64 0)]),
  .k none none (.store 4 (.tmp 6) (.tmp 18))])
(.seq (.opd [⟨0, .f (some 19) none (.faddr 3 (.tmp 6)), []⟩,
  ⟨1, .f (some 20) none (.load none (.tmp 19)), []⟩,
  ⟨2, .f (some 21) none (.mv (.tmp 3)), []⟩,
  ⟨3, .k (some 22) none (.call 10 [(.tmp 21), (.const (.int .i64 100))]), [.f (some 20) none (.load none (.tmp 19))]⟩,
  ⟨4, .f (some 23) none (.bin .add (.tmp 20) (.tmp 22)), []⟩,
  ⟨5, .f (some 24) none (.faddr 3 (.tmp 6)), []⟩,
  ⟨6, .k none none (.store 1 (.tmp 24) (.tmp 23)), []⟩])
(.seq (.seq (.opd [⟨0, .f (some 25) none (.load (some 4) (.tmp 4)), []⟩,
  ⟨1, .f (some 26) none (.load (some 4) (.tmp 5)), []⟩,
  ⟨3, .f (some 28) none (.load (some 4) (.tmp 5)), []⟩,
  ⟨4, .f (some 29) none (.load (some 4) (.tmp 4)), []⟩,
  ⟨2, .k (some 27) none (.call 11 [(.tmp 25), (.tmp 26)]), [.f (some 28) none (.load (some 4) (.tmp 5)), .f (some 29) none (.load (some 4) (.tmp 4))]⟩,
  ⟨5, .k (some 30) none (.call 11 [(.tmp 28), (.tmp 29)]), []⟩,
  ⟨6, .f (some 31) none (.binb .neq (.tmp 27) (.tmp 30)), []⟩,
  ⟨7, .f (some 32) none (.mv (.tmp 31)), []⟩,
  ⟨8, .f (some 33) (some (32, false)) (.load (some 4) (.tmp 4)), []⟩,
  ⟨9, .f (some 34) (some (32, false)) (.load (some 4) (.tmp 5)), []⟩,
  ⟨10, .k (some 35) (some (32, false)) (.call 11 [(.tmp 33), (.tmp 34)]), []⟩,
  ⟨11, .f (some 36) (some (32, false)) (.mv (.tmp 35)), []⟩,
  ⟨12, .f (some 37) (some (36, true)) (.load (some 4) (.tmp 6)), []⟩,
  ⟨13, .f (some 38) (some (36, true)) (.load (some 4) (.tmp 5)), []⟩,
  ⟨14, .k (some 39) (some (36, true)) (.call 11 [(.tmp 37), (.tmp 38)]), []⟩,
  ⟨15, .f (some 40) (some (36, true)) (.un .not (.tmp 39)), []⟩,
  ⟨16, .f (some 41) (some (32, false)) (.pick (.tmp 36) (.tmp 40) (.const (.bool false))), []⟩,
  ⟨17, .f (some 42) none (.pick (.tmp 32) (.const (.bool true)) (.tmp 41)), []⟩,
  ⟨18, .f (some 43) none (.mv (.tmp 42)), []⟩,
  ⟨19, .f (some 44) (some (43, false)) (.load (some 4) (.tmp 4)), []⟩,
  ⟨20, .f (some 45) (some (43, false)) (.load (some 4) (.tmp 4)), []⟩,
  ⟨21, .k (some 46) (some (43, false)) (.call 11 [(.tmp 44), (.tmp 45)]), []⟩,
  ⟨22, .f (some 47) (some (43, false)) (.un .not (.tmp 46)), []⟩,
  ⟨23, .f (some 48) none (.pick (.tmp 43) (.const (.bool true)) (.tmp 47)), []⟩])
(.cond (.tmp 48)
 (.seq (.ops [.k (some 2) none (.asg (.const (.bool false)))])
 .ret)
 .skip))
(.seq (.ops [.f (some 49) none (.mv (.tmp 3)),
  .k (some 50) none (.call 12 [(.tmp 49), (.const (.int .i64 6))]),
  .k (some 7) none (.asg (.tmp 50))])
(.seq (.ops [.f (some 51) none (.mv (.tmp 3)),
  .f (some 52) none (.mv (.tmp 7)),
  .f (some 53) none (.len (.tmp 52)),
  .k (some 54) none (.call 13 [(.tmp 51), (.tmp 53), (.const (.int .i64 2))]),
  .k (some 8) none (.asg (.tmp 54))])
(.seq (.ops [.k (some 9) none (.asg (.const (.slice none 0 0)))])
(.seq (.seq (.ops [.f (some 55) none (.mv (.tmp 8)),
  .f (some 56) none (.len (.tmp 55)),
  .f (some 57) none (.mv (.const (.int .i64 0)))])
(rangeC 0 57 56 58 68 c3_0))
(.seq (.ops [.f (some 69) none (.mv (.tmp 7)),
  .f (some 70) none (.mv (.tmp 8)),
  .k (some 71) none (.call 14 [(.tmp 69), (.tmp 70)]),
  .f (some 72) none (.un .not (.tmp 71)),
  .f (some 73) none (.mv (.tmp 72)),
  .f (some 74) (some (73, false)) (.mv (.tmp 7)),
  .f (some 75) (some (73, false)) (.mv (.tmp 9)),
  .k (some 76) (some (73, false)) (.call 14 [(.tmp 74), (.tmp 75)]),
  .f (some 77) none (.pick (.tmp 73) (.const (.bool true)) (.tmp 76)),
  .f (some 78) none (.mv (.tmp 77)),
  .f (some 79) (some (78, true)) (.mv (.tmp 7)),
  .k (some 80) (some (78, true)) (.call 14 [(.tmp 79), (.const (.slice none 0 0))]),
  .f (some 81) none (.pick (.tmp 78) (.tmp 80) (.const (.bool false))),
  .f (some 82) none (.mv (.tmp 81)),
  .k (some 83) (some (82, true)) (.call 15 []),
  .f (some 84) none (.pick (.tmp 82) (.tmp 83) (.const (.bool false))),
  .k (some 2) none (.asg (.tmp 84))])
.ret)))))))))))
theorem fn3 : FnOK Tryd.prog 3 85 c3 [.tmp 2] := .of (by kernel_rfl)
/-! 'dynpos/dynposlaw08.VoteRight' -/
def c4_0 : Cd :=
(.seq (.seq (.ops [.f (some 19) none (.mv (.tmp 7)),
  .f (some 20) none (.mv (.tmp 4)),
  .f (some 21) none (.bin .lss (.tmp 19) (.tmp 20))])
(.cond (.tmp 21)
 .skip
 (.exit 0)))
(.seq (.block 1
 (.seq (.ops [.f (some 24) none (.mv (.tmp 3)),
   .k (some 25) none (.bslice 3 1 3 [(.int .i64 0)] [(0, 1, (.const (.int .i64 5))), (1, 1, (.const (.int .i64 20))), (2, 1, (.const (.int .i64 100)))]),
   .k (some 26) none (.call 17 [(.tmp 24), (.tmp 25)]),
   .k (some 8) none (.asg (.tmp 26))])
 (.ops [.f (some 27) none (.mv (.tmp 5)),
   .f (some 28) none (.mv (.tmp 3)),
   .f (some 29) none (.mv (.tmp 8)),
   .f (some 30) none (.un .neg (.tmp 29)),
   .f (some 31) none (.mv (.tmp 8)),
   .k (some 32) none (.call 16 [(.tmp 28), (.tmp 30), (.tmp 31)]),
   .f (some 33) none (.mv (.tmp 3)),
   .f (some 34) none (.mv (.tmp 8)),
   .f (some 35) none (.un .neg (.tmp 34)),
   .f (some 36) none (.mv (.tmp 8)),
   .k (some 37) none (.call 16 [(.tmp 33), (.tmp 35), (.tmp 36)]),
   .f (some 38) none (.mv (.tmp 8)),
   .f (some 39) none (.build [(.int .i64 0), (.int .i64 0), (.int .i64 0), (.int .i64 0)] [(1, 1, (.tmp 32)), (2, 1, (.tmp 37)), (3, 1, (.tmp 38))]),
   .k (some 40) none (.bslice 26 4 1 [(.int .i64 0), (.int .i64 0), (.int .i64 0), (.int .i64 0)] [(0, 4, (.tmp 39))]),
   .k (some 41) none (.append 26 4 32 (.tmp 27) (.tmp 40)),
   .f (some 42) none (.mv (.tmp 6)),
   .f (some 43) none (.mv (.tmp 7)),
   .k (some 44) none (.bslice 3 1 1 [(.int .i64 0)] [(0, 1, (.tmp 43))]),
   .k (some 45) none (.append 3 1 8 (.tmp 42) (.tmp 44)),
   .k (some 5) none (.asg (.tmp 41)),
   .k (some 6) none (.asg (.tmp 45))])))
(.ops [.f (some 22) none (.mv (.tmp 7)),
  .f (some 23) none (.bin .add (.tmp 22) (.const (.int .i64 1))),
  .k (some 7) none (.asg (.tmp 23))])))
def c4_1 : Cd :=
(.seq (.seq (.ops [.f (some 49) none (.mv (.tmp 9)),
  .f (some 50) none (.bin .gtr (.tmp 49) (.const (.int .i64 0)))])
(.cond (.tmp 50)
 .skip
 (.exit 2)))
(.seq (.block 3
 (.ops [.f (some 53) none (.mv (.tmp 5)),
   .f (some 54) none (.mv (.tmp 3)),
   .k (some 55) none (.call 10 [(.tmp 54), (.const (.int .i64 10))]),
   .f (some 56) none (.bin .add (.const (.int .i64 100000)) (.tmp 55)),
   .f (some 57) none (.mv (.tmp 3)),
   .k (some 58) none (.bslice 3 1 2 [(.int .i64 0)] [(0, 1, (.const (.int .i64 5))), (1, 1, (.const (.int .i64 20)))]),
   .k (some 59) none (.call 17 [(.tmp 57), (.tmp 58)]),
   .f (some 60) none (.build [(.int .i64 0), (.int .i64 0), (.int .i64 0), (.int .i64 0)] [(1, 1, (.tmp 56)), (3, 1, (.tmp 59))]),
   .k (some 61) none (.bslice 26 4 1 [(.int .i64 0), (.int .i64 0), (.int .i64 0), (.int .i64 0)] [(0, 4, (.tmp 60))]),
   .k (some 62) none (.append 26 4 32 (.tmp 53) (.tmp 61)),
   .f (some 63) none (.mv (.tmp 6)),
   .f (some 64) none (.mv (.tmp 4)),
   .f (some 65) none (.mv (.tmp 3)),
   .k (some 66) none (.call 10 [(.tmp 65), (.const (.int .i64 3))]),
   .f (some 67) none (.bin .add (.tmp 64) (.tmp 66)),
   .k (some 68) none (.bslice 3 1 1 [(.int .i64 0)] [(0, 1, (.tmp 67))]),
   .k (some 69) none (.append 3 1 8 (.tmp 63) (.tmp 68)),
   .k (some 5) none (.asg (.tmp 62)),
   .k (some 6) none (.asg (.tmp 69))]))
(.ops [.f (some 51) none (.mv (.tmp 9)),
  .f (some 52) none (.bin .sub (.tmp 51) (.const (.int .i64 1))),
  .k (some 9) none (.asg (.tmp 52))])))
def c4_2 : Cd :=
(.seq (.seq (.ops [.f (some 98) none (.mv (.tmp 14)),
  .f (some 99) none (.mv (.tmp 4)),
  .f (some 100) none (.bin .lss (.tmp 98) (.tmp 99))])
(.cond (.tmp 100)
 .skip
 (.exit 4)))
(.seq (.block 5
 (.ops [.f (some 103) none (.mv (.tmp 13)),
   .f (some 104) none (.mv (.tmp 14)),
   .k (some 105) none (.bslice 3 1 1 [(.int .i64 0)] [(0, 1, (.tmp 104))]),
   .k (some 106) none (.append 3 1 8 (.tmp 103) (.tmp 105)),
   .k (some 13) none (.asg (.tmp 106))]))
(.ops [.f (some 101) none (.mv (.tmp 14)),
  .f (some 102) none (.bin .add (.tmp 101) (.const (.int .i64 1))),
  .k (some 14) none (.asg (.tmp 102))])))
def c4 : Cd :=
(.seq (.ops [.k (some 2) none (.asg (.const (.bool false)))])
(.seq (.ops [.f (some 15) none (.mv (.tmp 0)),
  .k (some 16) none (.call 8 [(.tmp 15)]),
  .k (some 3) none (.asg (.tmp 16))])
(.seq (.ops [.f (some 17) none (.mv (.tmp 3)),
  .k (some 18) none (.call 16 [(.tmp 17), (.const (.int .i64 1)), (.const (.int .i64 4))]),
  .k (some 4) none (.asg (.tmp 18))])
(.seq (.ops [.k (some 5) none (.asg (.const (.slice none 0 0)))])
(.seq (.ops [.k (some 6) none (.asg (.const (.slice none 0 0)))])
(.seq (.seq (.ops [.k (some 7) none (.asg (.const (.int .i64 0)))])
(.block 0
 (.loop c4_0)))
(.seq (.seq (.ops [.f (some 46) none (.mv (.tmp 3)),
  .f (some 47) none (.mv (.tmp 4)),
  .k (some 48) none (.call 10 [(.tmp 46), (.tmp 47)]),
  .k (some 9) none (.asg (.tmp 48))])
(.block 2
 (.loop c4_1)))
(.seq (.opd [⟨0, .f (some 70) none (.mv (.tmp 6)), []⟩,
  ⟨1, .f (some 71) none (.mv (.tmp 4)), []⟩,
  ⟨2, .f (some 72) none (.slc 1 (.tmp 70) (some (.tmp 71)) none none), []⟩,
  ⟨3, .f (some 73) none (.mv (.tmp 6)), []⟩,
  ⟨4, .f (some 74) none (.len (.tmp 73)), []⟩,
  ⟨5, .f (some 75) none (.mv (.tmp 4)), []⟩,
  ⟨6, .f (some 76) none (.bin .sub (.tmp 74) (.tmp 75)), []⟩,
  ⟨7, .k (some 77) none (.call 19 [(.tmp 76)]), [.f (some 72) none (.slc 1 (.tmp 70) (some (.tmp 71)) none none)]⟩,
  ⟨8, .k (some 78) none (.call 18 [(.tmp 72), (.tmp 77)]), []⟩,
  ⟨9, .k (some 10) none (.asg (.tmp 78)), []⟩])
(.seq (.ops [.f (some 80) none (.mv (.tmp 6)),
  .f (some 81) none (.mv (.tmp 5)),
  .k (some 82) none (.call 20 [(.tmp 80), (.tmp 81)]),
  .f (some 79) none (.mv (.tmp 82)),
  .f (some 83) none (.extract 0 (.tmp 79)),
  .f (some 84) none (.extract 1 (.tmp 79)),
  .k (some 11) none (.alloc 41 [(.slice none 0 0), (.slice none 0 0), (.bool false)]),
  .k none none (.store 3 (.tmp 11) (.tmp 83)),
  .k (some 12) none (.asg (.tmp 84))])
(.seq (.seq (.ops [.f (some 85) none (.mv (.tmp 12)),
  .f (some 86) none (.bin .neq (.tmp 85) (.const (.int .i64 0))),
  .f (some 87) none (.mv (.tmp 86)),
  .f (some 88) (some (87, false)) (.mv (.tmp 10)),
  .f (some 89) (some (87, false)) (.len (.tmp 88)),
  .f (some 90) (some (87, false)) (.mv (.tmp 4)),
  .f (some 91) (some (87, false)) (.bin .geq (.tmp 89) (.tmp 90)),
  .f (some 92) none (.pick (.tmp 87) (.const (.bool true)) (.tmp 91))])
(.cond (.tmp 92)
 (.seq (.ops [.f (some 93) none (.mv (.tmp 12)),
   .f (some 94) none (.bin .eql (.tmp 93) (.const (.int .i64 0))),
   .f (some 95) none (.mv (.tmp 94)),
   .k (some 96) (some (95, true)) (.call 15 []),
   .f (some 97) none (.pick (.tmp 95) (.tmp 96) (.const (.bool false))),
   .k (some 2) none (.asg (.tmp 97))])
 .ret)
 .skip))
(.seq (.ops [.k (some 13) none (.asg (.const (.slice none 0 0)))])
(.seq (.seq (.ops [.k (some 14) none (.asg (.const (.int .i64 0)))])
(.block 4
 (.loop c4_2)))
(.seq (.ops [.f (some 107) none (.faddr 0 (.tmp 11)),
  .f (some 108) none (.load none (.tmp 107)),
  .f (some 109) none (.mv (.tmp 13)),
  .k (some 110) none (.call 21 [(.tmp 108), (.tmp 109)]),
  .f (some 111) none (.mv (.tmp 110)),
  .k (some 112) (some (111, true)) (.call 15 []),
  .f (some 113) none (.pick (.tmp 111) (.tmp 112) (.const (.bool false))),
  .k (some 2) none (.asg (.tmp 113))])
.ret)))))))))))))
theorem fn4 : FnOK Tryd.prog 4 114 c4 [.tmp 2] := .of (by kernel_rfl)
/-! 'dynpos/dynposlaw08.VoteOrder' -/
def c5_0 : Cd :=
(.seq (.seq (.ops [.f (some 27) none (.mv (.tmp 8)),
  .f (some 28) none (.bin .geq (.tmp 27) (.const (.int .i64 0)))])
(.cond (.tmp 28)
 .skip
 (.exit 0)))
(.seq (.block 1
 (.opd [⟨0, .f (some 31) none (.mv (.tmp 6)), []⟩,
   ⟨1, .f (some 32) none (.mv (.tmp 4)), []⟩,
   ⟨2, .f (some 33) none (.mv (.tmp 8)), []⟩,
   ⟨3, .f (some 34) none (.iaddr 4 none (.tmp 32) (.tmp 33)), []⟩,
   ⟨4, .f (some 35) none (.load (some 4) (.tmp 34)), []⟩,
   ⟨5, .k (some 36) none (.bslice 26 4 1 [(.int .i64 0), (.int .i64 0), (.int .i64 0), (.int .i64 0)] [(0, 4, (.tmp 35))]), []⟩,
   ⟨7, .f (some 38) none (.mv (.tmp 7)), []⟩,
   ⟨8, .f (some 39) none (.mv (.tmp 5)), []⟩,
   ⟨9, .f (some 40) none (.mv (.tmp 8)), []⟩,
   ⟨10, .f (some 41) none (.iaddr 1 none (.tmp 39) (.tmp 40)), []⟩,
   ⟨11, .f (some 42) none (.load none (.tmp 41)), []⟩,
   ⟨12, .k (some 43) none (.bslice 3 1 1 [(.int .i64 0)] [(0, 1, (.tmp 42))]), []⟩,
   ⟨6, .k (some 37) none (.append 26 4 32 (.tmp 31) (.tmp 36)), [.f (some 41) none (.iaddr 1 none (.tmp 39) (.tmp 40)), .f (some 42) none (.load none (.tmp 41))]⟩,
   ⟨13, .k (some 44) none (.append 3 1 8 (.tmp 38) (.tmp 43)), []⟩,
   ⟨14, .k (some 6) none (.asg (.tmp 37)), []⟩,
   ⟨15, .k (some 7) none (.asg (.tmp 44)), []⟩]))
(.ops [.f (some 29) none (.mv (.tmp 8)),
  .f (some 30) none (.bin .sub (.tmp 29) (.const (.int .i64 1))),
  .k (some 8) none (.asg (.tmp 30))])))
def c5 : Cd :=
(.seq (.ops [.k (some 2) none (.asg (.const (.bool false)))])
(.seq (.ops [.f (some 16) none (.mv (.tmp 0)),
  .k (some 17) none (.call 8 [(.tmp 16)]),
  .k (some 3) none (.asg (.tmp 17))])
(.seq (.ops [.f (some 18) none (.mv (.tmp 3)),
  .k (some 19) none (.call 12 [(.tmp 18), (.const (.int .i64 5))]),
  .k (some 4) none (.asg (.tmp 19))])
(.seq (.ops [.f (some 20) none (.mv (.tmp 3)),
  .f (some 21) none (.mv (.tmp 4)),
  .f (some 22) none (.len (.tmp 21)),
  .k (some 23) none (.call 22 [(.tmp 20), (.tmp 22)]),
  .k (some 5) none (.asg (.tmp 23))])
(.seq (.ops [.k (some 6) none (.asg (.const (.slice none 0 0)))])
(.seq (.ops [.k (some 7) none (.asg (.const (.slice none 0 0)))])
(.seq (.seq (.ops [.f (some 24) none (.mv (.tmp 4)),
  .f (some 25) none (.len (.tmp 24)),
  .f (some 26) none (.bin .sub (.tmp 25) (.const (.int .i64 1))),
  .k (some 8) none (.asg (.tmp 26))])
(.block 0
 (.loop c5_0)))
(.seq (.ops [.f (some 46) none (.mv (.tmp 5)),
  .f (some 47) none (.mv (.tmp 4)),
  .k (some 48) none (.call 20 [(.tmp 46), (.tmp 47)]),
  .f (some 45) none (.mv (.tmp 48)),
  .f (some 49) none (.extract 0 (.tmp 45)),
  .f (some 50) none (.extract 1 (.tmp 45)),
  .k (some 9) none (.alloc 41 [(.slice none 0 0), (.slice none 0 0), (.bool false)]),
  .k none none (.store 3 (.tmp 9) (.tmp 49)),
  .k (some 10) none (.asg (.tmp 50))])
(.seq (.ops [.f (some 52) none (.mv (.tmp 7)),
  .f (some 53) none (.mv (.tmp 6)),
  .k (some 54) none (.call 20 [(.tmp 52), (.tmp 53)]),
  .f (some 51) none (.mv (.tmp 54)),
  .f (some 55) none (.extract 0 (.tmp 51)),
  .f (some 56) none (.extract 1 (.tmp 51)),
  .k (some 11) none (.alloc 41 [(.slice none 0 0), (.slice none 0 0), (.bool false)]),
  .k none none (.store 3 (.tmp 11) (.tmp 55)),
  .k (some 12) none (.asg (.tmp 56))])
(.seq (.seq (.ops [.f (some 57) none (.mv (.tmp 10)),
  .f (some 58) none (.bin .neq (.tmp 57) (.const (.int .i64 0))),
  .f (some 59) none (.mv (.tmp 58)),
  .f (some 60) (some (59, false)) (.mv (.tmp 12)),
  .f (some 61) (some (59, false)) (.bin .neq (.tmp 60) (.const (.int .i64 0))),
  .f (some 62) none (.pick (.tmp 59) (.const (.bool true)) (.tmp 61)),
  .f (some 63) none (.mv (.tmp 62)),
  .f (some 64) (some (63, false)) (.faddr 2 (.tmp 9)),
  .f (some 65) (some (63, false)) (.load none (.tmp 64)),
  .f (some 66) (some (63, false)) (.faddr 2 (.tmp 11)),
  .f (some 67) (some (63, false)) (.load none (.tmp 66)),
  .f (some 68) (some (63, false)) (.binb .neq (.tmp 65) (.tmp 67)),
  .f (some 69) none (.pick (.tmp 63) (.const (.bool true)) (.tmp 68)),
  .f (some 70) none (.mv (.tmp 69)),
  .f (some 71) (some (70, false)) (.faddr 1 (.tmp 9)),
  .f (some 72) (some (70, false)) (.load none (.tmp 71)),
  .f (some 73) (some (70, false)) (.faddr 1 (.tmp 11)),
  .f (some 74) (some (70, false)) (.load none (.tmp 73)),
  .k (some 75) (some (70, false)) (.call 21 [(.tmp 72), (.tmp 74)]),
  .f (some 76) (some (70, false)) (.un .not (.tmp 75)),
  .f (some 77) none (.pick (.tmp 70) (.const (.bool true)) (.tmp 76))])
(.cond (.tmp 77)
 (.seq (.ops [.k (some 2) none (.asg (.const (.bool false)))])
 .ret)
 .skip))
(.seq (.seq (.ops [.f (some 78) none (.mv (.tmp 4)),
  .f (some 79) none (.len (.tmp 78)),
  .f (some 80) none (.bin .eql (.tmp 79) (.const (.int .i64 0)))])
(.cond (.tmp 80)
 (.seq (.ops [.k (some 81) none (.call 15 []),
   .k (some 2) none (.asg (.tmp 81))])
 .ret)
 .skip))
(.seq (.ops [.f (some 82) none (.mv (.tmp 3)),
  .f (some 83) none (.mv (.tmp 4)),
  .f (some 84) none (.len (.tmp 83)),
  .k (some 85) none (.call 10 [(.tmp 82), (.tmp 84)]),
  .k (some 13) none (.asg (.tmp 85))])
(.seq (.opd [⟨0, .f (some 87) none (.mv (.tmp 5)), []⟩,
  ⟨2, .f (some 89) none (.mv (.tmp 5)), []⟩,
  ⟨3, .f (some 90) none (.mv (.tmp 13)), []⟩,
  ⟨4, .f (some 91) none (.iaddr 1 none (.tmp 89) (.tmp 90)), []⟩,
  ⟨5, .f (some 92) none (.load none (.tmp 91)), []⟩,
  ⟨6, .k (some 93) none (.bslice 3 1 1 [(.int .i64 0)] [(0, 1, (.tmp 92))]), []⟩,
  ⟨8, .f (some 95) none (.mv (.tmp 4)), []⟩,
  ⟨10, .f (some 97) none (.mv (.tmp 4)), []⟩,
  ⟨11, .f (some 98) none (.mv (.tmp 13)), []⟩,
  ⟨12, .f (some 99) none (.iaddr 4 none (.tmp 97) (.tmp 98)), []⟩,
  ⟨13, .f (some 100) none (.load (some 4) (.tmp 99)), []⟩,
  ⟨14, .k (some 101) none (.bslice 26 4 1 [(.int .i64 0), (.int .i64 0), (.int .i64 0), (.int .i64 0)] [(0, 4, (.tmp 100))]), []⟩,
  ⟨1, .k (some 88) none (.append 3 1 8 (.const (.slice none 0 0)) (.tmp 87)), [.f (some 91) none (.iaddr 1 none (.tmp 89) (.tmp 90)), .f (some 92) none (.load none (.tmp 91)), .f (some 99) none (.iaddr 4 none (.tmp 97) (.tmp 98)), .f (some 100) none (.load (some 4) (.tmp 99))]⟩,
  ⟨7, .k (some 94) none (.append 3 1 8 (.tmp 88) (.tmp 93)), [.f (some 99) none (.iaddr 4 none (.tmp 97) (.tmp 98)), .f (some 100) none (.load (some 4) (.tmp 99))]⟩,
  ⟨9, .k (some 96) none (.append 26 4 32 (.const (.slice none 0 0)) (.tmp 95)), [.f (some 99) none (.iaddr 4 none (.tmp 97) (.tmp 98)), .f (some 100) none (.load (some 4) (.tmp 99))]⟩,
  ⟨15, .k (some 102) none (.append 26 4 32 (.tmp 96) (.tmp 101)), []⟩,
  ⟨16, .k (some 103) none (.call 20 [(.tmp 94), (.tmp 102)]), []⟩,
  ⟨17, .f (some 86) none (.mv (.tmp 103)), []⟩,
  ⟨18, .f (some 104) none (.extract 0 (.tmp 86)), []⟩,
  ⟨19, .f (some 105) none (.extract 1 (.tmp 86)), []⟩,
  ⟨20, .k (some 14) none (.alloc 41 [(.slice none 0 0), (.slice none 0 0), (.bool false)]), [.f (some 91) none (.iaddr 1 none (.tmp 89) (.tmp 90)), .f (some 92) none (.load none (.tmp 91)), .f (some 99) none (.iaddr 4 none (.tmp 97) (.tmp 98)), .f (some 100) none (.load (some 4) (.tmp 99))]⟩,
  ⟨21, .k none none (.store 3 (.tmp 14) (.tmp 104)), []⟩,
  ⟨22, .k (some 15) none (.asg (.tmp 105)), []⟩])
(.seq (.ops [.f (some 106) none (.mv (.tmp 15)),
  .f (some 107) none (.bin .eql (.tmp 106) (.const (.int .i64 0))),
  .f (some 108) none (.mv (.tmp 107)),
  .f (some 109) (some (108, true)) (.faddr 2 (.tmp 14)),
  .f (some 110) (some (108, true)) (.load none (.tmp 109)),
  .f (some 111) (some (108, true)) (.faddr 2 (.tmp 9)),
  .f (some 112) (some (108, true)) (.load none (.tmp 111)),
  .f (some 113) (some (108, true)) (.binb .eql (.tmp 110) (.tmp 112)),
  .f (some 114) none (.pick (.tmp 108) (.tmp 113) (.const (.bool false))),
  .f (some 115) none (.mv (.tmp 114)),
  .f (some 116) (some (115, true)) (.faddr 1 (.tmp 14)),
  .f (some 117) (some (115, true)) (.load none (.tmp 116)),
  .f (some 118) (some (115, true)) (.faddr 1 (.tmp 9)),
  .f (some 119) (some (115, true)) (.load none (.tmp 118)),
  .k (some 120) (some (115, true)) (.call 21 [(.tmp 117), (.tmp 119)]),
  .f (some 121) none (.pick (.tmp 115) (.tmp 120) (.const (.bool false))),
  .f (some 122) none (.mv (.tmp 121)),
  .k (some 123) (some (122, true)) (.call 15 []),
  .f (some 124) none (.pick (.tmp 122) (.tmp 123) (.const (.bool false))),
  .k (some 2) none (.asg (.tmp 124))])
.ret))))))))))))))
theorem fn5 : FnOK Tryd.prog 5 125 c5 [.tmp 2] := .of (by kernel_rfl)
/-! 'dynpos/dynposlaw08.VoteExact' -/
def c6_0 : Cd :=
(.seq (.ops [.f (some 75) none (.bin .lss (.tmp 74) (.const (.int .i64 3)))])
(.seq (.cond (.tmp 75)
 .skip
 (.exit 2))
(.seq (.block 3
 (.seq (.ops [.f (some 76) none (.idx 1 none 3 (.tmp 73) (.tmp 74)),
   .k (some 19) none (.asg (.tmp 76))])
 (.seq (.ops [.f (some 77) none (.mv (.tmp 17)),
   .f (some 78) none (.mv (.tmp 19)),
   .k (some 79) none (.call 14 [(.tmp 77), (.tmp 78)]),
   .f (some 80) none (.mv (.tmp 17)),
   .f (some 81) none (.mv (.tmp 19)),
   .k (some 82) none (.call 23 [(.tmp 80), (.tmp 81)]),
   .f (some 83) none (.binb .neq (.tmp 79) (.tmp 82)),
   .f (some 84) none (.mv (.tmp 83)),
   .f (some 85) (some (84, false)) (.mv (.tmp 15)),
   .f (some 86) (some (84, false)) (.mv (.tmp 19)),
   .k (some 87) (some (84, false)) (.call 24 [(.tmp 85), (.tmp 86)]),
   .f (some 88) (some (84, false)) (.mv (.tmp 15)),
   .f (some 89) (some (84, false)) (.mv (.tmp 19)),
   .k (some 90) (some (84, false)) (.call 18 [(.tmp 88), (.tmp 89)]),
   .k (some 91) (some (84, false)) (.call 21 [(.tmp 87), (.tmp 90)]),
   .f (some 92) (some (84, false)) (.un .not (.tmp 91)),
   .f (some 93) none (.pick (.tmp 84) (.const (.bool true)) (.tmp 92)),
   .f (some 94) none (.mv (.tmp 93)),
   .f (some 95) (some (94, false)) (.mv (.tmp 1)),
   .f (some 96) (some (94, false)) (.mv (.tmp 19)),
   .k (some 97) (some (94, false)) (.call 24 [(.tmp 95), (.tmp 96)]),
   .f (some 98) (some (94, false)) (.mv (.tmp 1)),
   .f (some 99) (some (94, false)) (.mv (.tmp 19)),
   .k (some 100) (some (94, false)) (.call 18 [(.tmp 98), (.tmp 99)]),
   .k (some 101) (some (94, false)) (.call 21 [(.tmp 97), (.tmp 100)]),
   .f (some 102) (some (94, false)) (.un .not (.tmp 101)),
   .f (some 103) none (.pick (.tmp 94) (.const (.bool true)) (.tmp 102))])
 (.cond (.tmp 103)
  (.seq (.ops [.k (some 12) none (.asg (.const (.bool false)))])
  .ret)
  .skip))))
(.ops [.f (some 104) none (.bin .add (.tmp 74) (.const (.int .i64 1))),
  .f (some 74) none (.mv (.tmp 104))]))))
def c6_1 : Cd :=
(.seq (.ops [.f (some 109) none (.bin .lss (.tmp 108) (.const (.int .i64 2)))])
(.seq (.cond (.tmp 109)
 .skip
 (.exit 4))
(.seq (.block 5
 (.seq (.ops [.f (some 110) none (.idx 1 none 2 (.tmp 107) (.tmp 108)),
   .k (some 21) none (.asg (.tmp 110))])
 (.seq (.ops [.f (some 112) none (.mv (.tmp 21)),
   .f (some 113) none (.mv (.tmp 17)),
   .k (some 114) none (.call 20 [(.tmp 112), (.tmp 113)]),
   .f (some 111) none (.mv (.tmp 114)),
   .f (some 115) none (.extract 0 (.tmp 111)),
   .f (some 116) none (.extract 1 (.tmp 111)),
   .k (some 22) none (.alloc 41 [(.slice none 0 0), (.slice none 0 0), (.bool false)]),
   .k none none (.store 3 (.tmp 22) (.tmp 115)),
   .k (some 23) none (.asg (.tmp 116))])
 (.seq (.ops [.f (some 118) none (.mv (.tmp 21)),
   .f (some 119) none (.mv (.tmp 17)),
   .k (some 120) none (.call 25 [(.tmp 118), (.tmp 119)]),
   .f (some 117) none (.mv (.tmp 120)),
   .f (some 121) none (.extract 0 (.tmp 117)),
   .f (some 122) none (.extract 1 (.tmp 117)),
   .k (some 24) none (.alloc 41 [(.slice none 0 0), (.slice none 0 0), (.bool false)]),
   .k none none (.store 3 (.tmp 24) (.tmp 121)),
   .k (some 25) none (.asg (.tmp 122))])
 (.seq (.opd [⟨0, .f (some 123) none (.load (some 3) (.tmp 22)), []⟩,
   ⟨1, .f (some 124) none (.load (some 3) (.tmp 24)), []⟩,
   ⟨2, .k (some 125) none (.call 26 [(.tmp 123), (.tmp 124)]), []⟩,
   ⟨3, .f (some 126) none (.un .not (.tmp 125)), []⟩,
   ⟨4, .f (some 127) none (.mv (.tmp 126)), []⟩,
   ⟨5, .f (some 128) (some (127, false)) (.mv (.tmp 23)), []⟩,
   ⟨6, .f (some 129) (some (127, false)) (.mv (.tmp 25)), []⟩,
   ⟨7, .f (some 130) (some (127, false)) (.bin .neq (.tmp 128) (.tmp 129)), []⟩,
   ⟨8, .f (some 131) none (.pick (.tmp 127) (.const (.bool true)) (.tmp 130)), []⟩,
   ⟨9, .f (some 132) none (.mv (.tmp 131)), []⟩,
   ⟨10, .f (some 133) (some (132, false)) (.mv (.tmp 21)), []⟩,
   ⟨11, .f (some 134) (some (132, false)) (.mv (.tmp 17)), []⟩,
   ⟨12, .f (some 135) (some (132, false)) (.load (some 3) (.tmp 24)), []⟩,
   ⟨14, .f (some 137) (some (132, false)) (.mv (.tmp 21)), []⟩,
   ⟨15, .f (some 138) (some (132, false)) (.mv (.tmp 17)), []⟩,
   ⟨16, .f (some 139) (some (132, false)) (.load (some 3) (.tmp 24)), []⟩,
   ⟨13, .k (some 136) (some (132, false)) (.call 27 [(.tmp 133), (.tmp 134), (.tmp 135)]), [.f (some 139) (some (132, false)) (.load (some 3) (.tmp 24))]⟩,
   ⟨17, .k (some 140) (some (132, false)) (.call 28 [(.tmp 137), (.tmp 138), (.tmp 139)]), []⟩,
   ⟨18, .f (some 141) (some (132, false)) (.binb .neq (.tmp 136) (.tmp 140)), []⟩,
   ⟨19, .f (some 142) none (.pick (.tmp 132) (.const (.bool true)) (.tmp 141)), []⟩,
   ⟨20, .f (some 143) none (.mv (.tmp 142)), []⟩,
   ⟨21, .f (some 144) (some (143, false)) (.mv (.tmp 21)), []⟩,
   ⟨22, .f (some 145) (some (143, false)) (.mv (.tmp 17)), []⟩,
   ⟨23, .f (some 146) (some (143, false)) (.load (some 3) (.tmp 10)), []⟩,
   ⟨25, .f (some 148) (some (143, false)) (.mv (.tmp 21)), []⟩,
   ⟨26, .f (some 149) (some (143, false)) (.mv (.tmp 17)), []⟩,
   ⟨27, .f (some 150) (some (143, false)) (.load (some 3) (.tmp 10)), []⟩,
   ⟨24, .k (some 147) (some (143, false)) (.call 27 [(.tmp 144), (.tmp 145), (.tmp 146)]), [.f (some 150) (some (143, false)) (.load (some 3) (.tmp 10))]⟩,
   ⟨28, .k (some 151) (some (143, false)) (.call 28 [(.tmp 148), (.tmp 149), (.tmp 150)]), []⟩,
   ⟨29, .f (some 152) (some (143, false)) (.binb .neq (.tmp 147) (.tmp 151)), []⟩,
   ⟨30, .f (some 153) none (.pick (.tmp 143) (.const (.bool true)) (.tmp 152)), []⟩])
 (.cond (.tmp 153)
  (.seq (.ops [.k (some 12) none (.asg (.const (.bool false)))])
  .ret)
  .skip))))))
(.ops [.f (some 154) none (.bin .add (.tmp 108) (.const (.int .i64 1))),
  .f (some 108) none (.mv (.tmp 154))]))))
def c6_2 : Cd :=
(.block 7
 (.seq (.ops [.f (some 159) none (.iaddr 4 none (.tmp 155) (.tmp 157)),
   .f (some 160) none (.load (some 4) (.tmp 159)),
   .k (some 27) none (.alloc 26 [(.int .i64 0), (.int .i64 0), (.int .i64 0), (.int .i64 0)]),
   .k none none (.store 4 (.tmp 27) (.tmp 160))])
 (.seq (.opd [⟨0, .f (some 161) none (.load (some 4) (.tmp 11)), []⟩,
   ⟨1, .f (some 162) none (.load (some 4) (.tmp 27)), []⟩,
   ⟨3, .f (some 164) none (.load (some 4) (.tmp 11)), []⟩,
   ⟨4, .f (some 165) none (.load (some 4) (.tmp 27)), []⟩,
   ⟨2, .k (some 163) none (.call 11 [(.tmp 161), (.tmp 162)]), [.f (some 164) none (.load (some 4) (.tmp 11)), .f (some 165) none (.load (some 4) (.tmp 27))]⟩,
   ⟨5, .k (some 166) none (.call 29 [(.tmp 164), (.tmp 165)]), []⟩,
   ⟨6, .f (some 167) none (.binb .neq (.tmp 163) (.tmp 166)), []⟩,
   ⟨7, .f (some 168) none (.mv (.tmp 167)), []⟩,
   ⟨8, .f (some 169) (some (168, false)) (.load (some 4) (.tmp 27)), []⟩,
   ⟨9, .f (some 170) (some (168, false)) (.load (some 4) (.tmp 11)), []⟩,
   ⟨11, .f (some 172) (some (168, false)) (.load (some 4) (.tmp 27)), []⟩,
   ⟨12, .f (some 173) (some (168, false)) (.load (some 4) (.tmp 11)), []⟩,
   ⟨10, .k (some 171) (some (168, false)) (.call 11 [(.tmp 169), (.tmp 170)]), [.f (some 172) (some (168, false)) (.load (some 4) (.tmp 27)), .f (some 173) (some (168, false)) (.load (some 4) (.tmp 11))]⟩,
   ⟨13, .k (some 174) (some (168, false)) (.call 29 [(.tmp 172), (.tmp 173)]), []⟩,
   ⟨14, .f (some 175) (some (168, false)) (.binb .neq (.tmp 171) (.tmp 174)), []⟩,
   ⟨15, .f (some 176) none (.pick (.tmp 168) (.const (.bool true)) (.tmp 175)), []⟩,
   ⟨16, .f (some 177) none (.mv (.tmp 176)), []⟩,
   ⟨17, .f (some 178) (some (177, false)) (.load (some 4) (.tmp 27)), []⟩,
   ⟨18, .f (some 179) (some (177, false)) (.load (some 4) (.tmp 27)), []⟩,
   ⟨20, .f (some 181) (some (177, false)) (.load (some 4) (.tmp 27)), []⟩,
   ⟨21, .f (some 182) (some (177, false)) (.load (some 4) (.tmp 27)), []⟩,
   ⟨19, .k (some 180) (some (177, false)) (.call 11 [(.tmp 178), (.tmp 179)]), [.f (some 181) (some (177, false)) (.load (some 4) (.tmp 27)), .f (some 182) (some (177, false)) (.load (some 4) (.tmp 27))]⟩,
   ⟨22, .k (some 183) (some (177, false)) (.call 29 [(.tmp 181), (.tmp 182)]), []⟩,
   ⟨23, .f (some 184) (some (177, false)) (.binb .neq (.tmp 180) (.tmp 183)), []⟩,
   ⟨24, .f (some 185) none (.pick (.tmp 177) (.const (.bool true)) (.tmp 184)), []⟩])
 (.cond (.tmp 185)
  (.seq (.ops [.k (some 12) none (.asg (.const (.bool false)))])
  .ret)
  .skip))))
def c6_3 : Cd :=
(.seq (.ops [.f (some 66) none (.bin .lss (.tmp 65) (.const (.int .i64 2)))])
(.seq (.cond (.tmp 66)
 .skip
 (.exit 0))
(.seq (.block 1
 (.seq (.ops [.f (some 67) none (.idx 1 none 2 (.tmp 64) (.tmp 65)),
   .k (some 17) none (.asg (.tmp 67))])
 (.seq (.seq (.ops [.f (some 68) none (.mv (.tmp 3)),
   .f (some 69) none (.mv (.tmp 13)),
   .f (some 70) none (.mv (.tmp 17)),
   .f (some 71) none (.len (.tmp 70)),
   .k (some 72) none (.call 13 [(.tmp 69), (.tmp 71), (.const (.int .i64 2))]),
   .f (some 73) none (.build [(.slice none 0 0), (.slice none 0 0), (.slice none 0 0)] [(0, 1, (.tmp 68)), (1, 1, (.tmp 72)), (2, 1, (.const (.slice none 0 0)))]),
   .f (some 74) none (.mv (.const (.int .i64 0)))])
 (.block 2
  (.loop c6_0)))
 (.seq (.seq (.ops [.f (some 105) none (.mv (.tmp 15)),
   .f (some 106) none (.mv (.tmp 1)),
   .f (some 107) none (.build [(.slice none 0 0), (.slice none 0 0)] [(0, 1, (.tmp 105)), (1, 1, (.tmp 106))]),
   .f (some 108) none (.mv (.const (.int .i64 0)))])
 (.block 4
  (.loop c6_1)))
 (.seq (.ops [.f (some 155) none (.mv (.tmp 17)),
   .f (some 156) none (.len (.tmp 155)),
   .f (some 157) none (.mv (.const (.int .i64 0)))])
 (rangeC 6 157 156 158 186 c6_2))))))
(.ops [.f (some 187) none (.bin .add (.tmp 65) (.const (.int .i64 1))),
  .f (some 65) none (.mv (.tmp 187))]))))
def c6 : Cd :=
(.seq (.ops [.k (some 10) none (.box 41 3 (.tmp 4)),
  .k (some 11) none (.box 26 4 (.tmp 5)),
  .k (some 12) none (.asg (.const (.bool false)))])
(.seq (.seq (.ops [.f (some 28) none (.mv (.tmp 1)),
  .f (some 29) none (.len (.tmp 28)),
  .f (some 30) none (.bin .gtr (.tmp 29) (.const (.int .i64 12))),
  .f (some 31) none (.mv (.tmp 30)),
  .f (some 32) (some (31, false)) (.mv (.tmp 2)),
  .f (some 33) (some (31, false)) (.len (.tmp 32)),
  .f (some 34) (some (31, false)) (.bin .gtr (.tmp 33) (.const (.int .i64 9))),
  .f (some 35) none (.pick (.tmp 31) (.const (.bool true)) (.tmp 34)),
  .f (some 36) none (.mv (.tmp 35)),
  .f (some 37) (some (36, false)) (.mv (.tmp 3)),
  .f (some 38) (some (36, false)) (.len (.tmp 37)),
  .f (some 39) (some (36, false)) (.bin .gtr (.tmp 38) (.const (.int .i64 12))),
  .f (some 40) none (.pick (.tmp 36) (.const (.bool true)) (.tmp 39)),
  .f (some 41) none (.mv (.tmp 40)),
  .f (some 42) (some (41, false)) (.faddr 0 (.tmp 10)),
  .f (some 43) (some (41, false)) (.load none (.tmp 42)),
  .f (some 44) (some (41, false)) (.len (.tmp 43)),
  .f (some 45) (some (41, false)) (.bin .gtr (.tmp 44) (.const (.int .i64 12))),
  .f (some 46) none (.pick (.tmp 41) (.const (.bool true)) (.tmp 45)),
  .f (some 47) none (.mv (.tmp 46)),
  .f (some 48) (some (47, false)) (.faddr 1 (.tmp 10)),
  .f (some 49) (some (47, false)) (.load none (.tmp 48)),
  .f (some 50) (some (47, false)) (.len (.tmp 49)),
  .f (some 51) (some (47, false)) (.bin .gtr (.tmp 50) (.const (.int .i64 12))),
  .f (some 52) none (.pick (.tmp 47) (.const (.bool true)) (.tmp 51))])
(.cond (.tmp 52)
 (.seq (.ops [.k (some 53) none (.call 15 []),
   .k (some 12) none (.asg (.tmp 53))])
 .ret)
 .skip))
(.seq (.ops [.f (some 54) none (.mv (.tmp 0)),
  .k (some 55) none (.call 8 [(.tmp 54)]),
  .k (some 13) none (.asg (.tmp 55))])
(.seq (.ops [.f (some 56) none (.mv (.tmp 13)),
  .k (some 57) none (.call 12 [(.tmp 56), (.const (.int .i64 6))]),
  .k (some 14) none (.asg (.tmp 57))])
(.seq (.ops [.f (some 58) none (.mv (.tmp 13)),
  .f (some 59) none (.mv (.tmp 14)),
  .f (some 60) none (.len (.tmp 59)),
  .k (some 61) none (.call 22 [(.tmp 58), (.tmp 60)]),
  .k (some 15) none (.asg (.tmp 61))])
(.seq (.seq (.ops [.f (some 62) none (.mv (.tmp 14)),
  .f (some 63) none (.mv (.tmp 2)),
  .f (some 64) none (.build [(.slice none 0 0), (.slice none 0 0)] [(0, 1, (.tmp 62)), (1, 1, (.tmp 63))]),
  .f (some 65) none (.mv (.const (.int .i64 0)))])
(.block 0
 (.loop c6_3)))
(.seq (.ops [.k (some 188) none (.call 15 []),
  .k (some 12) none (.asg (.tmp 188))])
.ret)))))))
theorem fn6 : FnOK Tryd.prog 6 189 c6 [.tmp 12] := .of (by kernel_rfl)
/-! 'dynpos/dynposlaw08.VoteCommon' -/
def c7_0 : Cd :=
(.block 3
 (.seq (.ops [.f (some 52) none (.mv (.tmp 50)),
   .k (some 10) none (.asg (.tmp 52))])
 (.seq (.ops [.f (some 53) none (.mv (.tmp 8)),
   .f (some 54) none (.mv (.tmp 10)),
   .f (some 55) none (.conv .u64 (.tmp 54)),
   .f (some 56) none (.shf .shr (.tmp 53) (.tmp 55)),
   .f (some 57) none (.bin .and (.tmp 56) (.const (.int .i64 1))),
   .f (some 58) none (.bin .eql (.tmp 57) (.const (.int .i64 1)))])
 (.cond (.tmp 58)
  (.ops [.f (some 59) none (.mv (.tmp 9)),
    .f (some 60) none (.mv (.tmp 10)),
    .k (some 61) none (.bslice 3 1 1 [(.int .i64 0)] [(0, 1, (.tmp 60))]),
    .k (some 62) none (.append 3 1 8 (.tmp 59) (.tmp 61)),
    .k (some 9) none (.asg (.tmp 62))])
  .skip))))
def c7_1 : Cd :=
(.seq (.seq (.ops [.f (some 40) none (.mv (.tmp 8)),
  .f (some 41) none (.mv (.tmp 4)),
  .f (some 42) none (.len (.tmp 41)),
  .f (some 43) none (.conv .u64 (.tmp 42)),
  .f (some 44) none (.shf .shl (.const (.int .i64 1)) (.tmp 43)),
  .f (some 45) none (.bin .lss (.tmp 40) (.tmp 44))])
(.cond (.tmp 45)
 .skip
 (.exit 0)))
(.seq (.block 1
 (.seq (.ops [.k (some 9) none (.asg (.const (.slice none 0 0)))])
 (.seq (.seq (.ops [.f (some 48) none (.mv (.tmp 4)),
   .f (some 49) none (.len (.tmp 48)),
   .f (some 50) none (.mv (.const (.int .i64 0)))])
 (rangeC 2 50 49 51 63 c7_0))
 (.seq (.opd [⟨0, .f (some 64) none (.faddr 2 (.tmp 6)), []⟩,
   ⟨1, .f (some 65) none (.load none (.tmp 64)), []⟩,
   ⟨2, .f (some 66) none (.un .not (.tmp 65)), []⟩,
   ⟨3, .f (some 67) none (.mv (.tmp 66)), []⟩,
   ⟨4, .f (some 68) (some (67, true)) (.mv (.tmp 4)), []⟩,
   ⟨5, .f (some 69) (some (67, true)) (.mv (.tmp 9)), []⟩,
   ⟨6, .k (some 70) (some (67, true)) (.call 23 [(.tmp 68), (.tmp 69)]), []⟩,
   ⟨7, .f (some 71) none (.pick (.tmp 67) (.tmp 70) (.const (.bool false))), []⟩,
   ⟨8, .f (some 72) none (.mv (.tmp 71)), []⟩,
   ⟨9, .f (some 73) (some (72, true)) (.mv (.tmp 5)), []⟩,
   ⟨10, .f (some 74) (some (72, true)) (.mv (.tmp 9)), []⟩,
   ⟨13, .f (some 77) (some (72, true)) (.faddr 1 (.tmp 6)), []⟩,
   ⟨14, .f (some 78) (some (72, true)) (.load none (.tmp 77)), []⟩,
   ⟨15, .f (some 79) (some (72, true)) (.len (.tmp 78)), []⟩,
   ⟨11, .k (some 75) (some (72, true)) (.call 18 [(.tmp 73), (.tmp 74)]), [.f (some 78) (some (72, true)) (.load none (.tmp 77))]⟩,
   ⟨12, .f (some 76) (some (72, true)) (.len (.tmp 75)), []⟩,
   ⟨16, .f (some 80) (some (72, true)) (.bin .gtr (.tmp 76) (.tmp 79)), []⟩,
   ⟨17, .f (some 81) none (.pick (.tmp 72) (.tmp 80) (.const (.bool false))), []⟩])
 (.cond (.tmp 81)
  (.seq (.ops [.k (some 2) none (.asg (.const (.bool false)))])
  .ret)
  .skip)))))
(.ops [.f (some 46) none (.mv (.tmp 8)),
  .f (some 47) none (.bin .add (.tmp 46) (.const (.int .i64 1))),
  .k (some 8) none (.asg (.tmp 47))])))
def c7_2 : Cd :=
(.block 5
 (.seq (.ops [.f (some 107) none (.iaddr 1 none (.tmp 103) (.tmp 105)),
   .f (some 108) none (.load none (.tmp 107)),
   .k (some 13) none (.asg (.tmp 108))])
 (.seq (.seq (.ops [.f (some 109) none (.mv (.tmp 13)),
   .f (some 110) none (.bin .lss (.tmp 109) (.const (.int .i64 0))),
   .f (some 111) none (.mv (.tmp 110)),
   .f (some 112) (some (111, false)) (.mv (.tmp 13)),
   .f (some 113) (some (111, false)) (.mv (.tmp 4)),
   .f (some 114) (some (111, false)) (.len (.tmp 113)),
   .f (some 115) (some (111, false)) (.bin .geq (.tmp 112) (.tmp 114)),
   .f (some 116) none (.pick (.tmp 111) (.const (.bool true)) (.tmp 115))])
 (.cond (.tmp 116)
  (.seq (.ops [.k (some 2) none (.asg (.const (.bool false)))])
  .ret)
  .skip))
 (.ops [.f (some 117) none (.mv (.tmp 11)),
   .f (some 118) none (.mv (.tmp 4)),
   .f (some 119) none (.mv (.tmp 13)),
   .f (some 120) none (.iaddr 4 none (.tmp 118) (.tmp 119)),
   .f (some 121) none (.load (some 4) (.tmp 120)),
   .k (some 122) none (.bslice 26 4 1 [(.int .i64 0), (.int .i64 0), (.int .i64 0), (.int .i64 0)] [(0, 4, (.tmp 121))]),
   .k (some 123) none (.append 26 4 32 (.tmp 117) (.tmp 122)),
   .k (some 11) none (.asg (.tmp 123))]))))
def c7 : Cd :=
(.seq (.ops [.k (some 2) none (.asg (.const (.bool false)))])
(.seq (.ops [.f (some 17) none (.mv (.tmp 0)),
  .k (some 18) none (.call 8 [(.tmp 17)]),
  .k (some 3) none (.asg (.tmp 18))])
(.seq (.ops [.f (some 19) none (.mv (.tmp 3)),
  .k (some 20) none (.call 12 [(.tmp 19), (.const (.int .i64 6))]),
  .k (some 4) none (.asg (.tmp 20))])
(.seq (.ops [.f (some 21) none (.mv (.tmp 3)),
  .f (some 22) none (.mv (.tmp 4)),
  .f (some 23) none (.len (.tmp 22)),
  .k (some 24) none (.call 22 [(.tmp 21), (.tmp 23)]),
  .k (some 5) none (.asg (.tmp 24))])
(.seq (.ops [.f (some 26) none (.mv (.tmp 5)),
  .f (some 27) none (.mv (.tmp 4)),
  .k (some 28) none (.call 20 [(.tmp 26), (.tmp 27)]),
  .f (some 25) none (.mv (.tmp 28)),
  .f (some 29) none (.extract 0 (.tmp 25)),
  .f (some 30) none (.extract 1 (.tmp 25)),
  .k (some 6) none (.alloc 41 [(.slice none 0 0), (.slice none 0 0), (.bool false)]),
  .k none none (.store 3 (.tmp 6) (.tmp 29)),
  .k (some 7) none (.asg (.tmp 30))])
(.seq (.seq (.ops [.f (some 31) none (.mv (.tmp 7)),
  .f (some 32) none (.bin .neq (.tmp 31) (.const (.int .i64 0))),
  .f (some 33) none (.mv (.tmp 32)),
  .f (some 34) (some (33, false)) (.mv (.tmp 5)),
  .f (some 35) (some (33, false)) (.mv (.tmp 4)),
  .f (some 36) (some (33, false)) (.load (some 3) (.tmp 6)),
  .k (some 37) (some (33, false)) (.call 27 [(.tmp 34), (.tmp 35), (.tmp 36)]),
  .f (some 38) (some (33, false)) (.un .not (.tmp 37)),
  .f (some 39) none (.pick (.tmp 33) (.const (.bool true)) (.tmp 38))])
(.cond (.tmp 39)
 (.seq (.ops [.k (some 2) none (.asg (.const (.bool false)))])
 .ret)
 .skip))
(.seq (.seq (.ops [.k (some 8) none (.asg (.const (.int .i64 0)))])
(.block 0
 (.loop c7_1)))
(.seq (.seq (.ops [.f (some 82) none (.faddr 0 (.tmp 6)),
  .f (some 83) none (.load none (.tmp 82)),
  .f (some 84) none (.len (.tmp 83)),
  .f (some 85) none (.bin .eql (.tmp 84) (.const (.int .i64 0)))])
(.cond (.tmp 85)
 (.seq (.ops [.f (some 86) none (.faddr 2 (.tmp 6)),
   .f (some 87) none (.load none (.tmp 86)),
   .f (some 88) none (.mv (.tmp 87)),
   .f (some 89) (some (88, false)) (.mv (.tmp 4)),
   .f (some 90) (some (88, false)) (.len (.tmp 89)),
   .f (some 91) (some (88, false)) (.bin .eql (.tmp 90) (.const (.int .i64 0))),
   .f (some 92) none (.pick (.tmp 88) (.const (.bool true)) (.tmp 91)),
   .f (some 93) none (.mv (.tmp 92)),
   .f (some 94) (some (93, true)) (.faddr 1 (.tmp 6)),
   .f (some 95) (some (93, true)) (.load none (.tmp 94)),
   .f (some 96) (some (93, true)) (.len (.tmp 95)),
   .f (some 97) (some (93, true)) (.bin .eql (.tmp 96) (.const (.int .i64 0))),
   .f (some 98) none (.pick (.tmp 93) (.tmp 97) (.const (.bool false))),
   .f (some 99) none (.mv (.tmp 98)),
   .k (some 100) (some (99, true)) (.call 15 []),
   .f (some 101) none (.pick (.tmp 99) (.tmp 100) (.const (.bool false))),
   .k (some 2) none (.asg (.tmp 101))])
 .ret)
 .skip))
(.seq (.ops [.k (some 11) none (.asg (.const (.slice none 0 0)))])
(.seq (.seq (.ops [.f (some 102) none (.faddr 0 (.tmp 6)),
  .f (some 103) none (.load none (.tmp 102)),
  .f (some 104) none (.len (.tmp 103)),
  .f (some 105) none (.mv (.const (.int .i64 0)))])
(rangeC 4 105 104 106 124 c7_2))
(.seq (.ops [.f (some 126) none (.mv (.tmp 11)),
  .k (some 127) none (.call 30 [(.tmp 126)]),
  .f (some 125) none (.mv (.tmp 127)),
  .f (some 128) none (.extract 0 (.tmp 125)),
  .f (some 129) none (.extract 1 (.tmp 125)),
  .f (some 130) none (.extract 2 (.tmp 125)),
  .k (some 14) none (.asg (.tmp 128)),
  .k (some 15) none (.asg (.tmp 129)),
  .k (some 16) none (.asg (.tmp 130))])
(.seq (.opd [⟨0, .f (some 131) none (.mv (.tmp 16)), []⟩,
  ⟨1, .f (some 132) none (.mv (.tmp 131)), []⟩,
  ⟨2, .f (some 133) (some (132, true)) (.faddr 2 (.tmp 6)), []⟩,
  ⟨3, .f (some 134) (some (132, true)) (.load none (.tmp 133)), []⟩,
  ⟨4, .f (some 135) (some (132, true)) (.un .not (.tmp 134)), []⟩,
  ⟨5, .f (some 136) none (.pick (.tmp 132) (.tmp 135) (.const (.bool false))), []⟩,
  ⟨6, .f (some 137) none (.mv (.tmp 136)), []⟩,
  ⟨7, .f (some 138) (some (137, true)) (.mv (.tmp 4)), []⟩,
  ⟨8, .f (some 139) (some (137, true)) (.faddr 0 (.tmp 6)), []⟩,
  ⟨9, .f (some 140) (some (137, true)) (.load none (.tmp 139)), []⟩,
  ⟨10, .k (some 141) (some (137, true)) (.call 23 [(.tmp 138), (.tmp 140)]), []⟩,
  ⟨11, .f (some 142) none (.pick (.tmp 137) (.tmp 141) (.const (.bool false))), []⟩,
  ⟨12, .f (some 143) none (.mv (.tmp 142)), []⟩,
  ⟨13, .f (some 144) (some (143, true)) (.faddr 1 (.tmp 6)), []⟩,
  ⟨14, .f (some 145) (some (143, true)) (.load none (.tmp 144)), []⟩,
  ⟨15, .f (some 146) (some (143, true)) (.mv (.tmp 5)), []⟩,
  ⟨16, .f (some 147) (some (143, true)) (.faddr 0 (.tmp 6)), []⟩,
  ⟨17, .f (some 148) (some (143, true)) (.load none (.tmp 147)), []⟩,
  ⟨18, .k (some 149) (some (143, true)) (.call 18 [(.tmp 146), (.tmp 148)]), [.f (some 145) (some (143, true)) (.load none (.tmp 144))]⟩,
  ⟨19, .k (some 150) (some (143, true)) (.call 21 [(.tmp 145), (.tmp 149)]), []⟩,
  ⟨20, .f (some 151) none (.pick (.tmp 143) (.tmp 150) (.const (.bool false))), []⟩,
  ⟨21, .f (some 152) none (.mv (.tmp 151)), []⟩,
  ⟨22, .k (some 153) (some (152, true)) (.call 15 []), []⟩,
  ⟨23, .f (some 154) none (.pick (.tmp 152) (.tmp 153) (.const (.bool false))), []⟩,
  ⟨24, .k (some 2) none (.asg (.tmp 154)), []⟩])
.ret))))))))))))
theorem fn7 : FnOK Tryd.prog 7 155 c7 [.tmp 2] := .of (by kernel_rfl)
/-! 'dynpos/dynposmake.New' -/
def c8 : Cd :=
(.seq (.ops [.k (some 2) none (.asg (.const (.pointer none)))])
(.seq (.ops [.f (some 3) none (.mv (.tmp 0)),
  .f (some 4) none (.mv (.tmp 0)),
  .f (some 5) none (.len (.tmp 4)),
  .f (some 6) none (.mm false [(.tmp 5), (.const (.int .i64 600))]),
  .f (some 7) none (.slc 1 (.tmp 3) none (some (.tmp 6)) none),
  .f (some 8) none (.build [(.slice none 0 0), (.int .i64 0)] [(0, 1, (.tmp 7))]),
  .k (some 9) none (.box 57 2 (.tmp 8)),
  .k (some 2) none (.asg (.tmp 9))])
.ret))
theorem fn8 : FnOK Tryd.prog 8 10 c8 [.tmp 2] := .of (by kernel_rfl)
/-! '(*dynpos/dynposmake.Src).Fix' -/
def c9 : Cd :=
(.seq (.ops [.k (some 4) none (.alloc 26 [(.int .i64 0), (.int .i64 0), (.int .i64 0), (.int .i64 0)])])
(.seq (.ops [.f (some 5) none (.mv (.tmp 1)),
  .f (some 6) none (.mv (.tmp 0)),
  .k (some 7) none (.bslice 3 1 6 [(.int .i64 0)] [(0, 1, (.const (.int .i64 0))), (1, 1, (.const (.int .i64 0))), (2, 1, (.const (.int .i64 1))), (3, 1, (.const (.int .i64 20))), (4, 1, (.const (.int .i64 (-30)))), (5, 1, (.const (.int .i64 1000)))]),
  .k (some 8) none (.call 17 [(.tmp 6), (.tmp 7)]),
  .f (some 9) none (.mv (.tmp 0)),
  .k (some 10) none (.bslice 3 1 4 [(.int .i64 0)] [(0, 1, (.const (.int .i64 0))), (1, 1, (.const (.int .i64 0))), (2, 1, (.const (.int .i64 5))), (3, 1, (.const (.int .i64 (-20))))]),
  .k (some 11) none (.call 17 [(.tmp 9), (.tmp 10)]),
  .f (some 12) none (.mv (.tmp 0)),
  .k (some 13) none (.bslice 3 1 4 [(.int .i64 0)] [(0, 1, (.const (.int .i64 1))), (1, 1, (.const (.int .i64 10))), (2, 1, (.const (.int .i64 50))), (3, 1, (.const (.int .i64 200)))]),
  .k (some 14) none (.call 17 [(.tmp 12), (.tmp 13)]),
  .f (some 15) none (.build [(.int .i64 0), (.int .i64 0), (.int .i64 0), (.int .i64 0)] [(0, 1, (.tmp 5)), (1, 1, (.tmp 8)), (2, 1, (.tmp 11)), (3, 1, (.tmp 14))]),
  .k none none (.store 4 (.tmp 4) (.tmp 15))])
.ret))
theorem fn9 : FnOK Tryd.prog 9 16 c9 [.cell 4 (some 4)] := .of (by kernel_rfl)
/-! '(*dynpos/dynposmake.Src).N' -/
def c10 : Cd :=
(.seq (.ops [.k (some 4) none (.asg (.const (.int .i64 0)))])
(.seq (.seq (.opd [⟨0, .f (some 5) none (.mv (.tmp 0)), []⟩,
  ⟨1, .f (some 6) none (.nilc (.tmp 5)), []⟩,
  ⟨2, .f (some 7) none (.faddr 1 (.tmp 6)), []⟩,
  ⟨3, .f (some 8) none (.load none (.tmp 7)), []⟩,
  ⟨4, .f (some 9) none (.mv (.tmp 0)), []⟩,
  ⟨5, .f (some 10) none (.nilc (.tmp 9)), []⟩,
  ⟨6, .f (some 11) none (.faddr 0 (.tmp 10)), []⟩,
  ⟨7, .f (some 12) none (.load none (.tmp 11)), []⟩,
  ⟨8, .f (some 13) none (.len (.tmp 12)), []⟩,
  ⟨9, .f (some 14) none (.bin .geq (.tmp 8) (.tmp 13)), []⟩])
(.cond (.tmp 14)
 (.seq (.ops [.k (some 4) none (.asg (.const (.int .i64 0)))])
 .ret)
 .skip))
(.seq (.ops [.f (some 15) none (.mv (.tmp 0)),
  .f (some 16) none (.nilc (.tmp 15)),
  .f (some 17) none (.faddr 1 (.tmp 16)),
  .f (some 18) none (.load none (.tmp 17)),
  .f (some 19) none (.bin .add (.tmp 18) (.const (.int .i64 1))),
  .f (some 20) none (.nilc (.tmp 15)),
  .f (some 21) none (.faddr 1 (.tmp 20)),
  .k none none (.store 1 (.tmp 21) (.tmp 19))])
(.seq (.opd [⟨0, .f (some 22) none (.mv (.tmp 0)), []⟩,
  ⟨1, .f (some 23) none (.nilc (.tmp 22)), []⟩,
  ⟨2, .f (some 24) none (.faddr 0 (.tmp 23)), []⟩,
  ⟨3, .f (some 25) none (.load none (.tmp 24)), []⟩,
  ⟨4, .f (some 26) none (.mv (.tmp 0)), []⟩,
  ⟨5, .f (some 27) none (.nilc (.tmp 26)), []⟩,
  ⟨6, .f (some 28) none (.faddr 1 (.tmp 27)), []⟩,
  ⟨7, .f (some 29) none (.load none (.tmp 28)), []⟩,
  ⟨8, .f (some 30) none (.bin .sub (.tmp 29) (.const (.int .i64 1))), []⟩,
  ⟨9, .f (some 31) none (.iaddr 1 none (.tmp 25) (.tmp 30)), []⟩,
  ⟨10, .f (some 32) none (.load none (.tmp 31)), []⟩,
  ⟨11, .f (some 33) none (.mv (.tmp 1)), []⟩,
  ⟨12, .k (some 34) none (.call 31 [(.tmp 32), (.tmp 33)]), []⟩,
  ⟨13, .k (some 4) none (.asg (.tmp 34)), []⟩])
.ret))))
theorem fn10 : FnOK Tryd.prog 10 35 c10 [.tmp 4] := .of (by kernel_rfl)
/-! 'dynpos/vote.Agree' -/
def c11 : Cd :=
(.seq (.ops [.k (some 2) none (.box 26 4 (.tmp 0)),
  .k (some 3) none (.box 26 4 (.tmp 1)),
  .k (some 4) none (.asg (.const (.bool false)))])
(.seq (.ops [.f (some 8) none (.faddr 1 (.tmp 2)),
  .f (some 9) none (.load none (.tmp 8)),
  .f (some 10) none (.faddr 2 (.tmp 2)),
  .f (some 11) none (.load none (.tmp 10)),
  .f (some 12) none (.build [(.int .i64 0), (.int .i64 0)] [(0, 1, (.tmp 9)), (1, 1, (.tmp 11))]),
  .f (some 13) none (.faddr 1 (.tmp 3)),
  .f (some 14) none (.load none (.tmp 13)),
  .f (some 15) none (.faddr 2 (.tmp 3)),
  .f (some 16) none (.load none (.tmp 15)),
  .f (some 17) none (.build [(.int .i64 0), (.int .i64 0)] [(0, 1, (.tmp 14)), (1, 1, (.tmp 16))]),
  .k (some 18) none (.call 32 [(.tmp 12), (.tmp 17)]),
  .f (some 7) none (.mv (.tmp 18)),
  .f (some 19) none (.extract 0 (.tmp 7)),
  .f (some 20) none (.extract 1 (.tmp 7)),
  .k (some 5) none (.asg (.tmp 19)),
  .k (some 6) none (.asg (.tmp 20))])
(.seq (.ops [.f (some 21) none (.mv (.tmp 6)),
  .f (some 22) none (.bin .eql (.tmp 21) (.const (.int .i64 0))),
  .f (some 23) none (.mv (.tmp 22)),
  .f (some 24) (some (23, true)) (.faddr 3 (.tmp 2)),
  .f (some 25) (some (23, true)) (.load none (.tmp 24)),
  .f (some 26) (some (23, true)) (.faddr 3 (.tmp 3)),
  .f (some 27) (some (23, true)) (.load none (.tmp 26)),
  .f (some 28) (some (23, true)) (.mm false [(.tmp 25), (.tmp 27)]),
  .f (some 29) (some (23, true)) (.bin .geq (.tmp 28) (.const (.int .i64 0))),
  .f (some 30) none (.pick (.tmp 23) (.tmp 29) (.const (.bool false))),
  .f (some 31) none (.mv (.tmp 30)),
  .f (some 32) (some (31, true)) (.faddr 3 (.tmp 2)),
  .f (some 33) (some (31, true)) (.load none (.tmp 32)),
  .f (some 34) (some (31, true)) (.faddr 3 (.tmp 3)),
  .f (some 35) (some (31, true)) (.load none (.tmp 34)),
  .f (some 36) (some (31, true)) (.mm true [(.tmp 33), (.tmp 35)]),
  .f (some 37) (some (31, true)) (.bin .leq (.tmp 36) (.const (.int .i64 100000))),
  .f (some 38) none (.pick (.tmp 31) (.tmp 37) (.const (.bool false))),
  .f (some 39) none (.mv (.tmp 38)),
  .f (some 40) (some (39, true)) (.mv (.tmp 5)),
  .f (some 41) (some (39, true)) (.faddr 3 (.tmp 2)),
  .f (some 42) (some (39, true)) (.load none (.tmp 41)),
  .f (some 43) (some (39, true)) (.faddr 3 (.tmp 3)),
  .f (some 44) (some (39, true)) (.load none (.tmp 43)),
  .f (some 45) (some (39, true)) (.bin .add (.tmp 42) (.tmp 44)),
  .f (some 46) (some (39, true)) (.bin .leq (.tmp 40) (.tmp 45)),
  .f (some 47) none (.pick (.tmp 39) (.tmp 46) (.const (.bool false))),
  .k (some 4) none (.asg (.tmp 47))])
.ret)))
theorem fn11 : FnOK Tryd.prog 11 48 c11 [.tmp 4] := .of (by kernel_rfl)
/-! '(*dynpos/dynposmake.Src).Now' -/
def c12_0 : Cd :=
(.seq (.seq (.ops [.f (some 11) none (.mv (.tmp 6)),
  .f (some 12) none (.bin .gtr (.tmp 11) (.const (.int .i64 0)))])
(.cond (.tmp 12)
 .skip
 (.exit 0)))
(.seq (.block 1
 (.ops [.f (some 15) none (.mv (.tmp 5)),
   .f (some 16) none (.mv (.tmp 0)),
   .k (some 17) none (.call 9 [(.tmp 16), (.const (.int .i64 0))]),
   .k (some 18) none (.bslice 26 4 1 [(.int .i64 0), (.int .i64 0), (.int .i64 0), (.int .i64 0)] [(0, 4, (.tmp 17))]),
   .k (some 19) none (.append 26 4 32 (.tmp 15) (.tmp 18)),
   .k (some 5) none (.asg (.tmp 19))]))
(.ops [.f (some 13) none (.mv (.tmp 6)),
  .f (some 14) none (.bin .sub (.tmp 13) (.const (.int .i64 1))),
  .k (some 6) none (.asg (.tmp 14))])))
def c12 : Cd :=
(.seq (.ops [.k (some 4) none (.asg (.const (.slice none 0 0)))])
(.seq (.ops [.k (some 5) none (.asg (.const (.slice none 0 0)))])
(.seq (.seq (.ops [.f (some 7) none (.mv (.tmp 0)),
  .f (some 8) none (.mv (.tmp 1)),
  .f (some 9) none (.bin .add (.tmp 8) (.const (.int .i64 1))),
  .k (some 10) none (.call 10 [(.tmp 7), (.tmp 9)]),
  .k (some 6) none (.asg (.tmp 10))])
(.block 0
 (.loop c12_0)))
(.seq (.ops [.f (some 20) none (.mv (.tmp 5)),
  .k (some 4) none (.asg (.tmp 20))])
.ret))))
theorem fn12 : FnOK Tryd.prog 12 21 c12 [.tmp 4] := .of (by kernel_rfl)
/-! '(*dynpos/dynposmake.Src).Some' -/
def c13_0 : Cd :=
(.seq (.seq (.ops [.f (some 9) none (.mv (.tmp 8)),
  .f (some 10) none (.mv (.tmp 1)),
  .f (some 11) none (.bin .lss (.tmp 9) (.tmp 10))])
(.cond (.tmp 11)
 .skip
 (.exit 0)))
(.seq (.block 1
 (.seq (.ops [.f (some 14) none (.mv (.tmp 0)),
   .f (some 15) none (.mv (.tmp 2)),
   .k (some 16) none (.call 10 [(.tmp 14), (.tmp 15)]),
   .f (some 17) none (.mv (.tmp 2)),
   .f (some 18) none (.bin .sub (.tmp 17) (.const (.int .i64 1))),
   .f (some 19) none (.bin .eql (.tmp 16) (.tmp 18))])
 (.cond (.tmp 19)
  (.ops [.f (some 20) none (.mv (.tmp 7)),
    .f (some 21) none (.mv (.tmp 8)),
    .k (some 22) none (.bslice 3 1 1 [(.int .i64 0)] [(0, 1, (.tmp 21))]),
    .k (some 23) none (.append 3 1 8 (.tmp 20) (.tmp 22)),
    .k (some 7) none (.asg (.tmp 23))])
  .skip)))
(.ops [.f (some 12) none (.mv (.tmp 8)),
  .f (some 13) none (.bin .add (.tmp 12) (.const (.int .i64 1))),
  .k (some 8) none (.asg (.tmp 13))])))
def c13 : Cd :=
(.seq (.ops [.k (some 6) none (.asg (.const (.slice none 0 0)))])
(.seq (.ops [.k (some 7) none (.asg (.const (.slice none 0 0)))])
(.seq (.seq (.ops [.k (some 8) none (.asg (.const (.int .i64 0)))])
(.block 0
 (.loop c13_0)))
(.seq (.ops [.f (some 24) none (.mv (.tmp 7)),
  .k (some 6) none (.asg (.tmp 24))])
.ret))))
theorem fn13 : FnOK Tryd.prog 13 25 c13 [.tmp 6] := .of (by kernel_rfl)
/-! 'dynpos/vote.Clique' -/
def c14_0 : Cd :=
(.block 3
 (.seq (.ops [.f (some 44) none (.iaddr 1 none (.tmp 40) (.tmp 42)),
   .f (some 45) none (.load none (.tmp 44)),
   .k (some 8) none (.asg (.tmp 45))])
 (.seq (.opd [⟨0, .f (some 46) none (.mv (.tmp 0)), []⟩,
   ⟨1, .f (some 47) none (.mv (.tmp 6)), []⟩,
   ⟨2, .f (some 48) none (.iaddr 4 none (.tmp 46) (.tmp 47)), []⟩,
   ⟨3, .f (some 49) none (.load (some 4) (.tmp 48)), []⟩,
   ⟨4, .f (some 50) none (.mv (.tmp 0)), []⟩,
   ⟨5, .f (some 51) none (.mv (.tmp 8)), []⟩,
   ⟨6, .f (some 52) none (.iaddr 4 none (.tmp 50) (.tmp 51)), []⟩,
   ⟨7, .f (some 53) none (.load (some 4) (.tmp 52)), []⟩,
   ⟨8, .k (some 54) none (.call 11 [(.tmp 49), (.tmp 53)]), []⟩,
   ⟨9, .f (some 55) none (.un .not (.tmp 54)), []⟩])
 (.cond (.tmp 55)
  (.seq (.ops [.k (some 4) none (.asg (.const (.bool false)))])
  .ret)
  .skip))))
def c14_1 : Cd :=
(.block 1
 (.seq (.ops [.f (some 13) none (.mv (.tmp 11)),
   .f (some 14) none (.iaddr 1 none (.tmp 9) (.tmp 11)),
   .f (some 15) none (.load none (.tmp 14)),
   .k (some 5) none (.asg (.tmp 13)),
   .k (some 6) none (.asg (.tmp 15))])
 (.seq (.seq (.ops [.f (some 16) none (.mv (.tmp 6)),
   .f (some 17) none (.bin .lss (.tmp 16) (.const (.int .i64 0))),
   .f (some 18) none (.mv (.tmp 17)),
   .f (some 19) (some (18, false)) (.mv (.tmp 6)),
   .f (some 20) (some (18, false)) (.mv (.tmp 0)),
   .f (some 21) (some (18, false)) (.len (.tmp 20)),
   .f (some 22) (some (18, false)) (.bin .geq (.tmp 19) (.tmp 21)),
   .f (some 23) none (.pick (.tmp 18) (.const (.bool true)) (.tmp 22)),
   .f (some 24) none (.mv (.tmp 23)),
   .f (some 25) (some (24, false)) (.mv (.tmp 5)),
   .f (some 26) (some (24, false)) (.bin .gtr (.tmp 25) (.const (.int .i64 0))),
   .f (some 27) (some (24, false)) (.mv (.tmp 26)),
   .f (some 28) (some (27, true)) (.mv (.tmp 1)),
   .f (some 29) (some (27, true)) (.mv (.tmp 5)),
   .f (some 30) (some (27, true)) (.bin .sub (.tmp 29) (.const (.int .i64 1))),
   .f (some 31) (some (27, true)) (.iaddr 1 none (.tmp 28) (.tmp 30)),
   .f (some 32) (some (27, true)) (.load none (.tmp 31)),
   .f (some 33) (some (27, true)) (.mv (.tmp 6)),
   .f (some 34) (some (27, true)) (.bin .geq (.tmp 32) (.tmp 33)),
   .f (some 35) (some (24, false)) (.pick (.tmp 27) (.tmp 34) (.const (.bool false))),
   .f (some 36) none (.pick (.tmp 24) (.const (.bool true)) (.tmp 35))])
 (.cond (.tmp 36)
  (.seq (.ops [.k (some 4) none (.asg (.const (.bool false)))])
  .ret)
  .skip))
 (.seq (.ops [.f (some 37) none (.mv (.tmp 1)),
   .f (some 38) none (.mv (.tmp 5)),
   .f (some 39) none (.bin .add (.tmp 38) (.const (.int .i64 1))),
   .f (some 40) none (.slc 1 (.tmp 37) none (some (.tmp 39)) none),
   .f (some 41) none (.len (.tmp 40)),
   .f (some 42) none (.mv (.const (.int .i64 0)))])
 (rangeC 2 42 41 43 56 c14_0)))))
def c14 : Cd :=
(.seq (.ops [.k (some 4) none (.asg (.const (.bool false)))])
(.seq (.seq (.ops [.f (some 9) none (.mv (.tmp 1)),
  .f (some 10) none (.len (.tmp 9)),
  .f (some 11) none (.mv (.const (.int .i64 0)))])
(rangeC 0 11 10 12 57 c14_1))
(.seq (.ops [.k (some 4) none (.asg (.const (.bool true)))])
.ret)))
theorem fn14 : FnOK Tryd.prog 14 58 c14 [.tmp 4] := .of (by kernel_rfl)
/-! 'dynpos/dynposlaw08.sane' -/
def c15 : Cd :=
(.seq (.ops [.k (some 0) none (.asg (.const (.bool false)))])
(.seq (.ops [.k (some 6) none (.bslice 3 1 3 [(.int .i64 0)] [(0, 1, (.const (.int .i64 0))), (1, 1, (.const (.int .i64 1))), (2, 1, (.const (.int .i64 2)))]),
  .f (some 7) none (.build [(.int .i64 0), (.int .i64 0), (.int .i64 0), (.int .i64 0)] [(3, 1, (.const (.int .i64 5)))]),
  .f (some 8) none (.build [(.int .i64 0), (.int .i64 0), (.int .i64 0), (.int .i64 0)] [(1, 1, (.const (.int .i64 10))), (3, 1, (.const (.int .i64 5)))]),
  .f (some 9) none (.build [(.int .i64 0), (.int .i64 0), (.int .i64 0), (.int .i64 0)] [(1, 1, (.const (.int .i64 1000))), (3, 1, (.const (.int .i64 5)))]),
  .k (some 10) none (.bslice 26 4 3 [(.int .i64 0), (.int .i64 0), (.int .i64 0), (.int .i64 0)] [(0, 4, (.tmp 7)), (4, 4, (.tmp 8)), (8, 4, (.tmp 9))]),
  .k (some 11) none (.call 20 [(.tmp 6), (.tmp 10)]),
  .f (some 5) none (.mv (.tmp 11)),
  .f (some 12) none (.extract 0 (.tmp 5)),
  .f (some 13) none (.extract 1 (.tmp 5)),
  .k (some 1) none (.alloc 41 [(.slice none 0 0), (.slice none 0 0), (.bool false)]),
  .k none none (.store 3 (.tmp 1) (.tmp 12)),
  .k (some 2) none (.asg (.tmp 13))])
(.seq (.ops [.k (some 15) none (.bslice 3 1 3 [(.int .i64 0)] [(0, 1, (.const (.int .i64 0))), (1, 1, (.const (.int .i64 1))), (2, 1, (.const (.int .i64 2)))]),
  .f (some 16) none (.build [(.int .i64 0), (.int .i64 0), (.int .i64 0), (.int .i64 0)] [(3, 1, (.const (.int .i64 5)))]),
  .f (some 17) none (.build [(.int .i64 0), (.int .i64 0), (.int .i64 0), (.int .i64 0)] [(1, 1, (.const (.int .i64 10))), (3, 1, (.const (.int .i64 5)))]),
  .f (some 18) none (.build [(.int .i64 0), (.int .i64 0), (.int .i64 0), (.int .i64 0)] [(1, 1, (.const (.int .i64 20))), (3, 1, (.const (.int .i64 5)))]),
  .k (some 19) none (.bslice 26 4 3 [(.int .i64 0), (.int .i64 0), (.int .i64 0), (.int .i64 0)] [(0, 4, (.tmp 16)), (4, 4, (.tmp 17)), (8, 4, (.tmp 18))]),
  .k (some 20) none (.call 20 [(.tmp 15), (.tmp 19)]),
  .f (some 14) none (.mv (.tmp 20)),
  .f (some 21) none (.extract 0 (.tmp 14)),
  .f (some 22) none (.extract 1 (.tmp 14)),
  .k (some 3) none (.alloc 41 [(.slice none 0 0), (.slice none 0 0), (.bool false)]),
  .k none none (.store 3 (.tmp 3) (.tmp 21)),
  .k (some 4) none (.asg (.tmp 22))])
(.seq (.ops [.f (some 23) none (.mv (.tmp 2)),
  .f (some 24) none (.bin .eql (.tmp 23) (.const (.int .i64 0))),
  .f (some 25) none (.mv (.tmp 24)),
  .f (some 26) (some (25, true)) (.mv (.tmp 4)),
  .f (some 27) (some (25, true)) (.bin .eql (.tmp 26) (.const (.int .i64 0))),
  .f (some 28) none (.pick (.tmp 25) (.tmp 27) (.const (.bool false))),
  .f (some 29) none (.mv (.tmp 28)),
  .f (some 30) (some (29, true)) (.faddr 0 (.tmp 1)),
  .f (some 31) (some (29, true)) (.load none (.tmp 30)),
  .k (some 32) (some (29, true)) (.bslice 3 1 2 [(.int .i64 0)] [(0, 1, (.const (.int .i64 0))), (1, 1, (.const (.int .i64 1)))]),
  .k (some 33) (some (29, true)) (.call 21 [(.tmp 31), (.tmp 32)]),
  .f (some 34) none (.pick (.tmp 29) (.tmp 33) (.const (.bool false))),
  .f (some 35) none (.mv (.tmp 34)),
  .f (some 36) (some (35, true)) (.faddr 2 (.tmp 1)),
  .f (some 37) (some (35, true)) (.load none (.tmp 36)),
  .f (some 38) (some (35, true)) (.un .not (.tmp 37)),
  .f (some 39) none (.pick (.tmp 35) (.tmp 38) (.const (.bool false))),
  .f (some 40) none (.mv (.tmp 39)),
  .f (some 41) (some (40, true)) (.faddr 2 (.tmp 3)),
  .f (some 42) (some (40, true)) (.load none (.tmp 41)),
  .f (some 43) none (.pick (.tmp 40) (.tmp 42) (.const (.bool false))),
  .f (some 44) none (.mv (.tmp 43)),
  .f (some 45) (some (44, true)) (.faddr 0 (.tmp 3)),
  .f (some 46) (some (44, true)) (.load none (.tmp 45)),
  .f (some 47) (some (44, true)) (.len (.tmp 46)),
  .f (some 48) (some (44, true)) (.bin .eql (.tmp 47) (.const (.int .i64 0))),
  .f (some 49) none (.pick (.tmp 44) (.tmp 48) (.const (.bool false))),
  .k (some 0) none (.asg (.tmp 49))])
.ret))))
theorem fn15 : FnOK Tryd.prog 15 50 c15 [.tmp 0] := .of (by kernel_rfl)
/-! '(*dynpos/dynposmake.Src).Range' -/
def c16 : Cd :=
(.seq (.ops [.k (some 6) none (.asg (.const (.int .i64 0)))])
(.seq (.ops [.f (some 7) none (.mv (.tmp 1)),
  .f (some 8) none (.mv (.tmp 0)),
  .f (some 9) none (.mv (.tmp 2)),
  .f (some 10) none (.mv (.tmp 1)),
  .f (some 11) none (.bin .sub (.tmp 9) (.tmp 10)),
  .f (some 12) none (.bin .add (.tmp 11) (.const (.int .i64 1))),
  .k (some 13) none (.call 10 [(.tmp 8), (.tmp 12)]),
  .f (some 14) none (.bin .add (.tmp 7) (.tmp 13)),
  .k (some 6) none (.asg (.tmp 14))])
.ret))
theorem fn16 : FnOK Tryd.prog 16 15 c16 [.tmp 6] := .of (by kernel_rfl)
/-! '(*dynpos/dynposmake.Src).Pick' -/
def c17 : Cd :=
(.seq (.ops [.k (some 4) none (.asg (.const (.int .i64 0)))])
(.seq (.ops [.f (some 5) none (.mv (.tmp 1)),
  .f (some 6) none (.mv (.tmp 0)),
  .f (some 7) none (.mv (.tmp 1)),
  .f (some 8) none (.len (.tmp 7)),
  .k (some 9) none (.call 10 [(.tmp 6), (.tmp 8)]),
  .f (some 10) none (.iaddr 1 none (.tmp 5) (.tmp 9)),
  .f (some 11) none (.load none (.tmp 10)),
  .k (some 4) none (.asg (.tmp 11))])
.ret))
theorem fn17 : FnOK Tryd.prog 17 12 c17 [.tmp 4] := .of (by kernel_rfl)
/-! 'dynpos/dynposref08.Causes' -/
def c18_0 : Cd :=
(.seq (.seq (.ops [.f (some 28) none (.mv (.tmp 9)),
  .f (some 29) none (.mv (.tmp 5)),
  .f (some 30) none (.len (.tmp 29)),
  .f (some 31) none (.bin .lss (.tmp 28) (.tmp 30)),
  .f (some 32) none (.mv (.tmp 31)),
  .f (some 33) (some (32, true)) (.mv (.tmp 5)),
  .f (some 34) (some (32, true)) (.mv (.tmp 9)),
  .f (some 35) (some (32, true)) (.iaddr 1 none (.tmp 33) (.tmp 34)),
  .f (some 36) (some (32, true)) (.load none (.tmp 35)),
  .f (some 37) (some (32, true)) (.mv (.tmp 8)),
  .f (some 38) (some (32, true)) (.bin .lss (.tmp 36) (.tmp 37)),
  .f (some 39) none (.pick (.tmp 32) (.tmp 38) (.const (.bool false)))])
(.cond (.tmp 39)
 .skip
 (.exit 2)))
(.block 3
 (.ops [.f (some 40) none (.mv (.tmp 9)),
   .f (some 41) none (.bin .add (.tmp 40) (.const (.int .i64 1))),
   .k (some 9) none (.asg (.tmp 41))])))
def c18_1 : Cd :=
(.block 1
 (.seq (.ops [.f (some 14) none (.iaddr 1 none (.tmp 10) (.tmp 12)),
   .f (some 15) none (.load none (.tmp 14)),
   .k (some 7) none (.asg (.tmp 15))])
 (.seq (.seq (.ops [.f (some 16) none (.mv (.tmp 7)),
   .f (some 17) none (.bin .lss (.tmp 16) (.const (.int .i64 0))),
   .f (some 18) none (.mv (.tmp 17)),
   .f (some 19) (some (18, false)) (.mv (.tmp 7)),
   .f (some 20) (some (18, false)) (.mv (.tmp 0)),
   .f (some 21) (some (18, false)) (.len (.tmp 20)),
   .f (some 22) (some (18, false)) (.bin .geq (.tmp 19) (.tmp 21)),
   .f (some 23) none (.pick (.tmp 18) (.const (.bool true)) (.tmp 22))])
 (.cond (.tmp 23)
  (.exit 1)
  .skip))
 (.seq (.ops [.f (some 24) none (.mv (.tmp 0)),
   .f (some 25) none (.mv (.tmp 7)),
   .f (some 26) none (.iaddr 1 none (.tmp 24) (.tmp 25)),
   .f (some 27) none (.load none (.tmp 26)),
   .k (some 8) none (.asg (.tmp 27))])
 (.seq (.ops [.k (some 9) none (.asg (.const (.int .i64 0)))])
 (.seq (.block 2
  (.loop c18_0))
 (.seq (.seq (.ops [.f (some 42) none (.mv (.tmp 9)),
   .f (some 43) none (.mv (.tmp 5)),
   .f (some 44) none (.len (.tmp 43)),
   .f (some 45) none (.bin .lss (.tmp 42) (.tmp 44)),
   .f (some 46) none (.mv (.tmp 45)),
   .f (some 47) (some (46, true)) (.mv (.tmp 5)),
   .f (some 48) (some (46, true)) (.mv (.tmp 9)),
   .f (some 49) (some (46, true)) (.iaddr 1 none (.tmp 47) (.tmp 48)),
   .f (some 50) (some (46, true)) (.load none (.tmp 49)),
   .f (some 51) (some (46, true)) (.mv (.tmp 8)),
   .f (some 52) (some (46, true)) (.bin .eql (.tmp 50) (.tmp 51)),
   .f (some 53) none (.pick (.tmp 46) (.tmp 52) (.const (.bool false)))])
 (.cond (.tmp 53)
  (.exit 1)
  .skip))
 (.opd [⟨0, .f (some 54) none (.mv (.tmp 5)), []⟩,
   ⟨1, .f (some 55) none (.mv (.tmp 9)), []⟩,
   ⟨2, .f (some 56) none (.slc 1 (.tmp 54) none (some (.tmp 55)) none), []⟩,
   ⟨3, .f (some 57) none (.mv (.tmp 8)), []⟩,
   ⟨4, .k (some 58) none (.bslice 3 1 1 [(.int .i64 0)] [(0, 1, (.tmp 57))]), []⟩,
   ⟨5, .f (some 59) none (.mv (.tmp 5)), []⟩,
   ⟨6, .f (some 60) none (.mv (.tmp 9)), []⟩,
   ⟨7, .f (some 61) none (.slc 1 (.tmp 59) (some (.tmp 60)) none none), []⟩,
   ⟨8, .k (some 62) none (.append 3 1 8 (.tmp 58) (.tmp 61)), [.f (some 56) none (.slc 1 (.tmp 54) none (some (.tmp 55)) none)]⟩,
   ⟨9, .k (some 63) none (.append 3 1 8 (.tmp 56) (.tmp 62)), []⟩,
   ⟨10, .k (some 5) none (.asg (.tmp 63)), []⟩]))))))))
def c18 : Cd :=
(.seq (.ops [.k (some 4) none (.asg (.const (.slice none 0 0)))])
(.seq (.ops [.k (some 5) none (.asg (.const (.slice none 0 0)))])
(.seq (.seq (.ops [.f (some 10) none (.mv (.tmp 1)),
  .f (some 11) none (.len (.tmp 10)),
  .f (some 12) none (.mv (.const (.int .i64 0)))])
(rangeC 0 12 11 13 64 c18_1))
(.seq (.ops [.f (some 65) none (.mv (.tmp 5)),
  .k (some 4) none (.asg (.tmp 65))])
.ret))))
theorem fn18 : FnOK Tryd.prog 18 66 c18 [.tmp 4] := .of (by kernel_rfl)
/-! 'dynpos/dynposlaw08.indices' -/
def c19_0 : Cd :=
(.seq (.seq (.ops [.f (some 5) none (.mv (.tmp 4)),
  .f (some 6) none (.mv (.tmp 0)),
  .f (some 7) none (.bin .lss (.tmp 5) (.tmp 6))])
(.cond (.tmp 7)
 .skip
 (.exit 0)))
(.seq (.block 1
 (.ops [.f (some 10) none (.mv (.tmp 3)),
   .f (some 11) none (.mv (.tmp 4)),
   .k (some 12) none (.bslice 3 1 1 [(.int .i64 0)] [(0, 1, (.tmp 11))]),
   .k (some 13) none (.append 3 1 8 (.tmp 10) (.tmp 12)),
   .k (some 3) none (.asg (.tmp 13))]))
(.ops [.f (some 8) none (.mv (.tmp 4)),
  .f (some 9) none (.bin .add (.tmp 8) (.const (.int .i64 1))),
  .k (some 4) none (.asg (.tmp 9))])))
def c19 : Cd :=
(.seq (.ops [.k (some 2) none (.asg (.const (.slice none 0 0)))])
(.seq (.ops [.k (some 3) none (.asg (.const (.slice none 0 0)))])
(.seq (.seq (.ops [.k (some 4) none (.asg (.const (.int .i64 0)))])
(.block 0
 (.loop c19_0)))
(.seq (.ops [.f (some 14) none (.mv (.tmp 3)),
  .k (some 2) none (.asg (.tmp 14))])
.ret))))
theorem fn19 : FnOK Tryd.prog 19 15 c19 [.tmp 2] := .of (by kernel_rfl)
/-! 'dynpos/vote.Decide' -/
def c20_0 : Cd :=
(.block 2
 (.seq (.ops [.f (some 28) none (.mv (.tmp 26)),
   .f (some 29) none (.iaddr 1 none (.tmp 24) (.tmp 26)),
   .f (some 30) none (.load none (.tmp 29)),
   .k (some 6) none (.asg (.tmp 28)),
   .k (some 7) none (.asg (.tmp 30))])
 (.seq (.opd [⟨0, .f (some 31) none (.mv (.tmp 7)), []⟩,
   ⟨1, .f (some 32) none (.bin .lss (.tmp 31) (.const (.int .i64 0))), []⟩,
   ⟨2, .f (some 33) none (.mv (.tmp 32)), []⟩,
   ⟨3, .f (some 34) (some (33, false)) (.mv (.tmp 7)), []⟩,
   ⟨4, .f (some 35) (some (33, false)) (.bin .geq (.tmp 34) (.const (.int .i64 8))), []⟩,
   ⟨5, .f (some 36) none (.pick (.tmp 33) (.const (.bool true)) (.tmp 35)), []⟩,
   ⟨6, .f (some 37) none (.mv (.tmp 36)), []⟩,
   ⟨7, .f (some 38) (some (37, false)) (.mv (.tmp 1)), []⟩,
   ⟨8, .f (some 39) (some (37, false)) (.mv (.tmp 6)), []⟩,
   ⟨9, .f (some 40) (some (37, false)) (.iaddr 4 none (.tmp 38) (.tmp 39)), []⟩,
   ⟨10, .f (some 41) (some (37, false)) (.load (some 4) (.tmp 40)), []⟩,
   ⟨11, .f (some 42) (some (37, false)) (.mv (.tmp 1)), []⟩,
   ⟨12, .f (some 43) (some (37, false)) (.mv (.tmp 6)), []⟩,
   ⟨13, .f (some 44) (some (37, false)) (.iaddr 4 none (.tmp 42) (.tmp 43)), []⟩,
   ⟨14, .f (some 45) (some (37, false)) (.load (some 4) (.tmp 44)), []⟩,
   ⟨15, .k (some 46) (some (37, false)) (.call 11 [(.tmp 41), (.tmp 45)]), []⟩,
   ⟨16, .f (some 47) (some (37, false)) (.un .not (.tmp 46)), []⟩,
   ⟨17, .f (some 48) none (.pick (.tmp 37) (.const (.bool true)) (.tmp 47)), []⟩])
 (.cond (.tmp 48)
  (.seq (.ops [.f (some 49) none (.build [(.slice none 0 0), (.slice none 0 0), (.bool false)] []),
    .k none none (.store 3 (.tmp 4) (.tmp 49)),
    .k (some 5) none (.asg (.const (.int .i64 1)))])
  .ret)
  .skip))))
def c20_1 : Cd :=
(.block 4
 (.seq (.ops [.f (some 63) none (.iaddr 2 none (.tmp 59) (.tmp 61)),
   .f (some 64) none (.load (some 2) (.tmp 63)),
   .k (some 11) none (.alloc 66 [(.slice none 0 0), (.slice none 0 0)]),
   .k none none (.store 2 (.tmp 11) (.tmp 64))])
 (.seq (.ops [.f (some 65) none (.faddr 1 (.tmp 11)),
   .f (some 66) none (.load none (.tmp 65)),
   .f (some 67) none (.len (.tmp 66)),
   .f (some 68) none (.faddr 1 (.tmp 9)),
   .f (some 69) none (.load none (.tmp 68)),
   .f (some 70) none (.len (.tmp 69)),
   .f (some 71) none (.bin .eql (.tmp 67) (.tmp 70)),
   .f (some 72) none (.mv (.tmp 71)),
   .f (some 73) (some (72, true)) (.faddr 1 (.tmp 11)),
   .f (some 74) (some (72, true)) (.load none (.tmp 73)),
   .f (some 75) (some (72, true)) (.faddr 1 (.tmp 9)),
   .f (some 76) (some (72, true)) (.load none (.tmp 75)),
   .k (some 77) (some (72, true)) (.call 36 [(.tmp 74), (.tmp 76)]),
   .f (some 78) (some (72, true)) (.un .not (.tmp 77)),
   .f (some 79) none (.pick (.tmp 72) (.tmp 78) (.const (.bool false)))])
 (.cond (.tmp 79)
  (.seq (.ops [.f (some 80) none (.build [(.slice none 0 0), (.slice none 0 0), (.bool false)] [(2, 1, (.const (.bool true)))]),
    .k none none (.store 3 (.tmp 4) (.tmp 80)),
    .k (some 5) none (.asg (.const (.int .i64 0)))])
  .ret)
  .skip))))
def c20 : Cd :=
(.seq (.ops [.k (some 4) none (.alloc 41 [(.slice none 0 0), (.slice none 0 0), (.bool false)]),
  .k (some 5) none (.asg (.const (.int .i64 0)))])
(.seq (.block 0
 (.seq (.ops [.f (some 13) none (.mv (.tmp 0)),
   .f (some 14) none (.len (.tmp 13)),
   .f (some 15) none (.mv (.tmp 1)),
   .f (some 16) none (.len (.tmp 15)),
   .f (some 17) none (.bin .neq (.tmp 14) (.tmp 16)),
   .k (some 12) none (.asg (.tmp 17))])
 (.cond (.tmp 12)
  (.seq (.ops [.f (some 18) none (.build [(.slice none 0 0), (.slice none 0 0), (.bool false)] []),
    .k none none (.store 3 (.tmp 4) (.tmp 18)),
    .k (some 5) none (.asg (.const (.int .i64 8)))])
  .ret)
  (.seq (.ops [.f (some 20) none (.mv (.tmp 1)),
    .f (some 21) none (.len (.tmp 20)),
    .f (some 22) none (.bin .gtr (.tmp 21) (.const (.int .i64 8))),
    .k (some 19) none (.asg (.tmp 22))])
  (.cond (.tmp 19)
   (.seq (.ops [.f (some 23) none (.build [(.slice none 0 0), (.slice none 0 0), (.bool false)] []),
     .k none none (.store 3 (.tmp 4) (.tmp 23)),
     .k (some 5) none (.asg (.const (.int .i64 2)))])
   .ret)
   .skip)))))
(.seq (.seq (.ops [.f (some 24) none (.mv (.tmp 0)),
  .f (some 25) none (.len (.tmp 24)),
  .f (some 26) none (.mv (.const (.int .i64 0)))])
(rangeC 1 26 25 27 50 c20_0))
(.seq (.ops [.f (some 51) none (.mv (.tmp 0)),
  .f (some 52) none (.mv (.tmp 1)),
  .k (some 53) none (.call 33 [(.tmp 51), (.tmp 52)]),
  .k (some 8) none (.asg (.tmp 53))])
(.seq (.ops [.f (some 54) none (.mv (.tmp 8)),
  .k (some 55) none (.call 34 [(.tmp 54), (.func 35)])])
(.seq (.ops [.f (some 56) none (.mv (.tmp 8)),
  .f (some 57) none (.iaddr 2 none (.tmp 56) (.const (.int .i64 0))),
  .f (some 58) none (.load (some 2) (.tmp 57)),
  .k (some 9) none (.alloc 66 [(.slice none 0 0), (.slice none 0 0)]),
  .k none none (.store 2 (.tmp 9) (.tmp 58))])
(.seq (.seq (.ops [.f (some 59) none (.mv (.tmp 8)),
  .f (some 60) none (.len (.tmp 59)),
  .f (some 61) none (.mv (.const (.int .i64 0)))])
(rangeC 3 61 60 62 81 c20_1))
(.seq (.ops [.f (some 82) none (.faddr 0 (.tmp 9)),
  .f (some 83) none (.load none (.tmp 82)),
  .f (some 84) none (.faddr 1 (.tmp 9)),
  .f (some 85) none (.load none (.tmp 84)),
  .f (some 86) none (.build [(.slice none 0 0), (.slice none 0 0), (.bool false)] [(0, 1, (.tmp 83)), (1, 1, (.tmp 85))]),
  .k none none (.store 3 (.tmp 4) (.tmp 86)),
  .k (some 5) none (.asg (.const (.int .i64 0)))])
.ret))))))))
theorem fn20 : FnOK Tryd.prog 20 87 c20 [.cell 4 (some 3), .tmp 5] := .of (by kernel_rfl)
/-! 'dynpos/dynposref01.Ints' -/
def c21_0 : Cd :=
(.block 1
 (.seq (.ops [.f (some 15) none (.mv (.tmp 13)),
   .k (some 5) none (.asg (.tmp 15))])
 (.seq (.opd [⟨0, .f (some 16) none (.mv (.tmp 0)), []⟩,
   ⟨1, .f (some 17) none (.mv (.tmp 5)), []⟩,
   ⟨2, .f (some 18) none (.iaddr 1 none (.tmp 16) (.tmp 17)), []⟩,
   ⟨3, .f (some 19) none (.load none (.tmp 18)), []⟩,
   ⟨4, .f (some 20) none (.mv (.tmp 1)), []⟩,
   ⟨5, .f (some 21) none (.mv (.tmp 5)), []⟩,
   ⟨6, .f (some 22) none (.iaddr 1 none (.tmp 20) (.tmp 21)), []⟩,
   ⟨7, .f (some 23) none (.load none (.tmp 22)), []⟩,
   ⟨8, .f (some 24) none (.bin .neq (.tmp 19) (.tmp 23)), []⟩])
 (.cond (.tmp 24)
  (.seq (.ops [.k (some 4) none (.asg (.const (.bool false)))])
  .ret)
  .skip))))
def c21 : Cd :=
(.seq (.ops [.k (some 4) none (.asg (.const (.bool false)))])
(.seq (.seq (.ops [.f (some 6) none (.mv (.tmp 0)),
  .f (some 7) none (.len (.tmp 6)),
  .f (some 8) none (.mv (.tmp 1)),
  .f (some 9) none (.len (.tmp 8)),
  .f (some 10) none (.bin .neq (.tmp 7) (.tmp 9))])
(.cond (.tmp 10)
 (.seq (.ops [.k (some 4) none (.asg (.const (.bool false)))])
 .ret)
 .skip))
(.seq (.seq (.ops [.f (some 11) none (.mv (.tmp 0)),
  .f (some 12) none (.len (.tmp 11)),
  .f (some 13) none (.mv (.const (.int .i64 0)))])
(rangeC 0 13 12 14 25 c21_0))
(.seq (.ops [.k (some 4) none (.asg (.const (.bool true)))])
.ret))))
theorem fn21 : FnOK Tryd.prog 21 26 c21 [.tmp 4] := .of (by kernel_rfl)
/-! 'dynpos/dynposlaw08.causes' -/
def c22_0 : Cd :=
(.seq (.seq (.ops [.f (some 7) none (.mv (.tmp 6)),
  .f (some 8) none (.mv (.tmp 1)),
  .f (some 9) none (.bin .lss (.tmp 7) (.tmp 8))])
(.cond (.tmp 9)
 .skip
 (.exit 0)))
(.seq (.block 1
 (.ops [.f (some 12) none (.mv (.tmp 5)),
   .f (some 13) none (.mv (.tmp 0)),
   .k (some 14) none (.call 10 [(.tmp 13), (.const (.int .i64 4))]),
   .k (some 15) none (.bslice 3 1 1 [(.int .i64 0)] [(0, 1, (.tmp 14))]),
   .k (some 16) none (.append 3 1 8 (.tmp 12) (.tmp 15)),
   .k (some 5) none (.asg (.tmp 16))]))
(.ops [.f (some 10) none (.mv (.tmp 6)),
  .f (some 11) none (.bin .add (.tmp 10) (.const (.int .i64 1))),
  .k (some 6) none (.asg (.tmp 11))])))
def c22 : Cd :=
(.seq (.ops [.k (some 4) none (.asg (.const (.slice none 0 0)))])
(.seq (.ops [.k (some 5) none (.asg (.const (.slice none 0 0)))])
(.seq (.seq (.ops [.k (some 6) none (.asg (.const (.int .i64 0)))])
(.block 0
 (.loop c22_0)))
(.seq (.ops [.f (some 17) none (.mv (.tmp 5)),
  .k (some 4) none (.asg (.tmp 17))])
.ret))))
theorem fn22 : FnOK Tryd.prog 22 18 c22 [.tmp 4] := .of (by kernel_rfl)
/-! 'dynpos/dynposref08.Clique' -/
def c23_0 : Cd :=
(.block 1
 (.seq (.ops [.f (some 15) none (.mv (.tmp 13)),
   .f (some 16) none (.iaddr 1 none (.tmp 11) (.tmp 13)),
   .f (some 17) none (.load none (.tmp 16)),
   .k (some 5) none (.asg (.tmp 15)),
   .k (some 6) none (.asg (.tmp 17))])
 (.seq (.ops [.f (some 18) none (.mv (.tmp 6)),
   .f (some 19) none (.bin .lss (.tmp 18) (.const (.int .i64 0))),
   .f (some 20) none (.mv (.tmp 19)),
   .f (some 21) (some (20, false)) (.mv (.tmp 6)),
   .f (some 22) (some (20, false)) (.mv (.tmp 0)),
   .f (some 23) (some (20, false)) (.len (.tmp 22)),
   .f (some 24) (some (20, false)) (.bin .geq (.tmp 21) (.tmp 23)),
   .f (some 25) none (.pick (.tmp 20) (.const (.bool true)) (.tmp 24)),
   .f (some 26) none (.mv (.tmp 25)),
   .f (some 27) (some (26, false)) (.mv (.tmp 5)),
   .f (some 28) (some (26, false)) (.bin .gtr (.tmp 27) (.const (.int .i64 0))),
   .f (some 29) (some (26, false)) (.mv (.tmp 28)),
   .f (some 30) (some (29, true)) (.mv (.tmp 1)),
   .f (some 31) (some (29, true)) (.mv (.tmp 5)),
   .f (some 32) (some (29, true)) (.bin .sub (.tmp 31) (.const (.int .i64 1))),
   .f (some 33) (some (29, true)) (.iaddr 1 none (.tmp 30) (.tmp 32)),
   .f (some 34) (some (29, true)) (.load none (.tmp 33)),
   .f (some 35) (some (29, true)) (.mv (.tmp 6)),
   .f (some 36) (some (29, true)) (.bin .geq (.tmp 34) (.tmp 35)),
   .f (some 37) (some (26, false)) (.pick (.tmp 29) (.tmp 36) (.const (.bool false))),
   .f (some 38) none (.pick (.tmp 26) (.const (.bool true)) (.tmp 37))])
 (.cond (.tmp 38)
  (.seq (.ops [.k (some 4) none (.asg (.const (.bool false)))])
  .ret)
  .skip))))
def c23_1 : Cd :=
(.block 5
 (.seq (.ops [.f (some 50) none (.iaddr 1 none (.tmp 46) (.tmp 48)),
   .f (some 51) none (.load none (.tmp 50)),
   .k (some 10) none (.asg (.tmp 51))])
 (.seq (.opd [⟨0, .f (some 52) none (.mv (.tmp 0)), []⟩,
   ⟨1, .f (some 53) none (.mv (.tmp 8)), []⟩,
   ⟨2, .f (some 54) none (.iaddr 4 none (.tmp 52) (.tmp 53)), []⟩,
   ⟨3, .f (some 55) none (.load (some 4) (.tmp 54)), []⟩,
   ⟨4, .f (some 56) none (.mv (.tmp 0)), []⟩,
   ⟨5, .f (some 57) none (.mv (.tmp 10)), []⟩,
   ⟨6, .f (some 58) none (.iaddr 4 none (.tmp 56) (.tmp 57)), []⟩,
   ⟨7, .f (some 59) none (.load (some 4) (.tmp 58)), []⟩,
   ⟨8, .k (some 60) none (.call 29 [(.tmp 55), (.tmp 59)]), []⟩,
   ⟨9, .f (some 61) none (.un .not (.tmp 60)), []⟩])
 (.cond (.tmp 61)
  (.seq (.ops [.k (some 4) none (.asg (.const (.bool false)))])
  .ret)
  .skip))))
def c23_2 : Cd :=
(.block 3
 (.seq (.ops [.f (some 44) none (.iaddr 1 none (.tmp 40) (.tmp 42)),
   .f (some 45) none (.load none (.tmp 44)),
   .k (some 8) none (.asg (.tmp 45))])
 (.seq (.ops [.f (some 46) none (.mv (.tmp 1)),
   .f (some 47) none (.len (.tmp 46)),
   .f (some 48) none (.mv (.const (.int .i64 0)))])
 (rangeC 4 48 47 49 62 c23_1))))
def c23 : Cd :=
(.seq (.ops [.k (some 4) none (.asg (.const (.bool false)))])
(.seq (.seq (.ops [.f (some 11) none (.mv (.tmp 1)),
  .f (some 12) none (.len (.tmp 11)),
  .f (some 13) none (.mv (.const (.int .i64 0)))])
(rangeC 0 13 12 14 39 c23_0))
(.seq (.seq (.ops [.f (some 40) none (.mv (.tmp 1)),
  .f (some 41) none (.len (.tmp 40)),
  .f (some 42) none (.mv (.const (.int .i64 0)))])
(rangeC 2 42 41 43 63 c23_2))
(.seq (.ops [.k (some 4) none (.asg (.const (.bool true)))])
.ret))))
theorem fn23 : FnOK Tryd.prog 23 64 c23 [.tmp 4] := .of (by kernel_rfl)
/-! 'dynpos/vote.Causes' -/
def c24 : Cd :=
(.seq (.ops [.k (some 4) none (.asg (.const (.slice none 0 0)))])
(.seq (.ops [.f (some 6) none (.mv (.tmp 0)),
  .f (some 7) none (.mv (.tmp 1)),
  .k (some 8) none (.call 37 [(.tmp 6), (.tmp 7)]),
  .k (some 5) none (.asg (.tmp 8))])
(.seq (.ops [.f (some 9) none (.mv (.tmp 5)),
  .k (some 10) none (.call 38 [(.tmp 9)])])
(.seq (.ops [.f (some 11) none (.mv (.tmp 5)),
  .k (some 12) none (.call 39 [(.tmp 11)]),
  .k (some 4) none (.asg (.tmp 12))])
.ret))))
theorem fn24 : FnOK Tryd.prog 24 13 c24 [.tmp 4] := .of (by kernel_rfl)
/-! 'dynpos/dynposref08.Decide' -/
def c25_0 : Cd :=
(.block 1
 (.seq (.ops [.f (some 27) none (.mv (.tmp 25)),
   .f (some 28) none (.iaddr 1 none (.tmp 23) (.tmp 25)),
   .f (some 29) none (.load none (.tmp 28)),
   .k (some 6) none (.asg (.tmp 27)),
   .k (some 7) none (.asg (.tmp 29))])
 (.seq (.opd [⟨0, .f (some 30) none (.mv (.tmp 7)), []⟩,
   ⟨1, .f (some 31) none (.bin .lss (.tmp 30) (.const (.int .i64 0))), []⟩,
   ⟨2, .f (some 32) none (.mv (.tmp 31)), []⟩,
   ⟨3, .f (some 33) (some (32, false)) (.mv (.tmp 7)), []⟩,
   ⟨4, .f (some 34) (some (32, false)) (.bin .geq (.tmp 33) (.const (.int .i64 8))), []⟩,
   ⟨5, .f (some 35) none (.pick (.tmp 32) (.const (.bool true)) (.tmp 34)), []⟩,
   ⟨6, .f (some 36) none (.mv (.tmp 35)), []⟩,
   ⟨7, .f (some 37) (some (36, false)) (.mv (.tmp 1)), []⟩,
   ⟨8, .f (some 38) (some (36, false)) (.mv (.tmp 6)), []⟩,
   ⟨9, .f (some 39) (some (36, false)) (.iaddr 4 none (.tmp 37) (.tmp 38)), []⟩,
   ⟨10, .f (some 40) (some (36, false)) (.load (some 4) (.tmp 39)), []⟩,
   ⟨11, .f (some 41) (some (36, false)) (.mv (.tmp 1)), []⟩,
   ⟨12, .f (some 42) (some (36, false)) (.mv (.tmp 6)), []⟩,
   ⟨13, .f (some 43) (some (36, false)) (.iaddr 4 none (.tmp 41) (.tmp 42)), []⟩,
   ⟨14, .f (some 44) (some (36, false)) (.load (some 4) (.tmp 43)), []⟩,
   ⟨15, .k (some 45) (some (36, false)) (.call 29 [(.tmp 40), (.tmp 44)]), []⟩,
   ⟨16, .f (some 46) (some (36, false)) (.un .not (.tmp 45)), []⟩,
   ⟨17, .f (some 47) none (.pick (.tmp 36) (.const (.bool true)) (.tmp 46)), []⟩])
 (.cond (.tmp 47)
  (.seq (.ops [.f (some 48) none (.build [(.slice none 0 0), (.slice none 0 0), (.bool false)] []),
    .k none none (.store 3 (.tmp 4) (.tmp 48)),
    .k (some 5) none (.asg (.const (.int .i64 1)))])
  .ret)
  .skip))))
def c25_1 : Cd :=
(.block 5
 (.seq (.ops [.f (some 62) none (.mv (.tmp 60)),
   .k (some 11) none (.asg (.tmp 62))])
 (.seq (.ops [.f (some 63) none (.mv (.tmp 9)),
   .f (some 64) none (.mv (.tmp 11)),
   .f (some 65) none (.conv .u64 (.tmp 64)),
   .f (some 66) none (.shf .shr (.tmp 63) (.tmp 65)),
   .f (some 67) none (.bin .and (.tmp 66) (.const (.int .i64 1))),
   .f (some 68) none (.bin .eql (.tmp 67) (.const (.int .i64 1)))])
 (.cond (.tmp 68)
  (.ops [.f (some 69) none (.mv (.tmp 10)),
    .f (some 70) none (.mv (.tmp 11)),
    .k (some 71) none (.bslice 3 1 1 [(.int .i64 0)] [(0, 1, (.tmp 70))]),
    .k (some 72) none (.append 3 1 8 (.tmp 69) (.tmp 71)),
    .k (some 10) none (.asg (.tmp 72))])
  .skip))))
def c25_2 : Cd :=
(.seq (.seq (.ops [.f (some 50) none (.mv (.tmp 9)),
  .f (some 51) none (.mv (.tmp 1)),
  .f (some 52) none (.len (.tmp 51)),
  .f (some 53) none (.conv .u64 (.tmp 52)),
  .f (some 54) none (.shf .shl (.const (.int .i64 1)) (.tmp 53)),
  .f (some 55) none (.bin .lss (.tmp 50) (.tmp 54))])
(.cond (.tmp 55)
 .skip
 (.exit 2)))
(.seq (.block 3
 (.seq (.ops [.k (some 10) none (.asg (.const (.slice none 0 0)))])
 (.seq (.seq (.ops [.f (some 58) none (.mv (.tmp 1)),
   .f (some 59) none (.len (.tmp 58)),
   .f (some 60) none (.mv (.const (.int .i64 0)))])
 (rangeC 4 60 59 61 73 c25_1))
 (.seq (.seq (.ops [.f (some 74) none (.mv (.tmp 1)),
   .f (some 75) none (.mv (.tmp 10)),
   .k (some 76) none (.call 23 [(.tmp 74), (.tmp 75)]),
   .f (some 77) none (.un .not (.tmp 76))])
 (.cond (.tmp 77)
  (.exit 3)
  .skip))
 (.seq (.ops [.f (some 78) none (.mv (.tmp 0)),
   .f (some 79) none (.mv (.tmp 10)),
   .k (some 80) none (.call 18 [(.tmp 78), (.tmp 79)]),
   .k (some 12) none (.asg (.tmp 80))])
 (.block 6
  (.seq (.ops [.f (some 82) none (.mv (.tmp 12)),
    .f (some 83) none (.len (.tmp 82)),
    .f (some 84) none (.faddr 1 (.tmp 8)),
    .f (some 85) none (.load none (.tmp 84)),
    .f (some 86) none (.len (.tmp 85)),
    .f (some 87) none (.bin .gtr (.tmp 83) (.tmp 86)),
    .k (some 81) none (.asg (.tmp 87))])
  (.cond (.tmp 81)
   (.ops [.f (some 88) none (.mv (.tmp 10)),
     .f (some 89) none (.mv (.tmp 12)),
     .f (some 90) none (.build [(.slice none 0 0), (.slice none 0 0), (.bool false)] [(0, 1, (.tmp 88)), (1, 1, (.tmp 89))]),
     .k none none (.store 3 (.tmp 8) (.tmp 90))])
   (.seq (.ops [.f (some 92) none (.mv (.tmp 12)),
     .f (some 93) none (.len (.tmp 92)),
     .f (some 94) none (.faddr 1 (.tmp 8)),
     .f (some 95) none (.load none (.tmp 94)),
     .f (some 96) none (.len (.tmp 95)),
     .f (some 97) none (.bin .eql (.tmp 93) (.tmp 96)),
     .f (some 98) none (.mv (.tmp 97)),
     .f (some 99) (some (98, true)) (.mv (.tmp 12)),
     .f (some 100) (some (98, true)) (.faddr 1 (.tmp 8)),
     .f (some 101) (some (98, true)) (.load none (.tmp 100)),
     .k (some 102) (some (98, true)) (.call 21 [(.tmp 99), (.tmp 101)]),
     .f (some 103) (some (98, true)) (.un .not (.tmp 102)),
     .f (some 104) none (.pick (.tmp 98) (.tmp 103) (.const (.bool false))),
     .k (some 91) none (.asg (.tmp 104))])
   (.cond (.tmp 91)
    (.ops [.f (some 105) none (.faddr 2 (.tmp 8)),
      .k none none (.store 1 (.tmp 105) (.const (.bool true)))])
    (.seq (.ops [.f (some 107) none (.mv (.tmp 12)),
      .f (some 108) none (.len (.tmp 107)),
      .f (some 109) none (.faddr 1 (.tmp 8)),
      .f (some 110) none (.load none (.tmp 109)),
      .f (some 111) none (.len (.tmp 110)),
      .f (some 112) none (.bin .eql (.tmp 108) (.tmp 111)),
      .f (some 113) none (.mv (.tmp 112)),
      .f (some 114) (some (113, true)) (.mv (.tmp 10)),
      .f (some 115) (some (113, true)) (.len (.tmp 114)),
      .f (some 116) (some (113, true)) (.faddr 0 (.tmp 8)),
      .f (some 117) (some (113, true)) (.load none (.tmp 116)),
      .f (some 118) (some (113, true)) (.len (.tmp 117)),
      .f (some 119) (some (113, true)) (.bin .gtr (.tmp 115) (.tmp 118)),
      .f (some 120) (some (113, true)) (.mv (.tmp 119)),
      .f (some 121) (some (120, false)) (.mv (.tmp 10)),
      .f (some 122) (some (120, false)) (.len (.tmp 121)),
      .f (some 123) (some (120, false)) (.faddr 0 (.tmp 8)),
      .f (some 124) (some (120, false)) (.load none (.tmp 123)),
      .f (some 125) (some (120, false)) (.len (.tmp 124)),
      .f (some 126) (some (120, false)) (.bin .eql (.tmp 122) (.tmp 125)),
      .f (some 127) (some (120, false)) (.mv (.tmp 126)),
      .f (some 128) (some (127, true)) (.mv (.tmp 10)),
      .f (some 129) (some (127, true)) (.faddr 0 (.tmp 8)),
      .f (some 130) (some (127, true)) (.load none (.tmp 129)),
      .k (some 131) (some (127, true)) (.call 40 [(.tmp 128), (.tmp 130)]),
      .f (some 132) (some (120, false)) (.pick (.tmp 127) (.tmp 131) (.const (.bool false))),
      .f (some 133) (some (113, true)) (.pick (.tmp 120) (.const (.bool true)) (.tmp 132)),
      .f (some 134) none (.pick (.tmp 113) (.tmp 133) (.const (.bool false))),
      .k (some 106) none (.asg (.tmp 134))])
    (.cond (.tmp 106)
     (.ops [.f (some 135) none (.mv (.tmp 10)),
       .f (some 136) none (.faddr 0 (.tmp 8)),
       .k none none (.store 1 (.tmp 136) (.tmp 135))])
     .skip))))))))))))
(.ops [.f (some 56) none (.mv (.tmp 9)),
  .f (some 57) none (.bin .add (.tmp 56) (.const (.int .i64 1))),
  .k (some 9) none (.asg (.tmp 57))])))
def c25 : Cd :=
(.seq (.ops [.k (some 4) none (.alloc 41 [(.slice none 0 0), (.slice none 0 0), (.bool false)]),
  .k (some 5) none (.asg (.const (.int .i64 0)))])
(.seq (.seq (.ops [.f (some 13) none (.mv (.tmp 0)),
  .f (some 14) none (.len (.tmp 13)),
  .f (some 15) none (.mv (.tmp 1)),
  .f (some 16) none (.len (.tmp 15)),
  .f (some 17) none (.bin .neq (.tmp 14) (.tmp 16))])
(.cond (.tmp 17)
 (.seq (.ops [.f (some 18) none (.build [(.slice none 0 0), (.slice none 0 0), (.bool false)] []),
   .k none none (.store 3 (.tmp 4) (.tmp 18)),
   .k (some 5) none (.asg (.const (.int .i64 8)))])
 .ret)
 .skip))
(.seq (.seq (.ops [.f (some 19) none (.mv (.tmp 1)),
  .f (some 20) none (.len (.tmp 19)),
  .f (some 21) none (.bin .gtr (.tmp 20) (.const (.int .i64 8)))])
(.cond (.tmp 21)
 (.seq (.ops [.f (some 22) none (.build [(.slice none 0 0), (.slice none 0 0), (.bool false)] []),
   .k none none (.store 3 (.tmp 4) (.tmp 22)),
   .k (some 5) none (.asg (.const (.int .i64 2)))])
 .ret)
 .skip))
(.seq (.seq (.ops [.f (some 23) none (.mv (.tmp 0)),
  .f (some 24) none (.len (.tmp 23)),
  .f (some 25) none (.mv (.const (.int .i64 0)))])
(rangeC 0 25 24 26 49 c25_0))
(.seq (.ops [.k (some 8) none (.alloc 41 [(.slice none 0 0), (.slice none 0 0), (.bool false)])])
(.seq (.seq (.ops [.k (some 9) none (.asg (.const (.int .i64 0)))])
(.block 2
 (.loop c25_2)))
(.seq (.seq (.ops [.f (some 137) none (.faddr 2 (.tmp 8)),
  .f (some 138) none (.load none (.tmp 137))])
(.cond (.tmp 138)
 (.seq (.ops [.f (some 139) none (.build [(.slice none 0 0), (.slice none 0 0), (.bool false)] [(2, 1, (.const (.bool true)))]),
   .k none none (.store 3 (.tmp 4) (.tmp 139)),
   .k (some 5) none (.asg (.const (.int .i64 0)))])
 .ret)
 .skip))
(.seq (.ops [.f (some 140) none (.load (some 3) (.tmp 8)),
  .k none none (.store 3 (.tmp 4) (.tmp 140)),
  .k (some 5) none (.asg (.const (.int .i64 0)))])
.ret))))))))
theorem fn25 : FnOK Tryd.prog 25 141 c25 [.cell 4 (some 3), .tmp 5] := .of (by kernel_rfl)
/-! 'dynpos/dynposref08.Same' -/
def c26 : Cd :=
(.seq (.ops [.k (some 2) none (.box 41 3 (.tmp 0)),
  .k (some 3) none (.box 41 3 (.tmp 1)),
  .k (some 4) none (.asg (.const (.bool false)))])
(.seq (.ops [.f (some 5) none (.faddr 0 (.tmp 2)),
  .f (some 6) none (.load none (.tmp 5)),
  .f (some 7) none (.faddr 0 (.tmp 3)),
  .f (some 8) none (.load none (.tmp 7)),
  .k (some 9) none (.call 21 [(.tmp 6), (.tmp 8)]),
  .f (some 10) none (.mv (.tmp 9)),
  .f (some 11) (some (10, true)) (.faddr 1 (.tmp 2)),
  .f (some 12) (some (10, true)) (.load none (.tmp 11)),
  .f (some 13) (some (10, true)) (.faddr 1 (.tmp 3)),
  .f (some 14) (some (10, true)) (.load none (.tmp 13)),
  .k (some 15) (some (10, true)) (.call 21 [(.tmp 12), (.tmp 14)]),
  .f (some 16) none (.pick (.tmp 10) (.tmp 15) (.const (.bool false))),
  .f (some 17) none (.mv (.tmp 16)),
  .f (some 18) (some (17, true)) (.faddr 2 (.tmp 2)),
  .f (some 19) (some (17, true)) (.load none (.tmp 18)),
  .f (some 20) (some (17, true)) (.faddr 2 (.tmp 3)),
  .f (some 21) (some (17, true)) (.load none (.tmp 20)),
  .f (some 22) (some (17, true)) (.binb .eql (.tmp 19) (.tmp 21)),
  .f (some 23) none (.pick (.tmp 17) (.tmp 22) (.const (.bool false))),
  .k (some 4) none (.asg (.tmp 23))])
.ret))
theorem fn26 : FnOK Tryd.prog 26 24 c26 [.tmp 4] := .of (by kernel_rfl)
/-! 'dynpos/vote.Check' -/
def c27 : Cd :=
(.seq (.ops [.k (some 5) none (.box 41 3 (.tmp 2)),
  .k (some 6) none (.asg (.const (.bool false)))])
(.seq (.ops [.f (some 10) none (.mv (.tmp 0)),
  .f (some 11) none (.mv (.tmp 1)),
  .k (some 12) none (.call 20 [(.tmp 10), (.tmp 11)]),
  .f (some 9) none (.mv (.tmp 12)),
  .f (some 13) none (.extract 0 (.tmp 9)),
  .f (some 14) none (.extract 1 (.tmp 9)),
  .k (some 7) none (.alloc 41 [(.slice none 0 0), (.slice none 0 0), (.bool false)]),
  .k none none (.store 3 (.tmp 7) (.tmp 13)),
  .k (some 8) none (.asg (.tmp 14))])
(.seq (.ops [.f (some 15) none (.mv (.tmp 8)),
  .f (some 16) none (.bin .eql (.tmp 15) (.const (.int .i64 0))),
  .f (some 17) none (.mv (.tmp 16)),
  .f (some 18) (some (17, true)) (.faddr 2 (.tmp 7)),
  .f (some 19) (some (17, true)) (.load none (.tmp 18)),
  .f (some 20) (some (17, true)) (.faddr 2 (.tmp 5)),
  .f (some 21) (some (17, true)) (.load none (.tmp 20)),
  .f (some 22) (some (17, true)) (.binb .eql (.tmp 19) (.tmp 21)),
  .f (some 23) none (.pick (.tmp 17) (.tmp 22) (.const (.bool false))),
  .f (some 24) none (.mv (.tmp 23)),
  .f (some 25) (some (24, true)) (.faddr 0 (.tmp 7)),
  .f (some 26) (some (24, true)) (.load none (.tmp 25)),
  .f (some 27) (some (24, true)) (.faddr 0 (.tmp 5)),
  .f (some 28) (some (24, true)) (.load none (.tmp 27)),
  .k (some 29) (some (24, true)) (.call 36 [(.tmp 26), (.tmp 28)]),
  .f (some 30) none (.pick (.tmp 24) (.tmp 29) (.const (.bool false))),
  .f (some 31) none (.mv (.tmp 30)),
  .f (some 32) (some (31, true)) (.faddr 1 (.tmp 7)),
  .f (some 33) (some (31, true)) (.load none (.tmp 32)),
  .f (some 34) (some (31, true)) (.faddr 1 (.tmp 5)),
  .f (some 35) (some (31, true)) (.load none (.tmp 34)),
  .k (some 36) (some (31, true)) (.call 36 [(.tmp 33), (.tmp 35)]),
  .f (some 37) none (.pick (.tmp 31) (.tmp 36) (.const (.bool false))),
  .k (some 6) none (.asg (.tmp 37))])
.ret)))
theorem fn27 : FnOK Tryd.prog 27 38 c27 [.tmp 6] := .of (by kernel_rfl)
/-! 'dynpos/dynposref08.Check' -/
def c28 : Cd :=
(.seq (.ops [.k (some 5) none (.box 41 3 (.tmp 2)),
  .k (some 6) none (.asg (.const (.bool false)))])
(.seq (.ops [.f (some 10) none (.mv (.tmp 0)),
  .f (some 11) none (.mv (.tmp 1)),
  .k (some 12) none (.call 25 [(.tmp 10), (.tmp 11)]),
  .f (some 9) none (.mv (.tmp 12)),
  .f (some 13) none (.extract 0 (.tmp 9)),
  .f (some 14) none (.extract 1 (.tmp 9)),
  .k (some 7) none (.alloc 41 [(.slice none 0 0), (.slice none 0 0), (.bool false)]),
  .k none none (.store 3 (.tmp 7) (.tmp 13)),
  .k (some 8) none (.asg (.tmp 14))])
(.seq (.ops [.f (some 15) none (.mv (.tmp 8)),
  .f (some 16) none (.bin .eql (.tmp 15) (.const (.int .i64 0))),
  .f (some 17) none (.mv (.tmp 16)),
  .f (some 18) (some (17, true)) (.load (some 3) (.tmp 5)),
  .f (some 19) (some (17, true)) (.load (some 3) (.tmp 7)),
  .k (some 20) (some (17, true)) (.call 26 [(.tmp 18), (.tmp 19)]),
  .f (some 21) none (.pick (.tmp 17) (.tmp 20) (.const (.bool false))),
  .k (some 6) none (.asg (.tmp 21))])
.ret)))
theorem fn28 : FnOK Tryd.prog 28 22 c28 [.tmp 6] := .of (by kernel_rfl)
/-! 'dynpos/dynposref08.Agree' -/
def c29 : Cd :=
(.seq (.ops [.k (some 2) none (.box 26 4 (.tmp 0)),
  .k (some 3) none (.box 26 4 (.tmp 1)),
  .k (some 4) none (.asg (.const (.bool false)))])
(.seq (.ops [.f (some 8) none (.faddr 1 (.tmp 2)),
  .f (some 9) none (.load none (.tmp 8)),
  .f (some 10) none (.faddr 2 (.tmp 2)),
  .f (some 11) none (.load none (.tmp 10)),
  .f (some 12) none (.build [(.int .i64 0), (.int .i64 0)] [(0, 1, (.tmp 9)), (1, 1, (.tmp 11))]),
  .f (some 13) none (.faddr 1 (.tmp 3)),
  .f (some 14) none (.load none (.tmp 13)),
  .f (some 15) none (.faddr 2 (.tmp 3)),
  .f (some 16) none (.load none (.tmp 15)),
  .f (some 17) none (.build [(.int .i64 0), (.int .i64 0)] [(0, 1, (.tmp 14)), (1, 1, (.tmp 16))]),
  .k (some 18) none (.call 41 [(.tmp 12), (.tmp 17)]),
  .f (some 7) none (.mv (.tmp 18)),
  .f (some 19) none (.extract 0 (.tmp 7)),
  .f (some 20) none (.extract 1 (.tmp 7)),
  .k (some 5) none (.asg (.tmp 19)),
  .k (some 6) none (.asg (.tmp 20))])
(.seq (.ops [.f (some 21) none (.mv (.tmp 6)),
  .f (some 22) none (.bin .eql (.tmp 21) (.const (.int .i64 0))),
  .f (some 23) none (.mv (.tmp 22)),
  .f (some 24) (some (23, true)) (.faddr 3 (.tmp 2)),
  .f (some 25) (some (23, true)) (.load none (.tmp 24)),
  .f (some 26) (some (23, true)) (.bin .geq (.tmp 25) (.const (.int .i64 0))),
  .f (some 27) none (.pick (.tmp 23) (.tmp 26) (.const (.bool false))),
  .f (some 28) none (.mv (.tmp 27)),
  .f (some 29) (some (28, true)) (.faddr 3 (.tmp 2)),
  .f (some 30) (some (28, true)) (.load none (.tmp 29)),
  .f (some 31) (some (28, true)) (.bin .leq (.tmp 30) (.const (.int .i64 100000))),
  .f (some 32) none (.pick (.tmp 28) (.tmp 31) (.const (.bool false))),
  .f (some 33) none (.mv (.tmp 32)),
  .f (some 34) (some (33, true)) (.faddr 3 (.tmp 3)),
  .f (some 35) (some (33, true)) (.load none (.tmp 34)),
  .f (some 36) (some (33, true)) (.bin .geq (.tmp 35) (.const (.int .i64 0))),
  .f (some 37) none (.pick (.tmp 33) (.tmp 36) (.const (.bool false))),
  .f (some 38) none (.mv (.tmp 37)),
  .f (some 39) (some (38, true)) (.faddr 3 (.tmp 3)),
  .f (some 40) (some (38, true)) (.load none (.tmp 39)),
  .f (some 41) (some (38, true)) (.bin .leq (.tmp 40) (.const (.int .i64 100000))),
  .f (some 42) none (.pick (.tmp 38) (.tmp 41) (.const (.bool false))),
  .f (some 43) none (.mv (.tmp 42)),
  .f (some 44) (some (43, true)) (.mv (.tmp 5)),
  .f (some 45) (some (43, true)) (.faddr 3 (.tmp 2)),
  .f (some 46) (some (43, true)) (.load none (.tmp 45)),
  .f (some 47) (some (43, true)) (.faddr 3 (.tmp 3)),
  .f (some 48) (some (43, true)) (.load none (.tmp 47)),
  .f (some 49) (some (43, true)) (.bin .add (.tmp 46) (.tmp 48)),
  .f (some 50) (some (43, true)) (.bin .leq (.tmp 44) (.tmp 49)),
  .f (some 51) none (.pick (.tmp 43) (.tmp 50) (.const (.bool false))),
  .k (some 4) none (.asg (.tmp 51))])
.ret)))
theorem fn29 : FnOK Tryd.prog 29 52 c29 [.tmp 4] := .of (by kernel_rfl)
/-! 'dynpos/dynposlaw08.common' -/
def c30_0 : Cd :=
(.block 1
 (.seq (.ops [.f (some 15) none (.iaddr 4 none (.tmp 11) (.tmp 13)),
   .f (some 16) none (.load (some 4) (.tmp 15)),
   .k (some 10) none (.alloc 26 [(.int .i64 0), (.int .i64 0), (.int .i64 0), (.int .i64 0)]),
   .k none none (.store 4 (.tmp 10) (.tmp 16))])
 (.seq (.opd [⟨0, .f (some 17) none (.mv (.tmp 5)), []⟩,
   ⟨1, .f (some 18) none (.faddr 1 (.tmp 10)), []⟩,
   ⟨2, .f (some 19) none (.load none (.tmp 18)), []⟩,
   ⟨3, .f (some 20) none (.faddr 3 (.tmp 10)), []⟩,
   ⟨4, .f (some 21) none (.load none (.tmp 20)), []⟩,
   ⟨5, .f (some 22) none (.bin .sub (.tmp 19) (.tmp 21)), []⟩,
   ⟨6, .f (some 23) none (.mm true [(.tmp 17), (.tmp 22)]), []⟩,
   ⟨7, .f (some 24) none (.mv (.tmp 6)), []⟩,
   ⟨8, .f (some 25) none (.faddr 1 (.tmp 10)), []⟩,
   ⟨9, .f (some 26) none (.load none (.tmp 25)), []⟩,
   ⟨10, .f (some 27) none (.faddr 3 (.tmp 10)), []⟩,
   ⟨11, .f (some 28) none (.load none (.tmp 27)), []⟩,
   ⟨12, .f (some 29) none (.bin .add (.tmp 26) (.tmp 28)), []⟩,
   ⟨13, .f (some 30) none (.mm false [(.tmp 24), (.tmp 29)]), []⟩,
   ⟨14, .k (some 5) none (.asg (.tmp 23)), [.f (some 26) none (.load none (.tmp 25)), .f (some 28) none (.load none (.tmp 27))]⟩,
   ⟨15, .k (some 6) none (.asg (.tmp 30)), []⟩])
 (.opd [⟨0, .f (some 31) none (.mv (.tmp 7)), []⟩,
   ⟨1, .f (some 32) none (.faddr 2 (.tmp 10)), []⟩,
   ⟨2, .f (some 33) none (.load none (.tmp 32)), []⟩,
   ⟨3, .f (some 34) none (.faddr 3 (.tmp 10)), []⟩,
   ⟨4, .f (some 35) none (.load none (.tmp 34)), []⟩,
   ⟨5, .f (some 36) none (.bin .sub (.tmp 33) (.tmp 35)), []⟩,
   ⟨6, .f (some 37) none (.mm true [(.tmp 31), (.tmp 36)]), []⟩,
   ⟨7, .f (some 38) none (.mv (.tmp 8)), []⟩,
   ⟨8, .f (some 39) none (.faddr 2 (.tmp 10)), []⟩,
   ⟨9, .f (some 40) none (.load none (.tmp 39)), []⟩,
   ⟨10, .f (some 41) none (.faddr 3 (.tmp 10)), []⟩,
   ⟨11, .f (some 42) none (.load none (.tmp 41)), []⟩,
   ⟨12, .f (some 43) none (.bin .add (.tmp 40) (.tmp 42)), []⟩,
   ⟨13, .f (some 44) none (.mm false [(.tmp 38), (.tmp 43)]), []⟩,
   ⟨14, .k (some 7) none (.asg (.tmp 37)), [.f (some 40) none (.load none (.tmp 39)), .f (some 42) none (.load none (.tmp 41))]⟩,
   ⟨15, .k (some 8) none (.asg (.tmp 44)), []⟩]))))
def c30 : Cd :=
(.seq (.ops [.k (some 2) none (.asg (.const (.int .i64 0))),
  .k (some 3) none (.asg (.const (.int .i64 0))),
  .k (some 4) none (.asg (.const (.bool false)))])
(.seq (.ops [.k (some 5) none (.asg (.const (.int .i64 (-1099511627776)))),
  .k (some 6) none (.asg (.const (.int .i64 1099511627776))),
  .k (some 7) none (.asg (.const (.int .i64 (-1099511627776)))),
  .k (some 8) none (.asg (.const (.int .i64 1099511627776)))])
(.seq (.seq (.ops [.f (some 11) none (.mv (.tmp 0)),
  .f (some 12) none (.len (.tmp 11)),
  .f (some 13) none (.mv (.const (.int .i64 0)))])
(rangeC 0 13 12 14 45 c30_0))
(.seq (.ops [.f (some 46) none (.mv (.tmp 5)),
  .f (some 47) none (.mv (.tmp 7)),
  .f (some 48) none (.mv (.tmp 5)),
  .f (some 49) none (.mv (.tmp 6)),
  .f (some 50) none (.bin .leq (.tmp 48) (.tmp 49)),
  .f (some 51) none (.mv (.tmp 50)),
  .f (some 52) (some (51, true)) (.mv (.tmp 7)),
  .f (some 53) (some (51, true)) (.mv (.tmp 8)),
  .f (some 54) (some (51, true)) (.bin .leq (.tmp 52) (.tmp 53)),
  .f (some 55) none (.pick (.tmp 51) (.tmp 54) (.const (.bool false))),
  .k (some 2) none (.asg (.tmp 46)),
  .k (some 3) none (.asg (.tmp 47)),
  .k (some 4) none (.asg (.tmp 55))])
.ret))))
theorem fn30 : FnOK Tryd.prog 30 56 c30 [.tmp 2, .tmp 3, .tmp 4] := .of (by kernel_rfl)
/-! 'dynpos/dynposmake.Mod' -/
def c31 : Cd :=
(.seq (.ops [.k (some 4) none (.asg (.const (.int .i64 0)))])
(.seq (.seq (.ops [.f (some 5) none (.mv (.tmp 1)),
  .f (some 6) none (.bin .lss (.tmp 5) (.const (.int .i64 1)))])
(.cond (.tmp 6)
 (.seq (.ops [.k (some 4) none (.asg (.const (.int .i64 0)))])
 .ret)
 .skip))
(.seq (.ops [.f (some 7) none (.mv (.tmp 0)),
  .f (some 8) none (.mv (.tmp 1)),
  .f (some 9) none (.bin .rem (.tmp 7) (.tmp 8)),
  .f (some 10) none (.mv (.tmp 1)),
  .f (some 11) none (.bin .add (.tmp 9) (.tmp 10)),
  .f (some 12) none (.mv (.tmp 1)),
  .f (some 13) none (.bin .rem (.tmp 11) (.tmp 12)),
  .k (some 4) none (.asg (.tmp 13))])
.ret)))
theorem fn31 : FnOK Tryd.prog 31 14 c31 [.tmp 4] := .of (by kernel_rfl)
/-! 'dynpos/frame.Box' -/
def c32 : Cd :=
(.seq (.ops [.k (some 2) none (.box 61 2 (.tmp 0)),
  .k (some 3) none (.box 61 2 (.tmp 1)),
  .k (some 4) none (.asg (.const (.int .i64 0))),
  .k (some 5) none (.asg (.const (.int .i64 0)))])
(.seq (.ops [.f (some 10) none (.load (some 2) (.tmp 2)),
  .f (some 11) none (.load (some 2) (.tmp 3)),
  .k (some 12) none (.call 42 [(.tmp 10), (.tmp 11)]),
  .f (some 9) none (.mv (.tmp 12)),
  .f (some 13) none (.extract 0 (.tmp 9)),
  .f (some 14) none (.extract 1 (.tmp 9)),
  .f (some 15) none (.extract 2 (.tmp 9)),
  .k (some 6) none (.asg (.tmp 13)),
  .k (some 7) none (.asg (.tmp 14)),
  .k (some 8) none (.asg (.tmp 15))])
(.seq (.ops [.f (some 16) none (.mv (.tmp 6)),
  .f (some 17) none (.mv (.tmp 7)),
  .f (some 18) none (.mm true [(.tmp 16), (.tmp 17)]),
  .f (some 19) none (.mv (.tmp 8)),
  .k (some 4) none (.asg (.tmp 18)),
  .k (some 5) none (.asg (.tmp 19))])
.ret)))
theorem fn32 : FnOK Tryd.prog 32 20 c32 [.tmp 4, .tmp 5] := .of (by kernel_rfl)
/-! 'dynpos/vote.sets' -/
def c33_0 : Cd :=
(.seq (.seq (.ops [.f (some 17) none (.mv (.tmp 8)),
  .f (some 18) none (.bin .neq (.tmp 17) (.const (.int .u64 0)))])
(.cond (.tmp 18)
 .skip
 (.exit 2)))
(.seq (.block 3
 (.ops [.f (some 23) none (.mv (.tmp 7)),
   .f (some 24) none (.mv (.tmp 8)),
   .k (some 25) none (.call 43 [(.tmp 24)]),
   .k (some 26) none (.bslice 3 1 1 [(.int .i64 0)] [(0, 1, (.tmp 25))]),
   .k (some 27) none (.append 3 1 8 (.tmp 23) (.tmp 26)),
   .k (some 7) none (.asg (.tmp 27))]))
(.ops [.f (some 19) none (.mv (.tmp 8)),
  .f (some 20) none (.mv (.tmp 8)),
  .f (some 21) none (.bin .sub (.tmp 20) (.const (.int .u64 1))),
  .f (some 22) none (.bin .and (.tmp 19) (.tmp 21)),
  .k (some 8) none (.asg (.tmp 22))])))
def c33_1 : Cd :=
(.seq (.seq (.ops [.f (some 9) none (.mv (.tmp 6)),
  .f (some 10) none (.mv (.tmp 1)),
  .f (some 11) none (.len (.tmp 10)),
  .f (some 12) none (.shf .shl (.const (.int .u64 1)) (.tmp 11)),
  .f (some 13) none (.bin .lss (.tmp 9) (.tmp 12))])
(.cond (.tmp 13)
 .skip
 (.exit 0)))
(.seq (.block 1
 (.seq (.ops [.k (some 7) none (.asg (.const (.slice none 0 0)))])
 (.seq (.seq (.ops [.f (some 16) none (.mv (.tmp 6)),
   .k (some 8) none (.asg (.tmp 16))])
 (.block 2
  (.loop c33_0)))
 (.seq (.ops [.f (some 28) none (.mv (.tmp 1)),
   .f (some 29) none (.mv (.tmp 7)),
   .k (some 30) none (.call 14 [(.tmp 28), (.tmp 29)])])
 (.cond (.tmp 30)
  (.ops [.f (some 31) none (.mv (.tmp 5)),
    .f (some 32) none (.mv (.tmp 7)),
    .f (some 33) none (.mv (.tmp 0)),
    .f (some 34) none (.mv (.tmp 7)),
    .k (some 35) none (.call 24 [(.tmp 33), (.tmp 34)]),
    .f (some 36) none (.build [(.slice none 0 0), (.slice none 0 0)] [(0, 1, (.tmp 32)), (1, 1, (.tmp 35))]),
    .k (some 37) none (.bslice 66 2 1 [(.slice none 0 0), (.slice none 0 0)] [(0, 2, (.tmp 36))]),
    .k (some 38) none (.append 66 2 48 (.tmp 31) (.tmp 37)),
    .k (some 5) none (.asg (.tmp 38))])
  .skip)))))
(.ops [.f (some 14) none (.mv (.tmp 6)),
  .f (some 15) none (.bin .add (.tmp 14) (.const (.int .u64 1))),
  .k (some 6) none (.asg (.tmp 15))])))
def c33 : Cd :=
(.seq (.ops [.k (some 4) none (.asg (.const (.slice none 0 0)))])
(.seq (.ops [.k (some 5) none (.asg (.const (.slice none 0 0)))])
(.seq (.seq (.ops [.k (some 6) none (.asg (.const (.int .u64 0)))])
(.block 0
 (.loop c33_1)))
(.seq (.ops [.f (some 39) none (.mv (.tmp 5)),
  .k (some 4) none (.asg (.tmp 39))])
.ret))))
theorem fn33 : FnOK Tryd.prog 33 40 c33 [.tmp 4] := .of (by kernel_rfl)
/-! 'dynpos/vote.better' -/
def c35 : Cd :=
(.seq (.ops [.k (some 2) none (.box 66 2 (.tmp 0)),
  .k (some 3) none (.box 66 2 (.tmp 1)),
  .k (some 4) none (.asg (.const (.int .i64 0)))])
(.seq (.opd [⟨0, .f (some 5) none (.faddr 1 (.tmp 3)), []⟩,
  ⟨1, .f (some 6) none (.load none (.tmp 5)), []⟩,
  ⟨2, .f (some 7) none (.len (.tmp 6)), []⟩,
  ⟨3, .f (some 8) none (.faddr 1 (.tmp 2)), []⟩,
  ⟨4, .f (some 9) none (.load none (.tmp 8)), []⟩,
  ⟨5, .f (some 10) none (.len (.tmp 9)), []⟩,
  ⟨7, .f (some 12) none (.faddr 0 (.tmp 3)), []⟩,
  ⟨8, .f (some 13) none (.load none (.tmp 12)), []⟩,
  ⟨9, .f (some 14) none (.len (.tmp 13)), []⟩,
  ⟨10, .f (some 15) none (.faddr 0 (.tmp 2)), []⟩,
  ⟨11, .f (some 16) none (.load none (.tmp 15)), []⟩,
  ⟨12, .f (some 17) none (.len (.tmp 16)), []⟩,
  ⟨14, .f (some 19) none (.faddr 0 (.tmp 2)), []⟩,
  ⟨15, .f (some 20) none (.load none (.tmp 19)), []⟩,
  ⟨16, .f (some 21) none (.faddr 0 (.tmp 3)), []⟩,
  ⟨17, .f (some 22) none (.load none (.tmp 21)), []⟩,
  ⟨6, .k (some 11) none (.call 47 [(.tmp 7), (.tmp 10)]), [.f (some 13) none (.load none (.tmp 12)), .f (some 16) none (.load none (.tmp 15)), .f (some 20) none (.load none (.tmp 19)), .f (some 22) none (.load none (.tmp 21))]⟩,
  ⟨13, .k (some 18) none (.call 47 [(.tmp 14), (.tmp 17)]), [.f (some 20) none (.load none (.tmp 19)), .f (some 22) none (.load none (.tmp 21))]⟩,
  ⟨18, .k (some 23) none (.call 48 [(.tmp 20), (.tmp 22)]), []⟩,
  ⟨19, .k (some 24) none (.bslice 3 1 3 [(.int .i64 0)] [(0, 1, (.tmp 11)), (1, 1, (.tmp 18)), (2, 1, (.tmp 23))]), []⟩,
  ⟨20, .k (some 25) none (.call 46 [(.tmp 24)]), []⟩,
  ⟨21, .k (some 4) none (.asg (.tmp 25)), []⟩])
.ret))
theorem fn35 : FnOK Tryd.prog 35 26 c35 [.tmp 4] := .of (by kernel_rfl)
/-! 'slices.Equal[[]int,int]' -/
def c36_0 : Cd :=
(.block 1
 (.seq (.ops [.f (some 15) none (.mv (.tmp 13)),
   .k (some 5) none (.asg (.tmp 15))])
 (.seq (.opd [⟨0, .f (some 16) none (.mv (.tmp 0)), []⟩,
   ⟨1, .f (some 17) none (.mv (.tmp 5)), []⟩,
   ⟨2, .f (some 18) none (.iaddr 1 none (.tmp 16) (.tmp 17)), []⟩,
   ⟨3, .f (some 19) none (.load none (.tmp 18)), []⟩,
   ⟨4, .f (some 20) none (.mv (.tmp 1)), []⟩,
   ⟨5, .f (some 21) none (.mv (.tmp 5)), []⟩,
   ⟨6, .f (some 22) none (.iaddr 1 none (.tmp 20) (.tmp 21)), []⟩,
   ⟨7, .f (some 23) none (.load none (.tmp 22)), []⟩,
   ⟨8, .f (some 24) none (.bin .neq (.tmp 19) (.tmp 23)), []⟩])
 (.cond (.tmp 24)
  (.seq (.ops [.k (some 4) none (.asg (.const (.bool false)))])
  .ret)
  .skip))))
def c36 : Cd :=
(.seq (.ops [.k (some 4) none (.asg (.const (.bool false)))])
(.seq (.seq (.ops [.f (some 6) none (.mv (.tmp 0)),
  .f (some 7) none (.len (.tmp 6)),
  .f (some 8) none (.mv (.tmp 1)),
  .f (some 9) none (.len (.tmp 8)),
  .f (some 10) none (.bin .neq (.tmp 7) (.tmp 9))])
(.cond (.tmp 10)
 (.seq (.ops [.k (some 4) none (.asg (.const (.bool false)))])
 .ret)
 .skip))
(.seq (.seq (.ops [.f (some 11) none (.mv (.tmp 0)),
  .f (some 12) none (.len (.tmp 11)),
  .f (some 13) none (.mv (.const (.int .i64 0)))])
(rangeC 0 13 12 14 25 c36_0))
(.seq (.ops [.k (some 4) none (.asg (.const (.bool true)))])
.ret))))
theorem fn36 : FnOK Tryd.prog 36 26 c36 [.tmp 4] := .of (by kernel_rfl)
/-! 'dynpos/vote.pick[int]' -/
def c37_0 : Cd :=
(.block 1
 (.seq (.ops [.f (some 12) none (.iaddr 1 none (.tmp 8) (.tmp 10)),
   .f (some 13) none (.load none (.tmp 12)),
   .k (some 7) none (.asg (.tmp 13))])
 (.seq (.ops [.f (some 14) none (.mv (.tmp 7)),
   .f (some 15) none (.bin .geq (.tmp 14) (.const (.int .i64 0))),
   .f (some 16) none (.mv (.tmp 15)),
   .f (some 17) (some (16, true)) (.mv (.tmp 7)),
   .f (some 18) (some (16, true)) (.mv (.tmp 0)),
   .f (some 19) (some (16, true)) (.len (.tmp 18)),
   .f (some 20) (some (16, true)) (.bin .lss (.tmp 17) (.tmp 19)),
   .f (some 21) none (.pick (.tmp 16) (.tmp 20) (.const (.bool false)))])
 (.cond (.tmp 21)
  (.ops [.f (some 22) none (.mv (.tmp 5)),
    .f (some 23) none (.mv (.tmp 0)),
    .f (some 24) none (.mv (.tmp 7)),
    .f (some 25) none (.iaddr 1 none (.tmp 23) (.tmp 24)),
    .f (some 26) none (.load none (.tmp 25)),
    .k (some 27) none (.bslice 3 1 1 [(.int .i64 0)] [(0, 1, (.tmp 26))]),
    .k (some 28) none (.append 3 1 8 (.tmp 22) (.tmp 27)),
    .k (some 5) none (.asg (.tmp 28))])
  .skip))))
def c37 : Cd :=
(.seq (.ops [.k (some 4) none (.asg (.const (.slice none 0 0)))])
(.seq (.ops [.k (some 5) none (.asg (.const (.slice none 0 0)))])
(.seq (.seq (.ops [.f (some 8) none (.mv (.tmp 1)),
  .f (some 9) none (.len (.tmp 8)),
  .f (some 10) none (.mv (.const (.int .i64 0)))])
(rangeC 0 10 9 11 29 c37_0))
(.seq (.ops [.f (some 30) none (.mv (.tmp 5)),
  .k (some 4) none (.asg (.tmp 30))])
.ret))))
theorem fn37 : FnOK Tryd.prog 37 31 c37 [.tmp 4] := .of (by kernel_rfl)
/-! 'slices.Sort[[]int,int]' -/
def c38 : Cd :=
(.seq (.ops [.f (some 3) none (.mv (.tmp 0)),
  .f (some 4) none (.len (.tmp 3)),
  .k (some 2) none (.asg (.tmp 4))])
(.ops [.f (some 5) none (.mv (.tmp 0)),
  .f (some 6) none (.mv (.tmp 2)),
  .f (some 7) none (.mv (.tmp 2)),
  .f (some 8) none (.conv .u64 (.tmp 7)),
  .k (some 9) none (.call 45 [(.tmp 8)]),
  .k (some 10) none (.call 49 [(.tmp 5), (.const (.int .i64 0)), (.tmp 6), (.tmp 9)])]))
theorem fn38 : FnOK Tryd.prog 38 11 c38 [] := .of (by kernel_rfl)
/-! 'slices.Compact[[]int,int]' -/
def c39_0 : Cd :=
(.seq (.seq (.ops [.f (some 29) none (.mv (.tmp 5)),
  .f (some 30) none (.mv (.tmp 4)),
  .f (some 31) none (.len (.tmp 30)),
  .f (some 32) none (.bin .lss (.tmp 29) (.tmp 31))])
(.cond (.tmp 32)
 .skip
 (.exit 2)))
(.seq (.block 3
 (.seq (.opd [⟨0, .f (some 35) none (.mv (.tmp 4)), []⟩,
   ⟨1, .f (some 36) none (.mv (.tmp 5)), []⟩,
   ⟨2, .f (some 37) none (.iaddr 1 none (.tmp 35) (.tmp 36)), []⟩,
   ⟨3, .f (some 38) none (.load none (.tmp 37)), []⟩,
   ⟨4, .f (some 39) none (.mv (.tmp 4)), []⟩,
   ⟨5, .f (some 40) none (.mv (.tmp 5)), []⟩,
   ⟨6, .f (some 41) none (.bin .sub (.tmp 40) (.const (.int .i64 1))), []⟩,
   ⟨7, .f (some 42) none (.iaddr 1 none (.tmp 39) (.tmp 41)), []⟩,
   ⟨8, .f (some 43) none (.load none (.tmp 42)), []⟩,
   ⟨9, .f (some 44) none (.bin .neq (.tmp 38) (.tmp 43)), []⟩])
 (.cond (.tmp 44)
  (.seq (.ops [.f (some 45) none (.mv (.tmp 0)),
    .f (some 46) none (.mv (.tmp 3)),
    .f (some 47) none (.mv (.tmp 4)),
    .f (some 48) none (.mv (.tmp 5)),
    .f (some 49) none (.iaddr 1 none (.tmp 47) (.tmp 48)),
    .f (some 50) none (.load none (.tmp 49)),
    .f (some 51) none (.iaddr 1 none (.tmp 45) (.tmp 46)),
    .k none none (.store 1 (.tmp 51) (.tmp 50))])
  (.ops [.f (some 52) none (.mv (.tmp 3)),
    .f (some 53) none (.bin .add (.tmp 52) (.const (.int .i64 1))),
    .k (some 3) none (.asg (.tmp 53))]))
  .skip)))
(.ops [.f (some 33) none (.mv (.tmp 5)),
  .f (some 34) none (.bin .add (.tmp 33) (.const (.int .i64 1))),
  .k (some 5) none (.asg (.tmp 34))])))
def c39_1 : Cd :=
(.seq (.seq (.ops [.f (some 10) none (.mv (.tmp 3)),
  .f (some 11) none (.mv (.tmp 0)),
  .f (some 12) none (.len (.tmp 11)),
  .f (some 13) none (.bin .lss (.tmp 10) (.tmp 12))])
(.cond (.tmp 13)
 .skip
 (.exit 0)))
(.seq (.block 1
 (.seq (.opd [⟨0, .f (some 16) none (.mv (.tmp 0)), []⟩,
   ⟨1, .f (some 17) none (.mv (.tmp 3)), []⟩,
   ⟨2, .f (some 18) none (.iaddr 1 none (.tmp 16) (.tmp 17)), []⟩,
   ⟨3, .f (some 19) none (.load none (.tmp 18)), []⟩,
   ⟨4, .f (some 20) none (.mv (.tmp 0)), []⟩,
   ⟨5, .f (some 21) none (.mv (.tmp 3)), []⟩,
   ⟨6, .f (some 22) none (.bin .sub (.tmp 21) (.const (.int .i64 1))), []⟩,
   ⟨7, .f (some 23) none (.iaddr 1 none (.tmp 20) (.tmp 22)), []⟩,
   ⟨8, .f (some 24) none (.load none (.tmp 23)), []⟩,
   ⟨9, .f (some 25) none (.bin .eql (.tmp 19) (.tmp 24)), []⟩])
 (.cond (.tmp 25)
  (.seq (.ops [.f (some 26) none (.mv (.tmp 0)),
    .f (some 27) none (.mv (.tmp 3)),
    .f (some 28) none (.slc 1 (.tmp 26) (some (.tmp 27)) none none),
    .k (some 4) none (.asg (.tmp 28))])
  (.seq (.seq (.ops [.k (some 5) none (.asg (.const (.int .i64 1)))])
  (.block 2
   (.loop c39_0)))
  (.seq (.ops [.f (some 54) none (.mv (.tmp 0)),
    .f (some 55) none (.mv (.tmp 3)),
    .f (some 56) none (.slc 1 (.tmp 54) (some (.tmp 55)) none none),
    .k none none (.gen (.clr 3) [(.tmp 56)])])
  (.seq (.ops [.f (some 57) none (.mv (.tmp 0)),
    .f (some 58) none (.mv (.tmp 3)),
    .f (some 59) none (.slc 1 (.tmp 57) none (some (.tmp 58)) none),
    .k (some 2) none (.asg (.tmp 59))])
  .ret))))
  .skip)))
(.ops [.f (some 14) none (.mv (.tmp 3)),
  .f (some 15) none (.bin .add (.tmp 14) (.const (.int .i64 1))),
  .k (some 3) none (.asg (.tmp 15))])))
def c39 : Cd :=
(.seq (.ops [.k (some 2) none (.asg (.const (.slice none 0 0)))])
(.seq (.seq (.ops [.f (some 6) none (.mv (.tmp 0)),
  .f (some 7) none (.len (.tmp 6)),
  .f (some 8) none (.bin .lss (.tmp 7) (.const (.int .i64 2)))])
(.cond (.tmp 8)
 (.seq (.ops [.f (some 9) none (.mv (.tmp 0)),
   .k (some 2) none (.asg (.tmp 9))])
 .ret)
 .skip))
(.seq (.seq (.ops [.k (some 3) none (.asg (.const (.int .i64 1)))])
(.block 0
 (.loop c39_1)))
(.seq (.ops [.f (some 60) none (.mv (.tmp 0)),
  .k (some 2) none (.asg (.tmp 60))])
.ret))))
theorem fn39 : FnOK Tryd.prog 39 61 c39 [.tmp 2] := .of (by kernel_rfl)
/-! 'dynpos/dynposref08.lesser' -/
def c40_0 : Cd :=
(.block 1
 (.seq (.ops [.f (some 10) none (.mv (.tmp 8)),
   .k (some 5) none (.asg (.tmp 10))])
 (.seq (.seq (.ops [.f (some 11) none (.mv (.tmp 5)),
   .f (some 12) none (.mv (.tmp 1)),
   .f (some 13) none (.len (.tmp 12)),
   .f (some 14) none (.bin .geq (.tmp 11) (.tmp 13))])
 (.cond (.tmp 14)
  (.seq (.ops [.k (some 4) none (.asg (.const (.bool false)))])
  .ret)
  .skip))
 (.seq (.opd [⟨0, .f (some 15) none (.mv (.tmp 0)), []⟩,
   ⟨1, .f (some 16) none (.mv (.tmp 5)), []⟩,
   ⟨2, .f (some 17) none (.iaddr 1 none (.tmp 15) (.tmp 16)), []⟩,
   ⟨3, .f (some 18) none (.load none (.tmp 17)), []⟩,
   ⟨4, .f (some 19) none (.mv (.tmp 1)), []⟩,
   ⟨5, .f (some 20) none (.mv (.tmp 5)), []⟩,
   ⟨6, .f (some 21) none (.iaddr 1 none (.tmp 19) (.tmp 20)), []⟩,
   ⟨7, .f (some 22) none (.load none (.tmp 21)), []⟩,
   ⟨8, .f (some 23) none (.bin .neq (.tmp 18) (.tmp 22)), []⟩])
 (.cond (.tmp 23)
  (.seq (.opd [⟨0, .f (some 24) none (.mv (.tmp 0)), []⟩,
    ⟨1, .f (some 25) none (.mv (.tmp 5)), []⟩,
    ⟨2, .f (some 26) none (.iaddr 1 none (.tmp 24) (.tmp 25)), []⟩,
    ⟨3, .f (some 27) none (.load none (.tmp 26)), []⟩,
    ⟨4, .f (some 28) none (.mv (.tmp 1)), []⟩,
    ⟨5, .f (some 29) none (.mv (.tmp 5)), []⟩,
    ⟨6, .f (some 30) none (.iaddr 1 none (.tmp 28) (.tmp 29)), []⟩,
    ⟨7, .f (some 31) none (.load none (.tmp 30)), []⟩,
    ⟨8, .f (some 32) none (.bin .lss (.tmp 27) (.tmp 31)), []⟩,
    ⟨9, .k (some 4) none (.asg (.tmp 32)), []⟩])
  .ret)
  .skip)))))
def c40 : Cd :=
(.seq (.ops [.k (some 4) none (.asg (.const (.bool false)))])
(.seq (.seq (.ops [.f (some 6) none (.mv (.tmp 0)),
  .f (some 7) none (.len (.tmp 6)),
  .f (some 8) none (.mv (.const (.int .i64 0)))])
(rangeC 0 8 7 9 33 c40_0))
(.seq (.ops [.f (some 34) none (.mv (.tmp 0)),
  .f (some 35) none (.len (.tmp 34)),
  .f (some 36) none (.mv (.tmp 1)),
  .f (some 37) none (.len (.tmp 36)),
  .f (some 38) none (.bin .lss (.tmp 35) (.tmp 37)),
  .k (some 4) none (.asg (.tmp 38))])
.ret)))
theorem fn40 : FnOK Tryd.prog 40 39 c40 [.tmp 4] := .of (by kernel_rfl)
/-! 'dynpos/dynposref03.Box' -/
def c41 : Cd :=
(.seq (.ops [.k (some 2) none (.box 61 2 (.tmp 0)),
  .k (some 3) none (.box 61 2 (.tmp 1)),
  .k (some 4) none (.asg (.const (.int .i64 0))),
  .k (some 5) none (.asg (.const (.int .i64 0)))])
(.seq (.seq (.ops [.f (some 6) none (.load (some 2) (.tmp 2)),
  .k (some 7) none (.call 50 [(.tmp 6)]),
  .f (some 8) none (.un .not (.tmp 7)),
  .f (some 9) none (.mv (.tmp 8)),
  .f (some 10) (some (9, false)) (.load (some 2) (.tmp 3)),
  .k (some 11) (some (9, false)) (.call 50 [(.tmp 10)]),
  .f (some 12) (some (9, false)) (.un .not (.tmp 11)),
  .f (some 13) none (.pick (.tmp 9) (.const (.bool true)) (.tmp 12))])
(.cond (.tmp 13)
 (.seq (.ops [.k (some 4) none (.asg (.const (.int .i64 0))),
   .k (some 5) none (.asg (.const (.int .i64 1)))])
 .ret)
 .skip))
(.seq (.opd [⟨0, .f (some 14) none (.faddr 0 (.tmp 2)), []⟩,
  ⟨1, .f (some 15) none (.load none (.tmp 14)), []⟩,
  ⟨2, .f (some 16) none (.faddr 0 (.tmp 3)), []⟩,
  ⟨3, .f (some 17) none (.load none (.tmp 16)), []⟩,
  ⟨4, .f (some 18) none (.bin .sub (.tmp 15) (.tmp 17)), []⟩,
  ⟨6, .f (some 20) none (.faddr 1 (.tmp 2)), []⟩,
  ⟨7, .f (some 21) none (.load none (.tmp 20)), []⟩,
  ⟨8, .f (some 22) none (.faddr 1 (.tmp 3)), []⟩,
  ⟨9, .f (some 23) none (.load none (.tmp 22)), []⟩,
  ⟨10, .f (some 24) none (.bin .sub (.tmp 21) (.tmp 23)), []⟩,
  ⟨5, .k (some 19) none (.call 51 [(.tmp 18)]), [.f (some 21) none (.load none (.tmp 20)), .f (some 23) none (.load none (.tmp 22))]⟩,
  ⟨11, .k (some 25) none (.call 51 [(.tmp 24)]), []⟩,
  ⟨12, .f (some 26) none (.mm true [(.tmp 19), (.tmp 25)]), []⟩,
  ⟨13, .k (some 4) none (.asg (.tmp 26)), []⟩,
  ⟨14, .k (some 5) none (.asg (.const (.int .i64 0))), []⟩])
.ret)))
theorem fn41 : FnOK Tryd.prog 41 27 c41 [.tmp 4, .tmp 5] := .of (by kernel_rfl)
/-! 'dynpos/frame.way' -/
def c42 : Cd :=
(.seq (.ops [.k (some 2) none (.box 61 2 (.tmp 0)),
  .k (some 3) none (.box 61 2 (.tmp 1)),
  .k (some 4) none (.asg (.const (.int .i64 0))),
  .k (some 5) none (.asg (.const (.int .i64 0))),
  .k (some 6) none (.asg (.const (.int .i64 0)))])
(.seq (.seq (.ops [.f (some 8) none (.load (some 2) (.tmp 2)),
  .f (some 9) none (.load (some 2) (.tmp 3)),
  .k (some 10) none (.bslice 61 2 2 [(.int .i64 0), (.int .i64 0)] [(0, 2, (.tmp 8)), (2, 2, (.tmp 9))]),
  .k (some 11) none (.call 52 [(.tmp 10)]),
  .k (some 7) none (.asg (.tmp 11))])
(.seq (.ops [.f (some 12) none (.mv (.tmp 7)),
  .f (some 13) none (.bin .neq (.tmp 12) (.const (.int .i64 0)))])
(.cond (.tmp 13)
 (.seq (.ops [.f (some 14) none (.mv (.tmp 7)),
   .k (some 4) none (.asg (.const (.int .i64 0))),
   .k (some 5) none (.asg (.const (.int .i64 0))),
   .k (some 6) none (.asg (.tmp 14))])
 .ret)
 .skip)))
(.seq (.opd [⟨0, .f (some 15) none (.faddr 0 (.tmp 2)), []⟩,
  ⟨1, .f (some 16) none (.load none (.tmp 15)), []⟩,
  ⟨2, .f (some 17) none (.faddr 0 (.tmp 3)), []⟩,
  ⟨3, .f (some 18) none (.load none (.tmp 17)), []⟩,
  ⟨4, .f (some 19) none (.bin .sub (.tmp 16) (.tmp 18)), []⟩,
  ⟨5, .f (some 20) none (.faddr 0 (.tmp 3)), []⟩,
  ⟨6, .f (some 21) none (.load none (.tmp 20)), []⟩,
  ⟨7, .f (some 22) none (.faddr 0 (.tmp 2)), []⟩,
  ⟨8, .f (some 23) none (.load none (.tmp 22)), []⟩,
  ⟨9, .f (some 24) none (.bin .sub (.tmp 21) (.tmp 23)), []⟩,
  ⟨10, .f (some 25) none (.mm true [(.tmp 19), (.tmp 24)]), []⟩,
  ⟨11, .f (some 26) none (.faddr 1 (.tmp 2)), []⟩,
  ⟨12, .f (some 27) none (.load none (.tmp 26)), []⟩,
  ⟨13, .f (some 28) none (.faddr 1 (.tmp 3)), []⟩,
  ⟨14, .f (some 29) none (.load none (.tmp 28)), []⟩,
  ⟨15, .f (some 30) none (.bin .sub (.tmp 27) (.tmp 29)), []⟩,
  ⟨16, .f (some 31) none (.faddr 1 (.tmp 3)), []⟩,
  ⟨17, .f (some 32) none (.load none (.tmp 31)), []⟩,
  ⟨18, .f (some 33) none (.faddr 1 (.tmp 2)), []⟩,
  ⟨19, .f (some 34) none (.load none (.tmp 33)), []⟩,
  ⟨20, .f (some 35) none (.bin .sub (.tmp 32) (.tmp 34)), []⟩,
  ⟨21, .f (some 36) none (.mm true [(.tmp 30), (.tmp 35)]), []⟩,
  ⟨22, .k (some 4) none (.asg (.tmp 25)), [.f (some 27) none (.load none (.tmp 26)), .f (some 29) none (.load none (.tmp 28)), .f (some 32) none (.load none (.tmp 31)), .f (some 34) none (.load none (.tmp 33))]⟩,
  ⟨23, .k (some 5) none (.asg (.tmp 36)), []⟩,
  ⟨24, .k (some 6) none (.asg (.const (.int .i64 0))), []⟩])
.ret)))
theorem fn42 : FnOK Tryd.prog 42 37 c42 [.tmp 4, .tmp 5, .tmp 6] := .of (by kernel_rfl)
/-! 'math/bits.TrailingZeros' -/
def c43 : Cd :=
(.seq (.ops [.k (some 2) none (.asg (.const (.int .i64 0)))])
(.seq (.cond (.const (.bool false))
 (.seq (.ops [.f (some 3) none (.mv (.tmp 0)),
   .f (some 4) none (.conv .u32 (.tmp 3)),
   .k (some 5) none (.call 53 [(.tmp 4)]),
   .k (some 2) none (.asg (.tmp 5))])
 .ret)
 .skip)
(.seq (.ops [.f (some 6) none (.mv (.tmp 0)),
  .k (some 7) none (.call 54 [(.tmp 6)]),
  .k (some 2) none (.asg (.tmp 7))])
.ret)))
theorem fn43 : FnOK Tryd.prog 43 8 c43 [.tmp 2] := .of (by kernel_rfl)
/-! 'math/bits.Len' -/
def c45 : Cd :=
(.seq (.ops [.k (some 2) none (.asg (.const (.int .i64 0)))])
(.seq (.cond (.const (.bool false))
 (.seq (.ops [.f (some 3) none (.mv (.tmp 0)),
   .f (some 4) none (.conv .u32 (.tmp 3)),
   .k (some 5) none (.call 63 [(.tmp 4)]),
   .k (some 2) none (.asg (.tmp 5))])
 .ret)
 .skip)
(.seq (.ops [.f (some 6) none (.mv (.tmp 0)),
  .k (some 7) none (.call 64 [(.tmp 6)]),
  .k (some 2) none (.asg (.tmp 7))])
.ret)))
theorem fn45 : FnOK Tryd.prog 45 8 c45 [.tmp 2] := .of (by kernel_rfl)
/-! 'cmp.Or[int]' -/
def c46_0 : Cd :=
(.block 1
 (.seq (.ops [.f (some 10) none (.iaddr 1 none (.tmp 6) (.tmp 8)),
   .f (some 11) none (.load none (.tmp 10)),
   .k (some 5) none (.asg (.tmp 11))])
 (.seq (.ops [.f (some 12) none (.mv (.tmp 5)),
   .f (some 13) none (.mv (.tmp 3)),
   .f (some 14) none (.bin .neq (.tmp 12) (.tmp 13))])
 (.cond (.tmp 14)
  (.seq (.ops [.f (some 15) none (.mv (.tmp 5)),
    .k (some 2) none (.asg (.tmp 15))])
  .ret)
  .skip))))
def c46 : Cd :=
(.seq (.ops [.k (some 2) none (.asg (.const (.int .i64 0)))])
(.seq (.ops [.k (some 3) none (.asg (.const (.int .i64 0)))])
(.seq (.seq (.ops [.f (some 6) none (.mv (.tmp 0)),
  .f (some 7) none (.len (.tmp 6)),
  .f (some 8) none (.mv (.const (.int .i64 0)))])
(rangeC 0 8 7 9 16 c46_0))
(.seq (.ops [.f (some 17) none (.mv (.tmp 3)),
  .k (some 2) none (.asg (.tmp 17))])
.ret))))
theorem fn46 : FnOK Tryd.prog 46 18 c46 [.tmp 2] := .of (by kernel_rfl)
/-! 'cmp.Compare[int]' -/
def c47 : Cd :=
(.seq (.ops [.k (some 4) none (.asg (.const (.int .i64 0)))])
(.seq (.ops [.f (some 7) none (.mv (.tmp 0)),
  .k (some 8) none (.call 65 [(.tmp 7)]),
  .k (some 5) none (.asg (.tmp 8))])
(.seq (.ops [.f (some 9) none (.mv (.tmp 1)),
  .k (some 10) none (.call 65 [(.tmp 9)]),
  .k (some 6) none (.asg (.tmp 10))])
(.seq (.seq (.ops [.f (some 11) none (.mv (.tmp 5))])
(.cond (.tmp 11)
 (.seq (.seq (.ops [.f (some 12) none (.mv (.tmp 6))])
 (.cond (.tmp 12)
  (.seq (.ops [.k (some 4) none (.asg (.const (.int .i64 0)))])
  .ret)
  .skip))
 (.seq (.ops [.k (some 4) none (.asg (.const (.int .i64 (-1))))])
 .ret))
 .skip))
(.seq (.seq (.ops [.f (some 13) none (.mv (.tmp 6))])
(.cond (.tmp 13)
 (.seq (.ops [.k (some 4) none (.asg (.const (.int .i64 1)))])
 .ret)
 .skip))
(.seq (.seq (.ops [.f (some 14) none (.mv (.tmp 0)),
  .f (some 15) none (.mv (.tmp 1)),
  .f (some 16) none (.bin .lss (.tmp 14) (.tmp 15))])
(.cond (.tmp 16)
 (.seq (.ops [.k (some 4) none (.asg (.const (.int .i64 (-1))))])
 .ret)
 .skip))
(.seq (.seq (.ops [.f (some 17) none (.mv (.tmp 0)),
  .f (some 18) none (.mv (.tmp 1)),
  .f (some 19) none (.bin .gtr (.tmp 17) (.tmp 18))])
(.cond (.tmp 19)
 (.seq (.ops [.k (some 4) none (.asg (.const (.int .i64 1)))])
 .ret)
 .skip))
(.seq (.ops [.k (some 4) none (.asg (.const (.int .i64 0)))])
.ret))))))))
theorem fn47 : FnOK Tryd.prog 47 20 c47 [.tmp 4] := .of (by kernel_rfl)
/-! 'slices.Compare[[]int,int]' -/
def c48_0 : Cd :=
(.block 1
 (.seq (.ops [.f (some 13) none (.mv (.tmp 11)),
   .f (some 14) none (.iaddr 1 none (.tmp 9) (.tmp 11)),
   .f (some 15) none (.load none (.tmp 14)),
   .k (some 5) none (.asg (.tmp 13)),
   .k (some 6) none (.asg (.tmp 15))])
 (.seq (.seq (.ops [.f (some 16) none (.mv (.tmp 5)),
   .f (some 17) none (.mv (.tmp 1)),
   .f (some 18) none (.len (.tmp 17)),
   .f (some 19) none (.bin .geq (.tmp 16) (.tmp 18))])
 (.cond (.tmp 19)
  (.seq (.ops [.k (some 4) none (.asg (.const (.int .i64 1)))])
  .ret)
  .skip))
 (.seq (.ops [.f (some 20) none (.mv (.tmp 1)),
   .f (some 21) none (.mv (.tmp 5)),
   .f (some 22) none (.iaddr 1 none (.tmp 20) (.tmp 21)),
   .f (some 23) none (.load none (.tmp 22)),
   .k (some 7) none (.asg (.tmp 23))])
 (.seq (.ops [.f (some 24) none (.mv (.tmp 6)),
   .f (some 25) none (.mv (.tmp 7)),
   .k (some 26) none (.call 47 [(.tmp 24), (.tmp 25)]),
   .k (some 8) none (.asg (.tmp 26))])
 (.seq (.ops [.f (some 27) none (.mv (.tmp 8)),
   .f (some 28) none (.bin .neq (.tmp 27) (.const (.int .i64 0)))])
 (.cond (.tmp 28)
  (.seq (.ops [.f (some 29) none (.mv (.tmp 8)),
    .k (some 4) none (.asg (.tmp 29))])
  .ret)
  .skip)))))))
def c48 : Cd :=
(.seq (.ops [.k (some 4) none (.asg (.const (.int .i64 0)))])
(.seq (.seq (.ops [.f (some 9) none (.mv (.tmp 0)),
  .f (some 10) none (.len (.tmp 9)),
  .f (some 11) none (.mv (.const (.int .i64 0)))])
(rangeC 0 11 10 12 30 c48_0))
(.seq (.seq (.ops [.f (some 31) none (.mv (.tmp 0)),
  .f (some 32) none (.len (.tmp 31)),
  .f (some 33) none (.mv (.tmp 1)),
  .f (some 34) none (.len (.tmp 33)),
  .f (some 35) none (.bin .lss (.tmp 32) (.tmp 34))])
(.cond (.tmp 35)
 (.seq (.ops [.k (some 4) none (.asg (.const (.int .i64 (-1))))])
 .ret)
 .skip))
(.seq (.ops [.k (some 4) none (.asg (.const (.int .i64 0)))])
.ret))))
theorem fn48 : FnOK Tryd.prog 48 36 c48 [.tmp 4] := .of (by kernel_rfl)
/-! 'slices.pdqsortOrdered[int]' -/
def c49_0 : Cd :=
(.block 1
 (.seq (.ops [.f (some 19) none (.mv (.tmp 2)),
   .f (some 20) none (.mv (.tmp 1)),
   .f (some 21) none (.bin .sub (.tmp 19) (.tmp 20)),
   .k (some 10) none (.asg (.tmp 21))])
 (.seq (.seq (.ops [.f (some 22) none (.mv (.tmp 10)),
   .f (some 23) none (.bin .leq (.tmp 22) (.const (.int .i64 12)))])
 (.cond (.tmp 23)
  (.seq (.ops [.f (some 24) none (.mv (.tmp 0)),
    .f (some 25) none (.mv (.tmp 1)),
    .f (some 26) none (.mv (.tmp 2)),
    .k (some 27) none (.call 66 [(.tmp 24), (.tmp 25), (.tmp 26)])])
  .ret)
  .skip))
 (.seq (.seq (.ops [.f (some 28) none (.mv (.tmp 3)),
   .f (some 29) none (.bin .eql (.tmp 28) (.const (.int .i64 0)))])
 (.cond (.tmp 29)
  (.seq (.ops [.f (some 30) none (.mv (.tmp 0)),
    .f (some 31) none (.mv (.tmp 1)),
    .f (some 32) none (.mv (.tmp 2)),
    .k (some 33) none (.call 67 [(.tmp 30), (.tmp 31), (.tmp 32)])])
  .ret)
  .skip))
 (.seq (.seq (.ops [.f (some 34) none (.mv (.tmp 8)),
   .f (some 35) none (.un .not (.tmp 34))])
 (.cond (.tmp 35)
  (.seq (.ops [.f (some 36) none (.mv (.tmp 0)),
    .f (some 37) none (.mv (.tmp 1)),
    .f (some 38) none (.mv (.tmp 2)),
    .k (some 39) none (.call 68 [(.tmp 36), (.tmp 37), (.tmp 38)])])
  (.ops [.f (some 40) none (.mv (.tmp 3)),
    .f (some 41) none (.bin .sub (.tmp 40) (.const (.int .i64 1))),
    .k (some 3) none (.asg (.tmp 41))]))
  .skip))
 (.seq (.ops [.f (some 43) none (.mv (.tmp 0)),
   .f (some 44) none (.mv (.tmp 1)),
   .f (some 45) none (.mv (.tmp 2)),
   .k (some 46) none (.call 69 [(.tmp 43), (.tmp 44), (.tmp 45)]),
   .f (some 42) none (.mv (.tmp 46)),
   .f (some 47) none (.extract 0 (.tmp 42)),
   .f (some 48) none (.extract 1 (.tmp 42)),
   .k (some 11) none (.asg (.tmp 47)),
   .k (some 12) none (.asg (.tmp 48))])
 (.seq (.seq (.ops [.f (some 49) none (.mv (.tmp 12)),
   .f (some 50) none (.bin .eql (.tmp 49) (.const (.int .i64 2)))])
 (.cond (.tmp 50)
  (.seq (.ops [.f (some 51) none (.mv (.tmp 0)),
    .f (some 52) none (.mv (.tmp 1)),
    .f (some 53) none (.mv (.tmp 2)),
    .k (some 54) none (.call 70 [(.tmp 51), (.tmp 52), (.tmp 53)])])
  (.seq (.ops [.f (some 55) none (.mv (.tmp 2)),
    .f (some 56) none (.bin .sub (.tmp 55) (.const (.int .i64 1))),
    .f (some 57) none (.mv (.tmp 11)),
    .f (some 58) none (.mv (.tmp 1)),
    .f (some 59) none (.bin .sub (.tmp 57) (.tmp 58)),
    .f (some 60) none (.bin .sub (.tmp 56) (.tmp 59)),
    .k (some 11) none (.asg (.tmp 60))])
  (.ops [.k (some 12) none (.asg (.const (.int .i64 1)))])))
  .skip))
 (.seq (.seq (.ops [.f (some 61) none (.mv (.tmp 8)),
   .f (some 62) none (.mv (.tmp 61)),
   .f (some 63) (some (62, true)) (.mv (.tmp 9)),
   .f (some 64) none (.pick (.tmp 62) (.tmp 63) (.const (.bool false))),
   .f (some 65) none (.mv (.tmp 64)),
   .f (some 66) (some (65, true)) (.mv (.tmp 12)),
   .f (some 67) (some (65, true)) (.bin .eql (.tmp 66) (.const (.int .i64 1))),
   .f (some 68) none (.pick (.tmp 65) (.tmp 67) (.const (.bool false)))])
 (.cond (.tmp 68)
  (.seq (.ops [.f (some 69) none (.mv (.tmp 0)),
    .f (some 70) none (.mv (.tmp 1)),
    .f (some 71) none (.mv (.tmp 2)),
    .k (some 72) none (.call 71 [(.tmp 69), (.tmp 70), (.tmp 71)])])
  (.cond (.tmp 72)
   .ret
   .skip))
  .skip))
 (.seq (.seq (.opd [⟨0, .f (some 73) none (.mv (.tmp 1)), []⟩,
   ⟨1, .f (some 74) none (.bin .gtr (.tmp 73) (.const (.int .i64 0))), []⟩,
   ⟨2, .f (some 75) none (.mv (.tmp 74)), []⟩,
   ⟨3, .f (some 76) (some (75, true)) (.mv (.tmp 0)), []⟩,
   ⟨4, .f (some 77) (some (75, true)) (.mv (.tmp 1)), []⟩,
   ⟨5, .f (some 78) (some (75, true)) (.bin .sub (.tmp 77) (.const (.int .i64 1))), []⟩,
   ⟨6, .f (some 79) (some (75, true)) (.iaddr 1 none (.tmp 76) (.tmp 78)), []⟩,
   ⟨7, .f (some 80) (some (75, true)) (.load none (.tmp 79)), []⟩,
   ⟨8, .f (some 81) (some (75, true)) (.mv (.tmp 0)), []⟩,
   ⟨9, .f (some 82) (some (75, true)) (.mv (.tmp 11)), []⟩,
   ⟨10, .f (some 83) (some (75, true)) (.iaddr 1 none (.tmp 81) (.tmp 82)), []⟩,
   ⟨11, .f (some 84) (some (75, true)) (.load none (.tmp 83)), []⟩,
   ⟨12, .k (some 85) (some (75, true)) (.call 72 [(.tmp 80), (.tmp 84)]), []⟩,
   ⟨13, .f (some 86) (some (75, true)) (.un .not (.tmp 85)), []⟩,
   ⟨14, .f (some 87) none (.pick (.tmp 75) (.tmp 86) (.const (.bool false))), []⟩])
 (.cond (.tmp 87)
  (.seq (.ops [.f (some 88) none (.mv (.tmp 0)),
    .f (some 89) none (.mv (.tmp 1)),
    .f (some 90) none (.mv (.tmp 2)),
    .f (some 91) none (.mv (.tmp 11)),
    .k (some 92) none (.call 73 [(.tmp 88), (.tmp 89), (.tmp 90), (.tmp 91)]),
    .k (some 13) none (.asg (.tmp 92))])
  (.seq (.ops [.f (some 93) none (.mv (.tmp 13)),
    .k (some 1) none (.asg (.tmp 93))])
  (.exit 1)))
  .skip))
 (.seq (.ops [.f (some 95) none (.mv (.tmp 0)),
   .f (some 96) none (.mv (.tmp 1)),
   .f (some 97) none (.mv (.tmp 2)),
   .f (some 98) none (.mv (.tmp 11)),
   .k (some 99) none (.call 74 [(.tmp 95), (.tmp 96), (.tmp 97), (.tmp 98)]),
   .f (some 94) none (.mv (.tmp 99)),
   .f (some 100) none (.extract 0 (.tmp 94)),
   .f (some 101) none (.extract 1 (.tmp 94)),
   .k (some 14) none (.asg (.tmp 100)),
   .k (some 15) none (.asg (.tmp 101))])
 (.seq (.ops [.f (some 102) none (.mv (.tmp 15)),
   .k (some 9) none (.asg (.tmp 102))])
 (.seq (.ops [.f (some 103) none (.mv (.tmp 14)),
   .f (some 104) none (.mv (.tmp 1)),
   .f (some 105) none (.bin .sub (.tmp 103) (.tmp 104)),
   .f (some 106) none (.mv (.tmp 2)),
   .f (some 107) none (.mv (.tmp 14)),
   .f (some 108) none (.bin .sub (.tmp 106) (.tmp 107)),
   .k (some 16) none (.asg (.tmp 105)),
   .k (some 17) none (.asg (.tmp 108))])
 (.seq (.ops [.f (some 109) none (.mv (.tmp 10)),
   .f (some 110) none (.bin .quo (.tmp 109) (.const (.int .i64 8))),
   .k (some 18) none (.asg (.tmp 110))])
 (.seq (.ops [.f (some 111) none (.mv (.tmp 16)),
   .f (some 112) none (.mv (.tmp 17)),
   .f (some 113) none (.bin .lss (.tmp 111) (.tmp 112))])
 (.cond (.tmp 113)
  (.seq (.ops [.f (some 114) none (.mv (.tmp 16)),
    .f (some 115) none (.mv (.tmp 18)),
    .f (some 116) none (.bin .geq (.tmp 114) (.tmp 115)),
    .k (some 8) none (.asg (.tmp 116))])
  (.seq (.ops [.f (some 117) none (.mv (.tmp 0)),
    .f (some 118) none (.mv (.tmp 1)),
    .f (some 119) none (.mv (.tmp 14)),
    .f (some 120) none (.mv (.tmp 3)),
    .k (some 121) none (.call 49 [(.tmp 117), (.tmp 118), (.tmp 119), (.tmp 120)])])
  (.ops [.f (some 122) none (.mv (.tmp 14)),
    .f (some 123) none (.bin .add (.tmp 122) (.const (.int .i64 1))),
    .k (some 1) none (.asg (.tmp 123))])))
  (.seq (.ops [.f (some 124) none (.mv (.tmp 17)),
    .f (some 125) none (.mv (.tmp 18)),
    .f (some 126) none (.bin .geq (.tmp 124) (.tmp 125)),
    .k (some 8) none (.asg (.tmp 126))])
  (.seq (.ops [.f (some 127) none (.mv (.tmp 0)),
    .f (some 128) none (.mv (.tmp 14)),
    .f (some 129) none (.bin .add (.tmp 128) (.const (.int .i64 1))),
    .f (some 130) none (.mv (.tmp 2)),
    .f (some 131) none (.mv (.tmp 3)),
    .k (some 132) none (.call 49 [(.tmp 127), (.tmp 129), (.tmp 130), (.tmp 131)])])
  (.ops [.f (some 133) none (.mv (.tmp 14)),
    .k (some 2) none (.asg (.tmp 133))]))))))))))))))))))
def c49 : Cd :=
(.seq (.ops [.k (some 8) none (.asg (.const (.bool true)))])
(.seq (.ops [.k (some 9) none (.asg (.const (.bool true)))])
(.block 0
 (.loop c49_0))))
theorem fn49 : FnOK Tryd.prog 49 134 c49 [] := .of (by kernel_rfl)
/-! 'dynpos/dynposref03.Valid' -/
def c50 : Cd :=
(.seq (.ops [.k (some 1) none (.box 61 2 (.tmp 0)),
  .k (some 2) none (.asg (.const (.bool false)))])
(.seq (.ops [.f (some 3) none (.faddr 0 (.tmp 1)),
  .f (some 4) none (.load none (.tmp 3)),
  .f (some 5) none (.bin .geq (.tmp 4) (.const (.int .i64 (-100000000)))),
  .f (some 6) none (.mv (.tmp 5)),
  .f (some 7) (some (6, true)) (.faddr 0 (.tmp 1)),
  .f (some 8) (some (6, true)) (.load none (.tmp 7)),
  .f (some 9) (some (6, true)) (.bin .leq (.tmp 8) (.const (.int .i64 100000000))),
  .f (some 10) none (.pick (.tmp 6) (.tmp 9) (.const (.bool false))),
  .f (some 11) none (.mv (.tmp 10)),
  .f (some 12) (some (11, true)) (.faddr 1 (.tmp 1)),
  .f (some 13) (some (11, true)) (.load none (.tmp 12)),
  .f (some 14) (some (11, true)) (.bin .geq (.tmp 13) (.const (.int .i64 (-100000000)))),
  .f (some 15) none (.pick (.tmp 11) (.tmp 14) (.const (.bool false))),
  .f (some 16) none (.mv (.tmp 15)),
  .f (some 17) (some (16, true)) (.faddr 1 (.tmp 1)),
  .f (some 18) (some (16, true)) (.load none (.tmp 17)),
  .f (some 19) (some (16, true)) (.bin .leq (.tmp 18) (.const (.int .i64 100000000))),
  .f (some 20) none (.pick (.tmp 16) (.tmp 19) (.const (.bool false))),
  .k (some 2) none (.asg (.tmp 20))])
.ret))
theorem fn50 : FnOK Tryd.prog 50 21 c50 [.tmp 2] := .of (by kernel_rfl)
/-! 'dynpos/dynposref03.abs' -/
def c51 : Cd :=
(.seq (.ops [.k (some 2) none (.asg (.const (.int .i64 0)))])
(.seq (.seq (.ops [.f (some 3) none (.mv (.tmp 0)),
  .f (some 4) none (.bin .lss (.tmp 3) (.const (.int .i64 0)))])
(.cond (.tmp 4)
 (.seq (.ops [.f (some 5) none (.mv (.tmp 0)),
   .f (some 6) none (.un .neg (.tmp 5)),
   .k (some 2) none (.asg (.tmp 6))])
 .ret)
 .skip))
(.seq (.ops [.f (some 7) none (.mv (.tmp 0)),
  .k (some 2) none (.asg (.tmp 7))])
.ret)))
theorem fn51 : FnOK Tryd.prog 51 8 c51 [.tmp 2] := .of (by kernel_rfl)
/-! 'dynpos/frame.valid' -/
def c52_0 : Cd :=
(.block 1
 (.seq (.ops [.f (some 9) none (.iaddr 2 none (.tmp 5) (.tmp 7)),
   .f (some 10) none (.load (some 2) (.tmp 9)),
   .k (some 4) none (.alloc 61 [(.int .i64 0), (.int .i64 0)]),
   .k none none (.store 2 (.tmp 4) (.tmp 10))])
 (.seq (.ops [.f (some 11) none (.load (some 2) (.tmp 4)),
   .k (some 12) none (.call 75 [(.tmp 11)]),
   .f (some 13) none (.un .not (.tmp 12))])
 (.cond (.tmp 13)
  (.seq (.ops [.k (some 2) none (.asg (.const (.int .i64 1)))])
  .ret)
  .skip))))
def c52 : Cd :=
(.seq (.ops [.k (some 2) none (.asg (.const (.int .i64 0)))])
(.seq (.seq (.ops [.f (some 5) none (.mv (.tmp 0)),
  .f (some 6) none (.len (.tmp 5)),
  .f (some 7) none (.mv (.const (.int .i64 0)))])
(rangeC 0 7 6 8 14 c52_0))
(.seq (.ops [.k (some 2) none (.asg (.const (.int .i64 0)))])
.ret)))
theorem fn52 : FnOK Tryd.prog 52 15 c52 [.tmp 2] := .of (by kernel_rfl)
/-! 'math/bits.TrailingZeros64' -/
def c54 : Cd :=
(.seq (.ops [.k (some 2) none (.asg (.const (.int .i64 0)))])
(.seq (.seq (.ops [.f (some 3) none (.mv (.tmp 0)),
  .f (some 4) none (.bin .eql (.tmp 3) (.const (.int .u64 0)))])
(.cond (.tmp 4)
 (.seq (.ops [.k (some 2) none (.asg (.const (.int .i64 64)))])
 .ret)
 .skip))
(.seq (.ops [.f (some 5) none (.mv (.tmp 0)),
  .f (some 6) none (.mv (.tmp 0)),
  .f (some 7) none (.un .neg (.tmp 6)),
  .f (some 8) none (.bin .and (.tmp 5) (.tmp 7)),
  .f (some 9) none (.bin .mul (.tmp 8) (.const (.int .u64 285870213051353865))),
  .f (some 10) none (.shf .shr (.tmp 9) (.const (.int .u64 58))),
  .f (some 11) none (.iaddr 1 (some 64) (.global 1) (.tmp 10)),
  .f (some 12) none (.load none (.tmp 11)),
  .f (some 13) none (.conv .i64 (.tmp 12)),
  .k (some 2) none (.asg (.tmp 13))])
.ret)))
theorem fn54 : FnOK Tryd.prog 54 14 c54 [.tmp 2] := .of (by kernel_rfl)
/-! 'math/bits.Len64' -/
def c64 : Cd :=
(.seq (.ops [.k (some 2) none (.asg (.const (.int .i64 0)))])
(.seq (.seq (.ops [.f (some 3) none (.mv (.tmp 0)),
  .f (some 4) none (.bin .geq (.tmp 3) (.const (.int .u64 4294967296)))])
(.cond (.tmp 4)
 (.seq (.ops [.f (some 5) none (.mv (.tmp 0)),
   .f (some 6) none (.shf .shr (.tmp 5) (.const (.int .u64 32))),
   .k (some 0) none (.asg (.tmp 6))])
 (.ops [.k (some 2) none (.asg (.const (.int .i64 32)))]))
 .skip))
(.seq (.seq (.ops [.f (some 7) none (.mv (.tmp 0)),
  .f (some 8) none (.bin .geq (.tmp 7) (.const (.int .u64 65536)))])
(.cond (.tmp 8)
 (.seq (.ops [.f (some 9) none (.mv (.tmp 0)),
   .f (some 10) none (.shf .shr (.tmp 9) (.const (.int .u64 16))),
   .k (some 0) none (.asg (.tmp 10))])
 (.ops [.f (some 11) none (.mv (.tmp 2)),
   .f (some 12) none (.bin .add (.tmp 11) (.const (.int .i64 16))),
   .k (some 2) none (.asg (.tmp 12))]))
 .skip))
(.seq (.seq (.ops [.f (some 13) none (.mv (.tmp 0)),
  .f (some 14) none (.bin .geq (.tmp 13) (.const (.int .u64 256)))])
(.cond (.tmp 14)
 (.seq (.ops [.f (some 15) none (.mv (.tmp 0)),
   .f (some 16) none (.shf .shr (.tmp 15) (.const (.int .u64 8))),
   .k (some 0) none (.asg (.tmp 16))])
 (.ops [.f (some 17) none (.mv (.tmp 2)),
   .f (some 18) none (.bin .add (.tmp 17) (.const (.int .i64 8))),
   .k (some 2) none (.asg (.tmp 18))]))
 .skip))
(.seq (.ops [.f (some 19) none (.mv (.tmp 2)),
  .f (some 20) none (.mv (.tmp 0)),
  .f (some 21) none (.conv .u8 (.tmp 20)),
  .f (some 22) none (.sidx (.const (.string ⟨#[0, 1, 2, 2, 3, 3, 3, 3, 4, 4, 4, 4, 4, 4, 4, 4, 5, 5, 5, 5, 5, 5, 5, 5, 5, 5, 5, 5, 5, 5, 5, 5, 6, 6, 6, 6, 6, 6, 6, 6, 6, 6, 6, 6, 6, 6, 6, 6, 6, 6, 6, 6, 6, 6, 6, 6, 6, 6, 6, 6, 6, 6, 6, 6, 7, 7, 7, 7, 7, 7, 7, 7, 7, 7, 7, 7, 7, 7, 7, 7, 7, 7, 7, 7, 7, 7, 7, 7, 7, 7, 7, 7, 7, 7, 7, 7, 7, 7, 7, 7, 7, 7, 7, 7, 7, 7, 7, 7, 7, 7, 7, 7, 7, 7, 7, 7, 7, 7, 7, 7, 7, 7, 7, 7, 7, 7, 7, 7, 8, 8, 8, 8, 8, 8, 8, 8, 8, 8, 8, 8, 8, 8, 8, 8, 8, 8, 8, 8, 8, 8, 8, 8, 8, 8, 8, 8, 8, 8, 8, 8, 8, 8, 8, 8, 8, 8, 8, 8, 8, 8, 8, 8, 8, 8, 8, 8, 8, 8, 8, 8, 8, 8, 8, 8, 8, 8, 8, 8, 8, 8, 8, 8, 8, 8, 8, 8, 8, 8, 8, 8, 8, 8, 8, 8, 8, 8, 8, 8, 8, 8, 8, 8, 8, 8, 8, 8, 8, 8, 8, 8, 8, 8, 8, 8, 8, 8, 8, 8, 8, 8, 8, 8, 8, 8, 8, 8, 8, 8, 8, 8, 8, 8, 8, 8, 8, 8, 8, 8, 8, 8, 8, 8, 8, 8, 8, 8]⟩)) (.tmp 21)),
  .f (some 23) none (.conv .i64 (.tmp 22)),
  .f (some 24) none (.bin .add (.tmp 19) (.tmp 23)),
  .k (some 2) none (.asg (.tmp 24))])
.ret)))))
theorem fn64 : FnOK Tryd.prog 64 25 c64 [.tmp 2] := .of (by kernel_rfl)
/-! 'cmp.isNaN[int]' -/
def c65 : Cd :=
(.seq (.ops [.k (some 2) none (.asg (.const (.bool false)))])
(.seq (.ops [.f (some 3) none (.mv (.tmp 0)),
  .f (some 4) none (.mv (.tmp 0)),
  .f (some 5) none (.bin .neq (.tmp 3) (.tmp 4)),
  .k (some 2) none (.asg (.tmp 5))])
.ret))
theorem fn65 : FnOK Tryd.prog 65 6 c65 [.tmp 2] := .of (by kernel_rfl)
/-! 'slices.insertionSortOrdered[int]' -/
def c66_0 : Cd :=
(.seq (.seq (.opd [⟨0, .f (some 16) none (.mv (.tmp 7)), []⟩,
  ⟨1, .f (some 17) none (.mv (.tmp 1)), []⟩,
  ⟨2, .f (some 18) none (.bin .gtr (.tmp 16) (.tmp 17)), []⟩,
  ⟨3, .f (some 19) none (.mv (.tmp 18)), []⟩,
  ⟨4, .f (some 20) (some (19, true)) (.mv (.tmp 0)), []⟩,
  ⟨5, .f (some 21) (some (19, true)) (.mv (.tmp 7)), []⟩,
  ⟨6, .f (some 22) (some (19, true)) (.iaddr 1 none (.tmp 20) (.tmp 21)), []⟩,
  ⟨7, .f (some 23) (some (19, true)) (.load none (.tmp 22)), []⟩,
  ⟨8, .f (some 24) (some (19, true)) (.mv (.tmp 0)), []⟩,
  ⟨9, .f (some 25) (some (19, true)) (.mv (.tmp 7)), []⟩,
  ⟨10, .f (some 26) (some (19, true)) (.bin .sub (.tmp 25) (.const (.int .i64 1))), []⟩,
  ⟨11, .f (some 27) (some (19, true)) (.iaddr 1 none (.tmp 24) (.tmp 26)), []⟩,
  ⟨12, .f (some 28) (some (19, true)) (.load none (.tmp 27)), []⟩,
  ⟨13, .k (some 29) (some (19, true)) (.call 72 [(.tmp 23), (.tmp 28)]), []⟩,
  ⟨14, .f (some 30) none (.pick (.tmp 19) (.tmp 29) (.const (.bool false))), []⟩])
(.cond (.tmp 30)
 .skip
 (.exit 2)))
(.seq (.block 3
 (.opd [⟨0, .f (some 33) none (.mv (.tmp 0)), []⟩,
   ⟨1, .f (some 34) none (.mv (.tmp 7)), []⟩,
   ⟨2, .f (some 35) none (.mv (.tmp 0)), []⟩,
   ⟨3, .f (some 36) none (.mv (.tmp 7)), []⟩,
   ⟨4, .f (some 37) none (.bin .sub (.tmp 36) (.const (.int .i64 1))), []⟩,
   ⟨5, .f (some 38) none (.mv (.tmp 0)), []⟩,
   ⟨6, .f (some 39) none (.mv (.tmp 7)), []⟩,
   ⟨7, .f (some 40) none (.bin .sub (.tmp 39) (.const (.int .i64 1))), []⟩,
   ⟨8, .f (some 41) none (.iaddr 1 none (.tmp 38) (.tmp 40)), []⟩,
   ⟨9, .f (some 42) none (.load none (.tmp 41)), []⟩,
   ⟨10, .f (some 43) none (.mv (.tmp 0)), []⟩,
   ⟨11, .f (some 44) none (.mv (.tmp 7)), []⟩,
   ⟨12, .f (some 45) none (.iaddr 1 none (.tmp 43) (.tmp 44)), []⟩,
   ⟨13, .f (some 46) none (.load none (.tmp 45)), []⟩,
   ⟨14, .f (some 47) none (.iaddr 1 none (.tmp 33) (.tmp 34)), []⟩,
   ⟨15, .k none none (.store 1 (.tmp 47) (.tmp 42)), []⟩,
   ⟨16, .f (some 48) none (.iaddr 1 none (.tmp 35) (.tmp 37)), []⟩,
   ⟨17, .k none none (.store 1 (.tmp 48) (.tmp 46)), []⟩]))
(.ops [.f (some 31) none (.mv (.tmp 7)),
  .f (some 32) none (.bin .sub (.tmp 31) (.const (.int .i64 1))),
  .k (some 7) none (.asg (.tmp 32))])))
def c66_1 : Cd :=
(.seq (.seq (.ops [.f (some 10) none (.mv (.tmp 6)),
  .f (some 11) none (.mv (.tmp 2)),
  .f (some 12) none (.bin .lss (.tmp 10) (.tmp 11))])
(.cond (.tmp 12)
 .skip
 (.exit 0)))
(.seq (.block 1
 (.seq (.ops [.f (some 15) none (.mv (.tmp 6)),
   .k (some 7) none (.asg (.tmp 15))])
 (.block 2
  (.loop c66_0))))
(.ops [.f (some 13) none (.mv (.tmp 6)),
  .f (some 14) none (.bin .add (.tmp 13) (.const (.int .i64 1))),
  .k (some 6) none (.asg (.tmp 14))])))
def c66 : Cd :=
(.seq (.ops [.f (some 8) none (.mv (.tmp 1)),
  .f (some 9) none (.bin .add (.tmp 8) (.const (.int .i64 1))),
  .k (some 6) none (.asg (.tmp 9))])
(.block 0
 (.loop c66_1)))
theorem fn66 : FnOK Tryd.prog 66 49 c66 [] := .of (by kernel_rfl)
/-! 'cmp.Less[int]' -/
def c72 : Cd :=
(.seq (.ops [.k (some 4) none (.asg (.const (.bool false)))])
(.seq (.ops [.f (some 5) none (.mv (.tmp 0)),
  .k (some 6) none (.call 65 [(.tmp 5)]),
  .f (some 7) none (.mv (.tmp 6)),
  .f (some 8) (some (7, true)) (.mv (.tmp 1)),
  .k (some 9) (some (7, true)) (.call 65 [(.tmp 8)]),
  .f (some 10) (some (7, true)) (.un .not (.tmp 9)),
  .f (some 11) none (.pick (.tmp 7) (.tmp 10) (.const (.bool false))),
  .f (some 12) none (.mv (.tmp 11)),
  .f (some 13) (some (12, false)) (.mv (.tmp 0)),
  .f (some 14) (some (12, false)) (.mv (.tmp 1)),
  .f (some 15) (some (12, false)) (.bin .lss (.tmp 13) (.tmp 14)),
  .f (some 16) none (.pick (.tmp 12) (.const (.bool true)) (.tmp 15)),
  .k (some 4) none (.asg (.tmp 16))])
.ret))
theorem fn72 : FnOK Tryd.prog 72 17 c72 [.tmp 4] := .of (by kernel_rfl)
/-! 'dynpos/frame.Valid' -/
def c75 : Cd :=
(.seq (.ops [.k (some 1) none (.box 61 2 (.tmp 0)),
  .k (some 2) none (.asg (.const (.bool false)))])
(.seq (.ops [.f (some 3) none (.faddr 0 (.tmp 1)),
  .f (some 4) none (.load none (.tmp 3)),
  .f (some 5) none (.faddr 1 (.tmp 1)),
  .f (some 6) none (.load none (.tmp 5)),
  .f (some 7) none (.mm true [(.tmp 4), (.tmp 6)]),
  .f (some 8) none (.bin .leq (.tmp 7) (.const (.int .i64 100000000))),
  .f (some 9) none (.mv (.tmp 8)),
  .f (some 10) (some (9, true)) (.faddr 0 (.tmp 1)),
  .f (some 11) (some (9, true)) (.load none (.tmp 10)),
  .f (some 12) (some (9, true)) (.faddr 1 (.tmp 1)),
  .f (some 13) (some (9, true)) (.load none (.tmp 12)),
  .f (some 14) (some (9, true)) (.mm false [(.tmp 11), (.tmp 13)]),
  .f (some 15) (some (9, true)) (.bin .geq (.tmp 14) (.const (.int .i64 (-100000000)))),
  .f (some 16) none (.pick (.tmp 9) (.tmp 15) (.const (.bool false))),
  .k (some 2) none (.asg (.tmp 16))])
.ret))
theorem fn75 : FnOK Tryd.prog 75 17 c75 [.tmp 2] := .of (by kernel_rfl)
end Go.Proofs.YtnbfcknhohdeeaaDoor.H
