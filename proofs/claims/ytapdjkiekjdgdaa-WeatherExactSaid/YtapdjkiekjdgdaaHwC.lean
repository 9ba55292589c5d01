/- Chapter 22: the compact code. -/
import Derived.Test.YtapdjkiekjdgdaaHxA
import Derived.Test.YtapdjkiekjdgdaaRows
set_option linter.unusedSimpArgs false
set_option linter.unusedVariables false
set_option maxRecDepth 100000
namespace Go.Proofs.Ytapdjkiekjdgdaa.H
/-! 'dynpos/dynposlaw22.WeatherBetween' -/
def c3 : Cd :=
(.seq (.ops [.k (some 4) none (.asg (.const (.bool false)))])
(.seq (.seq (.ops [.f (some 12) none (.mv (.tmp 0)),
  .f (some 13) none (.len (.tmp 12)),
  .f (some 14) none (.bin .gtr (.tmp 13) (.const (.int .i64 600)))])
(.cond (.tmp 14)
 (.seq (.ops [.k (some 15) none (.call 9 []),
   .k (some 4) none (.asg (.tmp 15))])
 .ret)
 .skip))
(.seq (.ops [.f (some 16) none (.mv (.tmp 0)),
  .k (some 17) none (.call 10 [(.tmp 16)]),
  .k (some 5) none (.asg (.tmp 17))])
(.seq (.ops [.f (some 18) none (.mv (.tmp 5)),
  .k (some 19) none (.call 11 [(.tmp 18)]),
  .f (some 20) none (.field 2 none (.tmp 19)),
  .k (some 6) none (.asg (.tmp 20))])
(.seq (.ops [.f (some 21) none (.mv (.tmp 1)),
  .k (some 22) none (.call 12 [(.tmp 21), (.const (.int .i64 3600))]),
  .k (some 7) none (.asg (.tmp 22))])
(.seq (.ops [.f (some 23) none (.mv (.tmp 7)),
  .f (some 24) none (.bin .quo (.tmp 23) (.const (.int .i64 300))),
  .k (some 8) none (.asg (.tmp 24))])
(.seq (.opd [⟨0, .f (some 25) none (.mv (.tmp 6)), []⟩,
  ⟨1, .f (some 26) none (.mv (.tmp 8)), []⟩,
  ⟨2, .f (some 27) none (.iaddr 1 none (.tmp 25) (.tmp 26)), []⟩,
  ⟨3, .f (some 28) none (.load none (.tmp 27)), []⟩,
  ⟨4, .f (some 29) none (.mv (.tmp 6)), []⟩,
  ⟨5, .f (some 30) none (.mv (.tmp 8)), []⟩,
  ⟨6, .f (some 31) none (.bin .add (.tmp 30) (.const (.int .i64 1))), []⟩,
  ⟨7, .f (some 32) none (.bin .rem (.tmp 31) (.const (.int .i64 12))), []⟩,
  ⟨8, .f (some 33) none (.iaddr 1 none (.tmp 29) (.tmp 32)), []⟩,
  ⟨9, .f (some 34) none (.load none (.tmp 33)), []⟩,
  ⟨10, .f (some 35) none (.mv (.tmp 6)), []⟩,
  ⟨11, .f (some 36) none (.mv (.tmp 7)), []⟩,
  ⟨12, .k (some 37) none (.call 13 [(.tmp 35), (.tmp 36)]), [.f (some 27) none (.iaddr 1 none (.tmp 25) (.tmp 26)), .f (some 28) none (.load none (.tmp 27)), .f (some 33) none (.iaddr 1 none (.tmp 29) (.tmp 32)), .f (some 34) none (.load none (.tmp 33))]⟩,
  ⟨13, .k (some 9) none (.asg (.tmp 28)), [.f (some 33) none (.iaddr 1 none (.tmp 29) (.tmp 32)), .f (some 34) none (.load none (.tmp 33))]⟩,
  ⟨14, .k (some 10) none (.asg (.tmp 34)), []⟩,
  ⟨15, .k (some 11) none (.asg (.tmp 37)), []⟩])
(.seq (.ops [.f (some 38) none (.mv (.tmp 11)),
  .f (some 39) none (.mv (.tmp 9)),
  .f (some 40) none (.mv (.tmp 10)),
  .f (some 41) none (.mm false [(.tmp 39), (.tmp 40)]),
  .f (some 42) none (.bin .geq (.tmp 38) (.tmp 41)),
  .f (some 43) none (.mv (.tmp 42)),
  .f (some 44) (some (43, true)) (.mv (.tmp 11)),
  .f (some 45) (some (43, true)) (.mv (.tmp 9)),
  .f (some 46) (some (43, true)) (.mv (.tmp 10)),
  .f (some 47) (some (43, true)) (.mm true [(.tmp 45), (.tmp 46)]),
  .f (some 48) (some (43, true)) (.bin .leq (.tmp 44) (.tmp 47)),
  .f (some 49) none (.pick (.tmp 43) (.tmp 48) (.const (.bool false))),
  .f (some 50) none (.mv (.tmp 49)),
  .f (some 51) (some (50, true)) (.mv (.tmp 6)),
  .f (some 52) (some (50, true)) (.mv (.tmp 8)),
  .f (some 53) (some (50, true)) (.bin .mul (.const (.int .i64 300)) (.tmp 52)),
  .k (some 54) (some (50, true)) (.call 13 [(.tmp 51), (.tmp 53)]),
  .f (some 55) (some (50, true)) (.mv (.tmp 9)),
  .f (some 56) (some (50, true)) (.bin .eql (.tmp 54) (.tmp 55)),
  .f (some 57) none (.pick (.tmp 50) (.tmp 56) (.const (.bool false))),
  .f (some 58) none (.mv (.tmp 57)),
  .k (some 59) (some (58, true)) (.call 9 []),
  .f (some 60) none (.pick (.tmp 58) (.tmp 59) (.const (.bool false))),
  .k (some 4) none (.asg (.tmp 60))])
.ret))))))))
theorem fn3 : FnOK Try.prog 3 61 c3 [.tmp 4] := .of (by kernel_rfl)
/-! 'dynpos/dynposlaw22.WeatherMirror' -/
def c4_0 : Cd :=
(.block 1
 (.seq (.ops [.f (some 29) none (.mv (.tmp 27)),
   .k (some 7) none (.asg (.tmp 29))])
 (.ops [.f (some 30) none (.mv (.tmp 6)),
   .f (some 31) none (.mv (.tmp 7)),
   .f (some 32) none (.mv (.tmp 1)),
   .k (some 33) none (.call 12 [(.tmp 32), (.const (.int .i64 2001))]),
   .f (some 34) none (.bin .sub (.tmp 33) (.const (.int .i64 1000))),
   .f (some 35) none (.iaddr 1 none (.tmp 30) (.tmp 31)),
   .k none none (.store 1 (.tmp 35) (.tmp 34))])))
def c4_1 : Cd :=
(.block 3
 (.seq (.ops [.f (some 59) none (.mv (.tmp 57)),
   .k (some 12) none (.asg (.tmp 59))])
 (.opd [⟨0, .f (some 60) none (.faddr 0 (.tmp 11)), []⟩,
   ⟨1, .f (some 61) none (.load none (.tmp 60)), []⟩,
   ⟨2, .f (some 62) none (.faddr 0 (.tmp 10)), []⟩,
   ⟨3, .f (some 63) none (.load none (.tmp 62)), []⟩,
   ⟨4, .f (some 64) none (.mv (.tmp 12)), []⟩,
   ⟨5, .f (some 65) none (.iaddr 1 none (.tmp 63) (.tmp 64)), []⟩,
   ⟨6, .f (some 66) none (.load none (.tmp 65)), []⟩,
   ⟨7, .f (some 67) none (.un .neg (.tmp 66)), []⟩,
   ⟨8, .k (some 68) none (.bslice 3 1 1 [(.int .i64 0)] [(0, 1, (.tmp 67))]), []⟩,
   ⟨10, .f (some 70) none (.faddr 1 (.tmp 11)), []⟩,
   ⟨11, .f (some 71) none (.load none (.tmp 70)), []⟩,
   ⟨12, .f (some 72) none (.faddr 1 (.tmp 10)), []⟩,
   ⟨13, .f (some 73) none (.load none (.tmp 72)), []⟩,
   ⟨14, .f (some 74) none (.mv (.tmp 12)), []⟩,
   ⟨15, .f (some 75) none (.iaddr 1 none (.tmp 73) (.tmp 74)), []⟩,
   ⟨16, .f (some 76) none (.load none (.tmp 75)), []⟩,
   ⟨17, .f (some 77) none (.un .neg (.tmp 76)), []⟩,
   ⟨18, .k (some 78) none (.bslice 3 1 1 [(.int .i64 0)] [(0, 1, (.tmp 77))]), []⟩,
   ⟨20, .f (some 80) none (.faddr 2 (.tmp 11)), []⟩,
   ⟨21, .f (some 81) none (.load none (.tmp 80)), []⟩,
   ⟨22, .f (some 82) none (.faddr 2 (.tmp 10)), []⟩,
   ⟨23, .f (some 83) none (.load none (.tmp 82)), []⟩,
   ⟨24, .f (some 84) none (.mv (.tmp 12)), []⟩,
   ⟨25, .f (some 85) none (.iaddr 1 none (.tmp 83) (.tmp 84)), []⟩,
   ⟨26, .f (some 86) none (.load none (.tmp 85)), []⟩,
   ⟨27, .f (some 87) none (.un .neg (.tmp 86)), []⟩,
   ⟨28, .k (some 88) none (.bslice 3 1 1 [(.int .i64 0)] [(0, 1, (.tmp 87))]), []⟩,
   ⟨9, .k (some 69) none (.append 3 1 8 (.tmp 61) (.tmp 68)), [.f (some 71) none (.load none (.tmp 70)), .f (some 73) none (.load none (.tmp 72)), .f (some 75) none (.iaddr 1 none (.tmp 73) (.tmp 74)), .f (some 76) none (.load none (.tmp 75)), .f (some 81) none (.load none (.tmp 80)), .f (some 83) none (.load none (.tmp 82)), .f (some 85) none (.iaddr 1 none (.tmp 83) (.tmp 84)), .f (some 86) none (.load none (.tmp 85))]⟩,
   ⟨30, .f (some 90) none (.faddr 0 (.tmp 11)), []⟩,
   ⟨19, .k (some 79) none (.append 3 1 8 (.tmp 71) (.tmp 78)), [.f (some 81) none (.load none (.tmp 80)), .f (some 83) none (.load none (.tmp 82)), .f (some 85) none (.iaddr 1 none (.tmp 83) (.tmp 84)), .f (some 86) none (.load none (.tmp 85))]⟩,
   ⟨29, .k (some 89) none (.append 3 1 8 (.tmp 81) (.tmp 88)), []⟩,
   ⟨31, .k none none (.store 1 (.tmp 90) (.tmp 69)), []⟩,
   ⟨32, .f (some 91) none (.faddr 1 (.tmp 11)), []⟩,
   ⟨33, .k none none (.store 1 (.tmp 91) (.tmp 79)), []⟩,
   ⟨34, .f (some 92) none (.faddr 2 (.tmp 11)), []⟩,
   ⟨35, .k none none (.store 1 (.tmp 92) (.tmp 89)), []⟩])))
def c4_2 : Cd :=
(.seq (.ops [.f (some 134) none (.bin .lss (.tmp 133) (.const (.int .i64 3)))])
(.seq (.cond (.tmp 134)
 .skip
 (.exit 4))
(.seq (.block 5
 (.seq (.ops [.f (some 135) none (.idx 1 none 3 (.tmp 132) (.tmp 133)),
   .k (some 17) none (.asg (.tmp 135))])
 (.seq (.ops [.f (some 136) none (.mv (.tmp 17)),
   .f (some 137) none (.bin .lss (.tmp 136) (.const (.int .i64 0))),
   .f (some 138) none (.mv (.tmp 137)),
   .f (some 139) (some (138, false)) (.mv (.tmp 17)),
   .f (some 140) (some (138, false)) (.bin .gtr (.tmp 139) (.const (.int .i64 1))),
   .f (some 141) none (.pick (.tmp 138) (.const (.bool true)) (.tmp 140))])
 (.cond (.tmp 141)
  (.seq (.ops [.k (some 4) none (.asg (.const (.bool false)))])
  .ret)
  .skip))))
(.ops [.f (some 142) none (.bin .add (.tmp 133) (.const (.int .i64 1))),
  .f (some 133) none (.mv (.tmp 142))]))))
def c4 : Cd :=
(.seq (.ops [.k (some 4) none (.asg (.const (.bool false)))])
(.seq (.seq (.ops [.f (some 18) none (.mv (.tmp 0)),
  .f (some 19) none (.len (.tmp 18)),
  .f (some 20) none (.bin .gtr (.tmp 19) (.const (.int .i64 600)))])
(.cond (.tmp 20)
 (.seq (.ops [.k (some 21) none (.call 9 []),
   .k (some 4) none (.asg (.tmp 21))])
 .ret)
 .skip))
(.seq (.ops [.f (some 22) none (.mv (.tmp 0)),
  .k (some 23) none (.call 10 [(.tmp 22)]),
  .k (some 5) none (.asg (.tmp 23))])
(.seq (.ops [.k (some 24) none (.mkz 3 1 12 [(.int .i64 0)]),
  .k (some 6) none (.asg (.tmp 24))])
(.seq (.seq (.ops [.f (some 25) none (.mv (.tmp 6)),
  .f (some 26) none (.len (.tmp 25)),
  .f (some 27) none (.mv (.const (.int .i64 0)))])
(rangeC 0 27 26 28 36 c4_0))
(.seq (.ops [.f (some 37) none (.mv (.tmp 6)),
  .f (some 38) none (.mv (.tmp 6)),
  .f (some 39) none (.mv (.tmp 6)),
  .f (some 40) none (.build [(.slice none 0 0), (.slice none 0 0), (.slice none 0 0)] [(0, 1, (.tmp 37)), (1, 1, (.tmp 38)), (2, 1, (.tmp 39))]),
  .k (some 8) none (.alloc 27 [(.slice none 0 0), (.slice none 0 0), (.slice none 0 0)]),
  .k none none (.store 3 (.tmp 8) (.tmp 40))])
(.seq (.ops [.f (some 41) none (.mv (.tmp 5)),
  .k (some 42) none (.call 14 [(.tmp 41)]),
  .k (some 9) none (.alloc 33 [(.int .i64 0), (.int .i64 0)]),
  .k none none (.store 2 (.tmp 9) (.tmp 42))])
(.seq (.seq (.opd [⟨0, .f (some 43) none (.load (some 3) (.tmp 8)), []⟩,
  ⟨1, .f (some 44) none (.load (some 2) (.tmp 9)), []⟩,
  ⟨2, .f (some 45) none (.mv (.tmp 5)), []⟩,
  ⟨5, .f (some 48) none (.load (some 3) (.tmp 8)), []⟩,
  ⟨6, .f (some 49) none (.load (some 2) (.tmp 9)), []⟩,
  ⟨3, .k (some 46) none (.call 16 [(.tmp 45), (.const (.int .i64 3600))]), [.f (some 43) none (.load (some 3) (.tmp 8)), .f (some 44) none (.load (some 2) (.tmp 9)), .f (some 48) none (.load (some 3) (.tmp 8)), .f (some 49) none (.load (some 2) (.tmp 9))]⟩,
  ⟨4, .k (some 47) none (.call 15 [(.tmp 43), (.tmp 44), (.tmp 46)]), [.f (some 48) none (.load (some 3) (.tmp 8)), .f (some 49) none (.load (some 2) (.tmp 9))]⟩,
  ⟨7, .k (some 50) none (.call 15 [(.tmp 48), (.tmp 49), (.const (.int .i64 0))]), []⟩,
  ⟨8, .f (some 51) none (.eql true (.st [(0, none, .num), (1, none, .num), (2, none, .num)]) (.tmp 47) (.tmp 50)), []⟩])
(.cond (.tmp 51)
 (.seq (.ops [.k (some 4) none (.asg (.const (.bool false)))])
 .ret)
 .skip))
(.seq (.ops [.f (some 52) none (.mv (.tmp 5)),
  .k (some 53) none (.call 11 [(.tmp 52)]),
  .k (some 10) none (.alloc 27 [(.slice none 0 0), (.slice none 0 0), (.slice none 0 0)]),
  .k none none (.store 3 (.tmp 10) (.tmp 53))])
(.seq (.ops [.k (some 11) none (.alloc 27 [(.slice none 0 0), (.slice none 0 0), (.slice none 0 0)])])
(.seq (.seq (.ops [.f (some 54) none (.faddr 0 (.tmp 10)),
  .f (some 55) none (.load none (.tmp 54)),
  .f (some 56) none (.len (.tmp 55)),
  .f (some 57) none (.mv (.const (.int .i64 0)))])
(rangeC 2 57 56 58 93 c4_1))
(.seq (.ops [.f (some 94) none (.mv (.tmp 5)),
  .k (some 95) none (.call 16 [(.tmp 94), (.const (.int .i64 12))]),
  .f (some 96) none (.bin .mul (.const (.int .i64 300)) (.tmp 95)),
  .k (some 13) none (.asg (.tmp 96))])
(.seq (.opd [⟨0, .f (some 97) none (.load (some 3) (.tmp 10)), []⟩,
  ⟨1, .f (some 98) none (.faddr 0 (.tmp 9)), []⟩,
  ⟨2, .f (some 99) none (.load none (.tmp 98)), []⟩,
  ⟨3, .f (some 100) none (.bin .quo (.tmp 99) (.const (.int .i64 300))), []⟩,
  ⟨4, .f (some 101) none (.bin .mul (.tmp 100) (.const (.int .i64 300))), []⟩,
  ⟨5, .f (some 102) none (.faddr 1 (.tmp 9)), []⟩,
  ⟨6, .f (some 103) none (.load none (.tmp 102)), []⟩,
  ⟨7, .f (some 104) none (.build [(.int .i64 0), (.int .i64 0)] [(0, 1, (.tmp 101)), (1, 1, (.tmp 103))]), []⟩,
  ⟨8, .f (some 105) none (.mv (.tmp 13)), []⟩,
  ⟨10, .f (some 107) none (.load (some 3) (.tmp 11)), []⟩,
  ⟨11, .f (some 108) none (.faddr 0 (.tmp 9)), []⟩,
  ⟨12, .f (some 109) none (.load none (.tmp 108)), []⟩,
  ⟨13, .f (some 110) none (.bin .quo (.tmp 109) (.const (.int .i64 300))), []⟩,
  ⟨14, .f (some 111) none (.bin .mul (.tmp 110) (.const (.int .i64 300))), []⟩,
  ⟨15, .f (some 112) none (.faddr 1 (.tmp 9)), []⟩,
  ⟨16, .f (some 113) none (.load none (.tmp 112)), []⟩,
  ⟨17, .f (some 114) none (.build [(.int .i64 0), (.int .i64 0)] [(0, 1, (.tmp 111)), (1, 1, (.tmp 113))]), []⟩,
  ⟨18, .f (some 115) none (.mv (.tmp 13)), []⟩,
  ⟨9, .k (some 106) none (.call 15 [(.tmp 97), (.tmp 104), (.tmp 105)]), [.f (some 107) none (.load (some 3) (.tmp 11)), .f (some 109) none (.load none (.tmp 108)), .f (some 113) none (.load none (.tmp 112))]⟩,
  ⟨19, .k (some 116) none (.call 15 [(.tmp 107), (.tmp 114), (.tmp 115)]), []⟩,
  ⟨20, .k (some 14) none (.alloc 36 [(.int .i64 0), (.int .i64 0), (.int .i64 0)]), [.f (some 97) none (.load (some 3) (.tmp 10)), .f (some 99) none (.load none (.tmp 98)), .f (some 103) none (.load none (.tmp 102)), .f (some 107) none (.load (some 3) (.tmp 11)), .f (some 109) none (.load none (.tmp 108)), .f (some 113) none (.load none (.tmp 112))]⟩,
  ⟨21, .k (some 15) none (.alloc 36 [(.int .i64 0), (.int .i64 0), (.int .i64 0)]), [.f (some 97) none (.load (some 3) (.tmp 10)), .f (some 99) none (.load none (.tmp 98)), .f (some 103) none (.load none (.tmp 102)), .f (some 107) none (.load (some 3) (.tmp 11)), .f (some 109) none (.load none (.tmp 108)), .f (some 113) none (.load none (.tmp 112))]⟩,
  ⟨22, .k none none (.store 3 (.tmp 14) (.tmp 106)), []⟩,
  ⟨23, .k none none (.store 3 (.tmp 15) (.tmp 116)), []⟩])
(.seq (.seq (.ops [.f (some 117) none (.faddr 0 (.tmp 14)),
  .f (some 118) none (.load none (.tmp 117)),
  .f (some 119) none (.faddr 0 (.tmp 15)),
  .f (some 120) none (.load none (.tmp 119)),
  .f (some 121) none (.bin .add (.tmp 118) (.tmp 120)),
  .f (some 122) none (.faddr 1 (.tmp 14)),
  .f (some 123) none (.load none (.tmp 122)),
  .f (some 124) none (.faddr 1 (.tmp 15)),
  .f (some 125) none (.load none (.tmp 124)),
  .f (some 126) none (.bin .add (.tmp 123) (.tmp 125)),
  .f (some 127) none (.faddr 2 (.tmp 14)),
  .f (some 128) none (.load none (.tmp 127)),
  .f (some 129) none (.faddr 2 (.tmp 15)),
  .f (some 130) none (.load none (.tmp 129)),
  .f (some 131) none (.bin .add (.tmp 128) (.tmp 130)),
  .f (some 132) none (.build [(.int .i64 0), (.int .i64 0), (.int .i64 0)] [(0, 1, (.tmp 121)), (1, 1, (.tmp 126)), (2, 1, (.tmp 131))]),
  .f (some 133) none (.mv (.const (.int .i64 0)))])
(.block 4
 (.loop c4_2)))
(.seq (.ops [.k (some 143) none (.call 9 []),
  .k (some 4) none (.asg (.tmp 143))])
.ret)))))))))))))))
theorem fn4 : FnOK Try.prog 4 144 c4 [.tmp 4] := .of (by kernel_rfl)
/-! 'dynpos/dynposlaw22.WeatherGrows' -/
def c5_0 : Cd :=
(.seq (.ops [.f (some 62) none (.bin .lss (.tmp 61) (.const (.int .i64 3)))])
(.seq (.cond (.tmp 62)
 .skip
 (.exit 0))
(.seq (.block 1
 (.seq (.ops [.f (some 63) none (.idx 2 (some 2) 3 (.tmp 60) (.tmp 61)),
   .k (some 13) none (.alloc 41 [(.int .i64 0), (.int .i64 0)]),
   .k none none (.store 2 (.tmp 13) (.tmp 63))])
 (.seq (.ops [.f (some 64) none (.iaddr 1 (some 2) (.tmp 13) (.const (.int .i64 0))),
   .f (some 65) none (.load none (.tmp 64)),
   .f (some 66) none (.bin .gtr (.tmp 65) (.const (.int .i64 0))),
   .f (some 67) none (.mv (.tmp 66)),
   .f (some 68) (some (67, true)) (.iaddr 1 (some 2) (.tmp 13) (.const (.int .i64 1))),
   .f (some 69) (some (67, true)) (.load none (.tmp 68)),
   .f (some 70) (some (67, true)) (.iaddr 1 (some 2) (.tmp 13) (.const (.int .i64 0))),
   .f (some 71) (some (67, true)) (.load none (.tmp 70)),
   .f (some 72) (some (67, true)) (.bin .lss (.tmp 69) (.tmp 71)),
   .f (some 73) none (.pick (.tmp 67) (.tmp 72) (.const (.bool false))),
   .f (some 74) none (.mv (.tmp 73)),
   .f (some 75) (some (74, false)) (.iaddr 1 (some 2) (.tmp 13) (.const (.int .i64 0))),
   .f (some 76) (some (74, false)) (.load none (.tmp 75)),
   .f (some 77) (some (74, false)) (.bin .lss (.tmp 76) (.const (.int .i64 0))),
   .f (some 78) (some (74, false)) (.mv (.tmp 77)),
   .f (some 79) (some (78, true)) (.iaddr 1 (some 2) (.tmp 13) (.const (.int .i64 1))),
   .f (some 80) (some (78, true)) (.load none (.tmp 79)),
   .f (some 81) (some (78, true)) (.iaddr 1 (some 2) (.tmp 13) (.const (.int .i64 0))),
   .f (some 82) (some (78, true)) (.load none (.tmp 81)),
   .f (some 83) (some (78, true)) (.bin .gtr (.tmp 80) (.tmp 82)),
   .f (some 84) (some (74, false)) (.pick (.tmp 78) (.tmp 83) (.const (.bool false))),
   .f (some 85) none (.pick (.tmp 74) (.const (.bool true)) (.tmp 84))])
 (.cond (.tmp 85)
  (.seq (.ops [.k (some 4) none (.asg (.const (.bool false)))])
  .ret)
  .skip))))
(.ops [.f (some 86) none (.bin .add (.tmp 61) (.const (.int .i64 1))),
  .f (some 61) none (.mv (.tmp 86))]))))
def c5 : Cd :=
(.seq (.ops [.k (some 4) none (.asg (.const (.bool false)))])
(.seq (.seq (.ops [.f (some 14) none (.mv (.tmp 0)),
  .f (some 15) none (.len (.tmp 14)),
  .f (some 16) none (.bin .gtr (.tmp 15) (.const (.int .i64 600)))])
(.cond (.tmp 16)
 (.seq (.ops [.k (some 17) none (.call 9 []),
   .k (some 4) none (.asg (.tmp 17))])
 .ret)
 .skip))
(.seq (.ops [.f (some 18) none (.mv (.tmp 0)),
  .k (some 19) none (.call 10 [(.tmp 18)]),
  .k (some 5) none (.asg (.tmp 19))])
(.seq (.ops [.f (some 20) none (.mv (.tmp 5)),
  .k (some 21) none (.call 11 [(.tmp 20)]),
  .f (some 22) none (.mv (.tmp 5)),
  .k (some 23) none (.call 16 [(.tmp 22), (.const (.int .i64 3600))]),
  .f (some 24) none (.mv (.tmp 5)),
  .k (some 25) none (.call 16 [(.tmp 24), (.const (.int .i64 3600))]),
  .k (some 6) none (.alloc 27 [(.slice none 0 0), (.slice none 0 0), (.slice none 0 0)]),
  .k none none (.store 3 (.tmp 6) (.tmp 21)),
  .k (some 7) none (.asg (.tmp 23)),
  .k (some 8) none (.asg (.tmp 25))])
(.seq (.ops [.f (some 26) none (.mv (.tmp 1)),
  .f (some 27) none (.conv .i64 (.tmp 26)),
  .f (some 28) none (.bin .rem (.tmp 27) (.const (.int .i64 9000))),
  .k (some 9) none (.asg (.tmp 28))])
(.seq (.opd [⟨0, .f (some 29) none (.load (some 3) (.tmp 6)), []⟩,
  ⟨1, .f (some 30) none (.mv (.tmp 8)), []⟩,
  ⟨2, .f (some 31) none (.mv (.tmp 9)), []⟩,
  ⟨3, .f (some 32) none (.build [(.int .i64 0), (.int .i64 0)] [(0, 1, (.tmp 30)), (1, 1, (.tmp 31))]), []⟩,
  ⟨4, .f (some 33) none (.mv (.tmp 7)), []⟩,
  ⟨6, .f (some 35) none (.load (some 3) (.tmp 6)), []⟩,
  ⟨7, .f (some 36) none (.mv (.tmp 8)), []⟩,
  ⟨8, .f (some 37) none (.mv (.tmp 9)), []⟩,
  ⟨9, .f (some 38) none (.bin .add (.tmp 37) (.const (.int .i64 1))), []⟩,
  ⟨10, .f (some 39) none (.mv (.tmp 5)), []⟩,
  ⟨14, .f (some 43) none (.mv (.tmp 7)), []⟩,
  ⟨5, .k (some 34) none (.call 15 [(.tmp 29), (.tmp 32), (.tmp 33)]), [.f (some 35) none (.load (some 3) (.tmp 6))]⟩,
  ⟨11, .k (some 40) none (.call 16 [(.tmp 39), (.const (.int .i64 900))]), [.f (some 35) none (.load (some 3) (.tmp 6))]⟩,
  ⟨12, .f (some 41) none (.bin .add (.tmp 38) (.tmp 40)), []⟩,
  ⟨13, .f (some 42) none (.build [(.int .i64 0), (.int .i64 0)] [(0, 1, (.tmp 36)), (1, 1, (.tmp 41))]), []⟩,
  ⟨15, .k (some 44) none (.call 15 [(.tmp 35), (.tmp 42), (.tmp 43)]), []⟩,
  ⟨16, .k (some 10) none (.alloc 36 [(.int .i64 0), (.int .i64 0), (.int .i64 0)]), [.f (some 29) none (.load (some 3) (.tmp 6)), .f (some 35) none (.load (some 3) (.tmp 6))]⟩,
  ⟨17, .k (some 11) none (.alloc 36 [(.int .i64 0), (.int .i64 0), (.int .i64 0)]), [.f (some 29) none (.load (some 3) (.tmp 6)), .f (some 35) none (.load (some 3) (.tmp 6))]⟩,
  ⟨18, .k none none (.store 3 (.tmp 10) (.tmp 34)), []⟩,
  ⟨19, .k none none (.store 3 (.tmp 11) (.tmp 44)), []⟩])
(.seq (.seq (.ops [.f (some 45) none (.faddr 0 (.tmp 10)),
  .f (some 46) none (.load none (.tmp 45)),
  .f (some 47) none (.faddr 0 (.tmp 11)),
  .f (some 48) none (.load none (.tmp 47)),
  .f (some 49) none (.build [(.int .i64 0), (.int .i64 0)] [(0, 1, (.tmp 46)), (1, 1, (.tmp 48))]),
  .f (some 50) none (.faddr 1 (.tmp 10)),
  .f (some 51) none (.load none (.tmp 50)),
  .f (some 52) none (.faddr 1 (.tmp 11)),
  .f (some 53) none (.load none (.tmp 52)),
  .f (some 54) none (.build [(.int .i64 0), (.int .i64 0)] [(0, 1, (.tmp 51)), (1, 1, (.tmp 53))]),
  .f (some 55) none (.faddr 2 (.tmp 10)),
  .f (some 56) none (.load none (.tmp 55)),
  .f (some 57) none (.faddr 2 (.tmp 11)),
  .f (some 58) none (.load none (.tmp 57)),
  .f (some 59) none (.build [(.int .i64 0), (.int .i64 0)] [(0, 1, (.tmp 56)), (1, 1, (.tmp 58))]),
  .f (some 60) none (.build [(.int .i64 0), (.int .i64 0), (.int .i64 0), (.int .i64 0), (.int .i64 0), (.int .i64 0)] [(0, 2, (.tmp 49)), (2, 2, (.tmp 54)), (4, 2, (.tmp 59))]),
  .f (some 61) none (.mv (.const (.int .i64 0)))])
(.block 0
 (.loop c5_0)))
(.seq (.ops [.k (some 87) none (.call 9 []),
  .k (some 4) none (.asg (.tmp 87))])
.ret))))))))
theorem fn5 : FnOK Try.prog 5 88 c5 [.tmp 4] := .of (by kernel_rfl)
/-! 'dynpos/dynposlaw22.WeatherExact' -/
def c6_0 : Cd :=
(.seq (.ops [.f (some 96) none (.bin .lss (.tmp 95) (.const (.int .i64 2)))])
(.seq (.cond (.tmp 96)
 .skip
 (.exit 4))
(.seq (.block 5
 (.seq (.ops [.f (some 97) none (.idx 6 (some 6) 2 (.tmp 94) (.tmp 95)),
   .k (some 20) none (.alloc 48 [(.int .i64 0), (.int .i64 0), (.int .i64 0), (.int .i64 0), (.int .i64 0), (.int .i64 0)]),
   .k none none (.store 6 (.tmp 20) (.tmp 97))])
 (.seq (.ops [.f (some 99) none (.load (some 13) (.tmp 16)),
   .f (some 100) none (.load (some 6) (.tmp 20)),
   .f (some 101) none (.mv (.tmp 18)),
   .k (some 102) none (.call 23 [(.tmp 99), (.tmp 100), (.tmp 101)]),
   .f (some 98) none (.mv (.tmp 102)),
   .f (some 103) none (.extract 0 (.tmp 98)),
   .f (some 104) none (.extract 1 (.tmp 98)),
   .k (some 21) none (.alloc 36 [(.int .i64 0), (.int .i64 0), (.int .i64 0)]),
   .k none none (.store 3 (.tmp 21) (.tmp 103)),
   .k (some 22) none (.asg (.tmp 104))])
 (.seq (.ops [.f (some 106) none (.load (some 13) (.tmp 16)),
   .f (some 107) none (.load (some 6) (.tmp 20)),
   .f (some 108) none (.mv (.tmp 18)),
   .k (some 109) none (.call 24 [(.tmp 106), (.tmp 107), (.tmp 108)]),
   .f (some 105) none (.mv (.tmp 109)),
   .f (some 110) none (.extract 0 (.tmp 105)),
   .f (some 111) none (.extract 1 (.tmp 105)),
   .k (some 23) none (.alloc 36 [(.int .i64 0), (.int .i64 0), (.int .i64 0)]),
   .k none none (.store 3 (.tmp 23) (.tmp 110)),
   .k (some 24) none (.asg (.tmp 111))])
 (.seq (.opd [⟨0, .f (some 112) none (.load (some 3) (.tmp 21)), []⟩,
   ⟨1, .f (some 113) none (.load (some 3) (.tmp 23)), []⟩,
   ⟨2, .f (some 114) none (.eql true (.st [(0, none, .num), (1, none, .num), (2, none, .num)]) (.tmp 112) (.tmp 113)), []⟩,
   ⟨3, .f (some 115) none (.mv (.tmp 114)), []⟩,
   ⟨4, .f (some 116) (some (115, false)) (.mv (.tmp 22)), []⟩,
   ⟨5, .f (some 117) (some (115, false)) (.mv (.tmp 24)), []⟩,
   ⟨6, .f (some 118) (some (115, false)) (.bin .neq (.tmp 116) (.tmp 117)), []⟩,
   ⟨7, .f (some 119) none (.pick (.tmp 115) (.const (.bool true)) (.tmp 118)), []⟩,
   ⟨8, .f (some 120) none (.mv (.tmp 119)), []⟩,
   ⟨9, .f (some 121) (some (120, false)) (.load (some 6) (.tmp 20)), []⟩,
   ⟨11, .f (some 123) (some (120, false)) (.load (some 6) (.tmp 20)), []⟩,
   ⟨10, .k (some 122) (some (120, false)) (.call 25 [(.tmp 121)]), [.f (some 123) (some (120, false)) (.load (some 6) (.tmp 20))]⟩,
   ⟨12, .k (some 124) (some (120, false)) (.call 26 [(.tmp 123)]), []⟩,
   ⟨13, .f (some 125) (some (120, false)) (.binb .neq (.tmp 122) (.tmp 124)), []⟩,
   ⟨14, .f (some 126) none (.pick (.tmp 120) (.const (.bool true)) (.tmp 125)), []⟩])
 (.cond (.tmp 126)
  (.seq (.ops [.k (some 10) none (.asg (.const (.bool false)))])
  .ret)
  .skip))))))
(.ops [.f (some 127) none (.bin .add (.tmp 95) (.const (.int .i64 1))),
  .f (some 95) none (.mv (.tmp 127))]))))
def c6_1 : Cd :=
(.seq (.ops [.f (some 133) none (.bin .lss (.tmp 132) (.const (.int .i64 2)))])
(.seq (.cond (.tmp 133)
 .skip
 (.exit 6))
(.seq (.block 7
 (.seq (.ops [.f (some 134) none (.idx 2 (some 2) 2 (.tmp 131) (.tmp 132)),
   .k (some 26) none (.alloc 33 [(.int .i64 0), (.int .i64 0)]),
   .k none none (.store 2 (.tmp 26) (.tmp 134))])
 (.seq (.opd [⟨0, .f (some 135) none (.faddr 0 (.tmp 16)), []⟩,
   ⟨1, .f (some 136) none (.load (some 3) (.tmp 135)), []⟩,
   ⟨2, .f (some 137) none (.load (some 2) (.tmp 26)), []⟩,
   ⟨3, .f (some 138) none (.mv (.tmp 18)), []⟩,
   ⟨5, .f (some 140) none (.faddr 0 (.tmp 16)), []⟩,
   ⟨6, .f (some 141) none (.load (some 3) (.tmp 140)), []⟩,
   ⟨7, .f (some 142) none (.load (some 2) (.tmp 26)), []⟩,
   ⟨8, .f (some 143) none (.mv (.tmp 18)), []⟩,
   ⟨4, .k (some 139) none (.call 15 [(.tmp 136), (.tmp 137), (.tmp 138)]), [.f (some 141) none (.load (some 3) (.tmp 140)), .f (some 142) none (.load (some 2) (.tmp 26))]⟩,
   ⟨9, .k (some 144) none (.call 27 [(.tmp 141), (.tmp 142), (.tmp 143)]), []⟩,
   ⟨10, .f (some 145) none (.eql true (.st [(0, none, .num), (1, none, .num), (2, none, .num)]) (.tmp 139) (.tmp 144)), []⟩])
 (.cond (.tmp 145)
  (.seq (.ops [.k (some 10) none (.asg (.const (.bool false)))])
  .ret)
  .skip))))
(.ops [.f (some 146) none (.bin .add (.tmp 132) (.const (.int .i64 1))),
  .f (some 132) none (.mv (.tmp 146))]))))
def c6_2 : Cd :=
(.seq (.ops [.f (some 90) none (.bin .lss (.tmp 89) (.const (.int .i64 3)))])
(.seq (.cond (.tmp 90)
 .skip
 (.exit 2))
(.seq (.block 3
 (.seq (.ops [.f (some 91) none (.idx 1 none 3 (.tmp 88) (.tmp 89)),
   .k (some 18) none (.asg (.tmp 91))])
 (.seq (.seq (.ops [.f (some 92) none (.load (some 6) (.tmp 13)),
   .f (some 93) none (.load (some 6) (.tmp 14)),
   .f (some 94) none (.build [(.int .i64 0), (.int .i64 0), (.int .i64 0), (.int .i64 0), (.int .i64 0), (.int .i64 0), (.int .i64 0), (.int .i64 0), (.int .i64 0), (.int .i64 0), (.int .i64 0), (.int .i64 0)] [(0, 6, (.tmp 92)), (6, 6, (.tmp 93))]),
   .f (some 95) none (.mv (.const (.int .i64 0)))])
 (.block 4
  (.loop c6_0)))
 (.seq (.ops [.f (some 128) none (.load (some 2) (.tmp 7)),
   .f (some 129) none (.faddr 0 (.tmp 13)),
   .f (some 130) none (.load (some 2) (.tmp 129)),
   .f (some 131) none (.build [(.int .i64 0), (.int .i64 0), (.int .i64 0), (.int .i64 0)] [(0, 2, (.tmp 128)), (2, 2, (.tmp 130))]),
   .f (some 132) none (.mv (.const (.int .i64 0)))])
 (.block 6
  (.loop c6_1))))))
(.ops [.f (some 147) none (.bin .add (.tmp 89) (.const (.int .i64 1))),
  .f (some 89) none (.mv (.tmp 147))]))))
def c6_3 : Cd :=
(.seq (.ops [.f (some 155) none (.bin .lss (.tmp 154) (.const (.int .i64 3)))])
(.seq (.cond (.tmp 155)
 .skip
 (.exit 8))
(.seq (.block 9
 (.seq (.ops [.f (some 156) none (.idx 1 none 3 (.tmp 153) (.tmp 154)),
   .k (some 28) none (.asg (.tmp 156))])
 (.seq (.opd [⟨0, .f (some 157) none (.faddr 0 (.tmp 16)), []⟩,
   ⟨1, .f (some 158) none (.faddr 0 (.tmp 157)), []⟩,
   ⟨2, .f (some 159) none (.load none (.tmp 158)), []⟩,
   ⟨3, .f (some 160) none (.mv (.tmp 28)), []⟩,
   ⟨5, .f (some 162) none (.faddr 0 (.tmp 16)), []⟩,
   ⟨6, .f (some 163) none (.faddr 0 (.tmp 162)), []⟩,
   ⟨7, .f (some 164) none (.load none (.tmp 163)), []⟩,
   ⟨8, .f (some 165) none (.mv (.tmp 28)), []⟩,
   ⟨4, .k (some 161) none (.call 13 [(.tmp 159), (.tmp 160)]), [.f (some 164) none (.load none (.tmp 163))]⟩,
   ⟨9, .k (some 166) none (.call 28 [(.tmp 164), (.tmp 165)]), []⟩,
   ⟨10, .f (some 167) none (.bin .neq (.tmp 161) (.tmp 166)), []⟩,
   ⟨11, .f (some 168) none (.mv (.tmp 167)), []⟩,
   ⟨12, .f (some 169) (some (168, false)) (.faddr 2 (.tmp 6)), []⟩,
   ⟨13, .f (some 170) (some (168, false)) (.load none (.tmp 169)), []⟩,
   ⟨14, .f (some 171) (some (168, false)) (.mv (.tmp 28)), []⟩,
   ⟨16, .f (some 173) (some (168, false)) (.faddr 2 (.tmp 6)), []⟩,
   ⟨17, .f (some 174) (some (168, false)) (.load none (.tmp 173)), []⟩,
   ⟨18, .f (some 175) (some (168, false)) (.mv (.tmp 28)), []⟩,
   ⟨15, .k (some 172) (some (168, false)) (.call 13 [(.tmp 170), (.tmp 171)]), [.f (some 174) (some (168, false)) (.load none (.tmp 173))]⟩,
   ⟨19, .k (some 176) (some (168, false)) (.call 28 [(.tmp 174), (.tmp 175)]), []⟩,
   ⟨20, .f (some 177) (some (168, false)) (.bin .neq (.tmp 172) (.tmp 176)), []⟩,
   ⟨21, .f (some 178) none (.pick (.tmp 168) (.const (.bool true)) (.tmp 177)), []⟩])
 (.cond (.tmp 178)
  (.seq (.ops [.k (some 10) none (.asg (.const (.bool false)))])
  .ret)
  .skip))))
(.ops [.f (some 179) none (.bin .add (.tmp 154) (.const (.int .i64 1))),
  .f (some 154) none (.mv (.tmp 179))]))))
def c6_4 : Cd :=
(.seq (.ops [.f (some 76) none (.bin .lss (.tmp 75) (.const (.int .i64 3)))])
(.seq (.cond (.tmp 76)
 .skip
 (.exit 0))
(.seq (.block 1
 (.seq (.ops [.f (some 77) none (.idx 13 (some 13) 3 (.tmp 74) (.tmp 75)),
   .k (some 16) none (.alloc 45 [(.slice none 0 0), (.slice none 0 0), (.slice none 0 0), (.slice none 0 0), (.slice none 0 0), (.slice none 0 0), (.slice none 0 0), (.slice none 0 0), (.slice none 0 0), (.int .i64 0), (.int .i64 0), (.int .i64 0), (.int .i64 0)]),
   .k none none (.store 13 (.tmp 16) (.tmp 77))])
 (.seq (.seq (.opd [⟨0, .f (some 78) none (.load (some 13) (.tmp 16)), []⟩,
   ⟨2, .f (some 80) none (.load (some 13) (.tmp 16)), []⟩,
   ⟨1, .k (some 79) none (.call 20 [(.tmp 78)]), [.f (some 80) none (.load (some 13) (.tmp 16))]⟩,
   ⟨3, .k (some 81) none (.call 21 [(.tmp 80)]), []⟩,
   ⟨4, .f (some 82) none (.bin .neq (.tmp 79) (.tmp 81)), []⟩])
 (.cond (.tmp 82)
  (.seq (.ops [.k (some 10) none (.asg (.const (.bool false)))])
  .ret)
  .skip))
 (.seq (.seq (.ops [.f (some 83) none (.mv (.tmp 3)),
   .f (some 84) none (.mv (.tmp 11)),
   .k (some 85) none (.call 22 [(.tmp 84)]),
   .f (some 86) none (.mv (.tmp 11)),
   .k (some 87) none (.call 16 [(.tmp 86), (.const (.int .i64 3600))]),
   .f (some 88) none (.build [(.int .i64 0), (.int .i64 0), (.int .i64 0)] [(0, 1, (.tmp 83)), (1, 1, (.tmp 85)), (2, 1, (.tmp 87))]),
   .f (some 89) none (.mv (.const (.int .i64 0)))])
 (.block 2
  (.loop c6_2)))
 (.seq (.ops [.f (some 148) none (.mv (.tmp 4)),
   .f (some 149) none (.mv (.tmp 11)),
   .k (some 150) none (.call 22 [(.tmp 149)]),
   .f (some 151) none (.mv (.tmp 4)),
   .k (some 152) none (.call 12 [(.tmp 151), (.const (.int .i64 3600))]),
   .f (some 153) none (.build [(.int .i64 0), (.int .i64 0), (.int .i64 0)] [(0, 1, (.tmp 148)), (1, 1, (.tmp 150)), (2, 1, (.tmp 152))]),
   .f (some 154) none (.mv (.const (.int .i64 0)))])
 (.block 8
  (.loop c6_3)))))))
(.ops [.f (some 180) none (.bin .add (.tmp 75) (.const (.int .i64 1))),
  .f (some 75) none (.mv (.tmp 180))]))))
def c6 : Cd :=
(.seq (.ops [.k (some 6) none (.box 27 3 (.tmp 1)),
  .k (some 7) none (.box 33 2 (.tmp 2)),
  .k (some 10) none (.asg (.const (.bool false)))])
(.seq (.seq (.ops [.f (some 29) none (.mv (.tmp 0)),
  .f (some 30) none (.len (.tmp 29)),
  .f (some 31) none (.bin .gtr (.tmp 30) (.const (.int .i64 600))),
  .f (some 32) none (.mv (.tmp 31)),
  .f (some 33) (some (32, false)) (.faddr 0 (.tmp 6)),
  .f (some 34) (some (32, false)) (.load none (.tmp 33)),
  .f (some 35) (some (32, false)) (.len (.tmp 34)),
  .f (some 36) (some (32, false)) (.bin .gtr (.tmp 35) (.const (.int .i64 30))),
  .f (some 37) none (.pick (.tmp 32) (.const (.bool true)) (.tmp 36)),
  .f (some 38) none (.mv (.tmp 37)),
  .f (some 39) (some (38, false)) (.faddr 1 (.tmp 6)),
  .f (some 40) (some (38, false)) (.load none (.tmp 39)),
  .f (some 41) (some (38, false)) (.len (.tmp 40)),
  .f (some 42) (some (38, false)) (.bin .gtr (.tmp 41) (.const (.int .i64 30))),
  .f (some 43) none (.pick (.tmp 38) (.const (.bool true)) (.tmp 42)),
  .f (some 44) none (.mv (.tmp 43)),
  .f (some 45) (some (44, false)) (.faddr 2 (.tmp 6)),
  .f (some 46) (some (44, false)) (.load none (.tmp 45)),
  .f (some 47) (some (44, false)) (.len (.tmp 46)),
  .f (some 48) (some (44, false)) (.bin .gtr (.tmp 47) (.const (.int .i64 30))),
  .f (some 49) none (.pick (.tmp 44) (.const (.bool true)) (.tmp 48))])
(.cond (.tmp 49)
 (.seq (.ops [.k (some 50) none (.call 9 []),
   .k (some 10) none (.asg (.tmp 50))])
 .ret)
 .skip))
(.seq (.ops [.f (some 51) none (.mv (.tmp 0)),
  .k (some 52) none (.call 10 [(.tmp 51)]),
  .k (some 11) none (.asg (.tmp 52))])
(.seq (.ops [.f (some 53) none (.mv (.tmp 11)),
  .k (some 54) none (.call 17 [(.tmp 53)]),
  .k (some 12) none (.alloc 45 [(.slice none 0 0), (.slice none 0 0), (.slice none 0 0), (.slice none 0 0), (.slice none 0 0), (.slice none 0 0), (.slice none 0 0), (.slice none 0 0), (.slice none 0 0), (.int .i64 0), (.int .i64 0), (.int .i64 0), (.int .i64 0)]),
  .k none none (.store 13 (.tmp 12) (.tmp 54))])
(.seq (.ops [.f (some 55) none (.mv (.tmp 11)),
  .k (some 56) none (.call 18 [(.tmp 55)]),
  .k (some 13) none (.alloc 48 [(.int .i64 0), (.int .i64 0), (.int .i64 0), (.int .i64 0), (.int .i64 0), (.int .i64 0)]),
  .k none none (.store 6 (.tmp 13) (.tmp 56))])
(.seq (.ops [.f (some 57) none (.load (some 6) (.tmp 13)),
  .k (some 14) none (.alloc 48 [(.int .i64 0), (.int .i64 0), (.int .i64 0), (.int .i64 0), (.int .i64 0), (.int .i64 0)]),
  .k none none (.store 6 (.tmp 14) (.tmp 57))])
(.seq (.ops [.f (some 58) none (.load (some 2) (.tmp 7)),
  .f (some 59) none (.faddr 4 (.tmp 14)),
  .k none none (.store 2 (.tmp 59) (.tmp 58))])
(.seq (.seq (.opd [⟨0, .f (some 60) none (.load (some 13) (.tmp 12)), []⟩,
  ⟨1, .f (some 61) none (.mv (.tmp 11)), []⟩,
  ⟨2, .f (some 62) none (.load (some 13) (.tmp 12)), []⟩,
  ⟨4, .f (some 64) none (.load (some 3) (.tmp 6)), []⟩,
  ⟨5, .f (some 65) none (.faddr 3 (.tmp 12)), []⟩,
  ⟨6, .f (some 66) none (.load (some 3) (.tmp 65)), []⟩,
  ⟨7, .f (some 67) none (.faddr 6 (.tmp 12)), []⟩,
  ⟨8, .f (some 68) none (.load (some 3) (.tmp 67)), []⟩,
  ⟨9, .f (some 69) none (.faddr 9 (.tmp 12)), []⟩,
  ⟨10, .f (some 70) none (.load none (.tmp 69)), []⟩,
  ⟨11, .f (some 71) none (.faddr 10 (.tmp 12)), []⟩,
  ⟨12, .f (some 72) none (.load none (.tmp 71)), []⟩,
  ⟨13, .f (some 73) none (.build [(.slice none 0 0), (.slice none 0 0), (.slice none 0 0), (.slice none 0 0), (.slice none 0 0), (.slice none 0 0), (.slice none 0 0), (.slice none 0 0), (.slice none 0 0), (.int .i64 0), (.int .i64 0), (.int .i64 0), (.int .i64 0)] [(0, 3, (.tmp 64)), (3, 3, (.tmp 66)), (6, 3, (.tmp 68)), (9, 1, (.tmp 70)), (10, 1, (.tmp 72))]), []⟩,
  ⟨15, .f (some 75) none (.mv (.const (.int .i64 0))), []⟩,
  ⟨3, .k (some 63) none (.call 19 [(.tmp 61), (.tmp 62)]), [.f (some 60) none (.load (some 13) (.tmp 12)), .f (some 64) none (.load (some 3) (.tmp 6)), .f (some 66) none (.load (some 3) (.tmp 65)), .f (some 68) none (.load (some 3) (.tmp 67)), .f (some 70) none (.load none (.tmp 69)), .f (some 72) none (.load none (.tmp 71))]⟩,
  ⟨14, .f (some 74) none (.build [(.slice none 0 0), (.slice none 0 0), (.slice none 0 0), (.slice none 0 0), (.slice none 0 0), (.slice none 0 0), (.slice none 0 0), (.slice none 0 0), (.slice none 0 0), (.int .i64 0), (.int .i64 0), (.int .i64 0), (.int .i64 0), (.slice none 0 0), (.slice none 0 0), (.slice none 0 0), (.slice none 0 0), (.slice none 0 0), (.slice none 0 0), (.slice none 0 0), (.slice none 0 0), (.slice none 0 0), (.int .i64 0), (.int .i64 0), (.int .i64 0), (.int .i64 0), (.slice none 0 0), (.slice none 0 0), (.slice none 0 0), (.slice none 0 0), (.slice none 0 0), (.slice none 0 0), (.slice none 0 0), (.slice none 0 0), (.slice none 0 0), (.int .i64 0), (.int .i64 0), (.int .i64 0), (.int .i64 0)] [(0, 13, (.tmp 60)), (13, 13, (.tmp 63)), (26, 13, (.tmp 73))]), []⟩])
(.block 0
 (.loop c6_4)))
(.seq (.ops [.k (some 181) none (.call 9 []),
  .k (some 10) none (.asg (.tmp 181))])
.ret)))))))))
theorem fn6 : FnOK Try.prog 6 182 c6 [.tmp 10] := .of (by kernel_rfl)
/-! 'dynpos/dynposlaw22.WeatherTurns' -/
def c7_0 : Cd :=
(.seq (.ops [.f (some 37) none (.bin .lss (.tmp 36) (.const (.int .i64 3)))])
(.seq (.cond (.tmp 37)
 .skip
 (.exit 0))
(.seq (.block 1
 (.seq (.ops [.f (some 38) none (.idx 1 none 3 (.tmp 35) (.tmp 36)),
   .k (some 12) none (.asg (.tmp 38))])
 (.ops [.f (some 39) none (.mv (.tmp 12)),
   .f (some 40) none (.mv (.tmp 12)),
   .f (some 41) none (.nilc (.tmp 40)),
   .f (some 42) none (.faddr 0 (.tmp 41)),
   .f (some 43) none (.load none (.tmp 42)),
   .f (some 44) none (.mv (.tmp 9)),
   .f (some 45) none (.bin .add (.tmp 43) (.tmp 44)),
   .f (some 46) none (.bin .rem (.tmp 45) (.const (.int .i64 3600))),
   .f (some 47) none (.nilc (.tmp 39)),
   .f (some 48) none (.faddr 0 (.tmp 47)),
   .k none none (.store 1 (.tmp 48) (.tmp 46))])))
(.ops [.f (some 49) none (.bin .add (.tmp 36) (.const (.int .i64 1))),
  .f (some 36) none (.mv (.tmp 49))]))))
def c7 : Cd :=
(.seq (.ops [.k (some 4) none (.asg (.const (.bool false)))])
(.seq (.seq (.ops [.f (some 17) none (.mv (.tmp 0)),
  .f (some 18) none (.len (.tmp 17)),
  .f (some 19) none (.bin .gtr (.tmp 18) (.const (.int .i64 600)))])
(.cond (.tmp 19)
 (.seq (.ops [.k (some 20) none (.call 9 []),
   .k (some 4) none (.asg (.tmp 20))])
 .ret)
 .skip))
(.seq (.ops [.f (some 21) none (.mv (.tmp 0)),
  .k (some 22) none (.call 10 [(.tmp 21)]),
  .k (some 5) none (.asg (.tmp 22))])
(.seq (.ops [.f (some 23) none (.mv (.tmp 5)),
  .k (some 24) none (.call 17 [(.tmp 23)]),
  .f (some 25) none (.mv (.tmp 5)),
  .k (some 26) none (.call 18 [(.tmp 25)]),
  .f (some 27) none (.mv (.tmp 5)),
  .k (some 28) none (.call 16 [(.tmp 27), (.const (.int .i64 3600))]),
  .f (some 29) none (.mv (.tmp 1)),
  .k (some 30) none (.call 12 [(.tmp 29), (.const (.int .i64 3600))]),
  .k (some 6) none (.alloc 45 [(.slice none 0 0), (.slice none 0 0), (.slice none 0 0), (.slice none 0 0), (.slice none 0 0), (.slice none 0 0), (.slice none 0 0), (.slice none 0 0), (.slice none 0 0), (.int .i64 0), (.int .i64 0), (.int .i64 0), (.int .i64 0)]),
  .k (some 7) none (.alloc 48 [(.int .i64 0), (.int .i64 0), (.int .i64 0), (.int .i64 0), (.int .i64 0), (.int .i64 0)]),
  .k none none (.store 13 (.tmp 6) (.tmp 24)),
  .k none none (.store 6 (.tmp 7) (.tmp 26)),
  .k (some 8) none (.asg (.tmp 28)),
  .k (some 9) none (.asg (.tmp 30))])
(.seq (.ops [.f (some 31) none (.load (some 6) (.tmp 7)),
  .k (some 10) none (.alloc 48 [(.int .i64 0), (.int .i64 0), (.int .i64 0), (.int .i64 0), (.int .i64 0), (.int .i64 0)]),
  .k none none (.store 6 (.tmp 10) (.tmp 31))])
(.seq (.seq (.ops [.f (some 32) none (.faddr 0 (.tmp 10)),
  .f (some 33) none (.faddr 2 (.tmp 10)),
  .f (some 34) none (.faddr 4 (.tmp 10)),
  .f (some 35) none (.build [(.pointer none), (.pointer none), (.pointer none)] [(0, 1, (.tmp 32)), (1, 1, (.tmp 33)), (2, 1, (.tmp 34))]),
  .f (some 36) none (.mv (.const (.int .i64 0)))])
(.block 0
 (.loop c7_0)))
(.seq (.ops [.f (some 51) none (.load (some 13) (.tmp 6)),
  .f (some 52) none (.load (some 6) (.tmp 7)),
  .f (some 53) none (.mv (.tmp 8)),
  .k (some 54) none (.call 23 [(.tmp 51), (.tmp 52), (.tmp 53)]),
  .f (some 50) none (.mv (.tmp 54)),
  .f (some 55) none (.extract 0 (.tmp 50)),
  .f (some 56) none (.extract 1 (.tmp 50)),
  .k (some 13) none (.alloc 36 [(.int .i64 0), (.int .i64 0), (.int .i64 0)]),
  .k none none (.store 3 (.tmp 13) (.tmp 55)),
  .k (some 14) none (.asg (.tmp 56))])
(.seq (.ops [.f (some 58) none (.load (some 13) (.tmp 6)),
  .f (some 59) none (.load (some 6) (.tmp 10)),
  .f (some 60) none (.mv (.tmp 8)),
  .f (some 61) none (.mv (.tmp 9)),
  .f (some 62) none (.bin .add (.tmp 60) (.tmp 61)),
  .f (some 63) none (.bin .rem (.tmp 62) (.const (.int .i64 3600))),
  .k (some 64) none (.call 23 [(.tmp 58), (.tmp 59), (.tmp 63)]),
  .f (some 57) none (.mv (.tmp 64)),
  .f (some 65) none (.extract 0 (.tmp 57)),
  .f (some 66) none (.extract 1 (.tmp 57)),
  .k (some 15) none (.alloc 36 [(.int .i64 0), (.int .i64 0), (.int .i64 0)]),
  .k none none (.store 3 (.tmp 15) (.tmp 65)),
  .k (some 16) none (.asg (.tmp 66))])
(.seq (.ops [.f (some 67) none (.mv (.tmp 14)),
  .f (some 68) none (.bin .eql (.tmp 67) (.const (.int .i64 0))),
  .f (some 69) none (.mv (.tmp 68)),
  .f (some 70) (some (69, true)) (.mv (.tmp 16)),
  .f (some 71) (some (69, true)) (.bin .eql (.tmp 70) (.const (.int .i64 0))),
  .f (some 72) none (.pick (.tmp 69) (.tmp 71) (.const (.bool false))),
  .f (some 73) none (.mv (.tmp 72)),
  .f (some 74) (some (73, true)) (.load (some 3) (.tmp 13)),
  .f (some 75) (some (73, true)) (.load (some 3) (.tmp 15)),
  .f (some 76) (some (73, true)) (.eql false (.st [(0, none, .num), (1, none, .num), (2, none, .num)]) (.tmp 74) (.tmp 75)),
  .f (some 77) none (.pick (.tmp 73) (.tmp 76) (.const (.bool false))),
  .f (some 78) none (.mv (.tmp 77)),
  .k (some 79) (some (78, true)) (.call 9 []),
  .f (some 80) none (.pick (.tmp 78) (.tmp 79) (.const (.bool false))),
  .k (some 4) none (.asg (.tmp 80))])
.ret)))))))))
theorem fn7 : FnOK Try.prog 7 81 c7 [.tmp 4] := .of (by kernel_rfl)
/-! 'dynpos/dynposlaw22.WeatherCalm' -/
def c8 : Cd :=
(.seq (.ops [.k (some 2) none (.asg (.const (.bool false)))])
(.seq (.seq (.ops [.f (some 18) none (.mv (.tmp 0)),
  .f (some 19) none (.len (.tmp 18)),
  .f (some 20) none (.bin .gtr (.tmp 19) (.const (.int .i64 600)))])
(.cond (.tmp 20)
 (.seq (.ops [.k (some 21) none (.call 9 []),
   .k (some 2) none (.asg (.tmp 21))])
 .ret)
 .skip))
(.seq (.ops [.f (some 22) none (.mv (.tmp 0)),
  .k (some 23) none (.call 10 [(.tmp 22)]),
  .k (some 3) none (.asg (.tmp 23))])
(.seq (.ops [.f (some 24) none (.mv (.tmp 3)),
  .k (some 25) none (.call 17 [(.tmp 24)]),
  .f (some 26) none (.mv (.tmp 3)),
  .k (some 27) none (.call 18 [(.tmp 26)]),
  .f (some 28) none (.mv (.tmp 3)),
  .k (some 29) none (.call 16 [(.tmp 28), (.const (.int .i64 3600))]),
  .k (some 4) none (.alloc 45 [(.slice none 0 0), (.slice none 0 0), (.slice none 0 0), (.slice none 0 0), (.slice none 0 0), (.slice none 0 0), (.slice none 0 0), (.slice none 0 0), (.slice none 0 0), (.int .i64 0), (.int .i64 0), (.int .i64 0), (.int .i64 0)]),
  .k (some 5) none (.alloc 48 [(.int .i64 0), (.int .i64 0), (.int .i64 0), (.int .i64 0), (.int .i64 0), (.int .i64 0)]),
  .k none none (.store 13 (.tmp 4) (.tmp 25)),
  .k none none (.store 6 (.tmp 5) (.tmp 27)),
  .k (some 6) none (.asg (.tmp 29))])
(.seq (.ops [.f (some 30) none (.faddr 0 (.tmp 5)),
  .f (some 31) none (.faddr 0 (.tmp 30)),
  .f (some 32) none (.load none (.tmp 31)),
  .f (some 33) none (.build [(.int .i64 0), (.int .i64 0)] [(0, 1, (.tmp 32))]),
  .f (some 34) none (.faddr 2 (.tmp 5)),
  .f (some 35) none (.faddr 0 (.tmp 34)),
  .f (some 36) none (.load none (.tmp 35)),
  .f (some 37) none (.build [(.int .i64 0), (.int .i64 0)] [(0, 1, (.tmp 36))]),
  .f (some 38) none (.faddr 4 (.tmp 5)),
  .f (some 39) none (.faddr 0 (.tmp 38)),
  .f (some 40) none (.load none (.tmp 39)),
  .f (some 41) none (.build [(.int .i64 0), (.int .i64 0)] [(0, 1, (.tmp 40))]),
  .f (some 42) none (.build [(.int .i64 0), (.int .i64 0), (.int .i64 0), (.int .i64 0), (.int .i64 0), (.int .i64 0)] [(0, 2, (.tmp 33)), (2, 2, (.tmp 37)), (4, 2, (.tmp 41))]),
  .k (some 7) none (.alloc 48 [(.int .i64 0), (.int .i64 0), (.int .i64 0), (.int .i64 0), (.int .i64 0), (.int .i64 0)]),
  .k none none (.store 6 (.tmp 7) (.tmp 42))])
(.seq (.ops [.f (some 44) none (.load (some 13) (.tmp 4)),
  .f (some 45) none (.load (some 6) (.tmp 7)),
  .f (some 46) none (.mv (.tmp 6)),
  .k (some 47) none (.call 23 [(.tmp 44), (.tmp 45), (.tmp 46)]),
  .f (some 43) none (.mv (.tmp 47)),
  .f (some 48) none (.extract 0 (.tmp 43)),
  .f (some 49) none (.extract 1 (.tmp 43)),
  .k (some 8) none (.alloc 36 [(.int .i64 0), (.int .i64 0), (.int .i64 0)]),
  .k none none (.store 3 (.tmp 8) (.tmp 48)),
  .k (some 9) none (.asg (.tmp 49))])
(.seq (.seq (.ops [.f (some 50) none (.mv (.tmp 9)),
  .f (some 51) none (.bin .neq (.tmp 50) (.const (.int .i64 0))),
  .f (some 52) none (.mv (.tmp 51)),
  .f (some 53) (some (52, false)) (.load (some 3) (.tmp 8)),
  .f (some 54) (some (52, false)) (.build [(.int .i64 0), (.int .i64 0), (.int .i64 0)] []),
  .f (some 55) (some (52, false)) (.eql true (.st [(0, none, .num), (1, none, .num), (2, none, .num)]) (.tmp 53) (.tmp 54)),
  .f (some 56) none (.pick (.tmp 52) (.const (.bool true)) (.tmp 55))])
(.cond (.tmp 56)
 (.seq (.ops [.k (some 2) none (.asg (.const (.bool false)))])
 .ret)
 .skip))
(.seq (.ops [.f (some 58) none (.load (some 13) (.tmp 4)),
  .f (some 59) none (.load (some 6) (.tmp 5)),
  .f (some 60) none (.mv (.tmp 6)),
  .k (some 61) none (.call 23 [(.tmp 58), (.tmp 59), (.tmp 60)]),
  .f (some 57) none (.mv (.tmp 61)),
  .f (some 62) none (.extract 0 (.tmp 57)),
  .f (some 63) none (.extract 1 (.tmp 57)),
  .k (some 10) none (.alloc 36 [(.int .i64 0), (.int .i64 0), (.int .i64 0)]),
  .k none none (.store 3 (.tmp 10) (.tmp 62)),
  .k (some 11) none (.asg (.tmp 63))])
(.seq (.ops [.f (some 65) none (.load (some 13) (.tmp 4)),
  .f (some 66) none (.faddr 0 (.tmp 5)),
  .f (some 67) none (.load (some 2) (.tmp 66)),
  .f (some 68) none (.build [(.int .i64 0), (.int .i64 0), (.int .i64 0), (.int .i64 0), (.int .i64 0), (.int .i64 0)] [(0, 2, (.tmp 67))]),
  .f (some 69) none (.mv (.tmp 6)),
  .k (some 70) none (.call 23 [(.tmp 65), (.tmp 68), (.tmp 69)]),
  .f (some 64) none (.mv (.tmp 70)),
  .f (some 71) none (.extract 0 (.tmp 64)),
  .f (some 72) none (.extract 1 (.tmp 64)),
  .k (some 12) none (.alloc 36 [(.int .i64 0), (.int .i64 0), (.int .i64 0)]),
  .k none none (.store 3 (.tmp 12) (.tmp 71)),
  .k (some 13) none (.asg (.tmp 72))])
(.seq (.ops [.f (some 74) none (.load (some 13) (.tmp 4)),
  .f (some 75) none (.faddr 2 (.tmp 5)),
  .f (some 76) none (.load (some 2) (.tmp 75)),
  .f (some 77) none (.build [(.int .i64 0), (.int .i64 0), (.int .i64 0), (.int .i64 0), (.int .i64 0), (.int .i64 0)] [(2, 2, (.tmp 76))]),
  .f (some 78) none (.mv (.tmp 6)),
  .k (some 79) none (.call 23 [(.tmp 74), (.tmp 77), (.tmp 78)]),
  .f (some 73) none (.mv (.tmp 79)),
  .f (some 80) none (.extract 0 (.tmp 73)),
  .f (some 81) none (.extract 1 (.tmp 73)),
  .k (some 14) none (.alloc 36 [(.int .i64 0), (.int .i64 0), (.int .i64 0)]),
  .k none none (.store 3 (.tmp 14) (.tmp 80)),
  .k (some 15) none (.asg (.tmp 81))])
(.seq (.ops [.f (some 83) none (.load (some 13) (.tmp 4)),
  .f (some 84) none (.faddr 4 (.tmp 5)),
  .f (some 85) none (.load (some 2) (.tmp 84)),
  .f (some 86) none (.build [(.int .i64 0), (.int .i64 0), (.int .i64 0), (.int .i64 0), (.int .i64 0), (.int .i64 0)] [(4, 2, (.tmp 85))]),
  .f (some 87) none (.mv (.tmp 6)),
  .k (some 88) none (.call 23 [(.tmp 83), (.tmp 86), (.tmp 87)]),
  .f (some 82) none (.mv (.tmp 88)),
  .f (some 89) none (.extract 0 (.tmp 82)),
  .f (some 90) none (.extract 1 (.tmp 82)),
  .k (some 16) none (.alloc 36 [(.int .i64 0), (.int .i64 0), (.int .i64 0)]),
  .k none none (.store 3 (.tmp 16) (.tmp 89)),
  .k (some 17) none (.asg (.tmp 90))])
(.seq (.ops [.f (some 91) none (.faddr 0 (.tmp 10)),
  .f (some 92) none (.load none (.tmp 91)),
  .f (some 93) none (.faddr 0 (.tmp 12)),
  .f (some 94) none (.load none (.tmp 93)),
  .f (some 95) none (.faddr 0 (.tmp 14)),
  .f (some 96) none (.load none (.tmp 95)),
  .f (some 97) none (.bin .add (.tmp 94) (.tmp 96)),
  .f (some 98) none (.faddr 0 (.tmp 16)),
  .f (some 99) none (.load none (.tmp 98)),
  .f (some 100) none (.bin .add (.tmp 97) (.tmp 99)),
  .f (some 101) none (.bin .eql (.tmp 92) (.tmp 100)),
  .f (some 102) none (.mv (.tmp 101)),
  .f (some 103) (some (102, true)) (.faddr 1 (.tmp 10)),
  .f (some 104) (some (102, true)) (.load none (.tmp 103)),
  .f (some 105) (some (102, true)) (.faddr 1 (.tmp 12)),
  .f (some 106) (some (102, true)) (.load none (.tmp 105)),
  .f (some 107) (some (102, true)) (.faddr 1 (.tmp 14)),
  .f (some 108) (some (102, true)) (.load none (.tmp 107)),
  .f (some 109) (some (102, true)) (.bin .add (.tmp 106) (.tmp 108)),
  .f (some 110) (some (102, true)) (.faddr 1 (.tmp 16)),
  .f (some 111) (some (102, true)) (.load none (.tmp 110)),
  .f (some 112) (some (102, true)) (.bin .add (.tmp 109) (.tmp 111)),
  .f (some 113) (some (102, true)) (.bin .eql (.tmp 104) (.tmp 112)),
  .f (some 114) none (.pick (.tmp 102) (.tmp 113) (.const (.bool false))),
  .f (some 115) none (.mv (.tmp 114)),
  .f (some 116) (some (115, true)) (.faddr 2 (.tmp 10)),
  .f (some 117) (some (115, true)) (.load none (.tmp 116)),
  .f (some 118) (some (115, true)) (.faddr 2 (.tmp 12)),
  .f (some 119) (some (115, true)) (.load none (.tmp 118)),
  .f (some 120) (some (115, true)) (.faddr 2 (.tmp 14)),
  .f (some 121) (some (115, true)) (.load none (.tmp 120)),
  .f (some 122) (some (115, true)) (.bin .add (.tmp 119) (.tmp 121)),
  .f (some 123) (some (115, true)) (.faddr 2 (.tmp 16)),
  .f (some 124) (some (115, true)) (.load none (.tmp 123)),
  .f (some 125) (some (115, true)) (.bin .add (.tmp 122) (.tmp 124)),
  .f (some 126) (some (115, true)) (.bin .eql (.tmp 117) (.tmp 125)),
  .f (some 127) none (.pick (.tmp 115) (.tmp 126) (.const (.bool false))),
  .f (some 128) none (.mv (.tmp 127)),
  .k (some 129) (some (128, true)) (.call 9 []),
  .f (some 130) none (.pick (.tmp 128) (.tmp 129) (.const (.bool false))),
  .k (some 2) none (.asg (.tmp 130))])
.ret))))))))))))
theorem fn8 : FnOK Try.prog 8 131 c8 [.tmp 2] := .of (by kernel_rfl)
/-! 'dynpos/dynposlaw22.sane' -/
def c9 : Cd :=
(.seq (.ops [.k (some 0) none (.asg (.const (.bool false)))])
(.seq (.opd [⟨0, .k (some 2) none (.mkz 3 1 12 [(.int .i64 0)]), []⟩,
  ⟨1, .k (some 3) none (.mkz 3 1 12 [(.int .i64 0)]), []⟩,
  ⟨2, .k (some 4) none (.mkz 3 1 12 [(.int .i64 0)]), []⟩,
  ⟨3, .f (some 5) none (.build [(.slice none 0 0), (.slice none 0 0), (.slice none 0 0)] [(0, 1, (.tmp 2)), (1, 1, (.tmp 3)), (2, 1, (.tmp 4))]), []⟩,
  ⟨4, .k (some 1) none (.alloc 27 [(.slice none 0 0), (.slice none 0 0), (.slice none 0 0)]), []⟩,
  ⟨5, .k none none (.store 3 (.tmp 1) (.tmp 5)), []⟩])
(.seq (.ops [.f (some 6) none (.faddr 0 (.tmp 1)),
  .f (some 7) none (.load none (.tmp 6)),
  .f (some 8) none (.iaddr 1 none (.tmp 7) (.const (.int .i64 1))),
  .k none none (.store 1 (.tmp 8) (.const (.int .i64 300)))])
(.seq (.ops [.f (some 9) none (.faddr 0 (.tmp 1)),
  .f (some 10) none (.load none (.tmp 9)),
  .k (some 11) none (.call 13 [(.tmp 10), (.const (.int .i64 150))]),
  .f (some 12) none (.bin .eql (.tmp 11) (.const (.int .i64 150))),
  .f (some 13) none (.mv (.tmp 12)),
  .f (some 14) (some (13, true)) (.faddr 0 (.tmp 1)),
  .f (some 15) (some (13, true)) (.load none (.tmp 14)),
  .k (some 16) (some (13, true)) (.call 13 [(.tmp 15), (.const (.int .i64 450))]),
  .f (some 17) (some (13, true)) (.bin .eql (.tmp 16) (.const (.int .i64 150))),
  .f (some 18) none (.pick (.tmp 13) (.tmp 17) (.const (.bool false))),
  .f (some 19) none (.mv (.tmp 18)),
  .f (some 20) (some (19, true)) (.load (some 3) (.tmp 1)),
  .f (some 21) (some (19, true)) (.build [(.int .i64 0), (.int .i64 0)] [(0, 1, (.const (.int .i64 150))), (1, 1, (.const (.int .i64 1000)))]),
  .k (some 22) (some (19, true)) (.call 15 [(.tmp 20), (.tmp 21), (.const (.int .i64 0))]),
  .f (some 23) (some (19, true)) (.build [(.int .i64 0), (.int .i64 0), (.int .i64 0)] [(0, 1, (.const (.int .i64 150)))]),
  .f (some 24) (some (19, true)) (.eql false (.st [(0, none, .num), (1, none, .num), (2, none, .num)]) (.tmp 22) (.tmp 23)),
  .f (some 25) none (.pick (.tmp 19) (.tmp 24) (.const (.bool false))),
  .f (some 26) none (.mv (.tmp 25)),
  .f (some 27) (some (26, true)) (.load (some 3) (.tmp 1)),
  .f (some 28) (some (26, true)) (.build [(.int .i64 0), (.int .i64 0)] [(0, 1, (.const (.int .i64 0))), (1, 1, (.const (.int .i64 1000)))]),
  .k (some 29) (some (26, true)) (.call 15 [(.tmp 27), (.tmp 28), (.const (.int .i64 3300))]),
  .f (some 30) (some (26, true)) (.build [(.int .i64 0), (.int .i64 0), (.int .i64 0)] [(0, 1, (.const (.int .i64 300)))]),
  .f (some 31) (some (26, true)) (.eql false (.st [(0, none, .num), (1, none, .num), (2, none, .num)]) (.tmp 29) (.tmp 30)),
  .f (some 32) none (.pick (.tmp 26) (.tmp 31) (.const (.bool false))),
  .k (some 0) none (.asg (.tmp 32))])
.ret))))
theorem fn9 : FnOK Try.prog 9 33 c9 [.tmp 0] := .of (by kernel_rfl)
/-! 'dynpos/dynposmake.New' -/
def c10 : Cd :=
(.seq (.ops [.k (some 2) none (.asg (.const (.pointer none)))])
(.seq (.ops [.f (some 3) none (.mv (.tmp 0)),
  .f (some 4) none (.mv (.tmp 0)),
  .f (some 5) none (.len (.tmp 4)),
  .f (some 6) none (.mm false [(.tmp 5), (.const (.int .i64 600))]),
  .f (some 7) none (.slc 1 (.tmp 3) none (some (.tmp 6)) none),
  .f (some 8) none (.build [(.slice none 0 0), (.int .i64 0)] [(0, 1, (.tmp 7))]),
  .k (some 9) none (.box 65 2 (.tmp 8)),
  .k (some 2) none (.asg (.tmp 9))])
.ret))
theorem fn10 : FnOK Try.prog 10 10 c10 [.tmp 2] := .of (by kernel_rfl)
/-! '(*dynpos/dynposmake.Src).Curve' -/
def c11 : Cd :=
(.seq (.ops [.k (some 2) none (.alloc 27 [(.slice none 0 0), (.slice none 0 0), (.slice none 0 0)])])
(.seq (.ops [.f (some 3) none (.mv (.tmp 0)),
  .k (some 4) none (.call 29 [(.tmp 3)]),
  .f (some 5) none (.mv (.tmp 0)),
  .k (some 6) none (.call 29 [(.tmp 5)]),
  .f (some 7) none (.mv (.tmp 0)),
  .k (some 8) none (.call 29 [(.tmp 7)]),
  .f (some 9) none (.build [(.slice none 0 0), (.slice none 0 0), (.slice none 0 0)] [(0, 1, (.tmp 4)), (1, 1, (.tmp 6)), (2, 1, (.tmp 8))]),
  .k none none (.store 3 (.tmp 2) (.tmp 9))])
.ret))
theorem fn11 : FnOK Try.prog 11 10 c11 [.cell 2 (some 3)] := .of (by kernel_rfl)
/-! 'dynpos/dynposmake.Mod' -/
def c12 : Cd :=
(.seq (.ops [.k (some 4) none (.asg (.const (.int .i64 0)))])
(.seq (.seq (.ops [.f (some 5) none (.mv (.tmp 1)),
  .f (some 6) none (.bin .lss (.tmp 5) (.const (.int .i64 1)))])
(.cond (.tmp 6)
 (.seq (.ops [.k (some 4) none (.asg (.const (.int .i64 0)))])
 .ret)
 .skip))
(.seq (.ops [.f (some 7) none (.mv (.tmp 0)),
  .f (some 8) none (.mv (.tmp 1)),
  .f (some 9) none (.bin .rem (.tmp 7) (.tmp 8)),
  .f (some 10) none (.mv (.tmp 1)),
  .f (some 11) none (.bin .add (.tmp 9) (.tmp 10)),
  .f (some 12) none (.mv (.tmp 1)),
  .f (some 13) none (.bin .rem (.tmp 11) (.tmp 12)),
  .k (some 4) none (.asg (.tmp 13))])
.ret)))
theorem fn12 : FnOK Try.prog 12 14 c12 [.tmp 4] := .of (by kernel_rfl)
/-! 'dynpos/weather.Factor' -/
def c13 : Cd :=
(.seq (.ops [.k (some 4) none (.asg (.const (.int .i64 0)))])
(.seq (.ops [.f (some 8) none (.mv (.tmp 0)),
  .k (some 9) none (.call 30 [(.tmp 8)]),
  .f (some 7) none (.mv (.tmp 9)),
  .f (some 10) none (.extract 0 (.tmp 7)),
  .f (some 11) none (.extract 1 (.tmp 7)),
  .k (some 5) none (.alloc 68 [(.int .i64 0), (.int .i64 0), (.int .i64 0), (.int .i64 0), (.int .i64 0), (.int .i64 0), (.int .i64 0), (.int .i64 0), (.int .i64 0), (.int .i64 0), (.int .i64 0), (.int .i64 0)]),
  .k none none (.store 12 (.tmp 5) (.tmp 10)),
  .k (some 6) none (.asg (.tmp 11))])
(.seq (.seq (.ops [.f (some 12) none (.mv (.tmp 6)),
  .f (some 13) none (.un .not (.tmp 12)),
  .f (some 14) none (.mv (.tmp 13)),
  .f (some 15) (some (14, false)) (.mv (.tmp 1)),
  .k (some 16) (some (14, false)) (.call 31 [(.tmp 15)]),
  .f (some 17) (some (14, false)) (.un .not (.tmp 16)),
  .f (some 18) none (.pick (.tmp 14) (.const (.bool true)) (.tmp 17))])
(.cond (.tmp 18)
 (.seq (.ops [.k (some 4) none (.asg (.const (.int .i64 0)))])
 .ret)
 .skip))
(.seq (.ops [.f (some 19) none (.load (some 12) (.tmp 5)),
  .f (some 20) none (.mv (.tmp 1)),
  .k (some 21) none (.call 32 [(.tmp 19), (.tmp 20)]),
  .k (some 4) none (.asg (.tmp 21))])
.ret))))
theorem fn13 : FnOK Try.prog 13 22 c13 [.tmp 4] := .of (by kernel_rfl)
/-! '(*dynpos/dynposmake.Src).Flow' -/
def c14 : Cd :=
(.seq (.ops [.k (some 2) none (.alloc 33 [(.int .i64 0), (.int .i64 0)])])
(.seq (.ops [.f (some 3) none (.mv (.tmp 0)),
  .k (some 4) none (.call 22 [(.tmp 3)]),
  .f (some 5) none (.mv (.tmp 0)),
  .k (some 6) none (.bslice 3 1 6 [(.int .i64 0)] [(0, 1, (.const (.int .i64 0))), (1, 1, (.const (.int .i64 0))), (2, 1, (.const (.int .i64 50))), (3, 1, (.const (.int .i64 100))), (4, 1, (.const (.int .i64 200))), (5, 1, (.const (.int .i64 1000)))]),
  .k (some 7) none (.call 33 [(.tmp 5), (.tmp 6)]),
  .f (some 8) none (.build [(.int .i64 0), (.int .i64 0)] [(0, 1, (.tmp 4)), (1, 1, (.tmp 7))]),
  .k none none (.store 2 (.tmp 2) (.tmp 8))])
.ret))
theorem fn14 : FnOK Try.prog 14 9 c14 [.cell 2 (some 2)] := .of (by kernel_rfl)
/-! 'dynpos/weather.Load' -/
def c15_0 : Cd :=
(.seq (.ops [.f (some 32) none (.bin .lss (.tmp 31) (.const (.int .i64 3)))])
(.seq (.cond (.tmp 32)
 .skip
 (.exit 0))
(.seq (.block 1
 (.seq (.ops [.f (some 33) none (.mv (.tmp 31)),
   .f (some 34) none (.idx 12 (some 12) 3 (.tmp 30) (.tmp 31)),
   .k (some 11) none (.alloc 68 [(.int .i64 0), (.int .i64 0), (.int .i64 0), (.int .i64 0), (.int .i64 0), (.int .i64 0), (.int .i64 0), (.int .i64 0), (.int .i64 0), (.int .i64 0), (.int .i64 0), (.int .i64 0)]),
   .k (some 10) none (.asg (.tmp 33)),
   .k none none (.store 12 (.tmp 11) (.tmp 34))])
 (.opd [⟨0, .f (some 35) none (.mv (.tmp 10)), []⟩,
   ⟨1, .f (some 36) none (.load (some 12) (.tmp 11)), []⟩,
   ⟨2, .f (some 37) none (.faddr 0 (.tmp 4)), []⟩,
   ⟨3, .f (some 38) none (.load none (.tmp 37)), []⟩,
   ⟨4, .f (some 39) none (.mv (.tmp 2)), []⟩,
   ⟨5, .f (some 40) none (.bin .sub (.tmp 38) (.tmp 39)), []⟩,
   ⟨8, .f (some 43) none (.faddr 1 (.tmp 4)), []⟩,
   ⟨9, .f (some 44) none (.load none (.tmp 43)), []⟩,
   ⟨11, .f (some 46) none (.faddr 1 (.tmp 4)), []⟩,
   ⟨12, .f (some 47) none (.load none (.tmp 46)), []⟩,
   ⟨6, .k (some 41) none (.call 37 [(.tmp 40)]), [.f (some 36) none (.load (some 12) (.tmp 11)), .f (some 44) none (.load none (.tmp 43)), .f (some 47) none (.load none (.tmp 46))]⟩,
   ⟨7, .k (some 42) none (.call 32 [(.tmp 36), (.tmp 41)]), [.f (some 44) none (.load none (.tmp 43)), .f (some 47) none (.load none (.tmp 46))]⟩,
   ⟨10, .f (some 45) none (.bin .mul (.tmp 42) (.tmp 44)), []⟩,
   ⟨13, .f (some 48) none (.bin .mul (.tmp 45) (.tmp 47)), []⟩,
   ⟨14, .k (some 49) none (.call 36 [(.tmp 48), (.const (.int .i64 1000000))]), []⟩,
   ⟨15, .f (some 50) none (.iaddr 1 (some 3) (.tmp 9) (.tmp 35)), []⟩,
   ⟨16, .k none none (.store 1 (.tmp 50) (.tmp 49)), []⟩])))
(.ops [.f (some 51) none (.bin .add (.tmp 31) (.const (.int .i64 1))),
  .f (some 31) none (.mv (.tmp 51))]))))
def c15 : Cd :=
(.seq (.ops [.k (some 3) none (.box 27 3 (.tmp 0)),
  .k (some 4) none (.box 33 2 (.tmp 1)),
  .k (some 6) none (.alloc 36 [(.int .i64 0), (.int .i64 0), (.int .i64 0)])])
(.seq (.ops [.f (some 13) none (.load (some 3) (.tmp 3)),
  .k (some 14) none (.call 34 [(.tmp 13)]),
  .f (some 12) none (.mv (.tmp 14)),
  .f (some 15) none (.extract 0 (.tmp 12)),
  .f (some 16) none (.extract 1 (.tmp 12)),
  .k (some 7) none (.alloc 73 [(.int .i64 0), (.int .i64 0), (.int .i64 0), (.int .i64 0), (.int .i64 0), (.int .i64 0), (.int .i64 0), (.int .i64 0), (.int .i64 0), (.int .i64 0), (.int .i64 0), (.int .i64 0), (.int .i64 0), (.int .i64 0), (.int .i64 0), (.int .i64 0), (.int .i64 0), (.int .i64 0), (.int .i64 0), (.int .i64 0), (.int .i64 0), (.int .i64 0), (.int .i64 0), (.int .i64 0), (.int .i64 0), (.int .i64 0), (.int .i64 0), (.int .i64 0), (.int .i64 0), (.int .i64 0), (.int .i64 0), (.int .i64 0), (.int .i64 0), (.int .i64 0), (.int .i64 0), (.int .i64 0)]),
  .k none none (.store 36 (.tmp 7) (.tmp 15)),
  .k (some 8) none (.asg (.tmp 16))])
(.seq (.seq (.ops [.f (some 17) none (.mv (.tmp 8)),
  .f (some 18) none (.un .not (.tmp 17)),
  .f (some 19) none (.mv (.tmp 18)),
  .f (some 20) (some (19, false)) (.load (some 2) (.tmp 4)),
  .k (some 21) (some (19, false)) (.call 35 [(.tmp 20)]),
  .f (some 22) (some (19, false)) (.un .not (.tmp 21)),
  .f (some 23) none (.pick (.tmp 19) (.const (.bool true)) (.tmp 22)),
  .f (some 24) none (.mv (.tmp 23)),
  .f (some 25) (some (24, false)) (.mv (.tmp 2)),
  .k (some 26) (some (24, false)) (.call 31 [(.tmp 25)]),
  .f (some 27) (some (24, false)) (.un .not (.tmp 26)),
  .f (some 28) none (.pick (.tmp 24) (.const (.bool true)) (.tmp 27))])
(.cond (.tmp 28)
 (.seq (.ops [.f (some 29) none (.build [(.int .i64 0), (.int .i64 0), (.int .i64 0)] []),
   .k none none (.store 3 (.tmp 6) (.tmp 29))])
 .ret)
 .skip))
(.seq (.ops [.k (some 9) none (.alloc 39 [(.int .i64 0), (.int .i64 0), (.int .i64 0)])])
(.seq (.seq (.ops [.f (some 30) none (.load (some 36) (.tmp 7)),
  .f (some 31) none (.mv (.const (.int .i64 0)))])
(.block 0
 (.loop c15_0)))
(.seq (.ops [.f (some 52) none (.iaddr 1 (some 3) (.tmp 9) (.const (.int .i64 0))),
  .f (some 53) none (.load none (.tmp 52)),
  .f (some 54) none (.iaddr 1 (some 3) (.tmp 9) (.const (.int .i64 1))),
  .f (some 55) none (.load none (.tmp 54)),
  .f (some 56) none (.iaddr 1 (some 3) (.tmp 9) (.const (.int .i64 2))),
  .f (some 57) none (.load none (.tmp 56)),
  .f (some 58) none (.build [(.int .i64 0), (.int .i64 0), (.int .i64 0)] [(0, 1, (.tmp 53)), (1, 1, (.tmp 55)), (2, 1, (.tmp 57))]),
  .k none none (.store 3 (.tmp 6) (.tmp 58))])
.ret))))))
theorem fn15 : FnOK Try.prog 15 59 c15 [.cell 6 (some 3)] := .of (by kernel_rfl)
/-! '(*dynpos/dynposmake.Src).N' -/
def c16 : Cd :=
(.seq (.ops [.k (some 4) none (.asg (.const (.int .i64 0)))])
(.seq (.seq (.opd [⟨0, .f (some 5) none (.mv (.tmp 0)), []⟩,
  ⟨1, .f (some 6) none (.nilc (.tmp 5)), []⟩,
  ⟨2, .f (some 7) none (.faddr 1 (.tmp 6)), []⟩,
  ⟨3, .f (some 8) none (.load none (.tmp 7)), []⟩,
  ⟨4, .f (some 9) none (.mv (.tmp 0)), []⟩,
  ⟨5, .f (some 10) none (.nilc (.tmp 9)), []⟩,
  ⟨6, .f (some 11) none (.faddr 0 (.tmp 10)), []⟩,
  ⟨7, .f (some 12) none (.load none (.tmp 11)), []⟩,
  ⟨8, .f (some 13) none (.len (.tmp 12)), []⟩,
  ⟨9, .f (some 14) none (.bin .geq (.tmp 8) (.tmp 13)), []⟩])
(.cond (.tmp 14)
 (.seq (.ops [.k (some 4) none (.asg (.const (.int .i64 0)))])
 .ret)
 .skip))
(.seq (.ops [.f (some 15) none (.mv (.tmp 0)),
  .f (some 16) none (.nilc (.tmp 15)),
  .f (some 17) none (.faddr 1 (.tmp 16)),
  .f (some 18) none (.load none (.tmp 17)),
  .f (some 19) none (.bin .add (.tmp 18) (.const (.int .i64 1))),
  .f (some 20) none (.nilc (.tmp 15)),
  .f (some 21) none (.faddr 1 (.tmp 20)),
  .k none none (.store 1 (.tmp 21) (.tmp 19))])
(.seq (.opd [⟨0, .f (some 22) none (.mv (.tmp 0)), []⟩,
  ⟨1, .f (some 23) none (.nilc (.tmp 22)), []⟩,
  ⟨2, .f (some 24) none (.faddr 0 (.tmp 23)), []⟩,
  ⟨3, .f (some 25) none (.load none (.tmp 24)), []⟩,
  ⟨4, .f (some 26) none (.mv (.tmp 0)), []⟩,
  ⟨5, .f (some 27) none (.nilc (.tmp 26)), []⟩,
  ⟨6, .f (some 28) none (.faddr 1 (.tmp 27)), []⟩,
  ⟨7, .f (some 29) none (.load none (.tmp 28)), []⟩,
  ⟨8, .f (some 30) none (.bin .sub (.tmp 29) (.const (.int .i64 1))), []⟩,
  ⟨9, .f (some 31) none (.iaddr 1 none (.tmp 25) (.tmp 30)), []⟩,
  ⟨10, .f (some 32) none (.load none (.tmp 31)), []⟩,
  ⟨11, .f (some 33) none (.mv (.tmp 1)), []⟩,
  ⟨12, .k (some 34) none (.call 12 [(.tmp 32), (.tmp 33)]), []⟩,
  ⟨13, .k (some 4) none (.asg (.tmp 34)), []⟩])
.ret))))
theorem fn16 : FnOK Try.prog 16 35 c16 [.tmp 4] := .of (by kernel_rfl)
/-! '(*dynpos/dynposmake.Src).Hull' -/
def c17 : Cd :=
(.seq (.ops [.k (some 2) none (.alloc 45 [(.slice none 0 0), (.slice none 0 0), (.slice none 0 0), (.slice none 0 0), (.slice none 0 0), (.slice none 0 0), (.slice none 0 0), (.slice none 0 0), (.slice none 0 0), (.int .i64 0), (.int .i64 0), (.int .i64 0), (.int .i64 0)])])
(.seq (.ops [.f (some 4) none (.mv (.tmp 0)),
  .k (some 5) none (.call 11 [(.tmp 4)]),
  .f (some 6) none (.mv (.tmp 0)),
  .k (some 7) none (.call 11 [(.tmp 6)]),
  .f (some 8) none (.mv (.tmp 0)),
  .k (some 9) none (.call 11 [(.tmp 8)]),
  .f (some 10) none (.mv (.tmp 0)),
  .k (some 11) none (.bslice 3 1 5 [(.int .i64 0)] [(0, 1, (.const (.int .i64 1000))), (1, 1, (.const (.int .i64 1))), (2, 1, (.const (.int .i64 30))), (3, 1, (.const (.int .i64 5000))), (4, 1, (.const (.int .i64 1000000)))]),
  .k (some 12) none (.call 33 [(.tmp 10), (.tmp 11)]),
  .f (some 13) none (.mv (.tmp 0)),
  .k (some 14) none (.bslice 3 1 4 [(.int .i64 0)] [(0, 1, (.const (.int .i64 100000))), (1, 1, (.const (.int .i64 1))), (2, 1, (.const (.int .i64 500))), (3, 1, (.const (.int .i64 1073741824)))]),
  .k (some 15) none (.call 33 [(.tmp 13), (.tmp 14)]),
  .f (some 16) none (.build [(.slice none 0 0), (.slice none 0 0), (.slice none 0 0), (.slice none 0 0), (.slice none 0 0), (.slice none 0 0), (.slice none 0 0), (.slice none 0 0), (.slice none 0 0), (.int .i64 0), (.int .i64 0), (.int .i64 0), (.int .i64 0)] [(0, 3, (.tmp 5)), (3, 3, (.tmp 7)), (6, 3, (.tmp 9)), (9, 1, (.tmp 12)), (10, 1, (.tmp 15))]),
  .k (some 3) none (.alloc 45 [(.slice none 0 0), (.slice none 0 0), (.slice none 0 0), (.slice none 0 0), (.slice none 0 0), (.slice none 0 0), (.slice none 0 0), (.slice none 0 0), (.slice none 0 0), (.int .i64 0), (.int .i64 0), (.int .i64 0), (.int .i64 0)]),
  .k none none (.store 13 (.tmp 3) (.tmp 16))])
(.seq (.opd [⟨0, .f (some 17) none (.mv (.tmp 0)), []⟩,
  ⟨1, .f (some 18) none (.faddr 9 (.tmp 3)), []⟩,
  ⟨2, .f (some 19) none (.load none (.tmp 18)), []⟩,
  ⟨3, .f (some 20) none (.bin .quo (.tmp 19) (.const (.int .i64 10))), []⟩,
  ⟨4, .f (some 21) none (.faddr 9 (.tmp 3)), []⟩,
  ⟨5, .f (some 22) none (.load none (.tmp 21)), []⟩,
  ⟨6, .k (some 23) none (.bslice 3 1 4 [(.int .i64 0)] [(0, 1, (.const (.int .i64 0))), (1, 1, (.const (.int .i64 1))), (2, 1, (.tmp 20)), (3, 1, (.tmp 22))]), []⟩,
  ⟨8, .f (some 25) none (.mv (.tmp 0)), []⟩,
  ⟨9, .f (some 26) none (.faddr 10 (.tmp 3)), []⟩,
  ⟨10, .f (some 27) none (.load none (.tmp 26)), []⟩,
  ⟨11, .f (some 28) none (.bin .quo (.tmp 27) (.const (.int .i64 10))), []⟩,
  ⟨12, .f (some 29) none (.faddr 10 (.tmp 3)), []⟩,
  ⟨13, .f (some 30) none (.load none (.tmp 29)), []⟩,
  ⟨14, .k (some 31) none (.bslice 3 1 4 [(.int .i64 0)] [(0, 1, (.const (.int .i64 0))), (1, 1, (.const (.int .i64 1))), (2, 1, (.tmp 28)), (3, 1, (.tmp 30))]), []⟩,
  ⟨7, .k (some 24) none (.call 33 [(.tmp 17), (.tmp 23)]), [.f (some 27) none (.load none (.tmp 26)), .f (some 30) none (.load none (.tmp 29))]⟩,
  ⟨16, .f (some 33) none (.faddr 11 (.tmp 3)), []⟩,
  ⟨15, .k (some 32) none (.call 33 [(.tmp 25), (.tmp 31)]), []⟩,
  ⟨17, .k none none (.store 1 (.tmp 33) (.tmp 24)), []⟩,
  ⟨18, .f (some 34) none (.faddr 12 (.tmp 3)), []⟩,
  ⟨19, .k none none (.store 1 (.tmp 34) (.tmp 32)), []⟩])
(.seq (.ops [.f (some 35) none (.faddr 11 (.tmp 3)),
  .f (some 36) none (.load none (.tmp 35)),
  .f (some 37) none (.faddr 9 (.tmp 3)),
  .f (some 38) none (.load none (.tmp 37)),
  .f (some 39) none (.mm false [(.tmp 36), (.tmp 38)]),
  .f (some 40) none (.faddr 12 (.tmp 3)),
  .f (some 41) none (.load none (.tmp 40)),
  .f (some 42) none (.faddr 10 (.tmp 3)),
  .f (some 43) none (.load none (.tmp 42)),
  .f (some 44) none (.mm false [(.tmp 41), (.tmp 43)]),
  .f (some 45) none (.faddr 11 (.tmp 3)),
  .k none none (.store 1 (.tmp 45) (.tmp 39)),
  .f (some 46) none (.faddr 12 (.tmp 3)),
  .k none none (.store 1 (.tmp 46) (.tmp 44))])
(.seq (.ops [.f (some 47) none (.load (some 13) (.tmp 3)),
  .k none none (.store 13 (.tmp 2) (.tmp 47))])
.ret)))))
theorem fn17 : FnOK Try.prog 17 48 c17 [.cell 2 (some 13)] := .of (by kernel_rfl)
/-! '(*dynpos/dynposmake.Src).Weather' -/
def c18 : Cd :=
(.seq (.ops [.k (some 2) none (.alloc 48 [(.int .i64 0), (.int .i64 0), (.int .i64 0), (.int .i64 0), (.int .i64 0), (.int .i64 0)])])
(.seq (.ops [.f (some 3) none (.mv (.tmp 0)),
  .k (some 4) none (.call 14 [(.tmp 3)]),
  .f (some 5) none (.mv (.tmp 0)),
  .k (some 6) none (.call 14 [(.tmp 5)]),
  .f (some 7) none (.mv (.tmp 0)),
  .k (some 8) none (.call 14 [(.tmp 7)]),
  .f (some 9) none (.build [(.int .i64 0), (.int .i64 0), (.int .i64 0), (.int .i64 0), (.int .i64 0), (.int .i64 0)] [(0, 2, (.tmp 4)), (2, 2, (.tmp 6)), (4, 2, (.tmp 8))]),
  .k none none (.store 6 (.tmp 2) (.tmp 9))])
.ret))
theorem fn18 : FnOK Try.prog 18 10 c18 [.cell 2 (some 6)] := .of (by kernel_rfl)
/-! '(*dynpos/dynposmake.Src).BentHull' -/
def c19 : Cd :=
(.seq (.ops [.k (some 3) none (.box 45 13 (.tmp 1)),
  .k (some 4) none (.alloc 45 [(.slice none 0 0), (.slice none 0 0), (.slice none 0 0), (.slice none 0 0), (.slice none 0 0), (.slice none 0 0), (.slice none 0 0), (.slice none 0 0), (.slice none 0 0), (.int .i64 0), (.int .i64 0), (.int .i64 0), (.int .i64 0)])])
(.seq (.seq (.ops [.f (some 5) none (.mv (.tmp 0)),
  .k (some 6) none (.call 16 [(.tmp 5), (.const (.int .i64 5))])])
(.block 0
 (.seq (.ops [.f (some 22) none (.bin .eql (.tmp 6) (.const (.int .i64 0))),
   .k (some 21) none (.asg (.tmp 22))])
 (.cond (.tmp 21)
  (.ops [.f (some 23) none (.mv (.tmp 0)),
    .k (some 24) none (.call 29 [(.tmp 23)]),
    .f (some 25) none (.slc 1 (.tmp 24) none (some (.const (.int .i64 11))) none),
    .f (some 26) none (.faddr 0 (.tmp 3)),
    .f (some 27) none (.faddr 2 (.tmp 26)),
    .k none none (.store 1 (.tmp 27) (.tmp 25))])
  (.seq (.ops [.f (some 29) none (.bin .eql (.tmp 6) (.const (.int .i64 1))),
    .k (some 28) none (.asg (.tmp 29))])
  (.cond (.tmp 28)
   (.opd [⟨0, .f (some 30) none (.mv (.tmp 0)), []⟩,
     ⟨3, .f (some 33) none (.mv (.tmp 0)), []⟩,
     ⟨4, .k (some 34) none (.bslice 3 1 3 [(.int .i64 0)] [(0, 1, (.const (.int .i64 1001))), (1, 1, (.const (.int .i64 (-1001)))), (2, 1, (.const (.int .i64 4611686018427387904)))]), []⟩,
     ⟨1, .k (some 31) none (.call 29 [(.tmp 30)]), []⟩,
     ⟨2, .f (some 32) none (.slc 1 (.tmp 31) none (some (.const (.int .i64 11))) none), []⟩,
     ⟨5, .k (some 35) none (.call 33 [(.tmp 33), (.tmp 34)]), [.f (some 32) none (.slc 1 (.tmp 31) none (some (.const (.int .i64 11))) none)]⟩,
     ⟨6, .k (some 36) none (.bslice 3 1 1 [(.int .i64 0)] [(0, 1, (.tmp 35))]), []⟩,
     ⟨7, .k (some 37) none (.append 3 1 8 (.tmp 32) (.tmp 36)), []⟩,
     ⟨8, .f (some 38) none (.faddr 6 (.tmp 3)), []⟩,
     ⟨9, .f (some 39) none (.faddr 1 (.tmp 38)), []⟩,
     ⟨10, .k none none (.store 1 (.tmp 39) (.tmp 37)), []⟩])
   (.seq (.ops [.f (some 41) none (.bin .eql (.tmp 6) (.const (.int .i64 2))),
     .k (some 40) none (.asg (.tmp 41))])
   (.cond (.tmp 40)
    (.ops [.f (some 42) none (.mv (.tmp 0)),
      .k (some 43) none (.bslice 3 1 4 [(.int .i64 0)] [(0, 1, (.const (.int .i64 0))), (1, 1, (.const (.int .i64 (-1)))), (2, 1, (.const (.int .i64 1000001))), (3, 1, (.const (.int .i64 4611686018427387904)))]),
      .k (some 44) none (.call 33 [(.tmp 42), (.tmp 43)]),
      .f (some 45) none (.faddr 9 (.tmp 3)),
      .k none none (.store 1 (.tmp 45) (.tmp 44))])
    (.seq (.ops [.f (some 47) none (.bin .eql (.tmp 6) (.const (.int .i64 3))),
      .k (some 46) none (.asg (.tmp 47))])
    (.cond (.tmp 46)
     (.ops [.f (some 48) none (.mv (.tmp 0)),
       .k (some 49) none (.bslice 3 1 3 [(.int .i64 0)] [(0, 1, (.const (.int .i64 0))), (1, 1, (.const (.int .i64 (-1)))), (2, 1, (.const (.int .i64 1073741825)))]),
       .k (some 50) none (.call 33 [(.tmp 48), (.tmp 49)]),
       .f (some 51) none (.faddr 10 (.tmp 3)),
       .k none none (.store 1 (.tmp 51) (.tmp 50))])
     (.opd [⟨0, .f (some 7) none (.mv (.tmp 0)), []⟩,
       ⟨1, .f (some 8) none (.faddr 9 (.tmp 3)), []⟩,
       ⟨2, .f (some 9) none (.load none (.tmp 8)), []⟩,
       ⟨3, .f (some 10) none (.bin .add (.tmp 9) (.const (.int .i64 1))), []⟩,
       ⟨4, .k (some 11) none (.bslice 3 1 3 [(.int .i64 0)] [(0, 1, (.const (.int .i64 (-1)))), (1, 1, (.tmp 10)), (2, 1, (.const (.int .i64 0)))]), []⟩,
       ⟨6, .f (some 13) none (.mv (.tmp 0)), []⟩,
       ⟨7, .f (some 14) none (.faddr 10 (.tmp 3)), []⟩,
       ⟨8, .f (some 15) none (.load none (.tmp 14)), []⟩,
       ⟨9, .f (some 16) none (.bin .add (.tmp 15) (.const (.int .i64 1))), []⟩,
       ⟨10, .k (some 17) none (.bslice 3 1 3 [(.int .i64 0)] [(0, 1, (.const (.int .i64 (-1)))), (1, 1, (.tmp 16)), (2, 1, (.const (.int .i64 0)))]), []⟩,
       ⟨5, .k (some 12) none (.call 33 [(.tmp 7), (.tmp 11)]), [.f (some 15) none (.load none (.tmp 14))]⟩,
       ⟨12, .f (some 19) none (.faddr 11 (.tmp 3)), []⟩,
       ⟨11, .k (some 18) none (.call 33 [(.tmp 13), (.tmp 17)]), []⟩,
       ⟨13, .k none none (.store 1 (.tmp 19) (.tmp 12)), []⟩,
       ⟨14, .f (some 20) none (.faddr 12 (.tmp 3)), []⟩,
       ⟨15, .k none none (.store 1 (.tmp 20) (.tmp 18)), []⟩])))))))))))
(.seq (.ops [.f (some 52) none (.load (some 13) (.tmp 3)),
  .k none none (.store 13 (.tmp 4) (.tmp 52))])
.ret)))
theorem fn19 : FnOK Try.prog 19 53 c19 [.cell 4 (some 13)] := .of (by kernel_rfl)
/-! 'dynpos/weather.Check' -/
def c20_0 : Cd :=
(.block 1
 (.seq (.ops [.f (some 17) none (.iaddr 3 none (.tmp 13) (.tmp 15)),
   .f (some 18) none (.load (some 3) (.tmp 17)),
   .k (some 4) none (.alloc 27 [(.slice none 0 0), (.slice none 0 0), (.slice none 0 0)]),
   .k none none (.store 3 (.tmp 4) (.tmp 18))])
 (.seq (.ops [.f (some 20) none (.load (some 3) (.tmp 4)),
   .k (some 21) none (.call 34 [(.tmp 20)]),
   .f (some 19) none (.mv (.tmp 21)),
   .f (some 22) none (.extract 0 (.tmp 19)),
   .f (some 23) none (.extract 1 (.tmp 19)),
   .k (some 5) none (.alloc 73 [(.int .i64 0), (.int .i64 0), (.int .i64 0), (.int .i64 0), (.int .i64 0), (.int .i64 0), (.int .i64 0), (.int .i64 0), (.int .i64 0), (.int .i64 0), (.int .i64 0), (.int .i64 0), (.int .i64 0), (.int .i64 0), (.int .i64 0), (.int .i64 0), (.int .i64 0), (.int .i64 0), (.int .i64 0), (.int .i64 0), (.int .i64 0), (.int .i64 0), (.int .i64 0), (.int .i64 0), (.int .i64 0), (.int .i64 0), (.int .i64 0), (.int .i64 0), (.int .i64 0), (.int .i64 0), (.int .i64 0), (.int .i64 0), (.int .i64 0), (.int .i64 0), (.int .i64 0), (.int .i64 0)]),
   .k none none (.store 36 (.tmp 5) (.tmp 22)),
   .k (some 6) none (.asg (.tmp 23))])
 (.seq (.ops [.f (some 24) none (.mv (.tmp 6)),
   .f (some 25) none (.un .not (.tmp 24))])
 (.cond (.tmp 25)
  (.seq (.ops [.k (some 2) none (.asg (.const (.int .i64 60)))])
  .ret)
  .skip)))))
def c20 : Cd :=
(.seq (.ops [.k (some 1) none (.box 45 13 (.tmp 0)),
  .k (some 2) none (.asg (.const (.int .i64 0)))])
(.seq (.seq (.ops [.f (some 7) none (.faddr 0 (.tmp 1)),
  .f (some 8) none (.load (some 3) (.tmp 7)),
  .f (some 9) none (.faddr 3 (.tmp 1)),
  .f (some 10) none (.load (some 3) (.tmp 9)),
  .f (some 11) none (.faddr 6 (.tmp 1)),
  .f (some 12) none (.load (some 3) (.tmp 11)),
  .k (some 13) none (.bslice 27 3 3 [(.slice none 0 0), (.slice none 0 0), (.slice none 0 0)] [(0, 3, (.tmp 8)), (3, 3, (.tmp 10)), (6, 3, (.tmp 12))]),
  .f (some 14) none (.len (.tmp 13)),
  .f (some 15) none (.mv (.const (.int .i64 0)))])
(rangeC 0 15 14 16 26 c20_0))
(.seq (.seq (.ops [.f (some 27) none (.faddr 9 (.tmp 1)),
  .f (some 28) none (.load none (.tmp 27)),
  .f (some 29) none (.bin .lss (.tmp 28) (.const (.int .i64 1))),
  .f (some 30) none (.mv (.tmp 29)),
  .f (some 31) (some (30, false)) (.faddr 9 (.tmp 1)),
  .f (some 32) (some (30, false)) (.load none (.tmp 31)),
  .f (some 33) (some (30, false)) (.bin .gtr (.tmp 32) (.const (.int .i64 1000000))),
  .f (some 34) none (.pick (.tmp 30) (.const (.bool true)) (.tmp 33)),
  .f (some 35) none (.mv (.tmp 34)),
  .f (some 36) (some (35, false)) (.faddr 10 (.tmp 1)),
  .f (some 37) (some (35, false)) (.load none (.tmp 36)),
  .f (some 38) (some (35, false)) (.bin .lss (.tmp 37) (.const (.int .i64 1))),
  .f (some 39) none (.pick (.tmp 35) (.const (.bool true)) (.tmp 38)),
  .f (some 40) none (.mv (.tmp 39)),
  .f (some 41) (some (40, false)) (.faddr 10 (.tmp 1)),
  .f (some 42) (some (40, false)) (.load none (.tmp 41)),
  .f (some 43) (some (40, false)) (.bin .gtr (.tmp 42) (.const (.int .i64 1073741824))),
  .f (some 44) none (.pick (.tmp 40) (.const (.bool true)) (.tmp 43)),
  .f (some 45) none (.mv (.tmp 44)),
  .f (some 46) (some (45, false)) (.faddr 11 (.tmp 1)),
  .f (some 47) (some (45, false)) (.load none (.tmp 46)),
  .f (some 48) (some (45, false)) (.bin .lss (.tmp 47) (.const (.int .i64 0))),
  .f (some 49) none (.pick (.tmp 45) (.const (.bool true)) (.tmp 48)),
  .f (some 50) none (.mv (.tmp 49)),
  .f (some 51) (some (50, false)) (.faddr 11 (.tmp 1)),
  .f (some 52) (some (50, false)) (.load none (.tmp 51)),
  .f (some 53) (some (50, false)) (.faddr 9 (.tmp 1)),
  .f (some 54) (some (50, false)) (.load none (.tmp 53)),
  .f (some 55) (some (50, false)) (.bin .gtr (.tmp 52) (.tmp 54)),
  .f (some 56) none (.pick (.tmp 50) (.const (.bool true)) (.tmp 55)),
  .f (some 57) none (.mv (.tmp 56)),
  .f (some 58) (some (57, false)) (.faddr 12 (.tmp 1)),
  .f (some 59) (some (57, false)) (.load none (.tmp 58)),
  .f (some 60) (some (57, false)) (.bin .lss (.tmp 59) (.const (.int .i64 0))),
  .f (some 61) none (.pick (.tmp 57) (.const (.bool true)) (.tmp 60)),
  .f (some 62) none (.mv (.tmp 61)),
  .f (some 63) (some (62, false)) (.faddr 12 (.tmp 1)),
  .f (some 64) (some (62, false)) (.load none (.tmp 63)),
  .f (some 65) (some (62, false)) (.faddr 10 (.tmp 1)),
  .f (some 66) (some (62, false)) (.load none (.tmp 65)),
  .f (some 67) (some (62, false)) (.bin .gtr (.tmp 64) (.tmp 66)),
  .f (some 68) none (.pick (.tmp 62) (.const (.bool true)) (.tmp 67))])
(.cond (.tmp 68)
 (.seq (.ops [.k (some 2) none (.asg (.const (.int .i64 60)))])
 .ret)
 .skip))
(.seq (.ops [.k (some 2) none (.asg (.const (.int .i64 0)))])
.ret))))
theorem fn20 : FnOK Try.prog 20 69 c20 [.tmp 2] := .of (by kernel_rfl)
/-! 'dynpos/dynposref22.Check' -/
def c21 : Cd :=
(.seq (.ops [.k (some 1) none (.box 45 13 (.tmp 0)),
  .k (some 2) none (.asg (.const (.int .i64 0)))])
(.seq (.seq (.ops [.f (some 3) none (.faddr 0 (.tmp 1)),
  .f (some 4) none (.load (some 3) (.tmp 3)),
  .k (some 5) none (.call 38 [(.tmp 4)]),
  .f (some 6) none (.un .not (.tmp 5)),
  .f (some 7) none (.mv (.tmp 6)),
  .f (some 8) (some (7, false)) (.faddr 3 (.tmp 1)),
  .f (some 9) (some (7, false)) (.load (some 3) (.tmp 8)),
  .k (some 10) (some (7, false)) (.call 38 [(.tmp 9)]),
  .f (some 11) (some (7, false)) (.un .not (.tmp 10)),
  .f (some 12) none (.pick (.tmp 7) (.const (.bool true)) (.tmp 11)),
  .f (some 13) none (.mv (.tmp 12)),
  .f (some 14) (some (13, false)) (.faddr 6 (.tmp 1)),
  .f (some 15) (some (13, false)) (.load (some 3) (.tmp 14)),
  .k (some 16) (some (13, false)) (.call 38 [(.tmp 15)]),
  .f (some 17) (some (13, false)) (.un .not (.tmp 16)),
  .f (some 18) none (.pick (.tmp 13) (.const (.bool true)) (.tmp 17)),
  .f (some 19) none (.mv (.tmp 18)),
  .f (some 20) (some (19, false)) (.faddr 9 (.tmp 1)),
  .f (some 21) (some (19, false)) (.load none (.tmp 20)),
  .k (some 22) (some (19, false)) (.call 39 [(.tmp 21), (.const (.int .i64 1)), (.const (.int .i64 1000000))]),
  .f (some 23) (some (19, false)) (.un .not (.tmp 22)),
  .f (some 24) none (.pick (.tmp 19) (.const (.bool true)) (.tmp 23)),
  .f (some 25) none (.mv (.tmp 24)),
  .f (some 26) (some (25, false)) (.faddr 10 (.tmp 1)),
  .f (some 27) (some (25, false)) (.load none (.tmp 26)),
  .k (some 28) (some (25, false)) (.call 39 [(.tmp 27), (.const (.int .i64 1)), (.const (.int .i64 1073741824))]),
  .f (some 29) (some (25, false)) (.un .not (.tmp 28)),
  .f (some 30) none (.pick (.tmp 25) (.const (.bool true)) (.tmp 29)),
  .f (some 31) none (.mv (.tmp 30)),
  .f (some 32) (some (31, false)) (.faddr 11 (.tmp 1)),
  .f (some 33) (some (31, false)) (.load none (.tmp 32)),
  .f (some 34) (some (31, false)) (.faddr 9 (.tmp 1)),
  .f (some 35) (some (31, false)) (.load none (.tmp 34)),
  .k (some 36) (some (31, false)) (.call 39 [(.tmp 33), (.const (.int .i64 0)), (.tmp 35)]),
  .f (some 37) (some (31, false)) (.un .not (.tmp 36)),
  .f (some 38) none (.pick (.tmp 31) (.const (.bool true)) (.tmp 37)),
  .f (some 39) none (.mv (.tmp 38)),
  .f (some 40) (some (39, false)) (.faddr 12 (.tmp 1)),
  .f (some 41) (some (39, false)) (.load none (.tmp 40)),
  .f (some 42) (some (39, false)) (.faddr 10 (.tmp 1)),
  .f (some 43) (some (39, false)) (.load none (.tmp 42)),
  .k (some 44) (some (39, false)) (.call 39 [(.tmp 41), (.const (.int .i64 0)), (.tmp 43)]),
  .f (some 45) (some (39, false)) (.un .not (.tmp 44)),
  .f (some 46) none (.pick (.tmp 39) (.const (.bool true)) (.tmp 45))])
(.cond (.tmp 46)
 (.seq (.ops [.k (some 2) none (.asg (.const (.int .i64 60)))])
 .ret)
 .skip))
(.seq (.ops [.k (some 2) none (.asg (.const (.int .i64 0)))])
.ret)))
theorem fn21 : FnOK Try.prog 21 47 c21 [.tmp 2] := .of (by kernel_rfl)
/-! '(*dynpos/dynposmake.Src).Angle' -/
def c22 : Cd :=
(.seq (.ops [.k (some 2) none (.asg (.const (.int .i64 0)))])
(.seq (.ops [.f (some 3) none (.mv (.tmp 0)),
  .k (some 4) none (.bslice 3 1 9 [(.int .i64 0)] [(0, 1, (.const (.int .i64 0))), (1, 1, (.const (.int .i64 1))), (2, 1, (.const (.int .i64 299))), (3, 1, (.const (.int .i64 300))), (4, 1, (.const (.int .i64 450))), (5, 1, (.const (.int .i64 900))), (6, 1, (.const (.int .i64 1800))), (7, 1, (.const (.int .i64 2701))), (8, 1, (.const (.int .i64 3599)))]),
  .k (some 5) none (.call 33 [(.tmp 3), (.tmp 4)]),
  .k (some 2) none (.asg (.tmp 5))])
.ret))
theorem fn22 : FnOK Try.prog 22 6 c22 [.tmp 2] := .of (by kernel_rfl)
/-! 'dynpos/weather.Total' -/
def c23_0 : Cd :=
(.block 1
 (.seq (.ops [.f (some 49) none (.iaddr 3 none (.tmp 45) (.tmp 47)),
   .f (some 50) none (.load (some 3) (.tmp 49)),
   .k (some 11) none (.alloc 36 [(.int .i64 0), (.int .i64 0), (.int .i64 0)]),
   .k none none (.store 3 (.tmp 11) (.tmp 50))])
 (.seq (.ops [.f (some 51) none (.faddr 0 (.tmp 9)),
   .f (some 52) none (.load none (.tmp 51)),
   .f (some 53) none (.faddr 0 (.tmp 11)),
   .f (some 54) none (.load none (.tmp 53)),
   .f (some 55) none (.bin .add (.tmp 52) (.tmp 54)),
   .f (some 56) none (.faddr 0 (.tmp 9)),
   .k none none (.store 1 (.tmp 56) (.tmp 55))])
 (.seq (.ops [.f (some 57) none (.faddr 1 (.tmp 9)),
   .f (some 58) none (.load none (.tmp 57)),
   .f (some 59) none (.faddr 1 (.tmp 11)),
   .f (some 60) none (.load none (.tmp 59)),
   .f (some 61) none (.bin .add (.tmp 58) (.tmp 60)),
   .f (some 62) none (.faddr 1 (.tmp 9)),
   .k none none (.store 1 (.tmp 62) (.tmp 61))])
 (.ops [.f (some 63) none (.faddr 2 (.tmp 9)),
   .f (some 64) none (.load none (.tmp 63)),
   .f (some 65) none (.faddr 2 (.tmp 11)),
   .f (some 66) none (.load none (.tmp 65)),
   .f (some 67) none (.bin .add (.tmp 64) (.tmp 66)),
   .f (some 68) none (.faddr 2 (.tmp 9)),
   .k none none (.store 1 (.tmp 68) (.tmp 67))])))))
def c23 : Cd :=
(.seq (.ops [.k (some 3) none (.box 45 13 (.tmp 0)),
  .k (some 4) none (.box 48 6 (.tmp 1)),
  .k (some 6) none (.alloc 36 [(.int .i64 0), (.int .i64 0), (.int .i64 0)]),
  .k (some 7) none (.asg (.const (.int .i64 0)))])
(.seq (.seq (.ops [.f (some 12) none (.load (some 13) (.tmp 3)),
  .k (some 13) none (.call 20 [(.tmp 12)]),
  .k (some 8) none (.asg (.tmp 13))])
(.seq (.ops [.f (some 14) none (.mv (.tmp 8)),
  .f (some 15) none (.bin .neq (.tmp 14) (.const (.int .i64 0)))])
(.cond (.tmp 15)
 (.seq (.ops [.f (some 16) none (.build [(.int .i64 0), (.int .i64 0), (.int .i64 0)] []),
   .f (some 17) none (.mv (.tmp 8)),
   .k none none (.store 3 (.tmp 6) (.tmp 16)),
   .k (some 7) none (.asg (.tmp 17))])
 .ret)
 .skip)))
(.seq (.seq (.ops [.f (some 18) none (.load (some 6) (.tmp 4)),
  .k (some 19) none (.call 25 [(.tmp 18)]),
  .f (some 20) none (.un .not (.tmp 19)),
  .f (some 21) none (.mv (.tmp 20)),
  .f (some 22) (some (21, false)) (.mv (.tmp 2)),
  .k (some 23) (some (21, false)) (.call 31 [(.tmp 22)]),
  .f (some 24) (some (21, false)) (.un .not (.tmp 23)),
  .f (some 25) none (.pick (.tmp 21) (.const (.bool true)) (.tmp 24))])
(.cond (.tmp 25)
 (.seq (.ops [.f (some 26) none (.build [(.int .i64 0), (.int .i64 0), (.int .i64 0)] []),
   .k none none (.store 3 (.tmp 6) (.tmp 26)),
   .k (some 7) none (.asg (.const (.int .i64 1)))])
 .ret)
 .skip))
(.seq (.ops [.k (some 9) none (.alloc 36 [(.int .i64 0), (.int .i64 0), (.int .i64 0)])])
(.seq (.seq (.opd [⟨0, .f (some 27) none (.faddr 0 (.tmp 3)), []⟩,
  ⟨1, .f (some 28) none (.load (some 3) (.tmp 27)), []⟩,
  ⟨2, .f (some 29) none (.faddr 0 (.tmp 4)), []⟩,
  ⟨3, .f (some 30) none (.load (some 2) (.tmp 29)), []⟩,
  ⟨4, .f (some 31) none (.mv (.tmp 2)), []⟩,
  ⟨6, .f (some 33) none (.faddr 3 (.tmp 3)), []⟩,
  ⟨7, .f (some 34) none (.load (some 3) (.tmp 33)), []⟩,
  ⟨8, .f (some 35) none (.faddr 2 (.tmp 4)), []⟩,
  ⟨9, .f (some 36) none (.load (some 2) (.tmp 35)), []⟩,
  ⟨10, .f (some 37) none (.mv (.tmp 2)), []⟩,
  ⟨12, .f (some 39) none (.faddr 6 (.tmp 3)), []⟩,
  ⟨13, .f (some 40) none (.load (some 3) (.tmp 39)), []⟩,
  ⟨14, .f (some 41) none (.faddr 4 (.tmp 4)), []⟩,
  ⟨15, .f (some 42) none (.load (some 2) (.tmp 41)), []⟩,
  ⟨16, .f (some 43) none (.mv (.tmp 2)), []⟩,
  ⟨20, .f (some 47) none (.mv (.const (.int .i64 0))), []⟩,
  ⟨5, .k (some 32) none (.call 15 [(.tmp 28), (.tmp 30), (.tmp 31)]), [.f (some 34) none (.load (some 3) (.tmp 33)), .f (some 36) none (.load (some 2) (.tmp 35)), .f (some 40) none (.load (some 3) (.tmp 39)), .f (some 42) none (.load (some 2) (.tmp 41))]⟩,
  ⟨11, .k (some 38) none (.call 15 [(.tmp 34), (.tmp 36), (.tmp 37)]), [.f (some 40) none (.load (some 3) (.tmp 39)), .f (some 42) none (.load (some 2) (.tmp 41))]⟩,
  ⟨17, .k (some 44) none (.call 15 [(.tmp 40), (.tmp 42), (.tmp 43)]), []⟩,
  ⟨18, .k (some 45) none (.bslice 36 3 3 [(.int .i64 0), (.int .i64 0), (.int .i64 0)] [(0, 3, (.tmp 32)), (3, 3, (.tmp 38)), (6, 3, (.tmp 44))]), []⟩,
  ⟨19, .f (some 46) none (.len (.tmp 45)), []⟩])
(rangeC 0 47 46 48 69 c23_0))
(.seq (.ops [.f (some 70) none (.load (some 3) (.tmp 9)),
  .k none none (.store 3 (.tmp 6) (.tmp 70)),
  .k (some 7) none (.asg (.const (.int .i64 0)))])
.ret))))))
theorem fn23 : FnOK Try.prog 23 71 c23 [.cell 6 (some 3), .tmp 7] := .of (by kernel_rfl)
/-! 'dynpos/dynposref22.Total' -/
def c24 : Cd :=
(.seq (.ops [.k (some 3) none (.box 45 13 (.tmp 0)),
  .k (some 4) none (.box 48 6 (.tmp 1)),
  .k (some 6) none (.alloc 36 [(.int .i64 0), (.int .i64 0), (.int .i64 0)]),
  .k (some 7) none (.asg (.const (.int .i64 0)))])
(.seq (.seq (.ops [.f (some 9) none (.load (some 13) (.tmp 3)),
  .k (some 10) none (.call 21 [(.tmp 9)]),
  .k (some 8) none (.asg (.tmp 10))])
(.seq (.ops [.f (some 11) none (.mv (.tmp 8)),
  .f (some 12) none (.bin .neq (.tmp 11) (.const (.int .i64 0)))])
(.cond (.tmp 12)
 (.seq (.ops [.f (some 13) none (.build [(.int .i64 0), (.int .i64 0), (.int .i64 0)] []),
   .f (some 14) none (.mv (.tmp 8)),
   .k none none (.store 3 (.tmp 6) (.tmp 13)),
   .k (some 7) none (.asg (.tmp 14))])
 .ret)
 .skip)))
(.seq (.seq (.ops [.f (some 15) none (.load (some 6) (.tmp 4)),
  .k (some 16) none (.call 26 [(.tmp 15)]),
  .f (some 17) none (.un .not (.tmp 16)),
  .f (some 18) none (.mv (.tmp 17)),
  .f (some 19) (some (18, false)) (.mv (.tmp 2)),
  .k (some 20) (some (18, false)) (.call 39 [(.tmp 19), (.const (.int .i64 0)), (.const (.int .i64 3599))]),
  .f (some 21) (some (18, false)) (.un .not (.tmp 20)),
  .f (some 22) none (.pick (.tmp 18) (.const (.bool true)) (.tmp 21))])
(.cond (.tmp 22)
 (.seq (.ops [.f (some 23) none (.build [(.int .i64 0), (.int .i64 0), (.int .i64 0)] []),
   .k none none (.store 3 (.tmp 6) (.tmp 23)),
   .k (some 7) none (.asg (.const (.int .i64 1)))])
 .ret)
 .skip))
(.seq (.opd [⟨0, .f (some 24) none (.faddr 0 (.tmp 3)), []⟩,
  ⟨1, .f (some 25) none (.load (some 3) (.tmp 24)), []⟩,
  ⟨2, .f (some 26) none (.faddr 0 (.tmp 4)), []⟩,
  ⟨3, .f (some 27) none (.load (some 2) (.tmp 26)), []⟩,
  ⟨4, .f (some 28) none (.mv (.tmp 2)), []⟩,
  ⟨6, .f (some 30) none (.faddr 3 (.tmp 3)), []⟩,
  ⟨7, .f (some 31) none (.load (some 3) (.tmp 30)), []⟩,
  ⟨8, .f (some 32) none (.faddr 2 (.tmp 4)), []⟩,
  ⟨9, .f (some 33) none (.load (some 2) (.tmp 32)), []⟩,
  ⟨10, .f (some 34) none (.mv (.tmp 2)), []⟩,
  ⟨13, .f (some 37) none (.faddr 6 (.tmp 3)), []⟩,
  ⟨14, .f (some 38) none (.load (some 3) (.tmp 37)), []⟩,
  ⟨15, .f (some 39) none (.faddr 4 (.tmp 4)), []⟩,
  ⟨16, .f (some 40) none (.load (some 2) (.tmp 39)), []⟩,
  ⟨17, .f (some 41) none (.mv (.tmp 2)), []⟩,
  ⟨5, .k (some 29) none (.call 27 [(.tmp 25), (.tmp 27), (.tmp 28)]), [.f (some 31) none (.load (some 3) (.tmp 30)), .f (some 33) none (.load (some 2) (.tmp 32)), .f (some 38) none (.load (some 3) (.tmp 37)), .f (some 40) none (.load (some 2) (.tmp 39))]⟩,
  ⟨11, .k (some 35) none (.call 27 [(.tmp 31), (.tmp 33), (.tmp 34)]), [.f (some 38) none (.load (some 3) (.tmp 37)), .f (some 40) none (.load (some 2) (.tmp 39))]⟩,
  ⟨12, .k (some 36) none (.call 40 [(.tmp 29), (.tmp 35)]), [.f (some 38) none (.load (some 3) (.tmp 37)), .f (some 40) none (.load (some 2) (.tmp 39))]⟩,
  ⟨18, .k (some 42) none (.call 27 [(.tmp 38), (.tmp 40), (.tmp 41)]), []⟩,
  ⟨19, .k (some 43) none (.call 40 [(.tmp 36), (.tmp 42)]), []⟩,
  ⟨20, .k none none (.store 3 (.tmp 6) (.tmp 43)), []⟩,
  ⟨21, .k (some 7) none (.asg (.const (.int .i64 0))), []⟩])
.ret))))
theorem fn24 : FnOK Try.prog 24 44 c24 [.cell 6 (some 3), .tmp 7] := .of (by kernel_rfl)
/-! 'dynpos/weather.Valid' -/
def c25 : Cd :=
(.seq (.ops [.k (some 1) none (.box 48 6 (.tmp 0)),
  .k (some 2) none (.asg (.const (.bool false)))])
(.seq (.ops [.f (some 3) none (.faddr 0 (.tmp 1)),
  .f (some 4) none (.load (some 2) (.tmp 3)),
  .k (some 5) none (.call 35 [(.tmp 4)]),
  .f (some 6) none (.mv (.tmp 5)),
  .f (some 7) (some (6, true)) (.faddr 2 (.tmp 1)),
  .f (some 8) (some (6, true)) (.load (some 2) (.tmp 7)),
  .k (some 9) (some (6, true)) (.call 35 [(.tmp 8)]),
  .f (some 10) none (.pick (.tmp 6) (.tmp 9) (.const (.bool false))),
  .f (some 11) none (.mv (.tmp 10)),
  .f (some 12) (some (11, true)) (.faddr 4 (.tmp 1)),
  .f (some 13) (some (11, true)) (.load (some 2) (.tmp 12)),
  .k (some 14) (some (11, true)) (.call 35 [(.tmp 13)]),
  .f (some 15) none (.pick (.tmp 11) (.tmp 14) (.const (.bool false))),
  .k (some 2) none (.asg (.tmp 15))])
.ret))
theorem fn25 : FnOK Try.prog 25 16 c25 [.tmp 2] := .of (by kernel_rfl)
/-! 'dynpos/dynposref22.Valid' -/
def c26 : Cd :=
(.seq (.ops [.k (some 1) none (.box 48 6 (.tmp 0)),
  .k (some 2) none (.asg (.const (.bool false)))])
(.seq (.ops [.f (some 3) none (.faddr 0 (.tmp 1)),
  .f (some 4) none (.load (some 2) (.tmp 3)),
  .k (some 5) none (.call 41 [(.tmp 4)]),
  .f (some 6) none (.mv (.tmp 5)),
  .f (some 7) (some (6, true)) (.faddr 2 (.tmp 1)),
  .f (some 8) (some (6, true)) (.load (some 2) (.tmp 7)),
  .k (some 9) (some (6, true)) (.call 41 [(.tmp 8)]),
  .f (some 10) none (.pick (.tmp 6) (.tmp 9) (.const (.bool false))),
  .f (some 11) none (.mv (.tmp 10)),
  .f (some 12) (some (11, true)) (.faddr 4 (.tmp 1)),
  .f (some 13) (some (11, true)) (.load (some 2) (.tmp 12)),
  .k (some 14) (some (11, true)) (.call 41 [(.tmp 13)]),
  .f (some 15) none (.pick (.tmp 11) (.tmp 14) (.const (.bool false))),
  .k (some 2) none (.asg (.tmp 15))])
.ret))
theorem fn26 : FnOK Try.prog 26 16 c26 [.tmp 2] := .of (by kernel_rfl)
/-! 'dynpos/dynposref22.Load' -/
def c27 : Cd :=
(.seq (.ops [.k (some 3) none (.box 27 3 (.tmp 0)),
  .k (some 4) none (.box 33 2 (.tmp 1)),
  .k (some 6) none (.alloc 36 [(.int .i64 0), (.int .i64 0), (.int .i64 0)])])
(.seq (.seq (.ops [.f (some 9) none (.load (some 3) (.tmp 3)),
  .k (some 10) none (.call 38 [(.tmp 9)]),
  .f (some 11) none (.un .not (.tmp 10)),
  .f (some 12) none (.mv (.tmp 11)),
  .f (some 13) (some (12, false)) (.load (some 2) (.tmp 4)),
  .k (some 14) (some (12, false)) (.call 41 [(.tmp 13)]),
  .f (some 15) (some (12, false)) (.un .not (.tmp 14)),
  .f (some 16) none (.pick (.tmp 12) (.const (.bool true)) (.tmp 15)),
  .f (some 17) none (.mv (.tmp 16)),
  .f (some 18) (some (17, false)) (.mv (.tmp 2)),
  .k (some 19) (some (17, false)) (.call 39 [(.tmp 18), (.const (.int .i64 0)), (.const (.int .i64 3599))]),
  .f (some 20) (some (17, false)) (.un .not (.tmp 19)),
  .f (some 21) none (.pick (.tmp 17) (.const (.bool true)) (.tmp 20))])
(.cond (.tmp 21)
 (.seq (.ops [.f (some 22) none (.build [(.int .i64 0), (.int .i64 0), (.int .i64 0)] []),
   .k none none (.store 3 (.tmp 6) (.tmp 22))])
 .ret)
 .skip))
(.seq (.ops [.f (some 23) none (.faddr 0 (.tmp 4)),
  .f (some 24) none (.load none (.tmp 23)),
  .f (some 25) none (.mv (.tmp 2)),
  .f (some 26) none (.bin .sub (.tmp 24) (.tmp 25)),
  .f (some 27) none (.bin .add (.tmp 26) (.const (.int .i64 3600))),
  .f (some 28) none (.bin .rem (.tmp 27) (.const (.int .i64 3600))),
  .k (some 7) none (.asg (.tmp 28))])
(.seq (.ops [.f (some 29) none (.faddr 1 (.tmp 4)),
  .f (some 30) none (.load none (.tmp 29)),
  .f (some 31) none (.faddr 1 (.tmp 4)),
  .f (some 32) none (.load none (.tmp 31)),
  .f (some 33) none (.bin .mul (.tmp 30) (.tmp 32)),
  .k (some 8) none (.asg (.tmp 33))])
(.seq (.opd [⟨0, .f (some 34) none (.faddr 0 (.tmp 3)), []⟩,
  ⟨1, .f (some 35) none (.load none (.tmp 34)), []⟩,
  ⟨2, .f (some 36) none (.mv (.tmp 7)), []⟩,
  ⟨4, .f (some 38) none (.mv (.tmp 8)), []⟩,
  ⟨7, .f (some 41) none (.faddr 1 (.tmp 3)), []⟩,
  ⟨8, .f (some 42) none (.load none (.tmp 41)), []⟩,
  ⟨9, .f (some 43) none (.mv (.tmp 7)), []⟩,
  ⟨11, .f (some 45) none (.mv (.tmp 8)), []⟩,
  ⟨14, .f (some 48) none (.faddr 2 (.tmp 3)), []⟩,
  ⟨15, .f (some 49) none (.load none (.tmp 48)), []⟩,
  ⟨16, .f (some 50) none (.mv (.tmp 7)), []⟩,
  ⟨18, .f (some 52) none (.mv (.tmp 8)), []⟩,
  ⟨3, .k (some 37) none (.call 28 [(.tmp 35), (.tmp 36)]), [.f (some 42) none (.load none (.tmp 41)), .f (some 49) none (.load none (.tmp 48))]⟩,
  ⟨5, .f (some 39) none (.bin .mul (.tmp 37) (.tmp 38)), []⟩,
  ⟨6, .k (some 40) none (.call 42 [(.tmp 39), (.const (.int .i64 1000000))]), [.f (some 42) none (.load none (.tmp 41)), .f (some 49) none (.load none (.tmp 48))]⟩,
  ⟨10, .k (some 44) none (.call 28 [(.tmp 42), (.tmp 43)]), [.f (some 49) none (.load none (.tmp 48))]⟩,
  ⟨12, .f (some 46) none (.bin .mul (.tmp 44) (.tmp 45)), []⟩,
  ⟨13, .k (some 47) none (.call 42 [(.tmp 46), (.const (.int .i64 1000000))]), [.f (some 49) none (.load none (.tmp 48))]⟩,
  ⟨17, .k (some 51) none (.call 28 [(.tmp 49), (.tmp 50)]), []⟩,
  ⟨19, .f (some 53) none (.bin .mul (.tmp 51) (.tmp 52)), []⟩,
  ⟨20, .k (some 54) none (.call 42 [(.tmp 53), (.const (.int .i64 1000000))]), []⟩,
  ⟨21, .f (some 55) none (.build [(.int .i64 0), (.int .i64 0), (.int .i64 0)] [(0, 1, (.tmp 40)), (1, 1, (.tmp 47)), (2, 1, (.tmp 54))]), []⟩,
  ⟨22, .k none none (.store 3 (.tmp 6) (.tmp 55)), []⟩])
.ret)))))
theorem fn27 : FnOK Try.prog 27 56 c27 [.cell 6 (some 3)] := .of (by kernel_rfl)
/-! 'dynpos/dynposref22.Factor' -/
def c28 : Cd :=
(.seq (.ops [.k (some 4) none (.asg (.const (.int .i64 0)))])
(.seq (.seq (.ops [.f (some 7) none (.mv (.tmp 0)),
  .k (some 8) none (.call 43 [(.tmp 7)]),
  .f (some 9) none (.un .not (.tmp 8)),
  .f (some 10) none (.mv (.tmp 9)),
  .f (some 11) (some (10, false)) (.mv (.tmp 1)),
  .k (some 12) (some (10, false)) (.call 39 [(.tmp 11), (.const (.int .i64 0)), (.const (.int .i64 3599))]),
  .f (some 13) (some (10, false)) (.un .not (.tmp 12)),
  .f (some 14) none (.pick (.tmp 10) (.const (.bool true)) (.tmp 13))])
(.cond (.tmp 14)
 (.seq (.ops [.k (some 4) none (.asg (.const (.int .i64 0)))])
 .ret)
 .skip))
(.seq (.ops [.f (some 15) none (.mv (.tmp 1)),
  .f (some 16) none (.bin .quo (.tmp 15) (.const (.int .i64 300))),
  .f (some 17) none (.mv (.tmp 1)),
  .f (some 18) none (.bin .rem (.tmp 17) (.const (.int .i64 300))),
  .k (some 5) none (.asg (.tmp 16)),
  .k (some 6) none (.asg (.tmp 18))])
(.seq (.opd [⟨0, .f (some 19) none (.mv (.tmp 6)), []⟩,
  ⟨1, .f (some 20) none (.bin .sub (.const (.int .i64 300)) (.tmp 19)), []⟩,
  ⟨2, .f (some 21) none (.mv (.tmp 0)), []⟩,
  ⟨3, .f (some 22) none (.mv (.tmp 5)), []⟩,
  ⟨4, .f (some 23) none (.iaddr 1 none (.tmp 21) (.tmp 22)), []⟩,
  ⟨5, .f (some 24) none (.load none (.tmp 23)), []⟩,
  ⟨6, .f (some 25) none (.bin .mul (.tmp 20) (.tmp 24)), []⟩,
  ⟨7, .f (some 26) none (.mv (.tmp 6)), []⟩,
  ⟨8, .f (some 27) none (.mv (.tmp 0)), []⟩,
  ⟨9, .f (some 28) none (.mv (.tmp 5)), []⟩,
  ⟨10, .f (some 29) none (.bin .add (.tmp 28) (.const (.int .i64 1))), []⟩,
  ⟨11, .f (some 30) none (.bin .rem (.tmp 29) (.const (.int .i64 12))), []⟩,
  ⟨12, .f (some 31) none (.iaddr 1 none (.tmp 27) (.tmp 30)), []⟩,
  ⟨13, .f (some 32) none (.load none (.tmp 31)), []⟩,
  ⟨14, .f (some 33) none (.bin .mul (.tmp 26) (.tmp 32)), []⟩,
  ⟨15, .f (some 34) none (.bin .add (.tmp 25) (.tmp 33)), []⟩,
  ⟨16, .k (some 35) none (.call 42 [(.tmp 34), (.const (.int .i64 300))]), []⟩,
  ⟨17, .k (some 4) none (.asg (.tmp 35)), []⟩])
.ret))))
theorem fn28 : FnOK Try.prog 28 36 c28 [.tmp 4] := .of (by kernel_rfl)
/-! '(*dynpos/dynposmake.Src).list' -/
def c29_0 : Cd :=
(.block 1
 (.seq (.ops [.f (some 10) none (.mv (.tmp 8)),
   .k (some 4) none (.asg (.tmp 10))])
 (.ops [.f (some 11) none (.mv (.tmp 3)),
   .f (some 12) none (.mv (.tmp 4)),
   .f (some 13) none (.mv (.tmp 0)),
   .k (some 14) none (.bslice 3 1 6 [(.int .i64 0)] [(0, 1, (.const (.int .i64 0))), (1, 1, (.const (.int .i64 100))), (2, 1, (.const (.int .i64 (-300)))), (3, 1, (.const (.int .i64 700))), (4, 1, (.const (.int .i64 (-1000)))), (5, 1, (.const (.int .i64 1000)))]),
   .k (some 15) none (.call 33 [(.tmp 13), (.tmp 14)]),
   .f (some 16) none (.iaddr 1 none (.tmp 11) (.tmp 12)),
   .k none none (.store 1 (.tmp 16) (.tmp 15))])))
def c29 : Cd :=
(.seq (.ops [.k (some 2) none (.asg (.const (.slice none 0 0)))])
(.seq (.ops [.k (some 5) none (.mkz 3 1 12 [(.int .i64 0)]),
  .k (some 3) none (.asg (.tmp 5))])
(.seq (.seq (.ops [.f (some 6) none (.mv (.tmp 3)),
  .f (some 7) none (.len (.tmp 6)),
  .f (some 8) none (.mv (.const (.int .i64 0)))])
(rangeC 0 8 7 9 17 c29_0))
(.seq (.ops [.f (some 18) none (.mv (.tmp 3)),
  .k (some 2) none (.asg (.tmp 18))])
.ret))))
theorem fn29 : FnOK Try.prog 29 19 c29 [.tmp 2] := .of (by kernel_rfl)
/-! 'dynpos/weather.read' -/
def c30 : Cd :=
(.seq (.ops [.k (some 2) none (.alloc 68 [(.int .i64 0), (.int .i64 0), (.int .i64 0), (.int .i64 0), (.int .i64 0), (.int .i64 0), (.int .i64 0), (.int .i64 0), (.int .i64 0), (.int .i64 0), (.int .i64 0), (.int .i64 0)]),
  .k (some 3) none (.asg (.const (.bool false)))])
(.seq (.ops [.k (some 4) none (.alloc 68 [(.int .i64 0), (.int .i64 0), (.int .i64 0), (.int .i64 0), (.int .i64 0), (.int .i64 0), (.int .i64 0), (.int .i64 0), (.int .i64 0), (.int .i64 0), (.int .i64 0), (.int .i64 0)])])
(.seq (.seq (.ops [.f (some 5) none (.mv (.tmp 0)),
  .f (some 6) none (.len (.tmp 5)),
  .f (some 7) none (.bin .neq (.tmp 6) (.const (.int .i64 12))),
  .f (some 8) none (.mv (.tmp 7)),
  .f (some 9) (some (8, false)) (.mv (.tmp 0)),
  .k (some 10) (some (8, false)) (.call 44 [(.const (.int .i64 1000)), (.tmp 9)]),
  .f (some 11) (some (8, false)) (.un .not (.tmp 10)),
  .f (some 12) none (.pick (.tmp 8) (.const (.bool true)) (.tmp 11))])
(.cond (.tmp 12)
 (.seq (.ops [.f (some 13) none (.load (some 12) (.tmp 4)),
   .k none none (.store 12 (.tmp 2) (.tmp 13)),
   .k (some 3) none (.asg (.const (.bool false)))])
 .ret)
 .skip))
(.seq (.ops [.f (some 14) none (.slca 1 12 (.tmp 4)),
  .f (some 15) none (.mv (.tmp 0)),
  .k (some 16) none (.copy 1 (.tmp 14) (.tmp 15))])
(.seq (.ops [.f (some 17) none (.load (some 12) (.tmp 4)),
  .k none none (.store 12 (.tmp 2) (.tmp 17)),
  .k (some 3) none (.asg (.const (.bool true)))])
.ret)))))
theorem fn30 : FnOK Try.prog 30 18 c30 [.cell 2 (some 12), .tmp 3] := .of (by kernel_rfl)
/-! 'dynpos/weather.heading' -/
def c31 : Cd :=
(.seq (.ops [.k (some 2) none (.asg (.const (.bool false)))])
(.seq (.ops [.f (some 3) none (.mv (.tmp 0)),
  .f (some 4) none (.bin .geq (.tmp 3) (.const (.int .i64 0))),
  .f (some 5) none (.mv (.tmp 4)),
  .f (some 6) (some (5, true)) (.mv (.tmp 0)),
  .f (some 7) (some (5, true)) (.bin .lss (.tmp 6) (.const (.int .i64 3600))),
  .f (some 8) none (.pick (.tmp 5) (.tmp 7) (.const (.bool false))),
  .k (some 2) none (.asg (.tmp 8))])
.ret))
theorem fn31 : FnOK Try.prog 31 9 c31 [.tmp 2] := .of (by kernel_rfl)
/-! '(dynpos/weather.points).at' -/
def c32 : Cd :=
(.seq (.ops [.k (some 2) none (.box 68 12 (.tmp 0)),
  .k (some 4) none (.asg (.const (.int .i64 0)))])
(.seq (.ops [.f (some 7) none (.mv (.tmp 1)),
  .f (some 8) none (.bin .quo (.tmp 7) (.const (.int .i64 300))),
  .f (some 9) none (.mv (.tmp 1)),
  .f (some 10) none (.bin .rem (.tmp 9) (.const (.int .i64 300))),
  .k (some 5) none (.asg (.tmp 8)),
  .k (some 6) none (.asg (.tmp 10))])
(.seq (.opd [⟨0, .f (some 11) none (.mv (.tmp 6)), []⟩,
  ⟨1, .f (some 12) none (.bin .sub (.const (.int .i64 300)) (.tmp 11)), []⟩,
  ⟨2, .f (some 13) none (.mv (.tmp 5)), []⟩,
  ⟨3, .f (some 14) none (.iaddr 1 (some 12) (.tmp 2) (.tmp 13)), []⟩,
  ⟨4, .f (some 15) none (.load none (.tmp 14)), []⟩,
  ⟨5, .f (some 16) none (.bin .mul (.tmp 12) (.tmp 15)), []⟩,
  ⟨6, .f (some 17) none (.mv (.tmp 6)), []⟩,
  ⟨7, .f (some 18) none (.mv (.tmp 5)), []⟩,
  ⟨8, .f (some 19) none (.bin .add (.tmp 18) (.const (.int .i64 1))), []⟩,
  ⟨9, .f (some 20) none (.bin .rem (.tmp 19) (.const (.int .i64 12))), []⟩,
  ⟨10, .f (some 21) none (.iaddr 1 (some 12) (.tmp 2) (.tmp 20)), []⟩,
  ⟨11, .f (some 22) none (.load none (.tmp 21)), []⟩,
  ⟨12, .f (some 23) none (.bin .mul (.tmp 17) (.tmp 22)), []⟩,
  ⟨13, .f (some 24) none (.bin .add (.tmp 16) (.tmp 23)), []⟩,
  ⟨14, .k (some 25) none (.call 36 [(.tmp 24), (.const (.int .i64 300))]), []⟩,
  ⟨15, .k (some 4) none (.asg (.tmp 25)), []⟩])
.ret)))
theorem fn32 : FnOK Try.prog 32 26 c32 [.tmp 4] := .of (by kernel_rfl)
/-! '(*dynpos/dynposmake.Src).Pick' -/
def c33 : Cd :=
(.seq (.ops [.k (some 4) none (.asg (.const (.int .i64 0)))])
(.seq (.ops [.f (some 5) none (.mv (.tmp 1)),
  .f (some 6) none (.mv (.tmp 0)),
  .f (some 7) none (.mv (.tmp 1)),
  .f (some 8) none (.len (.tmp 7)),
  .k (some 9) none (.call 16 [(.tmp 6), (.tmp 8)]),
  .f (some 10) none (.iaddr 1 none (.tmp 5) (.tmp 9)),
  .f (some 11) none (.load none (.tmp 10)),
  .k (some 4) none (.asg (.tmp 11))])
.ret))
theorem fn33 : FnOK Try.prog 33 12 c33 [.tmp 4] := .of (by kernel_rfl)
/-! 'dynpos/weather.curve' -/
def c34_0 : Cd :=
(.block 1
 (.seq (.ops [.f (some 19) none (.mv (.tmp 17)),
   .f (some 20) none (.iaddr 1 none (.tmp 15) (.tmp 17)),
   .f (some 21) none (.load none (.tmp 20)),
   .k (some 5) none (.asg (.tmp 19)),
   .k (some 6) none (.asg (.tmp 21))])
 (.seq (.ops [.f (some 23) none (.mv (.tmp 6)),
   .k (some 24) none (.call 30 [(.tmp 23)]),
   .f (some 22) none (.mv (.tmp 24)),
   .f (some 25) none (.extract 0 (.tmp 22)),
   .f (some 26) none (.extract 1 (.tmp 22)),
   .k (some 7) none (.alloc 68 [(.int .i64 0), (.int .i64 0), (.int .i64 0), (.int .i64 0), (.int .i64 0), (.int .i64 0), (.int .i64 0), (.int .i64 0), (.int .i64 0), (.int .i64 0), (.int .i64 0), (.int .i64 0)]),
   .k none none (.store 12 (.tmp 7) (.tmp 25)),
   .k (some 8) none (.asg (.tmp 26))])
 (.seq (.seq (.ops [.f (some 27) none (.mv (.tmp 8)),
   .f (some 28) none (.un .not (.tmp 27))])
 (.cond (.tmp 28)
  (.seq (.ops [.f (some 29) none (.load (some 36) (.tmp 4)),
    .k none none (.store 36 (.tmp 2) (.tmp 29)),
    .k (some 3) none (.asg (.const (.bool false)))])
  .ret)
  .skip))
 (.ops [.f (some 30) none (.mv (.tmp 5)),
   .f (some 31) none (.load (some 12) (.tmp 7)),
   .f (some 32) none (.iaddr 12 (some 3) (.tmp 4) (.tmp 30)),
   .k none none (.store 12 (.tmp 32) (.tmp 31))])))))
def c34 : Cd :=
(.seq (.ops [.k (some 1) none (.box 27 3 (.tmp 0)),
  .k (some 2) none (.alloc 73 [(.int .i64 0), (.int .i64 0), (.int .i64 0), (.int .i64 0), (.int .i64 0), (.int .i64 0), (.int .i64 0), (.int .i64 0), (.int .i64 0), (.int .i64 0), (.int .i64 0), (.int .i64 0), (.int .i64 0), (.int .i64 0), (.int .i64 0), (.int .i64 0), (.int .i64 0), (.int .i64 0), (.int .i64 0), (.int .i64 0), (.int .i64 0), (.int .i64 0), (.int .i64 0), (.int .i64 0), (.int .i64 0), (.int .i64 0), (.int .i64 0), (.int .i64 0), (.int .i64 0), (.int .i64 0), (.int .i64 0), (.int .i64 0), (.int .i64 0), (.int .i64 0), (.int .i64 0), (.int .i64 0)]),
  .k (some 3) none (.asg (.const (.bool false)))])
(.seq (.ops [.k (some 4) none (.alloc 73 [(.int .i64 0), (.int .i64 0), (.int .i64 0), (.int .i64 0), (.int .i64 0), (.int .i64 0), (.int .i64 0), (.int .i64 0), (.int .i64 0), (.int .i64 0), (.int .i64 0), (.int .i64 0), (.int .i64 0), (.int .i64 0), (.int .i64 0), (.int .i64 0), (.int .i64 0), (.int .i64 0), (.int .i64 0), (.int .i64 0), (.int .i64 0), (.int .i64 0), (.int .i64 0), (.int .i64 0), (.int .i64 0), (.int .i64 0), (.int .i64 0), (.int .i64 0), (.int .i64 0), (.int .i64 0), (.int .i64 0), (.int .i64 0), (.int .i64 0), (.int .i64 0), (.int .i64 0), (.int .i64 0)])])
(.seq (.seq (.ops [.f (some 9) none (.faddr 0 (.tmp 1)),
  .f (some 10) none (.load none (.tmp 9)),
  .f (some 11) none (.faddr 1 (.tmp 1)),
  .f (some 12) none (.load none (.tmp 11)),
  .f (some 13) none (.faddr 2 (.tmp 1)),
  .f (some 14) none (.load none (.tmp 13)),
  .k (some 15) none (.bslice 22 1 3 [(.slice none 0 0)] [(0, 1, (.tmp 10)), (1, 1, (.tmp 12)), (2, 1, (.tmp 14))]),
  .f (some 16) none (.len (.tmp 15)),
  .f (some 17) none (.mv (.const (.int .i64 0)))])
(rangeC 0 17 16 18 33 c34_0))
(.seq (.ops [.f (some 34) none (.load (some 36) (.tmp 4)),
  .k none none (.store 36 (.tmp 2) (.tmp 34)),
  .k (some 3) none (.asg (.const (.bool true)))])
.ret))))
theorem fn34 : FnOK Try.prog 34 35 c34 [.cell 2 (some 36), .tmp 3] := .of (by kernel_rfl)
/-! 'dynpos/weather.flow' -/
def c35 : Cd :=
(.seq (.ops [.k (some 1) none (.box 33 2 (.tmp 0)),
  .k (some 2) none (.asg (.const (.bool false)))])
(.seq (.ops [.f (some 3) none (.faddr 0 (.tmp 1)),
  .f (some 4) none (.load none (.tmp 3)),
  .k (some 5) none (.call 31 [(.tmp 4)]),
  .f (some 6) none (.mv (.tmp 5)),
  .f (some 7) (some (6, true)) (.faddr 1 (.tmp 1)),
  .f (some 8) (some (6, true)) (.load none (.tmp 7)),
  .f (some 9) (some (6, true)) (.bin .geq (.tmp 8) (.const (.int .i64 0))),
  .f (some 10) none (.pick (.tmp 6) (.tmp 9) (.const (.bool false))),
  .f (some 11) none (.mv (.tmp 10)),
  .f (some 12) (some (11, true)) (.faddr 1 (.tmp 1)),
  .f (some 13) (some (11, true)) (.load none (.tmp 12)),
  .f (some 14) (some (11, true)) (.bin .leq (.tmp 13) (.const (.int .i64 10000))),
  .f (some 15) none (.pick (.tmp 11) (.tmp 14) (.const (.bool false))),
  .k (some 2) none (.asg (.tmp 15))])
.ret))
theorem fn35 : FnOK Try.prog 35 16 c35 [.tmp 2] := .of (by kernel_rfl)
/-! 'dynpos/quotient.Half' -/
def c36 : Cd :=
(.seq (.ops [.k (some 4) none (.asg (.const (.int .i64 0)))])
(.seq (.ops [.f (some 7) none (.mv (.tmp 0)),
  .f (some 8) none (.mv (.tmp 1)),
  .k (some 9) none (.call 45 [(.tmp 7), (.tmp 8)]),
  .k (some 5) none (.asg (.tmp 9))])
(.seq (.seq (.ops [.f (some 10) none (.mv (.tmp 0)),
  .f (some 11) none (.mv (.tmp 5)),
  .f (some 12) none (.mv (.tmp 1)),
  .f (some 13) none (.bin .mul (.tmp 11) (.tmp 12)),
  .f (some 14) none (.bin .sub (.tmp 10) (.tmp 13)),
  .k (some 6) none (.asg (.tmp 14))])
(.seq (.ops [.f (some 15) none (.mv (.tmp 6)),
  .f (some 16) none (.mv (.tmp 1)),
  .f (some 17) none (.mv (.tmp 6)),
  .f (some 18) none (.bin .sub (.tmp 16) (.tmp 17)),
  .f (some 19) none (.bin .geq (.tmp 15) (.tmp 18))])
(.cond (.tmp 19)
 (.ops [.f (some 20) none (.mv (.tmp 5)),
   .f (some 21) none (.bin .add (.tmp 20) (.const (.int .i64 1))),
   .k (some 5) none (.asg (.tmp 21))])
 .skip)))
(.seq (.ops [.f (some 22) none (.mv (.tmp 5)),
  .k (some 4) none (.asg (.tmp 22))])
.ret))))
theorem fn36 : FnOK Try.prog 36 23 c36 [.tmp 4] := .of (by kernel_rfl)
/-! 'dynpos/angle.Norm' -/
def c37 : Cd :=
(.seq (.ops [.k (some 2) none (.asg (.const (.int .i64 0)))])
(.seq (.ops [.f (some 3) none (.mv (.tmp 0)),
  .f (some 4) none (.bin .rem (.tmp 3) (.const (.int .i64 3600))),
  .k (some 0) none (.asg (.tmp 4))])
(.seq (.seq (.ops [.f (some 5) none (.mv (.tmp 0)),
  .f (some 6) none (.bin .lss (.tmp 5) (.const (.int .i64 0)))])
(.cond (.tmp 6)
 (.ops [.f (some 7) none (.mv (.tmp 0)),
   .f (some 8) none (.bin .add (.tmp 7) (.const (.int .i64 3600))),
   .k (some 0) none (.asg (.tmp 8))])
 .skip))
(.seq (.ops [.f (some 9) none (.mv (.tmp 0)),
  .k (some 2) none (.asg (.tmp 9))])
.ret))))
theorem fn37 : FnOK Try.prog 37 10 c37 [.tmp 2] := .of (by kernel_rfl)
/-! 'dynpos/dynposref22.curve' -/
def c38 : Cd :=
(.seq (.ops [.k (some 1) none (.box 27 3 (.tmp 0)),
  .k (some 2) none (.asg (.const (.bool false)))])
(.seq (.ops [.f (some 3) none (.faddr 0 (.tmp 1)),
  .f (some 4) none (.load none (.tmp 3)),
  .k (some 5) none (.call 43 [(.tmp 4)]),
  .f (some 6) none (.mv (.tmp 5)),
  .f (some 7) (some (6, true)) (.faddr 1 (.tmp 1)),
  .f (some 8) (some (6, true)) (.load none (.tmp 7)),
  .k (some 9) (some (6, true)) (.call 43 [(.tmp 8)]),
  .f (some 10) none (.pick (.tmp 6) (.tmp 9) (.const (.bool false))),
  .f (some 11) none (.mv (.tmp 10)),
  .f (some 12) (some (11, true)) (.faddr 2 (.tmp 1)),
  .f (some 13) (some (11, true)) (.load none (.tmp 12)),
  .k (some 14) (some (11, true)) (.call 43 [(.tmp 13)]),
  .f (some 15) none (.pick (.tmp 11) (.tmp 14) (.const (.bool false))),
  .k (some 2) none (.asg (.tmp 15))])
.ret))
theorem fn38 : FnOK Try.prog 38 16 c38 [.tmp 2] := .of (by kernel_rfl)
/-! 'dynpos/dynposref22.in' -/
def c39 : Cd :=
(.seq (.ops [.k (some 6) none (.asg (.const (.bool false)))])
(.seq (.ops [.f (some 7) none (.mv (.tmp 0)),
  .f (some 8) none (.mv (.tmp 1)),
  .f (some 9) none (.bin .geq (.tmp 7) (.tmp 8)),
  .f (some 10) none (.mv (.tmp 9)),
  .f (some 11) (some (10, true)) (.mv (.tmp 0)),
  .f (some 12) (some (10, true)) (.mv (.tmp 2)),
  .f (some 13) (some (10, true)) (.bin .leq (.tmp 11) (.tmp 12)),
  .f (some 14) none (.pick (.tmp 10) (.tmp 13) (.const (.bool false))),
  .k (some 6) none (.asg (.tmp 14))])
.ret))
theorem fn39 : FnOK Try.prog 39 15 c39 [.tmp 6] := .of (by kernel_rfl)
/-! 'dynpos/dynposref22.Add' -/
def c40 : Cd :=
(.seq (.ops [.k (some 2) none (.box 36 3 (.tmp 0)),
  .k (some 3) none (.box 36 3 (.tmp 1)),
  .k (some 4) none (.alloc 36 [(.int .i64 0), (.int .i64 0), (.int .i64 0)])])
(.seq (.ops [.f (some 5) none (.faddr 0 (.tmp 2)),
  .f (some 6) none (.load none (.tmp 5)),
  .f (some 7) none (.faddr 0 (.tmp 3)),
  .f (some 8) none (.load none (.tmp 7)),
  .f (some 9) none (.bin .add (.tmp 6) (.tmp 8)),
  .f (some 10) none (.faddr 1 (.tmp 2)),
  .f (some 11) none (.load none (.tmp 10)),
  .f (some 12) none (.faddr 1 (.tmp 3)),
  .f (some 13) none (.load none (.tmp 12)),
  .f (some 14) none (.bin .add (.tmp 11) (.tmp 13)),
  .f (some 15) none (.faddr 2 (.tmp 2)),
  .f (some 16) none (.load none (.tmp 15)),
  .f (some 17) none (.faddr 2 (.tmp 3)),
  .f (some 18) none (.load none (.tmp 17)),
  .f (some 19) none (.bin .add (.tmp 16) (.tmp 18)),
  .f (some 20) none (.build [(.int .i64 0), (.int .i64 0), (.int .i64 0)] [(0, 1, (.tmp 9)), (1, 1, (.tmp 14)), (2, 1, (.tmp 19))]),
  .k none none (.store 3 (.tmp 4) (.tmp 20))])
.ret))
theorem fn40 : FnOK Try.prog 40 21 c40 [.cell 4 (some 3)] := .of (by kernel_rfl)
/-! 'dynpos/dynposref22.Flow' -/
def c41 : Cd :=
(.seq (.ops [.k (some 1) none (.box 33 2 (.tmp 0)),
  .k (some 2) none (.asg (.const (.bool false)))])
(.seq (.ops [.f (some 3) none (.faddr 0 (.tmp 1)),
  .f (some 4) none (.load none (.tmp 3)),
  .k (some 5) none (.call 39 [(.tmp 4), (.const (.int .i64 0)), (.const (.int .i64 3599))]),
  .f (some 6) none (.mv (.tmp 5)),
  .f (some 7) (some (6, true)) (.faddr 1 (.tmp 1)),
  .f (some 8) (some (6, true)) (.load none (.tmp 7)),
  .k (some 9) (some (6, true)) (.call 39 [(.tmp 8), (.const (.int .i64 0)), (.const (.int .i64 10000))]),
  .f (some 10) none (.pick (.tmp 6) (.tmp 9) (.const (.bool false))),
  .k (some 2) none (.asg (.tmp 10))])
.ret))
theorem fn41 : FnOK Try.prog 41 11 c41 [.tmp 2] := .of (by kernel_rfl)
/-! 'dynpos/dynposref22.Round' -/
def c42 : Cd :=
(.seq (.ops [.k (some 4) none (.asg (.const (.int .i64 0)))])
(.seq (.ops [.f (some 6) none (.mv (.tmp 0)),
  .f (some 7) none (.bin .mul (.const (.int .i64 2)) (.tmp 6)),
  .f (some 8) none (.mv (.tmp 1)),
  .f (some 9) none (.bin .add (.tmp 7) (.tmp 8)),
  .f (some 10) none (.mv (.tmp 1)),
  .f (some 11) none (.bin .mul (.const (.int .i64 2)) (.tmp 10)),
  .f (some 12) none (.bin .quo (.tmp 9) (.tmp 11)),
  .k (some 5) none (.asg (.tmp 12))])
(.seq (.seq (.ops [.f (some 13) none (.mv (.tmp 0)),
  .f (some 14) none (.bin .mul (.const (.int .i64 2)) (.tmp 13)),
  .f (some 15) none (.mv (.tmp 1)),
  .f (some 16) none (.bin .add (.tmp 14) (.tmp 15)),
  .f (some 17) none (.mv (.tmp 1)),
  .f (some 18) none (.bin .mul (.const (.int .i64 2)) (.tmp 17)),
  .f (some 19) none (.bin .rem (.tmp 16) (.tmp 18)),
  .f (some 20) none (.bin .lss (.tmp 19) (.const (.int .i64 0)))])
(.cond (.tmp 20)
 (.ops [.f (some 21) none (.mv (.tmp 5)),
   .f (some 22) none (.bin .sub (.tmp 21) (.const (.int .i64 1))),
   .k (some 5) none (.asg (.tmp 22))])
 .skip))
(.seq (.ops [.f (some 23) none (.mv (.tmp 5)),
  .k (some 4) none (.asg (.tmp 23))])
.ret))))
theorem fn42 : FnOK Try.prog 42 24 c42 [.tmp 4] := .of (by kernel_rfl)
/-! 'dynpos/dynposref22.list' -/
def c43_0 : Cd :=
(.block 1
 (.seq (.ops [.f (some 9) none (.iaddr 1 none (.tmp 5) (.tmp 7)),
   .f (some 10) none (.load none (.tmp 9)),
   .k (some 4) none (.asg (.tmp 10))])
 (.seq (.ops [.f (some 11) none (.mv (.tmp 4)),
   .k (some 12) none (.call 39 [(.tmp 11), (.const (.int .i64 (-1000))), (.const (.int .i64 1000))]),
   .f (some 13) none (.un .not (.tmp 12))])
 (.cond (.tmp 13)
  (.seq (.ops [.k (some 2) none (.asg (.const (.bool false)))])
  .ret)
  .skip))))
def c43 : Cd :=
(.seq (.ops [.k (some 2) none (.asg (.const (.bool false)))])
(.seq (.seq (.ops [.f (some 5) none (.mv (.tmp 0)),
  .f (some 6) none (.len (.tmp 5)),
  .f (some 7) none (.mv (.const (.int .i64 0)))])
(rangeC 0 7 6 8 14 c43_0))
(.seq (.ops [.f (some 15) none (.mv (.tmp 0)),
  .f (some 16) none (.len (.tmp 15)),
  .f (some 17) none (.bin .eql (.tmp 16) (.const (.int .i64 12))),
  .k (some 2) none (.asg (.tmp 17))])
.ret)))
theorem fn43 : FnOK Try.prog 43 18 c43 [.tmp 2] := .of (by kernel_rfl)
/-! 'dynpos/quotient.Within' -/
def c44_0 : Cd :=
(.block 1
 (.seq (.ops [.f (some 11) none (.iaddr 1 none (.tmp 7) (.tmp 9)),
   .f (some 12) none (.load none (.tmp 11)),
   .k (some 6) none (.asg (.tmp 12))])
 (.seq (.ops [.f (some 13) none (.mv (.tmp 6)),
   .f (some 14) none (.mv (.tmp 0)),
   .f (some 15) none (.un .neg (.tmp 14)),
   .f (some 16) none (.bin .lss (.tmp 13) (.tmp 15)),
   .f (some 17) none (.mv (.tmp 16)),
   .f (some 18) (some (17, false)) (.mv (.tmp 6)),
   .f (some 19) (some (17, false)) (.mv (.tmp 0)),
   .f (some 20) (some (17, false)) (.bin .gtr (.tmp 18) (.tmp 19)),
   .f (some 21) none (.pick (.tmp 17) (.const (.bool true)) (.tmp 20))])
 (.cond (.tmp 21)
  (.seq (.ops [.k (some 4) none (.asg (.const (.bool false)))])
  .ret)
  .skip))))
def c44 : Cd :=
(.seq (.ops [.k (some 4) none (.asg (.const (.bool false)))])
(.seq (.seq (.ops [.f (some 7) none (.mv (.tmp 1)),
  .f (some 8) none (.len (.tmp 7)),
  .f (some 9) none (.mv (.const (.int .i64 0)))])
(rangeC 0 9 8 10 22 c44_0))
(.seq (.ops [.k (some 4) none (.asg (.const (.bool true)))])
.ret)))
theorem fn44 : FnOK Try.prog 44 23 c44 [.tmp 4] := .of (by kernel_rfl)
/-! 'dynpos/quotient.Floor' -/
def c45 : Cd :=
(.seq (.ops [.k (some 4) none (.asg (.const (.int .i64 0)))])
(.seq (.opd [⟨0, .f (some 7) none (.mv (.tmp 0)), []⟩,
  ⟨1, .f (some 8) none (.mv (.tmp 1)), []⟩,
  ⟨2, .f (some 9) none (.bin .quo (.tmp 7) (.tmp 8)), []⟩,
  ⟨3, .f (some 10) none (.mv (.tmp 0)), []⟩,
  ⟨4, .f (some 11) none (.mv (.tmp 1)), []⟩,
  ⟨5, .f (some 12) none (.bin .rem (.tmp 10) (.tmp 11)), []⟩,
  ⟨6, .k (some 5) none (.asg (.tmp 9)), []⟩,
  ⟨7, .k (some 6) none (.asg (.tmp 12)), []⟩])
(.seq (.seq (.ops [.f (some 13) none (.mv (.tmp 6)),
  .f (some 14) none (.bin .lss (.tmp 13) (.const (.int .i64 0)))])
(.cond (.tmp 14)
 (.ops [.f (some 15) none (.mv (.tmp 5)),
   .f (some 16) none (.bin .sub (.tmp 15) (.const (.int .i64 1))),
   .k (some 5) none (.asg (.tmp 16))])
 .skip))
(.seq (.ops [.f (some 17) none (.mv (.tmp 5)),
  .k (some 4) none (.asg (.tmp 17))])
.ret))))
theorem fn45 : FnOK Try.prog 45 18 c45 [.tmp 4] := .of (by kernel_rfl)
end Go.Proofs.Ytapdjkiekjdgdaa.H
