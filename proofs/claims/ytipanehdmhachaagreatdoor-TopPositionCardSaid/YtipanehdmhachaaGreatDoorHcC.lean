/- compact code -/
import Derived.Test.YtipanehdmhachaaGreatDoorKaC
import Derived.Test.YtipanehdmhachaaGreatDoorRows
set_option linter.unusedSimpArgs false
set_option linter.unusedVariables false
set_option maxRecDepth 100000
set_option linter.unusedSectionVars false
namespace Go.Proofs.YtipanehdmhachaaGreatDoor.H
variable [DR]
/-! 'dynpos/dynpostop.TopPosition' -/
def c3_0 : Cd :=
(.seq (.seq (.ops [.f (some 34) none (.mv (.tmp 8)),
  .f (some 35) none (.mv (.tmp 5)),
  .f (some 36) none (.mv (.tmp 6)),
  .f (some 37) none (.bin .add (.tmp 35) (.tmp 36)),
  .f (some 38) none (.bin .lss (.tmp 34) (.tmp 37))])
(.cond (.tmp 38)
 .skip
 (.exit 0)))
(.seq (.block 1
 (.ops [.f (some 41) none (.mv (.tmp 7)),
   .f (some 42) none (.mv (.tmp 8)),
   .f (some 43) none (.mv (.tmp 4)),
   .f (some 44) none (.build [(.int .i64 0), (.int .i64 0), (.int .i64 0), (.int .i64 0)] [(0, 1, (.tmp 42)), (1, 1, (.tmp 43)), (2, 1, (.const (.int .i64 3)))]),
   .k (some 45) none (.bslice 30 4 1 [(.int .i64 0), (.int .i64 0), (.int .i64 0), (.int .i64 0)] [(0, 4, (.tmp 44))]),
   .k (some 46) none (.append 30 4 32 (.tmp 41) (.tmp 45)),
   .k (some 7) none (.asg (.tmp 46))]))
(.ops [.f (some 39) none (.mv (.tmp 8)),
  .f (some 40) none (.bin .add (.tmp 39) (.const (.int .i64 1))),
  .k (some 8) none (.asg (.tmp 40))])))
def c3_1 : Cd :=
(.block 5
 (.seq (.ops [.f (some 78) none (.mv (.tmp 76)),
   .k (some 17) none (.asg (.tmp 78))])
 (.seq (.ops [.f (some 79) none (.mv (.tmp 3)),
   .k (some 80) none (.bslice 3 1 3 [(.int .i64 0)] [(0, 1, (.const (.int .i64 1))), (1, 1, (.const (.int .i64 10))), (2, 1, (.const (.int .i64 100)))]),
   .k (some 81) none (.call 5 [(.tmp 79), (.tmp 80)]),
   .k (some 18) none (.asg (.tmp 81))])
 (.seq (.ops [.f (some 82) none (.mv (.tmp 17)),
   .f (some 83) none (.mv (.tmp 15)),
   .f (some 84) none (.mv (.tmp 12)),
   .f (some 85) none (.mv (.tmp 3)),
   .f (some 86) none (.mv (.tmp 18)),
   .f (some 87) none (.un .neg (.tmp 86)),
   .f (some 88) none (.mv (.tmp 18)),
   .k (some 89) none (.call 6 [(.tmp 85), (.tmp 87), (.tmp 88)]),
   .f (some 90) none (.bin .add (.tmp 84) (.tmp 89)),
   .f (some 91) none (.mv (.tmp 13)),
   .f (some 92) none (.mv (.tmp 3)),
   .f (some 93) none (.mv (.tmp 18)),
   .f (some 94) none (.un .neg (.tmp 93)),
   .f (some 95) none (.mv (.tmp 18)),
   .k (some 96) none (.call 6 [(.tmp 92), (.tmp 94), (.tmp 95)]),
   .f (some 97) none (.bin .add (.tmp 91) (.tmp 96)),
   .f (some 98) none (.mv (.tmp 18)),
   .f (some 99) none (.build [(.int .i64 0), (.int .i64 0), (.int .i64 0), (.int .i64 0), (.int .i64 0), (.int .i64 0)] [(0, 1, (.const (.int .i64 1))), (1, 1, (.tmp 82)), (2, 1, (.tmp 83)), (3, 1, (.tmp 90)), (4, 1, (.tmp 97)), (5, 1, (.tmp 98))]),
   .k (some 19) none (.alloc 41 [(.int .i64 0), (.int .i64 0), (.int .i64 0), (.int .i64 0), (.int .i64 0), (.int .i64 0)]),
   .k none none (.store 6 (.tmp 19) (.tmp 99))])
 (.seq (.seq (.ops [.f (some 100) none (.mv (.tmp 17)),
   .f (some 101) none (.mv (.tmp 5)),
   .f (some 102) none (.bin .geq (.tmp 100) (.tmp 101))])
 (.cond (.tmp 102)
  (.ops [.f (some 103) none (.faddr 3 (.tmp 19)),
    .f (some 104) none (.load none (.tmp 103)),
    .f (some 105) none (.bin .add (.tmp 104) (.const (.int .i64 100000))),
    .f (some 106) none (.faddr 3 (.tmp 19)),
    .k none none (.store 1 (.tmp 106) (.tmp 105))])
  .skip))
 (.seq (.ops [.f (some 107) none (.mv (.tmp 15)),
   .f (some 108) none (.mv (.tmp 14)),
   .f (some 109) none (.bin .lss (.tmp 107) (.tmp 108))])
 (.cond (.tmp 109)
  (.ops [.f (some 110) none (.mv (.tmp 16)),
    .f (some 111) none (.load (some 6) (.tmp 19)),
    .k (some 112) none (.bslice 41 6 1 [(.int .i64 0), (.int .i64 0), (.int .i64 0), (.int .i64 0), (.int .i64 0), (.int .i64 0)] [(0, 6, (.tmp 111))]),
    .k (some 113) none (.append 41 6 48 (.tmp 110) (.tmp 112)),
    .k (some 16) none (.asg (.tmp 113))])
  .skip)))))))
def c3_2 : Cd :=
(.seq (.seq (.ops [.f (some 56) none (.mv (.tmp 15)),
  .f (some 57) none (.bin .lss (.tmp 56) (.const (.int .i64 14)))])
(.cond (.tmp 57)
 .skip
 (.exit 2)))
(.seq (.block 3
 (.seq (.ops [.f (some 60) none (.mv (.tmp 12)),
   .f (some 61) none (.mv (.tmp 3)),
   .f (some 62) none (.mv (.tmp 4)),
   .f (some 63) none (.un .neg (.tmp 62)),
   .f (some 64) none (.mv (.tmp 4)),
   .k (some 65) none (.call 6 [(.tmp 61), (.tmp 63), (.tmp 64)]),
   .f (some 66) none (.bin .add (.tmp 60) (.tmp 65)),
   .f (some 67) none (.mv (.tmp 13)),
   .f (some 68) none (.mv (.tmp 3)),
   .f (some 69) none (.mv (.tmp 4)),
   .f (some 70) none (.un .neg (.tmp 69)),
   .f (some 71) none (.mv (.tmp 4)),
   .k (some 72) none (.call 6 [(.tmp 68), (.tmp 70), (.tmp 71)]),
   .f (some 73) none (.bin .add (.tmp 67) (.tmp 72)),
   .k (some 12) none (.asg (.tmp 66)),
   .k (some 13) none (.asg (.tmp 73))])
 (.seq (.ops [.k (some 16) none (.asg (.const (.slice none 0 0)))])
 (.seq (.seq (.ops [.f (some 74) none (.mv (.tmp 7)),
   .f (some 75) none (.len (.tmp 74)),
   .f (some 76) none (.mv (.const (.int .i64 0)))])
 (rangeC 4 76 75 77 114 c3_1))
 (.seq (.ops [.f (some 116) none (.mv (.tmp 7)),
   .f (some 117) none (.mv (.tmp 4)),
   .f (some 118) none (.mv (.tmp 9)),
   .f (some 119) none (.load (some 5) (.tmp 10)),
   .f (some 120) none (.mv (.tmp 15)),
   .f (some 121) none (.mv (.tmp 16)),
   .k (some 122) none (.call 9 [(.tmp 116), (.tmp 117), (.tmp 118), (.tmp 119), (.tmp 120), (.tmp 121)]),
   .f (some 115) none (.mv (.tmp 122)),
   .f (some 123) none (.extract 0 (.tmp 115)),
   .f (some 124) none (.extract 1 (.tmp 115)),
   .f (some 125) none (.extract 2 (.tmp 115)),
   .f (some 126) none (.extract 3 (.tmp 115)),
   .k (some 21) none (.alloc 35 [(.int .i64 0), (.int .i64 0), (.int .i64 0), (.int .i64 0), (.int .i64 0)]),
   .k (some 22) none (.alloc 43 [(.slice none 0 0), (.slice none 0 0), (.bool false)]),
   .k (some 20) none (.asg (.tmp 123)),
   .k none none (.store 5 (.tmp 21) (.tmp 124)),
   .k none none (.store 3 (.tmp 22) (.tmp 125)),
   .k (some 23) none (.asg (.tmp 126))])
 (.seq (.seq (.ops [.f (some 127) none (.mv (.tmp 23)),
   .f (some 128) none (.bin .neq (.tmp 127) (.const (.int .i64 0))),
   .f (some 129) none (.mv (.tmp 128)),
   .f (some 130) (some (129, false)) (.load (some 5) (.tmp 21)),
   .f (some 131) (some (129, false)) (.mv (.tmp 12)),
   .f (some 132) (some (129, false)) (.mv (.tmp 13)),
   .f (some 133) (some (129, false)) (.build [(.int .i64 0), (.int .i64 0)] [(0, 1, (.tmp 131)), (1, 1, (.tmp 132))]),
   .k (some 134) (some (129, false)) (.call 10 [(.tmp 130), (.tmp 133)]),
   .f (some 135) (some (129, false)) (.un .not (.tmp 134)),
   .f (some 136) none (.pick (.tmp 129) (.const (.bool true)) (.tmp 135)),
   .f (some 137) none (.mv (.tmp 136)),
   .f (some 138) (some (137, false)) (.mv (.tmp 15)),
   .f (some 139) (some (137, false)) (.mv (.tmp 14)),
   .f (some 140) (some (137, false)) (.bin .lss (.tmp 138) (.tmp 139)),
   .f (some 141) (some (137, false)) (.mv (.tmp 140)),
   .f (some 142) (some (141, true)) (.faddr 4 (.tmp 21)),
   .f (some 143) (some (141, true)) (.load none (.tmp 142)),
   .f (some 144) (some (141, true)) (.bin .neq (.tmp 143) (.const (.int .i64 1))),
   .f (some 145) (some (137, false)) (.pick (.tmp 141) (.tmp 144) (.const (.bool false))),
   .f (some 146) none (.pick (.tmp 137) (.const (.bool true)) (.tmp 145))])
 (.cond (.tmp 146)
  (.seq (.ops [.k (some 2) none (.asg (.const (.bool false)))])
  .ret)
  .skip))
 (.opd [⟨0, .f (some 147) none (.mv (.tmp 20)), []⟩,
   ⟨1, .f (some 148) none (.load (some 5) (.tmp 21)), []⟩,
   ⟨2, .k (some 9) none (.asg (.tmp 147)), [.f (some 148) none (.load (some 5) (.tmp 21))]⟩,
   ⟨3, .k none none (.store 5 (.tmp 10) (.tmp 148)), []⟩])))))))
(.ops [.f (some 58) none (.mv (.tmp 15)),
  .f (some 59) none (.bin .add (.tmp 58) (.const (.int .i64 1))),
  .k (some 15) none (.asg (.tmp 59))])))
def c3 : Cd :=
(.seq (.ops [.k (some 2) none (.asg (.const (.bool false)))])
(.seq (.ops [.f (some 24) none (.mv (.tmp 0)),
  .k (some 25) none (.call 4 [(.tmp 24)]),
  .k (some 3) none (.asg (.tmp 25))])
(.seq (.ops [.f (some 26) none (.mv (.tmp 3)),
  .k (some 27) none (.bslice 3 1 3 [(.int .i64 0)] [(0, 1, (.const (.int .i64 0))), (1, 1, (.const (.int .i64 5))), (2, 1, (.const (.int .i64 20)))]),
  .k (some 28) none (.call 5 [(.tmp 26), (.tmp 27)]),
  .k (some 4) none (.asg (.tmp 28))])
(.seq (.ops [.f (some 29) none (.mv (.tmp 3)),
  .k (some 30) none (.call 6 [(.tmp 29), (.const (.int .i64 2)), (.const (.int .i64 4))]),
  .k (some 5) none (.asg (.tmp 30))])
(.seq (.ops [.f (some 31) none (.mv (.tmp 3)),
  .f (some 32) none (.mv (.tmp 5)),
  .k (some 33) none (.call 7 [(.tmp 31), (.tmp 32)]),
  .k (some 6) none (.asg (.tmp 33))])
(.seq (.ops [.k (some 7) none (.asg (.const (.slice none 0 0)))])
(.seq (.seq (.ops [.k (some 8) none (.asg (.const (.int .i64 0)))])
(.block 0
 (.loop c3_0)))
(.seq (.ops [.f (some 48) none (.mv (.tmp 7)),
  .k (some 49) none (.call 8 [(.tmp 48)]),
  .f (some 47) none (.mv (.tmp 49)),
  .f (some 50) none (.extract 0 (.tmp 47)),
  .f (some 51) none (.extract 1 (.tmp 47)),
  .f (some 52) none (.extract 2 (.tmp 47)),
  .k (some 10) none (.alloc 35 [(.int .i64 0), (.int .i64 0), (.int .i64 0), (.int .i64 0), (.int .i64 0)]),
  .k (some 9) none (.asg (.tmp 50)),
  .k none none (.store 5 (.tmp 10) (.tmp 51)),
  .k (some 11) none (.asg (.tmp 52))])
(.seq (.ops [.k (some 12) none (.asg (.const (.int .i64 0))),
  .k (some 13) none (.asg (.const (.int .i64 0)))])
(.seq (.ops [.f (some 53) none (.mv (.tmp 3)),
  .k (some 54) none (.call 7 [(.tmp 53), (.const (.int .i64 6))]),
  .f (some 55) none (.bin .add (.const (.int .i64 3)) (.tmp 54)),
  .k (some 14) none (.asg (.tmp 55))])
(.seq (.seq (.ops [.k (some 15) none (.asg (.const (.int .i64 1)))])
(.block 2
 (.loop c3_2)))
(.seq (.ops [.f (some 149) none (.faddr 4 (.tmp 10)),
  .f (some 150) none (.load none (.tmp 149)),
  .f (some 151) none (.bin .eql (.tmp 150) (.const (.int .i64 2))),
  .f (some 152) none (.mv (.tmp 151)),
  .k (some 153) (some (152, true)) (.call 11 []),
  .f (some 154) none (.pick (.tmp 152) (.tmp 153) (.const (.bool false))),
  .k (some 2) none (.asg (.tmp 154))])
.ret))))))))))))
theorem fn3 : FnOK Tryz.prog 3 155 c3 [.tmp 2] := .of (by kernel_rfl)
/-! 'dynpos/dynposmake.New' -/
def c4 : Cd :=
(.seq (.ops [.k (some 2) none (.asg (.const (.pointer none)))])
(.seq (.ops [.f (some 3) none (.mv (.tmp 0)),
  .f (some 4) none (.mv (.tmp 0)),
  .f (some 5) none (.len (.tmp 4)),
  .f (some 6) none (.mm false [(.tmp 5), (.const (.int .i64 600))]),
  .f (some 7) none (.slc 1 (.tmp 3) none (some (.tmp 6)) none),
  .f (some 8) none (.build [(.slice none 0 0), (.int .i64 0)] [(0, 1, (.tmp 7))]),
  .k (some 9) none (.box 50 2 (.tmp 8)),
  .k (some 2) none (.asg (.tmp 9))])
.ret))
theorem fn4 : FnOK Tryz.prog 4 10 c4 [.tmp 2] := .of (by kernel_rfl)
/-! '(*dynpos/dynposmake.Src).Pick' -/
def c5 : Cd :=
(.seq (.ops [.k (some 4) none (.asg (.const (.int .i64 0)))])
(.seq (.ops [.f (some 5) none (.mv (.tmp 1)),
  .f (some 6) none (.mv (.tmp 0)),
  .f (some 7) none (.mv (.tmp 1)),
  .f (some 8) none (.len (.tmp 7)),
  .k (some 9) none (.call 7 [(.tmp 6), (.tmp 8)]),
  .f (some 10) none (.iaddr 1 none (.tmp 5) (.tmp 9)),
  .f (some 11) none (.load none (.tmp 10)),
  .k (some 4) none (.asg (.tmp 11))])
.ret))
theorem fn5 : FnOK Tryz.prog 5 12 c5 [.tmp 4] := .of (by kernel_rfl)
/-! '(*dynpos/dynposmake.Src).Range' -/
def c6 : Cd :=
(.seq (.ops [.k (some 6) none (.asg (.const (.int .i64 0)))])
(.seq (.ops [.f (some 7) none (.mv (.tmp 1)),
  .f (some 8) none (.mv (.tmp 0)),
  .f (some 9) none (.mv (.tmp 2)),
  .f (some 10) none (.mv (.tmp 1)),
  .f (some 11) none (.bin .sub (.tmp 9) (.tmp 10)),
  .f (some 12) none (.bin .add (.tmp 11) (.const (.int .i64 1))),
  .k (some 13) none (.call 7 [(.tmp 8), (.tmp 12)]),
  .f (some 14) none (.bin .add (.tmp 7) (.tmp 13)),
  .k (some 6) none (.asg (.tmp 14))])
.ret))
theorem fn6 : FnOK Tryz.prog 6 15 c6 [.tmp 6] := .of (by kernel_rfl)
/-! '(*dynpos/dynposmake.Src).N' -/
def c7 : Cd :=
(.seq (.ops [.k (some 4) none (.asg (.const (.int .i64 0)))])
(.seq (.seq (.opd [⟨0, .f (some 5) none (.mv (.tmp 0)), []⟩,
  ⟨1, .f (some 6) none (.nilc (.tmp 5)), []⟩,
  ⟨2, .f (some 7) none (.faddr 1 (.tmp 6)), []⟩,
  ⟨3, .f (some 8) none (.load none (.tmp 7)), []⟩,
  ⟨4, .f (some 9) none (.mv (.tmp 0)), []⟩,
  ⟨5, .f (some 10) none (.nilc (.tmp 9)), []⟩,
  ⟨6, .f (some 11) none (.faddr 0 (.tmp 10)), []⟩,
  ⟨7, .f (some 12) none (.load none (.tmp 11)), []⟩,
  ⟨8, .f (some 13) none (.len (.tmp 12)), []⟩,
  ⟨9, .f (some 14) none (.bin .geq (.tmp 8) (.tmp 13)), []⟩])
(.cond (.tmp 14)
 (.seq (.ops [.k (some 4) none (.asg (.const (.int .i64 0)))])
 .ret)
 .skip))
(.seq (.ops [.f (some 15) none (.mv (.tmp 0)),
  .f (some 16) none (.nilc (.tmp 15)),
  .f (some 17) none (.faddr 1 (.tmp 16)),
  .f (some 18) none (.load none (.tmp 17)),
  .f (some 19) none (.bin .add (.tmp 18) (.const (.int .i64 1))),
  .f (some 20) none (.nilc (.tmp 15)),
  .f (some 21) none (.faddr 1 (.tmp 20)),
  .k none none (.store 1 (.tmp 21) (.tmp 19))])
(.seq (.opd [⟨0, .f (some 22) none (.mv (.tmp 0)), []⟩,
  ⟨1, .f (some 23) none (.nilc (.tmp 22)), []⟩,
  ⟨2, .f (some 24) none (.faddr 0 (.tmp 23)), []⟩,
  ⟨3, .f (some 25) none (.load none (.tmp 24)), []⟩,
  ⟨4, .f (some 26) none (.mv (.tmp 0)), []⟩,
  ⟨5, .f (some 27) none (.nilc (.tmp 26)), []⟩,
  ⟨6, .f (some 28) none (.faddr 1 (.tmp 27)), []⟩,
  ⟨7, .f (some 29) none (.load none (.tmp 28)), []⟩,
  ⟨8, .f (some 30) none (.bin .sub (.tmp 29) (.const (.int .i64 1))), []⟩,
  ⟨9, .f (some 31) none (.iaddr 1 none (.tmp 25) (.tmp 30)), []⟩,
  ⟨10, .f (some 32) none (.load none (.tmp 31)), []⟩,
  ⟨11, .f (some 33) none (.mv (.tmp 1)), []⟩,
  ⟨12, .k (some 34) none (.call 12 [(.tmp 32), (.tmp 33)]), []⟩,
  ⟨13, .k (some 4) none (.asg (.tmp 34)), []⟩])
.ret))))
theorem fn7 : FnOK Tryz.prog 7 35 c7 [.tmp 4] := .of (by kernel_rfl)
/-! 'dynpos/estimate.New' -/
def c8 : Cd :=
(.seq (.ops [.k (some 2) none (.asg (.const (.slice none 0 0))),
  .k (some 3) none (.alloc 35 [(.int .i64 0), (.int .i64 0), (.int .i64 0), (.int .i64 0), (.int .i64 0)]),
  .k (some 4) none (.asg (.const (.int .i64 0)))])
(.seq (.seq (.ops [.f (some 6) none (.mv (.tmp 0)),
  .k (some 7) none (.call 13 [(.tmp 6)]),
  .k (some 5) none (.asg (.tmp 7))])
(.seq (.ops [.f (some 8) none (.mv (.tmp 5)),
  .f (some 9) none (.bin .neq (.tmp 8) (.const (.int .i64 0)))])
(.cond (.tmp 9)
 (.seq (.ops [.f (some 10) none (.build [(.int .i64 0), (.int .i64 0), (.int .i64 0), (.int .i64 0), (.int .i64 0)] []),
   .f (some 11) none (.mv (.tmp 5)),
   .k (some 2) none (.asg (.const (.slice none 0 0))),
   .k none none (.store 5 (.tmp 3) (.tmp 10)),
   .k (some 4) none (.asg (.tmp 11))])
 .ret)
 .skip)))
(.seq (.ops [.f (some 12) none (.mv (.tmp 0)),
  .f (some 13) none (.len (.tmp 12)),
  .k (some 14) none (.mkslice 84 11 88 [(.int .i64 0), (.int .i64 0), (.int .i64 0), (.int .i64 0), (.int .i64 0), (.int .i64 0), (.int .i64 0), (.int .i64 0), (.bool false), (.int .i64 0), (.int .i64 0)] (.tmp 13) (.tmp 13)),
  .f (some 15) none (.build [(.int .i64 0), (.int .i64 0), (.int .i64 0), (.int .i64 0), (.int .i64 0)] []),
  .k (some 2) none (.asg (.tmp 14)),
  .k none none (.store 5 (.tmp 3) (.tmp 15)),
  .k (some 4) none (.asg (.const (.int .i64 0)))])
.ret)))
theorem fn8 : FnOK Tryz.prog 8 16 c8 [.tmp 2, .cell 3 (some 5), .tmp 4] := .of (by kernel_rfl)
/-! 'dynpos/estimate.Step' -/
def c9_0 : Cd :=
(.block 2
 (.seq (.ops [.f (some 61) none (.mv (.tmp 59)),
   .f (some 62) none (.iaddr 4 none (.tmp 57) (.tmp 59)),
   .f (some 63) none (.load (some 4) (.tmp 62)),
   .k (some 24) none (.alloc 58 [(.int .i64 0), (.int .i64 0), (.int .i64 0), (.int .i64 0)]),
   .k (some 23) none (.asg (.tmp 61)),
   .k none none (.store 4 (.tmp 24) (.tmp 63))])
 (.seq (.opd [⟨0, .f (some 64) none (.faddr 0 (.tmp 18)), []⟩,
   ⟨1, .f (some 65) none (.load none (.tmp 64)), []⟩,
   ⟨2, .f (some 66) none (.mv (.tmp 19)), []⟩,
   ⟨3, .f (some 67) none (.mv (.tmp 23)), []⟩,
   ⟨4, .f (some 68) none (.iaddr 1 none (.tmp 66) (.tmp 67)), []⟩,
   ⟨5, .f (some 69) none (.load none (.tmp 68)), []⟩,
   ⟨6, .k (some 70) none (.call 17 [(.tmp 65), (.tmp 69)]), []⟩])
 (.cond (.tmp 70)
  (.ops [.f (some 71) none (.mv (.tmp 22)),
    .f (some 72) none (.load (some 4) (.tmp 24)),
    .k (some 73) none (.bslice 58 4 1 [(.int .i64 0), (.int .i64 0), (.int .i64 0), (.int .i64 0)] [(0, 4, (.tmp 72))]),
    .k (some 74) none (.append 58 4 32 (.tmp 71) (.tmp 73)),
    .k (some 22) none (.asg (.tmp 74))])
  .skip))))
def c9 : Cd :=
(.seq (.ops [.k (some 9) none (.box 35 5 (.tmp 3)),
  .k (some 12) none (.asg (.const (.slice none 0 0))),
  .k (some 13) none (.alloc 35 [(.int .i64 0), (.int .i64 0), (.int .i64 0), (.int .i64 0), (.int .i64 0)]),
  .k (some 14) none (.alloc 43 [(.slice none 0 0), (.slice none 0 0), (.bool false)]),
  .k (some 15) none (.asg (.const (.int .i64 0)))])
(.seq (.seq (.ops [.f (some 25) none (.mv (.tmp 0)),
  .f (some 26) none (.mv (.tmp 1)),
  .f (some 27) none (.mv (.tmp 2)),
  .f (some 28) none (.load (some 5) (.tmp 9)),
  .f (some 29) none (.mv (.tmp 4)),
  .k (some 30) none (.call 14 [(.tmp 25), (.tmp 26), (.tmp 27), (.tmp 28), (.tmp 29)]),
  .k (some 16) none (.asg (.tmp 30))])
(.seq (.ops [.f (some 31) none (.mv (.tmp 16)),
  .f (some 32) none (.bin .neq (.tmp 31) (.const (.int .i64 0)))])
(.cond (.tmp 32)
 (.seq (.ops [.f (some 33) none (.build [(.int .i64 0), (.int .i64 0), (.int .i64 0), (.int .i64 0), (.int .i64 0)] []),
   .f (some 34) none (.build [(.slice none 0 0), (.slice none 0 0), (.bool false)] []),
   .f (some 35) none (.mv (.tmp 16)),
   .k (some 12) none (.asg (.const (.slice none 0 0))),
   .k none none (.store 5 (.tmp 13) (.tmp 33)),
   .k none none (.store 3 (.tmp 14) (.tmp 34)),
   .k (some 15) none (.asg (.tmp 35))])
 .ret)
 .skip)))
(.seq (.ops [.f (some 36) none (.mv (.tmp 0)),
  .f (some 37) none (.mv (.tmp 2)),
  .f (some 38) none (.mv (.tmp 4)),
  .f (some 39) none (.mv (.tmp 5)),
  .k (some 40) none (.call 15 [(.tmp 36), (.tmp 37), (.tmp 38), (.tmp 39)]),
  .k (some 17) none (.asg (.tmp 40))])
(.seq (.ops [.f (some 42) none (.mv (.tmp 0)),
  .f (some 43) none (.mv (.tmp 17)),
  .f (some 44) none (.mv (.tmp 4)),
  .f (some 45) none (.mv (.tmp 1)),
  .k (some 46) none (.call 16 [(.tmp 42), (.tmp 43), (.tmp 44), (.tmp 45)]),
  .f (some 41) none (.mv (.tmp 46)),
  .f (some 47) none (.extract 0 (.tmp 41)),
  .f (some 48) none (.extract 1 (.tmp 41)),
  .f (some 49) none (.extract 2 (.tmp 41)),
  .k (some 18) none (.alloc 43 [(.slice none 0 0), (.slice none 0 0), (.bool false)]),
  .k none none (.store 3 (.tmp 18) (.tmp 47)),
  .k (some 19) none (.asg (.tmp 48)),
  .k (some 20) none (.asg (.tmp 49))])
(.seq (.ops [.f (some 50) none (.mv (.tmp 4)),
  .f (some 51) none (.build [(.int .i64 0), (.int .i64 0), (.int .i64 0), (.int .i64 0), (.int .i64 0)] [(3, 1, (.tmp 50))]),
  .k (some 21) none (.alloc 35 [(.int .i64 0), (.int .i64 0), (.int .i64 0), (.int .i64 0), (.int .i64 0)]),
  .k none none (.store 5 (.tmp 21) (.tmp 51))])
(.seq (.block 0
 (.seq (.ops [.f (some 53) none (.faddr 0 (.tmp 18)),
   .f (some 54) none (.load none (.tmp 53)),
   .f (some 55) none (.len (.tmp 54)),
   .f (some 56) none (.bin .gtr (.tmp 55) (.const (.int .i64 0))),
   .k (some 52) none (.asg (.tmp 56))])
 (.cond (.tmp 52)
  (.seq (.ops [.k (some 22) none (.asg (.const (.slice none 0 0)))])
  (.seq (.seq (.ops [.f (some 57) none (.mv (.tmp 20)),
    .f (some 58) none (.len (.tmp 57)),
    .f (some 59) none (.mv (.const (.int .i64 0)))])
  (rangeC 1 59 58 60 75 c9_0))
  (.seq (.ops [.f (some 77) none (.mv (.tmp 22)),
    .k (some 78) none (.call 18 [(.tmp 77)]),
    .f (some 76) none (.mv (.tmp 78)),
    .f (some 79) none (.extract 0 (.tmp 76)),
    .f (some 80) none (.extract 1 (.tmp 76)),
    .f (some 81) none (.extract 2 (.tmp 76)),
    .f (some 82) none (.faddr 0 (.tmp 21)),
    .k none none (.store 2 (.tmp 82) (.tmp 79)),
    .f (some 83) none (.faddr 2 (.tmp 21)),
    .k none none (.store 1 (.tmp 83) (.tmp 80))])
  (.ops [.f (some 84) none (.faddr 4 (.tmp 21)),
    .k none none (.store 1 (.tmp 84) (.const (.int .i64 1)))]))))
  (.seq (.ops [.f (some 86) none (.faddr 4 (.tmp 9)),
    .f (some 87) none (.load none (.tmp 86)),
    .f (some 88) none (.bin .neq (.tmp 87) (.const (.int .i64 0))),
    .k (some 85) none (.asg (.tmp 88))])
  (.cond (.tmp 85)
   (.seq (.ops [.f (some 89) none (.faddr 0 (.tmp 9)),
     .f (some 90) none (.load (some 2) (.tmp 89)),
     .f (some 91) none (.faddr 0 (.tmp 21)),
     .k none none (.store 2 (.tmp 91) (.tmp 90)),
     .f (some 92) none (.faddr 4 (.tmp 21)),
     .k none none (.store 1 (.tmp 92) (.const (.int .i64 2)))])
   (.ops [.f (some 94) none (.faddr 2 (.tmp 9)),
     .f (some 95) none (.load none (.tmp 94)),
     .f (some 96) none (.mv (.tmp 1)),
     .f (some 97) none (.mv (.tmp 4)),
     .f (some 98) none (.faddr 3 (.tmp 9)),
     .f (some 99) none (.load none (.tmp 98)),
     .f (some 100) none (.bin .sub (.tmp 97) (.tmp 99)),
     .k (some 101) none (.call 19 [(.tmp 95), (.tmp 96), (.tmp 100)]),
     .f (some 93) none (.mv (.tmp 101)),
     .f (some 102) none (.extract 0 (.tmp 93)),
     .f (some 103) none (.extract 1 (.tmp 93)),
     .f (some 104) none (.faddr 2 (.tmp 21)),
     .k none none (.store 1 (.tmp 104) (.tmp 102))]))
   .skip)))))
(.seq (.opd [⟨0, .f (some 105) none (.mv (.tmp 17)), []⟩,
  ⟨1, .f (some 106) none (.load (some 5) (.tmp 21)), []⟩,
  ⟨2, .f (some 107) none (.load (some 3) (.tmp 18)), []⟩,
  ⟨3, .k (some 12) none (.asg (.tmp 105)), [.f (some 106) none (.load (some 5) (.tmp 21)), .f (some 107) none (.load (some 3) (.tmp 18))]⟩,
  ⟨4, .k none none (.store 5 (.tmp 13) (.tmp 106)), [.f (some 107) none (.load (some 3) (.tmp 18))]⟩,
  ⟨5, .k none none (.store 3 (.tmp 14) (.tmp 107)), []⟩,
  ⟨6, .k (some 15) none (.asg (.const (.int .i64 0))), []⟩])
.ret)))))))
theorem fn9 : FnOK Tryz.prog 9 108 c9 [.tmp 12, .cell 13 (some 5), .cell 14 (some 3), .tmp 15] := .of (by kernel_rfl)
/-! 'dynpos/estimate.Holds' -/
def c10 : Cd :=
(.seq (.ops [.k (some 2) none (.box 35 5 (.tmp 0)),
  .k (some 3) none (.box 33 2 (.tmp 1)),
  .k (some 4) none (.asg (.const (.bool false)))])
(.seq (.ops [.f (some 8) none (.load (some 2) (.tmp 3)),
  .f (some 9) none (.faddr 0 (.tmp 2)),
  .f (some 10) none (.load (some 2) (.tmp 9)),
  .k (some 11) none (.call 20 [(.tmp 8), (.tmp 10)]),
  .f (some 7) none (.mv (.tmp 11)),
  .f (some 12) none (.extract 0 (.tmp 7)),
  .f (some 13) none (.extract 1 (.tmp 7)),
  .k (some 5) none (.asg (.tmp 12)),
  .k (some 6) none (.asg (.tmp 13))])
(.seq (.ops [.f (some 14) none (.faddr 4 (.tmp 2)),
  .f (some 15) none (.load none (.tmp 14)),
  .f (some 16) none (.bin .neq (.tmp 15) (.const (.int .i64 0))),
  .f (some 17) none (.mv (.tmp 16)),
  .f (some 18) (some (17, true)) (.mv (.tmp 6)),
  .f (some 19) (some (17, true)) (.bin .eql (.tmp 18) (.const (.int .i64 0))),
  .f (some 20) none (.pick (.tmp 17) (.tmp 19) (.const (.bool false))),
  .f (some 21) none (.mv (.tmp 20)),
  .f (some 22) (some (21, true)) (.mv (.tmp 5)),
  .f (some 23) (some (21, true)) (.faddr 2 (.tmp 2)),
  .f (some 24) (some (21, true)) (.load none (.tmp 23)),
  .f (some 25) (some (21, true)) (.bin .leq (.tmp 22) (.tmp 24)),
  .f (some 26) none (.pick (.tmp 21) (.tmp 25) (.const (.bool false))),
  .k (some 4) none (.asg (.tmp 26))])
.ret)))
theorem fn10 : FnOK Tryz.prog 10 27 c10 [.tmp 4] := .of (by kernel_rfl)
/-! 'dynpos/dynposmake.Mod' -/
def c12 : Cd :=
(.seq (.ops [.k (some 4) none (.asg (.const (.int .i64 0)))])
(.seq (.seq (.ops [.f (some 5) none (.mv (.tmp 1)),
  .f (some 6) none (.bin .lss (.tmp 5) (.const (.int .i64 1)))])
(.cond (.tmp 6)
 (.seq (.ops [.k (some 4) none (.asg (.const (.int .i64 0)))])
 .ret)
 .skip))
(.seq (.ops [.f (some 7) none (.mv (.tmp 0)),
  .f (some 8) none (.mv (.tmp 1)),
  .f (some 9) none (.bin .rem (.tmp 7) (.tmp 8)),
  .f (some 10) none (.mv (.tmp 1)),
  .f (some 11) none (.bin .add (.tmp 9) (.tmp 10)),
  .f (some 12) none (.mv (.tmp 1)),
  .f (some 13) none (.bin .rem (.tmp 11) (.tmp 12)),
  .k (some 4) none (.asg (.tmp 13))])
.ret)))
theorem fn12 : FnOK Tryz.prog 12 14 c12 [.tmp 4] := .of (by kernel_rfl)
/-! 'dynpos/estimate.Config' -/
def c13 : Cd :=
(.seq (.ops [.k (some 2) none (.asg (.const (.int .i64 0)))])
(.seq (.block 0
 (.seq (.ops [.f (some 4) none (.mv (.tmp 0)),
   .f (some 5) none (.len (.tmp 4)),
   .f (some 6) none (.bin .gtr (.tmp 5) (.const (.int .i64 8))),
   .k (some 3) none (.asg (.tmp 6))])
 (.cond (.tmp 3)
  (.seq (.ops [.k (some 2) none (.asg (.const (.int .i64 2)))])
  .ret)
  (.seq (.ops [.f (some 8) none (.mv (.tmp 0)),
    .k (some 9) none (.call 25 [(.tmp 8), (.func 26)]),
    .k (some 7) none (.asg (.tmp 9))])
  (.cond (.tmp 7)
   (.seq (.ops [.k (some 2) none (.asg (.const (.int .i64 1)))])
   .ret)
   .skip)))))
(.seq (.ops [.k (some 2) none (.asg (.const (.int .i64 0)))])
.ret)))
theorem fn13 : FnOK Tryz.prog 13 10 c13 [.tmp 2] := .of (by kernel_rfl)
/-! 'dynpos/estimate.check' -/
def c14 : Cd :=
(.seq (.ops [.k (some 8) none (.box 35 5 (.tmp 3)),
  .k (some 9) none (.box 3 1 (.tmp 4)),
  .k (some 10) none (.asg (.const (.int .i64 0)))])
(.seq (.block 0
 (.seq (.ops [.f (some 12) none (.mv (.tmp 0)),
   .k (some 13) none (.call 13 [(.tmp 12)]),
   .f (some 14) none (.bin .neq (.tmp 13) (.const (.int .i64 0))),
   .k (some 11) none (.asg (.tmp 14))])
 (.cond (.tmp 11)
  (.seq (.ops [.f (some 15) none (.mv (.tmp 0)),
    .k (some 16) none (.call 13 [(.tmp 15)]),
    .k (some 10) none (.asg (.tmp 16))])
  .ret)
  (.seq (.ops [.f (some 18) none (.mv (.tmp 2)),
    .f (some 19) none (.len (.tmp 18)),
    .f (some 20) none (.mv (.tmp 0)),
    .f (some 21) none (.len (.tmp 20)),
    .f (some 22) none (.bin .neq (.tmp 19) (.tmp 21)),
    .k (some 17) none (.asg (.tmp 22))])
  (.cond (.tmp 17)
   (.seq (.ops [.k (some 10) none (.asg (.const (.int .i64 8)))])
   .ret)
   (.seq (.ops [.f (some 24) none (.load none (.tmp 9)),
     .f (some 25) none (.mv (.tmp 1)),
     .k (some 26) none (.call 28 [(.tmp 24), (.tmp 25)]),
     .f (some 27) none (.un .not (.tmp 26)),
     .f (some 28) none (.mv (.tmp 27)),
     .f (some 29) (some (28, false)) (.faddr 2 (.tmp 8)),
     .f (some 30) (some (28, false)) (.load none (.tmp 29)),
     .f (some 31) (some (28, false)) (.bin .lss (.tmp 30) (.const (.int .i64 0))),
     .f (some 32) none (.pick (.tmp 28) (.const (.bool true)) (.tmp 31)),
     .f (some 33) none (.mv (.tmp 32)),
     .f (some 34) (some (33, false)) (.faddr 2 (.tmp 8)),
     .f (some 35) (some (33, false)) (.load none (.tmp 34)),
     .f (some 36) (some (33, false)) (.bin .gtr (.tmp 35) (.const (.int .i64 200000000))),
     .f (some 37) none (.pick (.tmp 33) (.const (.bool true)) (.tmp 36)),
     .f (some 38) none (.mv (.tmp 37)),
     .f (some 39) (some (38, false)) (.faddr 3 (.tmp 8)),
     .f (some 40) (some (38, false)) (.load none (.tmp 39)),
     .k (some 41) (some (38, false)) (.call 28 [(.tmp 40), (.const (.int .i64 0))]),
     .f (some 42) (some (38, false)) (.un .not (.tmp 41)),
     .f (some 43) none (.pick (.tmp 38) (.const (.bool true)) (.tmp 42)),
     .f (some 44) none (.mv (.tmp 43)),
     .f (some 45) (some (44, false)) (.faddr 0 (.tmp 8)),
     .f (some 46) (some (44, false)) (.load (some 2) (.tmp 45)),
     .k (some 47) (some (44, false)) (.call 29 [(.tmp 46)]),
     .f (some 48) (some (44, false)) (.un .not (.tmp 47)),
     .f (some 49) none (.pick (.tmp 44) (.const (.bool true)) (.tmp 48)),
     .k (some 23) none (.asg (.tmp 49))])
   (.cond (.tmp 23)
    (.seq (.ops [.k (some 10) none (.asg (.const (.int .i64 1)))])
    .ret)
    (.seq (.ops [.f (some 51) none (.load none (.tmp 9)),
      .f (some 52) none (.faddr 3 (.tmp 8)),
      .f (some 53) none (.load none (.tmp 52)),
      .f (some 54) none (.bin .lss (.tmp 51) (.tmp 53)),
      .f (some 55) none (.mv (.tmp 54)),
      .f (some 56) (some (55, false)) (.mv (.tmp 2)),
      .f (some 57) (some (55, false)) (.mkfn 31 [] [(.tmp 9)]),
      .k (some 58) (some (55, false)) (.call 30 [(.tmp 56), (.tmp 57)]),
      .f (some 59) none (.pick (.tmp 55) (.const (.bool true)) (.tmp 58)),
      .k (some 50) none (.asg (.tmp 59))])
    (.cond (.tmp 50)
     (.seq (.ops [.k (some 10) none (.asg (.const (.int .i64 16)))])
     .ret)
     .skip)))))))))
(.seq (.ops [.k (some 10) none (.asg (.const (.int .i64 0)))])
.ret)))
theorem fn14 : FnOK Tryz.prog 14 60 c14 [.tmp 10] := .of (by kernel_rfl)
/-! 'dynpos/estimate.take' -/
def c15_0 : Cd :=
(.block 1
 (.seq (.ops [.f (some 23) none (.iaddr 6 none (.tmp 19) (.tmp 21)),
   .f (some 24) none (.load (some 6) (.tmp 23)),
   .k (some 11) none (.alloc 41 [(.int .i64 0), (.int .i64 0), (.int .i64 0), (.int .i64 0), (.int .i64 0), (.int .i64 0)]),
   .k none none (.store 6 (.tmp 11) (.tmp 24))])
 (.seq (.seq (.ops [.f (some 25) none (.faddr 0 (.tmp 11)),
   .f (some 26) none (.load none (.tmp 25)),
   .f (some 27) none (.bin .neq (.tmp 26) (.const (.int .i64 1))),
   .f (some 28) none (.mv (.tmp 27)),
   .f (some 29) (some (28, false)) (.faddr 2 (.tmp 11)),
   .f (some 30) (some (28, false)) (.load none (.tmp 29)),
   .f (some 31) (some (28, false)) (.mv (.tmp 2)),
   .f (some 32) (some (28, false)) (.bin .neq (.tmp 30) (.tmp 31)),
   .f (some 33) none (.pick (.tmp 28) (.const (.bool true)) (.tmp 32)),
   .f (some 34) none (.mv (.tmp 33)),
   .f (some 35) (some (34, false)) (.faddr 1 (.tmp 11)),
   .f (some 36) (some (34, false)) (.load none (.tmp 35)),
   .f (some 37) (some (34, false)) (.bin .lss (.tmp 36) (.const (.int .i64 0))),
   .f (some 38) none (.pick (.tmp 34) (.const (.bool true)) (.tmp 37)),
   .f (some 39) none (.mv (.tmp 38)),
   .f (some 40) (some (39, false)) (.faddr 1 (.tmp 11)),
   .f (some 41) (some (39, false)) (.load none (.tmp 40)),
   .f (some 42) (some (39, false)) (.mv (.tmp 0)),
   .f (some 43) (some (39, false)) (.len (.tmp 42)),
   .f (some 44) (some (39, false)) (.bin .geq (.tmp 41) (.tmp 43)),
   .f (some 45) none (.pick (.tmp 39) (.const (.bool true)) (.tmp 44))])
 (.cond (.tmp 45)
  (.exit 1)
  .skip))
 (.seq (.opd [⟨0, .f (some 47) none (.mv (.tmp 0)), []⟩,
   ⟨1, .f (some 48) none (.faddr 1 (.tmp 11)), []⟩,
   ⟨2, .f (some 49) none (.load none (.tmp 48)), []⟩,
   ⟨3, .f (some 50) none (.iaddr 4 none (.tmp 47) (.tmp 49)), []⟩,
   ⟨4, .f (some 51) none (.load (some 4) (.tmp 50)), []⟩,
   ⟨5, .f (some 52) none (.mv (.tmp 9)), []⟩,
   ⟨6, .f (some 53) none (.faddr 1 (.tmp 11)), []⟩,
   ⟨7, .f (some 54) none (.load none (.tmp 53)), []⟩,
   ⟨8, .f (some 55) none (.iaddr 11 none (.tmp 52) (.tmp 54)), []⟩,
   ⟨9, .f (some 56) none (.load (some 11) (.tmp 55)), []⟩,
   ⟨10, .f (some 57) none (.faddr 2 (.tmp 11)), []⟩,
   ⟨11, .f (some 58) none (.load none (.tmp 57)), []⟩,
   ⟨12, .f (some 59) none (.faddr 3 (.tmp 11)), []⟩,
   ⟨13, .f (some 60) none (.load none (.tmp 59)), []⟩,
   ⟨14, .f (some 61) none (.faddr 4 (.tmp 11)), []⟩,
   ⟨15, .f (some 62) none (.load none (.tmp 61)), []⟩,
   ⟨16, .f (some 63) none (.faddr 5 (.tmp 11)), []⟩,
   ⟨17, .f (some 64) none (.load none (.tmp 63)), []⟩,
   ⟨18, .f (some 65) none (.build [(.int .i64 0), (.int .i64 0), (.int .i64 0), (.int .i64 0)] [(0, 1, (.tmp 58)), (1, 1, (.tmp 60)), (2, 1, (.tmp 62)), (3, 1, (.tmp 64))]), []⟩,
   ⟨19, .k (some 66) none (.call 33 [(.tmp 51), (.tmp 56), (.tmp 65)]), []⟩,
   ⟨20, .f (some 46) none (.mv (.tmp 66)), []⟩,
   ⟨21, .f (some 67) none (.extract 0 (.tmp 46)), []⟩,
   ⟨22, .f (some 68) none (.extract 1 (.tmp 46)), []⟩,
   ⟨23, .k (some 12) none (.alloc 84 [(.int .i64 0), (.int .i64 0), (.int .i64 0), (.int .i64 0), (.int .i64 0), (.int .i64 0), (.int .i64 0), (.int .i64 0), (.bool false), (.int .i64 0), (.int .i64 0)]), [.f (some 49) none (.load none (.tmp 48)), .f (some 50) none (.iaddr 4 none (.tmp 47) (.tmp 49)), .f (some 51) none (.load (some 4) (.tmp 50)), .f (some 54) none (.load none (.tmp 53)), .f (some 55) none (.iaddr 11 none (.tmp 52) (.tmp 54)), .f (some 56) none (.load (some 11) (.tmp 55)), .f (some 58) none (.load none (.tmp 57)), .f (some 60) none (.load none (.tmp 59)), .f (some 62) none (.load none (.tmp 61)), .f (some 64) none (.load none (.tmp 63))]⟩,
   ⟨24, .k none none (.store 11 (.tmp 12) (.tmp 67)), []⟩,
   ⟨25, .k (some 13) none (.asg (.tmp 68)), []⟩])
 (.seq (.ops [.f (some 69) none (.mv (.tmp 13)),
   .f (some 70) none (.bin .eql (.tmp 69) (.const (.int .i64 0)))])
 (.cond (.tmp 70)
  (.ops [.f (some 71) none (.mv (.tmp 9)),
    .f (some 72) none (.faddr 1 (.tmp 11)),
    .f (some 73) none (.load none (.tmp 72)),
    .f (some 74) none (.load (some 11) (.tmp 12)),
    .f (some 75) none (.iaddr 11 none (.tmp 71) (.tmp 73)),
    .k none none (.store 11 (.tmp 75) (.tmp 74))])
  .skip))))))
def c15_1 : Cd :=
(.block 3
 (.seq (.ops [.f (some 81) none (.mv (.tmp 79)),
   .k (some 14) none (.asg (.tmp 81))])
 (.seq (.opd [⟨0, .f (some 83) none (.mv (.tmp 0)), []⟩,
   ⟨1, .f (some 84) none (.mv (.tmp 14)), []⟩,
   ⟨2, .f (some 85) none (.iaddr 4 none (.tmp 83) (.tmp 84)), []⟩,
   ⟨3, .f (some 86) none (.load (some 4) (.tmp 85)), []⟩,
   ⟨4, .f (some 87) none (.mv (.tmp 9)), []⟩,
   ⟨5, .f (some 88) none (.mv (.tmp 14)), []⟩,
   ⟨6, .f (some 89) none (.iaddr 11 none (.tmp 87) (.tmp 88)), []⟩,
   ⟨7, .f (some 90) none (.load (some 11) (.tmp 89)), []⟩,
   ⟨8, .f (some 91) none (.mv (.tmp 2)), []⟩,
   ⟨9, .k (some 92) none (.call 34 [(.tmp 86), (.tmp 90), (.tmp 91)]), []⟩,
   ⟨10, .f (some 82) none (.mv (.tmp 92)), []⟩,
   ⟨11, .f (some 93) none (.extract 0 (.tmp 82)), []⟩,
   ⟨12, .f (some 94) none (.extract 1 (.tmp 82)), []⟩,
   ⟨13, .k (some 15) none (.alloc 84 [(.int .i64 0), (.int .i64 0), (.int .i64 0), (.int .i64 0), (.int .i64 0), (.int .i64 0), (.int .i64 0), (.int .i64 0), (.bool false), (.int .i64 0), (.int .i64 0)]), [.f (some 85) none (.iaddr 4 none (.tmp 83) (.tmp 84)), .f (some 86) none (.load (some 4) (.tmp 85)), .f (some 89) none (.iaddr 11 none (.tmp 87) (.tmp 88)), .f (some 90) none (.load (some 11) (.tmp 89))]⟩,
   ⟨14, .k none none (.store 11 (.tmp 15) (.tmp 93)), []⟩,
   ⟨15, .k (some 16) none (.asg (.tmp 94)), []⟩])
 (.seq (.ops [.f (some 95) none (.mv (.tmp 16)),
   .f (some 96) none (.bin .eql (.tmp 95) (.const (.int .i64 0)))])
 (.cond (.tmp 96)
  (.ops [.f (some 97) none (.mv (.tmp 9)),
    .f (some 98) none (.mv (.tmp 14)),
    .f (some 99) none (.load (some 11) (.tmp 15)),
    .f (some 100) none (.iaddr 11 none (.tmp 97) (.tmp 98)),
    .k none none (.store 11 (.tmp 100) (.tmp 99))])
  .skip)))))
def c15 : Cd :=
(.seq (.ops [.k (some 8) none (.asg (.const (.slice none 0 0)))])
(.seq (.ops [.f (some 17) none (.mv (.tmp 1)),
  .k (some 18) none (.call 32 [(.tmp 17)]),
  .k (some 9) none (.asg (.tmp 18))])
(.seq (.seq (.ops [.f (some 19) none (.mv (.tmp 3)),
  .f (some 20) none (.len (.tmp 19)),
  .f (some 21) none (.mv (.const (.int .i64 0)))])
(rangeC 0 21 20 22 76 c15_0))
(.seq (.seq (.ops [.f (some 77) none (.mv (.tmp 9)),
  .f (some 78) none (.len (.tmp 77)),
  .f (some 79) none (.mv (.const (.int .i64 0)))])
(rangeC 2 79 78 80 101 c15_1))
(.seq (.ops [.f (some 102) none (.mv (.tmp 9)),
  .k (some 8) none (.asg (.tmp 102))])
.ret)))))
theorem fn15 : FnOK Tryz.prog 15 103 c15 [.tmp 8] := .of (by kernel_rfl)
/-! 'dynpos/estimate.Votes' -/
def c16_0 : Cd :=
(.block 1
 (.seq (.ops [.f (some 42) none (.mv (.tmp 40)),
   .f (some 43) none (.iaddr 11 none (.tmp 38) (.tmp 40)),
   .f (some 44) none (.load (some 11) (.tmp 43)),
   .k (some 15) none (.alloc 84 [(.int .i64 0), (.int .i64 0), (.int .i64 0), (.int .i64 0), (.int .i64 0), (.int .i64 0), (.int .i64 0), (.int .i64 0), (.bool false), (.int .i64 0), (.int .i64 0)]),
   .k (some 14) none (.asg (.tmp 42)),
   .k none none (.store 11 (.tmp 15) (.tmp 44))])
 (.seq (.ops [.f (some 46) none (.load (some 11) (.tmp 15)),
   .f (some 47) none (.mv (.tmp 2)),
   .f (some 48) none (.mv (.tmp 3)),
   .k (some 49) none (.call 35 [(.tmp 46), (.tmp 47), (.tmp 48)]),
   .f (some 45) none (.mv (.tmp 49)),
   .f (some 50) none (.extract 0 (.tmp 45)),
   .f (some 51) none (.extract 1 (.tmp 45)),
   .k (some 16) none (.alloc 58 [(.int .i64 0), (.int .i64 0), (.int .i64 0), (.int .i64 0)]),
   .k none none (.store 4 (.tmp 16) (.tmp 50)),
   .k (some 17) none (.asg (.tmp 51))])
 (.seq (.ops [.f (some 52) none (.mv (.tmp 17))])
 (.cond (.tmp 52)
  (.opd [⟨0, .f (some 53) none (.mv (.tmp 11)), []⟩,
    ⟨1, .f (some 54) none (.mv (.tmp 14)), []⟩,
    ⟨2, .k (some 55) none (.bslice 3 1 1 [(.int .i64 0)] [(0, 1, (.tmp 54))]), []⟩,
    ⟨4, .f (some 57) none (.mv (.tmp 12)), []⟩,
    ⟨5, .f (some 58) none (.mv (.tmp 0)), []⟩,
    ⟨6, .f (some 59) none (.mv (.tmp 14)), []⟩,
    ⟨7, .f (some 60) none (.iaddr 4 none (.tmp 58) (.tmp 59)), []⟩,
    ⟨8, .f (some 61) none (.faddr 0 (.tmp 60)), []⟩,
    ⟨9, .f (some 62) none (.load none (.tmp 61)), []⟩,
    ⟨10, .k (some 63) none (.bslice 3 1 1 [(.int .i64 0)] [(0, 1, (.tmp 62))]), []⟩,
    ⟨12, .f (some 65) none (.mv (.tmp 13)), []⟩,
    ⟨13, .f (some 66) none (.load (some 4) (.tmp 16)), []⟩,
    ⟨14, .k (some 67) none (.bslice 58 4 1 [(.int .i64 0), (.int .i64 0), (.int .i64 0), (.int .i64 0)] [(0, 4, (.tmp 66))]), []⟩,
    ⟨3, .k (some 56) none (.append 3 1 8 (.tmp 53) (.tmp 55)), [.f (some 60) none (.iaddr 4 none (.tmp 58) (.tmp 59)), .f (some 62) none (.load none (.tmp 61)), .f (some 66) none (.load (some 4) (.tmp 16))]⟩,
    ⟨11, .k (some 64) none (.append 3 1 8 (.tmp 57) (.tmp 63)), [.f (some 66) none (.load (some 4) (.tmp 16))]⟩,
    ⟨15, .k (some 68) none (.append 58 4 32 (.tmp 65) (.tmp 67)), []⟩,
    ⟨16, .k (some 11) none (.asg (.tmp 56)), []⟩,
    ⟨17, .k (some 12) none (.asg (.tmp 64)), []⟩,
    ⟨18, .k (some 13) none (.asg (.tmp 68)), []⟩])
  .skip)))))
def c16_1 : Cd :=
(.block 3
 (.seq (.ops [.f (some 81) none (.mv (.tmp 79)),
   .f (some 82) none (.iaddr 1 none (.tmp 77) (.tmp 79)),
   .f (some 83) none (.load none (.tmp 82)),
   .k (some 20) none (.asg (.tmp 81)),
   .k (some 21) none (.asg (.tmp 83))])
 (.opd [⟨0, .f (some 84) none (.faddr 0 (.tmp 18)), []⟩,
   ⟨1, .f (some 85) none (.load none (.tmp 84)), []⟩,
   ⟨2, .f (some 86) none (.mv (.tmp 20)), []⟩,
   ⟨3, .f (some 87) none (.mv (.tmp 11)), []⟩,
   ⟨4, .f (some 88) none (.mv (.tmp 21)), []⟩,
   ⟨5, .f (some 89) none (.iaddr 1 none (.tmp 87) (.tmp 88)), []⟩,
   ⟨6, .f (some 90) none (.load none (.tmp 89)), []⟩,
   ⟨7, .f (some 91) none (.iaddr 1 none (.tmp 85) (.tmp 86)), []⟩,
   ⟨8, .k none none (.store 1 (.tmp 91) (.tmp 90)), []⟩])))
def c16 : Cd :=
(.seq (.ops [.k (some 8) none (.alloc 43 [(.slice none 0 0), (.slice none 0 0), (.bool false)]),
  .k (some 9) none (.asg (.const (.slice none 0 0))),
  .k (some 10) none (.asg (.const (.slice none 0 0)))])
(.seq (.seq (.ops [.f (some 22) none (.mv (.tmp 0)),
  .k (some 23) none (.call 13 [(.tmp 22)]),
  .f (some 24) none (.bin .neq (.tmp 23) (.const (.int .i64 0))),
  .f (some 25) none (.mv (.tmp 24)),
  .f (some 26) (some (25, false)) (.mv (.tmp 2)),
  .f (some 27) (some (25, false)) (.mv (.tmp 3)),
  .k (some 28) (some (25, false)) (.call 28 [(.tmp 26), (.tmp 27)]),
  .f (some 29) (some (25, false)) (.un .not (.tmp 28)),
  .f (some 30) none (.pick (.tmp 25) (.const (.bool true)) (.tmp 29))])
(.cond (.tmp 30)
 (.seq (.ops [.f (some 31) none (.build [(.slice none 0 0), (.slice none 0 0), (.bool false)] []),
   .k none none (.store 3 (.tmp 8) (.tmp 31)),
   .k (some 9) none (.asg (.const (.slice none 0 0))),
   .k (some 10) none (.asg (.const (.slice none 0 0)))])
 .ret)
 .skip))
(.seq (.ops [.k (some 11) none (.asg (.const (.slice none 0 0))),
  .k (some 12) none (.asg (.const (.slice none 0 0)))])
(.seq (.ops [.k (some 13) none (.asg (.const (.slice none 0 0)))])
(.seq (.seq (.ops [.f (some 32) none (.mv (.tmp 1)),
  .f (some 33) none (.mv (.tmp 1)),
  .f (some 34) none (.len (.tmp 33)),
  .f (some 35) none (.mv (.tmp 0)),
  .f (some 36) none (.len (.tmp 35)),
  .f (some 37) none (.mm false [(.tmp 34), (.tmp 36)]),
  .f (some 38) none (.slc 11 (.tmp 32) none (some (.tmp 37)) none),
  .f (some 39) none (.len (.tmp 38)),
  .f (some 40) none (.mv (.const (.int .i64 0)))])
(rangeC 0 40 39 41 69 c16_0))
(.seq (.ops [.f (some 71) none (.mv (.tmp 12)),
  .f (some 72) none (.mv (.tmp 13)),
  .k (some 73) none (.call 36 [(.tmp 71), (.tmp 72)]),
  .f (some 70) none (.mv (.tmp 73)),
  .f (some 74) none (.extract 0 (.tmp 70)),
  .f (some 75) none (.extract 1 (.tmp 70)),
  .k (some 18) none (.alloc 43 [(.slice none 0 0), (.slice none 0 0), (.bool false)]),
  .k none none (.store 3 (.tmp 18) (.tmp 74)),
  .k (some 19) none (.asg (.tmp 75))])
(.seq (.seq (.ops [.f (some 76) none (.faddr 0 (.tmp 18)),
  .f (some 77) none (.load none (.tmp 76)),
  .f (some 78) none (.len (.tmp 77)),
  .f (some 79) none (.mv (.const (.int .i64 0)))])
(rangeC 2 79 78 80 92 c16_1))
(.seq (.ops [.f (some 93) none (.load (some 3) (.tmp 18)),
  .f (some 94) none (.mv (.tmp 11)),
  .f (some 95) none (.mv (.tmp 13)),
  .k none none (.store 3 (.tmp 8) (.tmp 93)),
  .k (some 9) none (.asg (.tmp 94)),
  .k (some 10) none (.asg (.tmp 95))])
.ret))))))))
theorem fn16 : FnOK Tryz.prog 16 96 c16 [.cell 8 (some 3), .tmp 9, .tmp 10] := .of (by kernel_rfl)
/-! 'slices.Contains[[]int,int]' -/
def c17 : Cd :=
(.seq (.ops [.k (some 4) none (.asg (.const (.bool false)))])
(.seq (.ops [.f (some 5) none (.mv (.tmp 0)),
  .f (some 6) none (.mv (.tmp 1)),
  .k (some 7) none (.call 37 [(.tmp 5), (.tmp 6)]),
  .f (some 8) none (.bin .geq (.tmp 7) (.const (.int .i64 0))),
  .k (some 4) none (.asg (.tmp 8))])
.ret))
theorem fn17 : FnOK Tryz.prog 17 9 c17 [.tmp 4] := .of (by kernel_rfl)
/-! 'dynpos/fuse.Fuse' -/
def c18_0 : Cd :=
(.block 1
 (.seq (.ops [.f (some 32) none (.iaddr 4 none (.tmp 28) (.tmp 30)),
   .f (some 33) none (.load (some 4) (.tmp 32)),
   .k (some 8) none (.alloc 58 [(.int .i64 0), (.int .i64 0), (.int .i64 0), (.int .i64 0)]),
   .k none none (.store 4 (.tmp 8) (.tmp 33))])
 (.ops [.f (some 34) none (.mv (.tmp 6)),
   .f (some 35) none (.faddr 3 (.tmp 8)),
   .f (some 36) none (.load none (.tmp 35)),
   .k (some 37) none (.call 39 [(.tmp 36)]),
   .f (some 38) none (.mm true [(.tmp 34), (.tmp 37)]),
   .k (some 6) none (.asg (.tmp 38))])))
def c18_1 : Cd :=
(.block 3
 (.seq (.ops [.f (some 44) none (.iaddr 4 none (.tmp 40) (.tmp 42)),
   .f (some 45) none (.load (some 4) (.tmp 44)),
   .k (some 13) none (.alloc 58 [(.int .i64 0), (.int .i64 0), (.int .i64 0), (.int .i64 0)]),
   .k none none (.store 4 (.tmp 13) (.tmp 45))])
 (.seq (.ops [.f (some 47) none (.faddr 3 (.tmp 13)),
   .f (some 48) none (.load none (.tmp 47)),
   .k (some 49) none (.call 39 [(.tmp 48)]),
   .f (some 50) none (.bin .mul (.const (.int .i64 1000)) (.tmp 49)),
   .f (some 51) none (.mv (.tmp 6)),
   .k (some 52) none (.call 40 [(.tmp 50), (.tmp 51)]),
   .f (some 46) none (.mv (.tmp 52)),
   .f (some 53) none (.extract 0 (.tmp 46)),
   .f (some 54) none (.extract 1 (.tmp 46)),
   .k (some 14) none (.asg (.tmp 53)),
   .k (some 15) none (.asg (.tmp 54))])
 (.opd [⟨0, .f (some 55) none (.mv (.tmp 9)), []⟩,
   ⟨1, .f (some 56) none (.mv (.tmp 14)), []⟩,
   ⟨2, .f (some 57) none (.faddr 1 (.tmp 13)), []⟩,
   ⟨3, .f (some 58) none (.load none (.tmp 57)), []⟩,
   ⟨4, .f (some 59) none (.bin .mul (.tmp 56) (.tmp 58)), []⟩,
   ⟨5, .f (some 60) none (.bin .add (.tmp 55) (.tmp 59)), []⟩,
   ⟨6, .f (some 61) none (.mv (.tmp 10)), []⟩,
   ⟨7, .f (some 62) none (.mv (.tmp 14)), []⟩,
   ⟨8, .f (some 63) none (.faddr 2 (.tmp 13)), []⟩,
   ⟨9, .f (some 64) none (.load none (.tmp 63)), []⟩,
   ⟨10, .f (some 65) none (.bin .mul (.tmp 62) (.tmp 64)), []⟩,
   ⟨11, .f (some 66) none (.bin .add (.tmp 61) (.tmp 65)), []⟩,
   ⟨12, .f (some 67) none (.mv (.tmp 11)), []⟩,
   ⟨13, .f (some 68) none (.mv (.tmp 14)), []⟩,
   ⟨14, .f (some 69) none (.bin .add (.tmp 67) (.tmp 68)), []⟩,
   ⟨15, .k (some 9) none (.asg (.tmp 60)), [.f (some 64) none (.load none (.tmp 63))]⟩,
   ⟨16, .k (some 10) none (.asg (.tmp 66)), []⟩,
   ⟨17, .k (some 11) none (.asg (.tmp 69)), []⟩]))))
def c18_2 : Cd :=
(.block 5
 (.seq (.ops [.f (some 89) none (.iaddr 4 none (.tmp 85) (.tmp 87)),
   .f (some 90) none (.load (some 4) (.tmp 89)),
   .k (some 19) none (.alloc 58 [(.int .i64 0), (.int .i64 0), (.int .i64 0), (.int .i64 0)]),
   .k none none (.store 4 (.tmp 19) (.tmp 90))])
 (.seq (.opd [⟨0, .f (some 92) none (.load (some 2) (.tmp 16)), []⟩,
   ⟨1, .f (some 93) none (.load (some 4) (.tmp 19)), []⟩,
   ⟨2, .k (some 94) none (.call 42 [(.tmp 93)]), [.f (some 92) none (.load (some 2) (.tmp 16))]⟩,
   ⟨3, .k (some 95) none (.call 20 [(.tmp 92), (.tmp 94)]), []⟩,
   ⟨4, .f (some 91) none (.mv (.tmp 95)), []⟩,
   ⟨5, .f (some 96) none (.extract 0 (.tmp 91)), []⟩,
   ⟨6, .f (some 97) none (.extract 1 (.tmp 91)), []⟩,
   ⟨7, .k (some 20) none (.asg (.tmp 96)), []⟩,
   ⟨8, .k (some 21) none (.asg (.tmp 97)), []⟩])
 (.ops [.f (some 98) none (.mv (.tmp 17)),
   .f (some 99) none (.mv (.tmp 20)),
   .f (some 100) none (.faddr 3 (.tmp 19)),
   .f (some 101) none (.load none (.tmp 100)),
   .f (some 102) none (.bin .add (.tmp 99) (.tmp 101)),
   .f (some 103) none (.mm true [(.tmp 98), (.tmp 102)]),
   .k (some 17) none (.asg (.tmp 103))]))))
def c18 : Cd :=
(.seq (.ops [.k (some 2) none (.alloc 33 [(.int .i64 0), (.int .i64 0)]),
  .k (some 3) none (.asg (.const (.int .i64 0))),
  .k (some 4) none (.asg (.const (.int .i64 0)))])
(.seq (.seq (.ops [.f (some 22) none (.mv (.tmp 0)),
  .k (some 23) none (.call 38 [(.tmp 22)]),
  .k (some 5) none (.asg (.tmp 23))])
(.seq (.ops [.f (some 24) none (.mv (.tmp 5)),
  .f (some 25) none (.bin .neq (.tmp 24) (.const (.int .i64 0)))])
(.cond (.tmp 25)
 (.seq (.ops [.f (some 26) none (.build [(.int .i64 0), (.int .i64 0)] []),
   .f (some 27) none (.mv (.tmp 5)),
   .k none none (.store 2 (.tmp 2) (.tmp 26)),
   .k (some 3) none (.asg (.const (.int .i64 0))),
   .k (some 4) none (.asg (.tmp 27))])
 .ret)
 .skip)))
(.seq (.ops [.k (some 6) none (.asg (.const (.int .i64 0)))])
(.seq (.seq (.ops [.f (some 28) none (.mv (.tmp 0)),
  .f (some 29) none (.len (.tmp 28)),
  .f (some 30) none (.mv (.const (.int .i64 0)))])
(rangeC 0 30 29 31 39 c18_0))
(.seq (.ops [.k (some 9) none (.asg (.const (.int .i64 0))),
  .k (some 10) none (.asg (.const (.int .i64 0))),
  .k (some 11) none (.asg (.const (.int .i64 0)))])
(.seq (.seq (.ops [.f (some 40) none (.mv (.tmp 0)),
  .f (some 41) none (.len (.tmp 40)),
  .f (some 42) none (.mv (.const (.int .i64 0)))])
(rangeC 2 42 41 43 70 c18_1))
(.seq (.ops [.k (some 16) none (.alloc 33 [(.int .i64 0), (.int .i64 0)])])
(.seq (.ops [.f (some 72) none (.mv (.tmp 9)),
  .f (some 73) none (.mv (.tmp 11)),
  .k (some 74) none (.call 41 [(.tmp 72), (.tmp 73)]),
  .f (some 71) none (.mv (.tmp 74)),
  .f (some 75) none (.extract 0 (.tmp 71)),
  .f (some 76) none (.extract 1 (.tmp 71)),
  .f (some 77) none (.faddr 0 (.tmp 16)),
  .k none none (.store 1 (.tmp 77) (.tmp 75))])
(.seq (.ops [.f (some 79) none (.mv (.tmp 10)),
  .f (some 80) none (.mv (.tmp 11)),
  .k (some 81) none (.call 41 [(.tmp 79), (.tmp 80)]),
  .f (some 78) none (.mv (.tmp 81)),
  .f (some 82) none (.extract 0 (.tmp 78)),
  .f (some 83) none (.extract 1 (.tmp 78)),
  .f (some 84) none (.faddr 1 (.tmp 16)),
  .k none none (.store 1 (.tmp 84) (.tmp 82))])
(.seq (.ops [.k (some 17) none (.asg (.const (.int .i64 0)))])
(.seq (.seq (.ops [.f (some 85) none (.mv (.tmp 0)),
  .f (some 86) none (.len (.tmp 85)),
  .f (some 87) none (.mv (.const (.int .i64 0)))])
(rangeC 4 87 86 88 104 c18_2))
(.seq (.ops [.f (some 105) none (.load (some 2) (.tmp 16)),
  .f (some 106) none (.mv (.tmp 17)),
  .k none none (.store 2 (.tmp 2) (.tmp 105)),
  .k (some 3) none (.asg (.tmp 106)),
  .k (some 4) none (.asg (.const (.int .i64 0)))])
.ret))))))))))))
theorem fn18 : FnOK Tryz.prog 18 107 c18 [.cell 2 (some 2), .tmp 3, .tmp 4] := .of (by kernel_rfl)
/-! 'dynpos/fuse.Grow' -/
def c19 : Cd :=
(.seq (.ops [.k (some 6) none (.asg (.const (.int .i64 0))),
  .k (some 7) none (.asg (.const (.int .i64 0)))])
(.seq (.seq (.ops [.f (some 8) none (.mv (.tmp 0)),
  .f (some 9) none (.bin .lss (.tmp 8) (.const (.int .i64 0))),
  .f (some 10) none (.mv (.tmp 9)),
  .f (some 11) (some (10, false)) (.mv (.tmp 0)),
  .f (some 12) (some (10, false)) (.bin .gtr (.tmp 11) (.const (.int .i64 200000000))),
  .f (some 13) none (.pick (.tmp 10) (.const (.bool true)) (.tmp 12)),
  .f (some 14) none (.mv (.tmp 13)),
  .f (some 15) (some (14, false)) (.mv (.tmp 1)),
  .f (some 16) (some (14, false)) (.bin .lss (.tmp 15) (.const (.int .i64 0))),
  .f (some 17) none (.pick (.tmp 14) (.const (.bool true)) (.tmp 16)),
  .f (some 18) none (.mv (.tmp 17)),
  .f (some 19) (some (18, false)) (.mv (.tmp 1)),
  .f (some 20) (some (18, false)) (.bin .gtr (.tmp 19) (.const (.int .i64 1000))),
  .f (some 21) none (.pick (.tmp 18) (.const (.bool true)) (.tmp 20)),
  .f (some 22) none (.mv (.tmp 21)),
  .f (some 23) (some (22, false)) (.mv (.tmp 2)),
  .f (some 24) (some (22, false)) (.bin .lss (.tmp 23) (.const (.int .i64 0))),
  .f (some 25) none (.pick (.tmp 22) (.const (.bool true)) (.tmp 24)),
  .f (some 26) none (.mv (.tmp 25)),
  .f (some 27) (some (26, false)) (.mv (.tmp 2)),
  .f (some 28) (some (26, false)) (.bin .gtr (.tmp 27) (.const (.int .i64 2147483648))),
  .f (some 29) none (.pick (.tmp 26) (.const (.bool true)) (.tmp 28))])
(.cond (.tmp 29)
 (.seq (.ops [.k (some 6) none (.asg (.const (.int .i64 0))),
   .k (some 7) none (.asg (.const (.int .i64 1)))])
 .ret)
 .skip))
(.seq (.ops [.f (some 30) none (.mv (.tmp 0)),
  .f (some 31) none (.mv (.tmp 1)),
  .f (some 32) none (.mv (.tmp 2)),
  .f (some 33) none (.bin .mul (.tmp 31) (.tmp 32)),
  .f (some 34) none (.bin .add (.tmp 30) (.tmp 33)),
  .f (some 35) none (.mm false [(.tmp 34), (.const (.int .i64 200000000))]),
  .k (some 6) none (.asg (.tmp 35)),
  .k (some 7) none (.asg (.const (.int .i64 0)))])
.ret)))
theorem fn19 : FnOK Tryz.prog 19 36 c19 [.tmp 6, .tmp 7] := .of (by kernel_rfl)
/-! 'dynpos/frame.Box' -/
def c20 : Cd :=
(.seq (.ops [.k (some 2) none (.box 33 2 (.tmp 0)),
  .k (some 3) none (.box 33 2 (.tmp 1)),
  .k (some 4) none (.asg (.const (.int .i64 0))),
  .k (some 5) none (.asg (.const (.int .i64 0)))])
(.seq (.ops [.f (some 10) none (.load (some 2) (.tmp 2)),
  .f (some 11) none (.load (some 2) (.tmp 3)),
  .k (some 12) none (.call 43 [(.tmp 10), (.tmp 11)]),
  .f (some 9) none (.mv (.tmp 12)),
  .f (some 13) none (.extract 0 (.tmp 9)),
  .f (some 14) none (.extract 1 (.tmp 9)),
  .f (some 15) none (.extract 2 (.tmp 9)),
  .k (some 6) none (.asg (.tmp 13)),
  .k (some 7) none (.asg (.tmp 14)),
  .k (some 8) none (.asg (.tmp 15))])
(.seq (.ops [.f (some 16) none (.mv (.tmp 6)),
  .f (some 17) none (.mv (.tmp 7)),
  .f (some 18) none (.mm true [(.tmp 16), (.tmp 17)]),
  .f (some 19) none (.mv (.tmp 8)),
  .k (some 4) none (.asg (.tmp 18)),
  .k (some 5) none (.asg (.tmp 19))])
.ret)))
theorem fn20 : FnOK Tryz.prog 20 20 c20 [.tmp 4, .tmp 5] := .of (by kernel_rfl)
/-! 'slices.ContainsFunc[[]dynpos/api.Reference,dynpos/api.Reference]' -/
def c25 : Cd :=
(.seq (.ops [.k (some 4) none (.asg (.const (.bool false)))])
(.seq (.ops [.f (some 5) none (.mv (.tmp 0)),
  .f (some 6) none (.mv (.tmp 1)),
  .k (some 7) none (.call 55 [(.tmp 5), (.tmp 6)]),
  .f (some 8) none (.bin .geq (.tmp 7) (.const (.int .i64 0))),
  .k (some 4) none (.asg (.tmp 8))])
.ret))
theorem fn25 : FnOK Tryz.prog 25 9 c25 [.tmp 4] := .of (by kernel_rfl)
/-! 'dynpos/estimate.Config$1' -/
def c26 : Cd :=
(.seq (.ops [.k (some 1) none (.box 30 4 (.tmp 0)),
  .k (some 2) none (.asg (.const (.bool false)))])
(.seq (.ops [.f (some 3) none (.load (some 4) (.tmp 1)),
  .k (some 4) none (.call 27 [(.tmp 3)]),
  .f (some 5) none (.un .not (.tmp 4)),
  .k (some 2) none (.asg (.tmp 5))])
.ret))
theorem fn26 : FnOK Tryz.prog 26 6 c26 [.tmp 2] := .of (by kernel_rfl)
/-! 'dynpos/monitor.Valid' -/
def c27 : Cd :=
(.seq (.ops [.k (some 1) none (.box 30 4 (.tmp 0)),
  .k (some 2) none (.asg (.const (.bool false)))])
(.seq (.ops [.f (some 3) none (.faddr 0 (.tmp 1)),
  .f (some 4) none (.load none (.tmp 3)),
  .k (some 5) none (.call 56 [(.tmp 4), (.const (.int .i64 0)), (.const (.int .i64 7))]),
  .f (some 6) none (.mv (.tmp 5)),
  .f (some 7) (some (6, true)) (.faddr 1 (.tmp 1)),
  .f (some 8) (some (6, true)) (.load none (.tmp 7)),
  .k (some 9) (some (6, true)) (.call 56 [(.tmp 8), (.const (.int .i64 0)), (.const (.int .i64 1000))]),
  .f (some 10) none (.pick (.tmp 6) (.tmp 9) (.const (.bool false))),
  .f (some 11) none (.mv (.tmp 10)),
  .f (some 12) (some (11, true)) (.faddr 2 (.tmp 1)),
  .f (some 13) (some (11, true)) (.load none (.tmp 12)),
  .k (some 14) (some (11, true)) (.call 56 [(.tmp 13), (.const (.int .i64 1)), (.const (.int .i64 600))]),
  .f (some 15) none (.pick (.tmp 11) (.tmp 14) (.const (.bool false))),
  .f (some 16) none (.mv (.tmp 15)),
  .f (some 17) (some (16, true)) (.faddr 3 (.tmp 1)),
  .f (some 18) (some (16, true)) (.load none (.tmp 17)),
  .k (some 19) (some (16, true)) (.call 56 [(.tmp 18), (.const (.int .i64 0)), (.const (.int .i64 600))]),
  .f (some 20) none (.pick (.tmp 16) (.tmp 19) (.const (.bool false))),
  .k (some 2) none (.asg (.tmp 20))])
.ret))
theorem fn27 : FnOK Tryz.prog 27 21 c27 [.tmp 2] := .of (by kernel_rfl)
/-! 'dynpos/estimate.times' -/
def c28 : Cd :=
(.seq (.ops [.k (some 4) none (.asg (.const (.bool false)))])
(.seq (.ops [.f (some 5) none (.mv (.tmp 0)),
  .f (some 6) none (.bin .geq (.tmp 5) (.const (.int .i64 0))),
  .f (some 7) none (.mv (.tmp 6)),
  .f (some 8) (some (7, true)) (.mv (.tmp 0)),
  .f (some 9) (some (7, true)) (.bin .leq (.tmp 8) (.const (.int .i64 2147483648))),
  .f (some 10) none (.pick (.tmp 7) (.tmp 9) (.const (.bool false))),
  .f (some 11) none (.mv (.tmp 10)),
  .f (some 12) (some (11, true)) (.mv (.tmp 1)),
  .f (some 13) (some (11, true)) (.bin .geq (.tmp 12) (.const (.int .i64 0))),
  .f (some 14) none (.pick (.tmp 11) (.tmp 13) (.const (.bool false))),
  .f (some 15) none (.mv (.tmp 14)),
  .f (some 16) (some (15, true)) (.mv (.tmp 1)),
  .f (some 17) (some (15, true)) (.bin .leq (.tmp 16) (.const (.int .i64 1000))),
  .f (some 18) none (.pick (.tmp 15) (.tmp 17) (.const (.bool false))),
  .k (some 4) none (.asg (.tmp 18))])
.ret))
theorem fn28 : FnOK Tryz.prog 28 19 c28 [.tmp 4] := .of (by kernel_rfl)
/-! 'dynpos/frame.Valid' -/
def c29 : Cd :=
(.seq (.ops [.k (some 1) none (.box 33 2 (.tmp 0)),
  .k (some 2) none (.asg (.const (.bool false)))])
(.seq (.ops [.f (some 3) none (.faddr 0 (.tmp 1)),
  .f (some 4) none (.load none (.tmp 3)),
  .f (some 5) none (.faddr 1 (.tmp 1)),
  .f (some 6) none (.load none (.tmp 5)),
  .f (some 7) none (.mm true [(.tmp 4), (.tmp 6)]),
  .f (some 8) none (.bin .leq (.tmp 7) (.const (.int .i64 100000000))),
  .f (some 9) none (.mv (.tmp 8)),
  .f (some 10) (some (9, true)) (.faddr 0 (.tmp 1)),
  .f (some 11) (some (9, true)) (.load none (.tmp 10)),
  .f (some 12) (some (9, true)) (.faddr 1 (.tmp 1)),
  .f (some 13) (some (9, true)) (.load none (.tmp 12)),
  .f (some 14) (some (9, true)) (.mm false [(.tmp 11), (.tmp 13)]),
  .f (some 15) (some (9, true)) (.bin .geq (.tmp 14) (.const (.int .i64 (-100000000)))),
  .f (some 16) none (.pick (.tmp 9) (.tmp 15) (.const (.bool false))),
  .k (some 2) none (.asg (.tmp 16))])
.ret))
theorem fn29 : FnOK Tryz.prog 29 17 c29 [.tmp 2] := .of (by kernel_rfl)
/-! 'slices.ContainsFunc[[]dynpos/api.Track,dynpos/api.Track]' -/
def c30 : Cd :=
(.seq (.ops [.k (some 4) none (.asg (.const (.bool false)))])
(.seq (.ops [.f (some 5) none (.mv (.tmp 0)),
  .f (some 6) none (.mv (.tmp 1)),
  .k (some 7) none (.call 57 [(.tmp 5), (.tmp 6)]),
  .f (some 8) none (.bin .geq (.tmp 7) (.const (.int .i64 0))),
  .k (some 4) none (.asg (.tmp 8))])
.ret))
theorem fn30 : FnOK Tryz.prog 30 9 c30 [.tmp 4] := .of (by kernel_rfl)
/-! 'dynpos/estimate.check$1' -/
def c31 : Cd :=
(.seq (.ops [.k (some 2) none (.box 84 11 (.tmp 0)),
  .k (some 3) none (.asg (.const (.bool false)))])
(.seq (.ops [.f (some 4) none (.faddr 8 (.tmp 2)),
  .f (some 5) none (.load none (.tmp 4)),
  .f (some 6) none (.mv (.tmp 5)),
  .f (some 7) (some (6, true)) (.load none (.tmp 1)),
  .f (some 8) (some (6, true)) (.faddr 0 (.tmp 2)),
  .f (some 9) (some (6, true)) (.faddr 0 (.tmp 8)),
  .f (some 10) (some (6, true)) (.load none (.tmp 9)),
  .f (some 11) (some (6, true)) (.bin .lss (.tmp 7) (.tmp 10)),
  .f (some 12) none (.pick (.tmp 6) (.tmp 11) (.const (.bool false))),
  .k (some 3) none (.asg (.tmp 12))])
.ret))
theorem fn31 : FnOK Tryz.prog 31 13 c31 [.tmp 3] := .of (by kernel_rfl)
/-! 'slices.Clone[[]dynpos/api.Track,dynpos/api.Track]' -/
def c32 : Cd :=
(.seq (.ops [.k (some 2) none (.asg (.const (.slice none 0 0)))])
(.seq (.seq (.ops [.f (some 3) none (.mv (.tmp 0)),
  .k (some 4) none (.gen (.nils false) [(.tmp 3)])])
(.cond (.tmp 4)
 (.seq (.ops [.k (some 2) none (.asg (.const (.slice none 0 0)))])
 .ret)
 .skip))
(.seq (.ops [.k (some 5) none (.bslice 84 11 0 [(.int .i64 0), (.int .i64 0), (.int .i64 0), (.int .i64 0), (.int .i64 0), (.int .i64 0), (.int .i64 0), (.int .i64 0), (.bool false), (.int .i64 0), (.int .i64 0)] []),
  .f (some 6) none (.mv (.tmp 0)),
  .k (some 7) none (.append 84 11 88 (.tmp 5) (.tmp 6)),
  .k (some 2) none (.asg (.tmp 7))])
.ret)))
theorem fn32 : FnOK Tryz.prog 32 8 c32 [.tmp 2] := .of (by kernel_rfl)
/-! 'dynpos/monitor.Step' -/
def c33 : Cd :=
(.seq (.ops [.k (some 3) none (.box 30 4 (.tmp 0)),
  .k (some 4) none (.box 84 11 (.tmp 1)),
  .k (some 5) none (.box 58 4 (.tmp 2)),
  .k (some 6) none (.alloc 84 [(.int .i64 0), (.int .i64 0), (.int .i64 0), (.int .i64 0), (.int .i64 0), (.int .i64 0), (.int .i64 0), (.int .i64 0), (.bool false), (.int .i64 0), (.int .i64 0)]),
  .k (some 7) none (.asg (.const (.int .i64 0)))])
(.seq (.block 0
 (.seq (.ops [.f (some 9) none (.load (some 4) (.tmp 3)),
   .k (some 10) none (.call 27 [(.tmp 9)]),
   .f (some 11) none (.un .not (.tmp 10)),
   .f (some 12) none (.mv (.tmp 11)),
   .f (some 13) (some (12, false)) (.load (some 4) (.tmp 5)),
   .k (some 14) (some (12, false)) (.call 58 [(.tmp 13)]),
   .f (some 15) (some (12, false)) (.un .not (.tmp 14)),
   .f (some 16) none (.pick (.tmp 12) (.const (.bool true)) (.tmp 15)),
   .f (some 17) none (.mv (.tmp 16)),
   .f (some 18) (some (17, false)) (.load (some 11) (.tmp 4)),
   .k (some 19) (some (17, false)) (.call 59 [(.tmp 18)]),
   .f (some 20) (some (17, false)) (.un .not (.tmp 19)),
   .f (some 21) none (.pick (.tmp 17) (.const (.bool true)) (.tmp 20)),
   .k (some 8) none (.asg (.tmp 21))])
 (.cond (.tmp 8)
  (.seq (.ops [.f (some 22) none (.build [(.int .i64 0), (.int .i64 0), (.int .i64 0), (.int .i64 0), (.int .i64 0), (.int .i64 0), (.int .i64 0), (.int .i64 0), (.bool false), (.int .i64 0), (.int .i64 0)] []),
    .k none none (.store 11 (.tmp 6) (.tmp 22)),
    .k (some 7) none (.asg (.const (.int .i64 1)))])
  .ret)
  (.seq (.ops [.f (some 24) none (.faddr 8 (.tmp 4)),
    .f (some 25) none (.load none (.tmp 24)),
    .f (some 26) none (.mv (.tmp 25)),
    .f (some 27) (some (26, true)) (.faddr 0 (.tmp 5)),
    .f (some 28) (some (26, true)) (.load none (.tmp 27)),
    .f (some 29) (some (26, true)) (.faddr 0 (.tmp 4)),
    .f (some 30) (some (26, true)) (.faddr 0 (.tmp 29)),
    .f (some 31) (some (26, true)) (.load none (.tmp 30)),
    .f (some 32) (some (26, true)) (.bin .leq (.tmp 28) (.tmp 31)),
    .f (some 33) none (.pick (.tmp 26) (.tmp 32) (.const (.bool false))),
    .k (some 23) none (.asg (.tmp 33))])
  (.cond (.tmp 23)
   (.seq (.ops [.f (some 34) none (.build [(.int .i64 0), (.int .i64 0), (.int .i64 0), (.int .i64 0), (.int .i64 0), (.int .i64 0), (.int .i64 0), (.int .i64 0), (.bool false), (.int .i64 0), (.int .i64 0)] []),
     .k none none (.store 11 (.tmp 6) (.tmp 34)),
     .k (some 7) none (.asg (.const (.int .i64 16)))])
   .ret)
   (.seq (.ops [.f (some 36) none (.faddr 8 (.tmp 4)),
     .f (some 37) none (.load none (.tmp 36)),
     .f (some 38) none (.un .not (.tmp 37)),
     .k (some 35) none (.asg (.tmp 38))])
   (.cond (.tmp 35)
    (.seq (.ops [.f (some 39) none (.load (some 4) (.tmp 5)),
      .f (some 40) none (.load (some 4) (.tmp 5)),
      .f (some 41) none (.build [(.int .i64 0), (.int .i64 0), (.int .i64 0), (.int .i64 0), (.int .i64 0), (.int .i64 0), (.int .i64 0), (.int .i64 0), (.bool false), (.int .i64 0), (.int .i64 0)] [(0, 4, (.tmp 39)), (4, 4, (.tmp 40)), (8, 1, (.const (.bool true))), (9, 1, (.const (.int .i64 1))), (10, 1, (.const (.int .i64 1)))]),
      .k none none (.store 11 (.tmp 6) (.tmp 41)),
      .k (some 7) none (.asg (.const (.int .i64 0)))])
    .ret)
    .skip)))))))
(.seq (.seq (.opd [⟨0, .f (some 42) none (.faddr 0 (.tmp 4)), []⟩,
  ⟨1, .f (some 43) none (.load (some 4) (.tmp 42)), []⟩,
  ⟨3, .f (some 45) none (.load (some 4) (.tmp 5)), []⟩,
  ⟨2, .k (some 44) none (.call 60 [(.tmp 43)]), [.f (some 45) none (.load (some 4) (.tmp 5))]⟩,
  ⟨4, .k (some 46) none (.call 60 [(.tmp 45)]), []⟩,
  ⟨5, .f (some 47) none (.eql false (.st [(0, none, .num), (1, none, .num)]) (.tmp 44) (.tmp 46)), []⟩])
(.cond (.tmp 47)
 (.ops [.f (some 48) none (.faddr 9 (.tmp 4)),
   .f (some 49) none (.load none (.tmp 48)),
   .f (some 50) none (.bin .add (.tmp 49) (.const (.int .i64 1))),
   .f (some 51) none (.faddr 9 (.tmp 4)),
   .k none none (.store 1 (.tmp 51) (.tmp 50))])
 (.ops [.f (some 52) none (.faddr 9 (.tmp 4)),
   .k none none (.store 1 (.tmp 52) (.const (.int .i64 1)))])))
(.seq (.ops [.f (some 53) none (.load (some 4) (.tmp 5)),
  .f (some 54) none (.faddr 0 (.tmp 4)),
  .k none none (.store 4 (.tmp 54) (.tmp 53))])
(.seq (.block 1
 (.seq (.ops [.f (some 59) none (.load (some 4) (.tmp 3)),
   .f (some 60) none (.faddr 4 (.tmp 4)),
   .f (some 61) none (.load (some 4) (.tmp 60)),
   .f (some 62) none (.load (some 4) (.tmp 5)),
   .k (some 63) none (.call 61 [(.tmp 59), (.tmp 61), (.tmp 62)]),
   .k (some 58) none (.asg (.tmp 63))])
 (.cond (.tmp 58)
  (.ops [.f (some 64) none (.faddr 10 (.tmp 4)),
    .k none none (.store 1 (.tmp 64) (.const (.int .i64 4)))])
  (.seq (.ops [.f (some 66) none (.faddr 3 (.tmp 3)),
    .f (some 67) none (.load none (.tmp 66)),
    .f (some 68) none (.bin .neq (.tmp 67) (.const (.int .i64 0))),
    .f (some 69) none (.mv (.tmp 68)),
    .f (some 70) (some (69, true)) (.faddr 9 (.tmp 4)),
    .f (some 71) (some (69, true)) (.load none (.tmp 70)),
    .f (some 72) (some (69, true)) (.faddr 3 (.tmp 3)),
    .f (some 73) (some (69, true)) (.load none (.tmp 72)),
    .f (some 74) (some (69, true)) (.bin .geq (.tmp 71) (.tmp 73)),
    .f (some 75) none (.pick (.tmp 69) (.tmp 74) (.const (.bool false))),
    .k (some 65) none (.asg (.tmp 75))])
  (.cond (.tmp 65)
   (.ops [.f (some 76) none (.faddr 10 (.tmp 4)),
     .k none none (.store 1 (.tmp 76) (.const (.int .i64 3)))])
   (.opd [⟨0, .f (some 55) none (.load (some 4) (.tmp 5)), []⟩,
     ⟨1, .f (some 56) none (.faddr 10 (.tmp 4)), []⟩,
     ⟨2, .k none none (.store 1 (.tmp 56) (.const (.int .i64 1))), [.f (some 55) none (.load (some 4) (.tmp 5))]⟩,
     ⟨3, .f (some 57) none (.faddr 4 (.tmp 4)), []⟩,
     ⟨4, .k none none (.store 4 (.tmp 57) (.tmp 55)), []⟩]))))))
(.seq (.ops [.f (some 77) none (.load (some 11) (.tmp 4)),
  .k none none (.store 11 (.tmp 6) (.tmp 77)),
  .k (some 7) none (.asg (.const (.int .i64 0)))])
.ret))))))
theorem fn33 : FnOK Tryz.prog 33 78 c33 [.cell 6 (some 11), .tmp 7] := .of (by kernel_rfl)
/-! 'dynpos/monitor.Tick' -/
def c34 : Cd :=
(.seq (.ops [.k (some 3) none (.box 30 4 (.tmp 0)),
  .k (some 4) none (.box 84 11 (.tmp 1)),
  .k (some 6) none (.alloc 84 [(.int .i64 0), (.int .i64 0), (.int .i64 0), (.int .i64 0), (.int .i64 0), (.int .i64 0), (.int .i64 0), (.int .i64 0), (.bool false), (.int .i64 0), (.int .i64 0)]),
  .k (some 7) none (.asg (.const (.int .i64 0)))])
(.seq (.block 0
 (.seq (.ops [.f (some 9) none (.load (some 4) (.tmp 3)),
   .k (some 10) none (.call 27 [(.tmp 9)]),
   .f (some 11) none (.un .not (.tmp 10)),
   .f (some 12) none (.mv (.tmp 11)),
   .f (some 13) (some (12, false)) (.mv (.tmp 2)),
   .k (some 14) (some (12, false)) (.call 56 [(.tmp 13), (.const (.int .i64 0)), (.const (.int .i64 2147483648))]),
   .f (some 15) (some (12, false)) (.un .not (.tmp 14)),
   .f (some 16) none (.pick (.tmp 12) (.const (.bool true)) (.tmp 15)),
   .f (some 17) none (.mv (.tmp 16)),
   .f (some 18) (some (17, false)) (.load (some 11) (.tmp 4)),
   .k (some 19) (some (17, false)) (.call 59 [(.tmp 18)]),
   .f (some 20) (some (17, false)) (.un .not (.tmp 19)),
   .f (some 21) none (.pick (.tmp 17) (.const (.bool true)) (.tmp 20)),
   .k (some 8) none (.asg (.tmp 21))])
 (.cond (.tmp 8)
  (.seq (.ops [.f (some 22) none (.build [(.int .i64 0), (.int .i64 0), (.int .i64 0), (.int .i64 0), (.int .i64 0), (.int .i64 0), (.int .i64 0), (.int .i64 0), (.bool false), (.int .i64 0), (.int .i64 0)] []),
    .k none none (.store 11 (.tmp 6) (.tmp 22)),
    .k (some 7) none (.asg (.const (.int .i64 1)))])
  .ret)
  (.seq (.ops [.f (some 24) none (.faddr 8 (.tmp 4)),
    .f (some 25) none (.load none (.tmp 24)),
    .f (some 26) none (.mv (.tmp 25)),
    .f (some 27) (some (26, true)) (.mv (.tmp 2)),
    .f (some 28) (some (26, true)) (.faddr 0 (.tmp 4)),
    .f (some 29) (some (26, true)) (.faddr 0 (.tmp 28)),
    .f (some 30) (some (26, true)) (.load none (.tmp 29)),
    .f (some 31) (some (26, true)) (.bin .lss (.tmp 27) (.tmp 30)),
    .f (some 32) none (.pick (.tmp 26) (.tmp 31) (.const (.bool false))),
    .k (some 23) none (.asg (.tmp 32))])
  (.cond (.tmp 23)
   (.seq (.ops [.f (some 33) none (.build [(.int .i64 0), (.int .i64 0), (.int .i64 0), (.int .i64 0), (.int .i64 0), (.int .i64 0), (.int .i64 0), (.int .i64 0), (.bool false), (.int .i64 0), (.int .i64 0)] []),
     .k none none (.store 11 (.tmp 6) (.tmp 33)),
     .k (some 7) none (.asg (.const (.int .i64 16)))])
   .ret)
   (.seq (.ops [.f (some 35) none (.faddr 8 (.tmp 4)),
     .f (some 36) none (.load none (.tmp 35)),
     .f (some 37) none (.mv (.tmp 36)),
     .f (some 38) (some (37, true)) (.mv (.tmp 2)),
     .f (some 39) (some (37, true)) (.faddr 0 (.tmp 4)),
     .f (some 40) (some (37, true)) (.faddr 0 (.tmp 39)),
     .f (some 41) (some (37, true)) (.load none (.tmp 40)),
     .f (some 42) (some (37, true)) (.bin .sub (.tmp 38) (.tmp 41)),
     .f (some 43) (some (37, true)) (.faddr 2 (.tmp 3)),
     .f (some 44) (some (37, true)) (.load none (.tmp 43)),
     .f (some 45) (some (37, true)) (.bin .geq (.tmp 42) (.tmp 44)),
     .f (some 46) none (.pick (.tmp 37) (.tmp 45) (.const (.bool false))),
     .k (some 34) none (.asg (.tmp 46))])
   (.cond (.tmp 34)
    (.ops [.f (some 47) none (.faddr 10 (.tmp 4)),
      .k none none (.store 1 (.tmp 47) (.const (.int .i64 2)))])
    .skip)))))))
(.seq (.ops [.f (some 48) none (.load (some 11) (.tmp 4)),
  .k none none (.store 11 (.tmp 6) (.tmp 48)),
  .k (some 7) none (.asg (.const (.int .i64 0)))])
.ret)))
theorem fn34 : FnOK Tryz.prog 34 49 c34 [.cell 6 (some 11), .tmp 7] := .of (by kernel_rfl)
/-! 'dynpos/estimate.now' -/
def c35 : Cd :=
(.seq (.ops [.k (some 3) none (.box 84 11 (.tmp 0)),
  .k (some 6) none (.alloc 58 [(.int .i64 0), (.int .i64 0), (.int .i64 0), (.int .i64 0)]),
  .k (some 7) none (.asg (.const (.bool false)))])
(.seq (.seq (.ops [.f (some 11) none (.load (some 11) (.tmp 3)),
  .k (some 12) none (.call 62 [(.tmp 11)]),
  .f (some 13) none (.un .not (.tmp 12)),
  .f (some 14) none (.mv (.tmp 13)),
  .f (some 15) (some (14, false)) (.faddr 0 (.tmp 3)),
  .f (some 16) (some (14, false)) (.load (some 4) (.tmp 15)),
  .k (some 17) (some (14, false)) (.call 58 [(.tmp 16)]),
  .f (some 18) (some (14, false)) (.un .not (.tmp 17)),
  .f (some 19) none (.pick (.tmp 14) (.const (.bool true)) (.tmp 18)),
  .f (some 20) none (.mv (.tmp 19)),
  .f (some 21) (some (20, false)) (.faddr 0 (.tmp 3)),
  .f (some 22) (some (20, false)) (.faddr 0 (.tmp 21)),
  .f (some 23) (some (20, false)) (.load none (.tmp 22)),
  .f (some 24) (some (20, false)) (.mv (.tmp 1)),
  .f (some 25) (some (20, false)) (.bin .gtr (.tmp 23) (.tmp 24)),
  .f (some 26) none (.pick (.tmp 20) (.const (.bool true)) (.tmp 25))])
(.cond (.tmp 26)
 (.seq (.ops [.f (some 27) none (.build [(.int .i64 0), (.int .i64 0), (.int .i64 0), (.int .i64 0)] []),
   .k none none (.store 4 (.tmp 6) (.tmp 27)),
   .k (some 7) none (.asg (.const (.bool false)))])
 .ret)
 .skip))
(.seq (.ops [.f (some 28) none (.faddr 0 (.tmp 3)),
  .f (some 29) none (.load (some 4) (.tmp 28)),
  .k (some 8) none (.alloc 58 [(.int .i64 0), (.int .i64 0), (.int .i64 0), (.int .i64 0)]),
  .k none none (.store 4 (.tmp 8) (.tmp 29))])
(.seq (.ops [.f (some 31) none (.faddr 3 (.tmp 8)),
  .f (some 32) none (.load none (.tmp 31)),
  .f (some 33) none (.mv (.tmp 2)),
  .f (some 34) none (.mv (.tmp 1)),
  .f (some 35) none (.faddr 0 (.tmp 8)),
  .f (some 36) none (.load none (.tmp 35)),
  .f (some 37) none (.bin .sub (.tmp 34) (.tmp 36)),
  .k (some 38) none (.call 19 [(.tmp 32), (.tmp 33), (.tmp 37)]),
  .f (some 30) none (.mv (.tmp 38)),
  .f (some 39) none (.extract 0 (.tmp 30)),
  .f (some 40) none (.extract 1 (.tmp 30)),
  .k (some 9) none (.asg (.tmp 39)),
  .k (some 10) none (.asg (.tmp 40))])
(.seq (.ops [.f (some 41) none (.mv (.tmp 9)),
  .f (some 42) none (.faddr 3 (.tmp 8)),
  .k none none (.store 1 (.tmp 42) (.tmp 41))])
(.seq (.ops [.f (some 43) none (.load (some 4) (.tmp 8)),
  .f (some 44) none (.mv (.tmp 10)),
  .f (some 45) none (.bin .eql (.tmp 44) (.const (.int .i64 0))),
  .f (some 46) none (.mv (.tmp 45)),
  .f (some 47) (some (46, true)) (.mv (.tmp 9)),
  .f (some 48) (some (46, true)) (.bin .leq (.tmp 47) (.const (.int .i64 100000))),
  .f (some 49) none (.pick (.tmp 46) (.tmp 48) (.const (.bool false))),
  .k none none (.store 4 (.tmp 6) (.tmp 43)),
  .k (some 7) none (.asg (.tmp 49))])
.ret))))))
theorem fn35 : FnOK Tryz.prog 35 50 c35 [.cell 6 (some 4), .tmp 7] := .of (by kernel_rfl)
/-! 'dynpos/vote.Decide' -/
def c36_0 : Cd :=
(.block 2
 (.seq (.ops [.f (some 28) none (.mv (.tmp 26)),
   .f (some 29) none (.iaddr 1 none (.tmp 24) (.tmp 26)),
   .f (some 30) none (.load none (.tmp 29)),
   .k (some 6) none (.asg (.tmp 28)),
   .k (some 7) none (.asg (.tmp 30))])
 (.seq (.opd [⟨0, .f (some 31) none (.mv (.tmp 7)), []⟩,
   ⟨1, .f (some 32) none (.bin .lss (.tmp 31) (.const (.int .i64 0))), []⟩,
   ⟨2, .f (some 33) none (.mv (.tmp 32)), []⟩,
   ⟨3, .f (some 34) (some (33, false)) (.mv (.tmp 7)), []⟩,
   ⟨4, .f (some 35) (some (33, false)) (.bin .geq (.tmp 34) (.const (.int .i64 8))), []⟩,
   ⟨5, .f (some 36) none (.pick (.tmp 33) (.const (.bool true)) (.tmp 35)), []⟩,
   ⟨6, .f (some 37) none (.mv (.tmp 36)), []⟩,
   ⟨7, .f (some 38) (some (37, false)) (.mv (.tmp 1)), []⟩,
   ⟨8, .f (some 39) (some (37, false)) (.mv (.tmp 6)), []⟩,
   ⟨9, .f (some 40) (some (37, false)) (.iaddr 4 none (.tmp 38) (.tmp 39)), []⟩,
   ⟨10, .f (some 41) (some (37, false)) (.load (some 4) (.tmp 40)), []⟩,
   ⟨11, .f (some 42) (some (37, false)) (.mv (.tmp 1)), []⟩,
   ⟨12, .f (some 43) (some (37, false)) (.mv (.tmp 6)), []⟩,
   ⟨13, .f (some 44) (some (37, false)) (.iaddr 4 none (.tmp 42) (.tmp 43)), []⟩,
   ⟨14, .f (some 45) (some (37, false)) (.load (some 4) (.tmp 44)), []⟩,
   ⟨15, .k (some 46) (some (37, false)) (.call 63 [(.tmp 41), (.tmp 45)]), []⟩,
   ⟨16, .f (some 47) (some (37, false)) (.un .not (.tmp 46)), []⟩,
   ⟨17, .f (some 48) none (.pick (.tmp 37) (.const (.bool true)) (.tmp 47)), []⟩])
 (.cond (.tmp 48)
  (.seq (.ops [.f (some 49) none (.build [(.slice none 0 0), (.slice none 0 0), (.bool false)] []),
    .k none none (.store 3 (.tmp 4) (.tmp 49)),
    .k (some 5) none (.asg (.const (.int .i64 1)))])
  .ret)
  .skip))))
def c36_1 : Cd :=
(.block 4
 (.seq (.ops [.f (some 63) none (.iaddr 2 none (.tmp 59) (.tmp 61)),
   .f (some 64) none (.load (some 2) (.tmp 63)),
   .k (some 11) none (.alloc 130 [(.slice none 0 0), (.slice none 0 0)]),
   .k none none (.store 2 (.tmp 11) (.tmp 64))])
 (.seq (.ops [.f (some 65) none (.faddr 1 (.tmp 11)),
   .f (some 66) none (.load none (.tmp 65)),
   .f (some 67) none (.len (.tmp 66)),
   .f (some 68) none (.faddr 1 (.tmp 9)),
   .f (some 69) none (.load none (.tmp 68)),
   .f (some 70) none (.len (.tmp 69)),
   .f (some 71) none (.bin .eql (.tmp 67) (.tmp 70)),
   .f (some 72) none (.mv (.tmp 71)),
   .f (some 73) (some (72, true)) (.faddr 1 (.tmp 11)),
   .f (some 74) (some (72, true)) (.load none (.tmp 73)),
   .f (some 75) (some (72, true)) (.faddr 1 (.tmp 9)),
   .f (some 76) (some (72, true)) (.load none (.tmp 75)),
   .k (some 77) (some (72, true)) (.call 67 [(.tmp 74), (.tmp 76)]),
   .f (some 78) (some (72, true)) (.un .not (.tmp 77)),
   .f (some 79) none (.pick (.tmp 72) (.tmp 78) (.const (.bool false)))])
 (.cond (.tmp 79)
  (.seq (.ops [.f (some 80) none (.build [(.slice none 0 0), (.slice none 0 0), (.bool false)] [(2, 1, (.const (.bool true)))]),
    .k none none (.store 3 (.tmp 4) (.tmp 80)),
    .k (some 5) none (.asg (.const (.int .i64 0)))])
  .ret)
  .skip))))
def c36 : Cd :=
(.seq (.ops [.k (some 4) none (.alloc 43 [(.slice none 0 0), (.slice none 0 0), (.bool false)]),
  .k (some 5) none (.asg (.const (.int .i64 0)))])
(.seq (.block 0
 (.seq (.ops [.f (some 13) none (.mv (.tmp 0)),
   .f (some 14) none (.len (.tmp 13)),
   .f (some 15) none (.mv (.tmp 1)),
   .f (some 16) none (.len (.tmp 15)),
   .f (some 17) none (.bin .neq (.tmp 14) (.tmp 16)),
   .k (some 12) none (.asg (.tmp 17))])
 (.cond (.tmp 12)
  (.seq (.ops [.f (some 18) none (.build [(.slice none 0 0), (.slice none 0 0), (.bool false)] []),
    .k none none (.store 3 (.tmp 4) (.tmp 18)),
    .k (some 5) none (.asg (.const (.int .i64 8)))])
  .ret)
  (.seq (.ops [.f (some 20) none (.mv (.tmp 1)),
    .f (some 21) none (.len (.tmp 20)),
    .f (some 22) none (.bin .gtr (.tmp 21) (.const (.int .i64 8))),
    .k (some 19) none (.asg (.tmp 22))])
  (.cond (.tmp 19)
   (.seq (.ops [.f (some 23) none (.build [(.slice none 0 0), (.slice none 0 0), (.bool false)] []),
     .k none none (.store 3 (.tmp 4) (.tmp 23)),
     .k (some 5) none (.asg (.const (.int .i64 2)))])
   .ret)
   .skip)))))
(.seq (.seq (.ops [.f (some 24) none (.mv (.tmp 0)),
  .f (some 25) none (.len (.tmp 24)),
  .f (some 26) none (.mv (.const (.int .i64 0)))])
(rangeC 1 26 25 27 50 c36_0))
(.seq (.ops [.f (some 51) none (.mv (.tmp 0)),
  .f (some 52) none (.mv (.tmp 1)),
  .k (some 53) none (.call 64 [(.tmp 51), (.tmp 52)]),
  .k (some 8) none (.asg (.tmp 53))])
(.seq (.ops [.f (some 54) none (.mv (.tmp 8)),
  .k (some 55) none (.call 65 [(.tmp 54), (.func 66)])])
(.seq (.ops [.f (some 56) none (.mv (.tmp 8)),
  .f (some 57) none (.iaddr 2 none (.tmp 56) (.const (.int .i64 0))),
  .f (some 58) none (.load (some 2) (.tmp 57)),
  .k (some 9) none (.alloc 130 [(.slice none 0 0), (.slice none 0 0)]),
  .k none none (.store 2 (.tmp 9) (.tmp 58))])
(.seq (.seq (.ops [.f (some 59) none (.mv (.tmp 8)),
  .f (some 60) none (.len (.tmp 59)),
  .f (some 61) none (.mv (.const (.int .i64 0)))])
(rangeC 3 61 60 62 81 c36_1))
(.seq (.ops [.f (some 82) none (.faddr 0 (.tmp 9)),
  .f (some 83) none (.load none (.tmp 82)),
  .f (some 84) none (.faddr 1 (.tmp 9)),
  .f (some 85) none (.load none (.tmp 84)),
  .f (some 86) none (.build [(.slice none 0 0), (.slice none 0 0), (.bool false)] [(0, 1, (.tmp 83)), (1, 1, (.tmp 85))]),
  .k none none (.store 3 (.tmp 4) (.tmp 86)),
  .k (some 5) none (.asg (.const (.int .i64 0)))])
.ret))))))))
theorem fn36 : FnOK Tryz.prog 36 87 c36 [.cell 4 (some 3), .tmp 5] := .of (by kernel_rfl)
/-! 'slices.Index[[]int,int]' -/
def c37_0 : Cd :=
(.block 1
 (.seq (.ops [.f (some 10) none (.mv (.tmp 8)),
   .k (some 5) none (.asg (.tmp 10))])
 (.seq (.ops [.f (some 11) none (.mv (.tmp 1)),
   .f (some 12) none (.mv (.tmp 0)),
   .f (some 13) none (.mv (.tmp 5)),
   .f (some 14) none (.iaddr 1 none (.tmp 12) (.tmp 13)),
   .f (some 15) none (.load none (.tmp 14)),
   .f (some 16) none (.bin .eql (.tmp 11) (.tmp 15))])
 (.cond (.tmp 16)
  (.seq (.ops [.f (some 17) none (.mv (.tmp 5)),
    .k (some 4) none (.asg (.tmp 17))])
  .ret)
  .skip))))
def c37 : Cd :=
(.seq (.ops [.k (some 4) none (.asg (.const (.int .i64 0)))])
(.seq (.seq (.ops [.f (some 6) none (.mv (.tmp 0)),
  .f (some 7) none (.len (.tmp 6)),
  .f (some 8) none (.mv (.const (.int .i64 0)))])
(rangeC 0 8 7 9 18 c37_0))
(.seq (.ops [.k (some 4) none (.asg (.const (.int .i64 (-1))))])
.ret)))
theorem fn37 : FnOK Tryz.prog 37 19 c37 [.tmp 4] := .of (by kernel_rfl)
/-! 'dynpos/fuse.check' -/
def c38_0 : Cd :=
(.block 2
 (.seq (.ops [.f (some 17) none (.iaddr 4 none (.tmp 13) (.tmp 15)),
   .f (some 18) none (.load (some 4) (.tmp 17)),
   .k (some 4) none (.alloc 58 [(.int .i64 0), (.int .i64 0), (.int .i64 0), (.int .i64 0)]),
   .k none none (.store 4 (.tmp 4) (.tmp 18))])
 (.seq (.ops [.f (some 19) none (.load (some 4) (.tmp 4)),
   .k (some 20) none (.call 42 [(.tmp 19)]),
   .k (some 21) none (.call 29 [(.tmp 20)]),
   .f (some 22) none (.un .not (.tmp 21)),
   .f (some 23) none (.mv (.tmp 22)),
   .f (some 24) (some (23, false)) (.faddr 3 (.tmp 4)),
   .f (some 25) (some (23, false)) (.load none (.tmp 24)),
   .k (some 26) (some (23, false)) (.call 39 [(.tmp 25)]),
   .f (some 27) (some (23, false)) (.bin .eql (.tmp 26) (.const (.int .i64 0))),
   .f (some 28) none (.pick (.tmp 23) (.const (.bool true)) (.tmp 27))])
 (.cond (.tmp 28)
  (.seq (.ops [.k (some 2) none (.asg (.const (.int .i64 1)))])
  .ret)
  .skip))))
def c38 : Cd :=
(.seq (.ops [.k (some 2) none (.asg (.const (.int .i64 0)))])
(.seq (.block 0
 (.seq (.ops [.f (some 6) none (.mv (.tmp 0)),
   .f (some 7) none (.len (.tmp 6)),
   .f (some 8) none (.bin .eql (.tmp 7) (.const (.int .i64 0))),
   .k (some 5) none (.asg (.tmp 8))])
 (.cond (.tmp 5)
  (.seq (.ops [.k (some 2) none (.asg (.const (.int .i64 9)))])
  .ret)
  (.seq (.ops [.f (some 10) none (.mv (.tmp 0)),
    .f (some 11) none (.len (.tmp 10)),
    .f (some 12) none (.bin .gtr (.tmp 11) (.const (.int .i64 8))),
    .k (some 9) none (.asg (.tmp 12))])
  (.cond (.tmp 9)
   (.seq (.ops [.k (some 2) none (.asg (.const (.int .i64 2)))])
   .ret)
   .skip)))))
(.seq (.seq (.ops [.f (some 13) none (.mv (.tmp 0)),
  .f (some 14) none (.len (.tmp 13)),
  .f (some 15) none (.mv (.const (.int .i64 0)))])
(rangeC 1 15 14 16 29 c38_0))
(.seq (.ops [.k (some 2) none (.asg (.const (.int .i64 0)))])
.ret))))
theorem fn38 : FnOK Tryz.prog 38 30 c38 [.tmp 2] := .of (by kernel_rfl)
/-! 'dynpos/fuse.Weight' -/
def c39 : Cd :=
(.seq (.ops [.k (some 2) none (.asg (.const (.int .i64 0)))])
(.seq (.seq (.ops [.f (some 3) none (.mv (.tmp 0)),
  .f (some 4) none (.bin .lss (.tmp 3) (.const (.int .i64 1))),
  .f (some 5) none (.mv (.tmp 4)),
  .f (some 6) (some (5, false)) (.mv (.tmp 0)),
  .f (some 7) (some (5, false)) (.bin .gtr (.tmp 6) (.const (.int .i64 100000))),
  .f (some 8) none (.pick (.tmp 5) (.const (.bool true)) (.tmp 7))])
(.cond (.tmp 8)
 (.seq (.ops [.k (some 2) none (.asg (.const (.int .i64 0)))])
 .ret)
 .skip))
(.seq (.ops [.f (some 9) none (.mv (.tmp 0)),
  .f (some 10) none (.mv (.tmp 0)),
  .f (some 11) none (.bin .mul (.tmp 9) (.tmp 10)),
  .f (some 12) none (.bin .quo (.const (.int .i64 1000000000)) (.tmp 11)),
  .f (some 13) none (.mm true [(.const (.int .i64 1)), (.tmp 12)]),
  .k (some 2) none (.asg (.tmp 13))])
.ret)))
theorem fn39 : FnOK Tryz.prog 39 14 c39 [.tmp 2] := .of (by kernel_rfl)
/-! 'dynpos/arith.Up' -/
def c40 : Cd :=
(.seq (.ops [.k (some 4) none (.asg (.const (.int .i64 0))),
  .k (some 5) none (.asg (.const (.int .i64 0)))])
(.seq (.ops [.f (some 6) none (.mv (.tmp 0)),
  .f (some 7) none (.mv (.tmp 1)),
  .k (some 8) none (.call 68 [(.tmp 6), (.tmp 7), (.func 69)]),
  .f (some 9) none (.extract 0 (.tmp 8)),
  .f (some 10) none (.extract 1 (.tmp 8)),
  .k (some 4) none (.asg (.tmp 9)),
  .k (some 5) none (.asg (.tmp 10))])
.ret))
theorem fn40 : FnOK Tryz.prog 40 11 c40 [.tmp 4, .tmp 5] := .of (by kernel_rfl)
/-! 'dynpos/arith.Half' -/
def c41 : Cd :=
(.seq (.ops [.k (some 4) none (.asg (.const (.int .i64 0))),
  .k (some 5) none (.asg (.const (.int .i64 0)))])
(.seq (.ops [.f (some 6) none (.mv (.tmp 0)),
  .f (some 7) none (.mv (.tmp 1)),
  .k (some 8) none (.call 68 [(.tmp 6), (.tmp 7), (.func 71)]),
  .f (some 9) none (.extract 0 (.tmp 8)),
  .f (some 10) none (.extract 1 (.tmp 8)),
  .k (some 4) none (.asg (.tmp 9)),
  .k (some 5) none (.asg (.tmp 10))])
.ret))
theorem fn41 : FnOK Tryz.prog 41 11 c41 [.tmp 4, .tmp 5] := .of (by kernel_rfl)
/-! 'dynpos/fuse.place' -/
def c42 : Cd :=
(.seq (.ops [.k (some 1) none (.box 58 4 (.tmp 0)),
  .k (some 2) none (.alloc 33 [(.int .i64 0), (.int .i64 0)])])
(.seq (.ops [.f (some 3) none (.faddr 1 (.tmp 1)),
  .f (some 4) none (.load none (.tmp 3)),
  .f (some 5) none (.faddr 2 (.tmp 1)),
  .f (some 6) none (.load none (.tmp 5)),
  .f (some 7) none (.build [(.int .i64 0), (.int .i64 0)] [(0, 1, (.tmp 4)), (1, 1, (.tmp 6))]),
  .k none none (.store 2 (.tmp 2) (.tmp 7))])
.ret))
theorem fn42 : FnOK Tryz.prog 42 8 c42 [.cell 2 (some 2)] := .of (by kernel_rfl)
/-! 'dynpos/frame.way' -/
def c43 : Cd :=
(.seq (.ops [.k (some 2) none (.box 33 2 (.tmp 0)),
  .k (some 3) none (.box 33 2 (.tmp 1)),
  .k (some 4) none (.asg (.const (.int .i64 0))),
  .k (some 5) none (.asg (.const (.int .i64 0))),
  .k (some 6) none (.asg (.const (.int .i64 0)))])
(.seq (.seq (.ops [.f (some 8) none (.load (some 2) (.tmp 2)),
  .f (some 9) none (.load (some 2) (.tmp 3)),
  .k (some 10) none (.bslice 33 2 2 [(.int .i64 0), (.int .i64 0)] [(0, 2, (.tmp 8)), (2, 2, (.tmp 9))]),
  .k (some 11) none (.call 72 [(.tmp 10)]),
  .k (some 7) none (.asg (.tmp 11))])
(.seq (.ops [.f (some 12) none (.mv (.tmp 7)),
  .f (some 13) none (.bin .neq (.tmp 12) (.const (.int .i64 0)))])
(.cond (.tmp 13)
 (.seq (.ops [.f (some 14) none (.mv (.tmp 7)),
   .k (some 4) none (.asg (.const (.int .i64 0))),
   .k (some 5) none (.asg (.const (.int .i64 0))),
   .k (some 6) none (.asg (.tmp 14))])
 .ret)
 .skip)))
(.seq (.opd [⟨0, .f (some 15) none (.faddr 0 (.tmp 2)), []⟩,
  ⟨1, .f (some 16) none (.load none (.tmp 15)), []⟩,
  ⟨2, .f (some 17) none (.faddr 0 (.tmp 3)), []⟩,
  ⟨3, .f (some 18) none (.load none (.tmp 17)), []⟩,
  ⟨4, .f (some 19) none (.bin .sub (.tmp 16) (.tmp 18)), []⟩,
  ⟨5, .f (some 20) none (.faddr 0 (.tmp 3)), []⟩,
  ⟨6, .f (some 21) none (.load none (.tmp 20)), []⟩,
  ⟨7, .f (some 22) none (.faddr 0 (.tmp 2)), []⟩,
  ⟨8, .f (some 23) none (.load none (.tmp 22)), []⟩,
  ⟨9, .f (some 24) none (.bin .sub (.tmp 21) (.tmp 23)), []⟩,
  ⟨10, .f (some 25) none (.mm true [(.tmp 19), (.tmp 24)]), []⟩,
  ⟨11, .f (some 26) none (.faddr 1 (.tmp 2)), []⟩,
  ⟨12, .f (some 27) none (.load none (.tmp 26)), []⟩,
  ⟨13, .f (some 28) none (.faddr 1 (.tmp 3)), []⟩,
  ⟨14, .f (some 29) none (.load none (.tmp 28)), []⟩,
  ⟨15, .f (some 30) none (.bin .sub (.tmp 27) (.tmp 29)), []⟩,
  ⟨16, .f (some 31) none (.faddr 1 (.tmp 3)), []⟩,
  ⟨17, .f (some 32) none (.load none (.tmp 31)), []⟩,
  ⟨18, .f (some 33) none (.faddr 1 (.tmp 2)), []⟩,
  ⟨19, .f (some 34) none (.load none (.tmp 33)), []⟩,
  ⟨20, .f (some 35) none (.bin .sub (.tmp 32) (.tmp 34)), []⟩,
  ⟨21, .f (some 36) none (.mm true [(.tmp 30), (.tmp 35)]), []⟩,
  ⟨22, .k (some 4) none (.asg (.tmp 25)), [.f (some 27) none (.load none (.tmp 26)), .f (some 29) none (.load none (.tmp 28)), .f (some 32) none (.load none (.tmp 31)), .f (some 34) none (.load none (.tmp 33))]⟩,
  ⟨23, .k (some 5) none (.asg (.tmp 36)), []⟩,
  ⟨24, .k (some 6) none (.asg (.const (.int .i64 0))), []⟩])
.ret)))
theorem fn43 : FnOK Tryz.prog 43 37 c43 [.tmp 4, .tmp 5, .tmp 6] := .of (by kernel_rfl)
/-! 'slices.IndexFunc[[]dynpos/api.Reference,dynpos/api.Reference]' -/
def c55_0 : Cd :=
(.block 1
 (.seq (.ops [.f (some 10) none (.mv (.tmp 8)),
   .k (some 5) none (.asg (.tmp 10))])
 (.seq (.ops [.f (some 11) none (.mv (.tmp 1)),
   .f (some 12) none (.mv (.tmp 0)),
   .f (some 13) none (.mv (.tmp 5)),
   .f (some 14) none (.iaddr 4 none (.tmp 12) (.tmp 13)),
   .f (some 15) none (.load (some 4) (.tmp 14)),
   .k (some 16) none (.callv (.tmp 11) [(.tmp 15)])])
 (.cond (.tmp 16)
  (.seq (.ops [.f (some 17) none (.mv (.tmp 5)),
    .k (some 4) none (.asg (.tmp 17))])
  .ret)
  .skip))))
def c55 : Cd :=
(.seq (.ops [.k (some 4) none (.asg (.const (.int .i64 0)))])
(.seq (.seq (.ops [.f (some 6) none (.mv (.tmp 0)),
  .f (some 7) none (.len (.tmp 6)),
  .f (some 8) none (.mv (.const (.int .i64 0)))])
(rangeC 0 8 7 9 18 c55_0))
(.seq (.ops [.k (some 4) none (.asg (.const (.int .i64 (-1))))])
.ret)))
theorem fn55 : FnOK Tryz.prog 55 19 c55 [.tmp 4] := .of (by kernel_rfl)
/-! 'dynpos/monitor.in' -/
def c56 : Cd :=
(.seq (.ops [.k (some 6) none (.asg (.const (.bool false)))])
(.seq (.ops [.f (some 7) none (.mv (.tmp 0)),
  .f (some 8) none (.mv (.tmp 1)),
  .f (some 9) none (.bin .geq (.tmp 7) (.tmp 8)),
  .f (some 10) none (.mv (.tmp 9)),
  .f (some 11) (some (10, true)) (.mv (.tmp 0)),
  .f (some 12) (some (10, true)) (.mv (.tmp 2)),
  .f (some 13) (some (10, true)) (.bin .leq (.tmp 11) (.tmp 12)),
  .f (some 14) none (.pick (.tmp 10) (.tmp 13) (.const (.bool false))),
  .k (some 6) none (.asg (.tmp 14))])
.ret))
theorem fn56 : FnOK Tryz.prog 56 15 c56 [.tmp 6] := .of (by kernel_rfl)
/-! 'slices.IndexFunc[[]dynpos/api.Track,dynpos/api.Track]' -/
def c57_0 : Cd :=
(.block 1
 (.seq (.ops [.f (some 10) none (.mv (.tmp 8)),
   .k (some 5) none (.asg (.tmp 10))])
 (.seq (.ops [.f (some 11) none (.mv (.tmp 1)),
   .f (some 12) none (.mv (.tmp 0)),
   .f (some 13) none (.mv (.tmp 5)),
   .f (some 14) none (.iaddr 11 none (.tmp 12) (.tmp 13)),
   .f (some 15) none (.load (some 11) (.tmp 14)),
   .k (some 16) none (.callv (.tmp 11) [(.tmp 15)])])
 (.cond (.tmp 16)
  (.seq (.ops [.f (some 17) none (.mv (.tmp 5)),
    .k (some 4) none (.asg (.tmp 17))])
  .ret)
  .skip))))
def c57 : Cd :=
(.seq (.ops [.k (some 4) none (.asg (.const (.int .i64 0)))])
(.seq (.seq (.ops [.f (some 6) none (.mv (.tmp 0)),
  .f (some 7) none (.len (.tmp 6)),
  .f (some 8) none (.mv (.const (.int .i64 0)))])
(rangeC 0 8 7 9 18 c57_0))
(.seq (.ops [.k (some 4) none (.asg (.const (.int .i64 (-1))))])
.ret)))
theorem fn57 : FnOK Tryz.prog 57 19 c57 [.tmp 4] := .of (by kernel_rfl)
/-! 'dynpos/monitor.Fix' -/
def c58 : Cd :=
(.seq (.ops [.k (some 1) none (.box 58 4 (.tmp 0)),
  .k (some 2) none (.asg (.const (.bool false)))])
(.seq (.ops [.f (some 3) none (.faddr 0 (.tmp 1)),
  .f (some 4) none (.load none (.tmp 3)),
  .k (some 5) none (.call 56 [(.tmp 4), (.const (.int .i64 0)), (.const (.int .i64 2147483648))]),
  .f (some 6) none (.mv (.tmp 5)),
  .f (some 7) (some (6, true)) (.load (some 4) (.tmp 1)),
  .k (some 8) (some (6, true)) (.call 60 [(.tmp 7)]),
  .k (some 9) (some (6, true)) (.call 29 [(.tmp 8)]),
  .f (some 10) none (.pick (.tmp 6) (.tmp 9) (.const (.bool false))),
  .f (some 11) none (.mv (.tmp 10)),
  .f (some 12) (some (11, true)) (.faddr 3 (.tmp 1)),
  .f (some 13) (some (11, true)) (.load none (.tmp 12)),
  .k (some 14) (some (11, true)) (.call 56 [(.tmp 13), (.const (.int .i64 1)), (.const (.int .i64 100000))]),
  .f (some 15) none (.pick (.tmp 11) (.tmp 14) (.const (.bool false))),
  .k (some 2) none (.asg (.tmp 15))])
.ret))
theorem fn58 : FnOK Tryz.prog 58 16 c58 [.tmp 2] := .of (by kernel_rfl)
/-! 'dynpos/monitor.track' -/
def c59 : Cd :=
(.seq (.ops [.k (some 1) none (.box 84 11 (.tmp 0)),
  .k (some 2) none (.asg (.const (.bool false)))])
(.seq (.ops [.f (some 3) none (.faddr 8 (.tmp 1)),
  .f (some 4) none (.load none (.tmp 3)),
  .f (some 5) none (.un .not (.tmp 4)),
  .f (some 6) none (.mv (.tmp 5)),
  .f (some 7) (some (6, false)) (.faddr 0 (.tmp 1)),
  .f (some 8) (some (6, false)) (.load (some 4) (.tmp 7)),
  .k (some 9) (some (6, false)) (.call 58 [(.tmp 8)]),
  .f (some 10) (some (6, false)) (.mv (.tmp 9)),
  .f (some 11) (some (10, true)) (.faddr 4 (.tmp 1)),
  .f (some 12) (some (10, true)) (.load (some 4) (.tmp 11)),
  .k (some 13) (some (10, true)) (.call 58 [(.tmp 12)]),
  .f (some 14) (some (6, false)) (.pick (.tmp 10) (.tmp 13) (.const (.bool false))),
  .f (some 15) (some (6, false)) (.mv (.tmp 14)),
  .f (some 16) (some (15, true)) (.faddr 9 (.tmp 1)),
  .f (some 17) (some (15, true)) (.load none (.tmp 16)),
  .k (some 18) (some (15, true)) (.call 56 [(.tmp 17), (.const (.int .i64 1)), (.const (.int .i64 2147483648))]),
  .f (some 19) (some (6, false)) (.pick (.tmp 15) (.tmp 18) (.const (.bool false))),
  .f (some 20) none (.pick (.tmp 6) (.const (.bool true)) (.tmp 19)),
  .k (some 2) none (.asg (.tmp 20))])
.ret))
theorem fn59 : FnOK Tryz.prog 59 21 c59 [.tmp 2] := .of (by kernel_rfl)
/-! 'dynpos/monitor.place' -/
def c60 : Cd :=
(.seq (.ops [.k (some 1) none (.box 58 4 (.tmp 0)),
  .k (some 2) none (.alloc 33 [(.int .i64 0), (.int .i64 0)])])
(.seq (.ops [.f (some 3) none (.faddr 1 (.tmp 1)),
  .f (some 4) none (.load none (.tmp 3)),
  .f (some 5) none (.faddr 2 (.tmp 1)),
  .f (some 6) none (.load none (.tmp 5)),
  .f (some 7) none (.build [(.int .i64 0), (.int .i64 0)] [(0, 1, (.tmp 4)), (1, 1, (.tmp 6))]),
  .k none none (.store 2 (.tmp 2) (.tmp 7))])
.ret))
theorem fn60 : FnOK Tryz.prog 60 8 c60 [.cell 2 (some 2)] := .of (by kernel_rfl)
/-! 'dynpos/monitor.jumped' -/
def c61 : Cd :=
(.seq (.ops [.k (some 3) none (.box 30 4 (.tmp 0)),
  .k (some 4) none (.box 58 4 (.tmp 1)),
  .k (some 5) none (.box 58 4 (.tmp 2)),
  .k (some 6) none (.asg (.const (.bool false)))])
(.seq (.opd [⟨0, .f (some 10) none (.load (some 4) (.tmp 4)), []⟩,
  ⟨2, .f (some 12) none (.load (some 4) (.tmp 5)), []⟩,
  ⟨1, .k (some 11) none (.call 60 [(.tmp 10)]), [.f (some 12) none (.load (some 4) (.tmp 5))]⟩,
  ⟨3, .k (some 13) none (.call 60 [(.tmp 12)]), []⟩,
  ⟨4, .k (some 14) none (.call 20 [(.tmp 11), (.tmp 13)]), []⟩,
  ⟨5, .f (some 9) none (.mv (.tmp 14)), []⟩,
  ⟨6, .f (some 15) none (.extract 0 (.tmp 9)), []⟩,
  ⟨7, .f (some 16) none (.extract 1 (.tmp 9)), []⟩,
  ⟨8, .k (some 7) none (.asg (.tmp 15)), []⟩,
  ⟨9, .k (some 8) none (.asg (.tmp 16)), []⟩])
(.seq (.ops [.f (some 17) none (.mv (.tmp 7)),
  .f (some 18) none (.faddr 1 (.tmp 3)),
  .f (some 19) none (.load none (.tmp 18)),
  .f (some 20) none (.faddr 0 (.tmp 5)),
  .f (some 21) none (.load none (.tmp 20)),
  .f (some 22) none (.faddr 0 (.tmp 4)),
  .f (some 23) none (.load none (.tmp 22)),
  .f (some 24) none (.bin .sub (.tmp 21) (.tmp 23)),
  .f (some 25) none (.bin .mul (.tmp 19) (.tmp 24)),
  .f (some 26) none (.faddr 3 (.tmp 4)),
  .f (some 27) none (.load none (.tmp 26)),
  .f (some 28) none (.bin .add (.tmp 25) (.tmp 27)),
  .f (some 29) none (.faddr 3 (.tmp 5)),
  .f (some 30) none (.load none (.tmp 29)),
  .f (some 31) none (.bin .add (.tmp 28) (.tmp 30)),
  .f (some 32) none (.bin .gtr (.tmp 17) (.tmp 31)),
  .k (some 6) none (.asg (.tmp 32))])
.ret)))
theorem fn61 : FnOK Tryz.prog 61 33 c61 [.tmp 6] := .of (by kernel_rfl)
/-! 'dynpos/monitor.Usable' -/
def c62 : Cd :=
(.seq (.ops [.k (some 1) none (.box 84 11 (.tmp 0)),
  .k (some 2) none (.asg (.const (.bool false)))])
(.seq (.ops [.f (some 3) none (.faddr 10 (.tmp 1)),
  .f (some 4) none (.load none (.tmp 3)),
  .f (some 5) none (.bin .eql (.tmp 4) (.const (.int .i64 1))),
  .k (some 2) none (.asg (.tmp 5))])
.ret))
theorem fn62 : FnOK Tryz.prog 62 6 c62 [.tmp 2] := .of (by kernel_rfl)
/-! 'dynpos/vote.Agree' -/
def c63 : Cd :=
(.seq (.ops [.k (some 2) none (.box 58 4 (.tmp 0)),
  .k (some 3) none (.box 58 4 (.tmp 1)),
  .k (some 4) none (.asg (.const (.bool false)))])
(.seq (.ops [.f (some 8) none (.faddr 1 (.tmp 2)),
  .f (some 9) none (.load none (.tmp 8)),
  .f (some 10) none (.faddr 2 (.tmp 2)),
  .f (some 11) none (.load none (.tmp 10)),
  .f (some 12) none (.build [(.int .i64 0), (.int .i64 0)] [(0, 1, (.tmp 9)), (1, 1, (.tmp 11))]),
  .f (some 13) none (.faddr 1 (.tmp 3)),
  .f (some 14) none (.load none (.tmp 13)),
  .f (some 15) none (.faddr 2 (.tmp 3)),
  .f (some 16) none (.load none (.tmp 15)),
  .f (some 17) none (.build [(.int .i64 0), (.int .i64 0)] [(0, 1, (.tmp 14)), (1, 1, (.tmp 16))]),
  .k (some 18) none (.call 20 [(.tmp 12), (.tmp 17)]),
  .f (some 7) none (.mv (.tmp 18)),
  .f (some 19) none (.extract 0 (.tmp 7)),
  .f (some 20) none (.extract 1 (.tmp 7)),
  .k (some 5) none (.asg (.tmp 19)),
  .k (some 6) none (.asg (.tmp 20))])
(.seq (.ops [.f (some 21) none (.mv (.tmp 6)),
  .f (some 22) none (.bin .eql (.tmp 21) (.const (.int .i64 0))),
  .f (some 23) none (.mv (.tmp 22)),
  .f (some 24) (some (23, true)) (.faddr 3 (.tmp 2)),
  .f (some 25) (some (23, true)) (.load none (.tmp 24)),
  .f (some 26) (some (23, true)) (.faddr 3 (.tmp 3)),
  .f (some 27) (some (23, true)) (.load none (.tmp 26)),
  .f (some 28) (some (23, true)) (.mm false [(.tmp 25), (.tmp 27)]),
  .f (some 29) (some (23, true)) (.bin .geq (.tmp 28) (.const (.int .i64 0))),
  .f (some 30) none (.pick (.tmp 23) (.tmp 29) (.const (.bool false))),
  .f (some 31) none (.mv (.tmp 30)),
  .f (some 32) (some (31, true)) (.faddr 3 (.tmp 2)),
  .f (some 33) (some (31, true)) (.load none (.tmp 32)),
  .f (some 34) (some (31, true)) (.faddr 3 (.tmp 3)),
  .f (some 35) (some (31, true)) (.load none (.tmp 34)),
  .f (some 36) (some (31, true)) (.mm true [(.tmp 33), (.tmp 35)]),
  .f (some 37) (some (31, true)) (.bin .leq (.tmp 36) (.const (.int .i64 100000))),
  .f (some 38) none (.pick (.tmp 31) (.tmp 37) (.const (.bool false))),
  .f (some 39) none (.mv (.tmp 38)),
  .f (some 40) (some (39, true)) (.mv (.tmp 5)),
  .f (some 41) (some (39, true)) (.faddr 3 (.tmp 2)),
  .f (some 42) (some (39, true)) (.load none (.tmp 41)),
  .f (some 43) (some (39, true)) (.faddr 3 (.tmp 3)),
  .f (some 44) (some (39, true)) (.load none (.tmp 43)),
  .f (some 45) (some (39, true)) (.bin .add (.tmp 42) (.tmp 44)),
  .f (some 46) (some (39, true)) (.bin .leq (.tmp 40) (.tmp 45)),
  .f (some 47) none (.pick (.tmp 39) (.tmp 46) (.const (.bool false))),
  .k (some 4) none (.asg (.tmp 47))])
.ret)))
theorem fn63 : FnOK Tryz.prog 63 48 c63 [.tmp 4] := .of (by kernel_rfl)
/-! 'dynpos/vote.sets' -/
def c64_0 : Cd :=
(.seq (.seq (.ops [.f (some 17) none (.mv (.tmp 8)),
  .f (some 18) none (.bin .neq (.tmp 17) (.const (.int .u64 0)))])
(.cond (.tmp 18)
 .skip
 (.exit 2)))
(.seq (.block 3
 (.ops [.f (some 23) none (.mv (.tmp 7)),
   .f (some 24) none (.mv (.tmp 8)),
   .k (some 25) none (.call 87 [(.tmp 24)]),
   .k (some 26) none (.bslice 3 1 1 [(.int .i64 0)] [(0, 1, (.tmp 25))]),
   .k (some 27) none (.append 3 1 8 (.tmp 23) (.tmp 26)),
   .k (some 7) none (.asg (.tmp 27))]))
(.ops [.f (some 19) none (.mv (.tmp 8)),
  .f (some 20) none (.mv (.tmp 8)),
  .f (some 21) none (.bin .sub (.tmp 20) (.const (.int .u64 1))),
  .f (some 22) none (.bin .and (.tmp 19) (.tmp 21)),
  .k (some 8) none (.asg (.tmp 22))])))
def c64_1 : Cd :=
(.seq (.seq (.ops [.f (some 9) none (.mv (.tmp 6)),
  .f (some 10) none (.mv (.tmp 1)),
  .f (some 11) none (.len (.tmp 10)),
  .f (some 12) none (.shf .shl (.const (.int .u64 1)) (.tmp 11)),
  .f (some 13) none (.bin .lss (.tmp 9) (.tmp 12))])
(.cond (.tmp 13)
 .skip
 (.exit 0)))
(.seq (.block 1
 (.seq (.ops [.k (some 7) none (.asg (.const (.slice none 0 0)))])
 (.seq (.seq (.ops [.f (some 16) none (.mv (.tmp 6)),
   .k (some 8) none (.asg (.tmp 16))])
 (.block 2
  (.loop c64_0)))
 (.seq (.ops [.f (some 28) none (.mv (.tmp 1)),
   .f (some 29) none (.mv (.tmp 7)),
   .k (some 30) none (.call 88 [(.tmp 28), (.tmp 29)])])
 (.cond (.tmp 30)
  (.ops [.f (some 31) none (.mv (.tmp 5)),
    .f (some 32) none (.mv (.tmp 7)),
    .f (some 33) none (.mv (.tmp 0)),
    .f (some 34) none (.mv (.tmp 7)),
    .k (some 35) none (.call 89 [(.tmp 33), (.tmp 34)]),
    .f (some 36) none (.build [(.slice none 0 0), (.slice none 0 0)] [(0, 1, (.tmp 32)), (1, 1, (.tmp 35))]),
    .k (some 37) none (.bslice 130 2 1 [(.slice none 0 0), (.slice none 0 0)] [(0, 2, (.tmp 36))]),
    .k (some 38) none (.append 130 2 48 (.tmp 31) (.tmp 37)),
    .k (some 5) none (.asg (.tmp 38))])
  .skip)))))
(.ops [.f (some 14) none (.mv (.tmp 6)),
  .f (some 15) none (.bin .add (.tmp 14) (.const (.int .u64 1))),
  .k (some 6) none (.asg (.tmp 15))])))
def c64 : Cd :=
(.seq (.ops [.k (some 4) none (.asg (.const (.slice none 0 0)))])
(.seq (.ops [.k (some 5) none (.asg (.const (.slice none 0 0)))])
(.seq (.seq (.ops [.k (some 6) none (.asg (.const (.int .u64 0)))])
(.block 0
 (.loop c64_1)))
(.seq (.ops [.f (some 39) none (.mv (.tmp 5)),
  .k (some 4) none (.asg (.tmp 39))])
.ret))))
theorem fn64 : FnOK Tryz.prog 64 40 c64 [.tmp 4] := .of (by kernel_rfl)
/-! 'dynpos/vote.better' -/
def c66 : Cd :=
(.seq (.ops [.k (some 2) none (.box 130 2 (.tmp 0)),
  .k (some 3) none (.box 130 2 (.tmp 1)),
  .k (some 4) none (.asg (.const (.int .i64 0)))])
(.seq (.opd [⟨0, .f (some 5) none (.faddr 1 (.tmp 3)), []⟩,
  ⟨1, .f (some 6) none (.load none (.tmp 5)), []⟩,
  ⟨2, .f (some 7) none (.len (.tmp 6)), []⟩,
  ⟨3, .f (some 8) none (.faddr 1 (.tmp 2)), []⟩,
  ⟨4, .f (some 9) none (.load none (.tmp 8)), []⟩,
  ⟨5, .f (some 10) none (.len (.tmp 9)), []⟩,
  ⟨7, .f (some 12) none (.faddr 0 (.tmp 3)), []⟩,
  ⟨8, .f (some 13) none (.load none (.tmp 12)), []⟩,
  ⟨9, .f (some 14) none (.len (.tmp 13)), []⟩,
  ⟨10, .f (some 15) none (.faddr 0 (.tmp 2)), []⟩,
  ⟨11, .f (some 16) none (.load none (.tmp 15)), []⟩,
  ⟨12, .f (some 17) none (.len (.tmp 16)), []⟩,
  ⟨14, .f (some 19) none (.faddr 0 (.tmp 2)), []⟩,
  ⟨15, .f (some 20) none (.load none (.tmp 19)), []⟩,
  ⟨16, .f (some 21) none (.faddr 0 (.tmp 3)), []⟩,
  ⟨17, .f (some 22) none (.load none (.tmp 21)), []⟩,
  ⟨6, .k (some 11) none (.call 93 [(.tmp 7), (.tmp 10)]), [.f (some 13) none (.load none (.tmp 12)), .f (some 16) none (.load none (.tmp 15)), .f (some 20) none (.load none (.tmp 19)), .f (some 22) none (.load none (.tmp 21))]⟩,
  ⟨13, .k (some 18) none (.call 93 [(.tmp 14), (.tmp 17)]), [.f (some 20) none (.load none (.tmp 19)), .f (some 22) none (.load none (.tmp 21))]⟩,
  ⟨18, .k (some 23) none (.call 94 [(.tmp 20), (.tmp 22)]), []⟩,
  ⟨19, .k (some 24) none (.bslice 3 1 3 [(.int .i64 0)] [(0, 1, (.tmp 11)), (1, 1, (.tmp 18)), (2, 1, (.tmp 23))]), []⟩,
  ⟨20, .k (some 25) none (.call 92 [(.tmp 24)]), []⟩,
  ⟨21, .k (some 4) none (.asg (.tmp 25)), []⟩])
.ret))
theorem fn66 : FnOK Tryz.prog 66 26 c66 [.tmp 4] := .of (by kernel_rfl)
/-! 'slices.Equal[[]int,int]' -/
def c67_0 : Cd :=
(.block 1
 (.seq (.ops [.f (some 15) none (.mv (.tmp 13)),
   .k (some 5) none (.asg (.tmp 15))])
 (.seq (.opd [⟨0, .f (some 16) none (.mv (.tmp 0)), []⟩,
   ⟨1, .f (some 17) none (.mv (.tmp 5)), []⟩,
   ⟨2, .f (some 18) none (.iaddr 1 none (.tmp 16) (.tmp 17)), []⟩,
   ⟨3, .f (some 19) none (.load none (.tmp 18)), []⟩,
   ⟨4, .f (some 20) none (.mv (.tmp 1)), []⟩,
   ⟨5, .f (some 21) none (.mv (.tmp 5)), []⟩,
   ⟨6, .f (some 22) none (.iaddr 1 none (.tmp 20) (.tmp 21)), []⟩,
   ⟨7, .f (some 23) none (.load none (.tmp 22)), []⟩,
   ⟨8, .f (some 24) none (.bin .neq (.tmp 19) (.tmp 23)), []⟩])
 (.cond (.tmp 24)
  (.seq (.ops [.k (some 4) none (.asg (.const (.bool false)))])
  .ret)
  .skip))))
def c67 : Cd :=
(.seq (.ops [.k (some 4) none (.asg (.const (.bool false)))])
(.seq (.seq (.ops [.f (some 6) none (.mv (.tmp 0)),
  .f (some 7) none (.len (.tmp 6)),
  .f (some 8) none (.mv (.tmp 1)),
  .f (some 9) none (.len (.tmp 8)),
  .f (some 10) none (.bin .neq (.tmp 7) (.tmp 9))])
(.cond (.tmp 10)
 (.seq (.ops [.k (some 4) none (.asg (.const (.bool false)))])
 .ret)
 .skip))
(.seq (.seq (.ops [.f (some 11) none (.mv (.tmp 0)),
  .f (some 12) none (.len (.tmp 11)),
  .f (some 13) none (.mv (.const (.int .i64 0)))])
(rangeC 0 13 12 14 25 c67_0))
(.seq (.ops [.k (some 4) none (.asg (.const (.bool true)))])
.ret))))
theorem fn67 : FnOK Tryz.prog 67 26 c67 [.tmp 4] := .of (by kernel_rfl)
/-! 'dynpos/arith.divide' -/
def c68 : Cd :=
(.seq (.ops [.k (some 6) none (.asg (.const (.int .i64 0))),
  .k (some 7) none (.asg (.const (.int .i64 0)))])
(.seq (.seq (.ops [.f (some 8) none (.mv (.tmp 0)),
  .f (some 9) none (.bin .lss (.tmp 8) (.const (.int .i64 (-1000000000000000000)))),
  .f (some 10) none (.mv (.tmp 9)),
  .f (some 11) (some (10, false)) (.mv (.tmp 0)),
  .f (some 12) (some (10, false)) (.bin .gtr (.tmp 11) (.const (.int .i64 1000000000000000000))),
  .f (some 13) none (.pick (.tmp 10) (.const (.bool true)) (.tmp 12)),
  .f (some 14) none (.mv (.tmp 13)),
  .f (some 15) (some (14, false)) (.mv (.tmp 1)),
  .f (some 16) (some (14, false)) (.bin .lss (.tmp 15) (.const (.int .i64 1))),
  .f (some 17) none (.pick (.tmp 14) (.const (.bool true)) (.tmp 16)),
  .f (some 18) none (.mv (.tmp 17)),
  .f (some 19) (some (18, false)) (.mv (.tmp 1)),
  .f (some 20) (some (18, false)) (.bin .gtr (.tmp 19) (.const (.int .i64 1000000000))),
  .f (some 21) none (.pick (.tmp 18) (.const (.bool true)) (.tmp 20))])
(.cond (.tmp 21)
 (.seq (.ops [.k (some 6) none (.asg (.const (.int .i64 0))),
   .k (some 7) none (.asg (.const (.int .i64 1)))])
 .ret)
 .skip))
(.seq (.ops [.f (some 22) none (.mv (.tmp 2)),
  .f (some 23) none (.mv (.tmp 0)),
  .f (some 24) none (.mv (.tmp 1)),
  .k (some 25) none (.callv (.tmp 22) [(.tmp 23), (.tmp 24)]),
  .k (some 6) none (.asg (.tmp 25)),
  .k (some 7) none (.asg (.const (.int .i64 0)))])
.ret)))
theorem fn68 : FnOK Tryz.prog 68 26 c68 [.tmp 6, .tmp 7] := .of (by kernel_rfl)
/-! 'dynpos/arith.Up$1' -/
def c69 : Cd :=
(.seq (.ops [.k (some 4) none (.asg (.const (.int .i64 0)))])
(.seq (.ops [.f (some 5) none (.mv (.tmp 0)),
  .f (some 6) none (.un .neg (.tmp 5)),
  .f (some 7) none (.mv (.tmp 1)),
  .k (some 8) none (.call 70 [(.tmp 6), (.tmp 7)]),
  .f (some 9) none (.un .neg (.tmp 8)),
  .k (some 4) none (.asg (.tmp 9))])
.ret))
theorem fn69 : FnOK Tryz.prog 69 10 c69 [.tmp 4] := .of (by kernel_rfl)
/-! 'dynpos/arith.floor' -/
def c70 : Cd :=
(.seq (.ops [.k (some 4) none (.asg (.const (.int .i64 0)))])
(.seq (.ops [.f (some 6) none (.mv (.tmp 0)),
  .f (some 7) none (.mv (.tmp 1)),
  .f (some 8) none (.bin .quo (.tmp 6) (.tmp 7)),
  .k (some 5) none (.asg (.tmp 8))])
(.seq (.seq (.ops [.f (some 9) none (.mv (.tmp 0)),
  .f (some 10) none (.mv (.tmp 1)),
  .f (some 11) none (.bin .rem (.tmp 9) (.tmp 10)),
  .f (some 12) none (.bin .lss (.tmp 11) (.const (.int .i64 0)))])
(.cond (.tmp 12)
 (.ops [.f (some 13) none (.mv (.tmp 5)),
   .f (some 14) none (.bin .sub (.tmp 13) (.const (.int .i64 1))),
   .k (some 5) none (.asg (.tmp 14))])
 .skip))
(.seq (.ops [.f (some 15) none (.mv (.tmp 5)),
  .k (some 4) none (.asg (.tmp 15))])
.ret))))
theorem fn70 : FnOK Tryz.prog 70 16 c70 [.tmp 4] := .of (by kernel_rfl)
/-! 'dynpos/arith.Half$1' -/
def c71 : Cd :=
(.seq (.ops [.k (some 4) none (.asg (.const (.int .i64 0)))])
(.seq (.ops [.f (some 5) none (.mv (.tmp 0)),
  .f (some 6) none (.bin .mul (.const (.int .i64 2)) (.tmp 5)),
  .f (some 7) none (.mv (.tmp 1)),
  .f (some 8) none (.bin .add (.tmp 6) (.tmp 7)),
  .f (some 9) none (.mv (.tmp 1)),
  .f (some 10) none (.bin .mul (.const (.int .i64 2)) (.tmp 9)),
  .k (some 11) none (.call 70 [(.tmp 8), (.tmp 10)]),
  .k (some 4) none (.asg (.tmp 11))])
.ret))
theorem fn71 : FnOK Tryz.prog 71 12 c71 [.tmp 4] := .of (by kernel_rfl)
/-! 'dynpos/frame.valid' -/
def c72_0 : Cd :=
(.block 1
 (.seq (.ops [.f (some 9) none (.iaddr 2 none (.tmp 5) (.tmp 7)),
   .f (some 10) none (.load (some 2) (.tmp 9)),
   .k (some 4) none (.alloc 33 [(.int .i64 0), (.int .i64 0)]),
   .k none none (.store 2 (.tmp 4) (.tmp 10))])
 (.seq (.ops [.f (some 11) none (.load (some 2) (.tmp 4)),
   .k (some 12) none (.call 29 [(.tmp 11)]),
   .f (some 13) none (.un .not (.tmp 12))])
 (.cond (.tmp 13)
  (.seq (.ops [.k (some 2) none (.asg (.const (.int .i64 1)))])
  .ret)
  .skip))))
def c72 : Cd :=
(.seq (.ops [.k (some 2) none (.asg (.const (.int .i64 0)))])
(.seq (.seq (.ops [.f (some 5) none (.mv (.tmp 0)),
  .f (some 6) none (.len (.tmp 5)),
  .f (some 7) none (.mv (.const (.int .i64 0)))])
(rangeC 0 7 6 8 14 c72_0))
(.seq (.ops [.k (some 2) none (.asg (.const (.int .i64 0)))])
.ret)))
theorem fn72 : FnOK Tryz.prog 72 15 c72 [.tmp 2] := .of (by kernel_rfl)
/-! 'math/bits.TrailingZeros' -/
def c87 : Cd :=
(.seq (.ops [.k (some 2) none (.asg (.const (.int .i64 0)))])
(.seq (.cond (.const (.bool false))
 (.seq (.ops [.f (some 3) none (.mv (.tmp 0)),
   .f (some 4) none (.conv .u32 (.tmp 3)),
   .k (some 5) none (.call 106 [(.tmp 4)]),
   .k (some 2) none (.asg (.tmp 5))])
 .ret)
 .skip)
(.seq (.ops [.f (some 6) none (.mv (.tmp 0)),
  .k (some 7) none (.call 107 [(.tmp 6)]),
  .k (some 2) none (.asg (.tmp 7))])
.ret)))
theorem fn87 : FnOK Tryz.prog 87 8 c87 [.tmp 2] := .of (by kernel_rfl)
/-! 'dynpos/vote.Clique' -/
def c88_0 : Cd :=
(.block 3
 (.seq (.ops [.f (some 44) none (.iaddr 1 none (.tmp 40) (.tmp 42)),
   .f (some 45) none (.load none (.tmp 44)),
   .k (some 8) none (.asg (.tmp 45))])
 (.seq (.opd [⟨0, .f (some 46) none (.mv (.tmp 0)), []⟩,
   ⟨1, .f (some 47) none (.mv (.tmp 6)), []⟩,
   ⟨2, .f (some 48) none (.iaddr 4 none (.tmp 46) (.tmp 47)), []⟩,
   ⟨3, .f (some 49) none (.load (some 4) (.tmp 48)), []⟩,
   ⟨4, .f (some 50) none (.mv (.tmp 0)), []⟩,
   ⟨5, .f (some 51) none (.mv (.tmp 8)), []⟩,
   ⟨6, .f (some 52) none (.iaddr 4 none (.tmp 50) (.tmp 51)), []⟩,
   ⟨7, .f (some 53) none (.load (some 4) (.tmp 52)), []⟩,
   ⟨8, .k (some 54) none (.call 63 [(.tmp 49), (.tmp 53)]), []⟩,
   ⟨9, .f (some 55) none (.un .not (.tmp 54)), []⟩])
 (.cond (.tmp 55)
  (.seq (.ops [.k (some 4) none (.asg (.const (.bool false)))])
  .ret)
  .skip))))
def c88_1 : Cd :=
(.block 1
 (.seq (.ops [.f (some 13) none (.mv (.tmp 11)),
   .f (some 14) none (.iaddr 1 none (.tmp 9) (.tmp 11)),
   .f (some 15) none (.load none (.tmp 14)),
   .k (some 5) none (.asg (.tmp 13)),
   .k (some 6) none (.asg (.tmp 15))])
 (.seq (.seq (.ops [.f (some 16) none (.mv (.tmp 6)),
   .f (some 17) none (.bin .lss (.tmp 16) (.const (.int .i64 0))),
   .f (some 18) none (.mv (.tmp 17)),
   .f (some 19) (some (18, false)) (.mv (.tmp 6)),
   .f (some 20) (some (18, false)) (.mv (.tmp 0)),
   .f (some 21) (some (18, false)) (.len (.tmp 20)),
   .f (some 22) (some (18, false)) (.bin .geq (.tmp 19) (.tmp 21)),
   .f (some 23) none (.pick (.tmp 18) (.const (.bool true)) (.tmp 22)),
   .f (some 24) none (.mv (.tmp 23)),
   .f (some 25) (some (24, false)) (.mv (.tmp 5)),
   .f (some 26) (some (24, false)) (.bin .gtr (.tmp 25) (.const (.int .i64 0))),
   .f (some 27) (some (24, false)) (.mv (.tmp 26)),
   .f (some 28) (some (27, true)) (.mv (.tmp 1)),
   .f (some 29) (some (27, true)) (.mv (.tmp 5)),
   .f (some 30) (some (27, true)) (.bin .sub (.tmp 29) (.const (.int .i64 1))),
   .f (some 31) (some (27, true)) (.iaddr 1 none (.tmp 28) (.tmp 30)),
   .f (some 32) (some (27, true)) (.load none (.tmp 31)),
   .f (some 33) (some (27, true)) (.mv (.tmp 6)),
   .f (some 34) (some (27, true)) (.bin .geq (.tmp 32) (.tmp 33)),
   .f (some 35) (some (24, false)) (.pick (.tmp 27) (.tmp 34) (.const (.bool false))),
   .f (some 36) none (.pick (.tmp 24) (.const (.bool true)) (.tmp 35))])
 (.cond (.tmp 36)
  (.seq (.ops [.k (some 4) none (.asg (.const (.bool false)))])
  .ret)
  .skip))
 (.seq (.ops [.f (some 37) none (.mv (.tmp 1)),
   .f (some 38) none (.mv (.tmp 5)),
   .f (some 39) none (.bin .add (.tmp 38) (.const (.int .i64 1))),
   .f (some 40) none (.slc 1 (.tmp 37) none (some (.tmp 39)) none),
   .f (some 41) none (.len (.tmp 40)),
   .f (some 42) none (.mv (.const (.int .i64 0)))])
 (rangeC 2 42 41 43 56 c88_0)))))
def c88 : Cd :=
(.seq (.ops [.k (some 4) none (.asg (.const (.bool false)))])
(.seq (.seq (.ops [.f (some 9) none (.mv (.tmp 1)),
  .f (some 10) none (.len (.tmp 9)),
  .f (some 11) none (.mv (.const (.int .i64 0)))])
(rangeC 0 11 10 12 57 c88_1))
(.seq (.ops [.k (some 4) none (.asg (.const (.bool true)))])
.ret)))
theorem fn88 : FnOK Tryz.prog 88 58 c88 [.tmp 4] := .of (by kernel_rfl)
/-! 'dynpos/vote.Causes' -/
def c89 : Cd :=
(.seq (.ops [.k (some 4) none (.asg (.const (.slice none 0 0)))])
(.seq (.ops [.f (some 6) none (.mv (.tmp 0)),
  .f (some 7) none (.mv (.tmp 1)),
  .k (some 8) none (.call 108 [(.tmp 6), (.tmp 7)]),
  .k (some 5) none (.asg (.tmp 8))])
(.seq (.ops [.f (some 9) none (.mv (.tmp 5)),
  .k (some 10) none (.call 109 [(.tmp 9)])])
(.seq (.ops [.f (some 11) none (.mv (.tmp 5)),
  .k (some 12) none (.call 110 [(.tmp 11)]),
  .k (some 4) none (.asg (.tmp 12))])
.ret))))
theorem fn89 : FnOK Tryz.prog 89 13 c89 [.tmp 4] := .of (by kernel_rfl)
/-! 'math/bits.Len' -/
def c91 : Cd :=
(.seq (.ops [.k (some 2) none (.asg (.const (.int .i64 0)))])
(.seq (.cond (.const (.bool false))
 (.seq (.ops [.f (some 3) none (.mv (.tmp 0)),
   .f (some 4) none (.conv .u32 (.tmp 3)),
   .k (some 5) none (.call 119 [(.tmp 4)]),
   .k (some 2) none (.asg (.tmp 5))])
 .ret)
 .skip)
(.seq (.ops [.f (some 6) none (.mv (.tmp 0)),
  .k (some 7) none (.call 120 [(.tmp 6)]),
  .k (some 2) none (.asg (.tmp 7))])
.ret)))
theorem fn91 : FnOK Tryz.prog 91 8 c91 [.tmp 2] := .of (by kernel_rfl)
/-! 'cmp.Or[int]' -/
def c92_0 : Cd :=
(.block 1
 (.seq (.ops [.f (some 10) none (.iaddr 1 none (.tmp 6) (.tmp 8)),
   .f (some 11) none (.load none (.tmp 10)),
   .k (some 5) none (.asg (.tmp 11))])
 (.seq (.ops [.f (some 12) none (.mv (.tmp 5)),
   .f (some 13) none (.mv (.tmp 3)),
   .f (some 14) none (.bin .neq (.tmp 12) (.tmp 13))])
 (.cond (.tmp 14)
  (.seq (.ops [.f (some 15) none (.mv (.tmp 5)),
    .k (some 2) none (.asg (.tmp 15))])
  .ret)
  .skip))))
def c92 : Cd :=
(.seq (.ops [.k (some 2) none (.asg (.const (.int .i64 0)))])
(.seq (.ops [.k (some 3) none (.asg (.const (.int .i64 0)))])
(.seq (.seq (.ops [.f (some 6) none (.mv (.tmp 0)),
  .f (some 7) none (.len (.tmp 6)),
  .f (some 8) none (.mv (.const (.int .i64 0)))])
(rangeC 0 8 7 9 16 c92_0))
(.seq (.ops [.f (some 17) none (.mv (.tmp 3)),
  .k (some 2) none (.asg (.tmp 17))])
.ret))))
theorem fn92 : FnOK Tryz.prog 92 18 c92 [.tmp 2] := .of (by kernel_rfl)
/-! 'cmp.Compare[int]' -/
def c93 : Cd :=
(.seq (.ops [.k (some 4) none (.asg (.const (.int .i64 0)))])
(.seq (.ops [.f (some 7) none (.mv (.tmp 0)),
  .k (some 8) none (.call 121 [(.tmp 7)]),
  .k (some 5) none (.asg (.tmp 8))])
(.seq (.ops [.f (some 9) none (.mv (.tmp 1)),
  .k (some 10) none (.call 121 [(.tmp 9)]),
  .k (some 6) none (.asg (.tmp 10))])
(.seq (.seq (.ops [.f (some 11) none (.mv (.tmp 5))])
(.cond (.tmp 11)
 (.seq (.seq (.ops [.f (some 12) none (.mv (.tmp 6))])
 (.cond (.tmp 12)
  (.seq (.ops [.k (some 4) none (.asg (.const (.int .i64 0)))])
  .ret)
  .skip))
 (.seq (.ops [.k (some 4) none (.asg (.const (.int .i64 (-1))))])
 .ret))
 .skip))
(.seq (.seq (.ops [.f (some 13) none (.mv (.tmp 6))])
(.cond (.tmp 13)
 (.seq (.ops [.k (some 4) none (.asg (.const (.int .i64 1)))])
 .ret)
 .skip))
(.seq (.seq (.ops [.f (some 14) none (.mv (.tmp 0)),
  .f (some 15) none (.mv (.tmp 1)),
  .f (some 16) none (.bin .lss (.tmp 14) (.tmp 15))])
(.cond (.tmp 16)
 (.seq (.ops [.k (some 4) none (.asg (.const (.int .i64 (-1))))])
 .ret)
 .skip))
(.seq (.seq (.ops [.f (some 17) none (.mv (.tmp 0)),
  .f (some 18) none (.mv (.tmp 1)),
  .f (some 19) none (.bin .gtr (.tmp 17) (.tmp 18))])
(.cond (.tmp 19)
 (.seq (.ops [.k (some 4) none (.asg (.const (.int .i64 1)))])
 .ret)
 .skip))
(.seq (.ops [.k (some 4) none (.asg (.const (.int .i64 0)))])
.ret))))))))
theorem fn93 : FnOK Tryz.prog 93 20 c93 [.tmp 4] := .of (by kernel_rfl)
/-! 'slices.Compare[[]int,int]' -/
def c94_0 : Cd :=
(.block 1
 (.seq (.ops [.f (some 13) none (.mv (.tmp 11)),
   .f (some 14) none (.iaddr 1 none (.tmp 9) (.tmp 11)),
   .f (some 15) none (.load none (.tmp 14)),
   .k (some 5) none (.asg (.tmp 13)),
   .k (some 6) none (.asg (.tmp 15))])
 (.seq (.seq (.ops [.f (some 16) none (.mv (.tmp 5)),
   .f (some 17) none (.mv (.tmp 1)),
   .f (some 18) none (.len (.tmp 17)),
   .f (some 19) none (.bin .geq (.tmp 16) (.tmp 18))])
 (.cond (.tmp 19)
  (.seq (.ops [.k (some 4) none (.asg (.const (.int .i64 1)))])
  .ret)
  .skip))
 (.seq (.ops [.f (some 20) none (.mv (.tmp 1)),
   .f (some 21) none (.mv (.tmp 5)),
   .f (some 22) none (.iaddr 1 none (.tmp 20) (.tmp 21)),
   .f (some 23) none (.load none (.tmp 22)),
   .k (some 7) none (.asg (.tmp 23))])
 (.seq (.ops [.f (some 24) none (.mv (.tmp 6)),
   .f (some 25) none (.mv (.tmp 7)),
   .k (some 26) none (.call 93 [(.tmp 24), (.tmp 25)]),
   .k (some 8) none (.asg (.tmp 26))])
 (.seq (.ops [.f (some 27) none (.mv (.tmp 8)),
   .f (some 28) none (.bin .neq (.tmp 27) (.const (.int .i64 0)))])
 (.cond (.tmp 28)
  (.seq (.ops [.f (some 29) none (.mv (.tmp 8)),
    .k (some 4) none (.asg (.tmp 29))])
  .ret)
  .skip)))))))
def c94 : Cd :=
(.seq (.ops [.k (some 4) none (.asg (.const (.int .i64 0)))])
(.seq (.seq (.ops [.f (some 9) none (.mv (.tmp 0)),
  .f (some 10) none (.len (.tmp 9)),
  .f (some 11) none (.mv (.const (.int .i64 0)))])
(rangeC 0 11 10 12 30 c94_0))
(.seq (.seq (.ops [.f (some 31) none (.mv (.tmp 0)),
  .f (some 32) none (.len (.tmp 31)),
  .f (some 33) none (.mv (.tmp 1)),
  .f (some 34) none (.len (.tmp 33)),
  .f (some 35) none (.bin .lss (.tmp 32) (.tmp 34))])
(.cond (.tmp 35)
 (.seq (.ops [.k (some 4) none (.asg (.const (.int .i64 (-1))))])
 .ret)
 .skip))
(.seq (.ops [.k (some 4) none (.asg (.const (.int .i64 0)))])
.ret))))
theorem fn94 : FnOK Tryz.prog 94 36 c94 [.tmp 4] := .of (by kernel_rfl)
/-! 'math/bits.TrailingZeros64' -/
def c107 : Cd :=
(.seq (.ops [.k (some 2) none (.asg (.const (.int .i64 0)))])
(.seq (.seq (.ops [.f (some 3) none (.mv (.tmp 0)),
  .f (some 4) none (.bin .eql (.tmp 3) (.const (.int .u64 0)))])
(.cond (.tmp 4)
 (.seq (.ops [.k (some 2) none (.asg (.const (.int .i64 64)))])
 .ret)
 .skip))
(.seq (.ops [.f (some 5) none (.mv (.tmp 0)),
  .f (some 6) none (.mv (.tmp 0)),
  .f (some 7) none (.un .neg (.tmp 6)),
  .f (some 8) none (.bin .and (.tmp 5) (.tmp 7)),
  .f (some 9) none (.bin .mul (.tmp 8) (.const (.int .u64 285870213051353865))),
  .f (some 10) none (.shf .shr (.tmp 9) (.const (.int .u64 58))),
  .f (some 11) none (.iaddr 1 (some 64) (.global 1) (.tmp 10)),
  .f (some 12) none (.load none (.tmp 11)),
  .f (some 13) none (.conv .i64 (.tmp 12)),
  .k (some 2) none (.asg (.tmp 13))])
.ret)))
theorem fn107 : FnOK Tryz.prog 107 14 c107 [.tmp 2] := .of (by kernel_rfl)
/-! 'dynpos/vote.pick[int]' -/
def c108_0 : Cd :=
(.block 1
 (.seq (.ops [.f (some 12) none (.iaddr 1 none (.tmp 8) (.tmp 10)),
   .f (some 13) none (.load none (.tmp 12)),
   .k (some 7) none (.asg (.tmp 13))])
 (.seq (.ops [.f (some 14) none (.mv (.tmp 7)),
   .f (some 15) none (.bin .geq (.tmp 14) (.const (.int .i64 0))),
   .f (some 16) none (.mv (.tmp 15)),
   .f (some 17) (some (16, true)) (.mv (.tmp 7)),
   .f (some 18) (some (16, true)) (.mv (.tmp 0)),
   .f (some 19) (some (16, true)) (.len (.tmp 18)),
   .f (some 20) (some (16, true)) (.bin .lss (.tmp 17) (.tmp 19)),
   .f (some 21) none (.pick (.tmp 16) (.tmp 20) (.const (.bool false)))])
 (.cond (.tmp 21)
  (.ops [.f (some 22) none (.mv (.tmp 5)),
    .f (some 23) none (.mv (.tmp 0)),
    .f (some 24) none (.mv (.tmp 7)),
    .f (some 25) none (.iaddr 1 none (.tmp 23) (.tmp 24)),
    .f (some 26) none (.load none (.tmp 25)),
    .k (some 27) none (.bslice 3 1 1 [(.int .i64 0)] [(0, 1, (.tmp 26))]),
    .k (some 28) none (.append 3 1 8 (.tmp 22) (.tmp 27)),
    .k (some 5) none (.asg (.tmp 28))])
  .skip))))
def c108 : Cd :=
(.seq (.ops [.k (some 4) none (.asg (.const (.slice none 0 0)))])
(.seq (.ops [.k (some 5) none (.asg (.const (.slice none 0 0)))])
(.seq (.seq (.ops [.f (some 8) none (.mv (.tmp 1)),
  .f (some 9) none (.len (.tmp 8)),
  .f (some 10) none (.mv (.const (.int .i64 0)))])
(rangeC 0 10 9 11 29 c108_0))
(.seq (.ops [.f (some 30) none (.mv (.tmp 5)),
  .k (some 4) none (.asg (.tmp 30))])
.ret))))
theorem fn108 : FnOK Tryz.prog 108 31 c108 [.tmp 4] := .of (by kernel_rfl)
/-! 'slices.Sort[[]int,int]' -/
def c109 : Cd :=
(.seq (.ops [.f (some 3) none (.mv (.tmp 0)),
  .f (some 4) none (.len (.tmp 3)),
  .k (some 2) none (.asg (.tmp 4))])
(.ops [.f (some 5) none (.mv (.tmp 0)),
  .f (some 6) none (.mv (.tmp 2)),
  .f (some 7) none (.mv (.tmp 2)),
  .f (some 8) none (.conv .u64 (.tmp 7)),
  .k (some 9) none (.call 91 [(.tmp 8)]),
  .k (some 10) none (.call 136 [(.tmp 5), (.const (.int .i64 0)), (.tmp 6), (.tmp 9)])]))
theorem fn109 : FnOK Tryz.prog 109 11 c109 [] := .of (by kernel_rfl)
/-! 'slices.Compact[[]int,int]' -/
def c110_0 : Cd :=
(.seq (.seq (.ops [.f (some 29) none (.mv (.tmp 5)),
  .f (some 30) none (.mv (.tmp 4)),
  .f (some 31) none (.len (.tmp 30)),
  .f (some 32) none (.bin .lss (.tmp 29) (.tmp 31))])
(.cond (.tmp 32)
 .skip
 (.exit 2)))
(.seq (.block 3
 (.seq (.opd [⟨0, .f (some 35) none (.mv (.tmp 4)), []⟩,
   ⟨1, .f (some 36) none (.mv (.tmp 5)), []⟩,
   ⟨2, .f (some 37) none (.iaddr 1 none (.tmp 35) (.tmp 36)), []⟩,
   ⟨3, .f (some 38) none (.load none (.tmp 37)), []⟩,
   ⟨4, .f (some 39) none (.mv (.tmp 4)), []⟩,
   ⟨5, .f (some 40) none (.mv (.tmp 5)), []⟩,
   ⟨6, .f (some 41) none (.bin .sub (.tmp 40) (.const (.int .i64 1))), []⟩,
   ⟨7, .f (some 42) none (.iaddr 1 none (.tmp 39) (.tmp 41)), []⟩,
   ⟨8, .f (some 43) none (.load none (.tmp 42)), []⟩,
   ⟨9, .f (some 44) none (.bin .neq (.tmp 38) (.tmp 43)), []⟩])
 (.cond (.tmp 44)
  (.seq (.ops [.f (some 45) none (.mv (.tmp 0)),
    .f (some 46) none (.mv (.tmp 3)),
    .f (some 47) none (.mv (.tmp 4)),
    .f (some 48) none (.mv (.tmp 5)),
    .f (some 49) none (.iaddr 1 none (.tmp 47) (.tmp 48)),
    .f (some 50) none (.load none (.tmp 49)),
    .f (some 51) none (.iaddr 1 none (.tmp 45) (.tmp 46)),
    .k none none (.store 1 (.tmp 51) (.tmp 50))])
  (.ops [.f (some 52) none (.mv (.tmp 3)),
    .f (some 53) none (.bin .add (.tmp 52) (.const (.int .i64 1))),
    .k (some 3) none (.asg (.tmp 53))]))
  .skip)))
(.ops [.f (some 33) none (.mv (.tmp 5)),
  .f (some 34) none (.bin .add (.tmp 33) (.const (.int .i64 1))),
  .k (some 5) none (.asg (.tmp 34))])))
def c110_1 : Cd :=
(.seq (.seq (.ops [.f (some 10) none (.mv (.tmp 3)),
  .f (some 11) none (.mv (.tmp 0)),
  .f (some 12) none (.len (.tmp 11)),
  .f (some 13) none (.bin .lss (.tmp 10) (.tmp 12))])
(.cond (.tmp 13)
 .skip
 (.exit 0)))
(.seq (.block 1
 (.seq (.opd [⟨0, .f (some 16) none (.mv (.tmp 0)), []⟩,
   ⟨1, .f (some 17) none (.mv (.tmp 3)), []⟩,
   ⟨2, .f (some 18) none (.iaddr 1 none (.tmp 16) (.tmp 17)), []⟩,
   ⟨3, .f (some 19) none (.load none (.tmp 18)), []⟩,
   ⟨4, .f (some 20) none (.mv (.tmp 0)), []⟩,
   ⟨5, .f (some 21) none (.mv (.tmp 3)), []⟩,
   ⟨6, .f (some 22) none (.bin .sub (.tmp 21) (.const (.int .i64 1))), []⟩,
   ⟨7, .f (some 23) none (.iaddr 1 none (.tmp 20) (.tmp 22)), []⟩,
   ⟨8, .f (some 24) none (.load none (.tmp 23)), []⟩,
   ⟨9, .f (some 25) none (.bin .eql (.tmp 19) (.tmp 24)), []⟩])
 (.cond (.tmp 25)
  (.seq (.ops [.f (some 26) none (.mv (.tmp 0)),
    .f (some 27) none (.mv (.tmp 3)),
    .f (some 28) none (.slc 1 (.tmp 26) (some (.tmp 27)) none none),
    .k (some 4) none (.asg (.tmp 28))])
  (.seq (.seq (.ops [.k (some 5) none (.asg (.const (.int .i64 1)))])
  (.block 2
   (.loop c110_0)))
  (.seq (.ops [.f (some 54) none (.mv (.tmp 0)),
    .f (some 55) none (.mv (.tmp 3)),
    .f (some 56) none (.slc 1 (.tmp 54) (some (.tmp 55)) none none),
    .k none none (.gen (.clr 3) [(.tmp 56)])])
  (.seq (.ops [.f (some 57) none (.mv (.tmp 0)),
    .f (some 58) none (.mv (.tmp 3)),
    .f (some 59) none (.slc 1 (.tmp 57) none (some (.tmp 58)) none),
    .k (some 2) none (.asg (.tmp 59))])
  .ret))))
  .skip)))
(.ops [.f (some 14) none (.mv (.tmp 3)),
  .f (some 15) none (.bin .add (.tmp 14) (.const (.int .i64 1))),
  .k (some 3) none (.asg (.tmp 15))])))
def c110 : Cd :=
(.seq (.ops [.k (some 2) none (.asg (.const (.slice none 0 0)))])
(.seq (.seq (.ops [.f (some 6) none (.mv (.tmp 0)),
  .f (some 7) none (.len (.tmp 6)),
  .f (some 8) none (.bin .lss (.tmp 7) (.const (.int .i64 2)))])
(.cond (.tmp 8)
 (.seq (.ops [.f (some 9) none (.mv (.tmp 0)),
   .k (some 2) none (.asg (.tmp 9))])
 .ret)
 .skip))
(.seq (.seq (.ops [.k (some 3) none (.asg (.const (.int .i64 1)))])
(.block 0
 (.loop c110_1)))
(.seq (.ops [.f (some 60) none (.mv (.tmp 0)),
  .k (some 2) none (.asg (.tmp 60))])
.ret))))
theorem fn110 : FnOK Tryz.prog 110 61 c110 [.tmp 2] := .of (by kernel_rfl)
/-! 'math/bits.Len64' -/
def c120 : Cd :=
(.seq (.ops [.k (some 2) none (.asg (.const (.int .i64 0)))])
(.seq (.seq (.ops [.f (some 3) none (.mv (.tmp 0)),
  .f (some 4) none (.bin .geq (.tmp 3) (.const (.int .u64 4294967296)))])
(.cond (.tmp 4)
 (.seq (.ops [.f (some 5) none (.mv (.tmp 0)),
   .f (some 6) none (.shf .shr (.tmp 5) (.const (.int .u64 32))),
   .k (some 0) none (.asg (.tmp 6))])
 (.ops [.k (some 2) none (.asg (.const (.int .i64 32)))]))
 .skip))
(.seq (.seq (.ops [.f (some 7) none (.mv (.tmp 0)),
  .f (some 8) none (.bin .geq (.tmp 7) (.const (.int .u64 65536)))])
(.cond (.tmp 8)
 (.seq (.ops [.f (some 9) none (.mv (.tmp 0)),
   .f (some 10) none (.shf .shr (.tmp 9) (.const (.int .u64 16))),
   .k (some 0) none (.asg (.tmp 10))])
 (.ops [.f (some 11) none (.mv (.tmp 2)),
   .f (some 12) none (.bin .add (.tmp 11) (.const (.int .i64 16))),
   .k (some 2) none (.asg (.tmp 12))]))
 .skip))
(.seq (.seq (.ops [.f (some 13) none (.mv (.tmp 0)),
  .f (some 14) none (.bin .geq (.tmp 13) (.const (.int .u64 256)))])
(.cond (.tmp 14)
 (.seq (.ops [.f (some 15) none (.mv (.tmp 0)),
   .f (some 16) none (.shf .shr (.tmp 15) (.const (.int .u64 8))),
   .k (some 0) none (.asg (.tmp 16))])
 (.ops [.f (some 17) none (.mv (.tmp 2)),
   .f (some 18) none (.bin .add (.tmp 17) (.const (.int .i64 8))),
   .k (some 2) none (.asg (.tmp 18))]))
 .skip))
(.seq (.ops [.f (some 19) none (.mv (.tmp 2)),
  .f (some 20) none (.mv (.tmp 0)),
  .f (some 21) none (.conv .u8 (.tmp 20)),
  .f (some 22) none (.sidx (.const (.string ⟨#[0, 1, 2, 2, 3, 3, 3, 3, 4, 4, 4, 4, 4, 4, 4, 4, 5, 5, 5, 5, 5, 5, 5, 5, 5, 5, 5, 5, 5, 5, 5, 5, 6, 6, 6, 6, 6, 6, 6, 6, 6, 6, 6, 6, 6, 6, 6, 6, 6, 6, 6, 6, 6, 6, 6, 6, 6, 6, 6, 6, 6, 6, 6, 6, 7, 7, 7, 7, 7, 7, 7, 7, 7, 7, 7, 7, 7, 7, 7, 7, 7, 7, 7, 7, 7, 7, 7, 7, 7, 7, 7, 7, 7, 7, 7, 7, 7, 7, 7, 7, 7, 7, 7, 7, 7, 7, 7, 7, 7, 7, 7, 7, 7, 7, 7, 7, 7, 7, 7, 7, 7, 7, 7, 7, 7, 7, 7, 7, 8, 8, 8, 8, 8, 8, 8, 8, 8, 8, 8, 8, 8, 8, 8, 8, 8, 8, 8, 8, 8, 8, 8, 8, 8, 8, 8, 8, 8, 8, 8, 8, 8, 8, 8, 8, 8, 8, 8, 8, 8, 8, 8, 8, 8, 8, 8, 8, 8, 8, 8, 8, 8, 8, 8, 8, 8, 8, 8, 8, 8, 8, 8, 8, 8, 8, 8, 8, 8, 8, 8, 8, 8, 8, 8, 8, 8, 8, 8, 8, 8, 8, 8, 8, 8, 8, 8, 8, 8, 8, 8, 8, 8, 8, 8, 8, 8, 8, 8, 8, 8, 8, 8, 8, 8, 8, 8, 8, 8, 8, 8, 8, 8, 8, 8, 8, 8, 8, 8, 8, 8, 8, 8, 8, 8, 8, 8, 8]⟩)) (.tmp 21)),
  .f (some 23) none (.conv .i64 (.tmp 22)),
  .f (some 24) none (.bin .add (.tmp 19) (.tmp 23)),
  .k (some 2) none (.asg (.tmp 24))])
.ret)))))
theorem fn120 : FnOK Tryz.prog 120 25 c120 [.tmp 2] := .of (by kernel_rfl)
/-! 'cmp.isNaN[int]' -/
def c121 : Cd :=
(.seq (.ops [.k (some 2) none (.asg (.const (.bool false)))])
(.seq (.ops [.f (some 3) none (.mv (.tmp 0)),
  .f (some 4) none (.mv (.tmp 0)),
  .f (some 5) none (.bin .neq (.tmp 3) (.tmp 4)),
  .k (some 2) none (.asg (.tmp 5))])
.ret))
theorem fn121 : FnOK Tryz.prog 121 6 c121 [.tmp 2] := .of (by kernel_rfl)
/-! 'slices.pdqsortOrdered[int]' -/
def c136_0 : Cd :=
(.block 1
 (.seq (.ops [.f (some 19) none (.mv (.tmp 2)),
   .f (some 20) none (.mv (.tmp 1)),
   .f (some 21) none (.bin .sub (.tmp 19) (.tmp 20)),
   .k (some 10) none (.asg (.tmp 21))])
 (.seq (.seq (.ops [.f (some 22) none (.mv (.tmp 10)),
   .f (some 23) none (.bin .leq (.tmp 22) (.const (.int .i64 12)))])
 (.cond (.tmp 23)
  (.seq (.ops [.f (some 24) none (.mv (.tmp 0)),
    .f (some 25) none (.mv (.tmp 1)),
    .f (some 26) none (.mv (.tmp 2)),
    .k (some 27) none (.call 153 [(.tmp 24), (.tmp 25), (.tmp 26)])])
  .ret)
  .skip))
 (.seq (.seq (.ops [.f (some 28) none (.mv (.tmp 3)),
   .f (some 29) none (.bin .eql (.tmp 28) (.const (.int .i64 0)))])
 (.cond (.tmp 29)
  (.seq (.ops [.f (some 30) none (.mv (.tmp 0)),
    .f (some 31) none (.mv (.tmp 1)),
    .f (some 32) none (.mv (.tmp 2)),
    .k (some 33) none (.call 154 [(.tmp 30), (.tmp 31), (.tmp 32)])])
  .ret)
  .skip))
 (.seq (.seq (.ops [.f (some 34) none (.mv (.tmp 8)),
   .f (some 35) none (.un .not (.tmp 34))])
 (.cond (.tmp 35)
  (.seq (.ops [.f (some 36) none (.mv (.tmp 0)),
    .f (some 37) none (.mv (.tmp 1)),
    .f (some 38) none (.mv (.tmp 2)),
    .k (some 39) none (.call 155 [(.tmp 36), (.tmp 37), (.tmp 38)])])
  (.ops [.f (some 40) none (.mv (.tmp 3)),
    .f (some 41) none (.bin .sub (.tmp 40) (.const (.int .i64 1))),
    .k (some 3) none (.asg (.tmp 41))]))
  .skip))
 (.seq (.ops [.f (some 43) none (.mv (.tmp 0)),
   .f (some 44) none (.mv (.tmp 1)),
   .f (some 45) none (.mv (.tmp 2)),
   .k (some 46) none (.call 156 [(.tmp 43), (.tmp 44), (.tmp 45)]),
   .f (some 42) none (.mv (.tmp 46)),
   .f (some 47) none (.extract 0 (.tmp 42)),
   .f (some 48) none (.extract 1 (.tmp 42)),
   .k (some 11) none (.asg (.tmp 47)),
   .k (some 12) none (.asg (.tmp 48))])
 (.seq (.seq (.ops [.f (some 49) none (.mv (.tmp 12)),
   .f (some 50) none (.bin .eql (.tmp 49) (.const (.int .i64 2)))])
 (.cond (.tmp 50)
  (.seq (.ops [.f (some 51) none (.mv (.tmp 0)),
    .f (some 52) none (.mv (.tmp 1)),
    .f (some 53) none (.mv (.tmp 2)),
    .k (some 54) none (.call 157 [(.tmp 51), (.tmp 52), (.tmp 53)])])
  (.seq (.ops [.f (some 55) none (.mv (.tmp 2)),
    .f (some 56) none (.bin .sub (.tmp 55) (.const (.int .i64 1))),
    .f (some 57) none (.mv (.tmp 11)),
    .f (some 58) none (.mv (.tmp 1)),
    .f (some 59) none (.bin .sub (.tmp 57) (.tmp 58)),
    .f (some 60) none (.bin .sub (.tmp 56) (.tmp 59)),
    .k (some 11) none (.asg (.tmp 60))])
  (.ops [.k (some 12) none (.asg (.const (.int .i64 1)))])))
  .skip))
 (.seq (.seq (.ops [.f (some 61) none (.mv (.tmp 8)),
   .f (some 62) none (.mv (.tmp 61)),
   .f (some 63) (some (62, true)) (.mv (.tmp 9)),
   .f (some 64) none (.pick (.tmp 62) (.tmp 63) (.const (.bool false))),
   .f (some 65) none (.mv (.tmp 64)),
   .f (some 66) (some (65, true)) (.mv (.tmp 12)),
   .f (some 67) (some (65, true)) (.bin .eql (.tmp 66) (.const (.int .i64 1))),
   .f (some 68) none (.pick (.tmp 65) (.tmp 67) (.const (.bool false)))])
 (.cond (.tmp 68)
  (.seq (.ops [.f (some 69) none (.mv (.tmp 0)),
    .f (some 70) none (.mv (.tmp 1)),
    .f (some 71) none (.mv (.tmp 2)),
    .k (some 72) none (.call 158 [(.tmp 69), (.tmp 70), (.tmp 71)])])
  (.cond (.tmp 72)
   .ret
   .skip))
  .skip))
 (.seq (.seq (.opd [⟨0, .f (some 73) none (.mv (.tmp 1)), []⟩,
   ⟨1, .f (some 74) none (.bin .gtr (.tmp 73) (.const (.int .i64 0))), []⟩,
   ⟨2, .f (some 75) none (.mv (.tmp 74)), []⟩,
   ⟨3, .f (some 76) (some (75, true)) (.mv (.tmp 0)), []⟩,
   ⟨4, .f (some 77) (some (75, true)) (.mv (.tmp 1)), []⟩,
   ⟨5, .f (some 78) (some (75, true)) (.bin .sub (.tmp 77) (.const (.int .i64 1))), []⟩,
   ⟨6, .f (some 79) (some (75, true)) (.iaddr 1 none (.tmp 76) (.tmp 78)), []⟩,
   ⟨7, .f (some 80) (some (75, true)) (.load none (.tmp 79)), []⟩,
   ⟨8, .f (some 81) (some (75, true)) (.mv (.tmp 0)), []⟩,
   ⟨9, .f (some 82) (some (75, true)) (.mv (.tmp 11)), []⟩,
   ⟨10, .f (some 83) (some (75, true)) (.iaddr 1 none (.tmp 81) (.tmp 82)), []⟩,
   ⟨11, .f (some 84) (some (75, true)) (.load none (.tmp 83)), []⟩,
   ⟨12, .k (some 85) (some (75, true)) (.call 159 [(.tmp 80), (.tmp 84)]), []⟩,
   ⟨13, .f (some 86) (some (75, true)) (.un .not (.tmp 85)), []⟩,
   ⟨14, .f (some 87) none (.pick (.tmp 75) (.tmp 86) (.const (.bool false))), []⟩])
 (.cond (.tmp 87)
  (.seq (.ops [.f (some 88) none (.mv (.tmp 0)),
    .f (some 89) none (.mv (.tmp 1)),
    .f (some 90) none (.mv (.tmp 2)),
    .f (some 91) none (.mv (.tmp 11)),
    .k (some 92) none (.call 160 [(.tmp 88), (.tmp 89), (.tmp 90), (.tmp 91)]),
    .k (some 13) none (.asg (.tmp 92))])
  (.seq (.ops [.f (some 93) none (.mv (.tmp 13)),
    .k (some 1) none (.asg (.tmp 93))])
  (.exit 1)))
  .skip))
 (.seq (.ops [.f (some 95) none (.mv (.tmp 0)),
   .f (some 96) none (.mv (.tmp 1)),
   .f (some 97) none (.mv (.tmp 2)),
   .f (some 98) none (.mv (.tmp 11)),
   .k (some 99) none (.call 161 [(.tmp 95), (.tmp 96), (.tmp 97), (.tmp 98)]),
   .f (some 94) none (.mv (.tmp 99)),
   .f (some 100) none (.extract 0 (.tmp 94)),
   .f (some 101) none (.extract 1 (.tmp 94)),
   .k (some 14) none (.asg (.tmp 100)),
   .k (some 15) none (.asg (.tmp 101))])
 (.seq (.ops [.f (some 102) none (.mv (.tmp 15)),
   .k (some 9) none (.asg (.tmp 102))])
 (.seq (.ops [.f (some 103) none (.mv (.tmp 14)),
   .f (some 104) none (.mv (.tmp 1)),
   .f (some 105) none (.bin .sub (.tmp 103) (.tmp 104)),
   .f (some 106) none (.mv (.tmp 2)),
   .f (some 107) none (.mv (.tmp 14)),
   .f (some 108) none (.bin .sub (.tmp 106) (.tmp 107)),
   .k (some 16) none (.asg (.tmp 105)),
   .k (some 17) none (.asg (.tmp 108))])
 (.seq (.ops [.f (some 109) none (.mv (.tmp 10)),
   .f (some 110) none (.bin .quo (.tmp 109) (.const (.int .i64 8))),
   .k (some 18) none (.asg (.tmp 110))])
 (.seq (.ops [.f (some 111) none (.mv (.tmp 16)),
   .f (some 112) none (.mv (.tmp 17)),
   .f (some 113) none (.bin .lss (.tmp 111) (.tmp 112))])
 (.cond (.tmp 113)
  (.seq (.ops [.f (some 114) none (.mv (.tmp 16)),
    .f (some 115) none (.mv (.tmp 18)),
    .f (some 116) none (.bin .geq (.tmp 114) (.tmp 115)),
    .k (some 8) none (.asg (.tmp 116))])
  (.seq (.ops [.f (some 117) none (.mv (.tmp 0)),
    .f (some 118) none (.mv (.tmp 1)),
    .f (some 119) none (.mv (.tmp 14)),
    .f (some 120) none (.mv (.tmp 3)),
    .k (some 121) none (.call 136 [(.tmp 117), (.tmp 118), (.tmp 119), (.tmp 120)])])
  (.ops [.f (some 122) none (.mv (.tmp 14)),
    .f (some 123) none (.bin .add (.tmp 122) (.const (.int .i64 1))),
    .k (some 1) none (.asg (.tmp 123))])))
  (.seq (.ops [.f (some 124) none (.mv (.tmp 17)),
    .f (some 125) none (.mv (.tmp 18)),
    .f (some 126) none (.bin .geq (.tmp 124) (.tmp 125)),
    .k (some 8) none (.asg (.tmp 126))])
  (.seq (.ops [.f (some 127) none (.mv (.tmp 0)),
    .f (some 128) none (.mv (.tmp 14)),
    .f (some 129) none (.bin .add (.tmp 128) (.const (.int .i64 1))),
    .f (some 130) none (.mv (.tmp 2)),
    .f (some 131) none (.mv (.tmp 3)),
    .k (some 132) none (.call 136 [(.tmp 127), (.tmp 129), (.tmp 130), (.tmp 131)])])
  (.ops [.f (some 133) none (.mv (.tmp 14)),
    .k (some 2) none (.asg (.tmp 133))]))))))))))))))))))
def c136 : Cd :=
(.seq (.ops [.k (some 8) none (.asg (.const (.bool true)))])
(.seq (.ops [.k (some 9) none (.asg (.const (.bool true)))])
(.block 0
 (.loop c136_0))))
theorem fn136 : FnOK Tryz.prog 136 134 c136 [] := .of (by kernel_rfl)
/-! 'slices.insertionSortOrdered[int]' -/
def c153_0 : Cd :=
(.seq (.seq (.opd [⟨0, .f (some 16) none (.mv (.tmp 7)), []⟩,
  ⟨1, .f (some 17) none (.mv (.tmp 1)), []⟩,
  ⟨2, .f (some 18) none (.bin .gtr (.tmp 16) (.tmp 17)), []⟩,
  ⟨3, .f (some 19) none (.mv (.tmp 18)), []⟩,
  ⟨4, .f (some 20) (some (19, true)) (.mv (.tmp 0)), []⟩,
  ⟨5, .f (some 21) (some (19, true)) (.mv (.tmp 7)), []⟩,
  ⟨6, .f (some 22) (some (19, true)) (.iaddr 1 none (.tmp 20) (.tmp 21)), []⟩,
  ⟨7, .f (some 23) (some (19, true)) (.load none (.tmp 22)), []⟩,
  ⟨8, .f (some 24) (some (19, true)) (.mv (.tmp 0)), []⟩,
  ⟨9, .f (some 25) (some (19, true)) (.mv (.tmp 7)), []⟩,
  ⟨10, .f (some 26) (some (19, true)) (.bin .sub (.tmp 25) (.const (.int .i64 1))), []⟩,
  ⟨11, .f (some 27) (some (19, true)) (.iaddr 1 none (.tmp 24) (.tmp 26)), []⟩,
  ⟨12, .f (some 28) (some (19, true)) (.load none (.tmp 27)), []⟩,
  ⟨13, .k (some 29) (some (19, true)) (.call 159 [(.tmp 23), (.tmp 28)]), []⟩,
  ⟨14, .f (some 30) none (.pick (.tmp 19) (.tmp 29) (.const (.bool false))), []⟩])
(.cond (.tmp 30)
 .skip
 (.exit 2)))
(.seq (.block 3
 (.opd [⟨0, .f (some 33) none (.mv (.tmp 0)), []⟩,
   ⟨1, .f (some 34) none (.mv (.tmp 7)), []⟩,
   ⟨2, .f (some 35) none (.mv (.tmp 0)), []⟩,
   ⟨3, .f (some 36) none (.mv (.tmp 7)), []⟩,
   ⟨4, .f (some 37) none (.bin .sub (.tmp 36) (.const (.int .i64 1))), []⟩,
   ⟨5, .f (some 38) none (.mv (.tmp 0)), []⟩,
   ⟨6, .f (some 39) none (.mv (.tmp 7)), []⟩,
   ⟨7, .f (some 40) none (.bin .sub (.tmp 39) (.const (.int .i64 1))), []⟩,
   ⟨8, .f (some 41) none (.iaddr 1 none (.tmp 38) (.tmp 40)), []⟩,
   ⟨9, .f (some 42) none (.load none (.tmp 41)), []⟩,
   ⟨10, .f (some 43) none (.mv (.tmp 0)), []⟩,
   ⟨11, .f (some 44) none (.mv (.tmp 7)), []⟩,
   ⟨12, .f (some 45) none (.iaddr 1 none (.tmp 43) (.tmp 44)), []⟩,
   ⟨13, .f (some 46) none (.load none (.tmp 45)), []⟩,
   ⟨14, .f (some 47) none (.iaddr 1 none (.tmp 33) (.tmp 34)), []⟩,
   ⟨15, .k none none (.store 1 (.tmp 47) (.tmp 42)), []⟩,
   ⟨16, .f (some 48) none (.iaddr 1 none (.tmp 35) (.tmp 37)), []⟩,
   ⟨17, .k none none (.store 1 (.tmp 48) (.tmp 46)), []⟩]))
(.ops [.f (some 31) none (.mv (.tmp 7)),
  .f (some 32) none (.bin .sub (.tmp 31) (.const (.int .i64 1))),
  .k (some 7) none (.asg (.tmp 32))])))
def c153_1 : Cd :=
(.seq (.seq (.ops [.f (some 10) none (.mv (.tmp 6)),
  .f (some 11) none (.mv (.tmp 2)),
  .f (some 12) none (.bin .lss (.tmp 10) (.tmp 11))])
(.cond (.tmp 12)
 .skip
 (.exit 0)))
(.seq (.block 1
 (.seq (.ops [.f (some 15) none (.mv (.tmp 6)),
   .k (some 7) none (.asg (.tmp 15))])
 (.block 2
  (.loop c153_0))))
(.ops [.f (some 13) none (.mv (.tmp 6)),
  .f (some 14) none (.bin .add (.tmp 13) (.const (.int .i64 1))),
  .k (some 6) none (.asg (.tmp 14))])))
def c153 : Cd :=
(.seq (.ops [.f (some 8) none (.mv (.tmp 1)),
  .f (some 9) none (.bin .add (.tmp 8) (.const (.int .i64 1))),
  .k (some 6) none (.asg (.tmp 9))])
(.block 0
 (.loop c153_1)))
theorem fn153 : FnOK Tryz.prog 153 49 c153 [] := .of (by kernel_rfl)
/-! 'cmp.Less[int]' -/
def c159 : Cd :=
(.seq (.ops [.k (some 4) none (.asg (.const (.bool false)))])
(.seq (.ops [.f (some 5) none (.mv (.tmp 0)),
  .k (some 6) none (.call 121 [(.tmp 5)]),
  .f (some 7) none (.mv (.tmp 6)),
  .f (some 8) (some (7, true)) (.mv (.tmp 1)),
  .k (some 9) (some (7, true)) (.call 121 [(.tmp 8)]),
  .f (some 10) (some (7, true)) (.un .not (.tmp 9)),
  .f (some 11) none (.pick (.tmp 7) (.tmp 10) (.const (.bool false))),
  .f (some 12) none (.mv (.tmp 11)),
  .f (some 13) (some (12, false)) (.mv (.tmp 0)),
  .f (some 14) (some (12, false)) (.mv (.tmp 1)),
  .f (some 15) (some (12, false)) (.bin .lss (.tmp 13) (.tmp 14)),
  .f (some 16) none (.pick (.tmp 12) (.const (.bool true)) (.tmp 15)),
  .k (some 4) none (.asg (.tmp 16))])
.ret))
theorem fn159 : FnOK Tryz.prog 159 17 c159 [.tmp 4] := .of (by kernel_rfl)
end Go.Proofs.YtipanehdmhachaaGreatDoor.H
