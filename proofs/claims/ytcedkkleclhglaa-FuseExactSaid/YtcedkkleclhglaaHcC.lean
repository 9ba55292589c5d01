/- compact code -/
import Derived.Test.YtcedkkleclhglaaHxA
import Derived.Test.YtcedkkleclhglaaRows
set_option linter.unusedSimpArgs false
set_option linter.unusedVariables false
set_option maxRecDepth 100000
namespace Go.Proofs.Ytcedkkleclhglaa.H
/-! 'dynpos/dynposlaw09.FuseExact' -/
def c5_0 : Cd :=
(.seq (.ops [.f (some 63) none (.bin .lss (.tmp 62) (.const (.int .i64 3)))])
(.seq (.cond (.tmp 63)
 .skip
 (.exit 0))
(.seq (.block 1
 (.seq (.ops [.f (some 64) none (.idx 1 none 3 (.tmp 61) (.tmp 62)),
   .k (some 14) none (.asg (.tmp 64))])
 (.seq (.ops [.f (some 66) none (.mv (.tmp 14)),
   .k (some 67) none (.call 12 [(.tmp 66)]),
   .f (some 65) none (.mv (.tmp 67)),
   .f (some 68) none (.extract 0 (.tmp 65)),
   .f (some 69) none (.extract 1 (.tmp 65)),
   .f (some 70) none (.extract 2 (.tmp 65)),
   .k (some 15) none (.alloc 35 [(.int .i64 0), (.int .i64 0)]),
   .k none none (.store 2 (.tmp 15) (.tmp 68)),
   .k (some 16) none (.asg (.tmp 69)),
   .k (some 17) none (.asg (.tmp 70))])
 (.seq (.ops [.f (some 72) none (.mv (.tmp 14)),
   .k (some 73) none (.call 17 [(.tmp 72)]),
   .f (some 71) none (.mv (.tmp 73)),
   .f (some 74) none (.extract 0 (.tmp 71)),
   .f (some 75) none (.extract 1 (.tmp 71)),
   .f (some 76) none (.extract 2 (.tmp 71)),
   .k (some 18) none (.alloc 35 [(.int .i64 0), (.int .i64 0)]),
   .k none none (.store 2 (.tmp 18) (.tmp 74)),
   .k (some 19) none (.asg (.tmp 75)),
   .k (some 20) none (.asg (.tmp 76))])
 (.seq (.ops [.f (some 78) none (.mv (.tmp 14)),
   .k (some 79) none (.call 18 [(.tmp 78)]),
   .f (some 77) none (.mv (.tmp 79)),
   .f (some 80) none (.extract 0 (.tmp 77)),
   .f (some 81) none (.extract 1 (.tmp 77)),
   .f (some 82) none (.extract 2 (.tmp 77)),
   .k (some 21) none (.alloc 35 [(.int .i64 0), (.int .i64 0)]),
   .k (some 22) none (.alloc 35 [(.int .i64 0), (.int .i64 0)]),
   .k none none (.store 2 (.tmp 21) (.tmp 80)),
   .k none none (.store 2 (.tmp 22) (.tmp 81)),
   .k (some 23) none (.asg (.tmp 82))])
 (.seq (.ops [.f (some 84) none (.mv (.tmp 14)),
   .k (some 85) none (.call 19 [(.tmp 84)]),
   .f (some 83) none (.mv (.tmp 85)),
   .f (some 86) none (.extract 0 (.tmp 83)),
   .f (some 87) none (.extract 1 (.tmp 83)),
   .f (some 88) none (.extract 2 (.tmp 83)),
   .k (some 24) none (.alloc 35 [(.int .i64 0), (.int .i64 0)]),
   .k (some 25) none (.alloc 35 [(.int .i64 0), (.int .i64 0)]),
   .k none none (.store 2 (.tmp 24) (.tmp 86)),
   .k none none (.store 2 (.tmp 25) (.tmp 87)),
   .k (some 26) none (.asg (.tmp 88))])
 (.seq (.ops [.f (some 90) none (.mv (.tmp 14)),
   .k (some 91) none (.call 20 [(.tmp 90)]),
   .f (some 89) none (.mv (.tmp 91)),
   .f (some 92) none (.extract 0 (.tmp 89)),
   .f (some 93) none (.extract 1 (.tmp 89)),
   .f (some 94) none (.extract 2 (.tmp 89)),
   .k (some 27) none (.alloc 35 [(.int .i64 0), (.int .i64 0)]),
   .k (some 28) none (.alloc 35 [(.int .i64 0), (.int .i64 0)]),
   .k none none (.store 2 (.tmp 27) (.tmp 92)),
   .k none none (.store 2 (.tmp 28) (.tmp 93)),
   .k (some 29) none (.asg (.tmp 94))])
 (.seq (.ops [.f (some 96) none (.mv (.tmp 14)),
   .k (some 97) none (.call 21 [(.tmp 96)]),
   .f (some 95) none (.mv (.tmp 97)),
   .f (some 98) none (.extract 0 (.tmp 95)),
   .f (some 99) none (.extract 1 (.tmp 95)),
   .f (some 100) none (.extract 2 (.tmp 95)),
   .k (some 30) none (.alloc 35 [(.int .i64 0), (.int .i64 0)]),
   .k (some 31) none (.alloc 35 [(.int .i64 0), (.int .i64 0)]),
   .k none none (.store 2 (.tmp 30) (.tmp 98)),
   .k none none (.store 2 (.tmp 31) (.tmp 99)),
   .k (some 32) none (.asg (.tmp 100))])
 (.seq (.ops [.f (some 101) none (.load (some 2) (.tmp 15)),
   .f (some 102) none (.load (some 2) (.tmp 18)),
   .f (some 103) none (.eql true (.st [(0, none, .num), (1, none, .num)]) (.tmp 101) (.tmp 102)),
   .f (some 104) none (.mv (.tmp 103)),
   .f (some 105) (some (104, false)) (.mv (.tmp 16)),
   .f (some 106) (some (104, false)) (.mv (.tmp 19)),
   .f (some 107) (some (104, false)) (.bin .neq (.tmp 105) (.tmp 106)),
   .f (some 108) none (.pick (.tmp 104) (.const (.bool true)) (.tmp 107)),
   .f (some 109) none (.mv (.tmp 108)),
   .f (some 110) (some (109, false)) (.mv (.tmp 17)),
   .f (some 111) (some (109, false)) (.mv (.tmp 20)),
   .f (some 112) (some (109, false)) (.bin .neq (.tmp 110) (.tmp 111)),
   .f (some 113) none (.pick (.tmp 109) (.const (.bool true)) (.tmp 112)),
   .f (some 114) none (.mv (.tmp 113)),
   .f (some 115) (some (114, false)) (.load (some 2) (.tmp 21)),
   .f (some 116) (some (114, false)) (.load (some 2) (.tmp 24)),
   .f (some 117) (some (114, false)) (.eql true (.st [(0, none, .num), (1, none, .num)]) (.tmp 115) (.tmp 116)),
   .f (some 118) none (.pick (.tmp 114) (.const (.bool true)) (.tmp 117)),
   .f (some 119) none (.mv (.tmp 118)),
   .f (some 120) (some (119, false)) (.load (some 2) (.tmp 22)),
   .f (some 121) (some (119, false)) (.load (some 2) (.tmp 25)),
   .f (some 122) (some (119, false)) (.eql true (.st [(0, none, .num), (1, none, .num)]) (.tmp 120) (.tmp 121)),
   .f (some 123) none (.pick (.tmp 119) (.const (.bool true)) (.tmp 122)),
   .f (some 124) none (.mv (.tmp 123)),
   .f (some 125) (some (124, false)) (.mv (.tmp 23)),
   .f (some 126) (some (124, false)) (.mv (.tmp 26)),
   .f (some 127) (some (124, false)) (.binb .neq (.tmp 125) (.tmp 126)),
   .f (some 128) none (.pick (.tmp 124) (.const (.bool true)) (.tmp 127)),
   .f (some 129) none (.mv (.tmp 128)),
   .f (some 130) (some (129, false)) (.load (some 2) (.tmp 27)),
   .f (some 131) (some (129, false)) (.load (some 2) (.tmp 30)),
   .f (some 132) (some (129, false)) (.eql true (.st [(0, none, .num), (1, none, .num)]) (.tmp 130) (.tmp 131)),
   .f (some 133) none (.pick (.tmp 129) (.const (.bool true)) (.tmp 132)),
   .f (some 134) none (.mv (.tmp 133)),
   .f (some 135) (some (134, false)) (.load (some 2) (.tmp 28)),
   .f (some 136) (some (134, false)) (.load (some 2) (.tmp 31)),
   .f (some 137) (some (134, false)) (.eql true (.st [(0, none, .num), (1, none, .num)]) (.tmp 135) (.tmp 136)),
   .f (some 138) none (.pick (.tmp 134) (.const (.bool true)) (.tmp 137)),
   .f (some 139) none (.mv (.tmp 138)),
   .f (some 140) (some (139, false)) (.mv (.tmp 29)),
   .f (some 141) (some (139, false)) (.mv (.tmp 32)),
   .f (some 142) (some (139, false)) (.binb .neq (.tmp 140) (.tmp 141)),
   .f (some 143) none (.pick (.tmp 139) (.const (.bool true)) (.tmp 142))])
 (.cond (.tmp 143)
  (.seq (.ops [.k (some 10) none (.asg (.const (.bool false)))])
  .ret)
  .skip))))))))))
(.ops [.f (some 144) none (.bin .add (.tmp 62) (.const (.int .i64 1))),
  .f (some 62) none (.mv (.tmp 144))]))))
def c5_1 : Cd :=
(.seq (.ops [.f (some 152) none (.bin .lss (.tmp 151) (.const (.int .i64 4)))])
(.seq (.cond (.tmp 152)
 .skip
 (.exit 2))
(.seq (.block 3
 (.seq (.ops [.f (some 153) none (.idx 1 none 4 (.tmp 150) (.tmp 151)),
   .k (some 34) none (.asg (.tmp 153))])
 (.seq (.ops [.f (some 155) none (.mv (.tmp 34)),
   .f (some 156) none (.mv (.tmp 3)),
   .f (some 157) none (.mv (.tmp 4)),
   .k (some 158) none (.call 7 [(.tmp 155), (.tmp 156), (.tmp 157)]),
   .f (some 154) none (.mv (.tmp 158)),
   .f (some 159) none (.extract 0 (.tmp 154)),
   .f (some 160) none (.extract 1 (.tmp 154)),
   .k (some 35) none (.asg (.tmp 159)),
   .k (some 36) none (.asg (.tmp 160))])
 (.seq (.ops [.f (some 162) none (.mv (.tmp 34)),
   .f (some 163) none (.mv (.tmp 3)),
   .f (some 164) none (.mv (.tmp 4)),
   .k (some 165) none (.call 22 [(.tmp 162), (.tmp 163), (.tmp 164)]),
   .f (some 161) none (.mv (.tmp 165)),
   .f (some 166) none (.extract 0 (.tmp 161)),
   .f (some 167) none (.extract 1 (.tmp 161)),
   .k (some 37) none (.asg (.tmp 166)),
   .k (some 38) none (.asg (.tmp 167))])
 (.seq (.ops [.f (some 169) none (.mv (.tmp 34)),
   .f (some 170) none (.mv (.tmp 11)),
   .k (some 171) none (.call 13 [(.tmp 170), (.const (.int .i64 20))]),
   .f (some 172) none (.mv (.tmp 11)),
   .k (some 173) none (.call 13 [(.tmp 172), (.const (.int .i64 100))]),
   .k (some 174) none (.call 7 [(.tmp 169), (.tmp 171), (.tmp 173)]),
   .f (some 168) none (.mv (.tmp 174)),
   .f (some 175) none (.extract 0 (.tmp 168)),
   .f (some 176) none (.extract 1 (.tmp 168)),
   .k (some 39) none (.asg (.tmp 175)),
   .k (some 40) none (.asg (.tmp 176))])
 (.seq (.ops [.f (some 177) none (.mv (.tmp 34)),
   .k (some 178) none (.call 8 [(.tmp 177)]),
   .f (some 179) none (.mv (.tmp 34)),
   .k (some 180) none (.call 23 [(.tmp 179)]),
   .f (some 181) none (.bin .neq (.tmp 178) (.tmp 180)),
   .f (some 182) none (.mv (.tmp 181)),
   .f (some 183) (some (182, false)) (.mv (.tmp 35)),
   .f (some 184) (some (182, false)) (.mv (.tmp 37)),
   .f (some 185) (some (182, false)) (.bin .neq (.tmp 183) (.tmp 184)),
   .f (some 186) none (.pick (.tmp 182) (.const (.bool true)) (.tmp 185)),
   .f (some 187) none (.mv (.tmp 186)),
   .f (some 188) (some (187, false)) (.mv (.tmp 36)),
   .f (some 189) (some (187, false)) (.mv (.tmp 38)),
   .f (some 190) (some (187, false)) (.bin .neq (.tmp 188) (.tmp 189)),
   .f (some 191) none (.pick (.tmp 187) (.const (.bool true)) (.tmp 190)),
   .f (some 192) none (.mv (.tmp 191)),
   .f (some 193) (some (192, false)) (.mv (.tmp 40)),
   .f (some 194) (some (192, false)) (.bin .eql (.tmp 193) (.const (.int .i64 0))),
   .f (some 195) (some (192, false)) (.mv (.tmp 194)),
   .f (some 196) (some (195, true)) (.mv (.tmp 39)),
   .f (some 197) (some (195, true)) (.mv (.tmp 34)),
   .f (some 198) (some (195, true)) (.bin .lss (.tmp 196) (.tmp 197)),
   .f (some 199) (some (192, false)) (.pick (.tmp 195) (.tmp 198) (.const (.bool false))),
   .f (some 200) none (.pick (.tmp 192) (.const (.bool true)) (.tmp 199))])
 (.cond (.tmp 200)
  (.seq (.ops [.k (some 10) none (.asg (.const (.bool false)))])
  .ret)
  .skip)))))))
(.ops [.f (some 201) none (.bin .add (.tmp 151) (.const (.int .i64 1))),
  .f (some 151) none (.mv (.tmp 201))]))))
def c5 : Cd :=
(.seq (.ops [.k (some 10) none (.asg (.const (.bool false)))])
(.seq (.seq (.ops [.f (some 41) none (.mv (.tmp 1)),
  .f (some 42) none (.len (.tmp 41)),
  .f (some 43) none (.bin .gtr (.tmp 42) (.const (.int .i64 10)))])
(.cond (.tmp 43)
 (.seq (.ops [.k (some 44) none (.call 9 []),
   .k (some 10) none (.asg (.tmp 44))])
 .ret)
 .skip))
(.seq (.ops [.f (some 45) none (.mv (.tmp 0)),
  .k (some 46) none (.call 10 [(.tmp 45)]),
  .k (some 11) none (.asg (.tmp 46))])
(.seq (.ops [.f (some 47) none (.mv (.tmp 11)),
  .k (some 48) none (.call 11 [(.tmp 47), (.const (.int .i64 3))]),
  .f (some 49) none (.mv (.tmp 11)),
  .k (some 50) none (.call 15 [(.tmp 49)]),
  .f (some 51) none (.mv (.tmp 11)),
  .k (some 52) none (.bslice 3 1 4 [(.int .i64 0)] [(0, 1, (.const (.int .i64 0))), (1, 1, (.const (.int .i64 1))), (2, 1, (.const (.int .i64 100000))), (3, 1, (.const (.int .i64 100001)))]),
  .k (some 53) none (.call 16 [(.tmp 51), (.tmp 52)]),
  .f (some 54) none (.build [(.int .i64 0), (.int .i64 0), (.int .i64 0), (.int .i64 0)] [(1, 1, (.tmp 50)), (3, 1, (.tmp 53))]),
  .k (some 55) none (.bslice 39 4 1 [(.int .i64 0), (.int .i64 0), (.int .i64 0), (.int .i64 0)] [(0, 4, (.tmp 54))]),
  .k (some 56) none (.append 39 4 32 (.tmp 48) (.tmp 55)),
  .k (some 12) none (.asg (.tmp 56))])
(.seq (.seq (.ops [.f (some 57) none (.mv (.tmp 11)),
  .k (some 58) none (.call 11 [(.tmp 57), (.const (.int .i64 8))]),
  .f (some 59) none (.mv (.tmp 1)),
  .f (some 60) none (.mv (.tmp 12)),
  .f (some 61) none (.build [(.slice none 0 0), (.slice none 0 0), (.slice none 0 0)] [(0, 1, (.tmp 58)), (1, 1, (.tmp 59)), (2, 1, (.tmp 60))]),
  .f (some 62) none (.mv (.const (.int .i64 0)))])
(.block 0
 (.loop c5_0)))
(.seq (.seq (.ops [.f (some 145) none (.mv (.tmp 2)),
  .f (some 146) none (.mv (.tmp 11)),
  .k (some 147) none (.call 13 [(.tmp 146), (.const (.int .i64 3000))]),
  .f (some 148) none (.mv (.tmp 11)),
  .k (some 149) none (.call 15 [(.tmp 148)]),
  .f (some 150) none (.build [(.int .i64 0), (.int .i64 0), (.int .i64 0), (.int .i64 0)] [(0, 1, (.tmp 145)), (1, 1, (.tmp 147)), (2, 1, (.tmp 149)), (3, 1, (.const (.int .i64 1)))]),
  .f (some 151) none (.mv (.const (.int .i64 0)))])
(.block 2
 (.loop c5_1)))
(.seq (.ops [.k (some 202) none (.call 9 []),
  .k (some 10) none (.asg (.tmp 202))])
.ret)))))))
theorem fn5 : FnOK Try.prog 5 203 c5 [.tmp 10] := .of (by kernel_rfl)
/-! 'dynpos/fuse.Grow' -/
def c7 : Cd :=
(.seq (.ops [.k (some 6) none (.asg (.const (.int .i64 0))),
  .k (some 7) none (.asg (.const (.int .i64 0)))])
(.seq (.seq (.ops [.f (some 8) none (.mv (.tmp 0)),
  .f (some 9) none (.bin .lss (.tmp 8) (.const (.int .i64 0))),
  .f (some 10) none (.mv (.tmp 9)),
  .f (some 11) (some (10, false)) (.mv (.tmp 0)),
  .f (some 12) (some (10, false)) (.bin .gtr (.tmp 11) (.const (.int .i64 200000000))),
  .f (some 13) none (.pick (.tmp 10) (.const (.bool true)) (.tmp 12)),
  .f (some 14) none (.mv (.tmp 13)),
  .f (some 15) (some (14, false)) (.mv (.tmp 1)),
  .f (some 16) (some (14, false)) (.bin .lss (.tmp 15) (.const (.int .i64 0))),
  .f (some 17) none (.pick (.tmp 14) (.const (.bool true)) (.tmp 16)),
  .f (some 18) none (.mv (.tmp 17)),
  .f (some 19) (some (18, false)) (.mv (.tmp 1)),
  .f (some 20) (some (18, false)) (.bin .gtr (.tmp 19) (.const (.int .i64 1000))),
  .f (some 21) none (.pick (.tmp 18) (.const (.bool true)) (.tmp 20)),
  .f (some 22) none (.mv (.tmp 21)),
  .f (some 23) (some (22, false)) (.mv (.tmp 2)),
  .f (some 24) (some (22, false)) (.bin .lss (.tmp 23) (.const (.int .i64 0))),
  .f (some 25) none (.pick (.tmp 22) (.const (.bool true)) (.tmp 24)),
  .f (some 26) none (.mv (.tmp 25)),
  .f (some 27) (some (26, false)) (.mv (.tmp 2)),
  .f (some 28) (some (26, false)) (.bin .gtr (.tmp 27) (.const (.int .i64 2147483648))),
  .f (some 29) none (.pick (.tmp 26) (.const (.bool true)) (.tmp 28))])
(.cond (.tmp 29)
 (.seq (.ops [.k (some 6) none (.asg (.const (.int .i64 0))),
   .k (some 7) none (.asg (.const (.int .i64 1)))])
 .ret)
 .skip))
(.seq (.ops [.f (some 30) none (.mv (.tmp 0)),
  .f (some 31) none (.mv (.tmp 1)),
  .f (some 32) none (.mv (.tmp 2)),
  .f (some 33) none (.bin .mul (.tmp 31) (.tmp 32)),
  .f (some 34) none (.bin .add (.tmp 30) (.tmp 33)),
  .f (some 35) none (.mm false [(.tmp 34), (.const (.int .i64 200000000))]),
  .k (some 6) none (.asg (.tmp 35)),
  .k (some 7) none (.asg (.const (.int .i64 0)))])
.ret)))
theorem fn7 : FnOK Try.prog 7 36 c7 [.tmp 6, .tmp 7] := .of (by kernel_rfl)
/-! 'dynpos/fuse.Weight' -/
def c8 : Cd :=
(.seq (.ops [.k (some 2) none (.asg (.const (.int .i64 0)))])
(.seq (.seq (.ops [.f (some 3) none (.mv (.tmp 0)),
  .f (some 4) none (.bin .lss (.tmp 3) (.const (.int .i64 1))),
  .f (some 5) none (.mv (.tmp 4)),
  .f (some 6) (some (5, false)) (.mv (.tmp 0)),
  .f (some 7) (some (5, false)) (.bin .gtr (.tmp 6) (.const (.int .i64 100000))),
  .f (some 8) none (.pick (.tmp 5) (.const (.bool true)) (.tmp 7))])
(.cond (.tmp 8)
 (.seq (.ops [.k (some 2) none (.asg (.const (.int .i64 0)))])
 .ret)
 .skip))
(.seq (.ops [.f (some 9) none (.mv (.tmp 0)),
  .f (some 10) none (.mv (.tmp 0)),
  .f (some 11) none (.bin .mul (.tmp 9) (.tmp 10)),
  .f (some 12) none (.bin .quo (.const (.int .i64 1000000000)) (.tmp 11)),
  .f (some 13) none (.mm true [(.const (.int .i64 1)), (.tmp 12)]),
  .k (some 2) none (.asg (.tmp 13))])
.ret)))
theorem fn8 : FnOK Try.prog 8 14 c8 [.tmp 2] := .of (by kernel_rfl)
/-! 'dynpos/dynposlaw09.sane' -/
def c9 : Cd :=
(.seq (.ops [.k (some 0) none (.asg (.const (.bool false)))])
(.seq (.ops [.f (some 7) none (.build [(.int .i64 0), (.int .i64 0), (.int .i64 0), (.int .i64 0)] [(3, 1, (.const (.int .i64 10)))]),
  .f (some 8) none (.build [(.int .i64 0), (.int .i64 0), (.int .i64 0), (.int .i64 0)] [(1, 1, (.const (.int .i64 10))), (3, 1, (.const (.int .i64 10)))]),
  .k (some 9) none (.bslice 39 4 2 [(.int .i64 0), (.int .i64 0), (.int .i64 0), (.int .i64 0)] [(0, 4, (.tmp 7)), (4, 4, (.tmp 8))]),
  .k (some 10) none (.call 12 [(.tmp 9)]),
  .f (some 6) none (.mv (.tmp 10)),
  .f (some 11) none (.extract 0 (.tmp 6)),
  .f (some 12) none (.extract 1 (.tmp 6)),
  .f (some 13) none (.extract 2 (.tmp 6)),
  .k (some 1) none (.alloc 35 [(.int .i64 0), (.int .i64 0)]),
  .k none none (.store 2 (.tmp 1) (.tmp 11)),
  .k (some 2) none (.asg (.tmp 12)),
  .k (some 3) none (.asg (.tmp 13))])
(.seq (.ops [.k (some 15) none (.call 7 [(.const (.int .i64 5)), (.const (.int .i64 10)), (.const (.int .i64 3))]),
  .f (some 14) none (.mv (.tmp 15)),
  .f (some 16) none (.extract 0 (.tmp 14)),
  .f (some 17) none (.extract 1 (.tmp 14)),
  .k (some 4) none (.asg (.tmp 16)),
  .k (some 5) none (.asg (.tmp 17))])
(.seq (.ops [.f (some 18) none (.mv (.tmp 3)),
  .f (some 19) none (.bin .eql (.tmp 18) (.const (.int .i64 0))),
  .f (some 20) none (.mv (.tmp 19)),
  .f (some 21) (some (20, true)) (.load (some 2) (.tmp 1)),
  .f (some 22) (some (20, true)) (.build [(.int .i64 0), (.int .i64 0)] [(0, 1, (.const (.int .i64 5)))]),
  .f (some 23) (some (20, true)) (.eql false (.st [(0, none, .num), (1, none, .num)]) (.tmp 21) (.tmp 22)),
  .f (some 24) none (.pick (.tmp 20) (.tmp 23) (.const (.bool false))),
  .f (some 25) none (.mv (.tmp 24)),
  .f (some 26) (some (25, true)) (.mv (.tmp 2)),
  .f (some 27) (some (25, true)) (.bin .eql (.tmp 26) (.const (.int .i64 15))),
  .f (some 28) none (.pick (.tmp 25) (.tmp 27) (.const (.bool false))),
  .f (some 29) none (.mv (.tmp 28)),
  .f (some 30) (some (29, true)) (.mv (.tmp 5)),
  .f (some 31) (some (29, true)) (.bin .eql (.tmp 30) (.const (.int .i64 0))),
  .f (some 32) none (.pick (.tmp 29) (.tmp 31) (.const (.bool false))),
  .f (some 33) none (.mv (.tmp 32)),
  .f (some 34) (some (33, true)) (.mv (.tmp 4)),
  .f (some 35) (some (33, true)) (.bin .eql (.tmp 34) (.const (.int .i64 35))),
  .f (some 36) none (.pick (.tmp 33) (.tmp 35) (.const (.bool false))),
  .f (some 37) none (.mv (.tmp 36)),
  .k (some 38) (some (37, true)) (.call 8 [(.const (.int .i64 0))]),
  .f (some 39) (some (37, true)) (.bin .eql (.tmp 38) (.const (.int .i64 0))),
  .f (some 40) none (.pick (.tmp 37) (.tmp 39) (.const (.bool false))),
  .k (some 0) none (.asg (.tmp 40))])
.ret))))
theorem fn9 : FnOK Try.prog 9 41 c9 [.tmp 0] := .of (by kernel_rfl)
/-! 'dynpos/dynposmake.New' -/
def c10 : Cd :=
(.seq (.ops [.k (some 2) none (.asg (.const (.pointer none)))])
(.seq (.ops [.f (some 3) none (.mv (.tmp 0)),
  .f (some 4) none (.mv (.tmp 0)),
  .f (some 5) none (.len (.tmp 4)),
  .f (some 6) none (.mm false [(.tmp 5), (.const (.int .i64 600))]),
  .f (some 7) none (.slc 1 (.tmp 3) none (some (.tmp 6)) none),
  .f (some 8) none (.build [(.slice none 0 0), (.int .i64 0)] [(0, 1, (.tmp 7))]),
  .k (some 9) none (.box 51 2 (.tmp 8)),
  .k (some 2) none (.asg (.tmp 9))])
.ret))
theorem fn10 : FnOK Try.prog 10 10 c10 [.tmp 2] := .of (by kernel_rfl)
/-! '(*dynpos/dynposmake.Src).Now' -/
def c11_0 : Cd :=
(.seq (.seq (.ops [.f (some 11) none (.mv (.tmp 6)),
  .f (some 12) none (.bin .gtr (.tmp 11) (.const (.int .i64 0)))])
(.cond (.tmp 12)
 .skip
 (.exit 0)))
(.seq (.block 1
 (.ops [.f (some 15) none (.mv (.tmp 5)),
   .f (some 16) none (.mv (.tmp 0)),
   .k (some 17) none (.call 25 [(.tmp 16), (.const (.int .i64 0))]),
   .k (some 18) none (.bslice 39 4 1 [(.int .i64 0), (.int .i64 0), (.int .i64 0), (.int .i64 0)] [(0, 4, (.tmp 17))]),
   .k (some 19) none (.append 39 4 32 (.tmp 15) (.tmp 18)),
   .k (some 5) none (.asg (.tmp 19))]))
(.ops [.f (some 13) none (.mv (.tmp 6)),
  .f (some 14) none (.bin .sub (.tmp 13) (.const (.int .i64 1))),
  .k (some 6) none (.asg (.tmp 14))])))
def c11 : Cd :=
(.seq (.ops [.k (some 4) none (.asg (.const (.slice none 0 0)))])
(.seq (.ops [.k (some 5) none (.asg (.const (.slice none 0 0)))])
(.seq (.seq (.ops [.f (some 7) none (.mv (.tmp 0)),
  .f (some 8) none (.mv (.tmp 1)),
  .f (some 9) none (.bin .add (.tmp 8) (.const (.int .i64 1))),
  .k (some 10) none (.call 13 [(.tmp 7), (.tmp 9)]),
  .k (some 6) none (.asg (.tmp 10))])
(.block 0
 (.loop c11_0)))
(.seq (.ops [.f (some 20) none (.mv (.tmp 5)),
  .k (some 4) none (.asg (.tmp 20))])
.ret))))
theorem fn11 : FnOK Try.prog 11 21 c11 [.tmp 4] := .of (by kernel_rfl)
/-! 'dynpos/fuse.Fuse' -/
def c12_0 : Cd :=
(.block 1
 (.seq (.ops [.f (some 32) none (.iaddr 4 none (.tmp 28) (.tmp 30)),
   .f (some 33) none (.load (some 4) (.tmp 32)),
   .k (some 8) none (.alloc 39 [(.int .i64 0), (.int .i64 0), (.int .i64 0), (.int .i64 0)]),
   .k none none (.store 4 (.tmp 8) (.tmp 33))])
 (.ops [.f (some 34) none (.mv (.tmp 6)),
   .f (some 35) none (.faddr 3 (.tmp 8)),
   .f (some 36) none (.load none (.tmp 35)),
   .k (some 37) none (.call 8 [(.tmp 36)]),
   .f (some 38) none (.mm true [(.tmp 34), (.tmp 37)]),
   .k (some 6) none (.asg (.tmp 38))])))
def c12_1 : Cd :=
(.block 3
 (.seq (.ops [.f (some 44) none (.iaddr 4 none (.tmp 40) (.tmp 42)),
   .f (some 45) none (.load (some 4) (.tmp 44)),
   .k (some 13) none (.alloc 39 [(.int .i64 0), (.int .i64 0), (.int .i64 0), (.int .i64 0)]),
   .k none none (.store 4 (.tmp 13) (.tmp 45))])
 (.seq (.ops [.f (some 47) none (.faddr 3 (.tmp 13)),
   .f (some 48) none (.load none (.tmp 47)),
   .k (some 49) none (.call 8 [(.tmp 48)]),
   .f (some 50) none (.bin .mul (.const (.int .i64 1000)) (.tmp 49)),
   .f (some 51) none (.mv (.tmp 6)),
   .k (some 52) none (.call 27 [(.tmp 50), (.tmp 51)]),
   .f (some 46) none (.mv (.tmp 52)),
   .f (some 53) none (.extract 0 (.tmp 46)),
   .f (some 54) none (.extract 1 (.tmp 46)),
   .k (some 14) none (.asg (.tmp 53)),
   .k (some 15) none (.asg (.tmp 54))])
 (.opd [⟨0, .f (some 55) none (.mv (.tmp 9)), []⟩,
   ⟨1, .f (some 56) none (.mv (.tmp 14)), []⟩,
   ⟨2, .f (some 57) none (.faddr 1 (.tmp 13)), []⟩,
   ⟨3, .f (some 58) none (.load none (.tmp 57)), []⟩,
   ⟨4, .f (some 59) none (.bin .mul (.tmp 56) (.tmp 58)), []⟩,
   ⟨5, .f (some 60) none (.bin .add (.tmp 55) (.tmp 59)), []⟩,
   ⟨6, .f (some 61) none (.mv (.tmp 10)), []⟩,
   ⟨7, .f (some 62) none (.mv (.tmp 14)), []⟩,
   ⟨8, .f (some 63) none (.faddr 2 (.tmp 13)), []⟩,
   ⟨9, .f (some 64) none (.load none (.tmp 63)), []⟩,
   ⟨10, .f (some 65) none (.bin .mul (.tmp 62) (.tmp 64)), []⟩,
   ⟨11, .f (some 66) none (.bin .add (.tmp 61) (.tmp 65)), []⟩,
   ⟨12, .f (some 67) none (.mv (.tmp 11)), []⟩,
   ⟨13, .f (some 68) none (.mv (.tmp 14)), []⟩,
   ⟨14, .f (some 69) none (.bin .add (.tmp 67) (.tmp 68)), []⟩,
   ⟨15, .k (some 9) none (.asg (.tmp 60)), [.f (some 64) none (.load none (.tmp 63))]⟩,
   ⟨16, .k (some 10) none (.asg (.tmp 66)), []⟩,
   ⟨17, .k (some 11) none (.asg (.tmp 69)), []⟩]))))
def c12_2 : Cd :=
(.block 5
 (.seq (.ops [.f (some 89) none (.iaddr 4 none (.tmp 85) (.tmp 87)),
   .f (some 90) none (.load (some 4) (.tmp 89)),
   .k (some 19) none (.alloc 39 [(.int .i64 0), (.int .i64 0), (.int .i64 0), (.int .i64 0)]),
   .k none none (.store 4 (.tmp 19) (.tmp 90))])
 (.seq (.opd [⟨0, .f (some 92) none (.load (some 2) (.tmp 16)), []⟩,
   ⟨1, .f (some 93) none (.load (some 4) (.tmp 19)), []⟩,
   ⟨2, .k (some 94) none (.call 30 [(.tmp 93)]), [.f (some 92) none (.load (some 2) (.tmp 16))]⟩,
   ⟨3, .k (some 95) none (.call 29 [(.tmp 92), (.tmp 94)]), []⟩,
   ⟨4, .f (some 91) none (.mv (.tmp 95)), []⟩,
   ⟨5, .f (some 96) none (.extract 0 (.tmp 91)), []⟩,
   ⟨6, .f (some 97) none (.extract 1 (.tmp 91)), []⟩,
   ⟨7, .k (some 20) none (.asg (.tmp 96)), []⟩,
   ⟨8, .k (some 21) none (.asg (.tmp 97)), []⟩])
 (.ops [.f (some 98) none (.mv (.tmp 17)),
   .f (some 99) none (.mv (.tmp 20)),
   .f (some 100) none (.faddr 3 (.tmp 19)),
   .f (some 101) none (.load none (.tmp 100)),
   .f (some 102) none (.bin .add (.tmp 99) (.tmp 101)),
   .f (some 103) none (.mm true [(.tmp 98), (.tmp 102)]),
   .k (some 17) none (.asg (.tmp 103))]))))
def c12 : Cd :=
(.seq (.ops [.k (some 2) none (.alloc 35 [(.int .i64 0), (.int .i64 0)]),
  .k (some 3) none (.asg (.const (.int .i64 0))),
  .k (some 4) none (.asg (.const (.int .i64 0)))])
(.seq (.seq (.ops [.f (some 22) none (.mv (.tmp 0)),
  .k (some 23) none (.call 26 [(.tmp 22)]),
  .k (some 5) none (.asg (.tmp 23))])
(.seq (.ops [.f (some 24) none (.mv (.tmp 5)),
  .f (some 25) none (.bin .neq (.tmp 24) (.const (.int .i64 0)))])
(.cond (.tmp 25)
 (.seq (.ops [.f (some 26) none (.build [(.int .i64 0), (.int .i64 0)] []),
   .f (some 27) none (.mv (.tmp 5)),
   .k none none (.store 2 (.tmp 2) (.tmp 26)),
   .k (some 3) none (.asg (.const (.int .i64 0))),
   .k (some 4) none (.asg (.tmp 27))])
 .ret)
 .skip)))
(.seq (.ops [.k (some 6) none (.asg (.const (.int .i64 0)))])
(.seq (.seq (.ops [.f (some 28) none (.mv (.tmp 0)),
  .f (some 29) none (.len (.tmp 28)),
  .f (some 30) none (.mv (.const (.int .i64 0)))])
(rangeC 0 30 29 31 39 c12_0))
(.seq (.ops [.k (some 9) none (.asg (.const (.int .i64 0))),
  .k (some 10) none (.asg (.const (.int .i64 0))),
  .k (some 11) none (.asg (.const (.int .i64 0)))])
(.seq (.seq (.ops [.f (some 40) none (.mv (.tmp 0)),
  .f (some 41) none (.len (.tmp 40)),
  .f (some 42) none (.mv (.const (.int .i64 0)))])
(rangeC 2 42 41 43 70 c12_1))
(.seq (.ops [.k (some 16) none (.alloc 35 [(.int .i64 0), (.int .i64 0)])])
(.seq (.ops [.f (some 72) none (.mv (.tmp 9)),
  .f (some 73) none (.mv (.tmp 11)),
  .k (some 74) none (.call 28 [(.tmp 72), (.tmp 73)]),
  .f (some 71) none (.mv (.tmp 74)),
  .f (some 75) none (.extract 0 (.tmp 71)),
  .f (some 76) none (.extract 1 (.tmp 71)),
  .f (some 77) none (.faddr 0 (.tmp 16)),
  .k none none (.store 1 (.tmp 77) (.tmp 75))])
(.seq (.ops [.f (some 79) none (.mv (.tmp 10)),
  .f (some 80) none (.mv (.tmp 11)),
  .k (some 81) none (.call 28 [(.tmp 79), (.tmp 80)]),
  .f (some 78) none (.mv (.tmp 81)),
  .f (some 82) none (.extract 0 (.tmp 78)),
  .f (some 83) none (.extract 1 (.tmp 78)),
  .f (some 84) none (.faddr 1 (.tmp 16)),
  .k none none (.store 1 (.tmp 84) (.tmp 82))])
(.seq (.ops [.k (some 17) none (.asg (.const (.int .i64 0)))])
(.seq (.seq (.ops [.f (some 85) none (.mv (.tmp 0)),
  .f (some 86) none (.len (.tmp 85)),
  .f (some 87) none (.mv (.const (.int .i64 0)))])
(rangeC 4 87 86 88 104 c12_2))
(.seq (.ops [.f (some 105) none (.load (some 2) (.tmp 16)),
  .f (some 106) none (.mv (.tmp 17)),
  .k none none (.store 2 (.tmp 2) (.tmp 105)),
  .k (some 3) none (.asg (.tmp 106)),
  .k (some 4) none (.asg (.const (.int .i64 0)))])
.ret))))))))))))
theorem fn12 : FnOK Try.prog 12 107 c12 [.cell 2 (some 2), .tmp 3, .tmp 4] := .of (by kernel_rfl)
/-! '(*dynpos/dynposmake.Src).N' -/
def c13 : Cd :=
(.seq (.ops [.k (some 4) none (.asg (.const (.int .i64 0)))])
(.seq (.seq (.opd [⟨0, .f (some 5) none (.mv (.tmp 0)), []⟩,
  ⟨1, .f (some 6) none (.nilc (.tmp 5)), []⟩,
  ⟨2, .f (some 7) none (.faddr 1 (.tmp 6)), []⟩,
  ⟨3, .f (some 8) none (.load none (.tmp 7)), []⟩,
  ⟨4, .f (some 9) none (.mv (.tmp 0)), []⟩,
  ⟨5, .f (some 10) none (.nilc (.tmp 9)), []⟩,
  ⟨6, .f (some 11) none (.faddr 0 (.tmp 10)), []⟩,
  ⟨7, .f (some 12) none (.load none (.tmp 11)), []⟩,
  ⟨8, .f (some 13) none (.len (.tmp 12)), []⟩,
  ⟨9, .f (some 14) none (.bin .geq (.tmp 8) (.tmp 13)), []⟩])
(.cond (.tmp 14)
 (.seq (.ops [.k (some 4) none (.asg (.const (.int .i64 0)))])
 .ret)
 .skip))
(.seq (.ops [.f (some 15) none (.mv (.tmp 0)),
  .f (some 16) none (.nilc (.tmp 15)),
  .f (some 17) none (.faddr 1 (.tmp 16)),
  .f (some 18) none (.load none (.tmp 17)),
  .f (some 19) none (.bin .add (.tmp 18) (.const (.int .i64 1))),
  .f (some 20) none (.nilc (.tmp 15)),
  .f (some 21) none (.faddr 1 (.tmp 20)),
  .k none none (.store 1 (.tmp 21) (.tmp 19))])
(.seq (.opd [⟨0, .f (some 22) none (.mv (.tmp 0)), []⟩,
  ⟨1, .f (some 23) none (.nilc (.tmp 22)), []⟩,
  ⟨2, .f (some 24) none (.faddr 0 (.tmp 23)), []⟩,
  ⟨3, .f (some 25) none (.load none (.tmp 24)), []⟩,
  ⟨4, .f (some 26) none (.mv (.tmp 0)), []⟩,
  ⟨5, .f (some 27) none (.nilc (.tmp 26)), []⟩,
  ⟨6, .f (some 28) none (.faddr 1 (.tmp 27)), []⟩,
  ⟨7, .f (some 29) none (.load none (.tmp 28)), []⟩,
  ⟨8, .f (some 30) none (.bin .sub (.tmp 29) (.const (.int .i64 1))), []⟩,
  ⟨9, .f (some 31) none (.iaddr 1 none (.tmp 25) (.tmp 30)), []⟩,
  ⟨10, .f (some 32) none (.load none (.tmp 31)), []⟩,
  ⟨11, .f (some 33) none (.mv (.tmp 1)), []⟩,
  ⟨12, .k (some 34) none (.call 31 [(.tmp 32), (.tmp 33)]), []⟩,
  ⟨13, .k (some 4) none (.asg (.tmp 34)), []⟩])
.ret))))
theorem fn13 : FnOK Try.prog 13 35 c13 [.tmp 4] := .of (by kernel_rfl)
/-! '(*dynpos/dynposmake.Src).Range' -/
def c14 : Cd :=
(.seq (.ops [.k (some 6) none (.asg (.const (.int .i64 0)))])
(.seq (.ops [.f (some 7) none (.mv (.tmp 1)),
  .f (some 8) none (.mv (.tmp 0)),
  .f (some 9) none (.mv (.tmp 2)),
  .f (some 10) none (.mv (.tmp 1)),
  .f (some 11) none (.bin .sub (.tmp 9) (.tmp 10)),
  .f (some 12) none (.bin .add (.tmp 11) (.const (.int .i64 1))),
  .k (some 13) none (.call 13 [(.tmp 8), (.tmp 12)]),
  .f (some 14) none (.bin .add (.tmp 7) (.tmp 13)),
  .k (some 6) none (.asg (.tmp 14))])
.ret))
theorem fn14 : FnOK Try.prog 14 15 c14 [.tmp 6] := .of (by kernel_rfl)
/-! '(*dynpos/dynposmake.Src).Odd' -/
def c15 : Cd :=
(.seq (.ops [.k (some 2) none (.asg (.const (.int .i64 0)))])
(.seq (.ops [.f (some 3) none (.mv (.tmp 0)),
  .k (some 4) none (.bslice 3 1 15 [(.int .i64 0)] [(0, 1, (.const (.int .i64 (-1)))), (1, 1, (.const (.int .i64 0))), (2, 1, (.const (.int .i64 1))), (3, 1, (.const (.int .i64 4611686018427387904))), (4, 1, (.const (.int .i64 (-4611686018427387904)))), (5, 1, (.const (.int .i64 9223372036854775807))), (6, 1, (.const (.int .i64 (-9223372036854775808)))), (7, 1, (.const (.int .i64 1000000000))), (8, 1, (.const (.int .i64 1000000001))), (9, 1, (.const (.int .i64 (-1000000001)))), (10, 1, (.const (.int .i64 3600))), (11, 1, (.const (.int .i64 1800))), (12, 1, (.const (.int .i64 100000000))), (13, 1, (.const (.int .i64 100000001))), (14, 1, (.const (.int .i64 5001)))]),
  .k (some 5) none (.call 16 [(.tmp 3), (.tmp 4)]),
  .k (some 2) none (.asg (.tmp 5))])
.ret))
theorem fn15 : FnOK Try.prog 15 6 c15 [.tmp 2] := .of (by kernel_rfl)
/-! '(*dynpos/dynposmake.Src).Pick' -/
def c16 : Cd :=
(.seq (.ops [.k (some 4) none (.asg (.const (.int .i64 0)))])
(.seq (.ops [.f (some 5) none (.mv (.tmp 1)),
  .f (some 6) none (.mv (.tmp 0)),
  .f (some 7) none (.mv (.tmp 1)),
  .f (some 8) none (.len (.tmp 7)),
  .k (some 9) none (.call 13 [(.tmp 6), (.tmp 8)]),
  .f (some 10) none (.iaddr 1 none (.tmp 5) (.tmp 9)),
  .f (some 11) none (.load none (.tmp 10)),
  .k (some 4) none (.asg (.tmp 11))])
.ret))
theorem fn16 : FnOK Try.prog 16 12 c16 [.tmp 4] := .of (by kernel_rfl)
/-! 'dynpos/dynposref09.Fuse' -/
def c17_0 : Cd :=
(.block 1
 (.seq (.ops [.f (some 36) none (.iaddr 4 none (.tmp 32) (.tmp 34)),
   .f (some 37) none (.load (some 4) (.tmp 36)),
   .k (some 8) none (.alloc 39 [(.int .i64 0), (.int .i64 0), (.int .i64 0), (.int .i64 0)]),
   .k none none (.store 4 (.tmp 8) (.tmp 37))])
 (.ops [.f (some 38) none (.mv (.tmp 6)),
   .f (some 39) none (.faddr 3 (.tmp 8)),
   .f (some 40) none (.load none (.tmp 39)),
   .k (some 41) none (.call 23 [(.tmp 40)]),
   .f (some 42) none (.mm true [(.tmp 38), (.tmp 41)]),
   .k (some 6) none (.asg (.tmp 42))])))
def c17_1 : Cd :=
(.block 3
 (.seq (.ops [.f (some 48) none (.iaddr 4 none (.tmp 44) (.tmp 46)),
   .f (some 49) none (.load (some 4) (.tmp 48)),
   .k (some 13) none (.alloc 39 [(.int .i64 0), (.int .i64 0), (.int .i64 0), (.int .i64 0)]),
   .k none none (.store 4 (.tmp 13) (.tmp 49))])
 (.seq (.ops [.f (some 51) none (.faddr 3 (.tmp 13)),
   .f (some 52) none (.load none (.tmp 51)),
   .k (some 53) none (.call 23 [(.tmp 52)]),
   .f (some 54) none (.bin .mul (.const (.int .i64 1000)) (.tmp 53)),
   .f (some 55) none (.mv (.tmp 6)),
   .k (some 56) none (.call 33 [(.tmp 54), (.tmp 55)]),
   .f (some 50) none (.mv (.tmp 56)),
   .f (some 57) none (.extract 0 (.tmp 50)),
   .f (some 58) none (.extract 1 (.tmp 50)),
   .k (some 14) none (.asg (.tmp 57)),
   .k (some 15) none (.asg (.tmp 58))])
 (.opd [⟨0, .f (some 59) none (.mv (.tmp 9)), []⟩,
   ⟨1, .f (some 60) none (.mv (.tmp 14)), []⟩,
   ⟨2, .f (some 61) none (.faddr 1 (.tmp 13)), []⟩,
   ⟨3, .f (some 62) none (.load none (.tmp 61)), []⟩,
   ⟨4, .f (some 63) none (.bin .mul (.tmp 60) (.tmp 62)), []⟩,
   ⟨5, .f (some 64) none (.bin .add (.tmp 59) (.tmp 63)), []⟩,
   ⟨6, .f (some 65) none (.mv (.tmp 10)), []⟩,
   ⟨7, .f (some 66) none (.mv (.tmp 14)), []⟩,
   ⟨8, .f (some 67) none (.faddr 2 (.tmp 13)), []⟩,
   ⟨9, .f (some 68) none (.load none (.tmp 67)), []⟩,
   ⟨10, .f (some 69) none (.bin .mul (.tmp 66) (.tmp 68)), []⟩,
   ⟨11, .f (some 70) none (.bin .add (.tmp 65) (.tmp 69)), []⟩,
   ⟨12, .f (some 71) none (.mv (.tmp 11)), []⟩,
   ⟨13, .f (some 72) none (.mv (.tmp 14)), []⟩,
   ⟨14, .f (some 73) none (.bin .add (.tmp 71) (.tmp 72)), []⟩,
   ⟨15, .k (some 9) none (.asg (.tmp 64)), [.f (some 68) none (.load none (.tmp 67))]⟩,
   ⟨16, .k (some 10) none (.asg (.tmp 70)), []⟩,
   ⟨17, .k (some 11) none (.asg (.tmp 73)), []⟩]))))
def c17_2 : Cd :=
(.block 5
 (.seq (.ops [.f (some 94) none (.iaddr 4 none (.tmp 90) (.tmp 92)),
   .f (some 95) none (.load (some 4) (.tmp 94)),
   .k (some 23) none (.alloc 39 [(.int .i64 0), (.int .i64 0), (.int .i64 0), (.int .i64 0)]),
   .k none none (.store 4 (.tmp 23) (.tmp 95))])
 (.seq (.ops [.f (some 97) none (.load (some 2) (.tmp 20)),
   .f (some 98) none (.faddr 1 (.tmp 23)),
   .f (some 99) none (.load none (.tmp 98)),
   .f (some 100) none (.faddr 2 (.tmp 23)),
   .f (some 101) none (.load none (.tmp 100)),
   .f (some 102) none (.build [(.int .i64 0), (.int .i64 0)] [(0, 1, (.tmp 99)), (1, 1, (.tmp 101))]),
   .k (some 103) none (.call 34 [(.tmp 97), (.tmp 102)]),
   .f (some 96) none (.mv (.tmp 103)),
   .f (some 104) none (.extract 0 (.tmp 96)),
   .f (some 105) none (.extract 1 (.tmp 96)),
   .k (some 24) none (.asg (.tmp 104)),
   .k (some 25) none (.asg (.tmp 105))])
 (.ops [.f (some 106) none (.mv (.tmp 21)),
   .f (some 107) none (.mv (.tmp 24)),
   .f (some 108) none (.faddr 3 (.tmp 23)),
   .f (some 109) none (.load none (.tmp 108)),
   .f (some 110) none (.bin .add (.tmp 107) (.tmp 109)),
   .f (some 111) none (.mm true [(.tmp 106), (.tmp 110)]),
   .k (some 21) none (.asg (.tmp 111))]))))
def c17 : Cd :=
(.seq (.ops [.k (some 2) none (.alloc 35 [(.int .i64 0), (.int .i64 0)]),
  .k (some 3) none (.asg (.const (.int .i64 0))),
  .k (some 4) none (.asg (.const (.int .i64 0)))])
(.seq (.seq (.ops [.f (some 26) none (.mv (.tmp 0)),
  .k (some 27) none (.call 32 [(.tmp 26)]),
  .k (some 5) none (.asg (.tmp 27))])
(.seq (.ops [.f (some 28) none (.mv (.tmp 5)),
  .f (some 29) none (.bin .neq (.tmp 28) (.const (.int .i64 0)))])
(.cond (.tmp 29)
 (.seq (.ops [.f (some 30) none (.build [(.int .i64 0), (.int .i64 0)] []),
   .f (some 31) none (.mv (.tmp 5)),
   .k none none (.store 2 (.tmp 2) (.tmp 30)),
   .k (some 3) none (.asg (.const (.int .i64 0))),
   .k (some 4) none (.asg (.tmp 31))])
 .ret)
 .skip)))
(.seq (.ops [.k (some 6) none (.asg (.const (.int .i64 0)))])
(.seq (.seq (.ops [.f (some 32) none (.mv (.tmp 0)),
  .f (some 33) none (.len (.tmp 32)),
  .f (some 34) none (.mv (.const (.int .i64 0)))])
(rangeC 0 34 33 35 43 c17_0))
(.seq (.ops [.k (some 9) none (.asg (.const (.int .i64 0))),
  .k (some 10) none (.asg (.const (.int .i64 0))),
  .k (some 11) none (.asg (.const (.int .i64 0)))])
(.seq (.seq (.ops [.f (some 44) none (.mv (.tmp 0)),
  .f (some 45) none (.len (.tmp 44)),
  .f (some 46) none (.mv (.const (.int .i64 0)))])
(rangeC 2 46 45 47 74 c17_1))
(.seq (.ops [.f (some 76) none (.mv (.tmp 9)),
  .f (some 77) none (.mv (.tmp 11)),
  .k (some 78) none (.call 24 [(.tmp 76), (.tmp 77)]),
  .f (some 75) none (.mv (.tmp 78)),
  .f (some 79) none (.extract 0 (.tmp 75)),
  .f (some 80) none (.extract 1 (.tmp 75)),
  .k (some 16) none (.asg (.tmp 79)),
  .k (some 17) none (.asg (.tmp 80))])
(.seq (.ops [.f (some 82) none (.mv (.tmp 10)),
  .f (some 83) none (.mv (.tmp 11)),
  .k (some 84) none (.call 24 [(.tmp 82), (.tmp 83)]),
  .f (some 81) none (.mv (.tmp 84)),
  .f (some 85) none (.extract 0 (.tmp 81)),
  .f (some 86) none (.extract 1 (.tmp 81)),
  .k (some 18) none (.asg (.tmp 85)),
  .k (some 19) none (.asg (.tmp 86))])
(.seq (.ops [.f (some 87) none (.mv (.tmp 16)),
  .f (some 88) none (.mv (.tmp 18)),
  .f (some 89) none (.build [(.int .i64 0), (.int .i64 0)] [(0, 1, (.tmp 87)), (1, 1, (.tmp 88))]),
  .k (some 20) none (.alloc 35 [(.int .i64 0), (.int .i64 0)]),
  .k none none (.store 2 (.tmp 20) (.tmp 89))])
(.seq (.ops [.k (some 21) none (.asg (.const (.int .i64 0)))])
(.seq (.seq (.ops [.f (some 90) none (.mv (.tmp 0)),
  .f (some 91) none (.len (.tmp 90)),
  .f (some 92) none (.mv (.const (.int .i64 0)))])
(rangeC 4 92 91 93 112 c17_2))
(.seq (.ops [.f (some 113) none (.load (some 2) (.tmp 20)),
  .f (some 114) none (.mv (.tmp 21)),
  .k none none (.store 2 (.tmp 2) (.tmp 113)),
  .k (some 3) none (.asg (.tmp 114)),
  .k (some 4) none (.asg (.const (.int .i64 0)))])
.ret))))))))))))
theorem fn17 : FnOK Try.prog 17 115 c17 [.cell 2 (some 2), .tmp 3, .tmp 4] := .of (by kernel_rfl)
/-! 'dynpos/fuse.Common' -/
def c18_0 : Cd :=
(.block 1
 (.seq (.ops [.f (some 18) none (.mv (.tmp 16)),
   .f (some 19) none (.iaddr 4 none (.tmp 14) (.tmp 16)),
   .f (some 20) none (.load (some 4) (.tmp 19)),
   .k (some 6) none (.alloc 39 [(.int .i64 0), (.int .i64 0), (.int .i64 0), (.int .i64 0)]),
   .k (some 5) none (.asg (.tmp 18)),
   .k none none (.store 4 (.tmp 6) (.tmp 20))])
 (.seq (.opd [⟨0, .f (some 21) none (.faddr 1 (.tmp 6)), []⟩,
   ⟨1, .f (some 22) none (.load none (.tmp 21)), []⟩,
   ⟨2, .f (some 23) none (.faddr 3 (.tmp 6)), []⟩,
   ⟨3, .f (some 24) none (.load none (.tmp 23)), []⟩,
   ⟨4, .f (some 25) none (.bin .sub (.tmp 22) (.tmp 24)), []⟩,
   ⟨5, .f (some 26) none (.faddr 2 (.tmp 6)), []⟩,
   ⟨6, .f (some 27) none (.load none (.tmp 26)), []⟩,
   ⟨7, .f (some 28) none (.faddr 3 (.tmp 6)), []⟩,
   ⟨8, .f (some 29) none (.load none (.tmp 28)), []⟩,
   ⟨9, .f (some 30) none (.bin .sub (.tmp 27) (.tmp 29)), []⟩,
   ⟨10, .f (some 31) none (.build [(.int .i64 0), (.int .i64 0)] [(0, 1, (.tmp 25)), (1, 1, (.tmp 30))]), []⟩,
   ⟨11, .f (some 32) none (.faddr 1 (.tmp 6)), []⟩,
   ⟨12, .f (some 33) none (.load none (.tmp 32)), []⟩,
   ⟨13, .f (some 34) none (.faddr 3 (.tmp 6)), []⟩,
   ⟨14, .f (some 35) none (.load none (.tmp 34)), []⟩,
   ⟨15, .f (some 36) none (.bin .add (.tmp 33) (.tmp 35)), []⟩,
   ⟨16, .f (some 37) none (.faddr 2 (.tmp 6)), []⟩,
   ⟨17, .f (some 38) none (.load none (.tmp 37)), []⟩,
   ⟨18, .f (some 39) none (.faddr 3 (.tmp 6)), []⟩,
   ⟨19, .f (some 40) none (.load none (.tmp 39)), []⟩,
   ⟨20, .f (some 41) none (.bin .add (.tmp 38) (.tmp 40)), []⟩,
   ⟨21, .f (some 42) none (.build [(.int .i64 0), (.int .i64 0)] [(0, 1, (.tmp 36)), (1, 1, (.tmp 41))]), []⟩,
   ⟨22, .k (some 7) none (.alloc 35 [(.int .i64 0), (.int .i64 0)]), [.f (some 22) none (.load none (.tmp 21)), .f (some 24) none (.load none (.tmp 23)), .f (some 27) none (.load none (.tmp 26)), .f (some 29) none (.load none (.tmp 28)), .f (some 33) none (.load none (.tmp 32)), .f (some 35) none (.load none (.tmp 34)), .f (some 38) none (.load none (.tmp 37)), .f (some 40) none (.load none (.tmp 39))]⟩,
   ⟨23, .k (some 8) none (.alloc 35 [(.int .i64 0), (.int .i64 0)]), [.f (some 22) none (.load none (.tmp 21)), .f (some 24) none (.load none (.tmp 23)), .f (some 27) none (.load none (.tmp 26)), .f (some 29) none (.load none (.tmp 28)), .f (some 33) none (.load none (.tmp 32)), .f (some 35) none (.load none (.tmp 34)), .f (some 38) none (.load none (.tmp 37)), .f (some 40) none (.load none (.tmp 39))]⟩,
   ⟨24, .k none none (.store 2 (.tmp 7) (.tmp 31)), [.f (some 33) none (.load none (.tmp 32)), .f (some 35) none (.load none (.tmp 34)), .f (some 38) none (.load none (.tmp 37)), .f (some 40) none (.load none (.tmp 39))]⟩,
   ⟨25, .k none none (.store 2 (.tmp 8) (.tmp 42)), []⟩])
 (.seq (.seq (.ops [.f (some 43) none (.mv (.tmp 5)),
   .f (some 44) none (.bin .eql (.tmp 43) (.const (.int .i64 0)))])
 (.cond (.tmp 44)
  (.opd [⟨0, .f (some 45) none (.load (some 2) (.tmp 7)), []⟩,
    ⟨1, .f (some 46) none (.load (some 2) (.tmp 8)), []⟩,
    ⟨2, .k none none (.store 2 (.tmp 2) (.tmp 45)), [.f (some 46) none (.load (some 2) (.tmp 8))]⟩,
    ⟨3, .k none none (.store 2 (.tmp 3) (.tmp 46)), []⟩])
  .skip))
 (.seq (.ops [.f (some 47) none (.faddr 0 (.tmp 2)),
   .f (some 48) none (.load none (.tmp 47)),
   .f (some 49) none (.faddr 0 (.tmp 7)),
   .f (some 50) none (.load none (.tmp 49)),
   .f (some 51) none (.mm true [(.tmp 48), (.tmp 50)]),
   .f (some 52) none (.faddr 1 (.tmp 2)),
   .f (some 53) none (.load none (.tmp 52)),
   .f (some 54) none (.faddr 1 (.tmp 7)),
   .f (some 55) none (.load none (.tmp 54)),
   .f (some 56) none (.mm true [(.tmp 53), (.tmp 55)]),
   .f (some 57) none (.build [(.int .i64 0), (.int .i64 0)] [(0, 1, (.tmp 51)), (1, 1, (.tmp 56))]),
   .k none none (.store 2 (.tmp 2) (.tmp 57))])
 (.ops [.f (some 58) none (.faddr 0 (.tmp 3)),
   .f (some 59) none (.load none (.tmp 58)),
   .f (some 60) none (.faddr 0 (.tmp 8)),
   .f (some 61) none (.load none (.tmp 60)),
   .f (some 62) none (.mm false [(.tmp 59), (.tmp 61)]),
   .f (some 63) none (.faddr 1 (.tmp 3)),
   .f (some 64) none (.load none (.tmp 63)),
   .f (some 65) none (.faddr 1 (.tmp 8)),
   .f (some 66) none (.load none (.tmp 65)),
   .f (some 67) none (.mm false [(.tmp 64), (.tmp 66)]),
   .f (some 68) none (.build [(.int .i64 0), (.int .i64 0)] [(0, 1, (.tmp 62)), (1, 1, (.tmp 67))]),
   .k none none (.store 2 (.tmp 3) (.tmp 68))]))))))
def c18 : Cd :=
(.seq (.ops [.k (some 2) none (.alloc 35 [(.int .i64 0), (.int .i64 0)]),
  .k (some 3) none (.alloc 35 [(.int .i64 0), (.int .i64 0)]),
  .k (some 4) none (.asg (.const (.bool false)))])
(.seq (.seq (.ops [.f (some 9) none (.mv (.tmp 0)),
  .k (some 10) none (.call 26 [(.tmp 9)]),
  .f (some 11) none (.bin .neq (.tmp 10) (.const (.int .i64 0)))])
(.cond (.tmp 11)
 (.seq (.ops [.f (some 12) none (.build [(.int .i64 0), (.int .i64 0)] []),
   .f (some 13) none (.build [(.int .i64 0), (.int .i64 0)] []),
   .k none none (.store 2 (.tmp 2) (.tmp 12)),
   .k none none (.store 2 (.tmp 3) (.tmp 13)),
   .k (some 4) none (.asg (.const (.bool false)))])
 .ret)
 .skip))
(.seq (.seq (.ops [.f (some 14) none (.mv (.tmp 0)),
  .f (some 15) none (.len (.tmp 14)),
  .f (some 16) none (.mv (.const (.int .i64 0)))])
(rangeC 0 16 15 17 69 c18_0))
(.seq (.seq (.ops [.f (some 70) none (.faddr 0 (.tmp 2)),
  .f (some 71) none (.load none (.tmp 70)),
  .f (some 72) none (.faddr 0 (.tmp 3)),
  .f (some 73) none (.load none (.tmp 72)),
  .f (some 74) none (.bin .gtr (.tmp 71) (.tmp 73)),
  .f (some 75) none (.mv (.tmp 74)),
  .f (some 76) (some (75, false)) (.faddr 1 (.tmp 2)),
  .f (some 77) (some (75, false)) (.load none (.tmp 76)),
  .f (some 78) (some (75, false)) (.faddr 1 (.tmp 3)),
  .f (some 79) (some (75, false)) (.load none (.tmp 78)),
  .f (some 80) (some (75, false)) (.bin .gtr (.tmp 77) (.tmp 79)),
  .f (some 81) none (.pick (.tmp 75) (.const (.bool true)) (.tmp 80))])
(.cond (.tmp 81)
 (.seq (.ops [.f (some 82) none (.build [(.int .i64 0), (.int .i64 0)] []),
   .f (some 83) none (.build [(.int .i64 0), (.int .i64 0)] []),
   .k none none (.store 2 (.tmp 2) (.tmp 82)),
   .k none none (.store 2 (.tmp 3) (.tmp 83)),
   .k (some 4) none (.asg (.const (.bool false)))])
 .ret)
 .skip))
(.seq (.opd [⟨0, .f (some 84) none (.load (some 2) (.tmp 2)), []⟩,
  ⟨1, .f (some 85) none (.load (some 2) (.tmp 3)), []⟩,
  ⟨2, .k none none (.store 2 (.tmp 2) (.tmp 84)), [.f (some 85) none (.load (some 2) (.tmp 3))]⟩,
  ⟨3, .k none none (.store 2 (.tmp 3) (.tmp 85)), []⟩,
  ⟨4, .k (some 4) none (.asg (.const (.bool true))), []⟩])
.ret)))))
theorem fn18 : FnOK Try.prog 18 86 c18 [.cell 2 (some 2), .cell 3 (some 2), .tmp 4] := .of (by kernel_rfl)
/-! 'dynpos/dynposref09.Common' -/
def c19_0 : Cd :=
(.block 1
 (.seq (.ops [.f (some 44) none (.iaddr 4 none (.tmp 40) (.tmp 42)),
   .f (some 45) none (.load (some 4) (.tmp 44)),
   .k (some 9) none (.alloc 39 [(.int .i64 0), (.int .i64 0), (.int .i64 0), (.int .i64 0)]),
   .k none none (.store 4 (.tmp 9) (.tmp 45))])
 (.seq (.ops [.f (some 46) none (.faddr 0 (.tmp 6)),
   .f (some 47) none (.load none (.tmp 46)),
   .f (some 48) none (.faddr 1 (.tmp 9)),
   .f (some 49) none (.load none (.tmp 48)),
   .f (some 50) none (.faddr 3 (.tmp 9)),
   .f (some 51) none (.load none (.tmp 50)),
   .f (some 52) none (.bin .sub (.tmp 49) (.tmp 51)),
   .f (some 53) none (.mm true [(.tmp 47), (.tmp 52)]),
   .f (some 54) none (.faddr 1 (.tmp 6)),
   .f (some 55) none (.load none (.tmp 54)),
   .f (some 56) none (.faddr 2 (.tmp 9)),
   .f (some 57) none (.load none (.tmp 56)),
   .f (some 58) none (.faddr 3 (.tmp 9)),
   .f (some 59) none (.load none (.tmp 58)),
   .f (some 60) none (.bin .sub (.tmp 57) (.tmp 59)),
   .f (some 61) none (.mm true [(.tmp 55), (.tmp 60)]),
   .f (some 62) none (.build [(.int .i64 0), (.int .i64 0)] [(0, 1, (.tmp 53)), (1, 1, (.tmp 61))]),
   .k none none (.store 2 (.tmp 6) (.tmp 62))])
 (.ops [.f (some 63) none (.faddr 0 (.tmp 7)),
   .f (some 64) none (.load none (.tmp 63)),
   .f (some 65) none (.faddr 1 (.tmp 9)),
   .f (some 66) none (.load none (.tmp 65)),
   .f (some 67) none (.faddr 3 (.tmp 9)),
   .f (some 68) none (.load none (.tmp 67)),
   .f (some 69) none (.bin .add (.tmp 66) (.tmp 68)),
   .f (some 70) none (.mm false [(.tmp 64), (.tmp 69)]),
   .f (some 71) none (.faddr 1 (.tmp 7)),
   .f (some 72) none (.load none (.tmp 71)),
   .f (some 73) none (.faddr 2 (.tmp 9)),
   .f (some 74) none (.load none (.tmp 73)),
   .f (some 75) none (.faddr 3 (.tmp 9)),
   .f (some 76) none (.load none (.tmp 75)),
   .f (some 77) none (.bin .add (.tmp 74) (.tmp 76)),
   .f (some 78) none (.mm false [(.tmp 72), (.tmp 77)]),
   .f (some 79) none (.build [(.int .i64 0), (.int .i64 0)] [(0, 1, (.tmp 70)), (1, 1, (.tmp 78))]),
   .k none none (.store 2 (.tmp 7) (.tmp 79))]))))
def c19 : Cd :=
(.seq (.ops [.k (some 2) none (.alloc 35 [(.int .i64 0), (.int .i64 0)]),
  .k (some 3) none (.alloc 35 [(.int .i64 0), (.int .i64 0)]),
  .k (some 4) none (.asg (.const (.bool false)))])
(.seq (.seq (.ops [.f (some 10) none (.mv (.tmp 0)),
  .k (some 11) none (.call 32 [(.tmp 10)]),
  .f (some 12) none (.bin .neq (.tmp 11) (.const (.int .i64 0)))])
(.cond (.tmp 12)
 (.seq (.ops [.f (some 13) none (.build [(.int .i64 0), (.int .i64 0)] []),
   .f (some 14) none (.build [(.int .i64 0), (.int .i64 0)] []),
   .k none none (.store 2 (.tmp 2) (.tmp 13)),
   .k none none (.store 2 (.tmp 3) (.tmp 14)),
   .k (some 4) none (.asg (.const (.bool false)))])
 .ret)
 .skip))
(.seq (.ops [.f (some 15) none (.mv (.tmp 0)),
  .f (some 16) none (.iaddr 4 none (.tmp 15) (.const (.int .i64 0))),
  .f (some 17) none (.load (some 4) (.tmp 16)),
  .k (some 5) none (.alloc 39 [(.int .i64 0), (.int .i64 0), (.int .i64 0), (.int .i64 0)]),
  .k none none (.store 4 (.tmp 5) (.tmp 17))])
(.seq (.opd [⟨0, .f (some 18) none (.faddr 1 (.tmp 5)), []⟩,
  ⟨1, .f (some 19) none (.load none (.tmp 18)), []⟩,
  ⟨2, .f (some 20) none (.faddr 3 (.tmp 5)), []⟩,
  ⟨3, .f (some 21) none (.load none (.tmp 20)), []⟩,
  ⟨4, .f (some 22) none (.bin .sub (.tmp 19) (.tmp 21)), []⟩,
  ⟨5, .f (some 23) none (.faddr 2 (.tmp 5)), []⟩,
  ⟨6, .f (some 24) none (.load none (.tmp 23)), []⟩,
  ⟨7, .f (some 25) none (.faddr 3 (.tmp 5)), []⟩,
  ⟨8, .f (some 26) none (.load none (.tmp 25)), []⟩,
  ⟨9, .f (some 27) none (.bin .sub (.tmp 24) (.tmp 26)), []⟩,
  ⟨10, .f (some 28) none (.build [(.int .i64 0), (.int .i64 0)] [(0, 1, (.tmp 22)), (1, 1, (.tmp 27))]), []⟩,
  ⟨11, .f (some 29) none (.faddr 1 (.tmp 5)), []⟩,
  ⟨12, .f (some 30) none (.load none (.tmp 29)), []⟩,
  ⟨13, .f (some 31) none (.faddr 3 (.tmp 5)), []⟩,
  ⟨14, .f (some 32) none (.load none (.tmp 31)), []⟩,
  ⟨15, .f (some 33) none (.bin .add (.tmp 30) (.tmp 32)), []⟩,
  ⟨16, .f (some 34) none (.faddr 2 (.tmp 5)), []⟩,
  ⟨17, .f (some 35) none (.load none (.tmp 34)), []⟩,
  ⟨18, .f (some 36) none (.faddr 3 (.tmp 5)), []⟩,
  ⟨19, .f (some 37) none (.load none (.tmp 36)), []⟩,
  ⟨20, .f (some 38) none (.bin .add (.tmp 35) (.tmp 37)), []⟩,
  ⟨21, .f (some 39) none (.build [(.int .i64 0), (.int .i64 0)] [(0, 1, (.tmp 33)), (1, 1, (.tmp 38))]), []⟩,
  ⟨22, .k (some 6) none (.alloc 35 [(.int .i64 0), (.int .i64 0)]), [.f (some 19) none (.load none (.tmp 18)), .f (some 21) none (.load none (.tmp 20)), .f (some 24) none (.load none (.tmp 23)), .f (some 26) none (.load none (.tmp 25)), .f (some 30) none (.load none (.tmp 29)), .f (some 32) none (.load none (.tmp 31)), .f (some 35) none (.load none (.tmp 34)), .f (some 37) none (.load none (.tmp 36))]⟩,
  ⟨23, .k (some 7) none (.alloc 35 [(.int .i64 0), (.int .i64 0)]), [.f (some 19) none (.load none (.tmp 18)), .f (some 21) none (.load none (.tmp 20)), .f (some 24) none (.load none (.tmp 23)), .f (some 26) none (.load none (.tmp 25)), .f (some 30) none (.load none (.tmp 29)), .f (some 32) none (.load none (.tmp 31)), .f (some 35) none (.load none (.tmp 34)), .f (some 37) none (.load none (.tmp 36))]⟩,
  ⟨24, .k none none (.store 2 (.tmp 6) (.tmp 28)), [.f (some 30) none (.load none (.tmp 29)), .f (some 32) none (.load none (.tmp 31)), .f (some 35) none (.load none (.tmp 34)), .f (some 37) none (.load none (.tmp 36))]⟩,
  ⟨25, .k none none (.store 2 (.tmp 7) (.tmp 39)), []⟩])
(.seq (.seq (.ops [.f (some 40) none (.mv (.tmp 0)),
  .f (some 41) none (.len (.tmp 40)),
  .f (some 42) none (.mv (.const (.int .i64 0)))])
(rangeC 0 42 41 43 80 c19_0))
(.seq (.seq (.ops [.f (some 81) none (.faddr 0 (.tmp 6)),
  .f (some 82) none (.load none (.tmp 81)),
  .f (some 83) none (.faddr 0 (.tmp 7)),
  .f (some 84) none (.load none (.tmp 83)),
  .f (some 85) none (.bin .gtr (.tmp 82) (.tmp 84)),
  .f (some 86) none (.mv (.tmp 85)),
  .f (some 87) (some (86, false)) (.faddr 1 (.tmp 6)),
  .f (some 88) (some (86, false)) (.load none (.tmp 87)),
  .f (some 89) (some (86, false)) (.faddr 1 (.tmp 7)),
  .f (some 90) (some (86, false)) (.load none (.tmp 89)),
  .f (some 91) (some (86, false)) (.bin .gtr (.tmp 88) (.tmp 90)),
  .f (some 92) none (.pick (.tmp 86) (.const (.bool true)) (.tmp 91))])
(.cond (.tmp 92)
 (.seq (.ops [.f (some 93) none (.build [(.int .i64 0), (.int .i64 0)] []),
   .f (some 94) none (.build [(.int .i64 0), (.int .i64 0)] []),
   .k none none (.store 2 (.tmp 2) (.tmp 93)),
   .k none none (.store 2 (.tmp 3) (.tmp 94)),
   .k (some 4) none (.asg (.const (.bool false)))])
 .ret)
 .skip))
(.seq (.opd [⟨0, .f (some 95) none (.load (some 2) (.tmp 6)), []⟩,
  ⟨1, .f (some 96) none (.load (some 2) (.tmp 7)), []⟩,
  ⟨2, .k none none (.store 2 (.tmp 2) (.tmp 95)), [.f (some 96) none (.load (some 2) (.tmp 7))]⟩,
  ⟨3, .k none none (.store 2 (.tmp 3) (.tmp 96)), []⟩,
  ⟨4, .k (some 4) none (.asg (.const (.bool true))), []⟩])
.ret)))))))
theorem fn19 : FnOK Try.prog 19 97 c19 [.cell 2 (some 2), .cell 3 (some 2), .tmp 4] := .of (by kernel_rfl)
/-! 'dynpos/fuse.Hull' -/
def c20_0 : Cd :=
(.block 1
 (.seq (.ops [.f (some 18) none (.mv (.tmp 16)),
   .f (some 19) none (.iaddr 4 none (.tmp 14) (.tmp 16)),
   .f (some 20) none (.load (some 4) (.tmp 19)),
   .k (some 6) none (.alloc 39 [(.int .i64 0), (.int .i64 0), (.int .i64 0), (.int .i64 0)]),
   .k (some 5) none (.asg (.tmp 18)),
   .k none none (.store 4 (.tmp 6) (.tmp 20))])
 (.seq (.opd [⟨0, .f (some 21) none (.faddr 1 (.tmp 6)), []⟩,
   ⟨1, .f (some 22) none (.load none (.tmp 21)), []⟩,
   ⟨2, .f (some 23) none (.faddr 3 (.tmp 6)), []⟩,
   ⟨3, .f (some 24) none (.load none (.tmp 23)), []⟩,
   ⟨4, .f (some 25) none (.bin .sub (.tmp 22) (.tmp 24)), []⟩,
   ⟨5, .f (some 26) none (.faddr 2 (.tmp 6)), []⟩,
   ⟨6, .f (some 27) none (.load none (.tmp 26)), []⟩,
   ⟨7, .f (some 28) none (.faddr 3 (.tmp 6)), []⟩,
   ⟨8, .f (some 29) none (.load none (.tmp 28)), []⟩,
   ⟨9, .f (some 30) none (.bin .sub (.tmp 27) (.tmp 29)), []⟩,
   ⟨10, .f (some 31) none (.build [(.int .i64 0), (.int .i64 0)] [(0, 1, (.tmp 25)), (1, 1, (.tmp 30))]), []⟩,
   ⟨11, .f (some 32) none (.faddr 1 (.tmp 6)), []⟩,
   ⟨12, .f (some 33) none (.load none (.tmp 32)), []⟩,
   ⟨13, .f (some 34) none (.faddr 3 (.tmp 6)), []⟩,
   ⟨14, .f (some 35) none (.load none (.tmp 34)), []⟩,
   ⟨15, .f (some 36) none (.bin .add (.tmp 33) (.tmp 35)), []⟩,
   ⟨16, .f (some 37) none (.faddr 2 (.tmp 6)), []⟩,
   ⟨17, .f (some 38) none (.load none (.tmp 37)), []⟩,
   ⟨18, .f (some 39) none (.faddr 3 (.tmp 6)), []⟩,
   ⟨19, .f (some 40) none (.load none (.tmp 39)), []⟩,
   ⟨20, .f (some 41) none (.bin .add (.tmp 38) (.tmp 40)), []⟩,
   ⟨21, .f (some 42) none (.build [(.int .i64 0), (.int .i64 0)] [(0, 1, (.tmp 36)), (1, 1, (.tmp 41))]), []⟩,
   ⟨22, .k (some 7) none (.alloc 35 [(.int .i64 0), (.int .i64 0)]), [.f (some 22) none (.load none (.tmp 21)), .f (some 24) none (.load none (.tmp 23)), .f (some 27) none (.load none (.tmp 26)), .f (some 29) none (.load none (.tmp 28)), .f (some 33) none (.load none (.tmp 32)), .f (some 35) none (.load none (.tmp 34)), .f (some 38) none (.load none (.tmp 37)), .f (some 40) none (.load none (.tmp 39))]⟩,
   ⟨23, .k (some 8) none (.alloc 35 [(.int .i64 0), (.int .i64 0)]), [.f (some 22) none (.load none (.tmp 21)), .f (some 24) none (.load none (.tmp 23)), .f (some 27) none (.load none (.tmp 26)), .f (some 29) none (.load none (.tmp 28)), .f (some 33) none (.load none (.tmp 32)), .f (some 35) none (.load none (.tmp 34)), .f (some 38) none (.load none (.tmp 37)), .f (some 40) none (.load none (.tmp 39))]⟩,
   ⟨24, .k none none (.store 2 (.tmp 7) (.tmp 31)), [.f (some 33) none (.load none (.tmp 32)), .f (some 35) none (.load none (.tmp 34)), .f (some 38) none (.load none (.tmp 37)), .f (some 40) none (.load none (.tmp 39))]⟩,
   ⟨25, .k none none (.store 2 (.tmp 8) (.tmp 42)), []⟩])
 (.seq (.seq (.ops [.f (some 43) none (.mv (.tmp 5)),
   .f (some 44) none (.bin .eql (.tmp 43) (.const (.int .i64 0)))])
 (.cond (.tmp 44)
  (.opd [⟨0, .f (some 45) none (.load (some 2) (.tmp 7)), []⟩,
    ⟨1, .f (some 46) none (.load (some 2) (.tmp 8)), []⟩,
    ⟨2, .k none none (.store 2 (.tmp 2) (.tmp 45)), [.f (some 46) none (.load (some 2) (.tmp 8))]⟩,
    ⟨3, .k none none (.store 2 (.tmp 3) (.tmp 46)), []⟩])
  .skip))
 (.seq (.ops [.f (some 47) none (.faddr 0 (.tmp 2)),
   .f (some 48) none (.load none (.tmp 47)),
   .f (some 49) none (.faddr 0 (.tmp 7)),
   .f (some 50) none (.load none (.tmp 49)),
   .f (some 51) none (.mm false [(.tmp 48), (.tmp 50)]),
   .f (some 52) none (.faddr 1 (.tmp 2)),
   .f (some 53) none (.load none (.tmp 52)),
   .f (some 54) none (.faddr 1 (.tmp 7)),
   .f (some 55) none (.load none (.tmp 54)),
   .f (some 56) none (.mm false [(.tmp 53), (.tmp 55)]),
   .f (some 57) none (.build [(.int .i64 0), (.int .i64 0)] [(0, 1, (.tmp 51)), (1, 1, (.tmp 56))]),
   .k none none (.store 2 (.tmp 2) (.tmp 57))])
 (.ops [.f (some 58) none (.faddr 0 (.tmp 3)),
   .f (some 59) none (.load none (.tmp 58)),
   .f (some 60) none (.faddr 0 (.tmp 8)),
   .f (some 61) none (.load none (.tmp 60)),
   .f (some 62) none (.mm true [(.tmp 59), (.tmp 61)]),
   .f (some 63) none (.faddr 1 (.tmp 3)),
   .f (some 64) none (.load none (.tmp 63)),
   .f (some 65) none (.faddr 1 (.tmp 8)),
   .f (some 66) none (.load none (.tmp 65)),
   .f (some 67) none (.mm true [(.tmp 64), (.tmp 66)]),
   .f (some 68) none (.build [(.int .i64 0), (.int .i64 0)] [(0, 1, (.tmp 62)), (1, 1, (.tmp 67))]),
   .k none none (.store 2 (.tmp 3) (.tmp 68))]))))))
def c20 : Cd :=
(.seq (.ops [.k (some 2) none (.alloc 35 [(.int .i64 0), (.int .i64 0)]),
  .k (some 3) none (.alloc 35 [(.int .i64 0), (.int .i64 0)]),
  .k (some 4) none (.asg (.const (.bool false)))])
(.seq (.seq (.ops [.f (some 9) none (.mv (.tmp 0)),
  .k (some 10) none (.call 26 [(.tmp 9)]),
  .f (some 11) none (.bin .neq (.tmp 10) (.const (.int .i64 0)))])
(.cond (.tmp 11)
 (.seq (.ops [.f (some 12) none (.build [(.int .i64 0), (.int .i64 0)] []),
   .f (some 13) none (.build [(.int .i64 0), (.int .i64 0)] []),
   .k none none (.store 2 (.tmp 2) (.tmp 12)),
   .k none none (.store 2 (.tmp 3) (.tmp 13)),
   .k (some 4) none (.asg (.const (.bool false)))])
 .ret)
 .skip))
(.seq (.seq (.ops [.f (some 14) none (.mv (.tmp 0)),
  .f (some 15) none (.len (.tmp 14)),
  .f (some 16) none (.mv (.const (.int .i64 0)))])
(rangeC 0 16 15 17 69 c20_0))
(.seq (.opd [⟨0, .f (some 70) none (.load (some 2) (.tmp 2)), []⟩,
  ⟨1, .f (some 71) none (.load (some 2) (.tmp 3)), []⟩,
  ⟨2, .k none none (.store 2 (.tmp 2) (.tmp 70)), [.f (some 71) none (.load (some 2) (.tmp 3))]⟩,
  ⟨3, .k none none (.store 2 (.tmp 3) (.tmp 71)), []⟩,
  ⟨4, .k (some 4) none (.asg (.const (.bool true))), []⟩])
.ret))))
theorem fn20 : FnOK Try.prog 20 72 c20 [.cell 2 (some 2), .cell 3 (some 2), .tmp 4] := .of (by kernel_rfl)
/-! 'dynpos/dynposref09.Hull' -/
def c21_0 : Cd :=
(.block 1
 (.seq (.ops [.f (some 44) none (.iaddr 4 none (.tmp 40) (.tmp 42)),
   .f (some 45) none (.load (some 4) (.tmp 44)),
   .k (some 9) none (.alloc 39 [(.int .i64 0), (.int .i64 0), (.int .i64 0), (.int .i64 0)]),
   .k none none (.store 4 (.tmp 9) (.tmp 45))])
 (.seq (.ops [.f (some 46) none (.faddr 0 (.tmp 6)),
   .f (some 47) none (.load none (.tmp 46)),
   .f (some 48) none (.faddr 1 (.tmp 9)),
   .f (some 49) none (.load none (.tmp 48)),
   .f (some 50) none (.faddr 3 (.tmp 9)),
   .f (some 51) none (.load none (.tmp 50)),
   .f (some 52) none (.bin .sub (.tmp 49) (.tmp 51)),
   .f (some 53) none (.mm false [(.tmp 47), (.tmp 52)]),
   .f (some 54) none (.faddr 1 (.tmp 6)),
   .f (some 55) none (.load none (.tmp 54)),
   .f (some 56) none (.faddr 2 (.tmp 9)),
   .f (some 57) none (.load none (.tmp 56)),
   .f (some 58) none (.faddr 3 (.tmp 9)),
   .f (some 59) none (.load none (.tmp 58)),
   .f (some 60) none (.bin .sub (.tmp 57) (.tmp 59)),
   .f (some 61) none (.mm false [(.tmp 55), (.tmp 60)]),
   .f (some 62) none (.build [(.int .i64 0), (.int .i64 0)] [(0, 1, (.tmp 53)), (1, 1, (.tmp 61))]),
   .k none none (.store 2 (.tmp 6) (.tmp 62))])
 (.ops [.f (some 63) none (.faddr 0 (.tmp 7)),
   .f (some 64) none (.load none (.tmp 63)),
   .f (some 65) none (.faddr 1 (.tmp 9)),
   .f (some 66) none (.load none (.tmp 65)),
   .f (some 67) none (.faddr 3 (.tmp 9)),
   .f (some 68) none (.load none (.tmp 67)),
   .f (some 69) none (.bin .add (.tmp 66) (.tmp 68)),
   .f (some 70) none (.mm true [(.tmp 64), (.tmp 69)]),
   .f (some 71) none (.faddr 1 (.tmp 7)),
   .f (some 72) none (.load none (.tmp 71)),
   .f (some 73) none (.faddr 2 (.tmp 9)),
   .f (some 74) none (.load none (.tmp 73)),
   .f (some 75) none (.faddr 3 (.tmp 9)),
   .f (some 76) none (.load none (.tmp 75)),
   .f (some 77) none (.bin .add (.tmp 74) (.tmp 76)),
   .f (some 78) none (.mm true [(.tmp 72), (.tmp 77)]),
   .f (some 79) none (.build [(.int .i64 0), (.int .i64 0)] [(0, 1, (.tmp 70)), (1, 1, (.tmp 78))]),
   .k none none (.store 2 (.tmp 7) (.tmp 79))]))))
def c21 : Cd :=
(.seq (.ops [.k (some 2) none (.alloc 35 [(.int .i64 0), (.int .i64 0)]),
  .k (some 3) none (.alloc 35 [(.int .i64 0), (.int .i64 0)]),
  .k (some 4) none (.asg (.const (.bool false)))])
(.seq (.seq (.ops [.f (some 10) none (.mv (.tmp 0)),
  .k (some 11) none (.call 32 [(.tmp 10)]),
  .f (some 12) none (.bin .neq (.tmp 11) (.const (.int .i64 0)))])
(.cond (.tmp 12)
 (.seq (.ops [.f (some 13) none (.build [(.int .i64 0), (.int .i64 0)] []),
   .f (some 14) none (.build [(.int .i64 0), (.int .i64 0)] []),
   .k none none (.store 2 (.tmp 2) (.tmp 13)),
   .k none none (.store 2 (.tmp 3) (.tmp 14)),
   .k (some 4) none (.asg (.const (.bool false)))])
 .ret)
 .skip))
(.seq (.ops [.f (some 15) none (.mv (.tmp 0)),
  .f (some 16) none (.iaddr 4 none (.tmp 15) (.const (.int .i64 0))),
  .f (some 17) none (.load (some 4) (.tmp 16)),
  .k (some 5) none (.alloc 39 [(.int .i64 0), (.int .i64 0), (.int .i64 0), (.int .i64 0)]),
  .k none none (.store 4 (.tmp 5) (.tmp 17))])
(.seq (.opd [⟨0, .f (some 18) none (.faddr 1 (.tmp 5)), []⟩,
  ⟨1, .f (some 19) none (.load none (.tmp 18)), []⟩,
  ⟨2, .f (some 20) none (.faddr 3 (.tmp 5)), []⟩,
  ⟨3, .f (some 21) none (.load none (.tmp 20)), []⟩,
  ⟨4, .f (some 22) none (.bin .sub (.tmp 19) (.tmp 21)), []⟩,
  ⟨5, .f (some 23) none (.faddr 2 (.tmp 5)), []⟩,
  ⟨6, .f (some 24) none (.load none (.tmp 23)), []⟩,
  ⟨7, .f (some 25) none (.faddr 3 (.tmp 5)), []⟩,
  ⟨8, .f (some 26) none (.load none (.tmp 25)), []⟩,
  ⟨9, .f (some 27) none (.bin .sub (.tmp 24) (.tmp 26)), []⟩,
  ⟨10, .f (some 28) none (.build [(.int .i64 0), (.int .i64 0)] [(0, 1, (.tmp 22)), (1, 1, (.tmp 27))]), []⟩,
  ⟨11, .f (some 29) none (.faddr 1 (.tmp 5)), []⟩,
  ⟨12, .f (some 30) none (.load none (.tmp 29)), []⟩,
  ⟨13, .f (some 31) none (.faddr 3 (.tmp 5)), []⟩,
  ⟨14, .f (some 32) none (.load none (.tmp 31)), []⟩,
  ⟨15, .f (some 33) none (.bin .add (.tmp 30) (.tmp 32)), []⟩,
  ⟨16, .f (some 34) none (.faddr 2 (.tmp 5)), []⟩,
  ⟨17, .f (some 35) none (.load none (.tmp 34)), []⟩,
  ⟨18, .f (some 36) none (.faddr 3 (.tmp 5)), []⟩,
  ⟨19, .f (some 37) none (.load none (.tmp 36)), []⟩,
  ⟨20, .f (some 38) none (.bin .add (.tmp 35) (.tmp 37)), []⟩,
  ⟨21, .f (some 39) none (.build [(.int .i64 0), (.int .i64 0)] [(0, 1, (.tmp 33)), (1, 1, (.tmp 38))]), []⟩,
  ⟨22, .k (some 6) none (.alloc 35 [(.int .i64 0), (.int .i64 0)]), [.f (some 19) none (.load none (.tmp 18)), .f (some 21) none (.load none (.tmp 20)), .f (some 24) none (.load none (.tmp 23)), .f (some 26) none (.load none (.tmp 25)), .f (some 30) none (.load none (.tmp 29)), .f (some 32) none (.load none (.tmp 31)), .f (some 35) none (.load none (.tmp 34)), .f (some 37) none (.load none (.tmp 36))]⟩,
  ⟨23, .k (some 7) none (.alloc 35 [(.int .i64 0), (.int .i64 0)]), [.f (some 19) none (.load none (.tmp 18)), .f (some 21) none (.load none (.tmp 20)), .f (some 24) none (.load none (.tmp 23)), .f (some 26) none (.load none (.tmp 25)), .f (some 30) none (.load none (.tmp 29)), .f (some 32) none (.load none (.tmp 31)), .f (some 35) none (.load none (.tmp 34)), .f (some 37) none (.load none (.tmp 36))]⟩,
  ⟨24, .k none none (.store 2 (.tmp 6) (.tmp 28)), [.f (some 30) none (.load none (.tmp 29)), .f (some 32) none (.load none (.tmp 31)), .f (some 35) none (.load none (.tmp 34)), .f (some 37) none (.load none (.tmp 36))]⟩,
  ⟨25, .k none none (.store 2 (.tmp 7) (.tmp 39)), []⟩])
(.seq (.seq (.ops [.f (some 40) none (.mv (.tmp 0)),
  .f (some 41) none (.len (.tmp 40)),
  .f (some 42) none (.mv (.const (.int .i64 0)))])
(rangeC 0 42 41 43 80 c21_0))
(.seq (.opd [⟨0, .f (some 81) none (.load (some 2) (.tmp 6)), []⟩,
  ⟨1, .f (some 82) none (.load (some 2) (.tmp 7)), []⟩,
  ⟨2, .k none none (.store 2 (.tmp 2) (.tmp 81)), [.f (some 82) none (.load (some 2) (.tmp 7))]⟩,
  ⟨3, .k none none (.store 2 (.tmp 3) (.tmp 82)), []⟩,
  ⟨4, .k (some 4) none (.asg (.const (.bool true))), []⟩])
.ret))))))
theorem fn21 : FnOK Try.prog 21 83 c21 [.cell 2 (some 2), .cell 3 (some 2), .tmp 4] := .of (by kernel_rfl)
/-! 'dynpos/dynposref09.Grow' -/
def c22 : Cd :=
(.seq (.ops [.k (some 6) none (.asg (.const (.int .i64 0))),
  .k (some 7) none (.asg (.const (.int .i64 0)))])
(.seq (.seq (.ops [.f (some 8) none (.mv (.tmp 0)),
  .f (some 9) none (.bin .lss (.tmp 8) (.const (.int .i64 0))),
  .f (some 10) none (.mv (.tmp 9)),
  .f (some 11) (some (10, false)) (.mv (.tmp 0)),
  .f (some 12) (some (10, false)) (.bin .gtr (.tmp 11) (.const (.int .i64 200000000))),
  .f (some 13) none (.pick (.tmp 10) (.const (.bool true)) (.tmp 12)),
  .f (some 14) none (.mv (.tmp 13)),
  .f (some 15) (some (14, false)) (.mv (.tmp 1)),
  .f (some 16) (some (14, false)) (.bin .lss (.tmp 15) (.const (.int .i64 0))),
  .f (some 17) none (.pick (.tmp 14) (.const (.bool true)) (.tmp 16)),
  .f (some 18) none (.mv (.tmp 17)),
  .f (some 19) (some (18, false)) (.mv (.tmp 1)),
  .f (some 20) (some (18, false)) (.bin .gtr (.tmp 19) (.const (.int .i64 1000))),
  .f (some 21) none (.pick (.tmp 18) (.const (.bool true)) (.tmp 20)),
  .f (some 22) none (.mv (.tmp 21)),
  .f (some 23) (some (22, false)) (.mv (.tmp 2)),
  .f (some 24) (some (22, false)) (.bin .lss (.tmp 23) (.const (.int .i64 0))),
  .f (some 25) none (.pick (.tmp 22) (.const (.bool true)) (.tmp 24)),
  .f (some 26) none (.mv (.tmp 25)),
  .f (some 27) (some (26, false)) (.mv (.tmp 2)),
  .f (some 28) (some (26, false)) (.bin .gtr (.tmp 27) (.const (.int .i64 2147483648))),
  .f (some 29) none (.pick (.tmp 26) (.const (.bool true)) (.tmp 28))])
(.cond (.tmp 29)
 (.seq (.ops [.k (some 6) none (.asg (.const (.int .i64 0))),
   .k (some 7) none (.asg (.const (.int .i64 1)))])
 .ret)
 .skip))
(.seq (.ops [.f (some 30) none (.mv (.tmp 0)),
  .f (some 31) none (.mv (.tmp 1)),
  .f (some 32) none (.mv (.tmp 2)),
  .f (some 33) none (.bin .mul (.tmp 31) (.tmp 32)),
  .f (some 34) none (.bin .add (.tmp 30) (.tmp 33)),
  .f (some 35) none (.mm false [(.tmp 34), (.const (.int .i64 200000000))]),
  .k (some 6) none (.asg (.tmp 35)),
  .k (some 7) none (.asg (.const (.int .i64 0)))])
.ret)))
theorem fn22 : FnOK Try.prog 22 36 c22 [.tmp 6, .tmp 7] := .of (by kernel_rfl)
/-! 'dynpos/dynposref09.Weight' -/
def c23 : Cd :=
(.seq (.ops [.k (some 2) none (.asg (.const (.int .i64 0)))])
(.seq (.seq (.ops [.f (some 3) none (.mv (.tmp 0)),
  .f (some 4) none (.bin .lss (.tmp 3) (.const (.int .i64 1))),
  .f (some 5) none (.mv (.tmp 4)),
  .f (some 6) (some (5, false)) (.mv (.tmp 0)),
  .f (some 7) (some (5, false)) (.bin .gtr (.tmp 6) (.const (.int .i64 100000))),
  .f (some 8) none (.pick (.tmp 5) (.const (.bool true)) (.tmp 7))])
(.cond (.tmp 8)
 (.seq (.ops [.k (some 2) none (.asg (.const (.int .i64 0)))])
 .ret)
 .skip))
(.seq (.ops [.f (some 9) none (.mv (.tmp 0)),
  .f (some 10) none (.mv (.tmp 0)),
  .f (some 11) none (.bin .mul (.tmp 9) (.tmp 10)),
  .f (some 12) none (.bin .quo (.const (.int .i64 1000000000)) (.tmp 11)),
  .f (some 13) none (.mm true [(.const (.int .i64 1)), (.tmp 12)]),
  .k (some 2) none (.asg (.tmp 13))])
.ret)))
theorem fn23 : FnOK Try.prog 23 14 c23 [.tmp 2] := .of (by kernel_rfl)
/-! 'dynpos/dynposref01.Half' -/
def c24 : Cd :=
(.seq (.ops [.k (some 4) none (.asg (.const (.int .i64 0))),
  .k (some 5) none (.asg (.const (.int .i64 0)))])
(.seq (.seq (.ops [.f (some 6) none (.mv (.tmp 0)),
  .f (some 7) none (.mv (.tmp 1)),
  .k (some 8) none (.call 35 [(.tmp 6), (.tmp 7)]),
  .f (some 9) none (.un .not (.tmp 8))])
(.cond (.tmp 9)
 (.seq (.ops [.k (some 4) none (.asg (.const (.int .i64 0))),
   .k (some 5) none (.asg (.const (.int .i64 1)))])
 .ret)
 .skip))
(.seq (.ops [.f (some 10) none (.mv (.tmp 0)),
  .f (some 11) none (.bin .mul (.const (.int .i64 2)) (.tmp 10)),
  .f (some 12) none (.mv (.tmp 1)),
  .f (some 13) none (.bin .add (.tmp 11) (.tmp 12)),
  .f (some 14) none (.mv (.tmp 1)),
  .f (some 15) none (.bin .mul (.const (.int .i64 2)) (.tmp 14)),
  .k (some 16) none (.call 36 [(.tmp 13), (.tmp 15)]),
  .k (some 4) none (.asg (.tmp 16)),
  .k (some 5) none (.asg (.const (.int .i64 0)))])
.ret)))
theorem fn24 : FnOK Try.prog 24 17 c24 [.tmp 4, .tmp 5] := .of (by kernel_rfl)
/-! '(*dynpos/dynposmake.Src).Fix' -/
def c25 : Cd :=
(.seq (.ops [.k (some 4) none (.alloc 39 [(.int .i64 0), (.int .i64 0), (.int .i64 0), (.int .i64 0)])])
(.seq (.ops [.f (some 5) none (.mv (.tmp 1)),
  .f (some 6) none (.mv (.tmp 0)),
  .k (some 7) none (.bslice 3 1 6 [(.int .i64 0)] [(0, 1, (.const (.int .i64 0))), (1, 1, (.const (.int .i64 0))), (2, 1, (.const (.int .i64 1))), (3, 1, (.const (.int .i64 20))), (4, 1, (.const (.int .i64 (-30)))), (5, 1, (.const (.int .i64 1000)))]),
  .k (some 8) none (.call 16 [(.tmp 6), (.tmp 7)]),
  .f (some 9) none (.mv (.tmp 0)),
  .k (some 10) none (.bslice 3 1 4 [(.int .i64 0)] [(0, 1, (.const (.int .i64 0))), (1, 1, (.const (.int .i64 0))), (2, 1, (.const (.int .i64 5))), (3, 1, (.const (.int .i64 (-20))))]),
  .k (some 11) none (.call 16 [(.tmp 9), (.tmp 10)]),
  .f (some 12) none (.mv (.tmp 0)),
  .k (some 13) none (.bslice 3 1 4 [(.int .i64 0)] [(0, 1, (.const (.int .i64 1))), (1, 1, (.const (.int .i64 10))), (2, 1, (.const (.int .i64 50))), (3, 1, (.const (.int .i64 200)))]),
  .k (some 14) none (.call 16 [(.tmp 12), (.tmp 13)]),
  .f (some 15) none (.build [(.int .i64 0), (.int .i64 0), (.int .i64 0), (.int .i64 0)] [(0, 1, (.tmp 5)), (1, 1, (.tmp 8)), (2, 1, (.tmp 11)), (3, 1, (.tmp 14))]),
  .k none none (.store 4 (.tmp 4) (.tmp 15))])
.ret))
theorem fn25 : FnOK Try.prog 25 16 c25 [.cell 4 (some 4)] := .of (by kernel_rfl)
/-! 'dynpos/fuse.check' -/
def c26_0 : Cd :=
(.block 2
 (.seq (.ops [.f (some 17) none (.iaddr 4 none (.tmp 13) (.tmp 15)),
   .f (some 18) none (.load (some 4) (.tmp 17)),
   .k (some 4) none (.alloc 39 [(.int .i64 0), (.int .i64 0), (.int .i64 0), (.int .i64 0)]),
   .k none none (.store 4 (.tmp 4) (.tmp 18))])
 (.seq (.ops [.f (some 19) none (.load (some 4) (.tmp 4)),
   .k (some 20) none (.call 30 [(.tmp 19)]),
   .k (some 21) none (.call 37 [(.tmp 20)]),
   .f (some 22) none (.un .not (.tmp 21)),
   .f (some 23) none (.mv (.tmp 22)),
   .f (some 24) (some (23, false)) (.faddr 3 (.tmp 4)),
   .f (some 25) (some (23, false)) (.load none (.tmp 24)),
   .k (some 26) (some (23, false)) (.call 8 [(.tmp 25)]),
   .f (some 27) (some (23, false)) (.bin .eql (.tmp 26) (.const (.int .i64 0))),
   .f (some 28) none (.pick (.tmp 23) (.const (.bool true)) (.tmp 27))])
 (.cond (.tmp 28)
  (.seq (.ops [.k (some 2) none (.asg (.const (.int .i64 1)))])
  .ret)
  .skip))))
def c26 : Cd :=
(.seq (.ops [.k (some 2) none (.asg (.const (.int .i64 0)))])
(.seq (.block 0
 (.seq (.ops [.f (some 6) none (.mv (.tmp 0)),
   .f (some 7) none (.len (.tmp 6)),
   .f (some 8) none (.bin .eql (.tmp 7) (.const (.int .i64 0))),
   .k (some 5) none (.asg (.tmp 8))])
 (.cond (.tmp 5)
  (.seq (.ops [.k (some 2) none (.asg (.const (.int .i64 9)))])
  .ret)
  (.seq (.ops [.f (some 10) none (.mv (.tmp 0)),
    .f (some 11) none (.len (.tmp 10)),
    .f (some 12) none (.bin .gtr (.tmp 11) (.const (.int .i64 8))),
    .k (some 9) none (.asg (.tmp 12))])
  (.cond (.tmp 9)
   (.seq (.ops [.k (some 2) none (.asg (.const (.int .i64 2)))])
   .ret)
   .skip)))))
(.seq (.seq (.ops [.f (some 13) none (.mv (.tmp 0)),
  .f (some 14) none (.len (.tmp 13)),
  .f (some 15) none (.mv (.const (.int .i64 0)))])
(rangeC 1 15 14 16 29 c26_0))
(.seq (.ops [.k (some 2) none (.asg (.const (.int .i64 0)))])
.ret))))
theorem fn26 : FnOK Try.prog 26 30 c26 [.tmp 2] := .of (by kernel_rfl)
/-! 'dynpos/arith.Up' -/
def c27 : Cd :=
(.seq (.ops [.k (some 4) none (.asg (.const (.int .i64 0))),
  .k (some 5) none (.asg (.const (.int .i64 0)))])
(.seq (.ops [.f (some 6) none (.mv (.tmp 0)),
  .f (some 7) none (.mv (.tmp 1)),
  .k (some 8) none (.call 38 [(.tmp 6), (.tmp 7), (.func 39)]),
  .f (some 9) none (.extract 0 (.tmp 8)),
  .f (some 10) none (.extract 1 (.tmp 8)),
  .k (some 4) none (.asg (.tmp 9)),
  .k (some 5) none (.asg (.tmp 10))])
.ret))
theorem fn27 : FnOK Try.prog 27 11 c27 [.tmp 4, .tmp 5] := .of (by kernel_rfl)
/-! 'dynpos/arith.Half' -/
def c28 : Cd :=
(.seq (.ops [.k (some 4) none (.asg (.const (.int .i64 0))),
  .k (some 5) none (.asg (.const (.int .i64 0)))])
(.seq (.ops [.f (some 6) none (.mv (.tmp 0)),
  .f (some 7) none (.mv (.tmp 1)),
  .k (some 8) none (.call 38 [(.tmp 6), (.tmp 7), (.func 41)]),
  .f (some 9) none (.extract 0 (.tmp 8)),
  .f (some 10) none (.extract 1 (.tmp 8)),
  .k (some 4) none (.asg (.tmp 9)),
  .k (some 5) none (.asg (.tmp 10))])
.ret))
theorem fn28 : FnOK Try.prog 28 11 c28 [.tmp 4, .tmp 5] := .of (by kernel_rfl)
/-! 'dynpos/frame.Box' -/
def c29 : Cd :=
(.seq (.ops [.k (some 2) none (.box 35 2 (.tmp 0)),
  .k (some 3) none (.box 35 2 (.tmp 1)),
  .k (some 4) none (.asg (.const (.int .i64 0))),
  .k (some 5) none (.asg (.const (.int .i64 0)))])
(.seq (.ops [.f (some 10) none (.load (some 2) (.tmp 2)),
  .f (some 11) none (.load (some 2) (.tmp 3)),
  .k (some 12) none (.call 42 [(.tmp 10), (.tmp 11)]),
  .f (some 9) none (.mv (.tmp 12)),
  .f (some 13) none (.extract 0 (.tmp 9)),
  .f (some 14) none (.extract 1 (.tmp 9)),
  .f (some 15) none (.extract 2 (.tmp 9)),
  .k (some 6) none (.asg (.tmp 13)),
  .k (some 7) none (.asg (.tmp 14)),
  .k (some 8) none (.asg (.tmp 15))])
(.seq (.ops [.f (some 16) none (.mv (.tmp 6)),
  .f (some 17) none (.mv (.tmp 7)),
  .f (some 18) none (.mm true [(.tmp 16), (.tmp 17)]),
  .f (some 19) none (.mv (.tmp 8)),
  .k (some 4) none (.asg (.tmp 18)),
  .k (some 5) none (.asg (.tmp 19))])
.ret)))
theorem fn29 : FnOK Try.prog 29 20 c29 [.tmp 4, .tmp 5] := .of (by kernel_rfl)
/-! 'dynpos/fuse.place' -/
def c30 : Cd :=
(.seq (.ops [.k (some 1) none (.box 39 4 (.tmp 0)),
  .k (some 2) none (.alloc 35 [(.int .i64 0), (.int .i64 0)])])
(.seq (.ops [.f (some 3) none (.faddr 1 (.tmp 1)),
  .f (some 4) none (.load none (.tmp 3)),
  .f (some 5) none (.faddr 2 (.tmp 1)),
  .f (some 6) none (.load none (.tmp 5)),
  .f (some 7) none (.build [(.int .i64 0), (.int .i64 0)] [(0, 1, (.tmp 4)), (1, 1, (.tmp 6))]),
  .k none none (.store 2 (.tmp 2) (.tmp 7))])
.ret))
theorem fn30 : FnOK Try.prog 30 8 c30 [.cell 2 (some 2)] := .of (by kernel_rfl)
/-! 'dynpos/dynposmake.Mod' -/
def c31 : Cd :=
(.seq (.ops [.k (some 4) none (.asg (.const (.int .i64 0)))])
(.seq (.seq (.ops [.f (some 5) none (.mv (.tmp 1)),
  .f (some 6) none (.bin .lss (.tmp 5) (.const (.int .i64 1)))])
(.cond (.tmp 6)
 (.seq (.ops [.k (some 4) none (.asg (.const (.int .i64 0)))])
 .ret)
 .skip))
(.seq (.ops [.f (some 7) none (.mv (.tmp 0)),
  .f (some 8) none (.mv (.tmp 1)),
  .f (some 9) none (.bin .rem (.tmp 7) (.tmp 8)),
  .f (some 10) none (.mv (.tmp 1)),
  .f (some 11) none (.bin .add (.tmp 9) (.tmp 10)),
  .f (some 12) none (.mv (.tmp 1)),
  .f (some 13) none (.bin .rem (.tmp 11) (.tmp 12)),
  .k (some 4) none (.asg (.tmp 13))])
.ret)))
theorem fn31 : FnOK Try.prog 31 14 c31 [.tmp 4] := .of (by kernel_rfl)
/-! 'dynpos/dynposref09.check' -/
def c32_0 : Cd :=
(.block 1
 (.seq (.ops [.f (some 15) none (.iaddr 4 none (.tmp 11) (.tmp 13)),
   .f (some 16) none (.load (some 4) (.tmp 15)),
   .k (some 4) none (.alloc 39 [(.int .i64 0), (.int .i64 0), (.int .i64 0), (.int .i64 0)]),
   .k none none (.store 4 (.tmp 4) (.tmp 16))])
 (.seq (.ops [.f (some 17) none (.faddr 1 (.tmp 4)),
   .f (some 18) none (.load none (.tmp 17)),
   .f (some 19) none (.faddr 2 (.tmp 4)),
   .f (some 20) none (.load none (.tmp 19)),
   .f (some 21) none (.build [(.int .i64 0), (.int .i64 0)] [(0, 1, (.tmp 18)), (1, 1, (.tmp 20))]),
   .k (some 22) none (.call 43 [(.tmp 21)]),
   .f (some 23) none (.un .not (.tmp 22)),
   .f (some 24) none (.mv (.tmp 23)),
   .f (some 25) (some (24, false)) (.faddr 3 (.tmp 4)),
   .f (some 26) (some (24, false)) (.load none (.tmp 25)),
   .k (some 27) (some (24, false)) (.call 23 [(.tmp 26)]),
   .f (some 28) (some (24, false)) (.bin .eql (.tmp 27) (.const (.int .i64 0))),
   .f (some 29) none (.pick (.tmp 24) (.const (.bool true)) (.tmp 28))])
 (.cond (.tmp 29)
  (.seq (.ops [.k (some 2) none (.asg (.const (.int .i64 1)))])
  .ret)
  .skip))))
def c32 : Cd :=
(.seq (.ops [.k (some 2) none (.asg (.const (.int .i64 0)))])
(.seq (.seq (.ops [.f (some 5) none (.mv (.tmp 0)),
  .f (some 6) none (.len (.tmp 5)),
  .f (some 7) none (.bin .eql (.tmp 6) (.const (.int .i64 0)))])
(.cond (.tmp 7)
 (.seq (.ops [.k (some 2) none (.asg (.const (.int .i64 9)))])
 .ret)
 .skip))
(.seq (.seq (.ops [.f (some 8) none (.mv (.tmp 0)),
  .f (some 9) none (.len (.tmp 8)),
  .f (some 10) none (.bin .gtr (.tmp 9) (.const (.int .i64 8)))])
(.cond (.tmp 10)
 (.seq (.ops [.k (some 2) none (.asg (.const (.int .i64 2)))])
 .ret)
 .skip))
(.seq (.seq (.ops [.f (some 11) none (.mv (.tmp 0)),
  .f (some 12) none (.len (.tmp 11)),
  .f (some 13) none (.mv (.const (.int .i64 0)))])
(rangeC 0 13 12 14 30 c32_0))
(.seq (.ops [.k (some 2) none (.asg (.const (.int .i64 0)))])
.ret)))))
theorem fn32 : FnOK Try.prog 32 31 c32 [.tmp 2] := .of (by kernel_rfl)
/-! 'dynpos/dynposref01.Up' -/
def c33 : Cd :=
(.seq (.ops [.k (some 4) none (.asg (.const (.int .i64 0))),
  .k (some 5) none (.asg (.const (.int .i64 0)))])
(.seq (.seq (.ops [.f (some 6) none (.mv (.tmp 0)),
  .f (some 7) none (.mv (.tmp 1)),
  .k (some 8) none (.call 35 [(.tmp 6), (.tmp 7)]),
  .f (some 9) none (.un .not (.tmp 8))])
(.cond (.tmp 9)
 (.seq (.ops [.k (some 4) none (.asg (.const (.int .i64 0))),
   .k (some 5) none (.asg (.const (.int .i64 1)))])
 .ret)
 .skip))
(.seq (.ops [.f (some 10) none (.mv (.tmp 0)),
  .f (some 11) none (.un .neg (.tmp 10)),
  .f (some 12) none (.mv (.tmp 1)),
  .k (some 13) none (.call 36 [(.tmp 11), (.tmp 12)]),
  .f (some 14) none (.un .neg (.tmp 13)),
  .k (some 4) none (.asg (.tmp 14)),
  .k (some 5) none (.asg (.const (.int .i64 0)))])
.ret)))
theorem fn33 : FnOK Try.prog 33 15 c33 [.tmp 4, .tmp 5] := .of (by kernel_rfl)
/-! 'dynpos/dynposref03.Box' -/
def c34 : Cd :=
(.seq (.ops [.k (some 2) none (.box 35 2 (.tmp 0)),
  .k (some 3) none (.box 35 2 (.tmp 1)),
  .k (some 4) none (.asg (.const (.int .i64 0))),
  .k (some 5) none (.asg (.const (.int .i64 0)))])
(.seq (.seq (.ops [.f (some 6) none (.load (some 2) (.tmp 2)),
  .k (some 7) none (.call 43 [(.tmp 6)]),
  .f (some 8) none (.un .not (.tmp 7)),
  .f (some 9) none (.mv (.tmp 8)),
  .f (some 10) (some (9, false)) (.load (some 2) (.tmp 3)),
  .k (some 11) (some (9, false)) (.call 43 [(.tmp 10)]),
  .f (some 12) (some (9, false)) (.un .not (.tmp 11)),
  .f (some 13) none (.pick (.tmp 9) (.const (.bool true)) (.tmp 12))])
(.cond (.tmp 13)
 (.seq (.ops [.k (some 4) none (.asg (.const (.int .i64 0))),
   .k (some 5) none (.asg (.const (.int .i64 1)))])
 .ret)
 .skip))
(.seq (.opd [⟨0, .f (some 14) none (.faddr 0 (.tmp 2)), []⟩,
  ⟨1, .f (some 15) none (.load none (.tmp 14)), []⟩,
  ⟨2, .f (some 16) none (.faddr 0 (.tmp 3)), []⟩,
  ⟨3, .f (some 17) none (.load none (.tmp 16)), []⟩,
  ⟨4, .f (some 18) none (.bin .sub (.tmp 15) (.tmp 17)), []⟩,
  ⟨6, .f (some 20) none (.faddr 1 (.tmp 2)), []⟩,
  ⟨7, .f (some 21) none (.load none (.tmp 20)), []⟩,
  ⟨8, .f (some 22) none (.faddr 1 (.tmp 3)), []⟩,
  ⟨9, .f (some 23) none (.load none (.tmp 22)), []⟩,
  ⟨10, .f (some 24) none (.bin .sub (.tmp 21) (.tmp 23)), []⟩,
  ⟨5, .k (some 19) none (.call 44 [(.tmp 18)]), [.f (some 21) none (.load none (.tmp 20)), .f (some 23) none (.load none (.tmp 22))]⟩,
  ⟨11, .k (some 25) none (.call 44 [(.tmp 24)]), []⟩,
  ⟨12, .f (some 26) none (.mm true [(.tmp 19), (.tmp 25)]), []⟩,
  ⟨13, .k (some 4) none (.asg (.tmp 26)), []⟩,
  ⟨14, .k (some 5) none (.asg (.const (.int .i64 0))), []⟩])
.ret)))
theorem fn34 : FnOK Try.prog 34 27 c34 [.tmp 4, .tmp 5] := .of (by kernel_rfl)
/-! 'dynpos/dynposref01.fits' -/
def c35 : Cd :=
(.seq (.ops [.k (some 4) none (.asg (.const (.bool false)))])
(.seq (.ops [.f (some 5) none (.mv (.tmp 0)),
  .k (some 6) none (.call 45 [(.tmp 5), (.const (.int .i64 1000000000000000000))]),
  .f (some 7) none (.mv (.tmp 6)),
  .f (some 8) (some (7, true)) (.mv (.tmp 1)),
  .f (some 9) (some (7, true)) (.bin .geq (.tmp 8) (.const (.int .i64 1))),
  .f (some 10) none (.pick (.tmp 7) (.tmp 9) (.const (.bool false))),
  .f (some 11) none (.mv (.tmp 10)),
  .f (some 12) (some (11, true)) (.mv (.tmp 1)),
  .f (some 13) (some (11, true)) (.bin .leq (.tmp 12) (.const (.int .i64 1000000000))),
  .f (some 14) none (.pick (.tmp 11) (.tmp 13) (.const (.bool false))),
  .k (some 4) none (.asg (.tmp 14))])
.ret))
theorem fn35 : FnOK Try.prog 35 15 c35 [.tmp 4] := .of (by kernel_rfl)
/-! 'dynpos/dynposref01.floor' -/
def c36 : Cd :=
(.seq (.ops [.k (some 4) none (.asg (.const (.int .i64 0)))])
(.seq (.ops [.f (some 6) none (.mv (.tmp 0)),
  .f (some 7) none (.mv (.tmp 1)),
  .f (some 8) none (.bin .quo (.tmp 6) (.tmp 7)),
  .k (some 5) none (.asg (.tmp 8))])
(.seq (.seq (.ops [.f (some 9) none (.mv (.tmp 0)),
  .f (some 10) none (.mv (.tmp 1)),
  .f (some 11) none (.bin .rem (.tmp 9) (.tmp 10)),
  .f (some 12) none (.bin .lss (.tmp 11) (.const (.int .i64 0)))])
(.cond (.tmp 12)
 (.ops [.f (some 13) none (.mv (.tmp 5)),
   .f (some 14) none (.bin .sub (.tmp 13) (.const (.int .i64 1))),
   .k (some 5) none (.asg (.tmp 14))])
 .skip))
(.seq (.ops [.f (some 15) none (.mv (.tmp 5)),
  .k (some 4) none (.asg (.tmp 15))])
.ret))))
theorem fn36 : FnOK Try.prog 36 16 c36 [.tmp 4] := .of (by kernel_rfl)
/-! 'dynpos/frame.Valid' -/
def c37 : Cd :=
(.seq (.ops [.k (some 1) none (.box 35 2 (.tmp 0)),
  .k (some 2) none (.asg (.const (.bool false)))])
(.seq (.ops [.f (some 3) none (.faddr 0 (.tmp 1)),
  .f (some 4) none (.load none (.tmp 3)),
  .f (some 5) none (.faddr 1 (.tmp 1)),
  .f (some 6) none (.load none (.tmp 5)),
  .f (some 7) none (.mm true [(.tmp 4), (.tmp 6)]),
  .f (some 8) none (.bin .leq (.tmp 7) (.const (.int .i64 100000000))),
  .f (some 9) none (.mv (.tmp 8)),
  .f (some 10) (some (9, true)) (.faddr 0 (.tmp 1)),
  .f (some 11) (some (9, true)) (.load none (.tmp 10)),
  .f (some 12) (some (9, true)) (.faddr 1 (.tmp 1)),
  .f (some 13) (some (9, true)) (.load none (.tmp 12)),
  .f (some 14) (some (9, true)) (.mm false [(.tmp 11), (.tmp 13)]),
  .f (some 15) (some (9, true)) (.bin .geq (.tmp 14) (.const (.int .i64 (-100000000)))),
  .f (some 16) none (.pick (.tmp 9) (.tmp 15) (.const (.bool false))),
  .k (some 2) none (.asg (.tmp 16))])
.ret))
theorem fn37 : FnOK Try.prog 37 17 c37 [.tmp 2] := .of (by kernel_rfl)
/-! 'dynpos/arith.divide' -/
def c38 : Cd :=
(.seq (.ops [.k (some 6) none (.asg (.const (.int .i64 0))),
  .k (some 7) none (.asg (.const (.int .i64 0)))])
(.seq (.seq (.ops [.f (some 8) none (.mv (.tmp 0)),
  .f (some 9) none (.bin .lss (.tmp 8) (.const (.int .i64 (-1000000000000000000)))),
  .f (some 10) none (.mv (.tmp 9)),
  .f (some 11) (some (10, false)) (.mv (.tmp 0)),
  .f (some 12) (some (10, false)) (.bin .gtr (.tmp 11) (.const (.int .i64 1000000000000000000))),
  .f (some 13) none (.pick (.tmp 10) (.const (.bool true)) (.tmp 12)),
  .f (some 14) none (.mv (.tmp 13)),
  .f (some 15) (some (14, false)) (.mv (.tmp 1)),
  .f (some 16) (some (14, false)) (.bin .lss (.tmp 15) (.const (.int .i64 1))),
  .f (some 17) none (.pick (.tmp 14) (.const (.bool true)) (.tmp 16)),
  .f (some 18) none (.mv (.tmp 17)),
  .f (some 19) (some (18, false)) (.mv (.tmp 1)),
  .f (some 20) (some (18, false)) (.bin .gtr (.tmp 19) (.const (.int .i64 1000000000))),
  .f (some 21) none (.pick (.tmp 18) (.const (.bool true)) (.tmp 20))])
(.cond (.tmp 21)
 (.seq (.ops [.k (some 6) none (.asg (.const (.int .i64 0))),
   .k (some 7) none (.asg (.const (.int .i64 1)))])
 .ret)
 .skip))
(.seq (.ops [.f (some 22) none (.mv (.tmp 2)),
  .f (some 23) none (.mv (.tmp 0)),
  .f (some 24) none (.mv (.tmp 1)),
  .k (some 25) none (.callv (.tmp 22) [(.tmp 23), (.tmp 24)]),
  .k (some 6) none (.asg (.tmp 25)),
  .k (some 7) none (.asg (.const (.int .i64 0)))])
.ret)))
theorem fn38 : FnOK Try.prog 38 26 c38 [.tmp 6, .tmp 7] := .of (by kernel_rfl)
/-! 'dynpos/arith.Up$1' -/
def c39 : Cd :=
(.seq (.ops [.k (some 4) none (.asg (.const (.int .i64 0)))])
(.seq (.ops [.f (some 5) none (.mv (.tmp 0)),
  .f (some 6) none (.un .neg (.tmp 5)),
  .f (some 7) none (.mv (.tmp 1)),
  .k (some 8) none (.call 40 [(.tmp 6), (.tmp 7)]),
  .f (some 9) none (.un .neg (.tmp 8)),
  .k (some 4) none (.asg (.tmp 9))])
.ret))
theorem fn39 : FnOK Try.prog 39 10 c39 [.tmp 4] := .of (by kernel_rfl)
/-! 'dynpos/arith.floor' -/
def c40 : Cd :=
(.seq (.ops [.k (some 4) none (.asg (.const (.int .i64 0)))])
(.seq (.ops [.f (some 6) none (.mv (.tmp 0)),
  .f (some 7) none (.mv (.tmp 1)),
  .f (some 8) none (.bin .quo (.tmp 6) (.tmp 7)),
  .k (some 5) none (.asg (.tmp 8))])
(.seq (.seq (.ops [.f (some 9) none (.mv (.tmp 0)),
  .f (some 10) none (.mv (.tmp 1)),
  .f (some 11) none (.bin .rem (.tmp 9) (.tmp 10)),
  .f (some 12) none (.bin .lss (.tmp 11) (.const (.int .i64 0)))])
(.cond (.tmp 12)
 (.ops [.f (some 13) none (.mv (.tmp 5)),
   .f (some 14) none (.bin .sub (.tmp 13) (.const (.int .i64 1))),
   .k (some 5) none (.asg (.tmp 14))])
 .skip))
(.seq (.ops [.f (some 15) none (.mv (.tmp 5)),
  .k (some 4) none (.asg (.tmp 15))])
.ret))))
theorem fn40 : FnOK Try.prog 40 16 c40 [.tmp 4] := .of (by kernel_rfl)
/-! 'dynpos/arith.Half$1' -/
def c41 : Cd :=
(.seq (.ops [.k (some 4) none (.asg (.const (.int .i64 0)))])
(.seq (.ops [.f (some 5) none (.mv (.tmp 0)),
  .f (some 6) none (.bin .mul (.const (.int .i64 2)) (.tmp 5)),
  .f (some 7) none (.mv (.tmp 1)),
  .f (some 8) none (.bin .add (.tmp 6) (.tmp 7)),
  .f (some 9) none (.mv (.tmp 1)),
  .f (some 10) none (.bin .mul (.const (.int .i64 2)) (.tmp 9)),
  .k (some 11) none (.call 40 [(.tmp 8), (.tmp 10)]),
  .k (some 4) none (.asg (.tmp 11))])
.ret))
theorem fn41 : FnOK Try.prog 41 12 c41 [.tmp 4] := .of (by kernel_rfl)
/-! 'dynpos/frame.way' -/
def c42 : Cd :=
(.seq (.ops [.k (some 2) none (.box 35 2 (.tmp 0)),
  .k (some 3) none (.box 35 2 (.tmp 1)),
  .k (some 4) none (.asg (.const (.int .i64 0))),
  .k (some 5) none (.asg (.const (.int .i64 0))),
  .k (some 6) none (.asg (.const (.int .i64 0)))])
(.seq (.seq (.ops [.f (some 8) none (.load (some 2) (.tmp 2)),
  .f (some 9) none (.load (some 2) (.tmp 3)),
  .k (some 10) none (.bslice 35 2 2 [(.int .i64 0), (.int .i64 0)] [(0, 2, (.tmp 8)), (2, 2, (.tmp 9))]),
  .k (some 11) none (.call 46 [(.tmp 10)]),
  .k (some 7) none (.asg (.tmp 11))])
(.seq (.ops [.f (some 12) none (.mv (.tmp 7)),
  .f (some 13) none (.bin .neq (.tmp 12) (.const (.int .i64 0)))])
(.cond (.tmp 13)
 (.seq (.ops [.f (some 14) none (.mv (.tmp 7)),
   .k (some 4) none (.asg (.const (.int .i64 0))),
   .k (some 5) none (.asg (.const (.int .i64 0))),
   .k (some 6) none (.asg (.tmp 14))])
 .ret)
 .skip)))
(.seq (.opd [⟨0, .f (some 15) none (.faddr 0 (.tmp 2)), []⟩,
  ⟨1, .f (some 16) none (.load none (.tmp 15)), []⟩,
  ⟨2, .f (some 17) none (.faddr 0 (.tmp 3)), []⟩,
  ⟨3, .f (some 18) none (.load none (.tmp 17)), []⟩,
  ⟨4, .f (some 19) none (.bin .sub (.tmp 16) (.tmp 18)), []⟩,
  ⟨5, .f (some 20) none (.faddr 0 (.tmp 3)), []⟩,
  ⟨6, .f (some 21) none (.load none (.tmp 20)), []⟩,
  ⟨7, .f (some 22) none (.faddr 0 (.tmp 2)), []⟩,
  ⟨8, .f (some 23) none (.load none (.tmp 22)), []⟩,
  ⟨9, .f (some 24) none (.bin .sub (.tmp 21) (.tmp 23)), []⟩,
  ⟨10, .f (some 25) none (.mm true [(.tmp 19), (.tmp 24)]), []⟩,
  ⟨11, .f (some 26) none (.faddr 1 (.tmp 2)), []⟩,
  ⟨12, .f (some 27) none (.load none (.tmp 26)), []⟩,
  ⟨13, .f (some 28) none (.faddr 1 (.tmp 3)), []⟩,
  ⟨14, .f (some 29) none (.load none (.tmp 28)), []⟩,
  ⟨15, .f (some 30) none (.bin .sub (.tmp 27) (.tmp 29)), []⟩,
  ⟨16, .f (some 31) none (.faddr 1 (.tmp 3)), []⟩,
  ⟨17, .f (some 32) none (.load none (.tmp 31)), []⟩,
  ⟨18, .f (some 33) none (.faddr 1 (.tmp 2)), []⟩,
  ⟨19, .f (some 34) none (.load none (.tmp 33)), []⟩,
  ⟨20, .f (some 35) none (.bin .sub (.tmp 32) (.tmp 34)), []⟩,
  ⟨21, .f (some 36) none (.mm true [(.tmp 30), (.tmp 35)]), []⟩,
  ⟨22, .k (some 4) none (.asg (.tmp 25)), [.f (some 27) none (.load none (.tmp 26)), .f (some 29) none (.load none (.tmp 28)), .f (some 32) none (.load none (.tmp 31)), .f (some 34) none (.load none (.tmp 33))]⟩,
  ⟨23, .k (some 5) none (.asg (.tmp 36)), []⟩,
  ⟨24, .k (some 6) none (.asg (.const (.int .i64 0))), []⟩])
.ret)))
theorem fn42 : FnOK Try.prog 42 37 c42 [.tmp 4, .tmp 5, .tmp 6] := .of (by kernel_rfl)
/-! 'dynpos/dynposref03.Valid' -/
def c43 : Cd :=
(.seq (.ops [.k (some 1) none (.box 35 2 (.tmp 0)),
  .k (some 2) none (.asg (.const (.bool false)))])
(.seq (.ops [.f (some 3) none (.faddr 0 (.tmp 1)),
  .f (some 4) none (.load none (.tmp 3)),
  .f (some 5) none (.bin .geq (.tmp 4) (.const (.int .i64 (-100000000)))),
  .f (some 6) none (.mv (.tmp 5)),
  .f (some 7) (some (6, true)) (.faddr 0 (.tmp 1)),
  .f (some 8) (some (6, true)) (.load none (.tmp 7)),
  .f (some 9) (some (6, true)) (.bin .leq (.tmp 8) (.const (.int .i64 100000000))),
  .f (some 10) none (.pick (.tmp 6) (.tmp 9) (.const (.bool false))),
  .f (some 11) none (.mv (.tmp 10)),
  .f (some 12) (some (11, true)) (.faddr 1 (.tmp 1)),
  .f (some 13) (some (11, true)) (.load none (.tmp 12)),
  .f (some 14) (some (11, true)) (.bin .geq (.tmp 13) (.const (.int .i64 (-100000000)))),
  .f (some 15) none (.pick (.tmp 11) (.tmp 14) (.const (.bool false))),
  .f (some 16) none (.mv (.tmp 15)),
  .f (some 17) (some (16, true)) (.faddr 1 (.tmp 1)),
  .f (some 18) (some (16, true)) (.load none (.tmp 17)),
  .f (some 19) (some (16, true)) (.bin .leq (.tmp 18) (.const (.int .i64 100000000))),
  .f (some 20) none (.pick (.tmp 16) (.tmp 19) (.const (.bool false))),
  .k (some 2) none (.asg (.tmp 20))])
.ret))
theorem fn43 : FnOK Try.prog 43 21 c43 [.tmp 2] := .of (by kernel_rfl)
/-! 'dynpos/dynposref03.abs' -/
def c44 : Cd :=
(.seq (.ops [.k (some 2) none (.asg (.const (.int .i64 0)))])
(.seq (.seq (.ops [.f (some 3) none (.mv (.tmp 0)),
  .f (some 4) none (.bin .lss (.tmp 3) (.const (.int .i64 0)))])
(.cond (.tmp 4)
 (.seq (.ops [.f (some 5) none (.mv (.tmp 0)),
   .f (some 6) none (.un .neg (.tmp 5)),
   .k (some 2) none (.asg (.tmp 6))])
 .ret)
 .skip))
(.seq (.ops [.f (some 7) none (.mv (.tmp 0)),
  .k (some 2) none (.asg (.tmp 7))])
.ret)))
theorem fn44 : FnOK Try.prog 44 8 c44 [.tmp 2] := .of (by kernel_rfl)
/-! 'dynpos/dynposref01.in' -/
def c45 : Cd :=
(.seq (.ops [.k (some 4) none (.asg (.const (.bool false)))])
(.seq (.ops [.f (some 5) none (.mv (.tmp 0)),
  .f (some 6) none (.mv (.tmp 1)),
  .f (some 7) none (.un .neg (.tmp 6)),
  .f (some 8) none (.bin .geq (.tmp 5) (.tmp 7)),
  .f (some 9) none (.mv (.tmp 8)),
  .f (some 10) (some (9, true)) (.mv (.tmp 0)),
  .f (some 11) (some (9, true)) (.mv (.tmp 1)),
  .f (some 12) (some (9, true)) (.bin .leq (.tmp 10) (.tmp 11)),
  .f (some 13) none (.pick (.tmp 9) (.tmp 12) (.const (.bool false))),
  .k (some 4) none (.asg (.tmp 13))])
.ret))
theorem fn45 : FnOK Try.prog 45 14 c45 [.tmp 4] := .of (by kernel_rfl)
/-! 'dynpos/frame.valid' -/
def c46_0 : Cd :=
(.block 1
 (.seq (.ops [.f (some 9) none (.iaddr 2 none (.tmp 5) (.tmp 7)),
   .f (some 10) none (.load (some 2) (.tmp 9)),
   .k (some 4) none (.alloc 35 [(.int .i64 0), (.int .i64 0)]),
   .k none none (.store 2 (.tmp 4) (.tmp 10))])
 (.seq (.ops [.f (some 11) none (.load (some 2) (.tmp 4)),
   .k (some 12) none (.call 37 [(.tmp 11)]),
   .f (some 13) none (.un .not (.tmp 12))])
 (.cond (.tmp 13)
  (.seq (.ops [.k (some 2) none (.asg (.const (.int .i64 1)))])
  .ret)
  .skip))))
def c46 : Cd :=
(.seq (.ops [.k (some 2) none (.asg (.const (.int .i64 0)))])
(.seq (.seq (.ops [.f (some 5) none (.mv (.tmp 0)),
  .f (some 6) none (.len (.tmp 5)),
  .f (some 7) none (.mv (.const (.int .i64 0)))])
(rangeC 0 7 6 8 14 c46_0))
(.seq (.ops [.k (some 2) none (.asg (.const (.int .i64 0)))])
.ret)))
theorem fn46 : FnOK Try.prog 46 15 c46 [.tmp 2] := .of (by kernel_rfl)
end Go.Proofs.Ytcedkkleclhglaa.H
