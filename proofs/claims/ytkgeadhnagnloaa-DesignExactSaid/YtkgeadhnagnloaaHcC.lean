/- compact code -/
import Derived.Test.YtkgeadhnagnloaaKaC
import Derived.Test.YtkgeadhnagnloaaRows
set_option linter.unusedSimpArgs false
set_option linter.unusedVariables false
set_option maxRecDepth 100000
namespace Go.Proofs.Ytkgeadhnagnloaa.H
/-! 'dynpos/dynposlaw26.DesignExact' -/
def c3_0 : Cd :=
(.block 1
 (.seq (.ops [.f (some 64) none (.iaddr 2 none (.tmp 60) (.tmp 62)),
   .f (some 65) none (.load (some 2) (.tmp 64)),
   .k (some 16) none (.alloc 32 [(.string ⟨#[]⟩), (.slice none 0 0)]),
   .k none none (.store 2 (.tmp 16) (.tmp 65))])
 (.seq (.ops [.f (some 66) none (.faddr 1 (.tmp 16)),
   .f (some 67) none (.load none (.tmp 66)),
   .f (some 68) none (.len (.tmp 67)),
   .f (some 69) none (.bin .gtr (.tmp 68) (.const (.int .i64 20))),
   .f (some 70) none (.mv (.tmp 69)),
   .f (some 71) (some (70, false)) (.faddr 0 (.tmp 16)),
   .f (some 72) (some (70, false)) (.load none (.tmp 71)),
   .f (some 73) (some (70, false)) (.lens (.tmp 72)),
   .f (some 74) (some (70, false)) (.bin .gtr (.tmp 73) (.const (.int .i64 40))),
   .f (some 75) none (.pick (.tmp 70) (.const (.bool true)) (.tmp 74))])
 (.cond (.tmp 75)
  (.seq (.ops [.k (some 76) none (.call 9 []),
    .k (some 14) none (.asg (.tmp 76))])
  .ret)
  .skip))))
def c3_1 : Cd :=
(.seq (.ops [.f (some 140) none (.bin .lss (.tmp 139) (.const (.int .i64 2)))])
(.seq (.cond (.tmp 140)
 .skip
 (.exit 4))
(.seq (.block 5
 (.seq (.ops [.f (some 141) none (.idx 1 none 2 (.tmp 138) (.tmp 139)),
   .k (some 23) none (.asg (.tmp 141))])
 (.seq (.opd [⟨0, .f (some 142) none (.load (some 3) (.tmp 21)), []⟩,
   ⟨1, .f (some 143) none (.mv (.tmp 23)), []⟩,
   ⟨3, .f (some 145) none (.load (some 3) (.tmp 21)), []⟩,
   ⟨4, .f (some 146) none (.mv (.tmp 23)), []⟩,
   ⟨2, .k (some 144) none (.call 25 [(.tmp 142), (.tmp 143)]), [.f (some 145) none (.load (some 3) (.tmp 21))]⟩,
   ⟨5, .k (some 147) none (.call 26 [(.tmp 145), (.tmp 146)]), []⟩,
   ⟨6, .k (some 148) none (.call 17 [(.tmp 144), (.tmp 147)]), []⟩,
   ⟨7, .f (some 149) none (.un .not (.tmp 148)), []⟩,
   ⟨8, .f (some 150) none (.mv (.tmp 149)), []⟩,
   ⟨9, .f (some 151) (some (150, false)) (.load (some 3) (.tmp 21)), []⟩,
   ⟨10, .f (some 152) (some (150, false)) (.mv (.tmp 23)), []⟩,
   ⟨12, .f (some 154) (some (150, false)) (.load (some 3) (.tmp 21)), []⟩,
   ⟨13, .f (some 155) (some (150, false)) (.mv (.tmp 23)), []⟩,
   ⟨11, .k (some 153) (some (150, false)) (.call 27 [(.tmp 151), (.tmp 152)]), [.f (some 154) (some (150, false)) (.load (some 3) (.tmp 21))]⟩,
   ⟨14, .k (some 156) (some (150, false)) (.call 28 [(.tmp 154), (.tmp 155)]), []⟩,
   ⟨15, .f (some 157) (some (150, false)) (.binb .neq (.tmp 153) (.tmp 156)), []⟩,
   ⟨16, .f (some 158) none (.pick (.tmp 150) (.const (.bool true)) (.tmp 157)), []⟩])
 (.cond (.tmp 158)
  (.seq (.ops [.k (some 14) none (.asg (.const (.bool false)))])
  .ret)
  .skip))))
(.ops [.f (some 159) none (.bin .add (.tmp 139) (.const (.int .i64 1))),
  .f (some 139) none (.mv (.tmp 159))]))))
def c3_2 : Cd :=
(.seq (.ops [.f (some 170) none (.bin .lss (.tmp 169) (.const (.int .i64 2)))])
(.seq (.cond (.tmp 170)
 .skip
 (.exit 6))
(.seq (.block 7
 (.seq (.ops [.f (some 171) none (.idx 4 (some 4) 2 (.tmp 168) (.tmp 169)),
   .k (some 25) none (.alloc 49 [(.int .i64 0), (.int .i64 0), (.int .i64 0), (.int .i64 0)]),
   .k none none (.store 4 (.tmp 25) (.tmp 171))])
 (.seq (.ops [.f (some 173) none (.load (some 3) (.tmp 21)),
   .f (some 174) none (.iaddr 2 (some 2) (.tmp 25) (.const (.int .i64 0))),
   .f (some 175) none (.load (some 2) (.tmp 174)),
   .f (some 176) none (.iaddr 2 (some 2) (.tmp 25) (.const (.int .i64 1))),
   .f (some 177) none (.load (some 2) (.tmp 176)),
   .k (some 178) none (.call 30 [(.tmp 173), (.tmp 175), (.tmp 177)]),
   .f (some 172) none (.mv (.tmp 178)),
   .f (some 179) none (.extract 0 (.tmp 172)),
   .f (some 180) none (.extract 1 (.tmp 172)),
   .k (some 26) none (.asg (.tmp 179)),
   .k (some 27) none (.asg (.tmp 180))])
 (.seq (.ops [.f (some 182) none (.load (some 3) (.tmp 21)),
   .f (some 183) none (.iaddr 2 (some 2) (.tmp 25) (.const (.int .i64 0))),
   .f (some 184) none (.load (some 2) (.tmp 183)),
   .f (some 185) none (.iaddr 2 (some 2) (.tmp 25) (.const (.int .i64 1))),
   .f (some 186) none (.load (some 2) (.tmp 185)),
   .k (some 187) none (.call 31 [(.tmp 182), (.tmp 184), (.tmp 186)]),
   .f (some 181) none (.mv (.tmp 187)),
   .f (some 188) none (.extract 0 (.tmp 181)),
   .f (some 189) none (.extract 1 (.tmp 181)),
   .k (some 28) none (.asg (.tmp 188)),
   .k (some 29) none (.asg (.tmp 189))])
 (.seq (.opd [⟨0, .f (some 190) none (.mv (.tmp 27)), []⟩,
   ⟨1, .f (some 191) none (.mv (.tmp 29)), []⟩,
   ⟨2, .f (some 192) none (.binb .neq (.tmp 190) (.tmp 191)), []⟩,
   ⟨3, .f (some 193) none (.mv (.tmp 192)), []⟩,
   ⟨4, .f (some 194) (some (193, false)) (.mv (.tmp 26)), []⟩,
   ⟨5, .f (some 195) (some (193, false)) (.mv (.tmp 28)), []⟩,
   ⟨6, .k (some 196) (some (193, false)) (.call 17 [(.tmp 194), (.tmp 195)]), []⟩,
   ⟨7, .f (some 197) (some (193, false)) (.un .not (.tmp 196)), []⟩,
   ⟨8, .f (some 198) none (.pick (.tmp 193) (.const (.bool true)) (.tmp 197)), []⟩,
   ⟨9, .f (some 199) none (.mv (.tmp 198)), []⟩,
   ⟨10, .f (some 200) (some (199, false)) (.load (some 3) (.tmp 21)), []⟩,
   ⟨11, .f (some 201) (some (199, false)) (.mv (.tmp 26)), []⟩,
   ⟨13, .f (some 203) (some (199, false)) (.load (some 3) (.tmp 21)), []⟩,
   ⟨14, .f (some 204) (some (199, false)) (.mv (.tmp 26)), []⟩,
   ⟨12, .k (some 202) (some (199, false)) (.call 27 [(.tmp 200), (.tmp 201)]), [.f (some 203) (some (199, false)) (.load (some 3) (.tmp 21))]⟩,
   ⟨15, .k (some 205) (some (199, false)) (.call 28 [(.tmp 203), (.tmp 204)]), []⟩,
   ⟨16, .f (some 206) (some (199, false)) (.binb .neq (.tmp 202) (.tmp 205)), []⟩,
   ⟨17, .f (some 207) none (.pick (.tmp 199) (.const (.bool true)) (.tmp 206)), []⟩])
 (.cond (.tmp 207)
  (.seq (.ops [.k (some 14) none (.asg (.const (.bool false)))])
  .ret)
  .skip))))))
(.ops [.f (some 208) none (.bin .add (.tmp 169) (.const (.int .i64 1))),
  .f (some 169) none (.mv (.tmp 208))]))))
def c3_3 : Cd :=
(.seq (.ops [.f (some 219) none (.bin .lss (.tmp 218) (.const (.int .i64 2)))])
(.seq (.cond (.tmp 219)
 .skip
 (.exit 8))
(.seq (.block 9
 (.seq (.ops [.f (some 220) none (.idx 2 (some 2) 2 (.tmp 217) (.tmp 218)),
   .k (some 31) none (.alloc 54 [(.int .i64 0), (.int .i64 0)]),
   .k none none (.store 2 (.tmp 31) (.tmp 220))])
 (.seq (.opd [⟨0, .f (some 221) none (.load (some 3) (.tmp 21)), []⟩,
   ⟨1, .f (some 222) none (.iaddr 1 (some 2) (.tmp 31) (.const (.int .i64 0))), []⟩,
   ⟨2, .f (some 223) none (.load none (.tmp 222)), []⟩,
   ⟨3, .f (some 224) none (.iaddr 1 (some 2) (.tmp 31) (.const (.int .i64 1))), []⟩,
   ⟨4, .f (some 225) none (.load none (.tmp 224)), []⟩,
   ⟨6, .f (some 227) none (.load (some 3) (.tmp 21)), []⟩,
   ⟨7, .f (some 228) none (.iaddr 1 (some 2) (.tmp 31) (.const (.int .i64 0))), []⟩,
   ⟨8, .f (some 229) none (.load none (.tmp 228)), []⟩,
   ⟨9, .f (some 230) none (.iaddr 1 (some 2) (.tmp 31) (.const (.int .i64 1))), []⟩,
   ⟨10, .f (some 231) none (.load none (.tmp 230)), []⟩,
   ⟨5, .k (some 226) none (.call 33 [(.tmp 221), (.tmp 223), (.tmp 225)]), [.f (some 227) none (.load (some 3) (.tmp 21)), .f (some 229) none (.load none (.tmp 228)), .f (some 231) none (.load none (.tmp 230))]⟩,
   ⟨11, .k (some 232) none (.call 34 [(.tmp 227), (.tmp 229), (.tmp 231)]), []⟩,
   ⟨12, .k (some 233) none (.call 17 [(.tmp 226), (.tmp 232)]), []⟩,
   ⟨13, .f (some 234) none (.un .not (.tmp 233)), []⟩])
 (.cond (.tmp 234)
  (.seq (.ops [.k (some 14) none (.asg (.const (.bool false)))])
  .ret)
  .skip))))
(.ops [.f (some 235) none (.bin .add (.tmp 218) (.const (.int .i64 1))),
  .f (some 218) none (.mv (.tmp 235))]))))
def c3_4 : Cd :=
(.seq (.ops [.f (some 122) none (.bin .lss (.tmp 121) (.const (.int .i64 3)))])
(.seq (.cond (.tmp 122)
 .skip
 (.exit 2))
(.seq (.block 3
 (.seq (.ops [.f (some 123) none (.idx 3 (some 3) 3 (.tmp 120) (.tmp 121)),
   .k (some 21) none (.alloc 27 [(.slice none 0 0), (.slice none 0 0), (.slice none 0 0)]),
   .k none none (.store 3 (.tmp 21) (.tmp 123))])
 (.seq (.seq (.opd [⟨0, .f (some 124) none (.load (some 3) (.tmp 21)), []⟩,
   ⟨2, .f (some 126) none (.load (some 3) (.tmp 21)), []⟩,
   ⟨1, .k (some 125) none (.call 21 [(.tmp 124)]), [.f (some 126) none (.load (some 3) (.tmp 21))]⟩,
   ⟨3, .k (some 127) none (.call 22 [(.tmp 126)]), []⟩,
   ⟨4, .f (some 128) none (.bin .neq (.tmp 125) (.tmp 127)), []⟩,
   ⟨5, .f (some 129) none (.mv (.tmp 128)), []⟩,
   ⟨6, .f (some 130) (some (129, false)) (.load (some 3) (.tmp 21)), []⟩,
   ⟨8, .f (some 132) (some (129, false)) (.load (some 3) (.tmp 21)), []⟩,
   ⟨7, .k (some 131) (some (129, false)) (.call 23 [(.tmp 130)]), [.f (some 132) (some (129, false)) (.load (some 3) (.tmp 21))]⟩,
   ⟨9, .k (some 133) (some (129, false)) (.call 24 [(.tmp 132)]), []⟩,
   ⟨10, .f (some 134) (some (129, false)) (.binb .neq (.tmp 131) (.tmp 133)), []⟩,
   ⟨11, .f (some 135) none (.pick (.tmp 129) (.const (.bool true)) (.tmp 134)), []⟩])
 (.cond (.tmp 135)
  (.seq (.ops [.k (some 14) none (.asg (.const (.bool false)))])
  .ret)
  .skip))
 (.seq (.seq (.ops [.f (some 136) none (.mv (.tmp 2)),
   .f (some 137) none (.mv (.tmp 19)),
   .f (some 138) none (.build [(.slice none 0 0), (.slice none 0 0)] [(0, 1, (.tmp 136)), (1, 1, (.tmp 137))]),
   .f (some 139) none (.mv (.const (.int .i64 0)))])
 (.block 4
  (.loop c3_1)))
 (.seq (.seq (.opd [⟨0, .f (some 160) none (.load (some 2) (.tmp 10)), []⟩,
   ⟨1, .f (some 161) none (.load (some 2) (.tmp 11)), []⟩,
   ⟨2, .f (some 162) none (.build [(.int .i64 0), (.int .i64 0), (.int .i64 0), (.int .i64 0)] [(0, 2, (.tmp 160)), (2, 2, (.tmp 161))]), []⟩,
   ⟨3, .f (some 163) none (.mv (.tmp 17)), []⟩,
   ⟨5, .f (some 165) none (.mv (.tmp 17)), []⟩,
   ⟨9, .f (some 169) none (.mv (.const (.int .i64 0))), []⟩,
   ⟨4, .k (some 164) none (.call 29 [(.tmp 163)]), [.f (some 160) none (.load (some 2) (.tmp 10)), .f (some 161) none (.load (some 2) (.tmp 11))]⟩,
   ⟨6, .k (some 166) none (.call 29 [(.tmp 165)]), [.f (some 160) none (.load (some 2) (.tmp 10)), .f (some 161) none (.load (some 2) (.tmp 11))]⟩,
   ⟨7, .f (some 167) none (.build [(.int .i64 0), (.int .i64 0), (.int .i64 0), (.int .i64 0)] [(0, 2, (.tmp 164)), (2, 2, (.tmp 166))]), []⟩,
   ⟨8, .f (some 168) none (.build [(.int .i64 0), (.int .i64 0), (.int .i64 0), (.int .i64 0), (.int .i64 0), (.int .i64 0), (.int .i64 0), (.int .i64 0)] [(0, 4, (.tmp 162)), (4, 4, (.tmp 167))]), []⟩])
 (.block 6
  (.loop c3_2)))
 (.seq (.ops [.f (some 209) none (.mv (.tmp 5)),
   .f (some 210) none (.mv (.tmp 6)),
   .f (some 211) none (.build [(.int .i64 0), (.int .i64 0)] [(0, 1, (.tmp 209)), (1, 1, (.tmp 210))]),
   .f (some 212) none (.mv (.tmp 17)),
   .k (some 213) none (.call 32 [(.tmp 212), (.const (.int .i64 4))]),
   .f (some 214) none (.mv (.tmp 17)),
   .k (some 215) none (.call 32 [(.tmp 214), (.const (.int .i64 4))]),
   .f (some 216) none (.build [(.int .i64 0), (.int .i64 0)] [(0, 1, (.tmp 213)), (1, 1, (.tmp 215))]),
   .f (some 217) none (.build [(.int .i64 0), (.int .i64 0), (.int .i64 0), (.int .i64 0)] [(0, 2, (.tmp 211)), (2, 2, (.tmp 216))]),
   .f (some 218) none (.mv (.const (.int .i64 0)))])
 (.block 8
  (.loop c3_3))))))))
(.ops [.f (some 236) none (.bin .add (.tmp 121) (.const (.int .i64 1))),
  .f (some 121) none (.mv (.tmp 236))]))))
def c3 : Cd :=
(.seq (.ops [.k (some 8) none (.box 27 3 (.tmp 1)),
  .k (some 10) none (.box 29 2 (.tmp 3)),
  .k (some 11) none (.box 29 2 (.tmp 4)),
  .k (some 14) none (.asg (.const (.bool false)))])
(.seq (.seq (.ops [.f (some 32) none (.mv (.tmp 0)),
  .f (some 33) none (.len (.tmp 32)),
  .f (some 34) none (.bin .gtr (.tmp 33) (.const (.int .i64 600))),
  .f (some 35) none (.mv (.tmp 34)),
  .f (some 36) (some (35, false)) (.faddr 0 (.tmp 8)),
  .f (some 37) (some (35, false)) (.load none (.tmp 36)),
  .f (some 38) (some (35, false)) (.len (.tmp 37)),
  .f (some 39) (some (35, false)) (.bin .gtr (.tmp 38) (.const (.int .i64 45))),
  .f (some 40) none (.pick (.tmp 35) (.const (.bool true)) (.tmp 39)),
  .f (some 41) none (.mv (.tmp 40)),
  .f (some 42) (some (41, false)) (.faddr 1 (.tmp 8)),
  .f (some 43) (some (41, false)) (.load none (.tmp 42)),
  .f (some 44) (some (41, false)) (.len (.tmp 43)),
  .f (some 45) (some (41, false)) (.bin .gtr (.tmp 44) (.const (.int .i64 30))),
  .f (some 46) none (.pick (.tmp 41) (.const (.bool true)) (.tmp 45)),
  .f (some 47) none (.mv (.tmp 46)),
  .f (some 48) (some (47, false)) (.faddr 2 (.tmp 8)),
  .f (some 49) (some (47, false)) (.load none (.tmp 48)),
  .f (some 50) (some (47, false)) (.len (.tmp 49)),
  .f (some 51) (some (47, false)) (.bin .gtr (.tmp 50) (.const (.int .i64 8))),
  .f (some 52) none (.pick (.tmp 47) (.const (.bool true)) (.tmp 51)),
  .f (some 53) none (.mv (.tmp 52)),
  .f (some 54) (some (53, false)) (.mv (.tmp 2)),
  .f (some 55) (some (53, false)) (.len (.tmp 54)),
  .f (some 56) (some (53, false)) (.bin .gtr (.tmp 55) (.const (.int .i64 20))),
  .f (some 57) none (.pick (.tmp 53) (.const (.bool true)) (.tmp 56))])
(.cond (.tmp 57)
 (.seq (.ops [.k (some 58) none (.call 9 []),
   .k (some 14) none (.asg (.tmp 58))])
 .ret)
 .skip))
(.seq (.seq (.ops [.f (some 59) none (.faddr 2 (.tmp 8)),
  .f (some 60) none (.load none (.tmp 59)),
  .f (some 61) none (.len (.tmp 60)),
  .f (some 62) none (.mv (.const (.int .i64 0)))])
(rangeC 0 62 61 63 77 c3_0))
(.seq (.ops [.f (some 78) none (.mv (.tmp 0)),
  .k (some 79) none (.call 10 [(.tmp 78)]),
  .k (some 17) none (.asg (.tmp 79))])
(.seq (.ops [.f (some 80) none (.mv (.tmp 17)),
  .k (some 81) none (.call 11 [(.tmp 80), (.const (.int .i64 7))]),
  .k (some 18) none (.alloc 27 [(.slice none 0 0), (.slice none 0 0), (.slice none 0 0)]),
  .k none none (.store 3 (.tmp 18) (.tmp 81))])
(.seq (.ops [.f (some 82) none (.mv (.tmp 17)),
  .k (some 83) none (.call 12 [(.tmp 82), (.const (.int .i64 4))]),
  .k (some 19) none (.asg (.tmp 83))])
(.seq (.seq (.opd [⟨0, .f (some 84) none (.mv (.tmp 2)), []⟩,
  ⟨2, .f (some 86) none (.mv (.tmp 2)), []⟩,
  ⟨1, .k (some 85) none (.call 13 [(.tmp 84)]), []⟩,
  ⟨3, .k (some 87) none (.call 14 [(.tmp 86)]), []⟩,
  ⟨4, .f (some 88) none (.binb .neq (.tmp 85) (.tmp 87)), []⟩,
  ⟨5, .f (some 89) none (.mv (.tmp 88)), []⟩,
  ⟨6, .f (some 90) (some (89, false)) (.mv (.tmp 2)), []⟩,
  ⟨7, .f (some 91) (some (89, false)) (.load (some 2) (.tmp 10)), []⟩,
  ⟨9, .f (some 93) (some (89, false)) (.mv (.tmp 2)), []⟩,
  ⟨10, .f (some 94) (some (89, false)) (.load (some 2) (.tmp 10)), []⟩,
  ⟨8, .k (some 92) (some (89, false)) (.call 15 [(.tmp 90), (.tmp 91)]), [.f (some 94) (some (89, false)) (.load (some 2) (.tmp 10))]⟩,
  ⟨11, .k (some 95) (some (89, false)) (.call 16 [(.tmp 93), (.tmp 94)]), []⟩,
  ⟨12, .f (some 96) (some (89, false)) (.binb .neq (.tmp 92) (.tmp 95)), []⟩,
  ⟨13, .f (some 97) none (.pick (.tmp 89) (.const (.bool true)) (.tmp 96)), []⟩,
  ⟨14, .f (some 98) none (.mv (.tmp 97)), []⟩,
  ⟨15, .f (some 99) (some (98, false)) (.mv (.tmp 2)), []⟩,
  ⟨16, .f (some 100) (some (98, false)) (.mv (.tmp 19)), []⟩,
  ⟨18, .f (some 102) (some (98, false)) (.mv (.tmp 2)), []⟩,
  ⟨19, .f (some 103) (some (98, false)) (.mv (.tmp 19)), []⟩,
  ⟨17, .k (some 101) (some (98, false)) (.call 18 [(.tmp 99), (.tmp 100)]), []⟩,
  ⟨20, .k (some 104) (some (98, false)) (.call 19 [(.tmp 102), (.tmp 103)]), []⟩,
  ⟨21, .k (some 105) (some (98, false)) (.call 17 [(.tmp 101), (.tmp 104)]), []⟩,
  ⟨22, .f (some 106) (some (98, false)) (.un .not (.tmp 105)), []⟩,
  ⟨23, .f (some 107) none (.pick (.tmp 98) (.const (.bool true)) (.tmp 106)), []⟩,
  ⟨24, .f (some 108) none (.mv (.tmp 107)), []⟩,
  ⟨25, .f (some 109) (some (108, false)) (.mv (.tmp 19)), []⟩,
  ⟨27, .f (some 111) (some (108, false)) (.mv (.tmp 19)), []⟩,
  ⟨26, .k (some 110) (some (108, false)) (.call 13 [(.tmp 109)]), []⟩,
  ⟨28, .k (some 112) (some (108, false)) (.call 14 [(.tmp 111)]), []⟩,
  ⟨29, .f (some 113) (some (108, false)) (.binb .neq (.tmp 110) (.tmp 112)), []⟩,
  ⟨30, .f (some 114) none (.pick (.tmp 108) (.const (.bool true)) (.tmp 113)), []⟩])
(.cond (.tmp 114)
 (.seq (.ops [.k (some 14) none (.asg (.const (.bool false)))])
 .ret)
 .skip))
(.seq (.seq (.opd [⟨0, .f (some 115) none (.load (some 3) (.tmp 18)), []⟩,
  ⟨1, .f (some 116) none (.mv (.tmp 17)), []⟩,
  ⟨2, .f (some 117) none (.load (some 3) (.tmp 18)), []⟩,
  ⟨4, .f (some 119) none (.load (some 3) (.tmp 8)), []⟩,
  ⟨6, .f (some 121) none (.mv (.const (.int .i64 0))), []⟩,
  ⟨3, .k (some 118) none (.call 20 [(.tmp 116), (.tmp 117)]), [.f (some 115) none (.load (some 3) (.tmp 18)), .f (some 119) none (.load (some 3) (.tmp 8))]⟩,
  ⟨5, .f (some 120) none (.build [(.slice none 0 0), (.slice none 0 0), (.slice none 0 0), (.slice none 0 0), (.slice none 0 0), (.slice none 0 0), (.slice none 0 0), (.slice none 0 0), (.slice none 0 0)] [(0, 3, (.tmp 115)), (3, 3, (.tmp 118)), (6, 3, (.tmp 119))]), []⟩])
(.block 2
 (.loop c3_4)))
(.seq (.ops [.k (some 237) none (.call 9 []),
  .k (some 14) none (.asg (.tmp 237))])
.ret)))))))))
theorem fn3 : FnOK Try.prog 3 238 c3 [.tmp 14] := .of (by kernel_rfl)
/-! 'dynpos/dynposlaw26.DesignFalls' -/
def c4_0 : Cd :=
(.block 1
 (.seq (.ops [.f (some 36) none (.iaddr 2 none (.tmp 32) (.tmp 34)),
   .f (some 37) none (.load (some 2) (.tmp 36)),
   .k (some 8) none (.alloc 29 [(.int .i64 0), (.int .i64 0)]),
   .k none none (.store 2 (.tmp 8) (.tmp 37))])
 (.seq (.ops [.f (some 38) none (.mv (.tmp 6)),
   .f (some 39) none (.load (some 2) (.tmp 8)),
   .k (some 40) none (.call 15 [(.tmp 38), (.tmp 39)]),
   .f (some 41) none (.un .not (.tmp 40))])
 (.cond (.tmp 41)
  (.seq (.ops [.k (some 2) none (.asg (.const (.bool false)))])
  .ret)
  .skip))))
def c4_1 : Cd :=
(.block 3
 (.seq (.ops [.f (some 48) none (.iaddr 4 none (.tmp 44) (.tmp 46)),
   .f (some 49) none (.load (some 4) (.tmp 48)),
   .k (some 10) none (.alloc 60 [(.int .i64 0), (.int .i64 0), (.int .i64 0), (.int .i64 0)]),
   .k none none (.store 4 (.tmp 10) (.tmp 49))])
 (.seq (.ops [.f (some 50) none (.mv (.tmp 6)),
   .f (some 51) none (.faddr 0 (.tmp 10)),
   .f (some 52) none (.load (some 2) (.tmp 51)),
   .k (some 53) none (.call 15 [(.tmp 50), (.tmp 52)]),
   .f (some 54) none (.mv (.tmp 53)),
   .f (some 55) (some (54, true)) (.mv (.tmp 6)),
   .f (some 56) (some (54, true)) (.faddr 2 (.tmp 10)),
   .f (some 57) (some (54, true)) (.load (some 2) (.tmp 56)),
   .k (some 58) (some (54, true)) (.call 15 [(.tmp 55), (.tmp 57)]),
   .f (some 59) (some (54, true)) (.un .not (.tmp 58)),
   .f (some 60) none (.pick (.tmp 54) (.tmp 59) (.const (.bool false)))])
 (.cond (.tmp 60)
  (.seq (.ops [.k (some 2) none (.asg (.const (.bool false)))])
  .ret)
  .skip))))
def c4_2 : Cd :=
(.block 7
 (.seq (.ops [.f (some 76) none (.iaddr 4 none (.tmp 72) (.tmp 74)),
   .f (some 77) none (.load (some 4) (.tmp 76)),
   .k (some 15) none (.alloc 60 [(.int .i64 0), (.int .i64 0), (.int .i64 0), (.int .i64 0)]),
   .k none none (.store 4 (.tmp 15) (.tmp 77))])
 (.ops [.f (some 78) none (.mv (.tmp 13)),
   .f (some 79) none (.mv (.tmp 78)),
   .f (some 80) (some (79, false)) (.faddr 2 (.tmp 15)),
   .f (some 81) (some (79, false)) (.load (some 2) (.tmp 80)),
   .f (some 82) (some (79, false)) (.load (some 2) (.tmp 12)),
   .f (some 83) (some (79, false)) (.eql false (.st [(0, none, .num), (1, none, .num)]) (.tmp 81) (.tmp 82)),
   .f (some 84) (some (79, false)) (.mv (.tmp 83)),
   .f (some 85) (some (84, true)) (.mv (.tmp 6)),
   .f (some 86) (some (84, true)) (.faddr 0 (.tmp 15)),
   .f (some 87) (some (84, true)) (.load (some 2) (.tmp 86)),
   .k (some 88) (some (84, true)) (.call 15 [(.tmp 85), (.tmp 87)]),
   .f (some 89) (some (79, false)) (.pick (.tmp 84) (.tmp 88) (.const (.bool false))),
   .f (some 90) none (.pick (.tmp 79) (.const (.bool true)) (.tmp 89)),
   .k (some 13) none (.asg (.tmp 90))])))
def c4_3 : Cd :=
(.block 5
 (.seq (.ops [.f (some 66) none (.iaddr 2 none (.tmp 62) (.tmp 64)),
   .f (some 67) none (.load (some 2) (.tmp 66)),
   .k (some 12) none (.alloc 29 [(.int .i64 0), (.int .i64 0)]),
   .k none none (.store 2 (.tmp 12) (.tmp 67))])
 (.seq (.ops [.f (some 68) none (.mv (.tmp 5)),
   .f (some 69) none (.load (some 2) (.tmp 12)),
   .k (some 70) none (.call 15 [(.tmp 68), (.tmp 69)]),
   .k (some 13) none (.asg (.tmp 70))])
 (.seq (.seq (.ops [.f (some 71) none (.faddr 1 (.tmp 4)),
   .f (some 72) none (.load none (.tmp 71)),
   .f (some 73) none (.len (.tmp 72)),
   .f (some 74) none (.mv (.const (.int .i64 0)))])
 (rangeC 6 74 73 75 91 c4_2))
 (.seq (.ops [.f (some 92) none (.mv (.tmp 13)),
   .f (some 93) none (.un .not (.tmp 92))])
 (.cond (.tmp 93)
  (.seq (.ops [.k (some 2) none (.asg (.const (.bool false)))])
  .ret)
  .skip))))))
def c4 : Cd :=
(.seq (.ops [.k (some 2) none (.asg (.const (.bool false)))])
(.seq (.seq (.ops [.f (some 16) none (.mv (.tmp 0)),
  .f (some 17) none (.len (.tmp 16)),
  .f (some 18) none (.bin .gtr (.tmp 17) (.const (.int .i64 600)))])
(.cond (.tmp 18)
 (.seq (.ops [.k (some 19) none (.call 9 []),
   .k (some 2) none (.asg (.tmp 19))])
 .ret)
 .skip))
(.seq (.ops [.f (some 20) none (.mv (.tmp 0)),
  .k (some 21) none (.call 10 [(.tmp 20)]),
  .k (some 3) none (.asg (.tmp 21))])
(.seq (.ops [.f (some 22) none (.mv (.tmp 3)),
  .k (some 23) none (.call 11 [(.tmp 22), (.const (.int .i64 8))]),
  .k (some 4) none (.alloc 27 [(.slice none 0 0), (.slice none 0 0), (.slice none 0 0)]),
  .k none none (.store 3 (.tmp 4) (.tmp 23))])
(.seq (.ops [.f (some 24) none (.mv (.tmp 3)),
  .k (some 25) none (.call 12 [(.tmp 24), (.const (.int .i64 3))]),
  .k (some 5) none (.asg (.tmp 25))])
(.seq (.ops [.f (some 26) none (.load (some 3) (.tmp 4)),
  .f (some 27) none (.mv (.tmp 5)),
  .k (some 28) none (.call 25 [(.tmp 26), (.tmp 27)]),
  .k (some 6) none (.asg (.tmp 28))])
(.seq (.seq (.ops [.f (some 29) none (.mv (.tmp 6)),
  .k (some 30) none (.call 13 [(.tmp 29)]),
  .f (some 31) none (.un .not (.tmp 30))])
(.cond (.tmp 31)
 (.seq (.ops [.k (some 2) none (.asg (.const (.bool false)))])
 .ret)
 .skip))
(.seq (.seq (.ops [.f (some 32) none (.mv (.tmp 5)),
  .f (some 33) none (.len (.tmp 32)),
  .f (some 34) none (.mv (.const (.int .i64 0)))])
(rangeC 0 34 33 35 42 c4_0))
(.seq (.seq (.ops [.f (some 43) none (.faddr 1 (.tmp 4)),
  .f (some 44) none (.load none (.tmp 43)),
  .f (some 45) none (.len (.tmp 44)),
  .f (some 46) none (.mv (.const (.int .i64 0)))])
(rangeC 2 46 45 47 61 c4_1))
(.seq (.seq (.ops [.f (some 62) none (.mv (.tmp 6)),
  .f (some 63) none (.len (.tmp 62)),
  .f (some 64) none (.mv (.const (.int .i64 0)))])
(rangeC 4 64 63 65 94 c4_3))
(.seq (.ops [.f (some 95) none (.load (some 3) (.tmp 4)),
  .f (some 96) none (.mv (.tmp 6)),
  .k (some 97) none (.call 25 [(.tmp 95), (.tmp 96)]),
  .f (some 98) none (.mv (.tmp 6)),
  .k (some 99) none (.call 17 [(.tmp 97), (.tmp 98)]),
  .f (some 100) none (.mv (.tmp 99)),
  .k (some 101) (some (100, true)) (.call 9 []),
  .f (some 102) none (.pick (.tmp 100) (.tmp 101) (.const (.bool false))),
  .k (some 2) none (.asg (.tmp 102))])
.ret)))))))))))
theorem fn4 : FnOK Try.prog 4 103 c4 [.tmp 2] := .of (by kernel_rfl)
/-! 'dynpos/dynposlaw26.DesignGrows' -/
def c5 : Cd :=
(.seq (.ops [.k (some 2) none (.asg (.const (.bool false)))])
(.seq (.seq (.ops [.f (some 9) none (.mv (.tmp 0)),
  .f (some 10) none (.len (.tmp 9)),
  .f (some 11) none (.bin .gtr (.tmp 10) (.const (.int .i64 600)))])
(.cond (.tmp 11)
 (.seq (.ops [.k (some 12) none (.call 9 []),
   .k (some 2) none (.asg (.tmp 12))])
 .ret)
 .skip))
(.seq (.ops [.f (some 13) none (.mv (.tmp 0)),
  .k (some 14) none (.call 10 [(.tmp 13)]),
  .k (some 3) none (.asg (.tmp 14))])
(.seq (.ops [.f (some 15) none (.mv (.tmp 3)),
  .k (some 16) none (.call 11 [(.tmp 15), (.const (.int .i64 8))]),
  .k (some 4) none (.alloc 27 [(.slice none 0 0), (.slice none 0 0), (.slice none 0 0)]),
  .k none none (.store 3 (.tmp 4) (.tmp 16))])
(.seq (.ops [.f (some 17) none (.mv (.tmp 3)),
  .k (some 18) none (.call 12 [(.tmp 17), (.const (.int .i64 3))]),
  .f (some 19) none (.mv (.tmp 3)),
  .k (some 20) none (.call 12 [(.tmp 19), (.const (.int .i64 3))]),
  .k (some 5) none (.asg (.tmp 18)),
  .k (some 6) none (.asg (.tmp 20))])
(.seq (.opd [⟨0, .f (some 21) none (.load (some 3) (.tmp 4)), []⟩,
  ⟨1, .f (some 22) none (.mv (.tmp 5)), []⟩,
  ⟨3, .f (some 24) none (.load (some 3) (.tmp 4)), []⟩,
  ⟨4, .f (some 25) none (.mv (.tmp 6)), []⟩,
  ⟨2, .k (some 23) none (.call 25 [(.tmp 21), (.tmp 22)]), [.f (some 24) none (.load (some 3) (.tmp 4))]⟩,
  ⟨5, .k (some 26) none (.call 25 [(.tmp 24), (.tmp 25)]), []⟩,
  ⟨6, .k (some 7) none (.asg (.tmp 23)), []⟩,
  ⟨7, .k (some 8) none (.asg (.tmp 26)), []⟩])
(.seq (.opd [⟨0, .f (some 27) none (.load (some 3) (.tmp 4)), []⟩,
  ⟨1, .f (some 28) none (.mv (.tmp 5)), []⟩,
  ⟨2, .f (some 29) none (.mv (.tmp 6)), []⟩,
  ⟨5, .f (some 32) none (.mv (.tmp 7)), []⟩,
  ⟨6, .f (some 33) none (.mv (.tmp 8)), []⟩,
  ⟨3, .k (some 30) none (.call 18 [(.tmp 28), (.tmp 29)]), [.f (some 27) none (.load (some 3) (.tmp 4))]⟩,
  ⟨4, .k (some 31) none (.call 25 [(.tmp 27), (.tmp 30)]), []⟩,
  ⟨7, .k (some 34) none (.call 18 [(.tmp 32), (.tmp 33)]), []⟩,
  ⟨8, .k (some 35) none (.call 17 [(.tmp 31), (.tmp 34)]), []⟩,
  ⟨9, .f (some 36) none (.mv (.tmp 35)), []⟩,
  ⟨10, .k (some 37) (some (36, true)) (.call 9 []), []⟩,
  ⟨11, .f (some 38) none (.pick (.tmp 36) (.tmp 37) (.const (.bool false))), []⟩,
  ⟨12, .k (some 2) none (.asg (.tmp 38)), []⟩])
.ret)))))))
theorem fn5 : FnOK Try.prog 5 39 c5 [.tmp 2] := .of (by kernel_rfl)
/-! 'dynpos/dynposlaw26.DesignChains' -/
def c6_0 : Cd :=
(.block 3
 (.seq (.ops [.f (some 36) none (.iaddr 2 none (.tmp 32) (.tmp 34)),
   .f (some 37) none (.load (some 2) (.tmp 36)),
   .k (some 9) none (.alloc 29 [(.int .i64 0), (.int .i64 0)]),
   .k none none (.store 2 (.tmp 9) (.tmp 37))])
 (.seq (.ops [.f (some 39) none (.load (some 3) (.tmp 4)),
   .f (some 40) none (.load (some 2) (.tmp 6)),
   .f (some 41) none (.load (some 2) (.tmp 9)),
   .k (some 42) none (.call 30 [(.tmp 39), (.tmp 40), (.tmp 41)]),
   .f (some 38) none (.mv (.tmp 42)),
   .f (some 43) none (.extract 0 (.tmp 38)),
   .f (some 44) none (.extract 1 (.tmp 38)),
   .k (some 10) none (.asg (.tmp 43)),
   .k (some 11) none (.asg (.tmp 44))])
 (.seq (.opd [⟨0, .f (some 45) none (.mv (.tmp 11)), []⟩,
   ⟨1, .f (some 46) none (.mv (.tmp 7)), []⟩,
   ⟨2, .f (some 47) none (.load (some 2) (.tmp 9)), []⟩,
   ⟨3, .k (some 48) none (.call 15 [(.tmp 46), (.tmp 47)]), []⟩,
   ⟨4, .f (some 49) none (.binb .neq (.tmp 45) (.tmp 48)), []⟩,
   ⟨5, .f (some 50) none (.mv (.tmp 49)), []⟩,
   ⟨6, .f (some 51) (some (50, false)) (.mv (.tmp 11)), []⟩,
   ⟨7, .f (some 52) (some (50, false)) (.mv (.tmp 51)), []⟩,
   ⟨8, .f (some 53) (some (52, true)) (.mv (.tmp 10)), []⟩,
   ⟨9, .f (some 54) (some (52, true)) (.len (.tmp 53)), []⟩,
   ⟨10, .f (some 55) (some (52, true)) (.bin .eql (.tmp 54) (.const (.int .i64 0))), []⟩,
   ⟨11, .f (some 56) (some (52, true)) (.mv (.tmp 55)), []⟩,
   ⟨12, .f (some 57) (some (56, false)) (.load (some 3) (.tmp 4)), []⟩,
   ⟨13, .f (some 58) (some (56, false)) (.mv (.tmp 10)), []⟩,
   ⟨14, .k (some 59) (some (56, false)) (.call 27 [(.tmp 57), (.tmp 58)]), []⟩,
   ⟨15, .f (some 60) (some (56, false)) (.un .not (.tmp 59)), []⟩,
   ⟨16, .f (some 61) (some (52, true)) (.pick (.tmp 56) (.const (.bool true)) (.tmp 60)), []⟩,
   ⟨17, .f (some 62) (some (52, true)) (.mv (.tmp 61)), []⟩,
   ⟨18, .f (some 63) (some (62, false)) (.mv (.tmp 10)), []⟩,
   ⟨19, .f (some 64) (some (62, false)) (.iaddr 2 none (.tmp 63) (.const (.int .i64 0))), []⟩,
   ⟨20, .f (some 65) (some (62, false)) (.load (some 2) (.tmp 64)), []⟩,
   ⟨21, .f (some 66) (some (62, false)) (.load (some 2) (.tmp 6)), []⟩,
   ⟨22, .f (some 67) (some (62, false)) (.eql true (.st [(0, none, .num), (1, none, .num)]) (.tmp 65) (.tmp 66)), []⟩,
   ⟨23, .f (some 68) (some (52, true)) (.pick (.tmp 62) (.const (.bool true)) (.tmp 67)), []⟩,
   ⟨24, .f (some 69) (some (52, true)) (.mv (.tmp 68)), []⟩,
   ⟨25, .f (some 70) (some (69, false)) (.mv (.tmp 10)), []⟩,
   ⟨26, .f (some 71) (some (69, false)) (.mv (.tmp 10)), []⟩,
   ⟨27, .f (some 72) (some (69, false)) (.len (.tmp 71)), []⟩,
   ⟨28, .f (some 73) (some (69, false)) (.bin .sub (.tmp 72) (.const (.int .i64 1))), []⟩,
   ⟨29, .f (some 74) (some (69, false)) (.iaddr 2 none (.tmp 70) (.tmp 73)), []⟩,
   ⟨30, .f (some 75) (some (69, false)) (.load (some 2) (.tmp 74)), []⟩,
   ⟨31, .f (some 76) (some (69, false)) (.load (some 2) (.tmp 9)), []⟩,
   ⟨32, .f (some 77) (some (69, false)) (.eql true (.st [(0, none, .num), (1, none, .num)]) (.tmp 75) (.tmp 76)), []⟩,
   ⟨33, .f (some 78) (some (52, true)) (.pick (.tmp 69) (.const (.bool true)) (.tmp 77)), []⟩,
   ⟨34, .f (some 79) (some (52, true)) (.mv (.tmp 78)), []⟩,
   ⟨35, .f (some 80) (some (79, false)) (.mv (.tmp 10)), []⟩,
   ⟨38, .f (some 83) (some (79, false)) (.mv (.tmp 10)), []⟩,
   ⟨39, .f (some 84) (some (79, false)) (.len (.tmp 83)), []⟩,
   ⟨36, .k (some 81) (some (79, false)) (.call 18 [(.tmp 80), (.const (.slice none 0 0))]), []⟩,
   ⟨37, .f (some 82) (some (79, false)) (.len (.tmp 81)), []⟩,
   ⟨40, .f (some 85) (some (79, false)) (.bin .neq (.tmp 82) (.tmp 84)), []⟩,
   ⟨41, .f (some 86) (some (52, true)) (.pick (.tmp 79) (.const (.bool true)) (.tmp 85)), []⟩,
   ⟨42, .f (some 87) (some (50, false)) (.pick (.tmp 52) (.tmp 86) (.const (.bool false))), []⟩,
   ⟨43, .f (some 88) none (.pick (.tmp 50) (.const (.bool true)) (.tmp 87)), []⟩])
 (.cond (.tmp 88)
  (.seq (.ops [.k (some 2) none (.asg (.const (.bool false)))])
  .ret)
  .skip)))))
def c6_1 : Cd :=
(.block 1
 (.seq (.ops [.f (some 25) none (.iaddr 2 none (.tmp 21) (.tmp 23)),
   .f (some 26) none (.load (some 2) (.tmp 25)),
   .k (some 6) none (.alloc 29 [(.int .i64 0), (.int .i64 0)]),
   .k none none (.store 2 (.tmp 6) (.tmp 26))])
 (.seq (.ops [.f (some 27) none (.load (some 3) (.tmp 4)),
   .f (some 28) none (.load (some 2) (.tmp 6)),
   .k (some 29) none (.bslice 29 2 1 [(.int .i64 0), (.int .i64 0)] [(0, 2, (.tmp 28))]),
   .k (some 30) none (.call 25 [(.tmp 27), (.tmp 29)]),
   .k (some 7) none (.asg (.tmp 30))])
 (.seq (.ops [.f (some 31) none (.faddr 0 (.tmp 4)),
   .f (some 32) none (.load none (.tmp 31)),
   .f (some 33) none (.len (.tmp 32)),
   .f (some 34) none (.mv (.const (.int .i64 0)))])
 (rangeC 2 34 33 35 89 c6_0)))))
def c6 : Cd :=
(.seq (.ops [.k (some 2) none (.asg (.const (.bool false)))])
(.seq (.seq (.ops [.f (some 12) none (.mv (.tmp 0)),
  .f (some 13) none (.len (.tmp 12)),
  .f (some 14) none (.bin .gtr (.tmp 13) (.const (.int .i64 600)))])
(.cond (.tmp 14)
 (.seq (.ops [.k (some 15) none (.call 9 []),
   .k (some 2) none (.asg (.tmp 15))])
 .ret)
 .skip))
(.seq (.ops [.f (some 16) none (.mv (.tmp 0)),
  .k (some 17) none (.call 10 [(.tmp 16)]),
  .k (some 3) none (.asg (.tmp 17))])
(.seq (.ops [.f (some 18) none (.mv (.tmp 3)),
  .k (some 19) none (.call 11 [(.tmp 18), (.const (.int .i64 7))]),
  .k (some 4) none (.alloc 27 [(.slice none 0 0), (.slice none 0 0), (.slice none 0 0)]),
  .k none none (.store 3 (.tmp 4) (.tmp 19))])
(.seq (.seq (.ops [.f (some 20) none (.faddr 0 (.tmp 4)),
  .f (some 21) none (.load none (.tmp 20)),
  .f (some 22) none (.len (.tmp 21)),
  .f (some 23) none (.mv (.const (.int .i64 0)))])
(rangeC 0 23 22 24 90 c6_1))
(.seq (.ops [.k (some 91) none (.call 9 []),
  .k (some 2) none (.asg (.tmp 91))])
.ret))))))
theorem fn6 : FnOK Try.prog 6 92 c6 [.tmp 2] := .of (by kernel_rfl)
/-! 'dynpos/dynposlaw26.DesignCommon' -/
def c7_0 : Cd :=
(.block 5
 (.seq (.ops [.f (some 67) none (.iaddr 2 none (.tmp 63) (.tmp 65)),
   .f (some 68) none (.load (some 2) (.tmp 67)),
   .k (some 10) none (.alloc 29 [(.int .i64 0), (.int .i64 0)]),
   .k none none (.store 2 (.tmp 10) (.tmp 68))])
 (.seq (.opd [⟨0, .f (some 69) none (.mv (.tmp 6)), []⟩,
   ⟨1, .f (some 70) none (.mv (.tmp 7)), []⟩,
   ⟨2, .f (some 71) none (.bin .neq (.tmp 69) (.tmp 70)), []⟩,
   ⟨3, .f (some 72) none (.mv (.tmp 71)), []⟩,
   ⟨4, .f (some 73) (some (72, true)) (.faddr 2 (.tmp 4)), []⟩,
   ⟨5, .f (some 74) (some (72, true)) (.load none (.tmp 73)), []⟩,
   ⟨6, .f (some 75) (some (72, true)) (.mv (.tmp 7)), []⟩,
   ⟨7, .f (some 76) (some (72, true)) (.iaddr 2 none (.tmp 74) (.tmp 75)), []⟩,
   ⟨8, .f (some 77) (some (72, true)) (.faddr 1 (.tmp 76)), []⟩,
   ⟨9, .f (some 78) (some (72, true)) (.load none (.tmp 77)), []⟩,
   ⟨10, .f (some 79) (some (72, true)) (.load (some 2) (.tmp 10)), []⟩,
   ⟨11, .k (some 80) (some (72, true)) (.call 15 [(.tmp 78), (.tmp 79)]), []⟩,
   ⟨12, .f (some 81) none (.pick (.tmp 72) (.tmp 80) (.const (.bool false))), []⟩,
   ⟨13, .f (some 82) none (.mv (.tmp 81)), []⟩,
   ⟨14, .f (some 83) (some (82, true)) (.mv (.tmp 8)), []⟩,
   ⟨15, .f (some 84) (some (82, true)) (.load (some 2) (.tmp 10)), []⟩,
   ⟨16, .k (some 85) (some (82, true)) (.call 15 [(.tmp 83), (.tmp 84)]), []⟩,
   ⟨17, .f (some 86) (some (82, true)) (.un .not (.tmp 85)), []⟩,
   ⟨18, .f (some 87) none (.pick (.tmp 82) (.tmp 86) (.const (.bool false))), []⟩])
 (.cond (.tmp 87)
  (.seq (.ops [.k (some 2) none (.asg (.const (.bool false)))])
  .ret)
  .skip))))
def c7_1 : Cd :=
(.block 3
 (.seq (.ops [.f (some 30) none (.mv (.tmp 28)),
   .k (some 7) none (.asg (.tmp 30))])
 (.seq (.ops [.f (some 31) none (.load (some 3) (.tmp 4)),
   .f (some 32) none (.mv (.tmp 6)),
   .f (some 33) none (.mv (.tmp 7)),
   .k (some 34) none (.call 33 [(.tmp 31), (.tmp 32), (.tmp 33)]),
   .k (some 8) none (.asg (.tmp 34))])
 (.seq (.seq (.ops [.f (some 35) none (.mv (.tmp 8)),
   .f (some 36) none (.load (some 3) (.tmp 4)),
   .f (some 37) none (.mv (.tmp 7)),
   .f (some 38) none (.mv (.tmp 6)),
   .k (some 39) none (.call 33 [(.tmp 36), (.tmp 37), (.tmp 38)]),
   .k (some 40) none (.call 17 [(.tmp 35), (.tmp 39)]),
   .f (some 41) none (.un .not (.tmp 40)),
   .f (some 42) none (.mv (.tmp 41)),
   .f (some 43) (some (42, false)) (.mv (.tmp 6)),
   .f (some 44) (some (42, false)) (.mv (.tmp 7)),
   .f (some 45) (some (42, false)) (.bin .eql (.tmp 43) (.tmp 44)),
   .f (some 46) (some (42, false)) (.mv (.tmp 45)),
   .f (some 47) (some (46, true)) (.mv (.tmp 8)),
   .f (some 48) (some (46, true)) (.len (.tmp 47)),
   .f (some 49) (some (46, true)) (.bin .gtr (.tmp 48) (.const (.int .i64 0))),
   .f (some 50) (some (42, false)) (.pick (.tmp 46) (.tmp 49) (.const (.bool false))),
   .f (some 51) none (.pick (.tmp 42) (.const (.bool true)) (.tmp 50))])
 (.cond (.tmp 51)
  (.seq (.ops [.k (some 2) none (.asg (.const (.bool false)))])
  .ret)
  .skip))
 (.seq (.ops [.f (some 52) none (.mv (.tmp 5)),
   .f (some 53) none (.mv (.tmp 52)),
   .f (some 54) (some (53, true)) (.mv (.tmp 8)),
   .f (some 55) (some (53, true)) (.len (.tmp 54)),
   .f (some 56) (some (53, true)) (.bin .eql (.tmp 55) (.const (.int .i64 0))),
   .f (some 57) none (.pick (.tmp 53) (.tmp 56) (.const (.bool false))),
   .k (some 5) none (.asg (.tmp 57))])
 (.seq (.ops [.f (some 58) none (.faddr 2 (.tmp 4)),
   .f (some 59) none (.load none (.tmp 58)),
   .f (some 60) none (.mv (.tmp 6)),
   .f (some 61) none (.iaddr 2 none (.tmp 59) (.tmp 60)),
   .f (some 62) none (.faddr 1 (.tmp 61)),
   .f (some 63) none (.load none (.tmp 62)),
   .f (some 64) none (.len (.tmp 63)),
   .f (some 65) none (.mv (.const (.int .i64 0)))])
 (rangeC 4 65 64 66 88 c7_0)))))))
def c7_2 : Cd :=
(.block 1
 (.seq (.ops [.f (some 24) none (.mv (.tmp 22)),
   .k (some 6) none (.asg (.tmp 24))])
 (.seq (.ops [.f (some 25) none (.faddr 2 (.tmp 4)),
   .f (some 26) none (.load none (.tmp 25)),
   .f (some 27) none (.len (.tmp 26)),
   .f (some 28) none (.mv (.const (.int .i64 0)))])
 (rangeC 2 28 27 29 89 c7_1))))
def c7 : Cd :=
(.seq (.ops [.k (some 2) none (.asg (.const (.bool false)))])
(.seq (.seq (.ops [.f (some 11) none (.mv (.tmp 0)),
  .f (some 12) none (.len (.tmp 11)),
  .f (some 13) none (.bin .gtr (.tmp 12) (.const (.int .i64 600)))])
(.cond (.tmp 13)
 (.seq (.ops [.k (some 14) none (.call 9 []),
   .k (some 2) none (.asg (.tmp 14))])
 .ret)
 .skip))
(.seq (.ops [.f (some 15) none (.mv (.tmp 0)),
  .k (some 16) none (.call 10 [(.tmp 15)]),
  .k (some 3) none (.asg (.tmp 16))])
(.seq (.ops [.f (some 17) none (.mv (.tmp 3)),
  .k (some 18) none (.call 11 [(.tmp 17), (.const (.int .i64 7))]),
  .k (some 4) none (.alloc 27 [(.slice none 0 0), (.slice none 0 0), (.slice none 0 0)]),
  .k none none (.store 3 (.tmp 4) (.tmp 18))])
(.seq (.ops [.k (some 5) none (.asg (.const (.bool true)))])
(.seq (.seq (.ops [.f (some 19) none (.faddr 2 (.tmp 4)),
  .f (some 20) none (.load none (.tmp 19)),
  .f (some 21) none (.len (.tmp 20)),
  .f (some 22) none (.mv (.const (.int .i64 0)))])
(rangeC 0 22 21 23 90 c7_2))
(.seq (.ops [.f (some 91) none (.load (some 3) (.tmp 4)),
  .k (some 92) none (.call 23 [(.tmp 91)]),
  .f (some 93) none (.mv (.tmp 5)),
  .f (some 94) none (.binb .eql (.tmp 92) (.tmp 93)),
  .f (some 95) none (.mv (.tmp 94)),
  .k (some 96) (some (95, true)) (.call 9 []),
  .f (some 97) none (.pick (.tmp 95) (.tmp 96) (.const (.bool false))),
  .k (some 2) none (.asg (.tmp 97))])
.ret)))))))
theorem fn7 : FnOK Try.prog 7 98 c7 [.tmp 2] := .of (by kernel_rfl)
/-! 'dynpos/dynposlaw26.DesignAlone' -/
def c8_0 : Cd :=
(.block 1
 (.seq (.ops [.f (some 37) none (.iaddr 2 none (.tmp 33) (.tmp 35)),
   .f (some 38) none (.load (some 2) (.tmp 37)),
   .k (some 7) none (.alloc 29 [(.int .i64 0), (.int .i64 0)]),
   .k none none (.store 2 (.tmp 7) (.tmp 38))])
 (.seq (.opd [⟨0, .f (some 39) none (.faddr 2 (.tmp 4)), []⟩,
   ⟨1, .f (some 40) none (.load none (.tmp 39)), []⟩,
   ⟨2, .f (some 41) none (.iaddr 2 none (.tmp 40) (.const (.int .i64 0))), []⟩,
   ⟨3, .f (some 42) none (.faddr 1 (.tmp 41)), []⟩,
   ⟨4, .f (some 43) none (.load none (.tmp 42)), []⟩,
   ⟨5, .f (some 44) none (.load (some 2) (.tmp 7)), []⟩,
   ⟨6, .k (some 45) none (.call 15 [(.tmp 43), (.tmp 44)]), []⟩,
   ⟨7, .f (some 46) none (.mv (.tmp 45)), []⟩,
   ⟨8, .f (some 47) (some (46, true)) (.faddr 2 (.tmp 4)), []⟩,
   ⟨9, .f (some 48) (some (46, true)) (.load none (.tmp 47)), []⟩,
   ⟨10, .f (some 49) (some (46, true)) (.iaddr 2 none (.tmp 48) (.const (.int .i64 1))), []⟩,
   ⟨11, .f (some 50) (some (46, true)) (.faddr 1 (.tmp 49)), []⟩,
   ⟨12, .f (some 51) (some (46, true)) (.load none (.tmp 50)), []⟩,
   ⟨13, .f (some 52) (some (46, true)) (.load (some 2) (.tmp 7)), []⟩,
   ⟨14, .k (some 53) (some (46, true)) (.call 15 [(.tmp 51), (.tmp 52)]), []⟩,
   ⟨15, .f (some 54) none (.pick (.tmp 46) (.tmp 53) (.const (.bool false))), []⟩,
   ⟨16, .k (some 8) none (.asg (.tmp 54)), []⟩])
 (.seq (.opd [⟨0, .f (some 55) none (.load (some 3) (.tmp 4)), []⟩,
   ⟨2, .f (some 57) none (.load (some 2) (.tmp 7)), []⟩,
   ⟨4, .f (some 59) none (.mv (.tmp 8)), []⟩,
   ⟨1, .k (some 56) none (.call 33 [(.tmp 55), (.const (.int .i64 0)), (.const (.int .i64 1))]), [.f (some 57) none (.load (some 2) (.tmp 7))]⟩,
   ⟨3, .k (some 58) none (.call 15 [(.tmp 56), (.tmp 57)]), []⟩,
   ⟨5, .f (some 60) none (.binb .neq (.tmp 58) (.tmp 59)), []⟩])
 (.cond (.tmp 60)
  (.seq (.ops [.k (some 2) none (.asg (.const (.bool false)))])
  .ret)
  .skip)))))
def c8 : Cd :=
(.seq (.ops [.k (some 2) none (.asg (.const (.bool false)))])
(.seq (.seq (.ops [.f (some 9) none (.mv (.tmp 0)),
  .f (some 10) none (.len (.tmp 9)),
  .f (some 11) none (.bin .gtr (.tmp 10) (.const (.int .i64 600)))])
(.cond (.tmp 11)
 (.seq (.ops [.k (some 12) none (.call 9 []),
   .k (some 2) none (.asg (.tmp 12))])
 .ret)
 .skip))
(.seq (.ops [.f (some 13) none (.mv (.tmp 0)),
  .k (some 14) none (.call 10 [(.tmp 13)]),
  .k (some 3) none (.asg (.tmp 14))])
(.seq (.ops [.f (some 15) none (.mv (.tmp 3)),
  .k (some 16) none (.call 11 [(.tmp 15), (.const (.int .i64 8))]),
  .k (some 4) none (.alloc 27 [(.slice none 0 0), (.slice none 0 0), (.slice none 0 0)]),
  .k none none (.store 3 (.tmp 4) (.tmp 16))])
(.seq (.ops [.f (some 17) none (.faddr 1 (.tmp 4)),
  .k none none (.store 1 (.tmp 17) (.const (.slice none 0 0)))])
(.seq (.ops [.f (some 18) none (.mv (.tmp 3)),
  .k (some 19) none (.call 12 [(.tmp 18), (.const (.int .i64 4))]),
  .k (some 5) none (.asg (.tmp 19))])
(.seq (.seq (.ops [.f (some 20) none (.load (some 3) (.tmp 4)),
  .f (some 21) none (.mv (.tmp 5)),
  .k (some 22) none (.call 25 [(.tmp 20), (.tmp 21)]),
  .f (some 23) none (.mv (.tmp 5)),
  .k (some 24) none (.call 18 [(.tmp 23), (.const (.slice none 0 0))]),
  .k (some 25) none (.call 17 [(.tmp 22), (.tmp 24)]),
  .f (some 26) none (.un .not (.tmp 25))])
(.cond (.tmp 26)
 (.seq (.ops [.k (some 2) none (.asg (.const (.bool false)))])
 .ret)
 .skip))
(.seq (.seq (.ops [.f (some 27) none (.faddr 2 (.tmp 4)),
  .f (some 28) none (.load none (.tmp 27)),
  .f (some 29) none (.len (.tmp 28)),
  .f (some 30) none (.bin .lss (.tmp 29) (.const (.int .i64 2)))])
(.cond (.tmp 30)
 (.seq (.ops [.k (some 31) none (.call 9 []),
   .k (some 2) none (.asg (.tmp 31))])
 .ret)
 .skip))
(.seq (.seq (.ops [.f (some 32) none (.faddr 0 (.tmp 4)),
  .f (some 33) none (.load none (.tmp 32)),
  .f (some 34) none (.len (.tmp 33)),
  .f (some 35) none (.mv (.const (.int .i64 0)))])
(rangeC 0 35 34 36 61 c8_0))
(.seq (.ops [.k (some 62) none (.call 9 []),
  .k (some 2) none (.asg (.tmp 62))])
.ret))))))))))
theorem fn8 : FnOK Try.prog 8 63 c8 [.tmp 2] := .of (by kernel_rfl)
/-! 'dynpos/dynposlaw26.sane' -/
def c9 : Cd :=
(.seq (.ops [.k (some 0) none (.asg (.const (.bool false)))])
(.seq (.ops [.k (some 5) none (.call 35 []),
  .k (some 1) none (.alloc 27 [(.slice none 0 0), (.slice none 0 0), (.slice none 0 0)]),
  .k none none (.store 3 (.tmp 1) (.tmp 5))])
(.seq (.ops [.f (some 6) none (.load (some 3) (.tmp 1)),
  .k (some 7) none (.call 33 [(.tmp 6), (.const (.int .i64 0)), (.const (.int .i64 1))]),
  .k (some 2) none (.asg (.tmp 7))])
(.seq (.opd [⟨0, .f (some 9) none (.load (some 3) (.tmp 1)), []⟩,
  ⟨1, .f (some 10) none (.faddr 0 (.tmp 1)), []⟩,
  ⟨2, .f (some 11) none (.load none (.tmp 10)), []⟩,
  ⟨3, .f (some 12) none (.iaddr 2 none (.tmp 11) (.const (.int .i64 2))), []⟩,
  ⟨4, .f (some 13) none (.load (some 2) (.tmp 12)), []⟩,
  ⟨5, .f (some 14) none (.faddr 0 (.tmp 1)), []⟩,
  ⟨6, .f (some 15) none (.load none (.tmp 14)), []⟩,
  ⟨7, .f (some 16) none (.iaddr 2 none (.tmp 15) (.const (.int .i64 1))), []⟩,
  ⟨8, .f (some 17) none (.load (some 2) (.tmp 16)), []⟩,
  ⟨9, .k (some 18) none (.call 30 [(.tmp 9), (.tmp 13), (.tmp 17)]), []⟩,
  ⟨10, .f (some 8) none (.mv (.tmp 18)), []⟩,
  ⟨11, .f (some 19) none (.extract 0 (.tmp 8)), []⟩,
  ⟨12, .f (some 20) none (.extract 1 (.tmp 8)), []⟩,
  ⟨13, .k (some 3) none (.asg (.tmp 19)), []⟩,
  ⟨14, .k (some 4) none (.asg (.tmp 20)), []⟩])
(.seq (.opd [⟨0, .f (some 21) none (.load (some 3) (.tmp 1)), []⟩,
  ⟨1, .k (some 22) none (.call 21 [(.tmp 21)]), []⟩,
  ⟨2, .f (some 23) none (.bin .eql (.tmp 22) (.const (.int .i64 0))), []⟩,
  ⟨3, .f (some 24) none (.mv (.tmp 23)), []⟩,
  ⟨4, .f (some 25) (some (24, true)) (.mv (.tmp 2)), []⟩,
  ⟨5, .f (some 26) (some (24, true)) (.faddr 0 (.tmp 1)), []⟩,
  ⟨6, .f (some 27) (some (24, true)) (.load none (.tmp 26)), []⟩,
  ⟨7, .f (some 28) (some (24, true)) (.slc 2 (.tmp 27) (some (.const (.int .i64 2))) none none), []⟩,
  ⟨8, .k (some 29) (some (24, true)) (.call 17 [(.tmp 25), (.tmp 28)]), []⟩,
  ⟨9, .f (some 30) none (.pick (.tmp 24) (.tmp 29) (.const (.bool false))), []⟩,
  ⟨10, .f (some 31) none (.mv (.tmp 30)), []⟩,
  ⟨11, .f (some 32) (some (31, true)) (.load (some 3) (.tmp 1)), []⟩,
  ⟨12, .k (some 33) (some (31, true)) (.call 23 [(.tmp 32)]), []⟩,
  ⟨13, .f (some 34) (some (31, true)) (.un .not (.tmp 33)), []⟩,
  ⟨14, .f (some 35) none (.pick (.tmp 31) (.tmp 34) (.const (.bool false))), []⟩,
  ⟨15, .f (some 36) none (.mv (.tmp 35)), []⟩,
  ⟨16, .f (some 37) (some (36, true)) (.mv (.tmp 4)), []⟩,
  ⟨17, .f (some 38) none (.pick (.tmp 36) (.tmp 37) (.const (.bool false))), []⟩,
  ⟨18, .f (some 39) none (.mv (.tmp 38)), []⟩,
  ⟨19, .f (some 40) (some (39, true)) (.mv (.tmp 3)), []⟩,
  ⟨20, .f (some 41) (some (39, true)) (.faddr 0 (.tmp 1)), []⟩,
  ⟨21, .f (some 42) (some (39, true)) (.load none (.tmp 41)), []⟩,
  ⟨22, .f (some 43) (some (39, true)) (.iaddr 2 none (.tmp 42) (.const (.int .i64 2))), []⟩,
  ⟨23, .f (some 44) (some (39, true)) (.load (some 2) (.tmp 43)), []⟩,
  ⟨24, .f (some 45) (some (39, true)) (.faddr 0 (.tmp 1)), []⟩,
  ⟨25, .f (some 46) (some (39, true)) (.load none (.tmp 45)), []⟩,
  ⟨26, .f (some 47) (some (39, true)) (.iaddr 2 none (.tmp 46) (.const (.int .i64 1))), []⟩,
  ⟨27, .f (some 48) (some (39, true)) (.load (some 2) (.tmp 47)), []⟩,
  ⟨28, .k (some 49) (some (39, true)) (.bslice 29 2 2 [(.int .i64 0), (.int .i64 0)] [(0, 2, (.tmp 44)), (2, 2, (.tmp 48))]), []⟩,
  ⟨29, .k (some 50) (some (39, true)) (.call 17 [(.tmp 40), (.tmp 49)]), []⟩,
  ⟨30, .f (some 51) none (.pick (.tmp 39) (.tmp 50) (.const (.bool false))), []⟩,
  ⟨31, .f (some 52) none (.mv (.tmp 51)), []⟩,
  ⟨32, .f (some 53) (some (52, true)) (.load (some 3) (.tmp 1)), []⟩,
  ⟨33, .f (some 54) (some (52, true)) (.mv (.tmp 3)), []⟩,
  ⟨34, .k (some 55) (some (52, true)) (.call 27 [(.tmp 53), (.tmp 54)]), []⟩,
  ⟨35, .f (some 56) none (.pick (.tmp 52) (.tmp 55) (.const (.bool false))), []⟩,
  ⟨36, .f (some 57) none (.mv (.tmp 56)), []⟩,
  ⟨37, .f (some 58) (some (57, true)) (.load (some 3) (.tmp 1)), []⟩,
  ⟨38, .f (some 59) (some (57, true)) (.mv (.tmp 2)), []⟩,
  ⟨39, .k (some 60) (some (57, true)) (.call 25 [(.tmp 58), (.tmp 59)]), []⟩,
  ⟨40, .f (some 61) (some (57, true)) (.len (.tmp 60)), []⟩,
  ⟨41, .f (some 62) (some (57, true)) (.bin .eql (.tmp 61) (.const (.int .i64 3))), []⟩,
  ⟨42, .f (some 63) none (.pick (.tmp 57) (.tmp 62) (.const (.bool false))), []⟩,
  ⟨43, .f (some 64) none (.mv (.tmp 63)), []⟩,
  ⟨44, .f (some 65) (some (64, true)) (.load (some 3) (.tmp 1)), []⟩,
  ⟨45, .f (some 66) (some (64, true)) (.faddr 0 (.tmp 1)), []⟩,
  ⟨46, .f (some 67) (some (64, true)) (.load none (.tmp 66)), []⟩,
  ⟨47, .f (some 68) (some (64, true)) (.slc 2 (.tmp 67) none (some (.const (.int .i64 1))) none), []⟩,
  ⟨49, .f (some 70) (some (64, true)) (.faddr 0 (.tmp 1)), []⟩,
  ⟨50, .f (some 71) (some (64, true)) (.load none (.tmp 70)), []⟩,
  ⟨51, .f (some 72) (some (64, true)) (.iaddr 2 none (.tmp 71) (.const (.int .i64 1))), []⟩,
  ⟨52, .f (some 73) (some (64, true)) (.load (some 2) (.tmp 72)), []⟩,
  ⟨48, .k (some 69) (some (64, true)) (.call 25 [(.tmp 65), (.tmp 68)]), [.f (some 71) (some (64, true)) (.load none (.tmp 70)), .f (some 72) (some (64, true)) (.iaddr 2 none (.tmp 71) (.const (.int .i64 1))), .f (some 73) (some (64, true)) (.load (some 2) (.tmp 72))]⟩,
  ⟨53, .k (some 74) (some (64, true)) (.call 15 [(.tmp 69), (.tmp 73)]), []⟩,
  ⟨54, .f (some 75) (some (64, true)) (.un .not (.tmp 74)), []⟩,
  ⟨55, .f (some 76) none (.pick (.tmp 64) (.tmp 75) (.const (.bool false))), []⟩,
  ⟨56, .k (some 0) none (.asg (.tmp 76)), []⟩])
.ret)))))
theorem fn9 : FnOK Try.prog 9 77 c9 [.tmp 0] := .of (by kernel_rfl)
/-! 'dynpos/dynposmake.New' -/
def c10 : Cd :=
(.seq (.ops [.k (some 2) none (.asg (.const (.pointer none)))])
(.seq (.ops [.f (some 3) none (.mv (.tmp 0)),
  .f (some 4) none (.mv (.tmp 0)),
  .f (some 5) none (.len (.tmp 4)),
  .f (some 6) none (.mm false [(.tmp 5), (.const (.int .i64 600))]),
  .f (some 7) none (.slc 1 (.tmp 3) none (some (.tmp 6)) none),
  .f (some 8) none (.build [(.slice none 0 0), (.int .i64 0)] [(0, 1, (.tmp 7))]),
  .k (some 9) none (.box 64 2 (.tmp 8)),
  .k (some 2) none (.asg (.tmp 9))])
.ret))
theorem fn10 : FnOK Try.prog 10 10 c10 [.tmp 2] := .of (by kernel_rfl)
/-! '(*dynpos/dynposmake.Src).Design' -/
def c11 : Cd :=
(.seq (.ops [.k (some 4) none (.alloc 27 [(.slice none 0 0), (.slice none 0 0), (.slice none 0 0)])])
(.seq (.ops [.f (some 6) none (.mv (.tmp 0)),
  .f (some 7) none (.mv (.tmp 1)),
  .k (some 8) none (.call 12 [(.tmp 6), (.tmp 7)]),
  .k (some 9) none (.call 19 [(.tmp 8), (.const (.slice none 0 0))]),
  .k (some 5) none (.asg (.tmp 9))])
(.seq (.ops [.f (some 10) none (.mv (.tmp 5)),
  .f (some 11) none (.mv (.tmp 0)),
  .f (some 12) none (.mv (.tmp 5)),
  .k (some 13) none (.call 36 [(.tmp 11), (.tmp 12)]),
  .f (some 14) none (.mv (.tmp 0)),
  .f (some 15) none (.mv (.tmp 5)),
  .k (some 16) none (.call 37 [(.tmp 14), (.tmp 15)]),
  .f (some 17) none (.build [(.slice none 0 0), (.slice none 0 0), (.slice none 0 0)] [(0, 1, (.tmp 10)), (1, 1, (.tmp 13)), (2, 1, (.tmp 16))]),
  .k none none (.store 3 (.tmp 4) (.tmp 17))])
.ret)))
theorem fn11 : FnOK Try.prog 11 18 c11 [.cell 4 (some 3)] := .of (by kernel_rfl)
/-! '(*dynpos/dynposmake.Src).Parts' -/
def c12_0 : Cd :=
(.seq (.seq (.ops [.f (some 11) none (.mv (.tmp 6)),
  .f (some 12) none (.bin .gtr (.tmp 11) (.const (.int .i64 0)))])
(.cond (.tmp 12)
 .skip
 (.exit 0)))
(.seq (.block 1
 (.ops [.f (some 15) none (.mv (.tmp 5)),
   .f (some 16) none (.mv (.tmp 0)),
   .k (some 17) none (.call 29 [(.tmp 16)]),
   .k (some 18) none (.bslice 29 2 1 [(.int .i64 0), (.int .i64 0)] [(0, 2, (.tmp 17))]),
   .k (some 19) none (.append 29 2 16 (.tmp 15) (.tmp 18)),
   .k (some 5) none (.asg (.tmp 19))]))
(.ops [.f (some 13) none (.mv (.tmp 6)),
  .f (some 14) none (.bin .sub (.tmp 13) (.const (.int .i64 1))),
  .k (some 6) none (.asg (.tmp 14))])))
def c12 : Cd :=
(.seq (.ops [.k (some 4) none (.asg (.const (.slice none 0 0)))])
(.seq (.ops [.k (some 5) none (.asg (.const (.slice none 0 0)))])
(.seq (.seq (.ops [.f (some 7) none (.mv (.tmp 0)),
  .f (some 8) none (.mv (.tmp 1)),
  .f (some 9) none (.bin .add (.tmp 8) (.const (.int .i64 1))),
  .k (some 10) none (.call 32 [(.tmp 7), (.tmp 9)]),
  .k (some 6) none (.asg (.tmp 10))])
(.block 0
 (.loop c12_0)))
(.seq (.ops [.f (some 20) none (.mv (.tmp 5)),
  .k (some 4) none (.asg (.tmp 20))])
.ret))))
theorem fn12 : FnOK Try.prog 12 21 c12 [.tmp 4] := .of (by kernel_rfl)
/-! 'dynpos/design.Sorted' -/
def c13 : Cd :=
(.seq (.ops [.k (some 2) none (.asg (.const (.bool false)))])
(.seq (.ops [.f (some 3) none (.mv (.tmp 0)),
  .k (some 4) none (.call 38 [(.tmp 3), (.func 39)]),
  .f (some 5) none (.un .not (.tmp 4)),
  .f (some 6) none (.mv (.tmp 5)),
  .f (some 7) (some (6, true)) (.mv (.tmp 0)),
  .k (some 8) (some (6, true)) (.call 41 [(.tmp 7), (.func 42)]),
  .f (some 9) none (.pick (.tmp 6) (.tmp 8) (.const (.bool false))),
  .k (some 2) none (.asg (.tmp 9))])
.ret))
theorem fn13 : FnOK Try.prog 13 10 c13 [.tmp 2] := .of (by kernel_rfl)
/-! 'dynpos/dynposref26.Sorted' -/
def c14_0 : Cd :=
(.block 1
 (.seq (.ops [.f (some 9) none (.mv (.tmp 7)),
   .f (some 10) none (.iaddr 2 none (.tmp 5) (.tmp 7)),
   .f (some 11) none (.load (some 2) (.tmp 10)),
   .k (some 4) none (.alloc 29 [(.int .i64 0), (.int .i64 0)]),
   .k (some 3) none (.asg (.tmp 9)),
   .k none none (.store 2 (.tmp 4) (.tmp 11))])
 (.seq (.opd [⟨0, .f (some 12) none (.load (some 2) (.tmp 4)), []⟩,
   ⟨1, .k (some 13) none (.call 43 [(.tmp 12)]), []⟩,
   ⟨2, .f (some 14) none (.un .not (.tmp 13)), []⟩,
   ⟨3, .f (some 15) none (.mv (.tmp 14)), []⟩,
   ⟨4, .f (some 16) (some (15, false)) (.mv (.tmp 3)), []⟩,
   ⟨5, .f (some 17) (some (15, false)) (.bin .gtr (.tmp 16) (.const (.int .i64 0))), []⟩,
   ⟨6, .f (some 18) (some (15, false)) (.mv (.tmp 17)), []⟩,
   ⟨7, .f (some 19) (some (18, true)) (.mv (.tmp 0)), []⟩,
   ⟨8, .f (some 20) (some (18, true)) (.mv (.tmp 3)), []⟩,
   ⟨9, .f (some 21) (some (18, true)) (.bin .sub (.tmp 20) (.const (.int .i64 1))), []⟩,
   ⟨10, .f (some 22) (some (18, true)) (.iaddr 2 none (.tmp 19) (.tmp 21)), []⟩,
   ⟨11, .f (some 23) (some (18, true)) (.load (some 2) (.tmp 22)), []⟩,
   ⟨12, .f (some 24) (some (18, true)) (.load (some 2) (.tmp 4)), []⟩,
   ⟨13, .k (some 25) (some (18, true)) (.call 44 [(.tmp 23), (.tmp 24)]), []⟩,
   ⟨14, .f (some 26) (some (18, true)) (.un .not (.tmp 25)), []⟩,
   ⟨15, .f (some 27) (some (15, false)) (.pick (.tmp 18) (.tmp 26) (.const (.bool false))), []⟩,
   ⟨16, .f (some 28) none (.pick (.tmp 15) (.const (.bool true)) (.tmp 27)), []⟩])
 (.cond (.tmp 28)
  (.seq (.ops [.k (some 2) none (.asg (.const (.bool false)))])
  .ret)
  .skip))))
def c14 : Cd :=
(.seq (.ops [.k (some 2) none (.asg (.const (.bool false)))])
(.seq (.seq (.ops [.f (some 5) none (.mv (.tmp 0)),
  .f (some 6) none (.len (.tmp 5)),
  .f (some 7) none (.mv (.const (.int .i64 0)))])
(rangeC 0 7 6 8 29 c14_0))
(.seq (.ops [.k (some 2) none (.asg (.const (.bool true)))])
.ret)))
theorem fn14 : FnOK Try.prog 14 30 c14 [.tmp 2] := .of (by kernel_rfl)
/-! 'dynpos/design.Has' -/
def c15 : Cd :=
(.seq (.ops [.k (some 3) none (.box 29 2 (.tmp 1)),
  .k (some 4) none (.asg (.const (.bool false)))])
(.seq (.ops [.f (some 5) none (.mv (.tmp 0)),
  .f (some 6) none (.load (some 2) (.tmp 3)),
  .k (some 7) none (.call 45 [(.tmp 5), (.tmp 6)]),
  .k (some 4) none (.asg (.tmp 7))])
.ret))
theorem fn15 : FnOK Try.prog 15 8 c15 [.tmp 4] := .of (by kernel_rfl)
/-! 'dynpos/dynposref26.Has' -/
def c16_0 : Cd :=
(.block 1
 (.seq (.ops [.f (some 11) none (.iaddr 2 none (.tmp 7) (.tmp 9)),
   .f (some 12) none (.load (some 2) (.tmp 11)),
   .k (some 6) none (.alloc 29 [(.int .i64 0), (.int .i64 0)]),
   .k none none (.store 2 (.tmp 6) (.tmp 12))])
 (.seq (.ops [.f (some 13) none (.load (some 2) (.tmp 6)),
   .f (some 14) none (.load (some 2) (.tmp 3)),
   .f (some 15) none (.eql false (.st [(0, none, .num), (1, none, .num)]) (.tmp 13) (.tmp 14))])
 (.cond (.tmp 15)
  (.seq (.ops [.k (some 4) none (.asg (.const (.bool true)))])
  .ret)
  .skip))))
def c16 : Cd :=
(.seq (.ops [.k (some 3) none (.box 29 2 (.tmp 1)),
  .k (some 4) none (.asg (.const (.bool false)))])
(.seq (.seq (.ops [.f (some 7) none (.mv (.tmp 0)),
  .f (some 8) none (.len (.tmp 7)),
  .f (some 9) none (.mv (.const (.int .i64 0)))])
(rangeC 0 9 8 10 16 c16_0))
(.seq (.ops [.k (some 4) none (.asg (.const (.bool false)))])
.ret)))
theorem fn16 : FnOK Try.prog 16 17 c16 [.tmp 4] := .of (by kernel_rfl)
/-! 'dynpos/dynposref26.Same' -/
def c17_0 : Cd :=
(.block 1
 (.seq (.ops [.f (some 15) none (.mv (.tmp 13)),
   .k (some 5) none (.asg (.tmp 15))])
 (.seq (.opd [⟨0, .f (some 16) none (.mv (.tmp 0)), []⟩,
   ⟨1, .f (some 17) none (.mv (.tmp 5)), []⟩,
   ⟨2, .f (some 18) none (.iaddr 2 none (.tmp 16) (.tmp 17)), []⟩,
   ⟨3, .f (some 19) none (.load (some 2) (.tmp 18)), []⟩,
   ⟨4, .f (some 20) none (.mv (.tmp 1)), []⟩,
   ⟨5, .f (some 21) none (.mv (.tmp 5)), []⟩,
   ⟨6, .f (some 22) none (.iaddr 2 none (.tmp 20) (.tmp 21)), []⟩,
   ⟨7, .f (some 23) none (.load (some 2) (.tmp 22)), []⟩,
   ⟨8, .f (some 24) none (.eql true (.st [(0, none, .num), (1, none, .num)]) (.tmp 19) (.tmp 23)), []⟩])
 (.cond (.tmp 24)
  (.seq (.ops [.k (some 4) none (.asg (.const (.bool false)))])
  .ret)
  .skip))))
def c17 : Cd :=
(.seq (.ops [.k (some 4) none (.asg (.const (.bool false)))])
(.seq (.seq (.ops [.f (some 6) none (.mv (.tmp 0)),
  .f (some 7) none (.len (.tmp 6)),
  .f (some 8) none (.mv (.tmp 1)),
  .f (some 9) none (.len (.tmp 8)),
  .f (some 10) none (.bin .neq (.tmp 7) (.tmp 9))])
(.cond (.tmp 10)
 (.seq (.ops [.k (some 4) none (.asg (.const (.bool false)))])
 .ret)
 .skip))
(.seq (.seq (.ops [.f (some 11) none (.mv (.tmp 0)),
  .f (some 12) none (.len (.tmp 11)),
  .f (some 13) none (.mv (.const (.int .i64 0)))])
(rangeC 0 13 12 14 25 c17_0))
(.seq (.ops [.k (some 4) none (.asg (.const (.bool true)))])
.ret))))
theorem fn17 : FnOK Try.prog 17 26 c17 [.tmp 4] := .of (by kernel_rfl)
/-! 'dynpos/design.Union' -/
def c18 : Cd :=
(.seq (.ops [.k (some 4) none (.asg (.const (.slice none 0 0)))])
(.seq (.ops [.f (some 6) none (.mv (.tmp 0)),
  .f (some 7) none (.mv (.tmp 1)),
  .k (some 8) none (.bslice 23 1 2 [(.slice none 0 0)] [(0, 1, (.tmp 6)), (1, 1, (.tmp 7))]),
  .k (some 9) none (.call 46 [(.tmp 8)]),
  .k (some 5) none (.asg (.tmp 9))])
(.seq (.ops [.f (some 10) none (.mv (.tmp 5)),
  .k (some 11) none (.call 47 [(.tmp 10), (.func 42)])])
(.seq (.ops [.f (some 12) none (.mv (.tmp 5)),
  .k (some 13) none (.call 48 [(.tmp 12)]),
  .k (some 4) none (.asg (.tmp 13))])
.ret))))
theorem fn18 : FnOK Try.prog 18 14 c18 [.tmp 4] := .of (by kernel_rfl)
/-! 'dynpos/dynposref26.Union' -/
def c19_0 : Cd :=
(.block 3
 (.seq (.ops [.f (some 20) none (.iaddr 2 none (.tmp 16) (.tmp 18)),
   .f (some 21) none (.load (some 2) (.tmp 20)),
   .k (some 9) none (.alloc 29 [(.int .i64 0), (.int .i64 0)]),
   .k none none (.store 2 (.tmp 9) (.tmp 21))])
 (.ops [.f (some 22) none (.mv (.tmp 5)),
   .f (some 23) none (.load (some 2) (.tmp 9)),
   .k (some 24) none (.call 49 [(.tmp 22), (.tmp 23)]),
   .k (some 5) none (.asg (.tmp 24))])))
def c19_1 : Cd :=
(.seq (.ops [.f (some 14) none (.bin .lss (.tmp 13) (.const (.int .i64 2)))])
(.seq (.cond (.tmp 14)
 .skip
 (.exit 0))
(.seq (.block 1
 (.seq (.ops [.f (some 15) none (.idx 1 none 2 (.tmp 12) (.tmp 13)),
   .k (some 7) none (.asg (.tmp 15))])
 (.seq (.ops [.f (some 16) none (.mv (.tmp 7)),
   .f (some 17) none (.len (.tmp 16)),
   .f (some 18) none (.mv (.const (.int .i64 0)))])
 (rangeC 2 18 17 19 25 c19_0))))
(.ops [.f (some 26) none (.bin .add (.tmp 13) (.const (.int .i64 1))),
  .f (some 13) none (.mv (.tmp 26))]))))
def c19 : Cd :=
(.seq (.ops [.k (some 4) none (.asg (.const (.slice none 0 0)))])
(.seq (.ops [.k (some 5) none (.asg (.const (.slice none 0 0)))])
(.seq (.seq (.ops [.f (some 10) none (.mv (.tmp 0)),
  .f (some 11) none (.mv (.tmp 1)),
  .f (some 12) none (.build [(.slice none 0 0), (.slice none 0 0)] [(0, 1, (.tmp 10)), (1, 1, (.tmp 11))]),
  .f (some 13) none (.mv (.const (.int .i64 0)))])
(.block 0
 (.loop c19_1)))
(.seq (.ops [.f (some 27) none (.mv (.tmp 5)),
  .k (some 4) none (.asg (.tmp 27))])
.ret))))
theorem fn19 : FnOK Try.prog 19 28 c19 [.tmp 4] := .of (by kernel_rfl)
/-! '(*dynpos/dynposmake.Src).BentDesign' -/
def c20 : Cd :=
(.seq (.ops [.k (some 3) none (.box 27 3 (.tmp 1)),
  .k (some 4) none (.alloc 27 [(.slice none 0 0), (.slice none 0 0), (.slice none 0 0)])])
(.seq (.ops [.f (some 6) none (.faddr 0 (.tmp 3)),
  .f (some 7) none (.load none (.tmp 6)),
  .k (some 8) none (.append 29 2 16 (.const (.slice none 0 0)) (.tmp 7)),
  .f (some 9) none (.faddr 0 (.tmp 3)),
  .k none none (.store 1 (.tmp 9) (.tmp 8))])
(.seq (.ops [.f (some 10) none (.faddr 1 (.tmp 3)),
  .f (some 11) none (.load none (.tmp 10)),
  .k (some 12) none (.append 60 4 32 (.const (.slice none 0 0)) (.tmp 11)),
  .f (some 13) none (.faddr 1 (.tmp 3)),
  .k none none (.store 1 (.tmp 13) (.tmp 12))])
(.seq (.ops [.f (some 14) none (.faddr 2 (.tmp 3)),
  .f (some 15) none (.load none (.tmp 14)),
  .k (some 16) none (.append 32 2 40 (.const (.slice none 0 0)) (.tmp 15)),
  .f (some 17) none (.faddr 2 (.tmp 3)),
  .k none none (.store 1 (.tmp 17) (.tmp 16))])
(.seq (.seq (.ops [.f (some 18) none (.mv (.tmp 0)),
  .k (some 19) none (.call 32 [(.tmp 18), (.const (.int .i64 6))])])
(.block 0
 (.seq (.ops [.f (some 29) none (.bin .eql (.tmp 19) (.const (.int .i64 0))),
   .k (some 28) none (.asg (.tmp 29))])
 (.cond (.tmp 28)
  (.opd [⟨0, .f (some 30) none (.faddr 0 (.tmp 3)), []⟩,
    ⟨1, .f (some 31) none (.load none (.tmp 30)), []⟩,
    ⟨2, .f (some 32) none (.mv (.tmp 0)), []⟩,
    ⟨4, .f (some 34) none (.mv (.tmp 0)), []⟩,
    ⟨5, .k (some 35) none (.bslice 3 1 4 [(.int .i64 0)] [(0, 1, (.const (.int .i64 (-1)))), (1, 1, (.const (.int .i64 0))), (2, 1, (.const (.int .i64 63))), (3, 1, (.const (.int .i64 64)))]), []⟩,
    ⟨3, .k (some 33) none (.call 50 [(.tmp 32), (.const (.int .i64 0)), (.const (.int .i64 10))]), [.f (some 31) none (.load none (.tmp 30))]⟩,
    ⟨6, .k (some 36) none (.call 51 [(.tmp 34), (.tmp 35)]), [.f (some 31) none (.load none (.tmp 30))]⟩,
    ⟨7, .f (some 37) none (.build [(.int .i64 0), (.int .i64 0)] [(0, 1, (.tmp 33)), (1, 1, (.tmp 36))]), []⟩,
    ⟨8, .k (some 38) none (.bslice 29 2 1 [(.int .i64 0), (.int .i64 0)] [(0, 2, (.tmp 37))]), []⟩,
    ⟨9, .k (some 39) none (.append 29 2 16 (.tmp 31) (.tmp 38)), []⟩,
    ⟨10, .f (some 40) none (.faddr 0 (.tmp 3)), []⟩,
    ⟨11, .k none none (.store 1 (.tmp 40) (.tmp 39)), []⟩])
  (.seq (.ops [.f (some 42) none (.bin .eql (.tmp 19) (.const (.int .i64 1))),
    .k (some 41) none (.asg (.tmp 42))])
  (.cond (.tmp 41)
   (.opd [⟨0, .f (some 43) none (.faddr 1 (.tmp 3)), []⟩,
     ⟨1, .f (some 44) none (.load none (.tmp 43)), []⟩,
     ⟨2, .f (some 45) none (.mv (.tmp 0)), []⟩,
     ⟨4, .f (some 47) none (.mv (.tmp 0)), []⟩,
     ⟨3, .k (some 46) none (.call 29 [(.tmp 45)]), [.f (some 44) none (.load none (.tmp 43))]⟩,
     ⟨5, .k (some 48) none (.call 29 [(.tmp 47)]), [.f (some 44) none (.load none (.tmp 43))]⟩,
     ⟨6, .f (some 49) none (.build [(.int .i64 0), (.int .i64 0), (.int .i64 0), (.int .i64 0)] [(0, 2, (.tmp 46)), (2, 2, (.tmp 48))]), []⟩,
     ⟨7, .k (some 50) none (.bslice 60 4 1 [(.int .i64 0), (.int .i64 0), (.int .i64 0), (.int .i64 0)] [(0, 4, (.tmp 49))]), []⟩,
     ⟨8, .k (some 51) none (.append 60 4 32 (.tmp 44) (.tmp 50)), []⟩,
     ⟨9, .f (some 52) none (.faddr 1 (.tmp 3)), []⟩,
     ⟨10, .k none none (.store 1 (.tmp 52) (.tmp 51)), []⟩])
   (.seq (.ops [.f (some 54) none (.bin .eql (.tmp 19) (.const (.int .i64 2))),
     .k (some 53) none (.asg (.tmp 54))])
   (.cond (.tmp 53)
    (.opd [⟨0, .f (some 55) none (.faddr 2 (.tmp 3)), []⟩,
      ⟨1, .f (some 56) none (.load none (.tmp 55)), []⟩,
      ⟨2, .f (some 57) none (.mv (.tmp 0)), []⟩,
      ⟨3, .k (some 58) none (.bslice 9 1 6 [(.string ⟨#[]⟩)] [(0, 1, (.const (.string ⟨#[111, 110, 101]⟩))), (1, 1, (.const (.string ⟨#[]⟩))), (2, 1, (.const (.string ⟨#[65]⟩))), (3, 1, (.const (.string ⟨#[98, 32, 99]⟩))), (4, 1, (.const (.string ⟨#[116, 119, 101, 108, 118, 101, 45, 98, 121, 116, 101, 115]⟩))), (5, 1, (.const (.string ⟨#[116, 104, 105, 114, 116, 101, 101, 110, 45, 98, 121, 116, 101]⟩)))]), []⟩,
      ⟨5, .f (some 60) none (.mv (.tmp 0)), []⟩,
      ⟨4, .k (some 59) none (.call 52 [(.tmp 57), (.tmp 58)]), [.f (some 56) none (.load none (.tmp 55))]⟩,
      ⟨6, .k (some 61) none (.call 12 [(.tmp 60), (.const (.int .i64 2))]), [.f (some 56) none (.load none (.tmp 55))]⟩,
      ⟨7, .f (some 62) none (.build [(.string ⟨#[]⟩), (.slice none 0 0)] [(0, 1, (.tmp 59)), (1, 1, (.tmp 61))]), []⟩,
      ⟨8, .k (some 63) none (.bslice 32 2 1 [(.string ⟨#[]⟩), (.slice none 0 0)] [(0, 2, (.tmp 62))]), []⟩,
      ⟨9, .k (some 64) none (.append 32 2 40 (.tmp 56) (.tmp 63)), []⟩,
      ⟨10, .f (some 65) none (.faddr 2 (.tmp 3)), []⟩,
      ⟨11, .k none none (.store 1 (.tmp 65) (.tmp 64)), []⟩])
    (.seq (.ops [.f (some 67) none (.bin .eql (.tmp 19) (.const (.int .i64 3))),
      .k (some 66) none (.asg (.tmp 67))])
    (.cond (.tmp 66)
     (.seq (.ops [.f (some 68) none (.faddr 1 (.tmp 3)),
       .f (some 69) none (.load none (.tmp 68)),
       .f (some 70) none (.len (.tmp 69)),
       .f (some 71) none (.bin .gtr (.tmp 70) (.const (.int .i64 0)))])
     (.cond (.tmp 71)
      (.seq (.ops [.f (some 72) none (.mv (.tmp 0)),
        .f (some 73) none (.faddr 1 (.tmp 3)),
        .f (some 74) none (.load none (.tmp 73)),
        .f (some 75) none (.len (.tmp 74)),
        .k (some 76) none (.call 32 [(.tmp 72), (.tmp 75)]),
        .k (some 5) none (.asg (.tmp 76))])
      (.opd [⟨0, .f (some 77) none (.faddr 1 (.tmp 3)), []⟩,
        ⟨1, .f (some 78) none (.load none (.tmp 77)), []⟩,
        ⟨2, .f (some 79) none (.mv (.tmp 5)), []⟩,
        ⟨3, .f (some 80) none (.faddr 1 (.tmp 3)), []⟩,
        ⟨4, .f (some 81) none (.load none (.tmp 80)), []⟩,
        ⟨5, .f (some 82) none (.mv (.tmp 5)), []⟩,
        ⟨6, .f (some 83) none (.iaddr 4 none (.tmp 81) (.tmp 82)), []⟩,
        ⟨7, .f (some 84) none (.faddr 0 (.tmp 83)), []⟩,
        ⟨8, .f (some 85) none (.load (some 2) (.tmp 84)), []⟩,
        ⟨9, .f (some 86) none (.iaddr 4 none (.tmp 78) (.tmp 79)), []⟩,
        ⟨10, .f (some 87) none (.faddr 2 (.tmp 86)), []⟩,
        ⟨11, .k none none (.store 2 (.tmp 87) (.tmp 85)), []⟩]))
      .skip))
     (.seq (.ops [.f (some 89) none (.bin .eql (.tmp 19) (.const (.int .i64 4))),
       .k (some 88) none (.asg (.tmp 89))])
     (.cond (.tmp 88)
      (.seq (.ops [.f (some 90) none (.faddr 0 (.tmp 3)),
        .f (some 91) none (.load none (.tmp 90)),
        .f (some 92) none (.len (.tmp 91)),
        .f (some 93) none (.bin .gtr (.tmp 92) (.const (.int .i64 1)))])
      (.cond (.tmp 93)
       (.opd [⟨0, .f (some 94) none (.faddr 0 (.tmp 3)), []⟩,
         ⟨1, .f (some 95) none (.load none (.tmp 94)), []⟩,
         ⟨2, .f (some 96) none (.faddr 0 (.tmp 3)), []⟩,
         ⟨3, .f (some 97) none (.load none (.tmp 96)), []⟩,
         ⟨4, .f (some 98) none (.faddr 0 (.tmp 3)), []⟩,
         ⟨5, .f (some 99) none (.load none (.tmp 98)), []⟩,
         ⟨6, .f (some 100) none (.iaddr 2 none (.tmp 99) (.const (.int .i64 1))), []⟩,
         ⟨7, .f (some 101) none (.load (some 2) (.tmp 100)), []⟩,
         ⟨8, .f (some 102) none (.faddr 0 (.tmp 3)), []⟩,
         ⟨9, .f (some 103) none (.load none (.tmp 102)), []⟩,
         ⟨10, .f (some 104) none (.iaddr 2 none (.tmp 103) (.const (.int .i64 0))), []⟩,
         ⟨11, .f (some 105) none (.load (some 2) (.tmp 104)), []⟩,
         ⟨12, .f (some 106) none (.iaddr 2 none (.tmp 95) (.const (.int .i64 0))), []⟩,
         ⟨13, .k none none (.store 2 (.tmp 106) (.tmp 101)), [.f (some 97) none (.load none (.tmp 96))]⟩,
         ⟨14, .f (some 107) none (.iaddr 2 none (.tmp 97) (.const (.int .i64 1))), []⟩,
         ⟨15, .k none none (.store 2 (.tmp 107) (.tmp 105)), []⟩])
       .skip))
      (.seq (.ops [.f (some 20) none (.faddr 0 (.tmp 3)),
        .f (some 21) none (.load none (.tmp 20)),
        .f (some 22) none (.len (.tmp 21)),
        .f (some 23) none (.bin .gtr (.tmp 22) (.const (.int .i64 0)))])
      (.cond (.tmp 23)
       (.ops [.f (some 24) none (.faddr 0 (.tmp 3)),
         .f (some 25) none (.load none (.tmp 24)),
         .f (some 26) none (.slc 2 (.tmp 25) (some (.const (.int .i64 1))) none none),
         .f (some 27) none (.faddr 0 (.tmp 3)),
         .k none none (.store 1 (.tmp 27) (.tmp 26))])
       .skip))))))))))))))
(.seq (.ops [.f (some 108) none (.load (some 3) (.tmp 3)),
  .k none none (.store 3 (.tmp 4) (.tmp 108))])
.ret))))))
theorem fn20 : FnOK Try.prog 20 109 c20 [.cell 4 (some 3)] := .of (by kernel_rfl)
/-! 'dynpos/design.Check' -/
def c21 : Cd :=
(.seq (.ops [.k (some 1) none (.box 27 3 (.tmp 0)),
  .k (some 2) none (.asg (.const (.int .i64 0)))])
(.seq (.seq (.ops [.f (some 3) none (.faddr 0 (.tmp 1)),
  .f (some 4) none (.load none (.tmp 3)),
  .f (some 5) none (.len (.tmp 4)),
  .f (some 6) none (.bin .gtr (.tmp 5) (.const (.int .i64 40))),
  .f (some 7) none (.mv (.tmp 6)),
  .f (some 8) (some (7, false)) (.faddr 1 (.tmp 1)),
  .f (some 9) (some (7, false)) (.load none (.tmp 8)),
  .f (some 10) (some (7, false)) (.len (.tmp 9)),
  .f (some 11) (some (7, false)) (.bin .gtr (.tmp 10) (.const (.int .i64 60))),
  .f (some 12) none (.pick (.tmp 7) (.const (.bool true)) (.tmp 11)),
  .f (some 13) none (.mv (.tmp 12)),
  .f (some 14) (some (13, false)) (.faddr 2 (.tmp 1)),
  .f (some 15) (some (13, false)) (.load none (.tmp 14)),
  .f (some 16) (some (13, false)) (.len (.tmp 15)),
  .f (some 17) (some (13, false)) (.bin .gtr (.tmp 16) (.const (.int .i64 6))),
  .f (some 18) none (.pick (.tmp 13) (.const (.bool true)) (.tmp 17))])
(.cond (.tmp 18)
 (.seq (.ops [.k (some 2) none (.asg (.const (.int .i64 2)))])
 .ret)
 .skip))
(.seq (.seq (.ops [.f (some 19) none (.faddr 0 (.tmp 1)),
  .f (some 20) none (.load none (.tmp 19)),
  .k (some 21) none (.call 13 [(.tmp 20)]),
  .f (some 22) none (.un .not (.tmp 21)),
  .f (some 23) none (.mv (.tmp 22)),
  .f (some 24) (some (23, false)) (.load (some 3) (.tmp 1)),
  .k (some 25) (some (23, false)) (.call 53 [(.tmp 24)]),
  .f (some 26) (some (23, false)) (.un .not (.tmp 25)),
  .f (some 27) none (.pick (.tmp 23) (.const (.bool true)) (.tmp 26)),
  .f (some 28) none (.mv (.tmp 27)),
  .f (some 29) (some (28, false)) (.load (some 3) (.tmp 1)),
  .k (some 30) (some (28, false)) (.call 54 [(.tmp 29)]),
  .f (some 31) (some (28, false)) (.un .not (.tmp 30)),
  .f (some 32) none (.pick (.tmp 28) (.const (.bool true)) (.tmp 31))])
(.cond (.tmp 32)
 (.seq (.ops [.k (some 2) none (.asg (.const (.int .i64 63)))])
 .ret)
 .skip))
(.seq (.ops [.k (some 2) none (.asg (.const (.int .i64 0)))])
.ret))))
theorem fn21 : FnOK Try.prog 21 33 c21 [.tmp 2] := .of (by kernel_rfl)
/-! 'dynpos/dynposref26.Check' -/
def c22_0 : Cd :=
(.block 1
 (.seq (.ops [.f (some 35) none (.mv (.tmp 33)),
   .f (some 36) none (.iaddr 4 none (.tmp 31) (.tmp 33)),
   .f (some 37) none (.load (some 4) (.tmp 36)),
   .k (some 4) none (.alloc 60 [(.int .i64 0), (.int .i64 0), (.int .i64 0), (.int .i64 0)]),
   .k (some 3) none (.asg (.tmp 35)),
   .k none none (.store 4 (.tmp 4) (.tmp 37))])
 (.seq (.seq (.ops [.f (some 38) none (.faddr 0 (.tmp 1)),
   .f (some 39) none (.load none (.tmp 38)),
   .f (some 40) none (.faddr 0 (.tmp 4)),
   .f (some 41) none (.load (some 2) (.tmp 40)),
   .k (some 42) none (.call 16 [(.tmp 39), (.tmp 41)]),
   .f (some 43) none (.un .not (.tmp 42)),
   .f (some 44) none (.mv (.tmp 43)),
   .f (some 45) (some (44, false)) (.faddr 0 (.tmp 1)),
   .f (some 46) (some (44, false)) (.load none (.tmp 45)),
   .f (some 47) (some (44, false)) (.faddr 2 (.tmp 4)),
   .f (some 48) (some (44, false)) (.load (some 2) (.tmp 47)),
   .k (some 49) (some (44, false)) (.call 16 [(.tmp 46), (.tmp 48)]),
   .f (some 50) (some (44, false)) (.un .not (.tmp 49)),
   .f (some 51) none (.pick (.tmp 44) (.const (.bool true)) (.tmp 50)),
   .f (some 52) none (.mv (.tmp 51)),
   .f (some 53) (some (52, false)) (.faddr 0 (.tmp 4)),
   .f (some 54) (some (52, false)) (.load (some 2) (.tmp 53)),
   .f (some 55) (some (52, false)) (.faddr 2 (.tmp 4)),
   .f (some 56) (some (52, false)) (.load (some 2) (.tmp 55)),
   .f (some 57) (some (52, false)) (.eql false (.st [(0, none, .num), (1, none, .num)]) (.tmp 54) (.tmp 56)),
   .f (some 58) none (.pick (.tmp 52) (.const (.bool true)) (.tmp 57))])
 (.cond (.tmp 58)
  (.seq (.ops [.k (some 2) none (.asg (.const (.int .i64 63)))])
  .ret)
  .skip))
 (.seq (.opd [⟨0, .f (some 59) none (.mv (.tmp 3)), []⟩,
   ⟨1, .f (some 60) none (.bin .gtr (.tmp 59) (.const (.int .i64 0))), []⟩,
   ⟨2, .f (some 61) none (.mv (.tmp 60)), []⟩,
   ⟨3, .f (some 62) (some (61, true)) (.faddr 1 (.tmp 1)), []⟩,
   ⟨4, .f (some 63) (some (61, true)) (.load none (.tmp 62)), []⟩,
   ⟨5, .f (some 64) (some (61, true)) (.mv (.tmp 3)), []⟩,
   ⟨6, .f (some 65) (some (61, true)) (.bin .sub (.tmp 64) (.const (.int .i64 1))), []⟩,
   ⟨7, .f (some 66) (some (61, true)) (.iaddr 4 none (.tmp 63) (.tmp 65)), []⟩,
   ⟨8, .f (some 67) (some (61, true)) (.faddr 0 (.tmp 66)), []⟩,
   ⟨9, .f (some 68) (some (61, true)) (.load (some 2) (.tmp 67)), []⟩,
   ⟨10, .f (some 69) (some (61, true)) (.faddr 0 (.tmp 4)), []⟩,
   ⟨11, .f (some 70) (some (61, true)) (.load (some 2) (.tmp 69)), []⟩,
   ⟨12, .k (some 71) (some (61, true)) (.call 44 [(.tmp 68), (.tmp 70)]), []⟩,
   ⟨13, .f (some 72) (some (61, true)) (.mv (.tmp 71)), []⟩,
   ⟨14, .f (some 73) (some (72, false)) (.faddr 1 (.tmp 1)), []⟩,
   ⟨15, .f (some 74) (some (72, false)) (.load none (.tmp 73)), []⟩,
   ⟨16, .f (some 75) (some (72, false)) (.mv (.tmp 3)), []⟩,
   ⟨17, .f (some 76) (some (72, false)) (.bin .sub (.tmp 75) (.const (.int .i64 1))), []⟩,
   ⟨18, .f (some 77) (some (72, false)) (.iaddr 4 none (.tmp 74) (.tmp 76)), []⟩,
   ⟨19, .f (some 78) (some (72, false)) (.faddr 0 (.tmp 77)), []⟩,
   ⟨20, .f (some 79) (some (72, false)) (.load (some 2) (.tmp 78)), []⟩,
   ⟨21, .f (some 80) (some (72, false)) (.faddr 0 (.tmp 4)), []⟩,
   ⟨22, .f (some 81) (some (72, false)) (.load (some 2) (.tmp 80)), []⟩,
   ⟨23, .f (some 82) (some (72, false)) (.eql false (.st [(0, none, .num), (1, none, .num)]) (.tmp 79) (.tmp 81)), []⟩,
   ⟨24, .f (some 83) (some (72, false)) (.mv (.tmp 82)), []⟩,
   ⟨25, .f (some 84) (some (83, true)) (.faddr 1 (.tmp 1)), []⟩,
   ⟨26, .f (some 85) (some (83, true)) (.load none (.tmp 84)), []⟩,
   ⟨27, .f (some 86) (some (83, true)) (.mv (.tmp 3)), []⟩,
   ⟨28, .f (some 87) (some (83, true)) (.bin .sub (.tmp 86) (.const (.int .i64 1))), []⟩,
   ⟨29, .f (some 88) (some (83, true)) (.iaddr 4 none (.tmp 85) (.tmp 87)), []⟩,
   ⟨30, .f (some 89) (some (83, true)) (.faddr 2 (.tmp 88)), []⟩,
   ⟨31, .f (some 90) (some (83, true)) (.load (some 2) (.tmp 89)), []⟩,
   ⟨32, .f (some 91) (some (83, true)) (.faddr 2 (.tmp 4)), []⟩,
   ⟨33, .f (some 92) (some (83, true)) (.load (some 2) (.tmp 91)), []⟩,
   ⟨34, .k (some 93) (some (83, true)) (.call 44 [(.tmp 90), (.tmp 92)]), []⟩,
   ⟨35, .f (some 94) (some (72, false)) (.pick (.tmp 83) (.tmp 93) (.const (.bool false))), []⟩,
   ⟨36, .f (some 95) (some (61, true)) (.pick (.tmp 72) (.const (.bool true)) (.tmp 94)), []⟩,
   ⟨37, .f (some 96) (some (61, true)) (.un .not (.tmp 95)), []⟩,
   ⟨38, .f (some 97) none (.pick (.tmp 61) (.tmp 96) (.const (.bool false))), []⟩])
 (.cond (.tmp 97)
  (.seq (.ops [.k (some 2) none (.asg (.const (.int .i64 63)))])
  .ret)
  .skip)))))
def c22_1 : Cd :=
(.block 5
 (.seq (.ops [.f (some 128) none (.iaddr 2 none (.tmp 124) (.tmp 126)),
   .f (some 129) none (.load (some 2) (.tmp 128)),
   .k (some 8) none (.alloc 29 [(.int .i64 0), (.int .i64 0)]),
   .k none none (.store 2 (.tmp 8) (.tmp 129))])
 (.seq (.ops [.f (some 130) none (.faddr 0 (.tmp 1)),
   .f (some 131) none (.load none (.tmp 130)),
   .f (some 132) none (.load (some 2) (.tmp 8)),
   .k (some 133) none (.call 16 [(.tmp 131), (.tmp 132)]),
   .f (some 134) none (.un .not (.tmp 133))])
 (.cond (.tmp 134)
  (.seq (.ops [.k (some 2) none (.asg (.const (.int .i64 63)))])
  .ret)
  .skip))))
def c22_2 : Cd :=
(.seq (.seq (.ops [.f (some 136) none (.mv (.tmp 9)),
  .f (some 137) none (.mv (.tmp 5)),
  .f (some 138) none (.bin .lss (.tmp 136) (.tmp 137))])
(.cond (.tmp 138)
 .skip
 (.exit 6)))
(.seq (.block 7
 (.seq (.opd [⟨0, .f (some 141) none (.faddr 2 (.tmp 1)), []⟩,
   ⟨1, .f (some 142) none (.load none (.tmp 141)), []⟩,
   ⟨2, .f (some 143) none (.mv (.tmp 9)), []⟩,
   ⟨3, .f (some 144) none (.iaddr 2 none (.tmp 142) (.tmp 143)), []⟩,
   ⟨4, .f (some 145) none (.faddr 0 (.tmp 144)), []⟩,
   ⟨5, .f (some 146) none (.load none (.tmp 145)), []⟩,
   ⟨6, .f (some 147) none (.faddr 0 (.tmp 6)), []⟩,
   ⟨7, .f (some 148) none (.load none (.tmp 147)), []⟩,
   ⟨8, .f (some 149) none (.bins .eql (.tmp 146) (.tmp 148)), []⟩])
 (.cond (.tmp 149)
  (.seq (.ops [.k (some 2) none (.asg (.const (.int .i64 63)))])
  .ret)
  .skip)))
(.ops [.f (some 139) none (.mv (.tmp 9)),
  .f (some 140) none (.bin .add (.tmp 139) (.const (.int .i64 1))),
  .k (some 9) none (.asg (.tmp 140))])))
def c22_3 : Cd :=
(.block 3
 (.seq (.ops [.f (some 104) none (.mv (.tmp 102)),
   .f (some 105) none (.iaddr 2 none (.tmp 100) (.tmp 102)),
   .f (some 106) none (.load (some 2) (.tmp 105)),
   .k (some 6) none (.alloc 32 [(.string ⟨#[]⟩), (.slice none 0 0)]),
   .k (some 5) none (.asg (.tmp 104)),
   .k none none (.store 2 (.tmp 6) (.tmp 106))])
 (.seq (.seq (.ops [.f (some 107) none (.faddr 0 (.tmp 6)),
   .f (some 108) none (.load none (.tmp 107)),
   .k (some 109) none (.call 55 [(.tmp 108)]),
   .f (some 110) none (.un .not (.tmp 109)),
   .f (some 111) none (.mv (.tmp 110)),
   .f (some 112) (some (111, false)) (.faddr 1 (.tmp 6)),
   .f (some 113) (some (111, false)) (.load none (.tmp 112)),
   .f (some 114) (some (111, false)) (.len (.tmp 113)),
   .f (some 115) (some (111, false)) (.bin .eql (.tmp 114) (.const (.int .i64 0))),
   .f (some 116) none (.pick (.tmp 111) (.const (.bool true)) (.tmp 115)),
   .f (some 117) none (.mv (.tmp 116)),
   .f (some 118) (some (117, false)) (.faddr 1 (.tmp 6)),
   .f (some 119) (some (117, false)) (.load none (.tmp 118)),
   .k (some 120) (some (117, false)) (.call 14 [(.tmp 119)]),
   .f (some 121) (some (117, false)) (.un .not (.tmp 120)),
   .f (some 122) none (.pick (.tmp 117) (.const (.bool true)) (.tmp 121))])
 (.cond (.tmp 122)
  (.seq (.ops [.k (some 2) none (.asg (.const (.int .i64 63)))])
  .ret)
  .skip))
 (.seq (.seq (.ops [.f (some 123) none (.faddr 1 (.tmp 6)),
   .f (some 124) none (.load none (.tmp 123)),
   .f (some 125) none (.len (.tmp 124)),
   .f (some 126) none (.mv (.const (.int .i64 0)))])
 (rangeC 4 126 125 127 135 c22_1))
 (.seq (.ops [.k (some 9) none (.asg (.const (.int .i64 0)))])
 (.block 6
  (.loop c22_2)))))))
def c22 : Cd :=
(.seq (.ops [.k (some 1) none (.box 27 3 (.tmp 0)),
  .k (some 2) none (.asg (.const (.int .i64 0)))])
(.seq (.seq (.ops [.f (some 10) none (.faddr 0 (.tmp 1)),
  .f (some 11) none (.load none (.tmp 10)),
  .f (some 12) none (.len (.tmp 11)),
  .f (some 13) none (.bin .gtr (.tmp 12) (.const (.int .i64 40))),
  .f (some 14) none (.mv (.tmp 13)),
  .f (some 15) (some (14, false)) (.faddr 1 (.tmp 1)),
  .f (some 16) (some (14, false)) (.load none (.tmp 15)),
  .f (some 17) (some (14, false)) (.len (.tmp 16)),
  .f (some 18) (some (14, false)) (.bin .gtr (.tmp 17) (.const (.int .i64 60))),
  .f (some 19) none (.pick (.tmp 14) (.const (.bool true)) (.tmp 18)),
  .f (some 20) none (.mv (.tmp 19)),
  .f (some 21) (some (20, false)) (.faddr 2 (.tmp 1)),
  .f (some 22) (some (20, false)) (.load none (.tmp 21)),
  .f (some 23) (some (20, false)) (.len (.tmp 22)),
  .f (some 24) (some (20, false)) (.bin .gtr (.tmp 23) (.const (.int .i64 6))),
  .f (some 25) none (.pick (.tmp 20) (.const (.bool true)) (.tmp 24))])
(.cond (.tmp 25)
 (.seq (.ops [.k (some 2) none (.asg (.const (.int .i64 2)))])
 .ret)
 .skip))
(.seq (.seq (.ops [.f (some 26) none (.faddr 0 (.tmp 1)),
  .f (some 27) none (.load none (.tmp 26)),
  .k (some 28) none (.call 14 [(.tmp 27)]),
  .f (some 29) none (.un .not (.tmp 28))])
(.cond (.tmp 29)
 (.seq (.ops [.k (some 2) none (.asg (.const (.int .i64 63)))])
 .ret)
 .skip))
(.seq (.seq (.ops [.f (some 30) none (.faddr 1 (.tmp 1)),
  .f (some 31) none (.load none (.tmp 30)),
  .f (some 32) none (.len (.tmp 31)),
  .f (some 33) none (.mv (.const (.int .i64 0)))])
(rangeC 0 33 32 34 98 c22_0))
(.seq (.seq (.ops [.f (some 99) none (.faddr 2 (.tmp 1)),
  .f (some 100) none (.load none (.tmp 99)),
  .f (some 101) none (.len (.tmp 100)),
  .f (some 102) none (.mv (.const (.int .i64 0)))])
(rangeC 2 102 101 103 150 c22_3))
(.seq (.ops [.k (some 2) none (.asg (.const (.int .i64 0)))])
.ret))))))
theorem fn22 : FnOK Try.prog 22 151 c22 [.tmp 2] := .of (by kernel_rfl)
/-! 'dynpos/design.Independent' -/
def c23_0 : Cd :=
(.block 3
 (.seq (.ops [.f (some 17) none (.mv (.tmp 15)),
   .k (some 4) none (.asg (.tmp 17))])
 (.seq (.ops [.f (some 18) none (.load (some 3) (.tmp 1)),
   .f (some 19) none (.mv (.tmp 3)),
   .f (some 20) none (.mv (.tmp 4)),
   .k (some 21) none (.call 33 [(.tmp 18), (.tmp 19), (.tmp 20)]),
   .f (some 22) none (.len (.tmp 21)),
   .f (some 23) none (.bin .gtr (.tmp 22) (.const (.int .i64 0)))])
 (.cond (.tmp 23)
  (.seq (.ops [.k (some 2) none (.asg (.const (.bool false)))])
  .ret)
  .skip))))
def c23_1 : Cd :=
(.block 1
 (.seq (.ops [.f (some 13) none (.mv (.tmp 11)),
   .k (some 3) none (.asg (.tmp 13))])
 (.seq (.ops [.f (some 14) none (.mv (.tmp 3)),
   .f (some 15) none (.mv (.const (.int .i64 0)))])
 (rangeC 2 15 14 16 24 c23_0))))
def c23 : Cd :=
(.seq (.ops [.k (some 1) none (.box 27 3 (.tmp 0)),
  .k (some 2) none (.asg (.const (.bool false)))])
(.seq (.seq (.ops [.f (some 5) none (.load (some 3) (.tmp 1)),
  .k (some 6) none (.call 21 [(.tmp 5)]),
  .f (some 7) none (.bin .neq (.tmp 6) (.const (.int .i64 0)))])
(.cond (.tmp 7)
 (.seq (.ops [.k (some 2) none (.asg (.const (.bool false)))])
 .ret)
 .skip))
(.seq (.seq (.ops [.f (some 8) none (.faddr 2 (.tmp 1)),
  .f (some 9) none (.load none (.tmp 8)),
  .f (some 10) none (.len (.tmp 9)),
  .f (some 11) none (.mv (.const (.int .i64 0)))])
(rangeC 0 11 10 12 25 c23_1))
(.seq (.ops [.k (some 2) none (.asg (.const (.bool true)))])
.ret))))
theorem fn23 : FnOK Try.prog 23 26 c23 [.tmp 2] := .of (by kernel_rfl)
/-! 'dynpos/dynposref26.Independent' -/
def c24_0 : Cd :=
(.seq (.seq (.ops [.f (some 14) none (.mv (.tmp 4)),
  .f (some 15) none (.mv (.tmp 3)),
  .f (some 16) none (.bin .lss (.tmp 14) (.tmp 15))])
(.cond (.tmp 16)
 .skip
 (.exit 2)))
(.seq (.block 3
 (.seq (.ops [.f (some 19) none (.load (some 3) (.tmp 1)),
   .f (some 20) none (.mv (.tmp 3)),
   .f (some 21) none (.mv (.tmp 4)),
   .k (some 22) none (.call 34 [(.tmp 19), (.tmp 20), (.tmp 21)]),
   .f (some 23) none (.len (.tmp 22)),
   .f (some 24) none (.bin .gtr (.tmp 23) (.const (.int .i64 0)))])
 (.cond (.tmp 24)
  (.seq (.ops [.k (some 2) none (.asg (.const (.bool false)))])
  .ret)
  .skip)))
(.ops [.f (some 17) none (.mv (.tmp 4)),
  .f (some 18) none (.bin .add (.tmp 17) (.const (.int .i64 1))),
  .k (some 4) none (.asg (.tmp 18))])))
def c24_1 : Cd :=
(.block 1
 (.seq (.ops [.f (some 13) none (.mv (.tmp 11)),
   .k (some 3) none (.asg (.tmp 13))])
 (.seq (.ops [.k (some 4) none (.asg (.const (.int .i64 0)))])
 (.block 2
  (.loop c24_0)))))
def c24 : Cd :=
(.seq (.ops [.k (some 1) none (.box 27 3 (.tmp 0)),
  .k (some 2) none (.asg (.const (.bool false)))])
(.seq (.seq (.ops [.f (some 5) none (.load (some 3) (.tmp 1)),
  .k (some 6) none (.call 22 [(.tmp 5)]),
  .f (some 7) none (.bin .neq (.tmp 6) (.const (.int .i64 0)))])
(.cond (.tmp 7)
 (.seq (.ops [.k (some 2) none (.asg (.const (.bool false)))])
 .ret)
 .skip))
(.seq (.seq (.ops [.f (some 8) none (.faddr 2 (.tmp 1)),
  .f (some 9) none (.load none (.tmp 8)),
  .f (some 10) none (.len (.tmp 9)),
  .f (some 11) none (.mv (.const (.int .i64 0)))])
(rangeC 0 11 10 12 25 c24_1))
(.seq (.ops [.k (some 2) none (.asg (.const (.bool true)))])
.ret))))
theorem fn24 : FnOK Try.prog 24 26 c24 [.tmp 2] := .of (by kernel_rfl)
/-! 'dynpos/design.Falls' -/
def c25_0 : Cd :=
(.block 3
 (.seq (.ops [.f (some 38) none (.iaddr 4 none (.tmp 34) (.tmp 36)),
   .f (some 39) none (.load (some 4) (.tmp 38)),
   .k (some 9) none (.alloc 60 [(.int .i64 0), (.int .i64 0), (.int .i64 0), (.int .i64 0)]),
   .k none none (.store 4 (.tmp 9) (.tmp 39))])
 (.seq (.ops [.f (some 40) none (.faddr 0 (.tmp 9)),
   .f (some 41) none (.load (some 2) (.tmp 40)),
   .f (some 42) none (.load (some 2) (.tmp 7)),
   .f (some 43) none (.eql false (.st [(0, none, .num), (1, none, .num)]) (.tmp 41) (.tmp 42))])
 (.cond (.tmp 43)
  (.ops [.f (some 44) none (.mv (.tmp 6)),
    .f (some 45) none (.faddr 2 (.tmp 9)),
    .f (some 46) none (.load (some 2) (.tmp 45)),
    .k (some 47) none (.bslice 29 2 1 [(.int .i64 0), (.int .i64 0)] [(0, 2, (.tmp 46))]),
    .k (some 48) none (.append 29 2 16 (.tmp 44) (.tmp 47)),
    .k (some 6) none (.asg (.tmp 48))])
  .skip))))
def c25_1 : Cd :=
(.seq (.seq (.ops [.f (some 20) none (.mv (.tmp 6)),
  .f (some 21) none (.len (.tmp 20)),
  .f (some 22) none (.bin .gtr (.tmp 21) (.const (.int .i64 0)))])
(.cond (.tmp 22)
 .skip
 (.exit 0)))
(.block 1
 (.seq (.ops [.f (some 23) none (.mv (.tmp 6)),
   .f (some 24) none (.iaddr 2 none (.tmp 23) (.const (.int .i64 0))),
   .f (some 25) none (.load (some 2) (.tmp 24)),
   .k (some 7) none (.alloc 29 [(.int .i64 0), (.int .i64 0)]),
   .k none none (.store 2 (.tmp 7) (.tmp 25))])
 (.seq (.ops [.f (some 26) none (.mv (.tmp 6)),
   .f (some 27) none (.slc 2 (.tmp 26) (some (.const (.int .i64 1))) none none),
   .k (some 6) none (.asg (.tmp 27))])
 (.seq (.seq (.ops [.f (some 28) none (.mv (.tmp 5)),
   .f (some 29) none (.load (some 2) (.tmp 7)),
   .k (some 30) none (.gen (.mget 81 false) [(.tmp 28), (.tmp 29)])])
 (.cond (.tmp 30)
  (.exit 1)
  .skip))
 (.seq (.ops [.f (some 31) none (.mv (.tmp 5)),
   .f (some 32) none (.load (some 2) (.tmp 7)),
   .k none none (.gen (.mset 81) [(.tmp 31), (.tmp 32), (.const (.bool true))])])
 (.seq (.ops [.f (some 33) none (.faddr 1 (.tmp 2)),
   .f (some 34) none (.load none (.tmp 33)),
   .f (some 35) none (.len (.tmp 34)),
   .f (some 36) none (.mv (.const (.int .i64 0)))])
 (rangeC 2 36 35 37 49 c25_0))))))))
def c25_2 : Cd :=
(.seq (.ops [.k (some 52) none (.gen .nxt [(.tmp 51)]),
  .f (some 53) none (.extract 0 (.tmp 52))])
(.seq (.cond (.tmp 53)
 .skip
 (.exit 4))
(.block 5
 (.seq (.ops [.k (some 54) none (.gen .ent [(.tmp 51)]),
   .f (some 55) none (.extract 0 (.tmp 54)),
   .k (some 11) none (.alloc 29 [(.int .i64 0), (.int .i64 0)]),
   .k none none (.store 2 (.tmp 11) (.tmp 55))])
 (.ops [.f (some 56) none (.mv (.tmp 10)),
   .f (some 57) none (.load (some 2) (.tmp 11)),
   .k (some 58) none (.bslice 29 2 1 [(.int .i64 0), (.int .i64 0)] [(0, 2, (.tmp 57))]),
   .k (some 59) none (.append 29 2 16 (.tmp 56) (.tmp 58)),
   .k (some 10) none (.asg (.tmp 59))])))))
def c25 : Cd :=
(.seq (.ops [.k (some 2) none (.box 27 3 (.tmp 0)),
  .k (some 4) none (.asg (.const (.slice none 0 0)))])
(.seq (.seq (.ops [.f (some 12) none (.load (some 3) (.tmp 2)),
  .k (some 13) none (.call 21 [(.tmp 12)]),
  .f (some 14) none (.bin .neq (.tmp 13) (.const (.int .i64 0)))])
(.cond (.tmp 14)
 (.seq (.ops [.f (some 15) none (.mv (.tmp 1)),
   .k (some 16) none (.call 18 [(.tmp 15), (.const (.slice none 0 0))]),
   .k (some 4) none (.asg (.tmp 16))])
 .ret)
 .skip))
(.seq (.ops [.k (some 17) none (.gen (.mkmap 81) []),
  .k (some 5) none (.asg (.tmp 17))])
(.seq (.ops [.f (some 18) none (.mv (.tmp 1)),
  .k (some 19) none (.call 56 [(.tmp 18)]),
  .k (some 6) none (.asg (.tmp 19))])
(.seq (.block 0
 (.loop c25_1))
(.seq (.ops [.k (some 10) none (.asg (.const (.slice none 0 0)))])
(.seq (.seq (.ops [.f (some 50) none (.mv (.tmp 5)),
  .k (some 51) none (.gen (.rng 81) [(.tmp 50)])])
(.block 4
 (.loop c25_2)))
(.seq (.ops [.f (some 60) none (.mv (.tmp 10)),
  .k (some 61) none (.call 47 [(.tmp 60), (.func 42)])])
(.seq (.ops [.f (some 62) none (.mv (.tmp 10)),
  .k (some 4) none (.asg (.tmp 62))])
.ret)))))))))
theorem fn25 : FnOK Try.prog 25 63 c25 [.tmp 4] := .of (by kernel_rfl)
/-! 'dynpos/dynposref26.Falls' -/
def c26_0 : Cd :=
(.block 3
 (.seq (.ops [.f (some 21) none (.iaddr 4 none (.tmp 17) (.tmp 19)),
   .f (some 22) none (.load (some 4) (.tmp 21)),
   .k (some 8) none (.alloc 60 [(.int .i64 0), (.int .i64 0), (.int .i64 0), (.int .i64 0)]),
   .k none none (.store 4 (.tmp 8) (.tmp 22))])
 (.seq (.ops [.f (some 23) none (.mv (.tmp 5)),
   .f (some 24) none (.faddr 0 (.tmp 8)),
   .f (some 25) none (.load (some 2) (.tmp 24)),
   .k (some 26) none (.call 16 [(.tmp 23), (.tmp 25)]),
   .f (some 27) none (.mv (.tmp 26)),
   .f (some 28) (some (27, true)) (.mv (.tmp 5)),
   .f (some 29) (some (27, true)) (.faddr 2 (.tmp 8)),
   .f (some 30) (some (27, true)) (.load (some 2) (.tmp 29)),
   .k (some 31) (some (27, true)) (.call 16 [(.tmp 28), (.tmp 30)]),
   .f (some 32) (some (27, true)) (.un .not (.tmp 31)),
   .f (some 33) none (.pick (.tmp 27) (.tmp 32) (.const (.bool false)))])
 (.cond (.tmp 33)
  (.ops [.f (some 34) none (.mv (.tmp 5)),
    .f (some 35) none (.faddr 2 (.tmp 8)),
    .f (some 36) none (.load (some 2) (.tmp 35)),
    .k (some 37) none (.call 49 [(.tmp 34), (.tmp 36)]),
    .k (some 5) none (.asg (.tmp 37)),
    .k (some 6) none (.asg (.const (.bool true)))])
  .skip))))
def c26_1 : Cd :=
(.seq (.seq (.ops [.f (some 15) none (.mv (.tmp 6))])
(.cond (.tmp 15)
 .skip
 (.exit 0)))
(.block 1
 (.seq (.ops [.k (some 6) none (.asg (.const (.bool false)))])
 (.seq (.ops [.f (some 16) none (.faddr 1 (.tmp 2)),
   .f (some 17) none (.load none (.tmp 16)),
   .f (some 18) none (.len (.tmp 17)),
   .f (some 19) none (.mv (.const (.int .i64 0)))])
 (rangeC 2 19 18 20 38 c26_0)))))
def c26 : Cd :=
(.seq (.ops [.k (some 2) none (.box 27 3 (.tmp 0)),
  .k (some 4) none (.asg (.const (.slice none 0 0)))])
(.seq (.ops [.f (some 9) none (.mv (.tmp 1)),
  .k (some 10) none (.call 19 [(.tmp 9), (.const (.slice none 0 0))]),
  .k (some 5) none (.asg (.tmp 10))])
(.seq (.seq (.ops [.f (some 11) none (.load (some 3) (.tmp 2)),
  .k (some 12) none (.call 22 [(.tmp 11)]),
  .f (some 13) none (.bin .neq (.tmp 12) (.const (.int .i64 0)))])
(.cond (.tmp 13)
 (.seq (.ops [.f (some 14) none (.mv (.tmp 5)),
   .k (some 4) none (.asg (.tmp 14))])
 .ret)
 .skip))
(.seq (.seq (.ops [.k (some 6) none (.asg (.const (.bool true)))])
(.block 0
 (.loop c26_1)))
(.seq (.ops [.f (some 39) none (.mv (.tmp 5)),
  .k (some 4) none (.asg (.tmp 39))])
.ret)))))
theorem fn26 : FnOK Try.prog 26 40 c26 [.tmp 4] := .of (by kernel_rfl)
/-! 'dynpos/design.Proves' -/
def c27_0 : Cd :=
(.seq (.seq (.ops [.f (some 23) none (.mv (.tmp 5)),
  .f (some 24) none (.mv (.tmp 1)),
  .f (some 25) none (.len (.tmp 24)),
  .f (some 26) none (.bin .lss (.tmp 23) (.tmp 25))])
(.cond (.tmp 26)
 .skip
 (.exit 0)))
(.seq (.block 1
 (.seq (.opd [⟨0, .f (some 29) none (.faddr 1 (.tmp 2)), []⟩,
   ⟨1, .f (some 30) none (.load none (.tmp 29)), []⟩,
   ⟨2, .f (some 31) none (.mv (.tmp 1)), []⟩,
   ⟨3, .f (some 32) none (.mv (.tmp 5)), []⟩,
   ⟨4, .f (some 33) none (.bin .sub (.tmp 32) (.const (.int .i64 1))), []⟩,
   ⟨5, .f (some 34) none (.iaddr 2 none (.tmp 31) (.tmp 33)), []⟩,
   ⟨6, .f (some 35) none (.load (some 2) (.tmp 34)), []⟩,
   ⟨7, .f (some 36) none (.mv (.tmp 1)), []⟩,
   ⟨8, .f (some 37) none (.mv (.tmp 5)), []⟩,
   ⟨9, .f (some 38) none (.iaddr 2 none (.tmp 36) (.tmp 37)), []⟩,
   ⟨10, .f (some 39) none (.load (some 2) (.tmp 38)), []⟩,
   ⟨11, .f (some 40) none (.build [(.int .i64 0), (.int .i64 0), (.int .i64 0), (.int .i64 0)] [(0, 2, (.tmp 35)), (2, 2, (.tmp 39))]), []⟩,
   ⟨12, .k (some 41) none (.call 57 [(.tmp 30), (.tmp 40)]), []⟩,
   ⟨13, .f (some 42) none (.un .not (.tmp 41)), []⟩])
 (.cond (.tmp 42)
  (.seq (.ops [.k (some 4) none (.asg (.const (.bool false)))])
  .ret)
  .skip)))
(.ops [.f (some 27) none (.mv (.tmp 5)),
  .f (some 28) none (.bin .add (.tmp 27) (.const (.int .i64 1))),
  .k (some 5) none (.asg (.tmp 28))])))
def c27 : Cd :=
(.seq (.ops [.k (some 2) none (.box 27 3 (.tmp 0)),
  .k (some 4) none (.asg (.const (.bool false)))])
(.seq (.seq (.opd [⟨0, .f (some 6) none (.load (some 3) (.tmp 2)), []⟩,
  ⟨1, .k (some 7) none (.call 21 [(.tmp 6)]), []⟩,
  ⟨2, .f (some 8) none (.bin .neq (.tmp 7) (.const (.int .i64 0))), []⟩,
  ⟨3, .f (some 9) none (.mv (.tmp 8)), []⟩,
  ⟨4, .f (some 10) (some (9, false)) (.mv (.tmp 1)), []⟩,
  ⟨5, .f (some 11) (some (9, false)) (.len (.tmp 10)), []⟩,
  ⟨6, .f (some 12) (some (9, false)) (.bin .eql (.tmp 11) (.const (.int .i64 0))), []⟩,
  ⟨7, .f (some 13) none (.pick (.tmp 9) (.const (.bool true)) (.tmp 12)), []⟩,
  ⟨8, .f (some 14) none (.mv (.tmp 13)), []⟩,
  ⟨9, .f (some 15) (some (14, false)) (.faddr 0 (.tmp 2)), []⟩,
  ⟨10, .f (some 16) (some (14, false)) (.load none (.tmp 15)), []⟩,
  ⟨11, .f (some 17) (some (14, false)) (.mv (.tmp 1)), []⟩,
  ⟨12, .f (some 18) (some (14, false)) (.iaddr 2 none (.tmp 17) (.const (.int .i64 0))), []⟩,
  ⟨13, .f (some 19) (some (14, false)) (.load (some 2) (.tmp 18)), []⟩,
  ⟨14, .k (some 20) (some (14, false)) (.call 15 [(.tmp 16), (.tmp 19)]), []⟩,
  ⟨15, .f (some 21) (some (14, false)) (.un .not (.tmp 20)), []⟩,
  ⟨16, .f (some 22) none (.pick (.tmp 14) (.const (.bool true)) (.tmp 21)), []⟩])
(.cond (.tmp 22)
 (.seq (.ops [.k (some 4) none (.asg (.const (.bool false)))])
 .ret)
 .skip))
(.seq (.seq (.ops [.k (some 5) none (.asg (.const (.int .i64 1)))])
(.block 0
 (.loop c27_0)))
(.seq (.ops [.k (some 4) none (.asg (.const (.bool true)))])
.ret))))
theorem fn27 : FnOK Try.prog 27 43 c27 [.tmp 4] := .of (by kernel_rfl)
/-! 'dynpos/dynposref26.Proves' -/
def c28_0 : Cd :=
(.block 3
 (.seq (.ops [.f (some 37) none (.iaddr 4 none (.tmp 33) (.tmp 35)),
   .f (some 38) none (.load (some 4) (.tmp 37)),
   .k (some 8) none (.alloc 60 [(.int .i64 0), (.int .i64 0), (.int .i64 0), (.int .i64 0)]),
   .k none none (.store 4 (.tmp 8) (.tmp 38))])
 (.opd [⟨0, .f (some 39) none (.mv (.tmp 6)), []⟩,
   ⟨1, .f (some 40) none (.mv (.tmp 39)), []⟩,
   ⟨2, .f (some 41) (some (40, false)) (.faddr 0 (.tmp 8)), []⟩,
   ⟨3, .f (some 42) (some (40, false)) (.load (some 2) (.tmp 41)), []⟩,
   ⟨4, .f (some 43) (some (40, false)) (.mv (.tmp 1)), []⟩,
   ⟨5, .f (some 44) (some (40, false)) (.mv (.tmp 5)), []⟩,
   ⟨6, .f (some 45) (some (40, false)) (.bin .sub (.tmp 44) (.const (.int .i64 1))), []⟩,
   ⟨7, .f (some 46) (some (40, false)) (.iaddr 2 none (.tmp 43) (.tmp 45)), []⟩,
   ⟨8, .f (some 47) (some (40, false)) (.load (some 2) (.tmp 46)), []⟩,
   ⟨9, .f (some 48) (some (40, false)) (.eql false (.st [(0, none, .num), (1, none, .num)]) (.tmp 42) (.tmp 47)), []⟩,
   ⟨10, .f (some 49) (some (40, false)) (.mv (.tmp 48)), []⟩,
   ⟨11, .f (some 50) (some (49, true)) (.faddr 2 (.tmp 8)), []⟩,
   ⟨12, .f (some 51) (some (49, true)) (.load (some 2) (.tmp 50)), []⟩,
   ⟨13, .f (some 52) (some (49, true)) (.mv (.tmp 1)), []⟩,
   ⟨14, .f (some 53) (some (49, true)) (.mv (.tmp 5)), []⟩,
   ⟨15, .f (some 54) (some (49, true)) (.iaddr 2 none (.tmp 52) (.tmp 53)), []⟩,
   ⟨16, .f (some 55) (some (49, true)) (.load (some 2) (.tmp 54)), []⟩,
   ⟨17, .f (some 56) (some (49, true)) (.eql false (.st [(0, none, .num), (1, none, .num)]) (.tmp 51) (.tmp 55)), []⟩,
   ⟨18, .f (some 57) (some (40, false)) (.pick (.tmp 49) (.tmp 56) (.const (.bool false))), []⟩,
   ⟨19, .f (some 58) none (.pick (.tmp 40) (.const (.bool true)) (.tmp 57)), []⟩,
   ⟨20, .k (some 6) none (.asg (.tmp 58)), []⟩])))
def c28_1 : Cd :=
(.seq (.seq (.ops [.f (some 26) none (.mv (.tmp 5)),
  .f (some 27) none (.mv (.tmp 1)),
  .f (some 28) none (.len (.tmp 27)),
  .f (some 29) none (.bin .lss (.tmp 26) (.tmp 28))])
(.cond (.tmp 29)
 .skip
 (.exit 0)))
(.seq (.block 1
 (.seq (.ops [.k (some 6) none (.asg (.const (.bool false)))])
 (.seq (.seq (.ops [.f (some 32) none (.faddr 1 (.tmp 2)),
   .f (some 33) none (.load none (.tmp 32)),
   .f (some 34) none (.len (.tmp 33)),
   .f (some 35) none (.mv (.const (.int .i64 0)))])
 (rangeC 2 35 34 36 59 c28_0))
 (.seq (.ops [.f (some 60) none (.mv (.tmp 6)),
   .f (some 61) none (.un .not (.tmp 60))])
 (.cond (.tmp 61)
  (.seq (.ops [.k (some 4) none (.asg (.const (.bool false)))])
  .ret)
  .skip)))))
(.ops [.f (some 30) none (.mv (.tmp 5)),
  .f (some 31) none (.bin .add (.tmp 30) (.const (.int .i64 1))),
  .k (some 5) none (.asg (.tmp 31))])))
def c28 : Cd :=
(.seq (.ops [.k (some 2) none (.box 27 3 (.tmp 0)),
  .k (some 4) none (.asg (.const (.bool false)))])
(.seq (.seq (.opd [⟨0, .f (some 9) none (.load (some 3) (.tmp 2)), []⟩,
  ⟨1, .k (some 10) none (.call 22 [(.tmp 9)]), []⟩,
  ⟨2, .f (some 11) none (.bin .neq (.tmp 10) (.const (.int .i64 0))), []⟩,
  ⟨3, .f (some 12) none (.mv (.tmp 11)), []⟩,
  ⟨4, .f (some 13) (some (12, false)) (.mv (.tmp 1)), []⟩,
  ⟨5, .f (some 14) (some (12, false)) (.len (.tmp 13)), []⟩,
  ⟨6, .f (some 15) (some (12, false)) (.bin .eql (.tmp 14) (.const (.int .i64 0))), []⟩,
  ⟨7, .f (some 16) none (.pick (.tmp 12) (.const (.bool true)) (.tmp 15)), []⟩,
  ⟨8, .f (some 17) none (.mv (.tmp 16)), []⟩,
  ⟨9, .f (some 18) (some (17, false)) (.faddr 0 (.tmp 2)), []⟩,
  ⟨10, .f (some 19) (some (17, false)) (.load none (.tmp 18)), []⟩,
  ⟨11, .f (some 20) (some (17, false)) (.mv (.tmp 1)), []⟩,
  ⟨12, .f (some 21) (some (17, false)) (.iaddr 2 none (.tmp 20) (.const (.int .i64 0))), []⟩,
  ⟨13, .f (some 22) (some (17, false)) (.load (some 2) (.tmp 21)), []⟩,
  ⟨14, .k (some 23) (some (17, false)) (.call 16 [(.tmp 19), (.tmp 22)]), []⟩,
  ⟨15, .f (some 24) (some (17, false)) (.un .not (.tmp 23)), []⟩,
  ⟨16, .f (some 25) none (.pick (.tmp 17) (.const (.bool true)) (.tmp 24)), []⟩])
(.cond (.tmp 25)
 (.seq (.ops [.k (some 4) none (.asg (.const (.bool false)))])
 .ret)
 .skip))
(.seq (.seq (.ops [.k (some 5) none (.asg (.const (.int .i64 1)))])
(.block 0
 (.loop c28_1)))
(.seq (.ops [.k (some 4) none (.asg (.const (.bool true)))])
.ret))))
theorem fn28 : FnOK Try.prog 28 62 c28 [.tmp 4] := .of (by kernel_rfl)
/-! '(*dynpos/dynposmake.Src).Part' -/
def c29 : Cd :=
(.seq (.ops [.k (some 2) none (.alloc 29 [(.int .i64 0), (.int .i64 0)])])
(.seq (.ops [.f (some 3) none (.mv (.tmp 0)),
  .k (some 4) none (.call 50 [(.tmp 3), (.const (.int .i64 1)), (.const (.int .i64 9))]),
  .f (some 5) none (.mv (.tmp 0)),
  .k (some 6) none (.call 32 [(.tmp 5), (.const (.int .i64 4))]),
  .f (some 7) none (.build [(.int .i64 0), (.int .i64 0)] [(0, 1, (.tmp 4)), (1, 1, (.tmp 6))]),
  .k none none (.store 2 (.tmp 2) (.tmp 7))])
.ret))
theorem fn29 : FnOK Try.prog 29 8 c29 [.cell 2 (some 2)] := .of (by kernel_rfl)
/-! 'dynpos/design.Chain' -/
def c30_0 : Cd :=
(.block 3
 (.seq (.ops [.f (some 57) none (.iaddr 4 none (.tmp 53) (.tmp 55)),
   .f (some 58) none (.load (some 4) (.tmp 57)),
   .k (some 14) none (.alloc 60 [(.int .i64 0), (.int .i64 0), (.int .i64 0), (.int .i64 0)]),
   .k none none (.store 4 (.tmp 14) (.tmp 58))])
 (.seq (.ops [.f (some 60) none (.mv (.tmp 8)),
   .f (some 61) none (.faddr 2 (.tmp 14)),
   .f (some 62) none (.load (some 2) (.tmp 61)),
   .k (some 63) none (.gen (.mget 83 true) [(.tmp 60), (.tmp 62)]),
   .f (some 59) none (.mv (.tmp 63)),
   .f (some 64) none (.extract 0 (.tmp 59)),
   .f (some 65) none (.extract 1 (.tmp 59)),
   .k (some 15) none (.asg (.tmp 64)),
   .k (some 16) none (.asg (.tmp 65))])
 (.seq (.ops [.f (some 66) none (.faddr 0 (.tmp 14)),
   .f (some 67) none (.load (some 2) (.tmp 66)),
   .f (some 68) none (.load (some 2) (.tmp 12)),
   .f (some 69) none (.eql false (.st [(0, none, .num), (1, none, .num)]) (.tmp 67) (.tmp 68)),
   .f (some 70) none (.mv (.tmp 69)),
   .f (some 71) (some (70, true)) (.mv (.tmp 16)),
   .f (some 72) none (.pick (.tmp 70) (.tmp 71) (.const (.bool false))),
   .f (some 73) none (.mv (.tmp 72)),
   .f (some 74) (some (73, true)) (.mv (.tmp 15)),
   .f (some 75) (some (73, true)) (.mv (.tmp 9)),
   .f (some 76) (some (73, true)) (.bin .sub (.tmp 75) (.const (.int .i64 1))),
   .f (some 77) (some (73, true)) (.bin .eql (.tmp 74) (.tmp 76)),
   .f (some 78) none (.pick (.tmp 73) (.tmp 77) (.const (.bool false)))])
 (.cond (.tmp 78)
  (.seq (.ops [.f (some 79) none (.faddr 2 (.tmp 14)),
    .f (some 80) none (.load (some 2) (.tmp 79)),
    .k none none (.store 2 (.tmp 12) (.tmp 80))])
  (.exit 2))
  .skip)))))
def c30_1 : Cd :=
(.seq (.seq (.ops [.f (some 48) none (.mv (.tmp 9)),
  .f (some 49) none (.bin .gtr (.tmp 48) (.const (.int .i64 0)))])
(.cond (.tmp 49)
 .skip
 (.exit 0)))
(.seq (.block 1
 (.seq (.seq (.ops [.f (some 52) none (.faddr 1 (.tmp 3)),
   .f (some 53) none (.load none (.tmp 52)),
   .f (some 54) none (.len (.tmp 53)),
   .f (some 55) none (.mv (.const (.int .i64 0)))])
 (rangeC 2 55 54 56 81 c30_0))
 (.ops [.f (some 82) none (.mv (.tmp 11)),
   .f (some 83) none (.load (some 2) (.tmp 12)),
   .k (some 84) none (.bslice 29 2 1 [(.int .i64 0), (.int .i64 0)] [(0, 2, (.tmp 83))]),
   .k (some 85) none (.append 29 2 16 (.tmp 82) (.tmp 84)),
   .k (some 11) none (.asg (.tmp 85))])))
(.seq (.seq (.ops [.f (some 86) none (.load (some 2) (.tmp 12))])
(.ops [.k (some 12) none (.alloc 29 [(.int .i64 0), (.int .i64 0)]),
  .k none none (.store 2 (.tmp 12) (.tmp 86))]))
(.ops [.f (some 50) none (.mv (.tmp 9)),
  .f (some 51) none (.bin .sub (.tmp 50) (.const (.int .i64 1))),
  .k (some 9) none (.asg (.tmp 51))]))))
def c30 : Cd :=
(.seq (.ops [.k (some 3) none (.box 27 3 (.tmp 0)),
  .k (some 4) none (.box 29 2 (.tmp 1)),
  .k (some 5) none (.box 29 2 (.tmp 2)),
  .k (some 6) none (.asg (.const (.slice none 0 0))),
  .k (some 7) none (.asg (.const (.bool false)))])
(.seq (.seq (.ops [.f (some 17) none (.load (some 3) (.tmp 3)),
  .k (some 18) none (.call 21 [(.tmp 17)]),
  .f (some 19) none (.bin .neq (.tmp 18) (.const (.int .i64 0))),
  .f (some 20) none (.mv (.tmp 19)),
  .f (some 21) (some (20, false)) (.faddr 0 (.tmp 3)),
  .f (some 22) (some (20, false)) (.load none (.tmp 21)),
  .f (some 23) (some (20, false)) (.load (some 2) (.tmp 4)),
  .k (some 24) (some (20, false)) (.call 15 [(.tmp 22), (.tmp 23)]),
  .f (some 25) (some (20, false)) (.un .not (.tmp 24)),
  .f (some 26) none (.pick (.tmp 20) (.const (.bool true)) (.tmp 25)),
  .f (some 27) none (.mv (.tmp 26)),
  .f (some 28) (some (27, false)) (.faddr 0 (.tmp 3)),
  .f (some 29) (some (27, false)) (.load none (.tmp 28)),
  .f (some 30) (some (27, false)) (.load (some 2) (.tmp 5)),
  .k (some 31) (some (27, false)) (.call 15 [(.tmp 29), (.tmp 30)]),
  .f (some 32) (some (27, false)) (.un .not (.tmp 31)),
  .f (some 33) none (.pick (.tmp 27) (.const (.bool true)) (.tmp 32))])
(.cond (.tmp 33)
 (.seq (.ops [.k (some 6) none (.asg (.const (.slice none 0 0))),
   .k (some 7) none (.asg (.const (.bool false)))])
 .ret)
 .skip))
(.seq (.ops [.f (some 34) none (.load (some 3) (.tmp 3)),
  .f (some 35) none (.load (some 2) (.tmp 5)),
  .k (some 36) none (.call 58 [(.tmp 34), (.tmp 35)]),
  .k (some 8) none (.asg (.tmp 36))])
(.seq (.ops [.f (some 38) none (.mv (.tmp 8)),
  .f (some 39) none (.load (some 2) (.tmp 4)),
  .k (some 40) none (.gen (.mget 83 true) [(.tmp 38), (.tmp 39)]),
  .f (some 37) none (.mv (.tmp 40)),
  .f (some 41) none (.extract 0 (.tmp 37)),
  .f (some 42) none (.extract 1 (.tmp 37)),
  .k (some 9) none (.asg (.tmp 41)),
  .k (some 10) none (.asg (.tmp 42))])
(.seq (.seq (.ops [.f (some 43) none (.mv (.tmp 10)),
  .f (some 44) none (.un .not (.tmp 43))])
(.cond (.tmp 44)
 (.seq (.ops [.k (some 6) none (.asg (.const (.slice none 0 0))),
   .k (some 7) none (.asg (.const (.bool false)))])
 .ret)
 .skip))
(.seq (.ops [.f (some 45) none (.load (some 2) (.tmp 4)),
  .k (some 46) none (.bslice 29 2 1 [(.int .i64 0), (.int .i64 0)] [(0, 2, (.tmp 45))]),
  .k (some 11) none (.asg (.tmp 46))])
(.seq (.seq (.ops [.f (some 47) none (.load (some 2) (.tmp 4)),
  .k (some 12) none (.alloc 29 [(.int .i64 0), (.int .i64 0)]),
  .k none none (.store 2 (.tmp 12) (.tmp 47))])
(.block 0
 (.loop c30_1)))
(.seq (.ops [.f (some 87) none (.mv (.tmp 11)),
  .k (some 6) none (.asg (.tmp 87)),
  .k (some 7) none (.asg (.const (.bool true)))])
.ret))))))))
theorem fn30 : FnOK Try.prog 30 88 c30 [.tmp 6, .tmp 7] := .of (by kernel_rfl)
/-! 'dynpos/dynposref26.Chain' -/
def c31_0 : Cd :=
(.block 3
 (.seq (.ops [.f (some 55) none (.iaddr 4 none (.tmp 51) (.tmp 53)),
   .f (some 56) none (.load (some 4) (.tmp 55)),
   .k (some 12) none (.alloc 60 [(.int .i64 0), (.int .i64 0), (.int .i64 0), (.int .i64 0)]),
   .k none none (.store 4 (.tmp 12) (.tmp 56))])
 (.seq (.ops [.f (some 57) none (.faddr 0 (.tmp 3)),
   .f (some 58) none (.load none (.tmp 57)),
   .f (some 59) none (.faddr 2 (.tmp 12)),
   .f (some 60) none (.load (some 2) (.tmp 59)),
   .k (some 61) none (.call 60 [(.tmp 58), (.tmp 60)]),
   .k (some 13) none (.asg (.tmp 61))])
 (.seq (.opd [⟨0, .f (some 62) none (.faddr 0 (.tmp 12)), []⟩,
   ⟨1, .f (some 63) none (.load (some 2) (.tmp 62)), []⟩,
   ⟨2, .f (some 64) none (.faddr 0 (.tmp 3)), []⟩,
   ⟨3, .f (some 65) none (.load none (.tmp 64)), []⟩,
   ⟨4, .f (some 66) none (.mv (.tmp 9)), []⟩,
   ⟨5, .f (some 67) none (.iaddr 2 none (.tmp 65) (.tmp 66)), []⟩,
   ⟨6, .f (some 68) none (.load (some 2) (.tmp 67)), []⟩,
   ⟨7, .f (some 69) none (.eql false (.st [(0, none, .num), (1, none, .num)]) (.tmp 63) (.tmp 68)), []⟩,
   ⟨8, .f (some 70) none (.mv (.tmp 69)), []⟩,
   ⟨9, .f (some 71) (some (70, true)) (.mv (.tmp 8)), []⟩,
   ⟨10, .f (some 72) (some (70, true)) (.mv (.tmp 13)), []⟩,
   ⟨11, .f (some 73) (some (70, true)) (.iaddr 1 none (.tmp 71) (.tmp 72)), []⟩,
   ⟨12, .f (some 74) (some (70, true)) (.load none (.tmp 73)), []⟩,
   ⟨13, .f (some 75) (some (70, true)) (.mv (.tmp 8)), []⟩,
   ⟨14, .f (some 76) (some (70, true)) (.mv (.tmp 9)), []⟩,
   ⟨15, .f (some 77) (some (70, true)) (.iaddr 1 none (.tmp 75) (.tmp 76)), []⟩,
   ⟨16, .f (some 78) (some (70, true)) (.load none (.tmp 77)), []⟩,
   ⟨17, .f (some 79) (some (70, true)) (.bin .sub (.tmp 78) (.const (.int .i64 1))), []⟩,
   ⟨18, .f (some 80) (some (70, true)) (.bin .eql (.tmp 74) (.tmp 79)), []⟩,
   ⟨19, .f (some 81) none (.pick (.tmp 70) (.tmp 80) (.const (.bool false))), []⟩])
 (.cond (.tmp 81)
  (.seq (.ops [.f (some 82) none (.mv (.tmp 13)),
    .k (some 9) none (.asg (.tmp 82))])
  (.exit 2))
  .skip)))))
def c31_1 : Cd :=
(.seq (.seq (.ops [.f (some 45) none (.mv (.tmp 8)),
  .f (some 46) none (.mv (.tmp 9)),
  .f (some 47) none (.iaddr 1 none (.tmp 45) (.tmp 46)),
  .f (some 48) none (.load none (.tmp 47)),
  .f (some 49) none (.bin .gtr (.tmp 48) (.const (.int .i64 0)))])
(.cond (.tmp 49)
 .skip
 (.exit 0)))
(.block 1
 (.seq (.seq (.ops [.f (some 50) none (.faddr 1 (.tmp 3)),
   .f (some 51) none (.load none (.tmp 50)),
   .f (some 52) none (.len (.tmp 51)),
   .f (some 53) none (.mv (.const (.int .i64 0)))])
 (rangeC 2 53 52 54 83 c31_0))
 (.ops [.f (some 84) none (.mv (.tmp 10)),
   .f (some 85) none (.faddr 0 (.tmp 3)),
   .f (some 86) none (.load none (.tmp 85)),
   .f (some 87) none (.mv (.tmp 9)),
   .f (some 88) none (.iaddr 2 none (.tmp 86) (.tmp 87)),
   .f (some 89) none (.load (some 2) (.tmp 88)),
   .k (some 90) none (.bslice 29 2 1 [(.int .i64 0), (.int .i64 0)] [(0, 2, (.tmp 89))]),
   .k (some 91) none (.append 29 2 16 (.tmp 84) (.tmp 90)),
   .k (some 10) none (.asg (.tmp 91))]))))
def c31 : Cd :=
(.seq (.ops [.k (some 3) none (.box 27 3 (.tmp 0)),
  .k (some 4) none (.box 29 2 (.tmp 1)),
  .k (some 5) none (.box 29 2 (.tmp 2)),
  .k (some 6) none (.asg (.const (.slice none 0 0))),
  .k (some 7) none (.asg (.const (.bool false)))])
(.seq (.seq (.ops [.f (some 14) none (.load (some 3) (.tmp 3)),
  .k (some 15) none (.call 22 [(.tmp 14)]),
  .f (some 16) none (.bin .neq (.tmp 15) (.const (.int .i64 0))),
  .f (some 17) none (.mv (.tmp 16)),
  .f (some 18) (some (17, false)) (.faddr 0 (.tmp 3)),
  .f (some 19) (some (17, false)) (.load none (.tmp 18)),
  .f (some 20) (some (17, false)) (.load (some 2) (.tmp 4)),
  .k (some 21) (some (17, false)) (.call 16 [(.tmp 19), (.tmp 20)]),
  .f (some 22) (some (17, false)) (.un .not (.tmp 21)),
  .f (some 23) none (.pick (.tmp 17) (.const (.bool true)) (.tmp 22)),
  .f (some 24) none (.mv (.tmp 23)),
  .f (some 25) (some (24, false)) (.faddr 0 (.tmp 3)),
  .f (some 26) (some (24, false)) (.load none (.tmp 25)),
  .f (some 27) (some (24, false)) (.load (some 2) (.tmp 5)),
  .k (some 28) (some (24, false)) (.call 16 [(.tmp 26), (.tmp 27)]),
  .f (some 29) (some (24, false)) (.un .not (.tmp 28)),
  .f (some 30) none (.pick (.tmp 24) (.const (.bool true)) (.tmp 29))])
(.cond (.tmp 30)
 (.seq (.ops [.k (some 6) none (.asg (.const (.slice none 0 0))),
   .k (some 7) none (.asg (.const (.bool false)))])
 .ret)
 .skip))
(.seq (.ops [.f (some 31) none (.load (some 3) (.tmp 3)),
  .f (some 32) none (.load (some 2) (.tmp 5)),
  .k (some 33) none (.call 59 [(.tmp 31), (.tmp 32)]),
  .k (some 8) none (.asg (.tmp 33))])
(.seq (.ops [.f (some 34) none (.faddr 0 (.tmp 3)),
  .f (some 35) none (.load none (.tmp 34)),
  .f (some 36) none (.load (some 2) (.tmp 4)),
  .k (some 37) none (.call 60 [(.tmp 35), (.tmp 36)]),
  .k (some 9) none (.asg (.tmp 37))])
(.seq (.seq (.ops [.f (some 38) none (.mv (.tmp 8)),
  .f (some 39) none (.mv (.tmp 9)),
  .f (some 40) none (.iaddr 1 none (.tmp 38) (.tmp 39)),
  .f (some 41) none (.load none (.tmp 40)),
  .f (some 42) none (.bin .lss (.tmp 41) (.const (.int .i64 0)))])
(.cond (.tmp 42)
 (.seq (.ops [.k (some 6) none (.asg (.const (.slice none 0 0))),
   .k (some 7) none (.asg (.const (.bool false)))])
 .ret)
 .skip))
(.seq (.ops [.f (some 43) none (.load (some 2) (.tmp 4)),
  .k (some 44) none (.bslice 29 2 1 [(.int .i64 0), (.int .i64 0)] [(0, 2, (.tmp 43))]),
  .k (some 10) none (.asg (.tmp 44))])
(.seq (.block 0
 (.loop c31_1))
(.seq (.ops [.f (some 92) none (.mv (.tmp 10)),
  .k (some 6) none (.asg (.tmp 92)),
  .k (some 7) none (.asg (.const (.bool true)))])
.ret))))))))
theorem fn31 : FnOK Try.prog 31 93 c31 [.tmp 6, .tmp 7] := .of (by kernel_rfl)
/-! '(*dynpos/dynposmake.Src).N' -/
def c32 : Cd :=
(.seq (.ops [.k (some 4) none (.asg (.const (.int .i64 0)))])
(.seq (.seq (.opd [⟨0, .f (some 5) none (.mv (.tmp 0)), []⟩,
  ⟨1, .f (some 6) none (.nilc (.tmp 5)), []⟩,
  ⟨2, .f (some 7) none (.faddr 1 (.tmp 6)), []⟩,
  ⟨3, .f (some 8) none (.load none (.tmp 7)), []⟩,
  ⟨4, .f (some 9) none (.mv (.tmp 0)), []⟩,
  ⟨5, .f (some 10) none (.nilc (.tmp 9)), []⟩,
  ⟨6, .f (some 11) none (.faddr 0 (.tmp 10)), []⟩,
  ⟨7, .f (some 12) none (.load none (.tmp 11)), []⟩,
  ⟨8, .f (some 13) none (.len (.tmp 12)), []⟩,
  ⟨9, .f (some 14) none (.bin .geq (.tmp 8) (.tmp 13)), []⟩])
(.cond (.tmp 14)
 (.seq (.ops [.k (some 4) none (.asg (.const (.int .i64 0)))])
 .ret)
 .skip))
(.seq (.ops [.f (some 15) none (.mv (.tmp 0)),
  .f (some 16) none (.nilc (.tmp 15)),
  .f (some 17) none (.faddr 1 (.tmp 16)),
  .f (some 18) none (.load none (.tmp 17)),
  .f (some 19) none (.bin .add (.tmp 18) (.const (.int .i64 1))),
  .f (some 20) none (.nilc (.tmp 15)),
  .f (some 21) none (.faddr 1 (.tmp 20)),
  .k none none (.store 1 (.tmp 21) (.tmp 19))])
(.seq (.opd [⟨0, .f (some 22) none (.mv (.tmp 0)), []⟩,
  ⟨1, .f (some 23) none (.nilc (.tmp 22)), []⟩,
  ⟨2, .f (some 24) none (.faddr 0 (.tmp 23)), []⟩,
  ⟨3, .f (some 25) none (.load none (.tmp 24)), []⟩,
  ⟨4, .f (some 26) none (.mv (.tmp 0)), []⟩,
  ⟨5, .f (some 27) none (.nilc (.tmp 26)), []⟩,
  ⟨6, .f (some 28) none (.faddr 1 (.tmp 27)), []⟩,
  ⟨7, .f (some 29) none (.load none (.tmp 28)), []⟩,
  ⟨8, .f (some 30) none (.bin .sub (.tmp 29) (.const (.int .i64 1))), []⟩,
  ⟨9, .f (some 31) none (.iaddr 1 none (.tmp 25) (.tmp 30)), []⟩,
  ⟨10, .f (some 32) none (.load none (.tmp 31)), []⟩,
  ⟨11, .f (some 33) none (.mv (.tmp 1)), []⟩,
  ⟨12, .k (some 34) none (.call 61 [(.tmp 32), (.tmp 33)]), []⟩,
  ⟨13, .k (some 4) none (.asg (.tmp 34)), []⟩])
.ret))))
theorem fn32 : FnOK Try.prog 32 35 c32 [.tmp 4] := .of (by kernel_rfl)
/-! 'dynpos/design.Common' -/
def c33_0 : Cd :=
(.block 1
 (.seq (.ops [.f (some 47) none (.iaddr 2 none (.tmp 43) (.tmp 45)),
   .f (some 48) none (.load (some 2) (.tmp 47)),
   .k (some 9) none (.alloc 29 [(.int .i64 0), (.int .i64 0)]),
   .k none none (.store 2 (.tmp 9) (.tmp 48))])
 (.seq (.ops [.f (some 49) none (.load (some 3) (.tmp 3)),
   .f (some 50) none (.load (some 2) (.tmp 9)),
   .k (some 51) none (.bslice 29 2 1 [(.int .i64 0), (.int .i64 0)] [(0, 2, (.tmp 50))]),
   .k (some 52) none (.call 25 [(.tmp 49), (.tmp 51)]),
   .k (some 10) none (.alloc 23 [(.slice none 0 0)]),
   .k none none (.store 1 (.tmp 10) (.tmp 52))])
 (.seq (.ops [.f (some 53) none (.mkfn 62 [] [(.tmp 3), (.tmp 10)]),
   .k (some 11) none (.asg (.tmp 53))])
 (.seq (.ops [.f (some 54) none (.mv (.tmp 11)),
   .f (some 55) none (.mv (.tmp 1)),
   .k (some 56) none (.callv (.tmp 54) [(.tmp 55)]),
   .f (some 57) none (.mv (.tmp 56)),
   .f (some 58) (some (57, true)) (.mv (.tmp 11)),
   .f (some 59) (some (57, true)) (.mv (.tmp 2)),
   .k (some 60) (some (57, true)) (.callv (.tmp 58) [(.tmp 59)]),
   .f (some 61) none (.pick (.tmp 57) (.tmp 60) (.const (.bool false)))])
 (.cond (.tmp 61)
  (.ops [.f (some 62) none (.mv (.tmp 7)),
    .f (some 63) none (.load (some 2) (.tmp 9)),
    .k (some 64) none (.bslice 29 2 1 [(.int .i64 0), (.int .i64 0)] [(0, 2, (.tmp 63))]),
    .k (some 65) none (.append 29 2 16 (.tmp 62) (.tmp 64)),
    .k (some 7) none (.asg (.tmp 65))])
  .skip))))))
def c33 : Cd :=
(.seq (.ops [.k (some 3) none (.box 27 3 (.tmp 0)),
  .k (some 6) none (.asg (.const (.slice none 0 0)))])
(.seq (.seq (.ops [.f (some 12) none (.load (some 3) (.tmp 3)),
  .k (some 13) none (.call 21 [(.tmp 12)]),
  .f (some 14) none (.bin .neq (.tmp 13) (.const (.int .i64 0))),
  .f (some 15) none (.mv (.tmp 14)),
  .f (some 16) (some (15, false)) (.mv (.tmp 1)),
  .f (some 17) (some (15, false)) (.bin .lss (.tmp 16) (.const (.int .i64 0))),
  .f (some 18) none (.pick (.tmp 15) (.const (.bool true)) (.tmp 17)),
  .f (some 19) none (.mv (.tmp 18)),
  .f (some 20) (some (19, false)) (.mv (.tmp 1)),
  .f (some 21) (some (19, false)) (.faddr 2 (.tmp 3)),
  .f (some 22) (some (19, false)) (.load none (.tmp 21)),
  .f (some 23) (some (19, false)) (.len (.tmp 22)),
  .f (some 24) (some (19, false)) (.bin .geq (.tmp 20) (.tmp 23)),
  .f (some 25) none (.pick (.tmp 19) (.const (.bool true)) (.tmp 24)),
  .f (some 26) none (.mv (.tmp 25)),
  .f (some 27) (some (26, false)) (.mv (.tmp 2)),
  .f (some 28) (some (26, false)) (.bin .lss (.tmp 27) (.const (.int .i64 0))),
  .f (some 29) none (.pick (.tmp 26) (.const (.bool true)) (.tmp 28)),
  .f (some 30) none (.mv (.tmp 29)),
  .f (some 31) (some (30, false)) (.mv (.tmp 2)),
  .f (some 32) (some (30, false)) (.faddr 2 (.tmp 3)),
  .f (some 33) (some (30, false)) (.load none (.tmp 32)),
  .f (some 34) (some (30, false)) (.len (.tmp 33)),
  .f (some 35) (some (30, false)) (.bin .geq (.tmp 31) (.tmp 34)),
  .f (some 36) none (.pick (.tmp 30) (.const (.bool true)) (.tmp 35)),
  .f (some 37) none (.mv (.tmp 36)),
  .f (some 38) (some (37, false)) (.mv (.tmp 1)),
  .f (some 39) (some (37, false)) (.mv (.tmp 2)),
  .f (some 40) (some (37, false)) (.bin .eql (.tmp 38) (.tmp 39)),
  .f (some 41) none (.pick (.tmp 37) (.const (.bool true)) (.tmp 40))])
(.cond (.tmp 41)
 (.seq (.ops [.k (some 6) none (.asg (.const (.slice none 0 0)))])
 .ret)
 .skip))
(.seq (.ops [.k (some 7) none (.asg (.const (.slice none 0 0)))])
(.seq (.seq (.ops [.f (some 42) none (.faddr 0 (.tmp 3)),
  .f (some 43) none (.load none (.tmp 42)),
  .f (some 44) none (.len (.tmp 43)),
  .f (some 45) none (.mv (.const (.int .i64 0)))])
(rangeC 0 45 44 46 66 c33_0))
(.seq (.ops [.f (some 67) none (.mv (.tmp 7)),
  .k (some 6) none (.asg (.tmp 67))])
.ret)))))
theorem fn33 : FnOK Try.prog 33 68 c33 [.tmp 6] := .of (by kernel_rfl)
/-! 'dynpos/dynposref26.Common' -/
def c34_0 : Cd :=
(.block 1
 (.seq (.ops [.f (some 46) none (.iaddr 2 none (.tmp 42) (.tmp 44)),
   .f (some 47) none (.load (some 2) (.tmp 46)),
   .k (some 10) none (.alloc 29 [(.int .i64 0), (.int .i64 0)]),
   .k none none (.store 2 (.tmp 10) (.tmp 47))])
 (.seq (.ops [.f (some 48) none (.load (some 3) (.tmp 3)),
   .f (some 49) none (.load (some 2) (.tmp 10)),
   .k (some 50) none (.bslice 29 2 1 [(.int .i64 0), (.int .i64 0)] [(0, 2, (.tmp 49))]),
   .k (some 51) none (.call 26 [(.tmp 48), (.tmp 50)]),
   .k (some 11) none (.asg (.tmp 51))])
 (.seq (.ops [.f (some 52) none (.mv (.tmp 11)),
   .f (some 53) none (.faddr 2 (.tmp 3)),
   .f (some 54) none (.load none (.tmp 53)),
   .f (some 55) none (.mv (.tmp 1)),
   .f (some 56) none (.iaddr 2 none (.tmp 54) (.tmp 55)),
   .f (some 57) none (.faddr 1 (.tmp 56)),
   .f (some 58) none (.load none (.tmp 57)),
   .k (some 59) none (.call 64 [(.tmp 52), (.tmp 58)]),
   .f (some 60) none (.mv (.tmp 59)),
   .f (some 61) (some (60, true)) (.mv (.tmp 11)),
   .f (some 62) (some (60, true)) (.faddr 2 (.tmp 3)),
   .f (some 63) (some (60, true)) (.load none (.tmp 62)),
   .f (some 64) (some (60, true)) (.mv (.tmp 2)),
   .f (some 65) (some (60, true)) (.iaddr 2 none (.tmp 63) (.tmp 64)),
   .f (some 66) (some (60, true)) (.faddr 1 (.tmp 65)),
   .f (some 67) (some (60, true)) (.load none (.tmp 66)),
   .k (some 68) (some (60, true)) (.call 64 [(.tmp 61), (.tmp 67)]),
   .f (some 69) none (.pick (.tmp 60) (.tmp 68) (.const (.bool false)))])
 (.cond (.tmp 69)
  (.ops [.f (some 70) none (.mv (.tmp 8)),
    .f (some 71) none (.load (some 2) (.tmp 10)),
    .k (some 72) none (.bslice 29 2 1 [(.int .i64 0), (.int .i64 0)] [(0, 2, (.tmp 71))]),
    .k (some 73) none (.append 29 2 16 (.tmp 70) (.tmp 72)),
    .k (some 8) none (.asg (.tmp 73))])
  .skip)))))
def c34 : Cd :=
(.seq (.ops [.k (some 3) none (.box 27 3 (.tmp 0)),
  .k (some 6) none (.asg (.const (.slice none 0 0)))])
(.seq (.ops [.f (some 12) none (.faddr 2 (.tmp 3)),
  .f (some 13) none (.load none (.tmp 12)),
  .f (some 14) none (.len (.tmp 13)),
  .k (some 7) none (.asg (.tmp 14))])
(.seq (.seq (.ops [.f (some 15) none (.load (some 3) (.tmp 3)),
  .k (some 16) none (.call 22 [(.tmp 15)]),
  .f (some 17) none (.bin .neq (.tmp 16) (.const (.int .i64 0))),
  .f (some 18) none (.mv (.tmp 17)),
  .f (some 19) (some (18, false)) (.mv (.tmp 1)),
  .f (some 20) (some (18, false)) (.bin .lss (.tmp 19) (.const (.int .i64 0))),
  .f (some 21) none (.pick (.tmp 18) (.const (.bool true)) (.tmp 20)),
  .f (some 22) none (.mv (.tmp 21)),
  .f (some 23) (some (22, false)) (.mv (.tmp 1)),
  .f (some 24) (some (22, false)) (.mv (.tmp 7)),
  .f (some 25) (some (22, false)) (.bin .geq (.tmp 23) (.tmp 24)),
  .f (some 26) none (.pick (.tmp 22) (.const (.bool true)) (.tmp 25)),
  .f (some 27) none (.mv (.tmp 26)),
  .f (some 28) (some (27, false)) (.mv (.tmp 2)),
  .f (some 29) (some (27, false)) (.bin .lss (.tmp 28) (.const (.int .i64 0))),
  .f (some 30) none (.pick (.tmp 27) (.const (.bool true)) (.tmp 29)),
  .f (some 31) none (.mv (.tmp 30)),
  .f (some 32) (some (31, false)) (.mv (.tmp 2)),
  .f (some 33) (some (31, false)) (.mv (.tmp 7)),
  .f (some 34) (some (31, false)) (.bin .geq (.tmp 32) (.tmp 33)),
  .f (some 35) none (.pick (.tmp 31) (.const (.bool true)) (.tmp 34)),
  .f (some 36) none (.mv (.tmp 35)),
  .f (some 37) (some (36, false)) (.mv (.tmp 1)),
  .f (some 38) (some (36, false)) (.mv (.tmp 2)),
  .f (some 39) (some (36, false)) (.bin .eql (.tmp 37) (.tmp 38)),
  .f (some 40) none (.pick (.tmp 36) (.const (.bool true)) (.tmp 39))])
(.cond (.tmp 40)
 (.seq (.ops [.k (some 6) none (.asg (.const (.slice none 0 0)))])
 .ret)
 .skip))
(.seq (.ops [.k (some 8) none (.asg (.const (.slice none 0 0)))])
(.seq (.seq (.ops [.f (some 41) none (.faddr 0 (.tmp 3)),
  .f (some 42) none (.load none (.tmp 41)),
  .f (some 43) none (.len (.tmp 42)),
  .f (some 44) none (.mv (.const (.int .i64 0)))])
(rangeC 0 44 43 45 74 c34_0))
(.seq (.ops [.f (some 75) none (.mv (.tmp 8)),
  .k (some 6) none (.asg (.tmp 75))])
.ret))))))
theorem fn34 : FnOK Try.prog 34 76 c34 [.tmp 6] := .of (by kernel_rfl)
/-! 'dynpos/dynposlaw26.two' -/
def c35 : Cd :=
(.seq (.ops [.k (some 0) none (.alloc 27 [(.slice none 0 0), (.slice none 0 0), (.slice none 0 0)])])
(.seq (.ops [.f (some 4) none (.build [(.int .i64 0), (.int .i64 0)] [(0, 1, (.const (.int .i64 1)))]),
  .f (some 5) none (.build [(.int .i64 0), (.int .i64 0)] [(0, 1, (.const (.int .i64 1))), (1, 1, (.const (.int .i64 1)))]),
  .f (some 6) none (.build [(.int .i64 0), (.int .i64 0)] [(0, 1, (.const (.int .i64 9))), (1, 1, (.const (.int .i64 1)))]),
  .k (some 1) none (.alloc 29 [(.int .i64 0), (.int .i64 0)]),
  .k (some 2) none (.alloc 29 [(.int .i64 0), (.int .i64 0)]),
  .k (some 3) none (.alloc 29 [(.int .i64 0), (.int .i64 0)]),
  .k none none (.store 2 (.tmp 1) (.tmp 4)),
  .k none none (.store 2 (.tmp 2) (.tmp 5)),
  .k none none (.store 2 (.tmp 3) (.tmp 6))])
(.seq (.ops [.f (some 7) none (.load (some 2) (.tmp 1)),
  .f (some 8) none (.load (some 2) (.tmp 2)),
  .f (some 9) none (.load (some 2) (.tmp 3)),
  .k (some 10) none (.bslice 29 2 3 [(.int .i64 0), (.int .i64 0)] [(0, 2, (.tmp 7)), (2, 2, (.tmp 8)), (4, 2, (.tmp 9))]),
  .f (some 11) none (.load (some 2) (.tmp 3)),
  .f (some 12) none (.load (some 2) (.tmp 1)),
  .f (some 13) none (.build [(.int .i64 0), (.int .i64 0), (.int .i64 0), (.int .i64 0)] [(0, 2, (.tmp 11)), (2, 2, (.tmp 12))]),
  .f (some 14) none (.load (some 2) (.tmp 3)),
  .f (some 15) none (.load (some 2) (.tmp 2)),
  .f (some 16) none (.build [(.int .i64 0), (.int .i64 0), (.int .i64 0), (.int .i64 0)] [(0, 2, (.tmp 14)), (2, 2, (.tmp 15))]),
  .k (some 17) none (.bslice 60 4 2 [(.int .i64 0), (.int .i64 0), (.int .i64 0), (.int .i64 0)] [(0, 4, (.tmp 13)), (4, 4, (.tmp 16))]),
  .f (some 18) none (.load (some 2) (.tmp 1)),
  .k (some 19) none (.bslice 29 2 1 [(.int .i64 0), (.int .i64 0)] [(0, 2, (.tmp 18))]),
  .f (some 20) none (.build [(.string ⟨#[]⟩), (.slice none 0 0)] [(0, 1, (.const (.string ⟨#[112, 111, 114, 116]⟩))), (1, 1, (.tmp 19))]),
  .f (some 21) none (.load (some 2) (.tmp 2)),
  .k (some 22) none (.bslice 29 2 1 [(.int .i64 0), (.int .i64 0)] [(0, 2, (.tmp 21))]),
  .f (some 23) none (.build [(.string ⟨#[]⟩), (.slice none 0 0)] [(0, 1, (.const (.string ⟨#[115, 116, 97, 114, 98, 111, 97, 114, 100]⟩))), (1, 1, (.tmp 22))]),
  .k (some 24) none (.bslice 32 2 2 [(.string ⟨#[]⟩), (.slice none 0 0)] [(0, 2, (.tmp 20)), (2, 2, (.tmp 23))]),
  .f (some 25) none (.build [(.slice none 0 0), (.slice none 0 0), (.slice none 0 0)] [(0, 1, (.tmp 10)), (1, 1, (.tmp 17)), (2, 1, (.tmp 24))]),
  .k none none (.store 3 (.tmp 0) (.tmp 25))])
.ret)))
theorem fn35 : FnOK Try.prog 35 26 c35 [.cell 0 (some 3)] := .of (by kernel_rfl)
/-! '(*dynpos/dynposmake.Src).linked' -/
def c36_0 : Cd :=
(.block 3
 (.seq (.ops [.f (some 20) none (.iaddr 2 none (.tmp 16) (.tmp 18)),
   .f (some 21) none (.load (some 2) (.tmp 20)),
   .k (some 9) none (.alloc 29 [(.int .i64 0), (.int .i64 0)]),
   .k none none (.store 2 (.tmp 9) (.tmp 21))])
 (.seq (.ops [.f (some 22) none (.load (some 2) (.tmp 7)),
   .f (some 23) none (.load (some 2) (.tmp 9)),
   .f (some 24) none (.eql true (.st [(0, none, .num), (1, none, .num)]) (.tmp 22) (.tmp 23)),
   .f (some 25) none (.mv (.tmp 24)),
   .f (some 26) (some (25, true)) (.mv (.tmp 5)),
   .f (some 27) (some (25, true)) (.len (.tmp 26)),
   .f (some 28) (some (25, true)) (.bin .lss (.tmp 27) (.const (.int .i64 20))),
   .f (some 29) none (.pick (.tmp 25) (.tmp 28) (.const (.bool false))),
   .f (some 30) none (.mv (.tmp 29)),
   .f (some 31) (some (30, true)) (.mv (.tmp 0)),
   .k (some 32) (some (30, true)) (.call 32 [(.tmp 31), (.const (.int .i64 7))]),
   .f (some 33) (some (30, true)) (.bin .eql (.tmp 32) (.const (.int .i64 6))),
   .f (some 34) none (.pick (.tmp 30) (.tmp 33) (.const (.bool false)))])
 (.cond (.tmp 34)
  (.ops [.f (some 35) none (.mv (.tmp 5)),
    .f (some 36) none (.load (some 2) (.tmp 7)),
    .f (some 37) none (.load (some 2) (.tmp 9)),
    .f (some 38) none (.build [(.int .i64 0), (.int .i64 0), (.int .i64 0), (.int .i64 0)] [(0, 2, (.tmp 36)), (2, 2, (.tmp 37))]),
    .k (some 39) none (.bslice 60 4 1 [(.int .i64 0), (.int .i64 0), (.int .i64 0), (.int .i64 0)] [(0, 4, (.tmp 38))]),
    .k (some 40) none (.append 60 4 32 (.tmp 35) (.tmp 39)),
    .k (some 5) none (.asg (.tmp 40))])
  .skip))))
def c36_1 : Cd :=
(.block 1
 (.seq (.ops [.f (some 14) none (.iaddr 2 none (.tmp 10) (.tmp 12)),
   .f (some 15) none (.load (some 2) (.tmp 14)),
   .k (some 7) none (.alloc 29 [(.int .i64 0), (.int .i64 0)]),
   .k none none (.store 2 (.tmp 7) (.tmp 15))])
 (.seq (.ops [.f (some 16) none (.mv (.tmp 1)),
   .f (some 17) none (.len (.tmp 16)),
   .f (some 18) none (.mv (.const (.int .i64 0)))])
 (rangeC 2 18 17 19 41 c36_0))))
def c36 : Cd :=
(.seq (.ops [.k (some 4) none (.asg (.const (.slice none 0 0)))])
(.seq (.ops [.k (some 5) none (.asg (.const (.slice none 0 0)))])
(.seq (.seq (.ops [.f (some 10) none (.mv (.tmp 1)),
  .f (some 11) none (.len (.tmp 10)),
  .f (some 12) none (.mv (.const (.int .i64 0)))])
(rangeC 0 12 11 13 42 c36_1))
(.seq (.ops [.f (some 43) none (.mv (.tmp 5)),
  .k (some 4) none (.asg (.tmp 43))])
.ret))))
theorem fn36 : FnOK Try.prog 36 44 c36 [.tmp 4] := .of (by kernel_rfl)
/-! '(*dynpos/dynposmake.Src).grouped' -/
def c37_0 : Cd :=
(.block 3
 (.seq (.ops [.f (some 38) none (.iaddr 2 none (.tmp 34) (.tmp 36)),
   .f (some 39) none (.load (some 2) (.tmp 38)),
   .k (some 9) none (.alloc 29 [(.int .i64 0), (.int .i64 0)]),
   .k none none (.store 2 (.tmp 9) (.tmp 39))])
 (.seq (.ops [.f (some 40) none (.mv (.tmp 0)),
   .k (some 41) none (.call 32 [(.tmp 40), (.const (.int .i64 4))]),
   .f (some 42) none (.bin .eql (.tmp 41) (.const (.int .i64 3)))])
 (.cond (.tmp 42)
  (.ops [.f (some 43) none (.faddr 1 (.tmp 7)),
    .f (some 44) none (.load none (.tmp 43)),
    .f (some 45) none (.load (some 2) (.tmp 9)),
    .k (some 46) none (.call 49 [(.tmp 44), (.tmp 45)]),
    .f (some 47) none (.faddr 1 (.tmp 7)),
    .k none none (.store 1 (.tmp 47) (.tmp 46))])
  .skip))))
def c37_1 : Cd :=
(.seq (.seq (.ops [.f (some 12) none (.mv (.tmp 6)),
  .f (some 13) none (.bin .gtr (.tmp 12) (.const (.int .i64 0))),
  .f (some 14) none (.mv (.tmp 13)),
  .f (some 15) (some (14, true)) (.mv (.tmp 1)),
  .f (some 16) (some (14, true)) (.len (.tmp 15)),
  .f (some 17) (some (14, true)) (.bin .gtr (.tmp 16) (.const (.int .i64 0))),
  .f (some 18) none (.pick (.tmp 14) (.tmp 17) (.const (.bool false)))])
(.cond (.tmp 18)
 .skip
 (.exit 0)))
(.seq (.block 1
 (.seq (.opd [⟨0, .k (some 21) none (.bslice 9 1 4 [(.string ⟨#[]⟩)] [(0, 1, (.const (.string ⟨#[111, 110, 101]⟩))), (1, 1, (.const (.string ⟨#[116, 119, 111]⟩))), (2, 1, (.const (.string ⟨#[103, 45, 51]⟩))), (3, 1, (.const (.string ⟨#[120]⟩)))]), []⟩,
   ⟨1, .f (some 22) none (.mv (.tmp 6)), []⟩,
   ⟨2, .f (some 23) none (.iaddr 1 none (.tmp 21) (.tmp 22)), []⟩,
   ⟨3, .f (some 24) none (.load none (.tmp 23)), []⟩,
   ⟨4, .f (some 25) none (.mv (.tmp 1)), []⟩,
   ⟨5, .f (some 26) none (.mv (.tmp 0)), []⟩,
   ⟨6, .f (some 27) none (.mv (.tmp 1)), []⟩,
   ⟨7, .f (some 28) none (.len (.tmp 27)), []⟩,
   ⟨8, .k (some 29) none (.call 32 [(.tmp 26), (.tmp 28)]), [.f (some 23) none (.iaddr 1 none (.tmp 21) (.tmp 22)), .f (some 24) none (.load none (.tmp 23))]⟩,
   ⟨9, .f (some 30) none (.iaddr 2 none (.tmp 25) (.tmp 29)), []⟩,
   ⟨10, .f (some 31) none (.load (some 2) (.tmp 30)), []⟩,
   ⟨11, .k (some 32) none (.bslice 29 2 1 [(.int .i64 0), (.int .i64 0)] [(0, 2, (.tmp 31))]), []⟩,
   ⟨12, .f (some 33) none (.build [(.string ⟨#[]⟩), (.slice none 0 0)] [(0, 1, (.tmp 24)), (1, 1, (.tmp 32))]), []⟩,
   ⟨13, .k (some 7) none (.alloc 32 [(.string ⟨#[]⟩), (.slice none 0 0)]), [.f (some 23) none (.iaddr 1 none (.tmp 21) (.tmp 22)), .f (some 24) none (.load none (.tmp 23)), .f (some 30) none (.iaddr 2 none (.tmp 25) (.tmp 29)), .f (some 31) none (.load (some 2) (.tmp 30))]⟩,
   ⟨14, .k none none (.store 2 (.tmp 7) (.tmp 33)), []⟩])
 (.seq (.seq (.ops [.f (some 34) none (.mv (.tmp 1)),
   .f (some 35) none (.len (.tmp 34)),
   .f (some 36) none (.mv (.const (.int .i64 0)))])
 (rangeC 2 36 35 37 48 c37_0))
 (.ops [.f (some 49) none (.mv (.tmp 5)),
   .f (some 50) none (.load (some 2) (.tmp 7)),
   .k (some 51) none (.bslice 32 2 1 [(.string ⟨#[]⟩), (.slice none 0 0)] [(0, 2, (.tmp 50))]),
   .k (some 52) none (.append 32 2 40 (.tmp 49) (.tmp 51)),
   .k (some 5) none (.asg (.tmp 52))]))))
(.ops [.f (some 19) none (.mv (.tmp 6)),
  .f (some 20) none (.bin .sub (.tmp 19) (.const (.int .i64 1))),
  .k (some 6) none (.asg (.tmp 20))])))
def c37 : Cd :=
(.seq (.ops [.k (some 4) none (.asg (.const (.slice none 0 0)))])
(.seq (.ops [.k (some 5) none (.asg (.const (.slice none 0 0)))])
(.seq (.seq (.ops [.f (some 10) none (.mv (.tmp 0)),
  .k (some 11) none (.call 32 [(.tmp 10), (.const (.int .i64 4))]),
  .k (some 6) none (.asg (.tmp 11))])
(.block 0
 (.loop c37_1)))
(.seq (.ops [.f (some 53) none (.mv (.tmp 5)),
  .k (some 4) none (.asg (.tmp 53))])
.ret))))
theorem fn37 : FnOK Try.prog 37 54 c37 [.tmp 4] := .of (by kernel_rfl)
/-! 'slices.ContainsFunc[[]dynpos/api.Part,dynpos/api.Part]' -/
def c38 : Cd :=
(.seq (.ops [.k (some 4) none (.asg (.const (.bool false)))])
(.seq (.ops [.f (some 5) none (.mv (.tmp 0)),
  .f (some 6) none (.mv (.tmp 1)),
  .k (some 7) none (.call 65 [(.tmp 5), (.tmp 6)]),
  .f (some 8) none (.bin .geq (.tmp 7) (.const (.int .i64 0))),
  .k (some 4) none (.asg (.tmp 8))])
.ret))
theorem fn38 : FnOK Try.prog 38 9 c38 [.tmp 4] := .of (by kernel_rfl)
/-! 'dynpos/design.Sorted$1' -/
def c39 : Cd :=
(.seq (.ops [.k (some 1) none (.box 29 2 (.tmp 0)),
  .k (some 2) none (.asg (.const (.bool false)))])
(.seq (.ops [.f (some 3) none (.load (some 2) (.tmp 1)),
  .k (some 4) none (.call 40 [(.tmp 3)]),
  .f (some 5) none (.un .not (.tmp 4)),
  .k (some 2) none (.asg (.tmp 5))])
.ret))
theorem fn39 : FnOK Try.prog 39 6 c39 [.tmp 2] := .of (by kernel_rfl)
/-! 'dynpos/design.Valid' -/
def c40 : Cd :=
(.seq (.ops [.k (some 1) none (.box 29 2 (.tmp 0)),
  .k (some 2) none (.asg (.const (.bool false)))])
(.seq (.ops [.f (some 3) none (.faddr 0 (.tmp 1)),
  .f (some 4) none (.load none (.tmp 3)),
  .f (some 5) none (.bin .geq (.tmp 4) (.const (.int .i64 1))),
  .f (some 6) none (.mv (.tmp 5)),
  .f (some 7) (some (6, true)) (.faddr 0 (.tmp 1)),
  .f (some 8) (some (6, true)) (.load none (.tmp 7)),
  .f (some 9) (some (6, true)) (.bin .leq (.tmp 8) (.const (.int .i64 9))),
  .f (some 10) none (.pick (.tmp 6) (.tmp 9) (.const (.bool false))),
  .f (some 11) none (.mv (.tmp 10)),
  .f (some 12) (some (11, true)) (.faddr 1 (.tmp 1)),
  .f (some 13) (some (11, true)) (.load none (.tmp 12)),
  .f (some 14) (some (11, true)) (.bin .geq (.tmp 13) (.const (.int .i64 0))),
  .f (some 15) none (.pick (.tmp 11) (.tmp 14) (.const (.bool false))),
  .f (some 16) none (.mv (.tmp 15)),
  .f (some 17) (some (16, true)) (.faddr 1 (.tmp 1)),
  .f (some 18) (some (16, true)) (.load none (.tmp 17)),
  .f (some 19) (some (16, true)) (.bin .leq (.tmp 18) (.const (.int .i64 63))),
  .f (some 20) none (.pick (.tmp 16) (.tmp 19) (.const (.bool false))),
  .k (some 2) none (.asg (.tmp 20))])
.ret))
theorem fn40 : FnOK Try.prog 40 21 c40 [.tmp 2] := .of (by kernel_rfl)
/-! 'dynpos/design.ascending[dynpos/api.Part]' -/
def c41_0 : Cd :=
(.seq (.seq (.ops [.f (some 6) none (.mv (.tmp 5)),
  .f (some 7) none (.mv (.tmp 0)),
  .f (some 8) none (.len (.tmp 7)),
  .f (some 9) none (.bin .lss (.tmp 6) (.tmp 8))])
(.cond (.tmp 9)
 .skip
 (.exit 0)))
(.seq (.block 1
 (.seq (.opd [⟨0, .f (some 12) none (.mv (.tmp 1)), []⟩,
   ⟨1, .f (some 13) none (.mv (.tmp 0)), []⟩,
   ⟨2, .f (some 14) none (.mv (.tmp 5)), []⟩,
   ⟨3, .f (some 15) none (.bin .sub (.tmp 14) (.const (.int .i64 1))), []⟩,
   ⟨4, .f (some 16) none (.iaddr 2 none (.tmp 13) (.tmp 15)), []⟩,
   ⟨5, .f (some 17) none (.load (some 2) (.tmp 16)), []⟩,
   ⟨6, .f (some 18) none (.mv (.tmp 0)), []⟩,
   ⟨7, .f (some 19) none (.mv (.tmp 5)), []⟩,
   ⟨8, .f (some 20) none (.iaddr 2 none (.tmp 18) (.tmp 19)), []⟩,
   ⟨9, .f (some 21) none (.load (some 2) (.tmp 20)), []⟩,
   ⟨10, .k (some 22) none (.callv (.tmp 12) [(.tmp 17), (.tmp 21)]), []⟩,
   ⟨11, .f (some 23) none (.bin .geq (.tmp 22) (.const (.int .i64 0))), []⟩])
 (.cond (.tmp 23)
  (.seq (.ops [.k (some 4) none (.asg (.const (.bool false)))])
  .ret)
  .skip)))
(.ops [.f (some 10) none (.mv (.tmp 5)),
  .f (some 11) none (.bin .add (.tmp 10) (.const (.int .i64 1))),
  .k (some 5) none (.asg (.tmp 11))])))
def c41 : Cd :=
(.seq (.ops [.k (some 4) none (.asg (.const (.bool false)))])
(.seq (.seq (.ops [.k (some 5) none (.asg (.const (.int .i64 1)))])
(.block 0
 (.loop c41_0)))
(.seq (.ops [.k (some 4) none (.asg (.const (.bool true)))])
.ret)))
theorem fn41 : FnOK Try.prog 41 24 c41 [.tmp 4] := .of (by kernel_rfl)
/-! 'dynpos/design.Compare' -/
def c42 : Cd :=
(.seq (.ops [.k (some 2) none (.box 29 2 (.tmp 0)),
  .k (some 3) none (.box 29 2 (.tmp 1)),
  .k (some 4) none (.asg (.const (.int .i64 0)))])
(.seq (.opd [⟨0, .f (some 5) none (.faddr 0 (.tmp 2)), []⟩,
  ⟨1, .f (some 6) none (.load none (.tmp 5)), []⟩,
  ⟨2, .f (some 7) none (.faddr 0 (.tmp 3)), []⟩,
  ⟨3, .f (some 8) none (.load none (.tmp 7)), []⟩,
  ⟨5, .f (some 10) none (.faddr 1 (.tmp 2)), []⟩,
  ⟨6, .f (some 11) none (.load none (.tmp 10)), []⟩,
  ⟨7, .f (some 12) none (.faddr 1 (.tmp 3)), []⟩,
  ⟨8, .f (some 13) none (.load none (.tmp 12)), []⟩,
  ⟨4, .k (some 9) none (.call 67 [(.tmp 6), (.tmp 8)]), [.f (some 11) none (.load none (.tmp 10)), .f (some 13) none (.load none (.tmp 12))]⟩,
  ⟨9, .k (some 14) none (.call 67 [(.tmp 11), (.tmp 13)]), []⟩,
  ⟨10, .k (some 15) none (.bslice 3 1 2 [(.int .i64 0)] [(0, 1, (.tmp 9)), (1, 1, (.tmp 14))]), []⟩,
  ⟨11, .k (some 16) none (.call 66 [(.tmp 15)]), []⟩,
  ⟨12, .k (some 4) none (.asg (.tmp 16)), []⟩])
.ret))
theorem fn42 : FnOK Try.prog 42 17 c42 [.tmp 4] := .of (by kernel_rfl)
/-! 'dynpos/dynposref26.Valid' -/
def c43 : Cd :=
(.seq (.ops [.k (some 1) none (.box 29 2 (.tmp 0)),
  .k (some 2) none (.asg (.const (.bool false)))])
(.seq (.ops [.f (some 3) none (.faddr 0 (.tmp 1)),
  .f (some 4) none (.load none (.tmp 3)),
  .f (some 5) none (.bin .geq (.tmp 4) (.const (.int .i64 1))),
  .f (some 6) none (.mv (.tmp 5)),
  .f (some 7) (some (6, true)) (.faddr 0 (.tmp 1)),
  .f (some 8) (some (6, true)) (.load none (.tmp 7)),
  .f (some 9) (some (6, true)) (.bin .leq (.tmp 8) (.const (.int .i64 9))),
  .f (some 10) none (.pick (.tmp 6) (.tmp 9) (.const (.bool false))),
  .f (some 11) none (.mv (.tmp 10)),
  .f (some 12) (some (11, true)) (.faddr 1 (.tmp 1)),
  .f (some 13) (some (11, true)) (.load none (.tmp 12)),
  .f (some 14) (some (11, true)) (.bin .geq (.tmp 13) (.const (.int .i64 0))),
  .f (some 15) none (.pick (.tmp 11) (.tmp 14) (.const (.bool false))),
  .f (some 16) none (.mv (.tmp 15)),
  .f (some 17) (some (16, true)) (.faddr 1 (.tmp 1)),
  .f (some 18) (some (16, true)) (.load none (.tmp 17)),
  .f (some 19) (some (16, true)) (.bin .leq (.tmp 18) (.const (.int .i64 63))),
  .f (some 20) none (.pick (.tmp 16) (.tmp 19) (.const (.bool false))),
  .k (some 2) none (.asg (.tmp 20))])
.ret))
theorem fn43 : FnOK Try.prog 43 21 c43 [.tmp 2] := .of (by kernel_rfl)
/-! 'dynpos/dynposref26.Less' -/
def c44 : Cd :=
(.seq (.ops [.k (some 2) none (.box 29 2 (.tmp 0)),
  .k (some 3) none (.box 29 2 (.tmp 1)),
  .k (some 4) none (.asg (.const (.bool false)))])
(.seq (.ops [.f (some 5) none (.faddr 0 (.tmp 2)),
  .f (some 6) none (.load none (.tmp 5)),
  .f (some 7) none (.faddr 0 (.tmp 3)),
  .f (some 8) none (.load none (.tmp 7)),
  .f (some 9) none (.bin .lss (.tmp 6) (.tmp 8)),
  .f (some 10) none (.mv (.tmp 9)),
  .f (some 11) (some (10, false)) (.faddr 0 (.tmp 2)),
  .f (some 12) (some (10, false)) (.load none (.tmp 11)),
  .f (some 13) (some (10, false)) (.faddr 0 (.tmp 3)),
  .f (some 14) (some (10, false)) (.load none (.tmp 13)),
  .f (some 15) (some (10, false)) (.bin .eql (.tmp 12) (.tmp 14)),
  .f (some 16) (some (10, false)) (.mv (.tmp 15)),
  .f (some 17) (some (16, true)) (.faddr 1 (.tmp 2)),
  .f (some 18) (some (16, true)) (.load none (.tmp 17)),
  .f (some 19) (some (16, true)) (.faddr 1 (.tmp 3)),
  .f (some 20) (some (16, true)) (.load none (.tmp 19)),
  .f (some 21) (some (16, true)) (.bin .lss (.tmp 18) (.tmp 20)),
  .f (some 22) (some (10, false)) (.pick (.tmp 16) (.tmp 21) (.const (.bool false))),
  .f (some 23) none (.pick (.tmp 10) (.const (.bool true)) (.tmp 22)),
  .k (some 4) none (.asg (.tmp 23))])
.ret))
theorem fn44 : FnOK Try.prog 44 24 c44 [.tmp 4] := .of (by kernel_rfl)
/-! 'slices.Contains[[]dynpos/api.Part,dynpos/api.Part]' -/
def c45 : Cd :=
(.seq (.ops [.k (some 3) none (.box 29 2 (.tmp 1)),
  .k (some 4) none (.asg (.const (.bool false)))])
(.seq (.ops [.f (some 5) none (.mv (.tmp 0)),
  .f (some 6) none (.load (some 2) (.tmp 3)),
  .k (some 7) none (.call 68 [(.tmp 5), (.tmp 6)]),
  .f (some 8) none (.bin .geq (.tmp 7) (.const (.int .i64 0))),
  .k (some 4) none (.asg (.tmp 8))])
.ret))
theorem fn45 : FnOK Try.prog 45 9 c45 [.tmp 4] := .of (by kernel_rfl)
/-! 'slices.Concat[[]dynpos/api.Part,dynpos/api.Part]' -/
def c46_0 : Cd :=
(.block 1
 (.seq (.ops [.f (some 13) none (.iaddr 1 none (.tmp 9) (.tmp 11)),
   .f (some 14) none (.load none (.tmp 13)),
   .k (some 5) none (.asg (.tmp 14))])
 (.seq (.ops [.f (some 15) none (.mv (.tmp 3)),
   .f (some 16) none (.mv (.tmp 5)),
   .f (some 17) none (.len (.tmp 16)),
   .f (some 18) none (.bin .add (.tmp 15) (.tmp 17)),
   .k (some 3) none (.asg (.tmp 18))])
 (.seq (.ops [.f (some 19) none (.mv (.tmp 3)),
   .f (some 20) none (.bin .lss (.tmp 19) (.const (.int .i64 0)))])
 (.cond (.tmp 20)
  .bad
  .skip)))))
def c46_1 : Cd :=
(.block 3
 (.seq (.ops [.f (some 29) none (.iaddr 1 none (.tmp 25) (.tmp 27)),
   .f (some 30) none (.load none (.tmp 29)),
   .k (some 8) none (.asg (.tmp 30))])
 (.ops [.f (some 31) none (.mv (.tmp 6)),
   .f (some 32) none (.mv (.tmp 8)),
   .k (some 33) none (.append 29 2 16 (.tmp 31) (.tmp 32)),
   .k (some 6) none (.asg (.tmp 33))])))
def c46 : Cd :=
(.seq (.ops [.k (some 2) none (.asg (.const (.slice none 0 0)))])
(.seq (.ops [.k (some 3) none (.asg (.const (.int .i64 0)))])
(.seq (.seq (.ops [.f (some 9) none (.mv (.tmp 0)),
  .f (some 10) none (.len (.tmp 9)),
  .f (some 11) none (.mv (.const (.int .i64 0)))])
(rangeC 0 11 10 12 22 c46_0))
(.seq (.ops [.f (some 23) none (.mv (.tmp 3)),
  .k (some 24) none (.call 69 [(.const (.slice none 0 0)), (.tmp 23)]),
  .k (some 6) none (.asg (.tmp 24))])
(.seq (.seq (.ops [.f (some 25) none (.mv (.tmp 0)),
  .f (some 26) none (.len (.tmp 25)),
  .f (some 27) none (.mv (.const (.int .i64 0)))])
(rangeC 2 27 26 28 34 c46_1))
(.seq (.ops [.f (some 35) none (.mv (.tmp 6)),
  .k (some 2) none (.asg (.tmp 35))])
.ret))))))
theorem fn46 : FnOK Try.prog 46 36 c46 [.tmp 2] := .of (by kernel_rfl)
/-! 'slices.Compact[[]dynpos/api.Part,dynpos/api.Part]' -/
def c48_0 : Cd :=
(.seq (.seq (.ops [.f (some 29) none (.mv (.tmp 5)),
  .f (some 30) none (.mv (.tmp 4)),
  .f (some 31) none (.len (.tmp 30)),
  .f (some 32) none (.bin .lss (.tmp 29) (.tmp 31))])
(.cond (.tmp 32)
 .skip
 (.exit 2)))
(.seq (.block 3
 (.seq (.opd [⟨0, .f (some 35) none (.mv (.tmp 4)), []⟩,
   ⟨1, .f (some 36) none (.mv (.tmp 5)), []⟩,
   ⟨2, .f (some 37) none (.iaddr 2 none (.tmp 35) (.tmp 36)), []⟩,
   ⟨3, .f (some 38) none (.load (some 2) (.tmp 37)), []⟩,
   ⟨4, .f (some 39) none (.mv (.tmp 4)), []⟩,
   ⟨5, .f (some 40) none (.mv (.tmp 5)), []⟩,
   ⟨6, .f (some 41) none (.bin .sub (.tmp 40) (.const (.int .i64 1))), []⟩,
   ⟨7, .f (some 42) none (.iaddr 2 none (.tmp 39) (.tmp 41)), []⟩,
   ⟨8, .f (some 43) none (.load (some 2) (.tmp 42)), []⟩,
   ⟨9, .f (some 44) none (.eql true (.st [(0, none, .num), (1, none, .num)]) (.tmp 38) (.tmp 43)), []⟩])
 (.cond (.tmp 44)
  (.seq (.ops [.f (some 45) none (.mv (.tmp 0)),
    .f (some 46) none (.mv (.tmp 3)),
    .f (some 47) none (.mv (.tmp 4)),
    .f (some 48) none (.mv (.tmp 5)),
    .f (some 49) none (.iaddr 2 none (.tmp 47) (.tmp 48)),
    .f (some 50) none (.load (some 2) (.tmp 49)),
    .f (some 51) none (.iaddr 2 none (.tmp 45) (.tmp 46)),
    .k none none (.store 2 (.tmp 51) (.tmp 50))])
  (.ops [.f (some 52) none (.mv (.tmp 3)),
    .f (some 53) none (.bin .add (.tmp 52) (.const (.int .i64 1))),
    .k (some 3) none (.asg (.tmp 53))]))
  .skip)))
(.ops [.f (some 33) none (.mv (.tmp 5)),
  .f (some 34) none (.bin .add (.tmp 33) (.const (.int .i64 1))),
  .k (some 5) none (.asg (.tmp 34))])))
def c48_1 : Cd :=
(.seq (.seq (.ops [.f (some 10) none (.mv (.tmp 3)),
  .f (some 11) none (.mv (.tmp 0)),
  .f (some 12) none (.len (.tmp 11)),
  .f (some 13) none (.bin .lss (.tmp 10) (.tmp 12))])
(.cond (.tmp 13)
 .skip
 (.exit 0)))
(.seq (.block 1
 (.seq (.opd [⟨0, .f (some 16) none (.mv (.tmp 0)), []⟩,
   ⟨1, .f (some 17) none (.mv (.tmp 3)), []⟩,
   ⟨2, .f (some 18) none (.iaddr 2 none (.tmp 16) (.tmp 17)), []⟩,
   ⟨3, .f (some 19) none (.load (some 2) (.tmp 18)), []⟩,
   ⟨4, .f (some 20) none (.mv (.tmp 0)), []⟩,
   ⟨5, .f (some 21) none (.mv (.tmp 3)), []⟩,
   ⟨6, .f (some 22) none (.bin .sub (.tmp 21) (.const (.int .i64 1))), []⟩,
   ⟨7, .f (some 23) none (.iaddr 2 none (.tmp 20) (.tmp 22)), []⟩,
   ⟨8, .f (some 24) none (.load (some 2) (.tmp 23)), []⟩,
   ⟨9, .f (some 25) none (.eql false (.st [(0, none, .num), (1, none, .num)]) (.tmp 19) (.tmp 24)), []⟩])
 (.cond (.tmp 25)
  (.seq (.ops [.f (some 26) none (.mv (.tmp 0)),
    .f (some 27) none (.mv (.tmp 3)),
    .f (some 28) none (.slc 2 (.tmp 26) (some (.tmp 27)) none none),
    .k (some 4) none (.asg (.tmp 28))])
  (.seq (.seq (.ops [.k (some 5) none (.asg (.const (.int .i64 1)))])
  (.block 2
   (.loop c48_0)))
  (.seq (.ops [.f (some 54) none (.mv (.tmp 0)),
    .f (some 55) none (.mv (.tmp 3)),
    .f (some 56) none (.slc 2 (.tmp 54) (some (.tmp 55)) none none),
    .k none none (.gen (.clr 29) [(.tmp 56)])])
  (.seq (.ops [.f (some 57) none (.mv (.tmp 0)),
    .f (some 58) none (.mv (.tmp 3)),
    .f (some 59) none (.slc 2 (.tmp 57) none (some (.tmp 58)) none),
    .k (some 2) none (.asg (.tmp 59))])
  .ret))))
  .skip)))
(.ops [.f (some 14) none (.mv (.tmp 3)),
  .f (some 15) none (.bin .add (.tmp 14) (.const (.int .i64 1))),
  .k (some 3) none (.asg (.tmp 15))])))
def c48 : Cd :=
(.seq (.ops [.k (some 2) none (.asg (.const (.slice none 0 0)))])
(.seq (.seq (.ops [.f (some 6) none (.mv (.tmp 0)),
  .f (some 7) none (.len (.tmp 6)),
  .f (some 8) none (.bin .lss (.tmp 7) (.const (.int .i64 2)))])
(.cond (.tmp 8)
 (.seq (.ops [.f (some 9) none (.mv (.tmp 0)),
   .k (some 2) none (.asg (.tmp 9))])
 .ret)
 .skip))
(.seq (.seq (.ops [.k (some 3) none (.asg (.const (.int .i64 1)))])
(.block 0
 (.loop c48_1)))
(.seq (.ops [.f (some 60) none (.mv (.tmp 0)),
  .k (some 2) none (.asg (.tmp 60))])
.ret))))
theorem fn48 : FnOK Try.prog 48 61 c48 [.tmp 2] := .of (by kernel_rfl)
/-! 'dynpos/dynposref26.With' -/
def c49_0 : Cd :=
(.seq (.seq (.opd [⟨0, .f (some 6) none (.mv (.tmp 5)), []⟩,
  ⟨1, .f (some 7) none (.mv (.tmp 0)), []⟩,
  ⟨2, .f (some 8) none (.len (.tmp 7)), []⟩,
  ⟨3, .f (some 9) none (.bin .lss (.tmp 6) (.tmp 8)), []⟩,
  ⟨4, .f (some 10) none (.mv (.tmp 9)), []⟩,
  ⟨5, .f (some 11) (some (10, true)) (.mv (.tmp 0)), []⟩,
  ⟨6, .f (some 12) (some (10, true)) (.mv (.tmp 5)), []⟩,
  ⟨7, .f (some 13) (some (10, true)) (.iaddr 2 none (.tmp 11) (.tmp 12)), []⟩,
  ⟨8, .f (some 14) (some (10, true)) (.load (some 2) (.tmp 13)), []⟩,
  ⟨9, .f (some 15) (some (10, true)) (.load (some 2) (.tmp 3)), []⟩,
  ⟨10, .k (some 16) (some (10, true)) (.call 44 [(.tmp 14), (.tmp 15)]), []⟩,
  ⟨11, .f (some 17) none (.pick (.tmp 10) (.tmp 16) (.const (.bool false))), []⟩])
(.cond (.tmp 17)
 .skip
 (.exit 0)))
(.block 1
 (.ops [.f (some 18) none (.mv (.tmp 5)),
   .f (some 19) none (.bin .add (.tmp 18) (.const (.int .i64 1))),
   .k (some 5) none (.asg (.tmp 19))])))
def c49 : Cd :=
(.seq (.ops [.k (some 3) none (.box 29 2 (.tmp 1)),
  .k (some 4) none (.asg (.const (.slice none 0 0)))])
(.seq (.ops [.k (some 5) none (.asg (.const (.int .i64 0)))])
(.seq (.block 0
 (.loop c49_0))
(.seq (.seq (.opd [⟨0, .f (some 20) none (.mv (.tmp 5)), []⟩,
  ⟨1, .f (some 21) none (.mv (.tmp 0)), []⟩,
  ⟨2, .f (some 22) none (.len (.tmp 21)), []⟩,
  ⟨3, .f (some 23) none (.bin .lss (.tmp 20) (.tmp 22)), []⟩,
  ⟨4, .f (some 24) none (.mv (.tmp 23)), []⟩,
  ⟨5, .f (some 25) (some (24, true)) (.mv (.tmp 0)), []⟩,
  ⟨6, .f (some 26) (some (24, true)) (.mv (.tmp 5)), []⟩,
  ⟨7, .f (some 27) (some (24, true)) (.iaddr 2 none (.tmp 25) (.tmp 26)), []⟩,
  ⟨8, .f (some 28) (some (24, true)) (.load (some 2) (.tmp 27)), []⟩,
  ⟨9, .f (some 29) (some (24, true)) (.load (some 2) (.tmp 3)), []⟩,
  ⟨10, .f (some 30) (some (24, true)) (.eql false (.st [(0, none, .num), (1, none, .num)]) (.tmp 28) (.tmp 29)), []⟩,
  ⟨11, .f (some 31) none (.pick (.tmp 24) (.tmp 30) (.const (.bool false))), []⟩])
(.cond (.tmp 31)
 (.seq (.ops [.f (some 32) none (.mv (.tmp 0)),
   .k (some 4) none (.asg (.tmp 32))])
 .ret)
 .skip))
(.seq (.opd [⟨0, .f (some 33) none (.mv (.tmp 0)), []⟩,
  ⟨1, .f (some 34) none (.mv (.tmp 5)), []⟩,
  ⟨2, .f (some 35) none (.slc 2 (.tmp 33) none (some (.tmp 34)) none), []⟩,
  ⟨3, .f (some 36) none (.load (some 2) (.tmp 3)), []⟩,
  ⟨4, .k (some 37) none (.bslice 29 2 1 [(.int .i64 0), (.int .i64 0)] [(0, 2, (.tmp 36))]), []⟩,
  ⟨5, .f (some 38) none (.mv (.tmp 0)), []⟩,
  ⟨6, .f (some 39) none (.mv (.tmp 5)), []⟩,
  ⟨7, .f (some 40) none (.slc 2 (.tmp 38) (some (.tmp 39)) none none), []⟩,
  ⟨8, .k (some 41) none (.append 29 2 16 (.tmp 37) (.tmp 40)), [.f (some 35) none (.slc 2 (.tmp 33) none (some (.tmp 34)) none)]⟩,
  ⟨9, .k (some 42) none (.append 29 2 16 (.tmp 35) (.tmp 41)), []⟩,
  ⟨10, .k (some 4) none (.asg (.tmp 42)), []⟩])
.ret)))))
theorem fn49 : FnOK Try.prog 49 43 c49 [.tmp 4] := .of (by kernel_rfl)
/-! '(*dynpos/dynposmake.Src).Range' -/
def c50 : Cd :=
(.seq (.ops [.k (some 6) none (.asg (.const (.int .i64 0)))])
(.seq (.ops [.f (some 7) none (.mv (.tmp 1)),
  .f (some 8) none (.mv (.tmp 0)),
  .f (some 9) none (.mv (.tmp 2)),
  .f (some 10) none (.mv (.tmp 1)),
  .f (some 11) none (.bin .sub (.tmp 9) (.tmp 10)),
  .f (some 12) none (.bin .add (.tmp 11) (.const (.int .i64 1))),
  .k (some 13) none (.call 32 [(.tmp 8), (.tmp 12)]),
  .f (some 14) none (.bin .add (.tmp 7) (.tmp 13)),
  .k (some 6) none (.asg (.tmp 14))])
.ret))
theorem fn50 : FnOK Try.prog 50 15 c50 [.tmp 6] := .of (by kernel_rfl)
/-! '(*dynpos/dynposmake.Src).Pick' -/
def c51 : Cd :=
(.seq (.ops [.k (some 4) none (.asg (.const (.int .i64 0)))])
(.seq (.ops [.f (some 5) none (.mv (.tmp 1)),
  .f (some 6) none (.mv (.tmp 0)),
  .f (some 7) none (.mv (.tmp 1)),
  .f (some 8) none (.len (.tmp 7)),
  .k (some 9) none (.call 32 [(.tmp 6), (.tmp 8)]),
  .f (some 10) none (.iaddr 1 none (.tmp 5) (.tmp 9)),
  .f (some 11) none (.load none (.tmp 10)),
  .k (some 4) none (.asg (.tmp 11))])
.ret))
theorem fn51 : FnOK Try.prog 51 12 c51 [.tmp 4] := .of (by kernel_rfl)
/-! '(*dynpos/dynposmake.Src).Text' -/
def c52 : Cd :=
(.seq (.ops [.k (some 4) none (.asg (.const (.string ⟨#[]⟩)))])
(.seq (.ops [.f (some 5) none (.mv (.tmp 1)),
  .f (some 6) none (.mv (.tmp 0)),
  .f (some 7) none (.mv (.tmp 1)),
  .f (some 8) none (.len (.tmp 7)),
  .k (some 9) none (.call 32 [(.tmp 6), (.tmp 8)]),
  .f (some 10) none (.iaddr 1 none (.tmp 5) (.tmp 9)),
  .f (some 11) none (.load none (.tmp 10)),
  .k (some 4) none (.asg (.tmp 11))])
.ret))
theorem fn52 : FnOK Try.prog 52 12 c52 [.tmp 4] := .of (by kernel_rfl)
/-! 'dynpos/design.links' -/
def c53_0 : Cd :=
(.block 1
 (.seq (.ops [.f (some 10) none (.iaddr 4 none (.tmp 6) (.tmp 8)),
   .f (some 11) none (.load (some 4) (.tmp 10)),
   .k (some 4) none (.alloc 60 [(.int .i64 0), (.int .i64 0), (.int .i64 0), (.int .i64 0)]),
   .k none none (.store 4 (.tmp 4) (.tmp 11))])
 (.seq (.ops [.f (some 12) none (.faddr 0 (.tmp 1)),
   .f (some 13) none (.load none (.tmp 12)),
   .f (some 14) none (.faddr 0 (.tmp 4)),
   .f (some 15) none (.load (some 2) (.tmp 14)),
   .k (some 16) none (.call 15 [(.tmp 13), (.tmp 15)]),
   .f (some 17) none (.un .not (.tmp 16)),
   .f (some 18) none (.mv (.tmp 17)),
   .f (some 19) (some (18, false)) (.faddr 0 (.tmp 1)),
   .f (some 20) (some (18, false)) (.load none (.tmp 19)),
   .f (some 21) (some (18, false)) (.faddr 2 (.tmp 4)),
   .f (some 22) (some (18, false)) (.load (some 2) (.tmp 21)),
   .k (some 23) (some (18, false)) (.call 15 [(.tmp 20), (.tmp 22)]),
   .f (some 24) (some (18, false)) (.un .not (.tmp 23)),
   .f (some 25) none (.pick (.tmp 18) (.const (.bool true)) (.tmp 24)),
   .f (some 26) none (.mv (.tmp 25)),
   .f (some 27) (some (26, false)) (.faddr 0 (.tmp 4)),
   .f (some 28) (some (26, false)) (.load (some 2) (.tmp 27)),
   .f (some 29) (some (26, false)) (.faddr 2 (.tmp 4)),
   .f (some 30) (some (26, false)) (.load (some 2) (.tmp 29)),
   .f (some 31) (some (26, false)) (.eql false (.st [(0, none, .num), (1, none, .num)]) (.tmp 28) (.tmp 30)),
   .f (some 32) none (.pick (.tmp 26) (.const (.bool true)) (.tmp 31))])
 (.cond (.tmp 32)
  (.seq (.ops [.k (some 2) none (.asg (.const (.bool false)))])
  .ret)
  .skip))))
def c53 : Cd :=
(.seq (.ops [.k (some 1) none (.box 27 3 (.tmp 0)),
  .k (some 2) none (.asg (.const (.bool false)))])
(.seq (.seq (.ops [.f (some 5) none (.faddr 1 (.tmp 1)),
  .f (some 6) none (.load none (.tmp 5)),
  .f (some 7) none (.len (.tmp 6)),
  .f (some 8) none (.mv (.const (.int .i64 0)))])
(rangeC 0 8 7 9 33 c53_0))
(.seq (.ops [.f (some 34) none (.faddr 1 (.tmp 1)),
  .f (some 35) none (.load none (.tmp 34)),
  .k (some 36) none (.call 72 [(.tmp 35), (.func 73)]),
  .k (some 2) none (.asg (.tmp 36))])
.ret)))
theorem fn53 : FnOK Try.prog 53 37 c53 [.tmp 2] := .of (by kernel_rfl)
/-! 'dynpos/design.groups' -/
def c54_0 : Cd :=
(.block 1
 (.seq (.ops [.f (some 12) none (.mv (.tmp 10)),
   .f (some 13) none (.iaddr 2 none (.tmp 8) (.tmp 10)),
   .f (some 14) none (.load (some 2) (.tmp 13)),
   .k (some 4) none (.alloc 32 [(.string ⟨#[]⟩), (.slice none 0 0)]),
   .k (some 3) none (.asg (.tmp 12)),
   .k none none (.store 2 (.tmp 4) (.tmp 14))])
 (.seq (.ops [.f (some 15) none (.mkfn 74 [] [(.tmp 4)]),
   .k (some 5) none (.asg (.tmp 15))])
 (.seq (.ops [.f (some 16) none (.mkfn 75 [] [(.tmp 1)]),
   .k (some 6) none (.asg (.tmp 16))])
 (.seq (.ops [.f (some 17) none (.faddr 0 (.tmp 4)),
   .f (some 18) none (.load none (.tmp 17)),
   .k (some 19) none (.call 76 [(.tmp 18)]),
   .f (some 20) none (.un .not (.tmp 19)),
   .f (some 21) none (.mv (.tmp 20)),
   .f (some 22) (some (21, false)) (.faddr 2 (.tmp 1)),
   .f (some 23) (some (21, false)) (.load none (.tmp 22)),
   .f (some 24) (some (21, false)) (.mv (.tmp 3)),
   .f (some 25) (some (21, false)) (.slc 2 (.tmp 23) none (some (.tmp 24)) none),
   .f (some 26) (some (21, false)) (.mv (.tmp 5)),
   .k (some 27) (some (21, false)) (.call 77 [(.tmp 25), (.tmp 26)]),
   .f (some 28) none (.pick (.tmp 21) (.const (.bool true)) (.tmp 27)),
   .f (some 29) none (.mv (.tmp 28)),
   .f (some 30) (some (29, false)) (.faddr 1 (.tmp 4)),
   .f (some 31) (some (29, false)) (.load none (.tmp 30)),
   .f (some 32) (some (29, false)) (.len (.tmp 31)),
   .f (some 33) (some (29, false)) (.bin .eql (.tmp 32) (.const (.int .i64 0))),
   .f (some 34) none (.pick (.tmp 29) (.const (.bool true)) (.tmp 33)),
   .f (some 35) none (.mv (.tmp 34)),
   .f (some 36) (some (35, false)) (.faddr 1 (.tmp 4)),
   .f (some 37) (some (35, false)) (.load none (.tmp 36)),
   .f (some 38) (some (35, false)) (.mv (.tmp 6)),
   .k (some 39) (some (35, false)) (.call 38 [(.tmp 37), (.tmp 38)]),
   .f (some 40) none (.pick (.tmp 35) (.const (.bool true)) (.tmp 39)),
   .f (some 41) none (.mv (.tmp 40)),
   .f (some 42) (some (41, false)) (.faddr 1 (.tmp 4)),
   .f (some 43) (some (41, false)) (.load none (.tmp 42)),
   .k (some 44) (some (41, false)) (.call 41 [(.tmp 43), (.func 42)]),
   .f (some 45) (some (41, false)) (.un .not (.tmp 44)),
   .f (some 46) none (.pick (.tmp 41) (.const (.bool true)) (.tmp 45))])
 (.cond (.tmp 46)
  (.seq (.ops [.k (some 2) none (.asg (.const (.bool false)))])
  .ret)
  .skip))))))
def c54 : Cd :=
(.seq (.ops [.k (some 1) none (.box 27 3 (.tmp 0)),
  .k (some 2) none (.asg (.const (.bool false)))])
(.seq (.seq (.ops [.f (some 7) none (.faddr 2 (.tmp 1)),
  .f (some 8) none (.load none (.tmp 7)),
  .f (some 9) none (.len (.tmp 8)),
  .f (some 10) none (.mv (.const (.int .i64 0)))])
(rangeC 0 10 9 11 47 c54_0))
(.seq (.ops [.k (some 2) none (.asg (.const (.bool true)))])
.ret)))
theorem fn54 : FnOK Try.prog 54 48 c54 [.tmp 2] := .of (by kernel_rfl)
/-! 'dynpos/dynposref26.Word' -/
def c55_0 : Cd :=
(.seq (.seq (.ops [.f (some 22) none (.mv (.tmp 3)),
  .f (some 23) none (.mv (.tmp 0)),
  .f (some 24) none (.lens (.tmp 23)),
  .f (some 25) none (.bin .lss (.tmp 22) (.tmp 24))])
(.cond (.tmp 25)
 .skip
 (.exit 0)))
(.seq (.block 1
 (.seq (.ops [.f (some 28) none (.mv (.tmp 0)),
   .f (some 29) none (.mv (.tmp 3)),
   .f (some 30) none (.sidx (.tmp 28) (.tmp 29)),
   .f (some 31) none (.bin .geq (.tmp 30) (.const (.int .u8 97))),
   .f (some 32) none (.mv (.tmp 31)),
   .f (some 33) (some (32, true)) (.mv (.tmp 0)),
   .f (some 34) (some (32, true)) (.mv (.tmp 3)),
   .f (some 35) (some (32, true)) (.sidx (.tmp 33) (.tmp 34)),
   .f (some 36) (some (32, true)) (.bin .leq (.tmp 35) (.const (.int .u8 122))),
   .f (some 37) none (.pick (.tmp 32) (.tmp 36) (.const (.bool false))),
   .f (some 38) none (.mv (.tmp 37)),
   .f (some 39) (some (38, false)) (.mv (.tmp 0)),
   .f (some 40) (some (38, false)) (.mv (.tmp 3)),
   .f (some 41) (some (38, false)) (.sidx (.tmp 39) (.tmp 40)),
   .f (some 42) (some (38, false)) (.bin .geq (.tmp 41) (.const (.int .u8 48))),
   .f (some 43) (some (38, false)) (.mv (.tmp 42)),
   .f (some 44) (some (43, true)) (.mv (.tmp 0)),
   .f (some 45) (some (43, true)) (.mv (.tmp 3)),
   .f (some 46) (some (43, true)) (.sidx (.tmp 44) (.tmp 45)),
   .f (some 47) (some (43, true)) (.bin .leq (.tmp 46) (.const (.int .u8 57))),
   .f (some 48) (some (38, false)) (.pick (.tmp 43) (.tmp 47) (.const (.bool false))),
   .f (some 49) none (.pick (.tmp 38) (.const (.bool true)) (.tmp 48)),
   .f (some 50) none (.mv (.tmp 49)),
   .f (some 51) (some (50, false)) (.mv (.tmp 0)),
   .f (some 52) (some (50, false)) (.mv (.tmp 3)),
   .f (some 53) (some (50, false)) (.sidx (.tmp 51) (.tmp 52)),
   .f (some 54) (some (50, false)) (.bin .eql (.tmp 53) (.const (.int .u8 45))),
   .f (some 55) none (.pick (.tmp 50) (.const (.bool true)) (.tmp 54)),
   .f (some 56) none (.un .not (.tmp 55))])
 (.cond (.tmp 56)
  (.seq (.ops [.k (some 2) none (.asg (.const (.bool false)))])
  .ret)
  .skip)))
(.ops [.f (some 26) none (.mv (.tmp 3)),
  .f (some 27) none (.bin .add (.tmp 26) (.const (.int .i64 1))),
  .k (some 3) none (.asg (.tmp 27))])))
def c55 : Cd :=
(.seq (.ops [.k (some 2) none (.asg (.const (.bool false)))])
(.seq (.seq (.ops [.f (some 4) none (.mv (.tmp 0)),
  .f (some 5) none (.lens (.tmp 4)),
  .f (some 6) none (.bin .eql (.tmp 5) (.const (.int .i64 0))),
  .f (some 7) none (.mv (.tmp 6)),
  .f (some 8) (some (7, false)) (.mv (.tmp 0)),
  .f (some 9) (some (7, false)) (.lens (.tmp 8)),
  .f (some 10) (some (7, false)) (.bin .gtr (.tmp 9) (.const (.int .i64 12))),
  .f (some 11) none (.pick (.tmp 7) (.const (.bool true)) (.tmp 10)),
  .f (some 12) none (.mv (.tmp 11)),
  .f (some 13) (some (12, false)) (.mv (.tmp 0)),
  .f (some 14) (some (12, false)) (.sidx (.tmp 13) (.const (.int .i64 0))),
  .f (some 15) (some (12, false)) (.bin .lss (.tmp 14) (.const (.int .u8 97))),
  .f (some 16) none (.pick (.tmp 12) (.const (.bool true)) (.tmp 15)),
  .f (some 17) none (.mv (.tmp 16)),
  .f (some 18) (some (17, false)) (.mv (.tmp 0)),
  .f (some 19) (some (17, false)) (.sidx (.tmp 18) (.const (.int .i64 0))),
  .f (some 20) (some (17, false)) (.bin .gtr (.tmp 19) (.const (.int .u8 122))),
  .f (some 21) none (.pick (.tmp 17) (.const (.bool true)) (.tmp 20))])
(.cond (.tmp 21)
 (.seq (.ops [.k (some 2) none (.asg (.const (.bool false)))])
 .ret)
 .skip))
(.seq (.seq (.ops [.k (some 3) none (.asg (.const (.int .i64 0)))])
(.block 0
 (.loop c55_0)))
(.seq (.ops [.k (some 2) none (.asg (.const (.bool true)))])
.ret))))
theorem fn55 : FnOK Try.prog 55 57 c55 [.tmp 2] := .of (by kernel_rfl)
/-! 'slices.Clone[[]dynpos/api.Part,dynpos/api.Part]' -/
def c56 : Cd :=
(.seq (.ops [.k (some 2) none (.asg (.const (.slice none 0 0)))])
(.seq (.seq (.ops [.f (some 3) none (.mv (.tmp 0)),
  .k (some 4) none (.gen (.nils false) [(.tmp 3)])])
(.cond (.tmp 4)
 (.seq (.ops [.k (some 2) none (.asg (.const (.slice none 0 0)))])
 .ret)
 .skip))
(.seq (.ops [.k (some 5) none (.bslice 29 2 0 [(.int .i64 0), (.int .i64 0)] []),
  .f (some 6) none (.mv (.tmp 0)),
  .k (some 7) none (.append 29 2 16 (.tmp 5) (.tmp 6)),
  .k (some 2) none (.asg (.tmp 7))])
.ret)))
theorem fn56 : FnOK Try.prog 56 8 c56 [.tmp 2] := .of (by kernel_rfl)
/-! 'slices.Contains[[]dynpos/api.Link,dynpos/api.Link]' -/
def c57 : Cd :=
(.seq (.ops [.k (some 3) none (.box 60 4 (.tmp 1)),
  .k (some 4) none (.asg (.const (.bool false)))])
(.seq (.ops [.f (some 5) none (.mv (.tmp 0)),
  .f (some 6) none (.load (some 4) (.tmp 3)),
  .k (some 7) none (.call 78 [(.tmp 5), (.tmp 6)]),
  .f (some 8) none (.bin .geq (.tmp 7) (.const (.int .i64 0))),
  .k (some 4) none (.asg (.tmp 8))])
.ret))
theorem fn57 : FnOK Try.prog 57 9 c57 [.tmp 4] := .of (by kernel_rfl)
/-! 'dynpos/design.distances' -/
def c58_0 : Cd :=
(.block 3
 (.seq (.ops [.f (some 26) none (.iaddr 4 none (.tmp 22) (.tmp 24)),
   .f (some 27) none (.load (some 4) (.tmp 26)),
   .k (some 8) none (.alloc 60 [(.int .i64 0), (.int .i64 0), (.int .i64 0), (.int .i64 0)]),
   .k none none (.store 4 (.tmp 8) (.tmp 27))])
 (.seq (.ops [.f (some 29) none (.mv (.tmp 5)),
   .f (some 30) none (.faddr 0 (.tmp 8)),
   .f (some 31) none (.load (some 2) (.tmp 30)),
   .k (some 32) none (.gen (.mget 83 true) [(.tmp 29), (.tmp 31)]),
   .f (some 28) none (.mv (.tmp 32)),
   .f (some 33) none (.extract 0 (.tmp 28)),
   .f (some 34) none (.extract 1 (.tmp 28)),
   .k (some 9) none (.asg (.tmp 33)),
   .k (some 10) none (.asg (.tmp 34))])
 (.seq (.opd [⟨0, .f (some 35) none (.faddr 2 (.tmp 8)), []⟩,
   ⟨1, .f (some 36) none (.load (some 2) (.tmp 35)), []⟩,
   ⟨2, .f (some 37) none (.mv (.tmp 6)), []⟩,
   ⟨3, .f (some 38) none (.iaddr 2 none (.tmp 37) (.const (.int .i64 0))), []⟩,
   ⟨4, .f (some 39) none (.load (some 2) (.tmp 38)), []⟩,
   ⟨5, .f (some 40) none (.eql false (.st [(0, none, .num), (1, none, .num)]) (.tmp 36) (.tmp 39)), []⟩,
   ⟨6, .f (some 41) none (.mv (.tmp 40)), []⟩,
   ⟨7, .f (some 42) (some (41, true)) (.mv (.tmp 10)), []⟩,
   ⟨8, .f (some 43) (some (41, true)) (.un .not (.tmp 42)), []⟩,
   ⟨9, .f (some 44) none (.pick (.tmp 41) (.tmp 43) (.const (.bool false))), []⟩])
 (.cond (.tmp 44)
  (.seq (.opd [⟨0, .f (some 45) none (.mv (.tmp 5)), []⟩,
    ⟨1, .f (some 46) none (.faddr 0 (.tmp 8)), []⟩,
    ⟨2, .f (some 47) none (.load (some 2) (.tmp 46)), []⟩,
    ⟨3, .f (some 48) none (.mv (.tmp 5)), []⟩,
    ⟨4, .f (some 49) none (.mv (.tmp 6)), []⟩,
    ⟨5, .f (some 50) none (.iaddr 2 none (.tmp 49) (.const (.int .i64 0))), []⟩,
    ⟨6, .f (some 51) none (.load (some 2) (.tmp 50)), []⟩,
    ⟨7, .k (some 52) none (.gen (.mget 83 false) [(.tmp 48), (.tmp 51)]), [.f (some 47) none (.load (some 2) (.tmp 46))]⟩,
    ⟨8, .f (some 53) none (.bin .add (.tmp 52) (.const (.int .i64 1))), []⟩,
    ⟨9, .k none none (.gen (.mset 83) [(.tmp 45), (.tmp 47), (.tmp 53)]), []⟩])
  (.ops [.f (some 54) none (.mv (.tmp 6)),
    .f (some 55) none (.faddr 0 (.tmp 8)),
    .f (some 56) none (.load (some 2) (.tmp 55)),
    .k (some 57) none (.bslice 29 2 1 [(.int .i64 0), (.int .i64 0)] [(0, 2, (.tmp 56))]),
    .k (some 58) none (.append 29 2 16 (.tmp 54) (.tmp 57)),
    .k (some 6) none (.asg (.tmp 58))]))
  .skip)))))
def c58_1 : Cd :=
(.seq (.seq (.ops [.f (some 16) none (.mv (.tmp 6)),
  .f (some 17) none (.len (.tmp 16)),
  .f (some 18) none (.bin .gtr (.tmp 17) (.const (.int .i64 0)))])
(.cond (.tmp 18)
 .skip
 (.exit 0)))
(.seq (.block 1
 (.seq (.ops [.f (some 21) none (.faddr 1 (.tmp 2)),
   .f (some 22) none (.load none (.tmp 21)),
   .f (some 23) none (.len (.tmp 22)),
   .f (some 24) none (.mv (.const (.int .i64 0)))])
 (rangeC 2 24 23 25 59 c58_0)))
(.ops [.f (some 19) none (.mv (.tmp 6)),
  .f (some 20) none (.slc 2 (.tmp 19) (some (.const (.int .i64 1))) none none),
  .k (some 6) none (.asg (.tmp 20))])))
def c58 : Cd :=
(.seq (.ops [.k (some 2) none (.box 27 3 (.tmp 0)),
  .k (some 3) none (.box 29 2 (.tmp 1)),
  .k (some 4) none (.asg (.const (.map none)))])
(.seq (.ops [.k (some 11) none (.gen (.mkmap 83) []),
  .f (some 12) none (.load (some 2) (.tmp 3)),
  .k none none (.gen (.mset 83) [(.tmp 11), (.tmp 12), (.const (.int .i64 0))]),
  .f (some 13) none (.mv (.tmp 11)),
  .k (some 5) none (.asg (.tmp 13))])
(.seq (.seq (.ops [.f (some 14) none (.load (some 2) (.tmp 3)),
  .k (some 15) none (.bslice 29 2 1 [(.int .i64 0), (.int .i64 0)] [(0, 2, (.tmp 14))]),
  .k (some 6) none (.asg (.tmp 15))])
(.block 0
 (.loop c58_1)))
(.seq (.ops [.f (some 60) none (.mv (.tmp 5)),
  .k (some 4) none (.asg (.tmp 60))])
.ret))))
theorem fn58 : FnOK Try.prog 58 61 c58 [.tmp 4] := .of (by kernel_rfl)
/-! 'dynpos/dynposref26.steps' -/
def c59_0 : Cd :=
(.block 1
 (.seq (.ops [.f (some 21) none (.mv (.tmp 19)),
   .f (some 22) none (.iaddr 2 none (.tmp 17) (.tmp 19)),
   .f (some 23) none (.load (some 2) (.tmp 22)),
   .k (some 7) none (.alloc 29 [(.int .i64 0), (.int .i64 0)]),
   .k (some 6) none (.asg (.tmp 21)),
   .k none none (.store 2 (.tmp 7) (.tmp 23))])
 (.seq (.ops [.f (some 24) none (.mv (.tmp 5)),
   .f (some 25) none (.mv (.tmp 6)),
   .f (some 26) none (.iaddr 1 none (.tmp 24) (.tmp 25)),
   .k none none (.store 1 (.tmp 26) (.const (.int .i64 (-1))))])
 (.seq (.ops [.f (some 27) none (.load (some 2) (.tmp 7)),
   .f (some 28) none (.load (some 2) (.tmp 3)),
   .f (some 29) none (.eql false (.st [(0, none, .num), (1, none, .num)]) (.tmp 27) (.tmp 28))])
 (.cond (.tmp 29)
  (.ops [.f (some 30) none (.mv (.tmp 5)),
    .f (some 31) none (.mv (.tmp 6)),
    .f (some 32) none (.iaddr 1 none (.tmp 30) (.tmp 31)),
    .k none none (.store 1 (.tmp 32) (.const (.int .i64 0)))])
  .skip)))))
def c59_1 : Cd :=
(.block 5
 (.seq (.ops [.f (some 44) none (.iaddr 4 none (.tmp 40) (.tmp 42)),
   .f (some 45) none (.load (some 4) (.tmp 44)),
   .k (some 9) none (.alloc 60 [(.int .i64 0), (.int .i64 0), (.int .i64 0), (.int .i64 0)]),
   .k none none (.store 4 (.tmp 9) (.tmp 45))])
 (.seq (.opd [⟨0, .f (some 46) none (.faddr 0 (.tmp 2)), []⟩,
   ⟨1, .f (some 47) none (.load none (.tmp 46)), []⟩,
   ⟨2, .f (some 48) none (.faddr 0 (.tmp 9)), []⟩,
   ⟨3, .f (some 49) none (.load (some 2) (.tmp 48)), []⟩,
   ⟨5, .f (some 51) none (.faddr 0 (.tmp 2)), []⟩,
   ⟨6, .f (some 52) none (.load none (.tmp 51)), []⟩,
   ⟨7, .f (some 53) none (.faddr 2 (.tmp 9)), []⟩,
   ⟨8, .f (some 54) none (.load (some 2) (.tmp 53)), []⟩,
   ⟨4, .k (some 50) none (.call 60 [(.tmp 47), (.tmp 49)]), [.f (some 52) none (.load none (.tmp 51)), .f (some 54) none (.load (some 2) (.tmp 53))]⟩,
   ⟨9, .k (some 55) none (.call 60 [(.tmp 52), (.tmp 54)]), []⟩,
   ⟨10, .k (some 10) none (.asg (.tmp 50)), []⟩,
   ⟨11, .k (some 11) none (.asg (.tmp 55)), []⟩])
 (.seq (.opd [⟨0, .f (some 56) none (.mv (.tmp 5)), []⟩,
   ⟨1, .f (some 57) none (.mv (.tmp 11)), []⟩,
   ⟨2, .f (some 58) none (.iaddr 1 none (.tmp 56) (.tmp 57)), []⟩,
   ⟨3, .f (some 59) none (.load none (.tmp 58)), []⟩,
   ⟨4, .f (some 60) none (.bin .geq (.tmp 59) (.const (.int .i64 0))), []⟩,
   ⟨5, .f (some 61) none (.mv (.tmp 60)), []⟩,
   ⟨6, .f (some 62) (some (61, true)) (.mv (.tmp 5)), []⟩,
   ⟨7, .f (some 63) (some (61, true)) (.mv (.tmp 10)), []⟩,
   ⟨8, .f (some 64) (some (61, true)) (.iaddr 1 none (.tmp 62) (.tmp 63)), []⟩,
   ⟨9, .f (some 65) (some (61, true)) (.load none (.tmp 64)), []⟩,
   ⟨10, .f (some 66) (some (61, true)) (.bin .lss (.tmp 65) (.const (.int .i64 0))), []⟩,
   ⟨11, .f (some 67) (some (61, true)) (.mv (.tmp 66)), []⟩,
   ⟨12, .f (some 68) (some (67, false)) (.mv (.tmp 5)), []⟩,
   ⟨13, .f (some 69) (some (67, false)) (.mv (.tmp 10)), []⟩,
   ⟨14, .f (some 70) (some (67, false)) (.iaddr 1 none (.tmp 68) (.tmp 69)), []⟩,
   ⟨15, .f (some 71) (some (67, false)) (.load none (.tmp 70)), []⟩,
   ⟨16, .f (some 72) (some (67, false)) (.mv (.tmp 5)), []⟩,
   ⟨17, .f (some 73) (some (67, false)) (.mv (.tmp 11)), []⟩,
   ⟨18, .f (some 74) (some (67, false)) (.iaddr 1 none (.tmp 72) (.tmp 73)), []⟩,
   ⟨19, .f (some 75) (some (67, false)) (.load none (.tmp 74)), []⟩,
   ⟨20, .f (some 76) (some (67, false)) (.bin .add (.tmp 75) (.const (.int .i64 1))), []⟩,
   ⟨21, .f (some 77) (some (67, false)) (.bin .gtr (.tmp 71) (.tmp 76)), []⟩,
   ⟨22, .f (some 78) (some (61, true)) (.pick (.tmp 67) (.const (.bool true)) (.tmp 77)), []⟩,
   ⟨23, .f (some 79) none (.pick (.tmp 61) (.tmp 78) (.const (.bool false))), []⟩])
 (.cond (.tmp 79)
  (.ops [.f (some 80) none (.mv (.tmp 5)),
    .f (some 81) none (.mv (.tmp 10)),
    .f (some 82) none (.mv (.tmp 5)),
    .f (some 83) none (.mv (.tmp 11)),
    .f (some 84) none (.iaddr 1 none (.tmp 82) (.tmp 83)),
    .f (some 85) none (.load none (.tmp 84)),
    .f (some 86) none (.bin .add (.tmp 85) (.const (.int .i64 1))),
    .f (some 87) none (.iaddr 1 none (.tmp 80) (.tmp 81)),
    .k none none (.store 1 (.tmp 87) (.tmp 86))])
  .skip)))))
def c59_2 : Cd :=
(.block 3
 (.seq (.ops [.f (some 39) none (.faddr 1 (.tmp 2)),
   .f (some 40) none (.load none (.tmp 39)),
   .f (some 41) none (.len (.tmp 40)),
   .f (some 42) none (.mv (.const (.int .i64 0)))])
 (rangeC 4 42 41 43 88 c59_1)))
def c59 : Cd :=
(.seq (.ops [.k (some 2) none (.box 27 3 (.tmp 0)),
  .k (some 3) none (.box 29 2 (.tmp 1)),
  .k (some 4) none (.asg (.const (.slice none 0 0)))])
(.seq (.ops [.f (some 12) none (.faddr 0 (.tmp 2)),
  .f (some 13) none (.load none (.tmp 12)),
  .f (some 14) none (.len (.tmp 13)),
  .k (some 15) none (.mkslice 3 1 8 [(.int .i64 0)] (.tmp 14) (.tmp 14)),
  .k (some 5) none (.asg (.tmp 15))])
(.seq (.seq (.ops [.f (some 16) none (.faddr 0 (.tmp 2)),
  .f (some 17) none (.load none (.tmp 16)),
  .f (some 18) none (.len (.tmp 17)),
  .f (some 19) none (.mv (.const (.int .i64 0)))])
(rangeC 0 19 18 20 33 c59_0))
(.seq (.seq (.ops [.f (some 34) none (.faddr 0 (.tmp 2)),
  .f (some 35) none (.load none (.tmp 34)),
  .f (some 36) none (.len (.tmp 35)),
  .f (some 37) none (.mv (.const (.int .i64 0)))])
(rangeC 2 37 36 38 89 c59_2))
(.seq (.ops [.f (some 90) none (.mv (.tmp 5)),
  .k (some 4) none (.asg (.tmp 90))])
.ret)))))
theorem fn59 : FnOK Try.prog 59 91 c59 [.tmp 4] := .of (by kernel_rfl)
/-! 'dynpos/dynposref26.place' -/
def c60_0 : Cd :=
(.block 1
 (.seq (.ops [.f (some 11) none (.mv (.tmp 9)),
   .f (some 12) none (.iaddr 2 none (.tmp 7) (.tmp 9)),
   .f (some 13) none (.load (some 2) (.tmp 12)),
   .k (some 6) none (.alloc 29 [(.int .i64 0), (.int .i64 0)]),
   .k (some 5) none (.asg (.tmp 11)),
   .k none none (.store 2 (.tmp 6) (.tmp 13))])
 (.seq (.ops [.f (some 14) none (.load (some 2) (.tmp 6)),
   .f (some 15) none (.load (some 2) (.tmp 3)),
   .f (some 16) none (.eql false (.st [(0, none, .num), (1, none, .num)]) (.tmp 14) (.tmp 15))])
 (.cond (.tmp 16)
  (.seq (.ops [.f (some 17) none (.mv (.tmp 5)),
    .k (some 4) none (.asg (.tmp 17))])
  .ret)
  .skip))))
def c60 : Cd :=
(.seq (.ops [.k (some 3) none (.box 29 2 (.tmp 1)),
  .k (some 4) none (.asg (.const (.int .i64 0)))])
(.seq (.seq (.ops [.f (some 7) none (.mv (.tmp 0)),
  .f (some 8) none (.len (.tmp 7)),
  .f (some 9) none (.mv (.const (.int .i64 0)))])
(rangeC 0 9 8 10 18 c60_0))
(.seq (.ops [.k (some 4) none (.asg (.const (.int .i64 (-1))))])
.ret)))
theorem fn60 : FnOK Try.prog 60 19 c60 [.tmp 4] := .of (by kernel_rfl)
/-! 'dynpos/dynposmake.Mod' -/
def c61 : Cd :=
(.seq (.ops [.k (some 4) none (.asg (.const (.int .i64 0)))])
(.seq (.seq (.ops [.f (some 5) none (.mv (.tmp 1)),
  .f (some 6) none (.bin .lss (.tmp 5) (.const (.int .i64 1)))])
(.cond (.tmp 6)
 (.seq (.ops [.k (some 4) none (.asg (.const (.int .i64 0)))])
 .ret)
 .skip))
(.seq (.ops [.f (some 7) none (.mv (.tmp 0)),
  .f (some 8) none (.mv (.tmp 1)),
  .f (some 9) none (.bin .rem (.tmp 7) (.tmp 8)),
  .f (some 10) none (.mv (.tmp 1)),
  .f (some 11) none (.bin .add (.tmp 9) (.tmp 10)),
  .f (some 12) none (.mv (.tmp 1)),
  .f (some 13) none (.bin .rem (.tmp 11) (.tmp 12)),
  .k (some 4) none (.asg (.tmp 13))])
.ret)))
theorem fn61 : FnOK Try.prog 61 14 c61 [.tmp 4] := .of (by kernel_rfl)
/-! 'dynpos/design.Common$1' -/
def c62 : Cd :=
(.seq (.ops [.k (some 4) none (.asg (.const (.bool false)))])
(.seq (.ops [.f (some 5) none (.faddr 2 (.tmp 1)),
  .f (some 6) none (.load none (.tmp 5)),
  .f (some 7) none (.mv (.tmp 0)),
  .f (some 8) none (.iaddr 2 none (.tmp 6) (.tmp 7)),
  .f (some 9) none (.faddr 1 (.tmp 8)),
  .f (some 10) none (.load none (.tmp 9)),
  .f (some 11) none (.mkfn 63 [] [(.tmp 2)]),
  .k (some 12) none (.call 38 [(.tmp 10), (.tmp 11)]),
  .k (some 4) none (.asg (.tmp 12))])
.ret))
theorem fn62 : FnOK Try.prog 62 13 c62 [.tmp 4] := .of (by kernel_rfl)
/-! 'dynpos/design.Common$1$1' -/
def c63 : Cd :=
(.seq (.ops [.k (some 2) none (.box 29 2 (.tmp 0)),
  .k (some 3) none (.asg (.const (.bool false)))])
(.seq (.ops [.f (some 4) none (.load none (.tmp 1)),
  .f (some 5) none (.load (some 2) (.tmp 2)),
  .k (some 6) none (.call 15 [(.tmp 4), (.tmp 5)]),
  .k (some 3) none (.asg (.tmp 6))])
.ret))
theorem fn63 : FnOK Try.prog 63 7 c63 [.tmp 3] := .of (by kernel_rfl)
/-! 'dynpos/dynposref26.meets' -/
def c64_0 : Cd :=
(.block 1
 (.seq (.ops [.f (some 11) none (.iaddr 2 none (.tmp 7) (.tmp 9)),
   .f (some 12) none (.load (some 2) (.tmp 11)),
   .k (some 6) none (.alloc 29 [(.int .i64 0), (.int .i64 0)]),
   .k none none (.store 2 (.tmp 6) (.tmp 12))])
 (.seq (.ops [.f (some 13) none (.mv (.tmp 1)),
   .f (some 14) none (.load (some 2) (.tmp 6)),
   .k (some 15) none (.call 16 [(.tmp 13), (.tmp 14)])])
 (.cond (.tmp 15)
  (.seq (.ops [.k (some 4) none (.asg (.const (.bool true)))])
  .ret)
  .skip))))
def c64 : Cd :=
(.seq (.ops [.k (some 4) none (.asg (.const (.bool false)))])
(.seq (.seq (.ops [.f (some 7) none (.mv (.tmp 0)),
  .f (some 8) none (.len (.tmp 7)),
  .f (some 9) none (.mv (.const (.int .i64 0)))])
(rangeC 0 9 8 10 16 c64_0))
(.seq (.ops [.k (some 4) none (.asg (.const (.bool false)))])
.ret)))
theorem fn64 : FnOK Try.prog 64 17 c64 [.tmp 4] := .of (by kernel_rfl)
/-! 'slices.IndexFunc[[]dynpos/api.Part,dynpos/api.Part]' -/
def c65_0 : Cd :=
(.block 1
 (.seq (.ops [.f (some 10) none (.mv (.tmp 8)),
   .k (some 5) none (.asg (.tmp 10))])
 (.seq (.ops [.f (some 11) none (.mv (.tmp 1)),
   .f (some 12) none (.mv (.tmp 0)),
   .f (some 13) none (.mv (.tmp 5)),
   .f (some 14) none (.iaddr 2 none (.tmp 12) (.tmp 13)),
   .f (some 15) none (.load (some 2) (.tmp 14)),
   .k (some 16) none (.callv (.tmp 11) [(.tmp 15)])])
 (.cond (.tmp 16)
  (.seq (.ops [.f (some 17) none (.mv (.tmp 5)),
    .k (some 4) none (.asg (.tmp 17))])
  .ret)
  .skip))))
def c65 : Cd :=
(.seq (.ops [.k (some 4) none (.asg (.const (.int .i64 0)))])
(.seq (.seq (.ops [.f (some 6) none (.mv (.tmp 0)),
  .f (some 7) none (.len (.tmp 6)),
  .f (some 8) none (.mv (.const (.int .i64 0)))])
(rangeC 0 8 7 9 18 c65_0))
(.seq (.ops [.k (some 4) none (.asg (.const (.int .i64 (-1))))])
.ret)))
theorem fn65 : FnOK Try.prog 65 19 c65 [.tmp 4] := .of (by kernel_rfl)
/-! 'cmp.Or[int]' -/
def c66_0 : Cd :=
(.block 1
 (.seq (.ops [.f (some 10) none (.iaddr 1 none (.tmp 6) (.tmp 8)),
   .f (some 11) none (.load none (.tmp 10)),
   .k (some 5) none (.asg (.tmp 11))])
 (.seq (.ops [.f (some 12) none (.mv (.tmp 5)),
   .f (some 13) none (.mv (.tmp 3)),
   .f (some 14) none (.bin .neq (.tmp 12) (.tmp 13))])
 (.cond (.tmp 14)
  (.seq (.ops [.f (some 15) none (.mv (.tmp 5)),
    .k (some 2) none (.asg (.tmp 15))])
  .ret)
  .skip))))
def c66 : Cd :=
(.seq (.ops [.k (some 2) none (.asg (.const (.int .i64 0)))])
(.seq (.ops [.k (some 3) none (.asg (.const (.int .i64 0)))])
(.seq (.seq (.ops [.f (some 6) none (.mv (.tmp 0)),
  .f (some 7) none (.len (.tmp 6)),
  .f (some 8) none (.mv (.const (.int .i64 0)))])
(rangeC 0 8 7 9 16 c66_0))
(.seq (.ops [.f (some 17) none (.mv (.tmp 3)),
  .k (some 2) none (.asg (.tmp 17))])
.ret))))
theorem fn66 : FnOK Try.prog 66 18 c66 [.tmp 2] := .of (by kernel_rfl)
/-! 'cmp.Compare[int]' -/
def c67 : Cd :=
(.seq (.ops [.k (some 4) none (.asg (.const (.int .i64 0)))])
(.seq (.ops [.f (some 7) none (.mv (.tmp 0)),
  .k (some 8) none (.call 79 [(.tmp 7)]),
  .k (some 5) none (.asg (.tmp 8))])
(.seq (.ops [.f (some 9) none (.mv (.tmp 1)),
  .k (some 10) none (.call 79 [(.tmp 9)]),
  .k (some 6) none (.asg (.tmp 10))])
(.seq (.seq (.ops [.f (some 11) none (.mv (.tmp 5))])
(.cond (.tmp 11)
 (.seq (.seq (.ops [.f (some 12) none (.mv (.tmp 6))])
 (.cond (.tmp 12)
  (.seq (.ops [.k (some 4) none (.asg (.const (.int .i64 0)))])
  .ret)
  .skip))
 (.seq (.ops [.k (some 4) none (.asg (.const (.int .i64 (-1))))])
 .ret))
 .skip))
(.seq (.seq (.ops [.f (some 13) none (.mv (.tmp 6))])
(.cond (.tmp 13)
 (.seq (.ops [.k (some 4) none (.asg (.const (.int .i64 1)))])
 .ret)
 .skip))
(.seq (.seq (.ops [.f (some 14) none (.mv (.tmp 0)),
  .f (some 15) none (.mv (.tmp 1)),
  .f (some 16) none (.bin .lss (.tmp 14) (.tmp 15))])
(.cond (.tmp 16)
 (.seq (.ops [.k (some 4) none (.asg (.const (.int .i64 (-1))))])
 .ret)
 .skip))
(.seq (.seq (.ops [.f (some 17) none (.mv (.tmp 0)),
  .f (some 18) none (.mv (.tmp 1)),
  .f (some 19) none (.bin .gtr (.tmp 17) (.tmp 18))])
(.cond (.tmp 19)
 (.seq (.ops [.k (some 4) none (.asg (.const (.int .i64 1)))])
 .ret)
 .skip))
(.seq (.ops [.k (some 4) none (.asg (.const (.int .i64 0)))])
.ret))))))))
theorem fn67 : FnOK Try.prog 67 20 c67 [.tmp 4] := .of (by kernel_rfl)
/-! 'slices.Index[[]dynpos/api.Part,dynpos/api.Part]' -/
def c68_0 : Cd :=
(.block 1
 (.seq (.ops [.f (some 10) none (.mv (.tmp 8)),
   .k (some 5) none (.asg (.tmp 10))])
 (.seq (.opd [⟨0, .f (some 11) none (.load (some 2) (.tmp 3)), []⟩,
   ⟨1, .f (some 12) none (.mv (.tmp 0)), []⟩,
   ⟨2, .f (some 13) none (.mv (.tmp 5)), []⟩,
   ⟨3, .f (some 14) none (.iaddr 2 none (.tmp 12) (.tmp 13)), []⟩,
   ⟨4, .f (some 15) none (.load (some 2) (.tmp 14)), []⟩,
   ⟨5, .f (some 16) none (.eql false (.st [(0, none, .num), (1, none, .num)]) (.tmp 11) (.tmp 15)), []⟩])
 (.cond (.tmp 16)
  (.seq (.ops [.f (some 17) none (.mv (.tmp 5)),
    .k (some 4) none (.asg (.tmp 17))])
  .ret)
  .skip))))
def c68 : Cd :=
(.seq (.ops [.k (some 3) none (.box 29 2 (.tmp 1)),
  .k (some 4) none (.asg (.const (.int .i64 0)))])
(.seq (.seq (.ops [.f (some 6) none (.mv (.tmp 0)),
  .f (some 7) none (.len (.tmp 6)),
  .f (some 8) none (.mv (.const (.int .i64 0)))])
(rangeC 0 8 7 9 18 c68_0))
(.seq (.ops [.k (some 4) none (.asg (.const (.int .i64 (-1))))])
.ret)))
theorem fn68 : FnOK Try.prog 68 19 c68 [.tmp 4] := .of (by kernel_rfl)
/-! 'slices.Grow[[]dynpos/api.Part,dynpos/api.Part]' -/
def c69 : Cd :=
(.seq (.ops [.k (some 4) none (.asg (.const (.slice none 0 0)))])
(.seq (.seq (.ops [.f (some 5) none (.mv (.tmp 1)),
  .f (some 6) none (.bin .lss (.tmp 5) (.const (.int .i64 0)))])
(.cond (.tmp 6)
 .bad
 .skip))
(.seq (.seq (.ops [.f (some 8) none (.mv (.tmp 1)),
  .f (some 9) none (.mv (.tmp 0)),
  .k (some 10) none (.gen .cap [(.tmp 9)]),
  .f (some 11) none (.mv (.tmp 0)),
  .f (some 12) none (.len (.tmp 11)),
  .f (some 13) none (.bin .sub (.tmp 10) (.tmp 12)),
  .f (some 14) none (.bin .sub (.tmp 8) (.tmp 13)),
  .k (some 1) none (.asg (.tmp 14))])
(.seq (.ops [.f (some 15) none (.mv (.tmp 1)),
  .f (some 16) none (.bin .gtr (.tmp 15) (.const (.int .i64 0)))])
(.cond (.tmp 16)
 (.ops [.f (some 17) none (.mv (.tmp 0)),
   .f (some 18) none (.mv (.tmp 0)),
   .k (some 19) none (.gen .cap [(.tmp 18)]),
   .f (some 20) none (.slc 2 (.tmp 17) none (some (.tmp 19)) none),
   .f (some 21) none (.mv (.tmp 1)),
   .k (some 22) none (.gen (.appmk 29) [(.tmp 20), (.tmp 21)]),
   .f (some 23) none (.mv (.tmp 0)),
   .f (some 24) none (.len (.tmp 23)),
   .f (some 25) none (.slc 2 (.tmp 22) none (some (.tmp 24)) none),
   .k (some 0) none (.asg (.tmp 25))])
 .skip)))
(.seq (.ops [.f (some 26) none (.mv (.tmp 0)),
  .k (some 4) none (.asg (.tmp 26))])
.ret))))
theorem fn69 : FnOK Try.prog 69 27 c69 [.tmp 4] := .of (by kernel_rfl)
/-! 'dynpos/design.ascending[dynpos/api.Link]' -/
def c72_0 : Cd :=
(.seq (.seq (.ops [.f (some 6) none (.mv (.tmp 5)),
  .f (some 7) none (.mv (.tmp 0)),
  .f (some 8) none (.len (.tmp 7)),
  .f (some 9) none (.bin .lss (.tmp 6) (.tmp 8))])
(.cond (.tmp 9)
 .skip
 (.exit 0)))
(.seq (.block 1
 (.seq (.opd [⟨0, .f (some 12) none (.mv (.tmp 1)), []⟩,
   ⟨1, .f (some 13) none (.mv (.tmp 0)), []⟩,
   ⟨2, .f (some 14) none (.mv (.tmp 5)), []⟩,
   ⟨3, .f (some 15) none (.bin .sub (.tmp 14) (.const (.int .i64 1))), []⟩,
   ⟨4, .f (some 16) none (.iaddr 4 none (.tmp 13) (.tmp 15)), []⟩,
   ⟨5, .f (some 17) none (.load (some 4) (.tmp 16)), []⟩,
   ⟨6, .f (some 18) none (.mv (.tmp 0)), []⟩,
   ⟨7, .f (some 19) none (.mv (.tmp 5)), []⟩,
   ⟨8, .f (some 20) none (.iaddr 4 none (.tmp 18) (.tmp 19)), []⟩,
   ⟨9, .f (some 21) none (.load (some 4) (.tmp 20)), []⟩,
   ⟨10, .k (some 22) none (.callv (.tmp 12) [(.tmp 17), (.tmp 21)]), []⟩,
   ⟨11, .f (some 23) none (.bin .geq (.tmp 22) (.const (.int .i64 0))), []⟩])
 (.cond (.tmp 23)
  (.seq (.ops [.k (some 4) none (.asg (.const (.bool false)))])
  .ret)
  .skip)))
(.ops [.f (some 10) none (.mv (.tmp 5)),
  .f (some 11) none (.bin .add (.tmp 10) (.const (.int .i64 1))),
  .k (some 5) none (.asg (.tmp 11))])))
def c72 : Cd :=
(.seq (.ops [.k (some 4) none (.asg (.const (.bool false)))])
(.seq (.seq (.ops [.k (some 5) none (.asg (.const (.int .i64 1)))])
(.block 0
 (.loop c72_0)))
(.seq (.ops [.k (some 4) none (.asg (.const (.bool true)))])
.ret)))
theorem fn72 : FnOK Try.prog 72 24 c72 [.tmp 4] := .of (by kernel_rfl)
/-! 'dynpos/design.links$1' -/
def c73 : Cd :=
(.seq (.ops [.k (some 2) none (.box 60 4 (.tmp 0)),
  .k (some 3) none (.box 60 4 (.tmp 1)),
  .k (some 4) none (.asg (.const (.int .i64 0)))])
(.seq (.opd [⟨0, .f (some 5) none (.faddr 0 (.tmp 2)), []⟩,
  ⟨1, .f (some 6) none (.load (some 2) (.tmp 5)), []⟩,
  ⟨2, .f (some 7) none (.faddr 0 (.tmp 3)), []⟩,
  ⟨3, .f (some 8) none (.load (some 2) (.tmp 7)), []⟩,
  ⟨5, .f (some 10) none (.faddr 2 (.tmp 2)), []⟩,
  ⟨6, .f (some 11) none (.load (some 2) (.tmp 10)), []⟩,
  ⟨7, .f (some 12) none (.faddr 2 (.tmp 3)), []⟩,
  ⟨8, .f (some 13) none (.load (some 2) (.tmp 12)), []⟩,
  ⟨4, .k (some 9) none (.call 42 [(.tmp 6), (.tmp 8)]), [.f (some 11) none (.load (some 2) (.tmp 10)), .f (some 13) none (.load (some 2) (.tmp 12))]⟩,
  ⟨9, .k (some 14) none (.call 42 [(.tmp 11), (.tmp 13)]), []⟩,
  ⟨10, .k (some 15) none (.bslice 3 1 2 [(.int .i64 0)] [(0, 1, (.tmp 9)), (1, 1, (.tmp 14))]), []⟩,
  ⟨11, .k (some 16) none (.call 66 [(.tmp 15)]), []⟩,
  ⟨12, .k (some 4) none (.asg (.tmp 16)), []⟩])
.ret))
theorem fn73 : FnOK Try.prog 73 17 c73 [.tmp 4] := .of (by kernel_rfl)
/-! 'dynpos/design.groups$1' -/
def c74 : Cd :=
(.seq (.ops [.k (some 2) none (.box 32 2 (.tmp 0)),
  .k (some 3) none (.asg (.const (.bool false)))])
(.seq (.ops [.f (some 4) none (.faddr 0 (.tmp 2)),
  .f (some 5) none (.load none (.tmp 4)),
  .f (some 6) none (.faddr 0 (.tmp 1)),
  .f (some 7) none (.load none (.tmp 6)),
  .f (some 8) none (.bins .eql (.tmp 5) (.tmp 7)),
  .k (some 3) none (.asg (.tmp 8))])
.ret))
theorem fn74 : FnOK Try.prog 74 9 c74 [.tmp 3] := .of (by kernel_rfl)
/-! 'dynpos/design.groups$2' -/
def c75 : Cd :=
(.seq (.ops [.k (some 2) none (.box 29 2 (.tmp 0)),
  .k (some 3) none (.asg (.const (.bool false)))])
(.seq (.ops [.f (some 4) none (.faddr 0 (.tmp 1)),
  .f (some 5) none (.load none (.tmp 4)),
  .f (some 6) none (.load (some 2) (.tmp 2)),
  .k (some 7) none (.call 15 [(.tmp 5), (.tmp 6)]),
  .f (some 8) none (.un .not (.tmp 7)),
  .k (some 3) none (.asg (.tmp 8))])
.ret))
theorem fn75 : FnOK Try.prog 75 9 c75 [.tmp 3] := .of (by kernel_rfl)
/-! 'dynpos/design.Word' -/
def c76_0 : Cd :=
(.block 1
 (.seq (.ops [.f (some 19) none (.mv (.tmp 17)),
   .f (some 20) none (.iaddr 1 none (.tmp 15) (.tmp 17)),
   .f (some 21) none (.load none (.tmp 20)),
   .k (some 3) none (.asg (.tmp 19)),
   .k (some 4) none (.asg (.tmp 21))])
 (.seq (.ops [.f (some 22) none (.mv (.tmp 4)),
   .f (some 23) none (.bin .geq (.tmp 22) (.const (.int .u8 97))),
   .f (some 24) none (.mv (.tmp 23)),
   .f (some 25) (some (24, true)) (.mv (.tmp 4)),
   .f (some 26) (some (24, true)) (.bin .leq (.tmp 25) (.const (.int .u8 122))),
   .f (some 27) none (.pick (.tmp 24) (.tmp 26) (.const (.bool false))),
   .k (some 5) none (.asg (.tmp 27))])
 (.seq (.ops [.f (some 28) none (.mv (.tmp 5)),
   .f (some 29) none (.un .not (.tmp 28)),
   .f (some 30) none (.mv (.tmp 29)),
   .f (some 31) (some (30, true)) (.mv (.tmp 3)),
   .f (some 32) (some (30, true)) (.bin .eql (.tmp 31) (.const (.int .i64 0))),
   .f (some 33) (some (30, true)) (.mv (.tmp 32)),
   .f (some 34) (some (33, false)) (.mv (.tmp 4)),
   .f (some 35) (some (33, false)) (.bin .neq (.tmp 34) (.const (.int .u8 45))),
   .f (some 36) (some (33, false)) (.mv (.tmp 35)),
   .f (some 37) (some (36, true)) (.mv (.tmp 4)),
   .f (some 38) (some (36, true)) (.bin .lss (.tmp 37) (.const (.int .u8 48))),
   .f (some 39) (some (36, true)) (.mv (.tmp 38)),
   .f (some 40) (some (39, false)) (.mv (.tmp 4)),
   .f (some 41) (some (39, false)) (.bin .gtr (.tmp 40) (.const (.int .u8 57))),
   .f (some 42) (some (36, true)) (.pick (.tmp 39) (.const (.bool true)) (.tmp 41)),
   .f (some 43) (some (33, false)) (.pick (.tmp 36) (.tmp 42) (.const (.bool false))),
   .f (some 44) (some (30, true)) (.pick (.tmp 33) (.const (.bool true)) (.tmp 43)),
   .f (some 45) none (.pick (.tmp 30) (.tmp 44) (.const (.bool false)))])
 (.cond (.tmp 45)
  (.seq (.ops [.k (some 2) none (.asg (.const (.bool false)))])
  .ret)
  .skip)))))
def c76 : Cd :=
(.seq (.ops [.k (some 2) none (.asg (.const (.bool false)))])
(.seq (.seq (.ops [.f (some 6) none (.mv (.tmp 0)),
  .f (some 7) none (.lens (.tmp 6)),
  .f (some 8) none (.bin .lss (.tmp 7) (.const (.int .i64 1))),
  .f (some 9) none (.mv (.tmp 8)),
  .f (some 10) (some (9, false)) (.mv (.tmp 0)),
  .f (some 11) (some (9, false)) (.lens (.tmp 10)),
  .f (some 12) (some (9, false)) (.bin .gtr (.tmp 11) (.const (.int .i64 12))),
  .f (some 13) none (.pick (.tmp 9) (.const (.bool true)) (.tmp 12))])
(.cond (.tmp 13)
 (.seq (.ops [.k (some 2) none (.asg (.const (.bool false)))])
 .ret)
 .skip))
(.seq (.seq (.ops [.f (some 14) none (.mv (.tmp 0)),
  .k (some 15) none (.gen (.s2b 5) [(.tmp 14)]),
  .f (some 16) none (.len (.tmp 15)),
  .f (some 17) none (.mv (.const (.int .i64 0)))])
(rangeC 0 17 16 18 46 c76_0))
(.seq (.ops [.k (some 2) none (.asg (.const (.bool true)))])
.ret))))
theorem fn76 : FnOK Try.prog 76 47 c76 [.tmp 2] := .of (by kernel_rfl)
/-! 'slices.ContainsFunc[[]dynpos/api.Group,dynpos/api.Group]' -/
def c77 : Cd :=
(.seq (.ops [.k (some 4) none (.asg (.const (.bool false)))])
(.seq (.ops [.f (some 5) none (.mv (.tmp 0)),
  .f (some 6) none (.mv (.tmp 1)),
  .k (some 7) none (.call 90 [(.tmp 5), (.tmp 6)]),
  .f (some 8) none (.bin .geq (.tmp 7) (.const (.int .i64 0))),
  .k (some 4) none (.asg (.tmp 8))])
.ret))
theorem fn77 : FnOK Try.prog 77 9 c77 [.tmp 4] := .of (by kernel_rfl)
/-! 'slices.Index[[]dynpos/api.Link,dynpos/api.Link]' -/
def c78_0 : Cd :=
(.block 1
 (.seq (.ops [.f (some 10) none (.mv (.tmp 8)),
   .k (some 5) none (.asg (.tmp 10))])
 (.seq (.opd [⟨0, .f (some 11) none (.load (some 4) (.tmp 3)), []⟩,
   ⟨1, .f (some 12) none (.mv (.tmp 0)), []⟩,
   ⟨2, .f (some 13) none (.mv (.tmp 5)), []⟩,
   ⟨3, .f (some 14) none (.iaddr 4 none (.tmp 12) (.tmp 13)), []⟩,
   ⟨4, .f (some 15) none (.load (some 4) (.tmp 14)), []⟩,
   ⟨5, .f (some 16) none (.eql false (.st [(0, (some 2), (.st [(0, none, .num), (1, none, .num)])), (2, (some 2), (.st [(0, none, .num), (1, none, .num)]))]) (.tmp 11) (.tmp 15)), []⟩])
 (.cond (.tmp 16)
  (.seq (.ops [.f (some 17) none (.mv (.tmp 5)),
    .k (some 4) none (.asg (.tmp 17))])
  .ret)
  .skip))))
def c78 : Cd :=
(.seq (.ops [.k (some 3) none (.box 60 4 (.tmp 1)),
  .k (some 4) none (.asg (.const (.int .i64 0)))])
(.seq (.seq (.ops [.f (some 6) none (.mv (.tmp 0)),
  .f (some 7) none (.len (.tmp 6)),
  .f (some 8) none (.mv (.const (.int .i64 0)))])
(rangeC 0 8 7 9 18 c78_0))
(.seq (.ops [.k (some 4) none (.asg (.const (.int .i64 (-1))))])
.ret)))
theorem fn78 : FnOK Try.prog 78 19 c78 [.tmp 4] := .of (by kernel_rfl)
/-! 'cmp.isNaN[int]' -/
def c79 : Cd :=
(.seq (.ops [.k (some 2) none (.asg (.const (.bool false)))])
(.seq (.ops [.f (some 3) none (.mv (.tmp 0)),
  .f (some 4) none (.mv (.tmp 0)),
  .f (some 5) none (.bin .neq (.tmp 3) (.tmp 4)),
  .k (some 2) none (.asg (.tmp 5))])
.ret))
theorem fn79 : FnOK Try.prog 79 6 c79 [.tmp 2] := .of (by kernel_rfl)
/-! 'slices.IndexFunc[[]dynpos/api.Group,dynpos/api.Group]' -/
def c90_0 : Cd :=
(.block 1
 (.seq (.ops [.f (some 10) none (.mv (.tmp 8)),
   .k (some 5) none (.asg (.tmp 10))])
 (.seq (.ops [.f (some 11) none (.mv (.tmp 1)),
   .f (some 12) none (.mv (.tmp 0)),
   .f (some 13) none (.mv (.tmp 5)),
   .f (some 14) none (.iaddr 2 none (.tmp 12) (.tmp 13)),
   .f (some 15) none (.load (some 2) (.tmp 14)),
   .k (some 16) none (.callv (.tmp 11) [(.tmp 15)])])
 (.cond (.tmp 16)
  (.seq (.ops [.f (some 17) none (.mv (.tmp 5)),
    .k (some 4) none (.asg (.tmp 17))])
  .ret)
  .skip))))
def c90 : Cd :=
(.seq (.ops [.k (some 4) none (.asg (.const (.int .i64 0)))])
(.seq (.seq (.ops [.f (some 6) none (.mv (.tmp 0)),
  .f (some 7) none (.len (.tmp 6)),
  .f (some 8) none (.mv (.const (.int .i64 0)))])
(rangeC 0 8 7 9 18 c90_0))
(.seq (.ops [.k (some 4) none (.asg (.const (.int .i64 (-1))))])
.ret)))
theorem fn90 : FnOK Try.prog 90 19 c90 [.tmp 4] := .of (by kernel_rfl)
end Go.Proofs.Ytkgeadhnagnloaa.H
