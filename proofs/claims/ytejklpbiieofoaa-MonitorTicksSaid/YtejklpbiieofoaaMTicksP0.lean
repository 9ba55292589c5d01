/- 'dynpos/dynposlaw07.MonitorTicks': the tree of its walk, put together of the trees of its parts; each of its leaves is true. -/
import Derived.Test.YtejklpbiieofoaaMTL
import Derived.Test.YtejklpbiieofoaaEvW
set_option linter.unusedSimpArgs false
set_option linter.unusedVariables false
set_option maxRecDepth 100000
namespace Go.Proofs.Ytejklpbiieofoaa.monitorTicks
open Go.RowKit Ev
def SS : List Sh := []
def hints : FuncId → Nat → Option Hint := fun _ _ => none
noncomputable abbrev LP : Program := Try.prog
noncomputable abbrev LC : Ctx := rowCtxE (exL en27) [] hints
abbrev LF : Nat := 60
abbrev LD : Nat := 11
abbrev LG : FuncId := 5
noncomputable def fn0 : Func := (LP.funcs[LG]?).getD default
noncomputable def LK : X → St → T Leaf := endX LP fn0 fun v σ => .leaf (nrmV σ.fx v, σ.b, σ.wd)
noncomputable def v0 : VT := (.node .nil (some (0, 9223372036854775807)) .nil)
noncomputable def v1 : VT := (.node v0 (some (0, 9223372036854775807)) .nil)
noncomputable def e2 : E := (.mn (.v 0) (.lit 600))
noncomputable def ct0 : Ct := .go (fn0.body.getD .skip) 0 []
noncomputable def st0 : St := ⟨[(.sls 0 (.v 0) (.v 1)), .undef, .undef, .undef, .undef, .undef, .undef, .undef, .undef, .undef, .undef, .undef, .undef, .undef, .undef, .undef, .undef, .undef, .undef, .undef, .undef, .undef, .undef, .undef, .undef, .undef, .undef, .undef, .undef, .undef, .undef, .undef, .undef, .undef, .undef, .undef, .undef, .undef, .undef, .undef, .undef, .undef, .undef, .undef, .undef, .undef, .undef, .undef, .undef, .undef, .undef, .undef, .undef, .undef, .undef, .undef, .undef, .undef, .undef, .undef, .undef, .undef, .undef, .undef, .undef, .undef, .undef, .undef, .undef, .undef, .undef, .undef, .undef, .undef, .undef, .undef, .undef, .undef, .undef, .undef, .undef, .undef, .undef, .undef, .undef, .undef, .undef, .undef, .undef, .undef, .undef, .undef, .undef, .undef, .undef, .undef, .undef, .undef, .undef, .undef, .undef, .undef, .undef, .undef, .undef, .undef, .undef, .undef, .undef, .undef, .undef, .undef, .undef, .undef, .undef], [], ⟨⟨[], v1, 2⟩, [((.le e2 (.v 1)), true), ((.le (.v 0) (.v 1)), true)]⟩, 2, [], []⟩
noncomputable def ct1 : Ct := grp 9 ct0
noncomputable def s3 : SV := (.agg [(.int .i64 (.v 2)), (.int .i64 (.v 3)), (.int .i64 (.v 4)), (.int .i64 (.v 5))])
noncomputable def s4 : SV := (.agg [(.int .i64 (.v 51)), (.int .i64 (.v 52)), (.int .i64 (.v 53)), (.int .i64 (.v 54)), (.int .i64 (.v 55)), (.int .i64 (.v 56)), (.int .i64 (.v 57)), (.int .i64 (.v 58)), (.bool (.nz (.v 59))), (.int .i64 (.v 60)), (.int .i64 (.v 61))])
noncomputable def s5 : SV := (.tup [s4, (.int .i64 (.v 62))])
noncomputable def b6 : B := (.not (.eq (.v 62) (.lit 0)))
noncomputable def s7 : SV := (.grd b6 (.int .i64 (.v 62)))
noncomputable def b8 : B := (.eq (.v 62) (.lit 16))
noncomputable def s9 : SV := (.grd b6 (.bool (.not b8)))
noncomputable def s10 : SV := (.bool (.and b6 (.not b8)))
noncomputable def o11 : Option (TypeId × List SV) := (some (49, [(.sls 0 e2 (.v 1)), (.int .i64 (.v 50))]))
noncomputable def o12 : Option (TypeId × List SV) := (some (26, [(.int .i64 (.v 2)), (.int .i64 (.v 3)), (.int .i64 (.v 4)), (.int .i64 (.v 5))]))
noncomputable def o13 : Option (TypeId × List SV) := (some (31, [(.int .i64 (.v 51)), (.int .i64 (.v 52)), (.int .i64 (.v 53)), (.int .i64 (.v 54)), (.int .i64 (.v 55)), (.int .i64 (.v 56)), (.int .i64 (.v 57)), (.int .i64 (.v 58)), (.bool (.nz (.v 59))), (.int .i64 (.v 60)), (.int .i64 (.v 61))]))
noncomputable def o14 : Option (TypeId × List SV) := (some (3, [(.int .i64 (.lit 1)), (.int .i64 (.lit 1)), (.int .i64 (.lit 2)), (.int .i64 (.lit 5)), (.int .i64 (.lit 0))]))
noncomputable def o15 : Option (TypeId × List SV) := (some (29, [(.int .i64 (.v 11)), (.int .i64 (.v 12)), (.int .i64 (.v 13)), (.int .i64 (.v 14))]))
noncomputable def o16 : Option (TypeId × List SV) := (some (29, [(.int .i64 (.v 18)), (.int .i64 (.v 19)), (.int .i64 (.v 20)), (.int .i64 (.v 21))]))
noncomputable def o17 : Option (TypeId × List SV) := (some (29, [(.int .i64 (.v 25)), (.int .i64 (.v 26)), (.int .i64 (.v 27)), (.int .i64 (.v 28))]))
noncomputable def o18 : Option (TypeId × List SV) := (some (29, [(.int .i64 (.v 32)), (.int .i64 (.v 33)), (.int .i64 (.v 34)), (.int .i64 (.v 35))]))
noncomputable def o19 : Option (TypeId × List SV) := (some (29, [(.int .i64 (.v 39)), (.int .i64 (.v 40)), (.int .i64 (.v 41)), (.int .i64 (.v 42))]))
noncomputable def o20 : Option (TypeId × List SV) := (some (29, [(.int .i64 (.v 46)), (.int .i64 (.v 47)), (.int .i64 (.v 48)), (.int .i64 (.v 49))]))
noncomputable def o21 : Option (TypeId × List SV) := (some (29, [(.int .i64 (.v 11)), (.int .i64 (.v 12)), (.int .i64 (.v 13)), (.int .i64 (.v 14)), (.int .i64 (.v 18)), (.int .i64 (.v 19)), (.int .i64 (.v 20)), (.int .i64 (.v 21)), (.int .i64 (.v 25)), (.int .i64 (.v 26)), (.int .i64 (.v 27)), (.int .i64 (.v 28)), (.int .i64 (.v 32)), (.int .i64 (.v 33)), (.int .i64 (.v 34)), (.int .i64 (.v 35)), (.int .i64 (.v 39)), (.int .i64 (.v 40)), (.int .i64 (.v 41)), (.int .i64 (.v 42)), (.int .i64 (.v 46)), (.int .i64 (.v 47)), (.int .i64 (.v 48)), (.int .i64 (.v 49))]))
noncomputable def e22 : E := (.sub (.sub (.v 7) (.lit 1)) (.lit 1))
noncomputable def e23 : E := (.sub (.sub e22 (.lit 1)) (.lit 1))
noncomputable def e24 : E × Int × Int := ((.sub e23 (.lit 1)), 1, 1)
noncomputable def e25 : E × Int × Int := ((.sub e22 (.lit 1)), 1, 3)
noncomputable def e26 : E × Int × Int := ((.sub (.v 7) (.lit 1)), 1, 5)
noncomputable def v27 : VT := (.node .nil (some (0, 600)) .nil)
noncomputable def v28 : VT := (.node .nil (some ((-30), 1000)) .nil)
noncomputable def v29 : VT := (.node v27 (some (0, 600)) v28)
noncomputable def v30 : VT := (.node .nil (some (0, 60)) .nil)
noncomputable def v31 : VT := (.node v30 (some (0, 4)) v30)
noncomputable def v32 : VT := (.node v29 (some (1, 6)) v31)
noncomputable def v33 : VT := (.node .nil (some (1, 200)) .nil)
noncomputable def v34 : VT := (.node v33 (some ((-30), 1000)) v30)
noncomputable def v35 : VT := (.node .nil (some (0, 1)) .nil)
noncomputable def v36 : VT := (.node v27 (some ((-20), 5)) v35)
noncomputable def v37 : VT := (.node v34 (some (0, 60)) v36)
noncomputable def v38 : VT := (.node v32 (some (0, 100)) v37)
noncomputable def v39 : VT := (.node v28 (some (0, 600)) v33)
noncomputable def v40 : VT := (.node .nil (some ((-20), 5)) .nil)
noncomputable def v41 : VT := (.node v40 (some (0, 60)) v40)
noncomputable def v42 : VT := (.node v39 (some (0, 4)) v41)
noncomputable def v43 : VT := (.node .nil (some (0, 4)) .nil)
noncomputable def v44 : VT := (.node v43 (some (1, 200)) v40)
noncomputable def v45 : VT := (.node v27 (some (0, 600)) v43)
noncomputable def v46 : VT := (.node v44 (some ((-20), 5)) v45)
noncomputable def v47 : VT := (.node v42 (some (0, 4)) v46)
noncomputable def v48 : VT := (.node v38 (some (0, 9223372036854775807)) v47)
noncomputable def v49 : VT := (.node v30 (some (0, 4)) v40)
noncomputable def v50 : VT := (.node v28 (some (0, 600)) v28)
noncomputable def v51 : VT := (.node v49 (some (0, 600)) v50)
noncomputable def v52 : VT := (.node v27 (some ((-20), 5)) v28)
noncomputable def v53 : VT := (.node .nil (some (0, 6)) .nil)
noncomputable def v54 : VT := (.node v43 (some (1, 200)) v53)
noncomputable def v55 : VT := (.node v52 (some ((-30), 1000)) v54)
noncomputable def v56 : VT := (.node v51 (some (1, 10)) v55)
noncomputable def v57 : VT := (.node v40 (some (0, 60)) v27)
noncomputable def v58 : VT := (.node .nil (some (0, 200)) .nil)
noncomputable def v59 : VT := (.node v33 (some ((-30), 1000)) v58)
noncomputable def v60 : VT := (.node v57 (some (0, 600)) v59)
noncomputable def v61 : VT := (.node v27 (some (0, 600)) v58)
noncomputable def v62 : VT := (.node .nil (some (1, 15)) .nil)
noncomputable def v63 : VT := (.node v30 (some (0, 4)) v62)
noncomputable def v64 : VT := (.node v61 (some (1, 200)) v63)
noncomputable def v65 : VT := (.node v60 (some (0, 600)) v64)
noncomputable def v66 : VT := (.node v56 (some (0, 3)) v65)
noncomputable def v67 : VT := (.node v48 (some (0, 9223372036854775807)) v66)
noncomputable def b68 : B := (.lt (.lit 0) (.sub e23 (.lit 1)))
noncomputable def b69 : B := (.lt (.lit 0) (.sub e22 (.lit 1)))
noncomputable def b70 : B := (.lt (.lit 0) (.sub (.v 7) (.lit 1)))
noncomputable def n71 : Nat × List E × Nat × Nat := (26, [(.v 2), (.v 3), (.v 4), (.v 5), (.v 11), (.v 12), (.v 13), (.v 14), (.v 18), (.v 19), (.v 20), (.v 21), (.v 25), (.v 26), (.v 27), (.v 28), (.v 32), (.v 33), (.v 34), (.v 35), (.v 39), (.v 40), (.v 41), (.v 42), (.v 46), (.v 47), (.v 48), (.v 49)], 51, 12)
noncomputable def e72 : E := (.sw (.v 9) 3 (.lit 5) (.lit 0))
noncomputable def e73 : E := (.sw (.v 9) 2 (.lit 2) e72)
noncomputable def e74 : E := (.sw (.v 9) 1 (.lit 1) e73)
noncomputable def e75 : E := (.sw (.v 9) 0 (.lit 1) e74)
noncomputable def e76 : E := (.sw (.v 16) 3 (.lit 5) (.lit 0))
noncomputable def e77 : E := (.sw (.v 16) 2 (.lit 2) e76)
noncomputable def e78 : E := (.sw (.v 16) 1 (.lit 1) e77)
noncomputable def e79 : E := (.sw (.v 16) 0 (.lit 1) e78)
noncomputable def e80 : E := (.add (.add (.lit 0) e75) e79)
noncomputable def e81 : E := (.sw (.v 23) 3 (.lit 5) (.lit 0))
noncomputable def e82 : E := (.sw (.v 23) 2 (.lit 2) e81)
noncomputable def e83 : E := (.sw (.v 23) 1 (.lit 1) e82)
noncomputable def e84 : E := (.sw (.v 23) 0 (.lit 1) e83)
noncomputable def e85 : E := (.sw (.v 30) 3 (.lit 5) (.lit 0))
noncomputable def e86 : E := (.sw (.v 30) 2 (.lit 2) e85)
noncomputable def e87 : E := (.sw (.v 30) 1 (.lit 1) e86)
noncomputable def e88 : E := (.sw (.v 30) 0 (.lit 1) e87)
noncomputable def e89 : E := (.add (.add e80 e84) e88)
noncomputable def e90 : E := (.sw (.v 37) 3 (.lit 5) (.lit 0))
noncomputable def e91 : E := (.sw (.v 37) 2 (.lit 2) e90)
noncomputable def e92 : E := (.sw (.v 37) 1 (.lit 1) e91)
noncomputable def e93 : E := (.sw (.v 37) 0 (.lit 1) e92)
noncomputable def e94 : E := (.sw (.v 44) 3 (.lit 5) (.lit 0))
noncomputable def e95 : E := (.sw (.v 44) 2 (.lit 2) e94)
noncomputable def e96 : E := (.sw (.v 44) 1 (.lit 1) e95)
noncomputable def e97 : E := (.sw (.v 44) 0 (.lit 1) e96)
noncomputable def e98 : E := (.add (.add e89 e93) e97)
noncomputable def n99 : Nat × List E × Nat × Nat := (12, [e98, e2, (.v 1), (.v 45)], 46, 5)
noncomputable def n100 : Nat × List E × Nat × Nat := (900, [(.lit 5), e2, (.v 43)], 44, 2)
noncomputable def n101 : Nat × List E × Nat × Nat := (12, [(.add e89 e93), e2, (.v 1), (.v 38)], 39, 5)
noncomputable def n102 : Nat × List E × Nat × Nat := (900, [(.lit 5), e2, (.v 36)], 37, 2)
noncomputable def n103 : Nat × List E × Nat × Nat := (12, [e89, e2, (.v 1), (.v 31)], 32, 5)
noncomputable def n104 : Nat × List E × Nat × Nat := (900, [(.lit 5), e2, (.v 29)], 30, 2)
noncomputable def n105 : Nat × List E × Nat × Nat := (12, [(.add e80 e84), e2, (.v 1), (.v 24)], 25, 5)
noncomputable def n106 : Nat × List E × Nat × Nat := (900, [(.lit 5), e2, (.v 22)], 23, 2)
noncomputable def n107 : Nat × List E × Nat × Nat := (12, [e80, e2, (.v 1), (.v 17)], 18, 5)
noncomputable def ct2 : Ct := adm LC LF LG 1 (.back .ret (Ct.fr ct1))
noncomputable def st2 : St := ⟨[(.sls 0 (.v 0) (.v 1)), .undef, (.bool (.lit false)), (.ptr 0 0), (.ptr 1 0), (.ptr 2 0), (.int .i64 (.v 62)), .undef, .undef, .undef, .undef, .undef, .undef, .undef, .undef, (.sls 0 (.v 0) (.v 1)), (.ptr 0 0), (.ptr 0 0), s3, s5, s3, (.ptr 0 0), (.slc 20 4 6 none), s5, s4, (.int .i64 (.v 62)), (.int .i64 (.v 62)), (.bool b6), (.bool b6), s7, s9, s10, .undef, .undef, .undef, .undef, .undef, .undef, .undef, .undef, .undef, .undef, .undef, .undef, .undef, .undef, .undef, .undef, .undef, .undef, .undef, .undef, .undef, .undef, .undef, .undef, .undef, .undef, .undef, .undef, .undef, .undef, .undef, .undef, .undef, .undef, .undef, .undef, .undef, .undef, .undef, .undef, .undef, .undef, .undef, .undef, .undef, .undef, .undef, .undef, .undef, .undef, .undef, .undef, .undef, .undef, .undef, .undef, .undef, .undef, .undef, .undef, .undef, .undef, .undef, .undef, .undef, .undef, .undef, .undef, .undef, .undef, .undef, .undef, .undef, .undef, .undef, .undef, .undef, .undef, .undef, .undef, .undef, .undef, .undef], [o11, o12, o13, o14, o15, none, o14, o16, none, o14, o17, none, o14, o18, none, o14, o19, none, o14, o20, o21], ⟨⟨[e24, (e23, 1, 2), e25, (e22, 1, 4), e26], v67, 63⟩, [(b8, false), ((.eq (.v 62) (.lit 0)), false), (b68, true), ((.lt (.lit 0) e23), true), (b69, true), ((.lt (.lit 0) e22), true), (b70, true), ((.lt (.lit 0) (.v 7)), true), ((.le e2 (.v 1)), true), ((.le (.v 0) (.v 1)), true)]⟩, 63, [2, 17, 20, 19, 0, 0, 18, 14, 17, 16, 0, 0, 15, 11, 14, 13, 0, 0, 12, 8, 11, 10, 0, 0, 9, 5, 8, 7, 0, 0, 6, 5, 4, 0, 0, 3, 0, 2, 1, 1, 0, 0], [n71, n99, n100, n101, n102, n103, n104, n105, n106, n107]⟩
noncomputable def tr2 : T Leaf :=
(.leaf ((.bool (.lit false)), [], []))
theorem th2 : (at_ LP LC LF (evD LP LC LF LD) LG LK ct2 st2).strip = tr2 := by kernel_rfl
noncomputable def s108 : SV := (.int .i64 (.add (.v 51) (.v 63)))
noncomputable def s109 : SV := (.agg [(.int .i64 (.v 65)), (.int .i64 (.v 66)), (.int .i64 (.v 67)), (.int .i64 (.v 68)), (.int .i64 (.v 69)), (.int .i64 (.v 70)), (.int .i64 (.v 71)), (.int .i64 (.v 72)), (.bool (.nz (.v 73))), (.int .i64 (.v 74)), (.int .i64 (.v 75))])
noncomputable def s110 : SV := (.tup [s109, (.int .i64 (.v 76))])
noncomputable def s111 : SV := (.agg [(.int .i64 (.v 79)), (.int .i64 (.v 80)), (.int .i64 (.v 81)), (.int .i64 (.v 82)), (.int .i64 (.v 83)), (.int .i64 (.v 84)), (.int .i64 (.v 85)), (.int .i64 (.v 86)), (.bool (.nz (.v 87))), (.int .i64 (.v 88)), (.int .i64 (.v 89))])
noncomputable def s112 : SV := (.tup [s111, (.int .i64 (.v 90))])
noncomputable def e113 : E := (.add (.add (.v 51) (.v 63)) (.v 77))
noncomputable def s114 : SV := (.agg [(.int .i64 (.v 91)), (.int .i64 (.v 92)), (.int .i64 (.v 93)), (.int .i64 (.v 94)), (.int .i64 (.v 95)), (.int .i64 (.v 96)), (.int .i64 (.v 97)), (.int .i64 (.v 98)), (.bool (.nz (.v 99))), (.int .i64 (.v 100)), (.int .i64 (.v 101))])
noncomputable def s115 : SV := (.tup [s114, (.int .i64 (.v 102))])
noncomputable def s116 : SV := (.agg [(.int .i64 (.lit 0)), (.int .i64 (.lit 0)), (.int .i64 (.lit 0)), (.int .i64 (.lit 0)), (.int .i64 (.lit 0)), (.int .i64 (.lit 0)), (.int .i64 (.lit 0)), (.int .i64 (.lit 0)), (.bool (.lit false)), (.int .i64 (.lit 0)), (.int .i64 (.lit 0))])
noncomputable def o117 : Option (TypeId × List SV) := (some (49, [(.sls 0 e2 (.v 1)), (.int .i64 (.v 78))]))
noncomputable def o118 : Option (TypeId × List SV) := (some (31, [(.int .i64 (.v 65)), (.int .i64 (.v 66)), (.int .i64 (.v 67)), (.int .i64 (.v 68)), (.int .i64 (.v 69)), (.int .i64 (.v 70)), (.int .i64 (.v 71)), (.int .i64 (.v 72)), (.bool (.nz (.v 73))), (.int .i64 (.v 74)), (.int .i64 (.v 75))]))
noncomputable def o119 : Option (TypeId × List SV) := (some (31, [(.int .i64 (.v 79)), (.int .i64 (.v 80)), (.int .i64 (.v 81)), (.int .i64 (.v 82)), (.int .i64 (.v 83)), (.int .i64 (.v 84)), (.int .i64 (.v 85)), (.int .i64 (.v 86)), (.bool (.nz (.v 87))), (.int .i64 (.v 88)), (.int .i64 (.v 89))]))
noncomputable def o120 : Option (TypeId × List SV) := (some (31, [(.int .i64 (.v 91)), (.int .i64 (.v 92)), (.int .i64 (.v 93)), (.int .i64 (.v 94)), (.int .i64 (.v 95)), (.int .i64 (.v 96)), (.int .i64 (.v 97)), (.int .i64 (.v 98)), (.bool (.nz (.v 99))), (.int .i64 (.v 100)), (.int .i64 (.v 101))]))
noncomputable def v121 : VT := (.node .nil (some (0, 11)) .nil)
noncomputable def v122 : VT := (.node v121 (some (0, 600)) v30)
noncomputable def v123 : VT := (.node v30 (some ((-30), 1000)) .nil)
noncomputable def v124 : VT := (.node v122 (some (0, 600)) v123)
noncomputable def v125 : VT := (.node v40 (some (0, 60)) .nil)
noncomputable def v126 : VT := (.node v35 (some (0, 60)) .nil)
noncomputable def v127 : VT := (.node v125 (some (0, 4)) v126)
noncomputable def v128 : VT := (.node v124 (some (1, 6)) v127)
noncomputable def v129 : VT := (.node v40 (some (1, 200)) v35)
noncomputable def v130 : VT := (.node v30 (some (0, 60)) .nil)
noncomputable def v131 : VT := (.node v129 (some ((-30), 1000)) v130)
noncomputable def v132 : VT := (.node v43 (some (0, 600)) .nil)
noncomputable def v133 : VT := (.node v30 (some (0, 1)) .nil)
noncomputable def v134 : VT := (.node v132 (some ((-20), 5)) v133)
noncomputable def v135 : VT := (.node v131 (some (0, 60)) v134)
noncomputable def v136 : VT := (.node v128 (some (0, 100)) v135)
noncomputable def v137 : VT := (.node v30 (some ((-30), 1000)) v40)
noncomputable def v138 : VT := (.node v40 (some (1, 200)) .nil)
noncomputable def v139 : VT := (.node v137 (some (0, 600)) v138)
noncomputable def v140 : VT := (.node v35 (some ((-20), 5)) .nil)
noncomputable def v141 : VT := (.node v43 (some ((-20), 5)) .nil)
noncomputable def v142 : VT := (.node v140 (some (0, 60)) v141)
noncomputable def v143 : VT := (.node v139 (some (0, 4)) v142)
noncomputable def v144 : VT := (.node v30 (some (0, 4)) v43)
noncomputable def v145 : VT := (.node v40 (some ((-20), 5)) .nil)
noncomputable def v146 : VT := (.node v144 (some (1, 200)) v145)
noncomputable def v147 : VT := (.node v40 (some (0, 4)) .nil)
noncomputable def v148 : VT := (.node v132 (some (0, 600)) v147)
noncomputable def v149 : VT := (.node v146 (some ((-20), 5)) v148)
noncomputable def v150 : VT := (.node v143 (some (0, 4)) v149)
noncomputable def v151 : VT := (.node v136 (some (0, 9223372036854775807)) v150)
noncomputable def v152 : VT := (.node v27 (some (0, 60)) v28)
noncomputable def v153 : VT := (.node v28 (some ((-20), 5)) .nil)
noncomputable def v154 : VT := (.node v152 (some (0, 4)) v153)
noncomputable def v155 : VT := (.node v58 (some ((-30), 1000)) .nil)
noncomputable def v156 : VT := (.node v53 (some ((-30), 1000)) .nil)
noncomputable def v157 : VT := (.node v155 (some (0, 600)) v156)
noncomputable def v158 : VT := (.node v154 (some (0, 600)) v157)
noncomputable def v159 : VT := (.node v58 (some (0, 600)) v53)
noncomputable def v160 : VT := (.node v28 (some ((-30), 1000)) .nil)
noncomputable def v161 : VT := (.node v159 (some ((-20), 5)) v160)
noncomputable def v162 : VT := (.node .nil (some (0, 16)) .nil)
noncomputable def v163 : VT := (.node v162 (some (0, 4)) .nil)
noncomputable def v164 : VT := (.node v28 (some (0, 6)) .nil)
noncomputable def v165 : VT := (.node v163 (some (1, 200)) v164)
noncomputable def v166 : VT := (.node v161 (some ((-30), 1000)) v165)
noncomputable def v167 : VT := (.node v158 (some (1, 10)) v166)
noncomputable def v168 : VT := (.node v28 (some ((-20), 5)) v58)
noncomputable def v169 : VT := (.node v58 (some (0, 600)) .nil)
noncomputable def v170 : VT := (.node v168 (some (0, 60)) v169)
noncomputable def v171 : VT := (.node v53 (some (1, 200)) .nil)
noncomputable def v172 : VT := (.node v162 (some (0, 200)) .nil)
noncomputable def v173 : VT := (.node v171 (some ((-30), 1000)) v172)
noncomputable def v174 : VT := (.node v170 (some (0, 600)) v173)
noncomputable def v175 : VT := (.node v28 (some (0, 600)) v162)
noncomputable def v176 : VT := (.node v58 (some (0, 200)) .nil)
noncomputable def v177 : VT := (.node v175 (some (0, 600)) v176)
noncomputable def v178 : VT := (.node v27 (some (0, 60)) .nil)
noncomputable def v179 : VT := (.node v58 (some (0, 16)) .nil)
noncomputable def v180 : VT := (.node v178 (some (0, 4)) v179)
noncomputable def v181 : VT := (.node v177 (some (1, 200)) v180)
noncomputable def v182 : VT := (.node v174 (some (0, 600)) v181)
noncomputable def v183 : VT := (.node v167 (some (0, 3)) v182)
noncomputable def v184 : VT := (.node v151 (some (0, 9223372036854775807)) v183)
noncomputable def n185 : Nat × List E × Nat × Nat := (27, [(.v 2), (.v 3), (.v 4), (.v 5), (.lit 0), (.lit 0), (.lit 0), (.lit 0), (.lit 0), (.lit 0), (.lit 0), (.lit 0), (.lit 0), (.lit 0), (.lit 0), (.add (.v 51) (.v 63))], 91, 12)
noncomputable def n186 : Nat × List E × Nat × Nat := (27, [(.v 2), (.v 3), (.v 4), (.v 5), (.v 65), (.v 66), (.v 67), (.v 68), (.v 69), (.v 70), (.v 71), (.v 72), (.v 73), (.v 74), (.v 75), e113], 79, 12)
noncomputable def n187 : Nat × List E × Nat × Nat := (900, [(.lit 5), e2, (.v 64)], 77, 2)
noncomputable def n188 : Nat × List E × Nat × Nat := (27, [(.v 2), (.v 3), (.v 4), (.v 5), (.v 51), (.v 52), (.v 53), (.v 54), (.v 55), (.v 56), (.v 57), (.v 58), (.v 59), (.v 60), (.v 61), (.add (.v 51) (.v 63))], 65, 12)
noncomputable def n189 : Nat × List E × Nat × Nat := (900, [(.lit 12), e2, (.v 50)], 63, 2)
noncomputable def ct3 : Ct := adm LC LF LG 1 (.back .normal (Ct.fr ct1))
noncomputable def st3 : St := ⟨[(.sls 0 (.v 0) (.v 1)), .undef, (.bool (.lit false)), (.ptr 0 0), (.ptr 1 0), (.ptr 2 0), (.int .i64 (.v 62)), s108, (.ptr 21 0), (.int .i64 (.v 76)), (.ptr 22 0), (.int .i64 (.v 90)), (.ptr 23 0), (.int .i64 (.v 102)), .undef, (.sls 0 (.v 0) (.v 1)), (.ptr 0 0), (.ptr 0 0), s3, s5, s3, (.ptr 0 0), (.slc 20 4 6 none), s5, s4, (.int .i64 (.v 62)), (.int .i64 (.v 62)), (.bool b6), (.bool b6), s7, s9, s10, (.ptr 2 0), (.ptr 2 0), (.int .i64 (.v 51)), (.ptr 0 0), (.int .i64 (.v 63)), s108, s110, s3, s4, s108, s110, s109, (.int .i64 (.v 76)), s112, s3, s109, s108, (.ptr 0 0), (.int .i64 (.v 77)), (.int .i64 e113), s112, s111, (.int .i64 (.v 90)), s115, s3, s116, s108, s115, s114, (.int .i64 (.v 102)), .undef, .undef, .undef, .undef, .undef, .undef, .undef, .undef, .undef, .undef, .undef, .undef, .undef, .undef, .undef, .undef, .undef, .undef, .undef, .undef, .undef, .undef, .undef, .undef, .undef, .undef, .undef, .undef, .undef, .undef, .undef, .undef, .undef, .undef, .undef, .undef, .undef, .undef, .undef, .undef, .undef, .undef, .undef, .undef, .undef, .undef, .undef, .undef, .undef, .undef, .undef, .undef, .undef], [o117, o12, o13, o14, o15, none, o14, o16, none, o14, o17, none, o14, o18, none, o14, o19, none, o14, o20, o21, o118, o119, o120], ⟨⟨[e24, (e23, 1, 2), e25, (e22, 1, 4), e26], v184, 103⟩, [((.and b6 (.not b8)), false), (b68, true), ((.lt (.lit 0) e23), true), (b69, true), ((.lt (.lit 0) e22), true), (b70, true), ((.lt (.lit 0) (.v 7)), true), ((.le e2 (.v 1)), true), ((.le (.v 0) (.v 1)), true)]⟩, 103, [23, 23, 22, 0, 22, 21, 21, 0, 2, 17, 20, 19, 0, 0, 18, 14, 17, 16, 0, 0, 15, 11, 14, 13, 0, 0, 12, 8, 11, 10, 0, 0, 9, 5, 8, 7, 0, 0, 6, 5, 4, 0, 0, 3, 0, 2, 1, 1, 0, 0], [n185, n186, n187, n188, n189, n71, n99, n100, n101, n102]⟩
noncomputable def tr3 : T Leaf :=
(.ite (.or (.or (.or (.not (.eq (.v 76) (.lit 0))) (.not (.eq (.v 90) (.lit 0)))) (.not (.eq (.v 102) (.lit 0)))) (.not (.and (.and (.eq (.v 91) (.lit 0)) (.and (.eq (.v 92) (.lit 0)) (.and (.eq (.v 93) (.lit 0)) (.eq (.v 94) (.lit 0))))) (.and (.and (.eq (.v 95) (.lit 0)) (.and (.eq (.v 96) (.lit 0)) (.and (.eq (.v 97) (.lit 0)) (.eq (.v 98) (.lit 0))))) (.and (.not (.nz (.v 99))) (.and (.eq (.v 100) (.lit 0)) (.eq (.v 101) (.lit 0))))))))
 (.leaf ((.bool (.lit false)), [], []))
 (.ite (.or (.or (.not (.and (.and (.eq (.v 65) (.v 51)) (.and (.eq (.v 66) (.v 52)) (.and (.eq (.v 67) (.v 53)) (.eq (.v 68) (.v 54))))) (.and (.and (.eq (.v 69) (.v 55)) (.and (.eq (.v 70) (.v 56)) (.and (.eq (.v 71) (.v 57)) (.eq (.v 72) (.v 58))))) (.and (.iff (.nz (.v 73)) (.nz (.v 59))) (.eq (.v 74) (.v 60)))))) (.and (.not (.eq (.v 75) (.v 61))) (.not (.eq (.v 75) (.lit 2))))) (.and (.eq (.v 75) (.lit 2)) (.not (.and (.and (.eq (.v 79) (.v 65)) (.and (.eq (.v 80) (.v 66)) (.and (.eq (.v 81) (.v 67)) (.eq (.v 82) (.v 68))))) (.and (.and (.eq (.v 83) (.v 69)) (.and (.eq (.v 84) (.v 70)) (.and (.eq (.v 85) (.v 71)) (.eq (.v 86) (.v 72))))) (.and (.iff (.nz (.v 87)) (.nz (.v 73))) (.and (.eq (.v 88) (.v 74)) (.eq (.v 89) (.v 75)))))))))
  (.leaf ((.bool (.lit false)), [], []))
  (.call 10 [] 1
  (.leaf ((.bool (.lit true)), [], []))
  )
 )
)
theorem th3 : (at_ LP LC LF (evD LP LC LF LD) LG LK ct3 st3).strip = tr3 := by kernel_rfl
noncomputable def s190 : SV := (.agg [(.int .i64 (.v 44)), (.int .i64 (.v 45)), (.int .i64 (.v 46)), (.int .i64 (.v 47)), (.int .i64 (.v 48)), (.int .i64 (.v 49)), (.int .i64 (.v 50)), (.int .i64 (.v 51)), (.bool (.nz (.v 52))), (.int .i64 (.v 53)), (.int .i64 (.v 54))])
noncomputable def s191 : SV := (.tup [s190, (.int .i64 (.v 55))])
noncomputable def b192 : B := (.not (.eq (.v 55) (.lit 0)))
noncomputable def s193 : SV := (.grd b192 (.int .i64 (.v 55)))
noncomputable def b194 : B := (.eq (.v 55) (.lit 16))
noncomputable def s195 : SV := (.grd b192 (.bool (.not b194)))
noncomputable def b196 : B := (.and b192 (.not b194))
noncomputable def o197 : Option (TypeId × List SV) := (some (49, [(.sls 0 e2 (.v 1)), (.int .i64 (.v 43))]))
noncomputable def o198 : Option (TypeId × List SV) := (some (31, [(.int .i64 (.v 44)), (.int .i64 (.v 45)), (.int .i64 (.v 46)), (.int .i64 (.v 47)), (.int .i64 (.v 48)), (.int .i64 (.v 49)), (.int .i64 (.v 50)), (.int .i64 (.v 51)), (.bool (.nz (.v 52))), (.int .i64 (.v 53)), (.int .i64 (.v 54))]))
noncomputable def o199 : Option (TypeId × List SV) := (some (29, [(.int .i64 (.v 11)), (.int .i64 (.v 12)), (.int .i64 (.v 13)), (.int .i64 (.v 14)), (.int .i64 (.v 18)), (.int .i64 (.v 19)), (.int .i64 (.v 20)), (.int .i64 (.v 21)), (.int .i64 (.v 25)), (.int .i64 (.v 26)), (.int .i64 (.v 27)), (.int .i64 (.v 28)), (.int .i64 (.v 32)), (.int .i64 (.v 33)), (.int .i64 (.v 34)), (.int .i64 (.v 35)), (.int .i64 (.v 39)), (.int .i64 (.v 40)), (.int .i64 (.v 41)), (.int .i64 (.v 42))]))
noncomputable def e200 : E × Int × Int := ((.sub e23 (.lit 1)), 0, 0)
noncomputable def v201 : VT := (.node v61 (some (1, 6)) v63)
noncomputable def v202 : VT := (.node v27 (some ((-20), 5)) .nil)
noncomputable def v203 : VT := (.node v59 (some (0, 60)) v202)
noncomputable def v204 : VT := (.node v201 (some (0, 100)) v203)
noncomputable def v205 : VT := (.node v50 (some (0, 4)) v125)
noncomputable def v206 : VT := (.node .nil (some (0, 5)) .nil)
noncomputable def v207 : VT := (.node v43 (some (1, 200)) v206)
noncomputable def v208 : VT := (.node v28 (some (0, 600)) .nil)
noncomputable def v209 : VT := (.node v207 (some ((-20), 5)) v208)
noncomputable def v210 : VT := (.node v205 (some (0, 4)) v209)
noncomputable def v211 : VT := (.node v204 (some (0, 9223372036854775807)) v210)
noncomputable def v212 : VT := (.node v31 (some (0, 600)) v208)
noncomputable def v213 : VT := (.node v30 (some (1, 200)) .nil)
noncomputable def v214 : VT := (.node v36 (some ((-30), 1000)) v213)
noncomputable def v215 : VT := (.node v212 (some (1, 10)) v214)
noncomputable def v216 : VT := (.node v33 (some ((-30), 1000)) .nil)
noncomputable def v217 : VT := (.node v41 (some (0, 600)) v216)
noncomputable def v218 : VT := (.node v45 (some (1, 200)) v147)
noncomputable def v219 : VT := (.node v217 (some (0, 600)) v218)
noncomputable def v220 : VT := (.node v215 (some (0, 3)) v219)
noncomputable def v221 : VT := (.node v211 (some (0, 9223372036854775807)) v220)
noncomputable def n222 : Nat × List E × Nat × Nat := (25, [(.v 2), (.v 3), (.v 4), (.v 5), (.v 11), (.v 12), (.v 13), (.v 14), (.v 18), (.v 19), (.v 20), (.v 21), (.v 25), (.v 26), (.v 27), (.v 28), (.v 32), (.v 33), (.v 34), (.v 35), (.v 39), (.v 40), (.v 41), (.v 42)], 44, 12)
noncomputable def n223 : Nat × List E × Nat × Nat := (900, [(.lit 5), e2, (.v 15)], 16, 2)
noncomputable def n224 : Nat × List E × Nat × Nat := (12, [(.add (.lit 0) e75), e2, (.v 1), (.v 10)], 11, 5)
noncomputable def ct4 : Ct := adm LC LF LG 1 (.back .ret (Ct.fr ct1))
noncomputable def st4 : St := ⟨[(.sls 0 (.v 0) (.v 1)), .undef, (.bool (.lit false)), (.ptr 0 0), (.ptr 1 0), (.ptr 2 0), (.int .i64 (.v 55)), .undef, .undef, .undef, .undef, .undef, .undef, .undef, .undef, (.sls 0 (.v 0) (.v 1)), (.ptr 0 0), (.ptr 0 0), s3, s191, s3, (.ptr 0 0), (.slc 17 4 5 none), s191, s190, (.int .i64 (.v 55)), (.int .i64 (.v 55)), (.bool b192), (.bool b192), s193, s195, (.bool b196), .undef, .undef, .undef, .undef, .undef, .undef, .undef, .undef, .undef, .undef, .undef, .undef, .undef, .undef, .undef, .undef, .undef, .undef, .undef, .undef, .undef, .undef, .undef, .undef, .undef, .undef, .undef, .undef, .undef, .undef, .undef, .undef, .undef, .undef, .undef, .undef, .undef, .undef, .undef, .undef, .undef, .undef, .undef, .undef, .undef, .undef, .undef, .undef, .undef, .undef, .undef, .undef, .undef, .undef, .undef, .undef, .undef, .undef, .undef, .undef, .undef, .undef, .undef, .undef, .undef, .undef, .undef, .undef, .undef, .undef, .undef, .undef, .undef, .undef, .undef, .undef, .undef, .undef, .undef, .undef, .undef, .undef, .undef], [o197, o12, o198, o14, o15, none, o14, o16, none, o14, o17, none, o14, o18, none, o14, o19, o199], ⟨⟨[e200, (e23, 1, 2), e25, (e22, 1, 4), e26], v221, 56⟩, [(b194, false), ((.eq (.v 55) (.lit 0)), false), (b68, false), ((.lt (.lit 0) e23), true), (b69, true), ((.lt (.lit 0) e22), true), (b70, true), ((.lt (.lit 0) (.v 7)), true), ((.le e2 (.v 1)), true), ((.le (.v 0) (.v 1)), true)]⟩, 56, [2, 14, 17, 16, 0, 0, 15, 11, 14, 13, 0, 0, 12, 8, 11, 10, 0, 0, 9, 5, 8, 7, 0, 0, 6, 5, 4, 0, 0, 3, 0, 2, 1, 1, 0, 0], [n222, n101, n102, n103, n104, n105, n106, n107, n223, n224]⟩
noncomputable def tr4 : T Leaf :=
(.leaf ((.bool (.lit false)), [], []))
theorem th4 : (at_ LP LC LF (evD LP LC LF LD) LG LK ct4 st4).strip = tr4 := by kernel_rfl
noncomputable def s225 : SV := (.int .i64 (.add (.v 44) (.v 56)))
noncomputable def s226 : SV := (.agg [(.int .i64 (.v 58)), (.int .i64 (.v 59)), (.int .i64 (.v 60)), (.int .i64 (.v 61)), (.int .i64 (.v 62)), (.int .i64 (.v 63)), (.int .i64 (.v 64)), (.int .i64 (.v 65)), (.bool (.nz (.v 66))), (.int .i64 (.v 67)), (.int .i64 (.v 68))])
noncomputable def s227 : SV := (.tup [s226, (.int .i64 (.v 69))])
noncomputable def s228 : SV := (.agg [(.int .i64 (.v 72)), (.int .i64 (.v 73)), (.int .i64 (.v 74)), (.int .i64 (.v 75)), (.int .i64 (.v 76)), (.int .i64 (.v 77)), (.int .i64 (.v 78)), (.int .i64 (.v 79)), (.bool (.nz (.v 80))), (.int .i64 (.v 81)), (.int .i64 (.v 82))])
noncomputable def s229 : SV := (.tup [s228, (.int .i64 (.v 83))])
noncomputable def e230 : E := (.add (.add (.v 44) (.v 56)) (.v 70))
noncomputable def s231 : SV := (.agg [(.int .i64 (.v 84)), (.int .i64 (.v 85)), (.int .i64 (.v 86)), (.int .i64 (.v 87)), (.int .i64 (.v 88)), (.int .i64 (.v 89)), (.int .i64 (.v 90)), (.int .i64 (.v 91)), (.bool (.nz (.v 92))), (.int .i64 (.v 93)), (.int .i64 (.v 94))])
noncomputable def s232 : SV := (.tup [s231, (.int .i64 (.v 95))])
noncomputable def o233 : Option (TypeId × List SV) := (some (49, [(.sls 0 e2 (.v 1)), (.int .i64 (.v 71))]))
noncomputable def o234 : Option (TypeId × List SV) := (some (31, [(.int .i64 (.v 58)), (.int .i64 (.v 59)), (.int .i64 (.v 60)), (.int .i64 (.v 61)), (.int .i64 (.v 62)), (.int .i64 (.v 63)), (.int .i64 (.v 64)), (.int .i64 (.v 65)), (.bool (.nz (.v 66))), (.int .i64 (.v 67)), (.int .i64 (.v 68))]))
noncomputable def o235 : Option (TypeId × List SV) := (some (31, [(.int .i64 (.v 72)), (.int .i64 (.v 73)), (.int .i64 (.v 74)), (.int .i64 (.v 75)), (.int .i64 (.v 76)), (.int .i64 (.v 77)), (.int .i64 (.v 78)), (.int .i64 (.v 79)), (.bool (.nz (.v 80))), (.int .i64 (.v 81)), (.int .i64 (.v 82))]))
noncomputable def o236 : Option (TypeId × List SV) := (some (31, [(.int .i64 (.v 84)), (.int .i64 (.v 85)), (.int .i64 (.v 86)), (.int .i64 (.v 87)), (.int .i64 (.v 88)), (.int .i64 (.v 89)), (.int .i64 (.v 90)), (.int .i64 (.v 91)), (.bool (.nz (.v 92))), (.int .i64 (.v 93)), (.int .i64 (.v 94))]))
noncomputable def v237 : VT := (.node v177 (some (1, 6)) v180)
noncomputable def v238 : VT := (.node v169 (some ((-20), 5)) v155)
noncomputable def v239 : VT := (.node v173 (some (0, 60)) v238)
noncomputable def v240 : VT := (.node v237 (some (0, 100)) v239)
noncomputable def v241 : VT := (.node v153 (some (0, 60)) v208)
noncomputable def v242 : VT := (.node v157 (some (0, 4)) v241)
noncomputable def v243 : VT := (.node v28 (some (0, 5)) .nil)
noncomputable def v244 : VT := (.node v163 (some (1, 200)) v243)
noncomputable def v245 : VT := (.node v53 (some (0, 200)) .nil)
noncomputable def v246 : VT := (.node v160 (some (0, 600)) v245)
noncomputable def v247 : VT := (.node v244 (some ((-20), 5)) v246)
noncomputable def v248 : VT := (.node v242 (some (0, 4)) v247)
noncomputable def v249 : VT := (.node v240 (some (0, 9223372036854775807)) v248)
noncomputable def v250 : VT := (.node v30 (some (0, 11)) .nil)
noncomputable def v251 : VT := (.node v123 (some (0, 600)) v250)
noncomputable def v252 : VT := (.node v127 (some (0, 600)) v251)
noncomputable def v253 : VT := (.node v130 (some (1, 200)) v140)
noncomputable def v254 : VT := (.node v134 (some ((-30), 1000)) v253)
noncomputable def v255 : VT := (.node v252 (some (1, 10)) v254)
noncomputable def v256 : VT := (.node v138 (some ((-30), 1000)) v125)
noncomputable def v257 : VT := (.node v142 (some (0, 600)) v256)
noncomputable def v258 : VT := (.node v43 (some (0, 60)) .nil)
noncomputable def v259 : VT := (.node v145 (some (0, 4)) v258)
noncomputable def v260 : VT := (.node v148 (some (1, 200)) v259)
noncomputable def v261 : VT := (.node v257 (some (0, 600)) v260)
noncomputable def v262 : VT := (.node v255 (some (0, 3)) v261)
noncomputable def v263 : VT := (.node v249 (some (0, 9223372036854775807)) v262)
noncomputable def n264 : Nat × List E × Nat × Nat := (27, [(.v 2), (.v 3), (.v 4), (.v 5), (.lit 0), (.lit 0), (.lit 0), (.lit 0), (.lit 0), (.lit 0), (.lit 0), (.lit 0), (.lit 0), (.lit 0), (.lit 0), (.add (.v 44) (.v 56))], 84, 12)
noncomputable def n265 : Nat × List E × Nat × Nat := (27, [(.v 2), (.v 3), (.v 4), (.v 5), (.v 58), (.v 59), (.v 60), (.v 61), (.v 62), (.v 63), (.v 64), (.v 65), (.v 66), (.v 67), (.v 68), e230], 72, 12)
noncomputable def n266 : Nat × List E × Nat × Nat := (900, [(.lit 5), e2, (.v 57)], 70, 2)
noncomputable def n267 : Nat × List E × Nat × Nat := (27, [(.v 2), (.v 3), (.v 4), (.v 5), (.v 44), (.v 45), (.v 46), (.v 47), (.v 48), (.v 49), (.v 50), (.v 51), (.v 52), (.v 53), (.v 54), (.add (.v 44) (.v 56))], 58, 12)
noncomputable def n268 : Nat × List E × Nat × Nat := (900, [(.lit 12), e2, (.v 43)], 56, 2)
noncomputable def ct5 : Ct := adm LC LF LG 1 (.back .normal (Ct.fr ct1))
noncomputable def st5 : St := ⟨[(.sls 0 (.v 0) (.v 1)), .undef, (.bool (.lit false)), (.ptr 0 0), (.ptr 1 0), (.ptr 2 0), (.int .i64 (.v 55)), s225, (.ptr 18 0), (.int .i64 (.v 69)), (.ptr 19 0), (.int .i64 (.v 83)), (.ptr 20 0), (.int .i64 (.v 95)), .undef, (.sls 0 (.v 0) (.v 1)), (.ptr 0 0), (.ptr 0 0), s3, s191, s3, (.ptr 0 0), (.slc 17 4 5 none), s191, s190, (.int .i64 (.v 55)), (.int .i64 (.v 55)), (.bool b192), (.bool b192), s193, s195, (.bool b196), (.ptr 2 0), (.ptr 2 0), (.int .i64 (.v 44)), (.ptr 0 0), (.int .i64 (.v 56)), s225, s227, s3, s190, s225, s227, s226, (.int .i64 (.v 69)), s229, s3, s226, s225, (.ptr 0 0), (.int .i64 (.v 70)), (.int .i64 e230), s229, s228, (.int .i64 (.v 83)), s232, s3, s116, s225, s232, s231, (.int .i64 (.v 95)), .undef, .undef, .undef, .undef, .undef, .undef, .undef, .undef, .undef, .undef, .undef, .undef, .undef, .undef, .undef, .undef, .undef, .undef, .undef, .undef, .undef, .undef, .undef, .undef, .undef, .undef, .undef, .undef, .undef, .undef, .undef, .undef, .undef, .undef, .undef, .undef, .undef, .undef, .undef, .undef, .undef, .undef, .undef, .undef, .undef, .undef, .undef, .undef, .undef, .undef, .undef, .undef, .undef], [o233, o12, o198, o14, o15, none, o14, o16, none, o14, o17, none, o14, o18, none, o14, o19, o199, o234, o235, o236], ⟨⟨[e200, (e23, 1, 2), e25, (e22, 1, 4), e26], v263, 96⟩, [(b196, false), (b68, false), ((.lt (.lit 0) e23), true), (b69, true), ((.lt (.lit 0) e22), true), (b70, true), ((.lt (.lit 0) (.v 7)), true), ((.le e2 (.v 1)), true), ((.le (.v 0) (.v 1)), true)]⟩, 96, [20, 20, 19, 0, 19, 18, 18, 0, 2, 14, 17, 16, 0, 0, 15, 11, 14, 13, 0, 0, 12, 8, 11, 10, 0, 0, 9, 5, 8, 7, 0, 0, 6, 5, 4, 0, 0, 3, 0, 2, 1, 1, 0, 0], [n264, n265, n266, n267, n268, n222, n101, n102, n103, n104]⟩
noncomputable def tr5 : T Leaf :=
(.ite (.or (.or (.or (.not (.eq (.v 69) (.lit 0))) (.not (.eq (.v 83) (.lit 0)))) (.not (.eq (.v 95) (.lit 0)))) (.not (.and (.and (.eq (.v 84) (.lit 0)) (.and (.eq (.v 85) (.lit 0)) (.and (.eq (.v 86) (.lit 0)) (.eq (.v 87) (.lit 0))))) (.and (.and (.eq (.v 88) (.lit 0)) (.and (.eq (.v 89) (.lit 0)) (.and (.eq (.v 90) (.lit 0)) (.eq (.v 91) (.lit 0))))) (.and (.not (.nz (.v 92))) (.and (.eq (.v 93) (.lit 0)) (.eq (.v 94) (.lit 0))))))))
 (.leaf ((.bool (.lit false)), [], []))
 (.ite (.or (.or (.not (.and (.and (.eq (.v 58) (.v 44)) (.and (.eq (.v 59) (.v 45)) (.and (.eq (.v 60) (.v 46)) (.eq (.v 61) (.v 47))))) (.and (.and (.eq (.v 62) (.v 48)) (.and (.eq (.v 63) (.v 49)) (.and (.eq (.v 64) (.v 50)) (.eq (.v 65) (.v 51))))) (.and (.iff (.nz (.v 66)) (.nz (.v 52))) (.eq (.v 67) (.v 53)))))) (.and (.not (.eq (.v 68) (.v 54))) (.not (.eq (.v 68) (.lit 2))))) (.and (.eq (.v 68) (.lit 2)) (.not (.and (.and (.eq (.v 72) (.v 58)) (.and (.eq (.v 73) (.v 59)) (.and (.eq (.v 74) (.v 60)) (.eq (.v 75) (.v 61))))) (.and (.and (.eq (.v 76) (.v 62)) (.and (.eq (.v 77) (.v 63)) (.and (.eq (.v 78) (.v 64)) (.eq (.v 79) (.v 65))))) (.and (.iff (.nz (.v 80)) (.nz (.v 66))) (.and (.eq (.v 81) (.v 67)) (.eq (.v 82) (.v 68)))))))))
  (.leaf ((.bool (.lit false)), [], []))
  (.call 10 [] 1
  (.leaf ((.bool (.lit true)), [], []))
  )
 )
)
theorem th5 : (at_ LP LC LF (evD LP LC LF LD) LG LK ct5 st5).strip = tr5 := by kernel_rfl
noncomputable def s269 : SV := (.agg [(.int .i64 (.v 37)), (.int .i64 (.v 38)), (.int .i64 (.v 39)), (.int .i64 (.v 40)), (.int .i64 (.v 41)), (.int .i64 (.v 42)), (.int .i64 (.v 43)), (.int .i64 (.v 44)), (.bool (.nz (.v 45))), (.int .i64 (.v 46)), (.int .i64 (.v 47))])
noncomputable def s270 : SV := (.tup [s269, (.int .i64 (.v 48))])
noncomputable def b271 : B := (.not (.eq (.v 48) (.lit 0)))
noncomputable def s272 : SV := (.grd b271 (.int .i64 (.v 48)))
noncomputable def b273 : B := (.eq (.v 48) (.lit 16))
noncomputable def s274 : SV := (.grd b271 (.bool (.not b273)))
noncomputable def b275 : B := (.and b271 (.not b273))
noncomputable def o276 : Option (TypeId × List SV) := (some (49, [(.sls 0 e2 (.v 1)), (.int .i64 (.v 36))]))
noncomputable def o277 : Option (TypeId × List SV) := (some (31, [(.int .i64 (.v 37)), (.int .i64 (.v 38)), (.int .i64 (.v 39)), (.int .i64 (.v 40)), (.int .i64 (.v 41)), (.int .i64 (.v 42)), (.int .i64 (.v 43)), (.int .i64 (.v 44)), (.bool (.nz (.v 45))), (.int .i64 (.v 46)), (.int .i64 (.v 47))]))
noncomputable def o278 : Option (TypeId × List SV) := (some (29, [(.int .i64 (.v 11)), (.int .i64 (.v 12)), (.int .i64 (.v 13)), (.int .i64 (.v 14)), (.int .i64 (.v 18)), (.int .i64 (.v 19)), (.int .i64 (.v 20)), (.int .i64 (.v 21)), (.int .i64 (.v 25)), (.int .i64 (.v 26)), (.int .i64 (.v 27)), (.int .i64 (.v 28)), (.int .i64 (.v 32)), (.int .i64 (.v 33)), (.int .i64 (.v 34)), (.int .i64 (.v 35))]))
noncomputable def v279 : VT := (.node v45 (some (1, 6)) v147)
noncomputable def v280 : VT := (.node v216 (some (0, 60)) v145)
noncomputable def v281 : VT := (.node v279 (some (0, 100)) v280)
noncomputable def v282 : VT := (.node v208 (some (0, 4)) v130)
noncomputable def v283 : VT := (.node v35 (some (0, 600)) .nil)
noncomputable def v284 : VT := (.node v213 (some ((-20), 5)) v283)
noncomputable def v285 : VT := (.node v282 (some (0, 4)) v284)
noncomputable def v286 : VT := (.node v281 (some (0, 9223372036854775807)) v285)
noncomputable def v287 : VT := (.node v63 (some (0, 600)) v169)
noncomputable def v288 : VT := (.node v58 (some (1, 200)) .nil)
noncomputable def v289 : VT := (.node v202 (some ((-30), 1000)) v288)
noncomputable def v290 : VT := (.node v287 (some (1, 10)) v289)
noncomputable def v291 : VT := (.node v125 (some (0, 600)) v160)
noncomputable def v292 : VT := (.node v43 (some (0, 4)) .nil)
noncomputable def v293 : VT := (.node v208 (some (1, 200)) v292)
noncomputable def v294 : VT := (.node v291 (some (0, 600)) v293)
noncomputable def v295 : VT := (.node v290 (some (0, 3)) v294)
noncomputable def v296 : VT := (.node v286 (some (0, 9223372036854775807)) v295)
noncomputable def n297 : Nat × List E × Nat × Nat := (24, [(.v 2), (.v 3), (.v 4), (.v 5), (.v 11), (.v 12), (.v 13), (.v 14), (.v 18), (.v 19), (.v 20), (.v 21), (.v 25), (.v 26), (.v 27), (.v 28), (.v 32), (.v 33), (.v 34), (.v 35)], 37, 12)
noncomputable def n298 : Nat × List E × Nat × Nat := (900, [(.lit 5), e2, (.v 8)], 9, 2)
noncomputable def n299 : Nat × List E × Nat × Nat := (900, [(.lit 7), e2, (.v 6)], 7, 2)
noncomputable def ct6 : Ct := adm LC LF LG 1 (.back .ret (Ct.fr ct1))
noncomputable def st6 : St := ⟨[(.sls 0 (.v 0) (.v 1)), .undef, (.bool (.lit false)), (.ptr 0 0), (.ptr 1 0), (.ptr 2 0), (.int .i64 (.v 48)), .undef, .undef, .undef, .undef, .undef, .undef, .undef, .undef, (.sls 0 (.v 0) (.v 1)), (.ptr 0 0), (.ptr 0 0), s3, s270, s3, (.ptr 0 0), (.slc 14 4 4 none), s270, s269, (.int .i64 (.v 48)), (.int .i64 (.v 48)), (.bool b271), (.bool b271), s272, s274, (.bool b275), .undef, .undef, .undef, .undef, .undef, .undef, .undef, .undef, .undef, .undef, .undef, .undef, .undef, .undef, .undef, .undef, .undef, .undef, .undef, .undef, .undef, .undef, .undef, .undef, .undef, .undef, .undef, .undef, .undef, .undef, .undef, .undef, .undef, .undef, .undef, .undef, .undef, .undef, .undef, .undef, .undef, .undef, .undef, .undef, .undef, .undef, .undef, .undef, .undef, .undef, .undef, .undef, .undef, .undef, .undef, .undef, .undef, .undef, .undef, .undef, .undef, .undef, .undef, .undef, .undef, .undef, .undef, .undef, .undef, .undef, .undef, .undef, .undef, .undef, .undef, .undef, .undef, .undef, .undef, .undef, .undef, .undef, .undef], [o276, o12, o277, o14, o15, none, o14, o16, none, o14, o17, none, o14, o18, o278], ⟨⟨[(e23, 0, 0), e25, (e22, 1, 4), e26], v296, 49⟩, [(b273, false), ((.eq (.v 48) (.lit 0)), false), ((.lt (.lit 0) e23), false), (b69, true), ((.lt (.lit 0) e22), true), (b70, true), ((.lt (.lit 0) (.v 7)), true), ((.le e2 (.v 1)), true), ((.le (.v 0) (.v 1)), true)]⟩, 49, [2, 11, 14, 13, 0, 0, 12, 8, 11, 10, 0, 0, 9, 5, 8, 7, 0, 0, 6, 5, 4, 0, 0, 3, 0, 2, 1, 1, 0, 0], [n297, n103, n104, n105, n106, n107, n223, n224, n298, n299]⟩
noncomputable def tr6 : T Leaf :=
(.leaf ((.bool (.lit false)), [], []))
theorem th6 : (at_ LP LC LF (evD LP LC LF LD) LG LK ct6 st6).strip = tr6 := by kernel_rfl
noncomputable def s300 : SV := (.int .i64 (.add (.v 37) (.v 49)))
noncomputable def e301 : E := (.add (.add (.v 37) (.v 49)) (.v 63))
noncomputable def s302 : SV := (.agg [(.int .i64 (.v 77)), (.int .i64 (.v 78)), (.int .i64 (.v 79)), (.int .i64 (.v 80)), (.int .i64 (.v 81)), (.int .i64 (.v 82)), (.int .i64 (.v 83)), (.int .i64 (.v 84)), (.bool (.nz (.v 85))), (.int .i64 (.v 86)), (.int .i64 (.v 87))])
noncomputable def s303 : SV := (.tup [s302, (.int .i64 (.v 88))])
noncomputable def o304 : Option (TypeId × List SV) := (some (49, [(.sls 0 e2 (.v 1)), (.int .i64 (.v 64))]))
noncomputable def o305 : Option (TypeId × List SV) := (some (31, [(.int .i64 (.v 77)), (.int .i64 (.v 78)), (.int .i64 (.v 79)), (.int .i64 (.v 80)), (.int .i64 (.v 81)), (.int .i64 (.v 82)), (.int .i64 (.v 83)), (.int .i64 (.v 84)), (.bool (.nz (.v 85))), (.int .i64 (.v 86)), (.int .i64 (.v 87))]))
noncomputable def v306 : VT := (.node v148 (some (1, 6)) v259)
noncomputable def v307 : VT := (.node v141 (some ((-20), 5)) v35)
noncomputable def v308 : VT := (.node v256 (some (0, 60)) v307)
noncomputable def v309 : VT := (.node v306 (some (0, 100)) v308)
noncomputable def v310 : VT := (.node v126 (some (0, 60)) v40)
noncomputable def v311 : VT := (.node v251 (some (0, 4)) v310)
noncomputable def v312 : VT := (.node v133 (some (0, 600)) v43)
noncomputable def v313 : VT := (.node v253 (some ((-20), 5)) v312)
noncomputable def v314 : VT := (.node v311 (some (0, 4)) v313)
noncomputable def v315 : VT := (.node v309 (some (0, 9223372036854775807)) v314)
noncomputable def v316 : VT := (.node v162 (some ((-30), 1000)) .nil)
noncomputable def v317 : VT := (.node v176 (some (0, 600)) v316)
noncomputable def v318 : VT := (.node v180 (some (0, 600)) v317)
noncomputable def v319 : VT := (.node v172 (some (1, 200)) v53)
noncomputable def v320 : VT := (.node v238 (some ((-30), 1000)) v319)
noncomputable def v321 : VT := (.node v318 (some (1, 10)) v320)
noncomputable def v322 : VT := (.node v156 (some ((-30), 1000)) v58)
noncomputable def v323 : VT := (.node v241 (some (0, 600)) v322)
noncomputable def v324 : VT := (.node v28 (some (0, 4)) .nil)
noncomputable def v325 : VT := (.node v324 (some (0, 4)) v162)
noncomputable def v326 : VT := (.node v246 (some (1, 200)) v325)
noncomputable def v327 : VT := (.node v323 (some (0, 600)) v326)
noncomputable def v328 : VT := (.node v321 (some (0, 3)) v327)
noncomputable def v329 : VT := (.node v315 (some (0, 9223372036854775807)) v328)
noncomputable def n330 : Nat × List E × Nat × Nat := (27, [(.v 2), (.v 3), (.v 4), (.v 5), (.lit 0), (.lit 0), (.lit 0), (.lit 0), (.lit 0), (.lit 0), (.lit 0), (.lit 0), (.lit 0), (.lit 0), (.lit 0), (.add (.v 37) (.v 49))], 77, 12)
noncomputable def n331 : Nat × List E × Nat × Nat := (27, [(.v 2), (.v 3), (.v 4), (.v 5), (.v 51), (.v 52), (.v 53), (.v 54), (.v 55), (.v 56), (.v 57), (.v 58), (.v 59), (.v 60), (.v 61), e301], 65, 12)
noncomputable def n332 : Nat × List E × Nat × Nat := (900, [(.lit 5), e2, (.v 50)], 63, 2)
noncomputable def n333 : Nat × List E × Nat × Nat := (27, [(.v 2), (.v 3), (.v 4), (.v 5), (.v 37), (.v 38), (.v 39), (.v 40), (.v 41), (.v 42), (.v 43), (.v 44), (.v 45), (.v 46), (.v 47), (.add (.v 37) (.v 49))], 51, 12)
noncomputable def n334 : Nat × List E × Nat × Nat := (900, [(.lit 12), e2, (.v 36)], 49, 2)
noncomputable def ct7 : Ct := adm LC LF LG 1 (.back .normal (Ct.fr ct1))
noncomputable def st7 : St := ⟨[(.sls 0 (.v 0) (.v 1)), .undef, (.bool (.lit false)), (.ptr 0 0), (.ptr 1 0), (.ptr 2 0), (.int .i64 (.v 48)), s300, (.ptr 15 0), (.int .i64 (.v 62)), (.ptr 16 0), (.int .i64 (.v 76)), (.ptr 17 0), (.int .i64 (.v 88)), .undef, (.sls 0 (.v 0) (.v 1)), (.ptr 0 0), (.ptr 0 0), s3, s270, s3, (.ptr 0 0), (.slc 14 4 4 none), s270, s269, (.int .i64 (.v 48)), (.int .i64 (.v 48)), (.bool b271), (.bool b271), s272, s274, (.bool b275), (.ptr 2 0), (.ptr 2 0), (.int .i64 (.v 37)), (.ptr 0 0), (.int .i64 (.v 49)), s300, s5, s3, s269, s300, s5, s4, (.int .i64 (.v 62)), s110, s3, s4, s300, (.ptr 0 0), (.int .i64 (.v 63)), (.int .i64 e301), s110, s109, (.int .i64 (.v 76)), s303, s3, s116, s300, s303, s302, (.int .i64 (.v 88)), .undef, .undef, .undef, .undef, .undef, .undef, .undef, .undef, .undef, .undef, .undef, .undef, .undef, .undef, .undef, .undef, .undef, .undef, .undef, .undef, .undef, .undef, .undef, .undef, .undef, .undef, .undef, .undef, .undef, .undef, .undef, .undef, .undef, .undef, .undef, .undef, .undef, .undef, .undef, .undef, .undef, .undef, .undef, .undef, .undef, .undef, .undef, .undef, .undef, .undef, .undef, .undef, .undef], [o304, o12, o277, o14, o15, none, o14, o16, none, o14, o17, none, o14, o18, o278, o13, o118, o305], ⟨⟨[(e23, 0, 0), e25, (e22, 1, 4), e26], v329, 89⟩, [(b275, false), ((.lt (.lit 0) e23), false), (b69, true), ((.lt (.lit 0) e22), true), (b70, true), ((.lt (.lit 0) (.v 7)), true), ((.le e2 (.v 1)), true), ((.le (.v 0) (.v 1)), true)]⟩, 89, [17, 17, 16, 0, 16, 15, 15, 0, 2, 11, 14, 13, 0, 0, 12, 8, 11, 10, 0, 0, 9, 5, 8, 7, 0, 0, 6, 5, 4, 0, 0, 3, 0, 2, 1, 1, 0, 0], [n330, n331, n332, n333, n334, n297, n103, n104, n105, n106]⟩
noncomputable def tr7 : T Leaf :=
(.ite (.or (.or (.or (.not (.eq (.v 62) (.lit 0))) (.not (.eq (.v 76) (.lit 0)))) (.not (.eq (.v 88) (.lit 0)))) (.not (.and (.and (.eq (.v 77) (.lit 0)) (.and (.eq (.v 78) (.lit 0)) (.and (.eq (.v 79) (.lit 0)) (.eq (.v 80) (.lit 0))))) (.and (.and (.eq (.v 81) (.lit 0)) (.and (.eq (.v 82) (.lit 0)) (.and (.eq (.v 83) (.lit 0)) (.eq (.v 84) (.lit 0))))) (.and (.not (.nz (.v 85))) (.and (.eq (.v 86) (.lit 0)) (.eq (.v 87) (.lit 0))))))))
 (.leaf ((.bool (.lit false)), [], []))
 (.ite (.or (.or (.not (.and (.and (.eq (.v 51) (.v 37)) (.and (.eq (.v 52) (.v 38)) (.and (.eq (.v 53) (.v 39)) (.eq (.v 54) (.v 40))))) (.and (.and (.eq (.v 55) (.v 41)) (.and (.eq (.v 56) (.v 42)) (.and (.eq (.v 57) (.v 43)) (.eq (.v 58) (.v 44))))) (.and (.iff (.nz (.v 59)) (.nz (.v 45))) (.eq (.v 60) (.v 46)))))) (.and (.not (.eq (.v 61) (.v 47))) (.not (.eq (.v 61) (.lit 2))))) (.and (.eq (.v 61) (.lit 2)) (.not (.and (.and (.eq (.v 65) (.v 51)) (.and (.eq (.v 66) (.v 52)) (.and (.eq (.v 67) (.v 53)) (.eq (.v 68) (.v 54))))) (.and (.and (.eq (.v 69) (.v 55)) (.and (.eq (.v 70) (.v 56)) (.and (.eq (.v 71) (.v 57)) (.eq (.v 72) (.v 58))))) (.and (.iff (.nz (.v 73)) (.nz (.v 59))) (.and (.eq (.v 74) (.v 60)) (.eq (.v 75) (.v 61)))))))))
  (.leaf ((.bool (.lit false)), [], []))
  (.call 10 [] 1
  (.leaf ((.bool (.lit true)), [], []))
  )
 )
)
theorem th7 : (at_ LP LC LF (evD LP LC LF LD) LG LK ct7 st7).strip = tr7 := by kernel_rfl
noncomputable def s335 : SV := (.agg [(.int .i64 (.v 30)), (.int .i64 (.v 31)), (.int .i64 (.v 32)), (.int .i64 (.v 33)), (.int .i64 (.v 34)), (.int .i64 (.v 35)), (.int .i64 (.v 36)), (.int .i64 (.v 37)), (.bool (.nz (.v 38))), (.int .i64 (.v 39)), (.int .i64 (.v 40))])
noncomputable def s336 : SV := (.tup [s335, (.int .i64 (.v 41))])
noncomputable def b337 : B := (.not (.eq (.v 41) (.lit 0)))
noncomputable def s338 : SV := (.grd b337 (.int .i64 (.v 41)))
noncomputable def b339 : B := (.eq (.v 41) (.lit 16))
noncomputable def s340 : SV := (.grd b337 (.bool (.not b339)))
noncomputable def b341 : B := (.and b337 (.not b339))
noncomputable def o342 : Option (TypeId × List SV) := (some (49, [(.sls 0 e2 (.v 1)), (.int .i64 (.v 29))]))
noncomputable def o343 : Option (TypeId × List SV) := (some (31, [(.int .i64 (.v 30)), (.int .i64 (.v 31)), (.int .i64 (.v 32)), (.int .i64 (.v 33)), (.int .i64 (.v 34)), (.int .i64 (.v 35)), (.int .i64 (.v 36)), (.int .i64 (.v 37)), (.bool (.nz (.v 38))), (.int .i64 (.v 39)), (.int .i64 (.v 40))]))
noncomputable def o344 : Option (TypeId × List SV) := (some (29, [(.int .i64 (.v 11)), (.int .i64 (.v 12)), (.int .i64 (.v 13)), (.int .i64 (.v 14)), (.int .i64 (.v 18)), (.int .i64 (.v 19)), (.int .i64 (.v 20)), (.int .i64 (.v 21)), (.int .i64 (.v 25)), (.int .i64 (.v 26)), (.int .i64 (.v 27)), (.int .i64 (.v 28))]))
noncomputable def e345 : E × Int × Int := ((.sub e22 (.lit 1)), 0, 0)
noncomputable def v346 : VT := (.node .nil (some (0, 3)) .nil)
noncomputable def v347 : VT := (.node v346 (some (0, 4)) .nil)
noncomputable def v348 : VT := (.node v208 (some (1, 6)) v347)
noncomputable def v349 : VT := (.node v160 (some (0, 60)) v40)
noncomputable def v350 : VT := (.node v348 (some (0, 100)) v349)
noncomputable def v351 : VT := (.node v62 (some (0, 60)) .nil)
noncomputable def v352 : VT := (.node v169 (some (0, 4)) v351)
noncomputable def v353 : VT := (.node v288 (some ((-20), 5)) v27)
noncomputable def v354 : VT := (.node v352 (some (0, 4)) v353)
noncomputable def v355 : VT := (.node v350 (some (0, 9223372036854775807)) v354)
noncomputable def v356 : VT := (.node v147 (some (0, 600)) v132)
noncomputable def v357 : VT := (.node v145 (some ((-30), 1000)) v33)
noncomputable def v358 : VT := (.node v356 (some (1, 10)) v357)
noncomputable def v359 : VT := (.node v130 (some (0, 600)) v28)
noncomputable def v360 : VT := (.node v283 (some (1, 200)) v30)
noncomputable def v361 : VT := (.node v359 (some (0, 600)) v360)
noncomputable def v362 : VT := (.node v358 (some (0, 3)) v361)
noncomputable def v363 : VT := (.node v355 (some (0, 9223372036854775807)) v362)
noncomputable def n364 : Nat × List E × Nat × Nat := (23, [(.v 2), (.v 3), (.v 4), (.v 5), (.v 11), (.v 12), (.v 13), (.v 14), (.v 18), (.v 19), (.v 20), (.v 21), (.v 25), (.v 26), (.v 27), (.v 28)], 30, 12)
noncomputable def n365 : Nat × List E × Nat × Nat := (11, [e2, (.v 1), (.lit 0)], 2, 5)
noncomputable def ct8 : Ct := adm LC LF LG 1 (.back .ret (Ct.fr ct1))
noncomputable def st8 : St := ⟨[(.sls 0 (.v 0) (.v 1)), .undef, (.bool (.lit false)), (.ptr 0 0), (.ptr 1 0), (.ptr 2 0), (.int .i64 (.v 41)), .undef, .undef, .undef, .undef, .undef, .undef, .undef, .undef, (.sls 0 (.v 0) (.v 1)), (.ptr 0 0), (.ptr 0 0), s3, s336, s3, (.ptr 0 0), (.slc 11 4 3 none), s336, s335, (.int .i64 (.v 41)), (.int .i64 (.v 41)), (.bool b337), (.bool b337), s338, s340, (.bool b341), .undef, .undef, .undef, .undef, .undef, .undef, .undef, .undef, .undef, .undef, .undef, .undef, .undef, .undef, .undef, .undef, .undef, .undef, .undef, .undef, .undef, .undef, .undef, .undef, .undef, .undef, .undef, .undef, .undef, .undef, .undef, .undef, .undef, .undef, .undef, .undef, .undef, .undef, .undef, .undef, .undef, .undef, .undef, .undef, .undef, .undef, .undef, .undef, .undef, .undef, .undef, .undef, .undef, .undef, .undef, .undef, .undef, .undef, .undef, .undef, .undef, .undef, .undef, .undef, .undef, .undef, .undef, .undef, .undef, .undef, .undef, .undef, .undef, .undef, .undef, .undef, .undef, .undef, .undef, .undef, .undef, .undef, .undef], [o342, o12, o343, o14, o15, none, o14, o16, none, o14, o17, o344], ⟨⟨[e345, (e22, 1, 4), e26], v363, 42⟩, [(b339, false), ((.eq (.v 41) (.lit 0)), false), (b69, false), ((.lt (.lit 0) e22), true), (b70, true), ((.lt (.lit 0) (.v 7)), true), ((.le e2 (.v 1)), true), ((.le (.v 0) (.v 1)), true)]⟩, 42, [2, 8, 11, 10, 0, 0, 9, 5, 8, 7, 0, 0, 6, 5, 4, 0, 0, 3, 0, 2, 1, 1, 0, 0], [n364, n105, n106, n107, n223, n224, n298, n299, n365]⟩
noncomputable def tr8 : T Leaf :=
(.leaf ((.bool (.lit false)), [], []))
theorem th8 : (at_ LP LC LF (evD LP LC LF LD) LG LK ct8 st8).strip = tr8 := by kernel_rfl
noncomputable def s366 : SV := (.int .i64 (.add (.v 30) (.v 42)))
noncomputable def e367 : E := (.add (.add (.v 30) (.v 42)) (.v 56))
noncomputable def s368 : SV := (.agg [(.int .i64 (.v 70)), (.int .i64 (.v 71)), (.int .i64 (.v 72)), (.int .i64 (.v 73)), (.int .i64 (.v 74)), (.int .i64 (.v 75)), (.int .i64 (.v 76)), (.int .i64 (.v 77)), (.bool (.nz (.v 78))), (.int .i64 (.v 79)), (.int .i64 (.v 80))])
noncomputable def s369 : SV := (.tup [s368, (.int .i64 (.v 81))])
noncomputable def o370 : Option (TypeId × List SV) := (some (49, [(.sls 0 e2 (.v 1)), (.int .i64 (.v 57))]))
noncomputable def o371 : Option (TypeId × List SV) := (some (31, [(.int .i64 (.v 70)), (.int .i64 (.v 71)), (.int .i64 (.v 72)), (.int .i64 (.v 73)), (.int .i64 (.v 74)), (.int .i64 (.v 75)), (.int .i64 (.v 76)), (.int .i64 (.v 77)), (.bool (.nz (.v 78))), (.int .i64 (.v 79)), (.int .i64 (.v 80))]))
noncomputable def v372 : VT := (.node v28 (some (0, 3)) .nil)
noncomputable def v373 : VT := (.node v372 (some (0, 4)) v162)
noncomputable def v374 : VT := (.node v246 (some (1, 6)) v373)
noncomputable def v375 : VT := (.node v208 (some ((-20), 5)) v28)
noncomputable def v376 : VT := (.node v322 (some (0, 60)) v375)
noncomputable def v377 : VT := (.node v374 (some (0, 100)) v376)
noncomputable def v378 : VT := (.node v179 (some (0, 60)) v27)
noncomputable def v379 : VT := (.node v317 (some (0, 4)) v378)
noncomputable def v380 : VT := (.node v155 (some (0, 600)) v58)
noncomputable def v381 : VT := (.node v319 (some ((-20), 5)) v380)
noncomputable def v382 : VT := (.node v379 (some (0, 4)) v381)
noncomputable def v383 : VT := (.node v377 (some (0, 9223372036854775807)) v382)
noncomputable def v384 : VT := (.node v147 (some (0, 600)) v43)
noncomputable def v385 : VT := (.node v259 (some (0, 600)) v384)
noncomputable def v386 : VT := (.node v125 (some (1, 200)) v40)
noncomputable def v387 : VT := (.node v307 (some ((-30), 1000)) v386)
noncomputable def v388 : VT := (.node v385 (some (1, 10)) v387)
noncomputable def v389 : VT := (.node v250 (some ((-30), 1000)) v30)
noncomputable def v390 : VT := (.node v310 (some (0, 600)) v389)
noncomputable def v391 : VT := (.node v140 (some (0, 60)) v30)
noncomputable def v392 : VT := (.node v312 (some (1, 200)) v391)
noncomputable def v393 : VT := (.node v390 (some (0, 600)) v392)
noncomputable def v394 : VT := (.node v388 (some (0, 3)) v393)
noncomputable def v395 : VT := (.node v383 (some (0, 9223372036854775807)) v394)
noncomputable def n396 : Nat × List E × Nat × Nat := (27, [(.v 2), (.v 3), (.v 4), (.v 5), (.lit 0), (.lit 0), (.lit 0), (.lit 0), (.lit 0), (.lit 0), (.lit 0), (.lit 0), (.lit 0), (.lit 0), (.lit 0), (.add (.v 30) (.v 42))], 70, 12)
noncomputable def n397 : Nat × List E × Nat × Nat := (27, [(.v 2), (.v 3), (.v 4), (.v 5), (.v 44), (.v 45), (.v 46), (.v 47), (.v 48), (.v 49), (.v 50), (.v 51), (.v 52), (.v 53), (.v 54), e367], 58, 12)
noncomputable def n398 : Nat × List E × Nat × Nat := (900, [(.lit 5), e2, (.v 43)], 56, 2)
noncomputable def n399 : Nat × List E × Nat × Nat := (27, [(.v 2), (.v 3), (.v 4), (.v 5), (.v 30), (.v 31), (.v 32), (.v 33), (.v 34), (.v 35), (.v 36), (.v 37), (.v 38), (.v 39), (.v 40), (.add (.v 30) (.v 42))], 44, 12)
noncomputable def n400 : Nat × List E × Nat × Nat := (900, [(.lit 12), e2, (.v 29)], 42, 2)
noncomputable def ct9 : Ct := adm LC LF LG 1 (.back .normal (Ct.fr ct1))
noncomputable def st9 : St := ⟨[(.sls 0 (.v 0) (.v 1)), .undef, (.bool (.lit false)), (.ptr 0 0), (.ptr 1 0), (.ptr 2 0), (.int .i64 (.v 41)), s366, (.ptr 12 0), (.int .i64 (.v 55)), (.ptr 13 0), (.int .i64 (.v 69)), (.ptr 14 0), (.int .i64 (.v 81)), .undef, (.sls 0 (.v 0) (.v 1)), (.ptr 0 0), (.ptr 0 0), s3, s336, s3, (.ptr 0 0), (.slc 11 4 3 none), s336, s335, (.int .i64 (.v 41)), (.int .i64 (.v 41)), (.bool b337), (.bool b337), s338, s340, (.bool b341), (.ptr 2 0), (.ptr 2 0), (.int .i64 (.v 30)), (.ptr 0 0), (.int .i64 (.v 42)), s366, s191, s3, s335, s366, s191, s190, (.int .i64 (.v 55)), s227, s3, s190, s366, (.ptr 0 0), (.int .i64 (.v 56)), (.int .i64 e367), s227, s226, (.int .i64 (.v 69)), s369, s3, s116, s366, s369, s368, (.int .i64 (.v 81)), .undef, .undef, .undef, .undef, .undef, .undef, .undef, .undef, .undef, .undef, .undef, .undef, .undef, .undef, .undef, .undef, .undef, .undef, .undef, .undef, .undef, .undef, .undef, .undef, .undef, .undef, .undef, .undef, .undef, .undef, .undef, .undef, .undef, .undef, .undef, .undef, .undef, .undef, .undef, .undef, .undef, .undef, .undef, .undef, .undef, .undef, .undef, .undef, .undef, .undef, .undef, .undef, .undef], [o370, o12, o343, o14, o15, none, o14, o16, none, o14, o17, o344, o198, o234, o371], ⟨⟨[e345, (e22, 1, 4), e26], v395, 82⟩, [(b341, false), (b69, false), ((.lt (.lit 0) e22), true), (b70, true), ((.lt (.lit 0) (.v 7)), true), ((.le e2 (.v 1)), true), ((.le (.v 0) (.v 1)), true)]⟩, 82, [14, 14, 13, 0, 13, 12, 12, 0, 2, 8, 11, 10, 0, 0, 9, 5, 8, 7, 0, 0, 6, 5, 4, 0, 0, 3, 0, 2, 1, 1, 0, 0], [n396, n397, n398, n399, n400, n364, n105, n106, n107, n223]⟩
noncomputable def tr9 : T Leaf :=
(.ite (.or (.or (.or (.not (.eq (.v 55) (.lit 0))) (.not (.eq (.v 69) (.lit 0)))) (.not (.eq (.v 81) (.lit 0)))) (.not (.and (.and (.eq (.v 70) (.lit 0)) (.and (.eq (.v 71) (.lit 0)) (.and (.eq (.v 72) (.lit 0)) (.eq (.v 73) (.lit 0))))) (.and (.and (.eq (.v 74) (.lit 0)) (.and (.eq (.v 75) (.lit 0)) (.and (.eq (.v 76) (.lit 0)) (.eq (.v 77) (.lit 0))))) (.and (.not (.nz (.v 78))) (.and (.eq (.v 79) (.lit 0)) (.eq (.v 80) (.lit 0))))))))
 (.leaf ((.bool (.lit false)), [], []))
 (.ite (.or (.or (.not (.and (.and (.eq (.v 44) (.v 30)) (.and (.eq (.v 45) (.v 31)) (.and (.eq (.v 46) (.v 32)) (.eq (.v 47) (.v 33))))) (.and (.and (.eq (.v 48) (.v 34)) (.and (.eq (.v 49) (.v 35)) (.and (.eq (.v 50) (.v 36)) (.eq (.v 51) (.v 37))))) (.and (.iff (.nz (.v 52)) (.nz (.v 38))) (.eq (.v 53) (.v 39)))))) (.and (.not (.eq (.v 54) (.v 40))) (.not (.eq (.v 54) (.lit 2))))) (.and (.eq (.v 54) (.lit 2)) (.not (.and (.and (.eq (.v 58) (.v 44)) (.and (.eq (.v 59) (.v 45)) (.and (.eq (.v 60) (.v 46)) (.eq (.v 61) (.v 47))))) (.and (.and (.eq (.v 62) (.v 48)) (.and (.eq (.v 63) (.v 49)) (.and (.eq (.v 64) (.v 50)) (.eq (.v 65) (.v 51))))) (.and (.iff (.nz (.v 66)) (.nz (.v 52))) (.and (.eq (.v 67) (.v 53)) (.eq (.v 68) (.v 54)))))))))
  (.leaf ((.bool (.lit false)), [], []))
  (.call 10 [] 1
  (.leaf ((.bool (.lit true)), [], []))
  )
 )
)
theorem th9 : (at_ LP LC LF (evD LP LC LF LD) LG LK ct9 st9).strip = tr9 := by kernel_rfl
noncomputable def s401 : SV := (.agg [(.int .i64 (.v 23)), (.int .i64 (.v 24)), (.int .i64 (.v 25)), (.int .i64 (.v 26)), (.int .i64 (.v 27)), (.int .i64 (.v 28)), (.int .i64 (.v 29)), (.int .i64 (.v 30)), (.bool (.nz (.v 31))), (.int .i64 (.v 32)), (.int .i64 (.v 33))])
noncomputable def s402 : SV := (.tup [s401, (.int .i64 (.v 34))])
noncomputable def b403 : B := (.not (.eq (.v 34) (.lit 0)))
noncomputable def s404 : SV := (.grd b403 (.int .i64 (.v 34)))
noncomputable def b405 : B := (.eq (.v 34) (.lit 16))
noncomputable def s406 : SV := (.grd b403 (.bool (.not b405)))
noncomputable def b407 : B := (.and b403 (.not b405))
noncomputable def o408 : Option (TypeId × List SV) := (some (49, [(.sls 0 e2 (.v 1)), (.int .i64 (.v 22))]))
noncomputable def o409 : Option (TypeId × List SV) := (some (31, [(.int .i64 (.v 23)), (.int .i64 (.v 24)), (.int .i64 (.v 25)), (.int .i64 (.v 26)), (.int .i64 (.v 27)), (.int .i64 (.v 28)), (.int .i64 (.v 29)), (.int .i64 (.v 30)), (.bool (.nz (.v 31))), (.int .i64 (.v 32)), (.int .i64 (.v 33))]))
noncomputable def o410 : Option (TypeId × List SV) := (some (29, [(.int .i64 (.v 11)), (.int .i64 (.v 12)), (.int .i64 (.v 13)), (.int .i64 (.v 14)), (.int .i64 (.v 18)), (.int .i64 (.v 19)), (.int .i64 (.v 20)), (.int .i64 (.v 21))]))
noncomputable def v411 : VT := (.node v283 (some (1, 6)) v30)
noncomputable def v412 : VT := (.node v28 (some (0, 60)) v30)
noncomputable def v413 : VT := (.node v411 (some (0, 100)) v412)
noncomputable def v414 : VT := (.node v132 (some (0, 4)) v40)
noncomputable def v415 : VT := (.node v33 (some ((-20), 5)) v40)
noncomputable def v416 : VT := (.node v414 (some (0, 4)) v415)
noncomputable def v417 : VT := (.node v413 (some (0, 9223372036854775807)) v416)
noncomputable def v418 : VT := (.node .nil (some (0, 2)) .nil)
noncomputable def v419 : VT := (.node v418 (some (0, 4)) .nil)
noncomputable def v420 : VT := (.node v419 (some (0, 600)) v28)
noncomputable def v421 : VT := (.node v40 (some ((-30), 1000)) v28)
noncomputable def v422 : VT := (.node v420 (some (1, 10)) v421)
noncomputable def v423 : VT := (.node v351 (some (0, 600)) v58)
noncomputable def v424 : VT := (.node v27 (some (1, 200)) v58)
noncomputable def v425 : VT := (.node v423 (some (0, 600)) v424)
noncomputable def v426 : VT := (.node v422 (some (0, 3)) v425)
noncomputable def v427 : VT := (.node v417 (some (0, 9223372036854775807)) v426)
noncomputable def n428 : Nat × List E × Nat × Nat := (22, [(.v 2), (.v 3), (.v 4), (.v 5), (.v 11), (.v 12), (.v 13), (.v 14), (.v 18), (.v 19), (.v 20), (.v 21)], 23, 12)
noncomputable def ct10 : Ct := adm LC LF LG 1 (.back .ret (Ct.fr ct1))
noncomputable def st10 : St := ⟨[(.sls 0 (.v 0) (.v 1)), .undef, (.bool (.lit false)), (.ptr 0 0), (.ptr 1 0), (.ptr 2 0), (.int .i64 (.v 34)), .undef, .undef, .undef, .undef, .undef, .undef, .undef, .undef, (.sls 0 (.v 0) (.v 1)), (.ptr 0 0), (.ptr 0 0), s3, s402, s3, (.ptr 0 0), (.slc 8 4 2 none), s402, s401, (.int .i64 (.v 34)), (.int .i64 (.v 34)), (.bool b403), (.bool b403), s404, s406, (.bool b407), .undef, .undef, .undef, .undef, .undef, .undef, .undef, .undef, .undef, .undef, .undef, .undef, .undef, .undef, .undef, .undef, .undef, .undef, .undef, .undef, .undef, .undef, .undef, .undef, .undef, .undef, .undef, .undef, .undef, .undef, .undef, .undef, .undef, .undef, .undef, .undef, .undef, .undef, .undef, .undef, .undef, .undef, .undef, .undef, .undef, .undef, .undef, .undef, .undef, .undef, .undef, .undef, .undef, .undef, .undef, .undef, .undef, .undef, .undef, .undef, .undef, .undef, .undef, .undef, .undef, .undef, .undef, .undef, .undef, .undef, .undef, .undef, .undef, .undef, .undef, .undef, .undef, .undef, .undef, .undef, .undef, .undef, .undef], [o408, o12, o409, o14, o15, none, o14, o16, o410], ⟨⟨[(e22, 0, 0), e26], v427, 35⟩, [(b405, false), ((.eq (.v 34) (.lit 0)), false), ((.lt (.lit 0) e22), false), (b70, true), ((.lt (.lit 0) (.v 7)), true), ((.le e2 (.v 1)), true), ((.le (.v 0) (.v 1)), true)]⟩, 35, [2, 5, 8, 7, 0, 0, 6, 5, 4, 0, 0, 3, 0, 2, 1, 1, 0, 0], [n428, n107, n223, n224, n298, n299, n365]⟩
noncomputable def tr10 : T Leaf :=
(.leaf ((.bool (.lit false)), [], []))
theorem th10 : (at_ LP LC LF (evD LP LC LF LD) LG LK ct10 st10).strip = tr10 := by kernel_rfl
noncomputable def s429 : SV := (.int .i64 (.add (.v 23) (.v 35)))
noncomputable def e430 : E := (.add (.add (.v 23) (.v 35)) (.v 49))
noncomputable def s431 : SV := (.agg [(.int .i64 (.v 63)), (.int .i64 (.v 64)), (.int .i64 (.v 65)), (.int .i64 (.v 66)), (.int .i64 (.v 67)), (.int .i64 (.v 68)), (.int .i64 (.v 69)), (.int .i64 (.v 70)), (.bool (.nz (.v 71))), (.int .i64 (.v 72)), (.int .i64 (.v 73))])
noncomputable def s432 : SV := (.tup [s431, (.int .i64 (.v 74))])
noncomputable def o433 : Option (TypeId × List SV) := (some (31, [(.int .i64 (.v 63)), (.int .i64 (.v 64)), (.int .i64 (.v 65)), (.int .i64 (.v 66)), (.int .i64 (.v 67)), (.int .i64 (.v 68)), (.int .i64 (.v 69)), (.int .i64 (.v 70)), (.bool (.nz (.v 71))), (.int .i64 (.v 72)), (.int .i64 (.v 73))]))
noncomputable def v434 : VT := (.node v312 (some (1, 6)) v391)
noncomputable def v435 : VT := (.node v40 (some (0, 60)) v35)
noncomputable def v436 : VT := (.node v389 (some (0, 60)) v435)
noncomputable def v437 : VT := (.node v434 (some (0, 100)) v436)
noncomputable def v438 : VT := (.node v258 (some ((-20), 5)) v40)
noncomputable def v439 : VT := (.node v384 (some (0, 4)) v438)
noncomputable def v440 : VT := (.node v35 (some ((-20), 5)) v43)
noncomputable def v441 : VT := (.node v386 (some ((-20), 5)) v440)
noncomputable def v442 : VT := (.node v439 (some (0, 4)) v441)
noncomputable def v443 : VT := (.node v437 (some (0, 9223372036854775807)) v442)
noncomputable def v444 : VT := (.node v28 (some (0, 2)) .nil)
noncomputable def v445 : VT := (.node v444 (some (0, 4)) v162)
noncomputable def v446 : VT := (.node v245 (some ((-30), 1000)) v28)
noncomputable def v447 : VT := (.node v445 (some (0, 600)) v446)
noncomputable def v448 : VT := (.node v58 (some ((-30), 1000)) v53)
noncomputable def v449 : VT := (.node v375 (some ((-30), 1000)) v448)
noncomputable def v450 : VT := (.node v447 (some (1, 10)) v449)
noncomputable def v451 : VT := (.node v316 (some (0, 200)) v58)
noncomputable def v452 : VT := (.node v378 (some (0, 600)) v451)
noncomputable def v453 : VT := (.node v53 (some (0, 200)) v162)
noncomputable def v454 : VT := (.node v380 (some (1, 200)) v453)
noncomputable def v455 : VT := (.node v452 (some (0, 600)) v454)
noncomputable def v456 : VT := (.node v450 (some (0, 3)) v455)
noncomputable def v457 : VT := (.node v443 (some (0, 9223372036854775807)) v456)
noncomputable def n458 : Nat × List E × Nat × Nat := (27, [(.v 2), (.v 3), (.v 4), (.v 5), (.lit 0), (.lit 0), (.lit 0), (.lit 0), (.lit 0), (.lit 0), (.lit 0), (.lit 0), (.lit 0), (.lit 0), (.lit 0), (.add (.v 23) (.v 35))], 63, 12)
noncomputable def n459 : Nat × List E × Nat × Nat := (27, [(.v 2), (.v 3), (.v 4), (.v 5), (.v 37), (.v 38), (.v 39), (.v 40), (.v 41), (.v 42), (.v 43), (.v 44), (.v 45), (.v 46), (.v 47), e430], 51, 12)
noncomputable def n460 : Nat × List E × Nat × Nat := (900, [(.lit 5), e2, (.v 36)], 49, 2)
noncomputable def n461 : Nat × List E × Nat × Nat := (27, [(.v 2), (.v 3), (.v 4), (.v 5), (.v 23), (.v 24), (.v 25), (.v 26), (.v 27), (.v 28), (.v 29), (.v 30), (.v 31), (.v 32), (.v 33), (.add (.v 23) (.v 35))], 37, 12)
noncomputable def n462 : Nat × List E × Nat × Nat := (900, [(.lit 12), e2, (.v 22)], 35, 2)
noncomputable def ct11 : Ct := adm LC LF LG 1 (.back .normal (Ct.fr ct1))
noncomputable def st11 : St := ⟨[(.sls 0 (.v 0) (.v 1)), .undef, (.bool (.lit false)), (.ptr 0 0), (.ptr 1 0), (.ptr 2 0), (.int .i64 (.v 34)), s429, (.ptr 9 0), (.int .i64 (.v 48)), (.ptr 10 0), (.int .i64 (.v 62)), (.ptr 11 0), (.int .i64 (.v 74)), .undef, (.sls 0 (.v 0) (.v 1)), (.ptr 0 0), (.ptr 0 0), s3, s402, s3, (.ptr 0 0), (.slc 8 4 2 none), s402, s401, (.int .i64 (.v 34)), (.int .i64 (.v 34)), (.bool b403), (.bool b403), s404, s406, (.bool b407), (.ptr 2 0), (.ptr 2 0), (.int .i64 (.v 23)), (.ptr 0 0), (.int .i64 (.v 35)), s429, s270, s3, s401, s429, s270, s269, (.int .i64 (.v 48)), s5, s3, s269, s429, (.ptr 0 0), (.int .i64 (.v 49)), (.int .i64 e430), s5, s4, (.int .i64 (.v 62)), s432, s3, s116, s429, s432, s431, (.int .i64 (.v 74)), .undef, .undef, .undef, .undef, .undef, .undef, .undef, .undef, .undef, .undef, .undef, .undef, .undef, .undef, .undef, .undef, .undef, .undef, .undef, .undef, .undef, .undef, .undef, .undef, .undef, .undef, .undef, .undef, .undef, .undef, .undef, .undef, .undef, .undef, .undef, .undef, .undef, .undef, .undef, .undef, .undef, .undef, .undef, .undef, .undef, .undef, .undef, .undef, .undef, .undef, .undef, .undef, .undef], [o11, o12, o409, o14, o15, none, o14, o16, o410, o277, o13, o433], ⟨⟨[(e22, 0, 0), e26], v457, 75⟩, [(b407, false), ((.lt (.lit 0) e22), false), (b70, true), ((.lt (.lit 0) (.v 7)), true), ((.le e2 (.v 1)), true), ((.le (.v 0) (.v 1)), true)]⟩, 75, [11, 11, 10, 0, 10, 9, 9, 0, 2, 5, 8, 7, 0, 0, 6, 5, 4, 0, 0, 3, 0, 2, 1, 1, 0, 0], [n458, n459, n460, n461, n462, n428, n107, n223, n224, n298]⟩
noncomputable def tr11 : T Leaf :=
(.ite (.or (.or (.or (.not (.eq (.v 48) (.lit 0))) (.not (.eq (.v 62) (.lit 0)))) (.not (.eq (.v 74) (.lit 0)))) (.not (.and (.and (.eq (.v 63) (.lit 0)) (.and (.eq (.v 64) (.lit 0)) (.and (.eq (.v 65) (.lit 0)) (.eq (.v 66) (.lit 0))))) (.and (.and (.eq (.v 67) (.lit 0)) (.and (.eq (.v 68) (.lit 0)) (.and (.eq (.v 69) (.lit 0)) (.eq (.v 70) (.lit 0))))) (.and (.not (.nz (.v 71))) (.and (.eq (.v 72) (.lit 0)) (.eq (.v 73) (.lit 0))))))))
 (.leaf ((.bool (.lit false)), [], []))
 (.ite (.or (.or (.not (.and (.and (.eq (.v 37) (.v 23)) (.and (.eq (.v 38) (.v 24)) (.and (.eq (.v 39) (.v 25)) (.eq (.v 40) (.v 26))))) (.and (.and (.eq (.v 41) (.v 27)) (.and (.eq (.v 42) (.v 28)) (.and (.eq (.v 43) (.v 29)) (.eq (.v 44) (.v 30))))) (.and (.iff (.nz (.v 45)) (.nz (.v 31))) (.eq (.v 46) (.v 32)))))) (.and (.not (.eq (.v 47) (.v 33))) (.not (.eq (.v 47) (.lit 2))))) (.and (.eq (.v 47) (.lit 2)) (.not (.and (.and (.eq (.v 51) (.v 37)) (.and (.eq (.v 52) (.v 38)) (.and (.eq (.v 53) (.v 39)) (.eq (.v 54) (.v 40))))) (.and (.and (.eq (.v 55) (.v 41)) (.and (.eq (.v 56) (.v 42)) (.and (.eq (.v 57) (.v 43)) (.eq (.v 58) (.v 44))))) (.and (.iff (.nz (.v 59)) (.nz (.v 45))) (.and (.eq (.v 60) (.v 46)) (.eq (.v 61) (.v 47)))))))))
  (.leaf ((.bool (.lit false)), [], []))
  (.call 10 [] 1
  (.leaf ((.bool (.lit true)), [], []))
  )
 )
)
theorem th11 : (at_ LP LC LF (evD LP LC LF LD) LG LK ct11 st11).strip = tr11 := by kernel_rfl
noncomputable def s463 : SV := (.agg [(.int .i64 (.v 16)), (.int .i64 (.v 17)), (.int .i64 (.v 18)), (.int .i64 (.v 19)), (.int .i64 (.v 20)), (.int .i64 (.v 21)), (.int .i64 (.v 22)), (.int .i64 (.v 23)), (.bool (.nz (.v 24))), (.int .i64 (.v 25)), (.int .i64 (.v 26))])
noncomputable def s464 : SV := (.tup [s463, (.int .i64 (.v 27))])
noncomputable def b465 : B := (.not (.eq (.v 27) (.lit 0)))
noncomputable def s466 : SV := (.grd b465 (.int .i64 (.v 27)))
noncomputable def b467 : B := (.eq (.v 27) (.lit 16))
noncomputable def s468 : SV := (.grd b465 (.bool (.not b467)))
noncomputable def b469 : B := (.and b465 (.not b467))
noncomputable def o470 : Option (TypeId × List SV) := (some (49, [(.sls 0 e2 (.v 1)), (.int .i64 (.v 15))]))
noncomputable def o471 : Option (TypeId × List SV) := (some (31, [(.int .i64 (.v 16)), (.int .i64 (.v 17)), (.int .i64 (.v 18)), (.int .i64 (.v 19)), (.int .i64 (.v 20)), (.int .i64 (.v 21)), (.int .i64 (.v 22)), (.int .i64 (.v 23)), (.bool (.nz (.v 24))), (.int .i64 (.v 25)), (.int .i64 (.v 26))]))
noncomputable def e472 : E × Int × Int := ((.sub (.v 7) (.lit 1)), 0, 0)
noncomputable def v473 : VT := (.node v27 (some (1, 6)) v58)
noncomputable def v474 : VT := (.node v58 (some (0, 60)) v62)
noncomputable def v475 : VT := (.node v473 (some (0, 100)) v474)
noncomputable def v476 : VT := (.node v28 (some (0, 4)) v35)
noncomputable def v477 : VT := (.node v476 (some (0, 4)) v153)
noncomputable def v478 : VT := (.node v475 (some (0, 9223372036854775807)) v477)
noncomputable def v479 : VT := (.node v30 (some (0, 600)) v35)
noncomputable def v480 : VT := (.node v479 (some (1, 10)) v123)
noncomputable def v481 : VT := (.node v40 (some (0, 600)) v43)
noncomputable def v482 : VT := (.node v481 (some (0, 600)) v138)
noncomputable def v483 : VT := (.node v480 (some (0, 3)) v482)
noncomputable def v484 : VT := (.node v478 (some (0, 9223372036854775807)) v483)
noncomputable def n485 : Nat × List E × Nat × Nat := (21, [(.v 2), (.v 3), (.v 4), (.v 5), (.v 11), (.v 12), (.v 13), (.v 14)], 16, 12)
noncomputable def ct12 : Ct := adm LC LF LG 1 (.back .ret (Ct.fr ct1))
noncomputable def st12 : St := ⟨[(.sls 0 (.v 0) (.v 1)), .undef, (.bool (.lit false)), (.ptr 0 0), (.ptr 1 0), (.ptr 2 0), (.int .i64 (.v 27)), .undef, .undef, .undef, .undef, .undef, .undef, .undef, .undef, (.sls 0 (.v 0) (.v 1)), (.ptr 0 0), (.ptr 0 0), s3, s464, s3, (.ptr 0 0), (.slc 5 4 1 none), s464, s463, (.int .i64 (.v 27)), (.int .i64 (.v 27)), (.bool b465), (.bool b465), s466, s468, (.bool b469), .undef, .undef, .undef, .undef, .undef, .undef, .undef, .undef, .undef, .undef, .undef, .undef, .undef, .undef, .undef, .undef, .undef, .undef, .undef, .undef, .undef, .undef, .undef, .undef, .undef, .undef, .undef, .undef, .undef, .undef, .undef, .undef, .undef, .undef, .undef, .undef, .undef, .undef, .undef, .undef, .undef, .undef, .undef, .undef, .undef, .undef, .undef, .undef, .undef, .undef, .undef, .undef, .undef, .undef, .undef, .undef, .undef, .undef, .undef, .undef, .undef, .undef, .undef, .undef, .undef, .undef, .undef, .undef, .undef, .undef, .undef, .undef, .undef, .undef, .undef, .undef, .undef, .undef, .undef, .undef, .undef, .undef, .undef], [o470, o12, o471, o14, o15, o15], ⟨⟨[e472], v484, 28⟩, [(b467, false), ((.eq (.v 27) (.lit 0)), false), (b70, false), ((.lt (.lit 0) (.v 7)), true), ((.le e2 (.v 1)), true), ((.le (.v 0) (.v 1)), true)]⟩, 28, [2, 5, 4, 0, 0, 3, 0, 2, 1, 1, 0, 0], [n485, n224, n298, n299, n365]⟩
noncomputable def tr12 : T Leaf :=
(.leaf ((.bool (.lit false)), [], []))
theorem th12 : (at_ LP LC LF (evD LP LC LF LD) LG LK ct12 st12).strip = tr12 := by kernel_rfl
noncomputable def s486 : SV := (.int .i64 (.add (.v 16) (.v 28)))
noncomputable def e487 : E := (.add (.add (.v 16) (.v 28)) (.v 42))
noncomputable def s488 : SV := (.agg [(.int .i64 (.v 56)), (.int .i64 (.v 57)), (.int .i64 (.v 58)), (.int .i64 (.v 59)), (.int .i64 (.v 60)), (.int .i64 (.v 61)), (.int .i64 (.v 62)), (.int .i64 (.v 63)), (.bool (.nz (.v 64))), (.int .i64 (.v 65)), (.int .i64 (.v 66))])
noncomputable def s489 : SV := (.tup [s488, (.int .i64 (.v 67))])
noncomputable def o490 : Option (TypeId × List SV) := (some (31, [(.int .i64 (.v 56)), (.int .i64 (.v 57)), (.int .i64 (.v 58)), (.int .i64 (.v 59)), (.int .i64 (.v 60)), (.int .i64 (.v 61)), (.int .i64 (.v 62)), (.int .i64 (.v 63)), (.bool (.nz (.v 64))), (.int .i64 (.v 65)), (.int .i64 (.v 66))]))
noncomputable def v491 : VT := (.node v380 (some (1, 6)) v453)
noncomputable def v492 : VT := (.node v27 (some (0, 16)) v58)
noncomputable def v493 : VT := (.node v451 (some (0, 60)) v492)
noncomputable def v494 : VT := (.node v491 (some (0, 100)) v493)
noncomputable def v495 : VT := (.node v162 (some (0, 1)) v28)
noncomputable def v496 : VT := (.node v446 (some (0, 4)) v495)
noncomputable def v497 : VT := (.node v448 (some ((-20), 5)) v50)
noncomputable def v498 : VT := (.node v496 (some (0, 4)) v497)
noncomputable def v499 : VT := (.node v494 (some (0, 9223372036854775807)) v498)
noncomputable def v500 : VT := (.node v43 (some (0, 1)) v30)
noncomputable def v501 : VT := (.node v391 (some (0, 600)) v500)
noncomputable def v502 : VT := (.node v30 (some (0, 11)) v30)
noncomputable def v503 : VT := (.node v435 (some ((-30), 1000)) v502)
noncomputable def v504 : VT := (.node v501 (some (1, 10)) v503)
noncomputable def v505 : VT := (.node v43 (some (0, 4)) v40)
noncomputable def v506 : VT := (.node v438 (some (0, 600)) v505)
noncomputable def v507 : VT := (.node v440 (some (1, 200)) v41)
noncomputable def v508 : VT := (.node v506 (some (0, 600)) v507)
noncomputable def v509 : VT := (.node v504 (some (0, 3)) v508)
noncomputable def v510 : VT := (.node v499 (some (0, 9223372036854775807)) v509)
noncomputable def n511 : Nat × List E × Nat × Nat := (27, [(.v 2), (.v 3), (.v 4), (.v 5), (.lit 0), (.lit 0), (.lit 0), (.lit 0), (.lit 0), (.lit 0), (.lit 0), (.lit 0), (.lit 0), (.lit 0), (.lit 0), (.add (.v 16) (.v 28))], 56, 12)
noncomputable def n512 : Nat × List E × Nat × Nat := (27, [(.v 2), (.v 3), (.v 4), (.v 5), (.v 30), (.v 31), (.v 32), (.v 33), (.v 34), (.v 35), (.v 36), (.v 37), (.v 38), (.v 39), (.v 40), e487], 44, 12)
noncomputable def n513 : Nat × List E × Nat × Nat := (900, [(.lit 5), e2, (.v 29)], 42, 2)
noncomputable def n514 : Nat × List E × Nat × Nat := (27, [(.v 2), (.v 3), (.v 4), (.v 5), (.v 16), (.v 17), (.v 18), (.v 19), (.v 20), (.v 21), (.v 22), (.v 23), (.v 24), (.v 25), (.v 26), (.add (.v 16) (.v 28))], 30, 12)
noncomputable def n515 : Nat × List E × Nat × Nat := (900, [(.lit 12), e2, (.v 15)], 28, 2)
noncomputable def ct13 : Ct := adm LC LF LG 1 (.back .normal (Ct.fr ct1))
noncomputable def st13 : St := ⟨[(.sls 0 (.v 0) (.v 1)), .undef, (.bool (.lit false)), (.ptr 0 0), (.ptr 1 0), (.ptr 2 0), (.int .i64 (.v 27)), s486, (.ptr 6 0), (.int .i64 (.v 41)), (.ptr 7 0), (.int .i64 (.v 55)), (.ptr 8 0), (.int .i64 (.v 67)), .undef, (.sls 0 (.v 0) (.v 1)), (.ptr 0 0), (.ptr 0 0), s3, s464, s3, (.ptr 0 0), (.slc 5 4 1 none), s464, s463, (.int .i64 (.v 27)), (.int .i64 (.v 27)), (.bool b465), (.bool b465), s466, s468, (.bool b469), (.ptr 2 0), (.ptr 2 0), (.int .i64 (.v 16)), (.ptr 0 0), (.int .i64 (.v 28)), s486, s336, s3, s463, s486, s336, s335, (.int .i64 (.v 41)), s191, s3, s335, s486, (.ptr 0 0), (.int .i64 (.v 42)), (.int .i64 e487), s191, s190, (.int .i64 (.v 55)), s489, s3, s116, s486, s489, s488, (.int .i64 (.v 67)), .undef, .undef, .undef, .undef, .undef, .undef, .undef, .undef, .undef, .undef, .undef, .undef, .undef, .undef, .undef, .undef, .undef, .undef, .undef, .undef, .undef, .undef, .undef, .undef, .undef, .undef, .undef, .undef, .undef, .undef, .undef, .undef, .undef, .undef, .undef, .undef, .undef, .undef, .undef, .undef, .undef, .undef, .undef, .undef, .undef, .undef, .undef, .undef, .undef, .undef, .undef, .undef, .undef], [o197, o12, o471, o14, o15, o15, o343, o198, o490], ⟨⟨[e472], v510, 68⟩, [(b469, false), (b70, false), ((.lt (.lit 0) (.v 7)), true), ((.le e2 (.v 1)), true), ((.le (.v 0) (.v 1)), true)]⟩, 68, [8, 8, 7, 0, 7, 6, 6, 0, 2, 5, 4, 0, 0, 3, 0, 2, 1, 1, 0, 0], [n511, n512, n513, n514, n515, n485, n224, n298, n299, n365]⟩
noncomputable def tr13 : T Leaf :=
(.ite (.or (.or (.or (.not (.eq (.v 41) (.lit 0))) (.not (.eq (.v 55) (.lit 0)))) (.not (.eq (.v 67) (.lit 0)))) (.not (.and (.and (.eq (.v 56) (.lit 0)) (.and (.eq (.v 57) (.lit 0)) (.and (.eq (.v 58) (.lit 0)) (.eq (.v 59) (.lit 0))))) (.and (.and (.eq (.v 60) (.lit 0)) (.and (.eq (.v 61) (.lit 0)) (.and (.eq (.v 62) (.lit 0)) (.eq (.v 63) (.lit 0))))) (.and (.not (.nz (.v 64))) (.and (.eq (.v 65) (.lit 0)) (.eq (.v 66) (.lit 0))))))))
 (.leaf ((.bool (.lit false)), [], []))
 (.ite (.or (.or (.not (.and (.and (.eq (.v 30) (.v 16)) (.and (.eq (.v 31) (.v 17)) (.and (.eq (.v 32) (.v 18)) (.eq (.v 33) (.v 19))))) (.and (.and (.eq (.v 34) (.v 20)) (.and (.eq (.v 35) (.v 21)) (.and (.eq (.v 36) (.v 22)) (.eq (.v 37) (.v 23))))) (.and (.iff (.nz (.v 38)) (.nz (.v 24))) (.eq (.v 39) (.v 25)))))) (.and (.not (.eq (.v 40) (.v 26))) (.not (.eq (.v 40) (.lit 2))))) (.and (.eq (.v 40) (.lit 2)) (.not (.and (.and (.eq (.v 44) (.v 30)) (.and (.eq (.v 45) (.v 31)) (.and (.eq (.v 46) (.v 32)) (.eq (.v 47) (.v 33))))) (.and (.and (.eq (.v 48) (.v 34)) (.and (.eq (.v 49) (.v 35)) (.and (.eq (.v 50) (.v 36)) (.eq (.v 51) (.v 37))))) (.and (.iff (.nz (.v 52)) (.nz (.v 38))) (.and (.eq (.v 53) (.v 39)) (.eq (.v 54) (.v 40)))))))))
  (.leaf ((.bool (.lit false)), [], []))
  (.call 10 [] 1
  (.leaf ((.bool (.lit true)), [], []))
  )
 )
)
theorem th13 : (at_ LP LC LF (evD LP LC LF LD) LG LK ct13 st13).strip = tr13 := by kernel_rfl
noncomputable def s516 : SV := (.agg [(.int .i64 (.v 9)), (.int .i64 (.v 10)), (.int .i64 (.v 11)), (.int .i64 (.v 12)), (.int .i64 (.v 13)), (.int .i64 (.v 14)), (.int .i64 (.v 15)), (.int .i64 (.v 16)), (.bool (.nz (.v 17))), (.int .i64 (.v 18)), (.int .i64 (.v 19))])
noncomputable def s517 : SV := (.tup [s516, (.int .i64 (.v 20))])
noncomputable def b518 : B := (.not (.eq (.v 20) (.lit 0)))
noncomputable def s519 : SV := (.grd b518 (.int .i64 (.v 20)))
noncomputable def b520 : B := (.eq (.v 20) (.lit 16))
noncomputable def s521 : SV := (.grd b518 (.bool (.not b520)))
noncomputable def b522 : B := (.and b518 (.not b520))
noncomputable def o523 : Option (TypeId × List SV) := (some (49, [(.sls 0 e2 (.v 1)), (.int .i64 (.v 8))]))
noncomputable def o524 : Option (TypeId × List SV) := (some (31, [(.int .i64 (.v 9)), (.int .i64 (.v 10)), (.int .i64 (.v 11)), (.int .i64 (.v 12)), (.int .i64 (.v 13)), (.int .i64 (.v 14)), (.int .i64 (.v 15)), (.int .i64 (.v 16)), (.bool (.nz (.v 17))), (.int .i64 (.v 18)), (.int .i64 (.v 19))]))
noncomputable def v525 : VT := (.node v40 (some (0, 0)) .nil)
noncomputable def v526 : VT := (.node v525 (some (0, 100)) v141)
noncomputable def v527 : VT := (.node v126 (some (0, 4)) v30)
noncomputable def v528 : VT := (.node v526 (some (0, 9223372036854775807)) v527)
noncomputable def v529 : VT := (.node v62 (some (0, 200)) .nil)
noncomputable def v530 : VT := (.node v169 (some (1, 10)) v529)
noncomputable def v531 : VT := (.node .nil (some (0, 0)) .nil)
noncomputable def v532 : VT := (.node v531 (some ((-30), 1000)) .nil)
noncomputable def v533 : VT := (.node v532 (some (0, 600)) v28)
noncomputable def v534 : VT := (.node v530 (some (0, 3)) v533)
noncomputable def v535 : VT := (.node v528 (some (0, 9223372036854775807)) v534)
noncomputable def n536 : Nat × List E × Nat × Nat := (20, [(.v 2), (.v 3), (.v 4), (.v 5)], 9, 12)
noncomputable def ct14 : Ct := adm LC LF LG 1 (.back .ret (Ct.fr ct1))
noncomputable def st14 : St := ⟨[(.sls 0 (.v 0) (.v 1)), .undef, (.bool (.lit false)), (.ptr 0 0), (.ptr 1 0), (.ptr 2 0), (.int .i64 (.v 20)), .undef, .undef, .undef, .undef, .undef, .undef, .undef, .undef, (.sls 0 (.v 0) (.v 1)), (.ptr 0 0), (.ptr 0 0), s3, s517, s3, (.ptr 0 0), .nils, s517, s516, (.int .i64 (.v 20)), (.int .i64 (.v 20)), (.bool b518), (.bool b518), s519, s521, (.bool b522), .undef, .undef, .undef, .undef, .undef, .undef, .undef, .undef, .undef, .undef, .undef, .undef, .undef, .undef, .undef, .undef, .undef, .undef, .undef, .undef, .undef, .undef, .undef, .undef, .undef, .undef, .undef, .undef, .undef, .undef, .undef, .undef, .undef, .undef, .undef, .undef, .undef, .undef, .undef, .undef, .undef, .undef, .undef, .undef, .undef, .undef, .undef, .undef, .undef, .undef, .undef, .undef, .undef, .undef, .undef, .undef, .undef, .undef, .undef, .undef, .undef, .undef, .undef, .undef, .undef, .undef, .undef, .undef, .undef, .undef, .undef, .undef, .undef, .undef, .undef, .undef, .undef, .undef, .undef, .undef, .undef, .undef, .undef], [o523, o12, o524], ⟨⟨[], v535, 21⟩, [(b520, false), ((.eq (.v 20) (.lit 0)), false), ((.lt (.lit 0) (.v 7)), false), ((.le e2 (.v 1)), true), ((.le (.v 0) (.v 1)), true)]⟩, 21, [2, 0, 2, 1, 1, 0, 0], [n536, n299, n365]⟩
noncomputable def tr14 : T Leaf :=
(.leaf ((.bool (.lit false)), [], []))
theorem th14 : (at_ LP LC LF (evD LP LC LF LD) LG LK ct14 st14).strip = tr14 := by kernel_rfl
noncomputable def s537 : SV := (.int .i64 (.add (.v 9) (.v 21)))
noncomputable def e538 : E := (.add (.add (.v 9) (.v 21)) (.v 35))
noncomputable def s539 : SV := (.agg [(.int .i64 (.v 49)), (.int .i64 (.v 50)), (.int .i64 (.v 51)), (.int .i64 (.v 52)), (.int .i64 (.v 53)), (.int .i64 (.v 54)), (.int .i64 (.v 55)), (.int .i64 (.v 56)), (.bool (.nz (.v 57))), (.int .i64 (.v 58)), (.int .i64 (.v 59))])
noncomputable def s540 : SV := (.tup [s539, (.int .i64 (.v 60))])
noncomputable def o541 : Option (TypeId × List SV) := (some (31, [(.int .i64 (.v 49)), (.int .i64 (.v 50)), (.int .i64 (.v 51)), (.int .i64 (.v 52)), (.int .i64 (.v 53)), (.int .i64 (.v 54)), (.int .i64 (.v 55)), (.int .i64 (.v 56)), (.bool (.nz (.v 57))), (.int .i64 (.v 58)), (.int .i64 (.v 59))]))
noncomputable def v542 : VT := (.node v440 (some (0, 0)) v41)
noncomputable def v543 : VT := (.node v40 (some (0, 60)) v43)
noncomputable def v544 : VT := (.node v505 (some ((-20), 5)) v543)
noncomputable def v545 : VT := (.node v542 (some (0, 100)) v544)
noncomputable def v546 : VT := (.node v30 (some ((-20), 5)) v35)
noncomputable def v547 : VT := (.node v500 (some (0, 60)) v546)
noncomputable def v548 : VT := (.node v502 (some (0, 60)) v140)
noncomputable def v549 : VT := (.node v547 (some (0, 4)) v548)
noncomputable def v550 : VT := (.node v545 (some (0, 9223372036854775807)) v549)
noncomputable def v551 : VT := (.node v58 (some ((-30), 1000)) v58)
noncomputable def v552 : VT := (.node v453 (some (0, 600)) v551)
noncomputable def v553 : VT := (.node v58 (some ((-30), 1000)) v162)
noncomputable def v554 : VT := (.node v492 (some (0, 200)) v553)
noncomputable def v555 : VT := (.node v552 (some (1, 10)) v554)
noncomputable def v556 : VT := (.node v162 (some (0, 0)) v28)
noncomputable def v557 : VT := (.node v28 (some (0, 200)) v53)
noncomputable def v558 : VT := (.node v556 (some ((-30), 1000)) v557)
noncomputable def v559 : VT := (.node v50 (some ((-30), 1000)) v245)
noncomputable def v560 : VT := (.node v558 (some (0, 600)) v559)
noncomputable def v561 : VT := (.node v555 (some (0, 3)) v560)
noncomputable def v562 : VT := (.node v550 (some (0, 9223372036854775807)) v561)
noncomputable def n563 : Nat × List E × Nat × Nat := (27, [(.v 2), (.v 3), (.v 4), (.v 5), (.lit 0), (.lit 0), (.lit 0), (.lit 0), (.lit 0), (.lit 0), (.lit 0), (.lit 0), (.lit 0), (.lit 0), (.lit 0), (.add (.v 9) (.v 21))], 49, 12)
noncomputable def n564 : Nat × List E × Nat × Nat := (27, [(.v 2), (.v 3), (.v 4), (.v 5), (.v 23), (.v 24), (.v 25), (.v 26), (.v 27), (.v 28), (.v 29), (.v 30), (.v 31), (.v 32), (.v 33), e538], 37, 12)
noncomputable def n565 : Nat × List E × Nat × Nat := (900, [(.lit 5), e2, (.v 22)], 35, 2)
noncomputable def n566 : Nat × List E × Nat × Nat := (27, [(.v 2), (.v 3), (.v 4), (.v 5), (.v 9), (.v 10), (.v 11), (.v 12), (.v 13), (.v 14), (.v 15), (.v 16), (.v 17), (.v 18), (.v 19), (.add (.v 9) (.v 21))], 23, 12)
noncomputable def n567 : Nat × List E × Nat × Nat := (900, [(.lit 12), e2, (.v 8)], 21, 2)
noncomputable def ct15 : Ct := adm LC LF LG 1 (.back .normal (Ct.fr ct1))
noncomputable def st15 : St := ⟨[(.sls 0 (.v 0) (.v 1)), .undef, (.bool (.lit false)), (.ptr 0 0), (.ptr 1 0), (.ptr 2 0), (.int .i64 (.v 20)), s537, (.ptr 3 0), (.int .i64 (.v 34)), (.ptr 4 0), (.int .i64 (.v 48)), (.ptr 5 0), (.int .i64 (.v 60)), .undef, (.sls 0 (.v 0) (.v 1)), (.ptr 0 0), (.ptr 0 0), s3, s517, s3, (.ptr 0 0), .nils, s517, s516, (.int .i64 (.v 20)), (.int .i64 (.v 20)), (.bool b518), (.bool b518), s519, s521, (.bool b522), (.ptr 2 0), (.ptr 2 0), (.int .i64 (.v 9)), (.ptr 0 0), (.int .i64 (.v 21)), s537, s402, s3, s516, s537, s402, s401, (.int .i64 (.v 34)), s270, s3, s401, s537, (.ptr 0 0), (.int .i64 (.v 35)), (.int .i64 e538), s270, s269, (.int .i64 (.v 48)), s540, s3, s116, s537, s540, s539, (.int .i64 (.v 60)), .undef, .undef, .undef, .undef, .undef, .undef, .undef, .undef, .undef, .undef, .undef, .undef, .undef, .undef, .undef, .undef, .undef, .undef, .undef, .undef, .undef, .undef, .undef, .undef, .undef, .undef, .undef, .undef, .undef, .undef, .undef, .undef, .undef, .undef, .undef, .undef, .undef, .undef, .undef, .undef, .undef, .undef, .undef, .undef, .undef, .undef, .undef, .undef, .undef, .undef, .undef, .undef, .undef], [o276, o12, o524, o409, o277, o541], ⟨⟨[], v562, 61⟩, [(b522, false), ((.lt (.lit 0) (.v 7)), false), ((.le e2 (.v 1)), true), ((.le (.v 0) (.v 1)), true)]⟩, 61, [5, 5, 4, 0, 4, 3, 3, 0, 2, 0, 2, 1, 1, 0, 0], [n563, n564, n565, n566, n567, n536, n299, n365]⟩
noncomputable def tr15 : T Leaf :=
(.ite (.or (.or (.or (.not (.eq (.v 34) (.lit 0))) (.not (.eq (.v 48) (.lit 0)))) (.not (.eq (.v 60) (.lit 0)))) (.not (.and (.and (.eq (.v 49) (.lit 0)) (.and (.eq (.v 50) (.lit 0)) (.and (.eq (.v 51) (.lit 0)) (.eq (.v 52) (.lit 0))))) (.and (.and (.eq (.v 53) (.lit 0)) (.and (.eq (.v 54) (.lit 0)) (.and (.eq (.v 55) (.lit 0)) (.eq (.v 56) (.lit 0))))) (.and (.not (.nz (.v 57))) (.and (.eq (.v 58) (.lit 0)) (.eq (.v 59) (.lit 0))))))))
 (.leaf ((.bool (.lit false)), [], []))
 (.ite (.or (.or (.not (.and (.and (.eq (.v 23) (.v 9)) (.and (.eq (.v 24) (.v 10)) (.and (.eq (.v 25) (.v 11)) (.eq (.v 26) (.v 12))))) (.and (.and (.eq (.v 27) (.v 13)) (.and (.eq (.v 28) (.v 14)) (.and (.eq (.v 29) (.v 15)) (.eq (.v 30) (.v 16))))) (.and (.iff (.nz (.v 31)) (.nz (.v 17))) (.eq (.v 32) (.v 18)))))) (.and (.not (.eq (.v 33) (.v 19))) (.not (.eq (.v 33) (.lit 2))))) (.and (.eq (.v 33) (.lit 2)) (.not (.and (.and (.eq (.v 37) (.v 23)) (.and (.eq (.v 38) (.v 24)) (.and (.eq (.v 39) (.v 25)) (.eq (.v 40) (.v 26))))) (.and (.and (.eq (.v 41) (.v 27)) (.and (.eq (.v 42) (.v 28)) (.and (.eq (.v 43) (.v 29)) (.eq (.v 44) (.v 30))))) (.and (.iff (.nz (.v 45)) (.nz (.v 31))) (.and (.eq (.v 46) (.v 32)) (.eq (.v 47) (.v 33)))))))))
  (.leaf ((.bool (.lit false)), [], []))
  (.call 10 [] 1
  (.leaf ((.bool (.lit true)), [], []))
  )
 )
)
theorem th15 : (at_ LP LC LF (evD LP LC LF LD) LG LK ct15 st15).strip = tr15 := by kernel_rfl
theorem pc1 (K : X → St → T Leaf) : (ev LP LC LF (evD LP LC LF LD) LG (Ct.code ct1) (Ct.un ct1) st0 K).strip =
(.call 11 [(.mn (.v 0) (.lit 600)), (.v 1), (.lit 0)] 5
(.call 900 [(.lit 7), (.mn (.v 0) (.lit 600)), (.v 6)] 2
(.ite (.lt (.lit 0) (.v 7))
(.call 900 [(.lit 5), (.mn (.v 0) (.lit 600)), (.v 8)] 2
(.call 12 [(.add (.lit 0) (.sw (.v 9) 0 (.lit 1) (.sw (.v 9) 1 (.lit 1) (.sw (.v 9) 2 (.lit 2) (.sw (.v 9) 3 (.lit 5) (.lit 0)))))), (.mn (.v 0) (.lit 600)), (.v 1), (.v 10)] 5
(.ite (.lt (.lit 0) (.sub (.v 7) (.lit 1)))
(.call 900 [(.lit 5), (.mn (.v 0) (.lit 600)), (.v 15)] 2
(.call 12 [(.add (.add (.lit 0) (.sw (.v 9) 0 (.lit 1) (.sw (.v 9) 1 (.lit 1) (.sw (.v 9) 2 (.lit 2) (.sw (.v 9) 3 (.lit 5) (.lit 0)))))) (.sw (.v 16) 0 (.lit 1) (.sw (.v 16) 1 (.lit 1) (.sw (.v 16) 2 (.lit 2) (.sw (.v 16) 3 (.lit 5) (.lit 0)))))), (.mn (.v 0) (.lit 600)), (.v 1), (.v 17)] 5
(.ite (.lt (.lit 0) (.sub (.sub (.v 7) (.lit 1)) (.lit 1)))
(.call 900 [(.lit 5), (.mn (.v 0) (.lit 600)), (.v 22)] 2
(.call 12 [(.add (.add (.add (.lit 0) (.sw (.v 9) 0 (.lit 1) (.sw (.v 9) 1 (.lit 1) (.sw (.v 9) 2 (.lit 2) (.sw (.v 9) 3 (.lit 5) (.lit 0)))))) (.sw (.v 16) 0 (.lit 1) (.sw (.v 16) 1 (.lit 1) (.sw (.v 16) 2 (.lit 2) (.sw (.v 16) 3 (.lit 5) (.lit 0)))))) (.sw (.v 23) 0 (.lit 1) (.sw (.v 23) 1 (.lit 1) (.sw (.v 23) 2 (.lit 2) (.sw (.v 23) 3 (.lit 5) (.lit 0)))))), (.mn (.v 0) (.lit 600)), (.v 1), (.v 24)] 5
(.ite (.lt (.lit 0) (.sub (.sub (.sub (.v 7) (.lit 1)) (.lit 1)) (.lit 1)))
(.call 900 [(.lit 5), (.mn (.v 0) (.lit 600)), (.v 29)] 2
(.call 12 [(.add (.add (.add (.add (.lit 0) (.sw (.v 9) 0 (.lit 1) (.sw (.v 9) 1 (.lit 1) (.sw (.v 9) 2 (.lit 2) (.sw (.v 9) 3 (.lit 5) (.lit 0)))))) (.sw (.v 16) 0 (.lit 1) (.sw (.v 16) 1 (.lit 1) (.sw (.v 16) 2 (.lit 2) (.sw (.v 16) 3 (.lit 5) (.lit 0)))))) (.sw (.v 23) 0 (.lit 1) (.sw (.v 23) 1 (.lit 1) (.sw (.v 23) 2 (.lit 2) (.sw (.v 23) 3 (.lit 5) (.lit 0)))))) (.sw (.v 30) 0 (.lit 1) (.sw (.v 30) 1 (.lit 1) (.sw (.v 30) 2 (.lit 2) (.sw (.v 30) 3 (.lit 5) (.lit 0)))))), (.mn (.v 0) (.lit 600)), (.v 1), (.v 31)] 5
(.ite (.lt (.lit 0) (.sub (.sub (.sub (.sub (.v 7) (.lit 1)) (.lit 1)) (.lit 1)) (.lit 1)))
(.call 900 [(.lit 5), (.mn (.v 0) (.lit 600)), (.v 36)] 2
(.call 12 [(.add (.add (.add (.add (.add (.lit 0) (.sw (.v 9) 0 (.lit 1) (.sw (.v 9) 1 (.lit 1) (.sw (.v 9) 2 (.lit 2) (.sw (.v 9) 3 (.lit 5) (.lit 0)))))) (.sw (.v 16) 0 (.lit 1) (.sw (.v 16) 1 (.lit 1) (.sw (.v 16) 2 (.lit 2) (.sw (.v 16) 3 (.lit 5) (.lit 0)))))) (.sw (.v 23) 0 (.lit 1) (.sw (.v 23) 1 (.lit 1) (.sw (.v 23) 2 (.lit 2) (.sw (.v 23) 3 (.lit 5) (.lit 0)))))) (.sw (.v 30) 0 (.lit 1) (.sw (.v 30) 1 (.lit 1) (.sw (.v 30) 2 (.lit 2) (.sw (.v 30) 3 (.lit 5) (.lit 0)))))) (.sw (.v 37) 0 (.lit 1) (.sw (.v 37) 1 (.lit 1) (.sw (.v 37) 2 (.lit 2) (.sw (.v 37) 3 (.lit 5) (.lit 0)))))), (.mn (.v 0) (.lit 600)), (.v 1), (.v 38)] 5
(.ite (.lt (.lit 0) (.sub (.sub (.sub (.sub (.sub (.v 7) (.lit 1)) (.lit 1)) (.lit 1)) (.lit 1)) (.lit 1)))
(.call 900 [(.lit 5), (.mn (.v 0) (.lit 600)), (.v 43)] 2
(.call 12 [(.add (.add (.add (.add (.add (.add (.lit 0) (.sw (.v 9) 0 (.lit 1) (.sw (.v 9) 1 (.lit 1) (.sw (.v 9) 2 (.lit 2) (.sw (.v 9) 3 (.lit 5) (.lit 0)))))) (.sw (.v 16) 0 (.lit 1) (.sw (.v 16) 1 (.lit 1) (.sw (.v 16) 2 (.lit 2) (.sw (.v 16) 3 (.lit 5) (.lit 0)))))) (.sw (.v 23) 0 (.lit 1) (.sw (.v 23) 1 (.lit 1) (.sw (.v 23) 2 (.lit 2) (.sw (.v 23) 3 (.lit 5) (.lit 0)))))) (.sw (.v 30) 0 (.lit 1) (.sw (.v 30) 1 (.lit 1) (.sw (.v 30) 2 (.lit 2) (.sw (.v 30) 3 (.lit 5) (.lit 0)))))) (.sw (.v 37) 0 (.lit 1) (.sw (.v 37) 1 (.lit 1) (.sw (.v 37) 2 (.lit 2) (.sw (.v 37) 3 (.lit 5) (.lit 0)))))) (.sw (.v 44) 0 (.lit 1) (.sw (.v 44) 1 (.lit 1) (.sw (.v 44) 2 (.lit 2) (.sw (.v 44) 3 (.lit 5) (.lit 0)))))), (.mn (.v 0) (.lit 600)), (.v 1), (.v 45)] 5
(.call 26 [(.v 2), (.v 3), (.v 4), (.v 5), (.v 11), (.v 12), (.v 13), (.v 14), (.v 18), (.v 19), (.v 20), (.v 21), (.v 25), (.v 26), (.v 27), (.v 28), (.v 32), (.v 33), (.v 34), (.v 35), (.v 39), (.v 40), (.v 41), (.v 42), (.v 46), (.v 47), (.v 48), (.v 49)] 12
(.ite (.and (.not (.eq (.v 62) (.lit 0))) (.not (.eq (.v 62) (.lit 16))))
(K .ret st2).strip
(.call 900 [(.lit 12), (.mn (.v 0) (.lit 600)), (.v 50)] 2
(.call 27 [(.v 2), (.v 3), (.v 4), (.v 5), (.v 51), (.v 52), (.v 53), (.v 54), (.v 55), (.v 56), (.v 57), (.v 58), (.v 59), (.v 60), (.v 61), (.add (.v 51) (.v 63))] 12
(.call 900 [(.lit 5), (.mn (.v 0) (.lit 600)), (.v 64)] 2
(.call 27 [(.v 2), (.v 3), (.v 4), (.v 5), (.v 65), (.v 66), (.v 67), (.v 68), (.v 69), (.v 70), (.v 71), (.v 72), (.v 73), (.v 74), (.v 75), (.add (.add (.v 51) (.v 63)) (.v 77))] 12
(.call 27 [(.v 2), (.v 3), (.v 4), (.v 5), (.lit 0), (.lit 0), (.lit 0), (.lit 0), (.lit 0), (.lit 0), (.lit 0), (.lit 0), (.lit 0), (.lit 0), (.lit 0), (.add (.v 51) (.v 63))] 12
(K .normal st3).strip)))))))))
(.call 25 [(.v 2), (.v 3), (.v 4), (.v 5), (.v 11), (.v 12), (.v 13), (.v 14), (.v 18), (.v 19), (.v 20), (.v 21), (.v 25), (.v 26), (.v 27), (.v 28), (.v 32), (.v 33), (.v 34), (.v 35), (.v 39), (.v 40), (.v 41), (.v 42)] 12
(.ite (.and (.not (.eq (.v 55) (.lit 0))) (.not (.eq (.v 55) (.lit 16))))
(K .ret st4).strip
(.call 900 [(.lit 12), (.mn (.v 0) (.lit 600)), (.v 43)] 2
(.call 27 [(.v 2), (.v 3), (.v 4), (.v 5), (.v 44), (.v 45), (.v 46), (.v 47), (.v 48), (.v 49), (.v 50), (.v 51), (.v 52), (.v 53), (.v 54), (.add (.v 44) (.v 56))] 12
(.call 900 [(.lit 5), (.mn (.v 0) (.lit 600)), (.v 57)] 2
(.call 27 [(.v 2), (.v 3), (.v 4), (.v 5), (.v 58), (.v 59), (.v 60), (.v 61), (.v 62), (.v 63), (.v 64), (.v 65), (.v 66), (.v 67), (.v 68), (.add (.add (.v 44) (.v 56)) (.v 70))] 12
(.call 27 [(.v 2), (.v 3), (.v 4), (.v 5), (.lit 0), (.lit 0), (.lit 0), (.lit 0), (.lit 0), (.lit 0), (.lit 0), (.lit 0), (.lit 0), (.lit 0), (.lit 0), (.add (.v 44) (.v 56))] 12
(K .normal st5).strip))))))))))
(.call 24 [(.v 2), (.v 3), (.v 4), (.v 5), (.v 11), (.v 12), (.v 13), (.v 14), (.v 18), (.v 19), (.v 20), (.v 21), (.v 25), (.v 26), (.v 27), (.v 28), (.v 32), (.v 33), (.v 34), (.v 35)] 12
(.ite (.and (.not (.eq (.v 48) (.lit 0))) (.not (.eq (.v 48) (.lit 16))))
(K .ret st6).strip
(.call 900 [(.lit 12), (.mn (.v 0) (.lit 600)), (.v 36)] 2
(.call 27 [(.v 2), (.v 3), (.v 4), (.v 5), (.v 37), (.v 38), (.v 39), (.v 40), (.v 41), (.v 42), (.v 43), (.v 44), (.v 45), (.v 46), (.v 47), (.add (.v 37) (.v 49))] 12
(.call 900 [(.lit 5), (.mn (.v 0) (.lit 600)), (.v 50)] 2
(.call 27 [(.v 2), (.v 3), (.v 4), (.v 5), (.v 51), (.v 52), (.v 53), (.v 54), (.v 55), (.v 56), (.v 57), (.v 58), (.v 59), (.v 60), (.v 61), (.add (.add (.v 37) (.v 49)) (.v 63))] 12
(.call 27 [(.v 2), (.v 3), (.v 4), (.v 5), (.lit 0), (.lit 0), (.lit 0), (.lit 0), (.lit 0), (.lit 0), (.lit 0), (.lit 0), (.lit 0), (.lit 0), (.lit 0), (.add (.v 37) (.v 49))] 12
(K .normal st7).strip))))))))))
(.call 23 [(.v 2), (.v 3), (.v 4), (.v 5), (.v 11), (.v 12), (.v 13), (.v 14), (.v 18), (.v 19), (.v 20), (.v 21), (.v 25), (.v 26), (.v 27), (.v 28)] 12
(.ite (.and (.not (.eq (.v 41) (.lit 0))) (.not (.eq (.v 41) (.lit 16))))
(K .ret st8).strip
(.call 900 [(.lit 12), (.mn (.v 0) (.lit 600)), (.v 29)] 2
(.call 27 [(.v 2), (.v 3), (.v 4), (.v 5), (.v 30), (.v 31), (.v 32), (.v 33), (.v 34), (.v 35), (.v 36), (.v 37), (.v 38), (.v 39), (.v 40), (.add (.v 30) (.v 42))] 12
(.call 900 [(.lit 5), (.mn (.v 0) (.lit 600)), (.v 43)] 2
(.call 27 [(.v 2), (.v 3), (.v 4), (.v 5), (.v 44), (.v 45), (.v 46), (.v 47), (.v 48), (.v 49), (.v 50), (.v 51), (.v 52), (.v 53), (.v 54), (.add (.add (.v 30) (.v 42)) (.v 56))] 12
(.call 27 [(.v 2), (.v 3), (.v 4), (.v 5), (.lit 0), (.lit 0), (.lit 0), (.lit 0), (.lit 0), (.lit 0), (.lit 0), (.lit 0), (.lit 0), (.lit 0), (.lit 0), (.add (.v 30) (.v 42))] 12
(K .normal st9).strip))))))))))
(.call 22 [(.v 2), (.v 3), (.v 4), (.v 5), (.v 11), (.v 12), (.v 13), (.v 14), (.v 18), (.v 19), (.v 20), (.v 21)] 12
(.ite (.and (.not (.eq (.v 34) (.lit 0))) (.not (.eq (.v 34) (.lit 16))))
(K .ret st10).strip
(.call 900 [(.lit 12), (.mn (.v 0) (.lit 600)), (.v 22)] 2
(.call 27 [(.v 2), (.v 3), (.v 4), (.v 5), (.v 23), (.v 24), (.v 25), (.v 26), (.v 27), (.v 28), (.v 29), (.v 30), (.v 31), (.v 32), (.v 33), (.add (.v 23) (.v 35))] 12
(.call 900 [(.lit 5), (.mn (.v 0) (.lit 600)), (.v 36)] 2
(.call 27 [(.v 2), (.v 3), (.v 4), (.v 5), (.v 37), (.v 38), (.v 39), (.v 40), (.v 41), (.v 42), (.v 43), (.v 44), (.v 45), (.v 46), (.v 47), (.add (.add (.v 23) (.v 35)) (.v 49))] 12
(.call 27 [(.v 2), (.v 3), (.v 4), (.v 5), (.lit 0), (.lit 0), (.lit 0), (.lit 0), (.lit 0), (.lit 0), (.lit 0), (.lit 0), (.lit 0), (.lit 0), (.lit 0), (.add (.v 23) (.v 35))] 12
(K .normal st11).strip))))))))))
(.call 21 [(.v 2), (.v 3), (.v 4), (.v 5), (.v 11), (.v 12), (.v 13), (.v 14)] 12
(.ite (.and (.not (.eq (.v 27) (.lit 0))) (.not (.eq (.v 27) (.lit 16))))
(K .ret st12).strip
(.call 900 [(.lit 12), (.mn (.v 0) (.lit 600)), (.v 15)] 2
(.call 27 [(.v 2), (.v 3), (.v 4), (.v 5), (.v 16), (.v 17), (.v 18), (.v 19), (.v 20), (.v 21), (.v 22), (.v 23), (.v 24), (.v 25), (.v 26), (.add (.v 16) (.v 28))] 12
(.call 900 [(.lit 5), (.mn (.v 0) (.lit 600)), (.v 29)] 2
(.call 27 [(.v 2), (.v 3), (.v 4), (.v 5), (.v 30), (.v 31), (.v 32), (.v 33), (.v 34), (.v 35), (.v 36), (.v 37), (.v 38), (.v 39), (.v 40), (.add (.add (.v 16) (.v 28)) (.v 42))] 12
(.call 27 [(.v 2), (.v 3), (.v 4), (.v 5), (.lit 0), (.lit 0), (.lit 0), (.lit 0), (.lit 0), (.lit 0), (.lit 0), (.lit 0), (.lit 0), (.lit 0), (.lit 0), (.add (.v 16) (.v 28))] 12
(K .normal st13).strip))))))))))
(.call 20 [(.v 2), (.v 3), (.v 4), (.v 5)] 12
(.ite (.and (.not (.eq (.v 20) (.lit 0))) (.not (.eq (.v 20) (.lit 16))))
(K .ret st14).strip
(.call 900 [(.lit 12), (.mn (.v 0) (.lit 600)), (.v 8)] 2
(.call 27 [(.v 2), (.v 3), (.v 4), (.v 5), (.v 9), (.v 10), (.v 11), (.v 12), (.v 13), (.v 14), (.v 15), (.v 16), (.v 17), (.v 18), (.v 19), (.add (.v 9) (.v 21))] 12
(.call 900 [(.lit 5), (.mn (.v 0) (.lit 600)), (.v 22)] 2
(.call 27 [(.v 2), (.v 3), (.v 4), (.v 5), (.v 23), (.v 24), (.v 25), (.v 26), (.v 27), (.v 28), (.v 29), (.v 30), (.v 31), (.v 32), (.v 33), (.add (.add (.v 9) (.v 21)) (.v 35))] 12
(.call 27 [(.v 2), (.v 3), (.v 4), (.v 5), (.lit 0), (.lit 0), (.lit 0), (.lit 0), (.lit 0), (.lit 0), (.lit 0), (.lit 0), (.lit 0), (.lit 0), (.lit 0), (.add (.v 9) (.v 21))] 12
(K .normal st15).strip)))))))))) := by kernel_rfl
noncomputable def tr1 : T Leaf :=
(.call 11 [(.mn (.v 0) (.lit 600)), (.v 1), (.lit 0)] 5
(.call 900 [(.lit 7), (.mn (.v 0) (.lit 600)), (.v 6)] 2
(.ite (.lt (.lit 0) (.v 7))
(.call 900 [(.lit 5), (.mn (.v 0) (.lit 600)), (.v 8)] 2
(.call 12 [(.add (.lit 0) (.sw (.v 9) 0 (.lit 1) (.sw (.v 9) 1 (.lit 1) (.sw (.v 9) 2 (.lit 2) (.sw (.v 9) 3 (.lit 5) (.lit 0)))))), (.mn (.v 0) (.lit 600)), (.v 1), (.v 10)] 5
(.ite (.lt (.lit 0) (.sub (.v 7) (.lit 1)))
(.call 900 [(.lit 5), (.mn (.v 0) (.lit 600)), (.v 15)] 2
(.call 12 [(.add (.add (.lit 0) (.sw (.v 9) 0 (.lit 1) (.sw (.v 9) 1 (.lit 1) (.sw (.v 9) 2 (.lit 2) (.sw (.v 9) 3 (.lit 5) (.lit 0)))))) (.sw (.v 16) 0 (.lit 1) (.sw (.v 16) 1 (.lit 1) (.sw (.v 16) 2 (.lit 2) (.sw (.v 16) 3 (.lit 5) (.lit 0)))))), (.mn (.v 0) (.lit 600)), (.v 1), (.v 17)] 5
(.ite (.lt (.lit 0) (.sub (.sub (.v 7) (.lit 1)) (.lit 1)))
(.call 900 [(.lit 5), (.mn (.v 0) (.lit 600)), (.v 22)] 2
(.call 12 [(.add (.add (.add (.lit 0) (.sw (.v 9) 0 (.lit 1) (.sw (.v 9) 1 (.lit 1) (.sw (.v 9) 2 (.lit 2) (.sw (.v 9) 3 (.lit 5) (.lit 0)))))) (.sw (.v 16) 0 (.lit 1) (.sw (.v 16) 1 (.lit 1) (.sw (.v 16) 2 (.lit 2) (.sw (.v 16) 3 (.lit 5) (.lit 0)))))) (.sw (.v 23) 0 (.lit 1) (.sw (.v 23) 1 (.lit 1) (.sw (.v 23) 2 (.lit 2) (.sw (.v 23) 3 (.lit 5) (.lit 0)))))), (.mn (.v 0) (.lit 600)), (.v 1), (.v 24)] 5
(.ite (.lt (.lit 0) (.sub (.sub (.sub (.v 7) (.lit 1)) (.lit 1)) (.lit 1)))
(.call 900 [(.lit 5), (.mn (.v 0) (.lit 600)), (.v 29)] 2
(.call 12 [(.add (.add (.add (.add (.lit 0) (.sw (.v 9) 0 (.lit 1) (.sw (.v 9) 1 (.lit 1) (.sw (.v 9) 2 (.lit 2) (.sw (.v 9) 3 (.lit 5) (.lit 0)))))) (.sw (.v 16) 0 (.lit 1) (.sw (.v 16) 1 (.lit 1) (.sw (.v 16) 2 (.lit 2) (.sw (.v 16) 3 (.lit 5) (.lit 0)))))) (.sw (.v 23) 0 (.lit 1) (.sw (.v 23) 1 (.lit 1) (.sw (.v 23) 2 (.lit 2) (.sw (.v 23) 3 (.lit 5) (.lit 0)))))) (.sw (.v 30) 0 (.lit 1) (.sw (.v 30) 1 (.lit 1) (.sw (.v 30) 2 (.lit 2) (.sw (.v 30) 3 (.lit 5) (.lit 0)))))), (.mn (.v 0) (.lit 600)), (.v 1), (.v 31)] 5
(.ite (.lt (.lit 0) (.sub (.sub (.sub (.sub (.v 7) (.lit 1)) (.lit 1)) (.lit 1)) (.lit 1)))
(.call 900 [(.lit 5), (.mn (.v 0) (.lit 600)), (.v 36)] 2
(.call 12 [(.add (.add (.add (.add (.add (.lit 0) (.sw (.v 9) 0 (.lit 1) (.sw (.v 9) 1 (.lit 1) (.sw (.v 9) 2 (.lit 2) (.sw (.v 9) 3 (.lit 5) (.lit 0)))))) (.sw (.v 16) 0 (.lit 1) (.sw (.v 16) 1 (.lit 1) (.sw (.v 16) 2 (.lit 2) (.sw (.v 16) 3 (.lit 5) (.lit 0)))))) (.sw (.v 23) 0 (.lit 1) (.sw (.v 23) 1 (.lit 1) (.sw (.v 23) 2 (.lit 2) (.sw (.v 23) 3 (.lit 5) (.lit 0)))))) (.sw (.v 30) 0 (.lit 1) (.sw (.v 30) 1 (.lit 1) (.sw (.v 30) 2 (.lit 2) (.sw (.v 30) 3 (.lit 5) (.lit 0)))))) (.sw (.v 37) 0 (.lit 1) (.sw (.v 37) 1 (.lit 1) (.sw (.v 37) 2 (.lit 2) (.sw (.v 37) 3 (.lit 5) (.lit 0)))))), (.mn (.v 0) (.lit 600)), (.v 1), (.v 38)] 5
(.ite (.lt (.lit 0) (.sub (.sub (.sub (.sub (.sub (.v 7) (.lit 1)) (.lit 1)) (.lit 1)) (.lit 1)) (.lit 1)))
(.call 900 [(.lit 5), (.mn (.v 0) (.lit 600)), (.v 43)] 2
(.call 12 [(.add (.add (.add (.add (.add (.add (.lit 0) (.sw (.v 9) 0 (.lit 1) (.sw (.v 9) 1 (.lit 1) (.sw (.v 9) 2 (.lit 2) (.sw (.v 9) 3 (.lit 5) (.lit 0)))))) (.sw (.v 16) 0 (.lit 1) (.sw (.v 16) 1 (.lit 1) (.sw (.v 16) 2 (.lit 2) (.sw (.v 16) 3 (.lit 5) (.lit 0)))))) (.sw (.v 23) 0 (.lit 1) (.sw (.v 23) 1 (.lit 1) (.sw (.v 23) 2 (.lit 2) (.sw (.v 23) 3 (.lit 5) (.lit 0)))))) (.sw (.v 30) 0 (.lit 1) (.sw (.v 30) 1 (.lit 1) (.sw (.v 30) 2 (.lit 2) (.sw (.v 30) 3 (.lit 5) (.lit 0)))))) (.sw (.v 37) 0 (.lit 1) (.sw (.v 37) 1 (.lit 1) (.sw (.v 37) 2 (.lit 2) (.sw (.v 37) 3 (.lit 5) (.lit 0)))))) (.sw (.v 44) 0 (.lit 1) (.sw (.v 44) 1 (.lit 1) (.sw (.v 44) 2 (.lit 2) (.sw (.v 44) 3 (.lit 5) (.lit 0)))))), (.mn (.v 0) (.lit 600)), (.v 1), (.v 45)] 5
(.call 26 [(.v 2), (.v 3), (.v 4), (.v 5), (.v 11), (.v 12), (.v 13), (.v 14), (.v 18), (.v 19), (.v 20), (.v 21), (.v 25), (.v 26), (.v 27), (.v 28), (.v 32), (.v 33), (.v 34), (.v 35), (.v 39), (.v 40), (.v 41), (.v 42), (.v 46), (.v 47), (.v 48), (.v 49)] 12
(.ite (.and (.not (.eq (.v 62) (.lit 0))) (.not (.eq (.v 62) (.lit 16))))
tr2
(.call 900 [(.lit 12), (.mn (.v 0) (.lit 600)), (.v 50)] 2
(.call 27 [(.v 2), (.v 3), (.v 4), (.v 5), (.v 51), (.v 52), (.v 53), (.v 54), (.v 55), (.v 56), (.v 57), (.v 58), (.v 59), (.v 60), (.v 61), (.add (.v 51) (.v 63))] 12
(.call 900 [(.lit 5), (.mn (.v 0) (.lit 600)), (.v 64)] 2
(.call 27 [(.v 2), (.v 3), (.v 4), (.v 5), (.v 65), (.v 66), (.v 67), (.v 68), (.v 69), (.v 70), (.v 71), (.v 72), (.v 73), (.v 74), (.v 75), (.add (.add (.v 51) (.v 63)) (.v 77))] 12
(.call 27 [(.v 2), (.v 3), (.v 4), (.v 5), (.lit 0), (.lit 0), (.lit 0), (.lit 0), (.lit 0), (.lit 0), (.lit 0), (.lit 0), (.lit 0), (.lit 0), (.lit 0), (.add (.v 51) (.v 63))] 12
tr3)))))))))
(.call 25 [(.v 2), (.v 3), (.v 4), (.v 5), (.v 11), (.v 12), (.v 13), (.v 14), (.v 18), (.v 19), (.v 20), (.v 21), (.v 25), (.v 26), (.v 27), (.v 28), (.v 32), (.v 33), (.v 34), (.v 35), (.v 39), (.v 40), (.v 41), (.v 42)] 12
(.ite (.and (.not (.eq (.v 55) (.lit 0))) (.not (.eq (.v 55) (.lit 16))))
tr4
(.call 900 [(.lit 12), (.mn (.v 0) (.lit 600)), (.v 43)] 2
(.call 27 [(.v 2), (.v 3), (.v 4), (.v 5), (.v 44), (.v 45), (.v 46), (.v 47), (.v 48), (.v 49), (.v 50), (.v 51), (.v 52), (.v 53), (.v 54), (.add (.v 44) (.v 56))] 12
(.call 900 [(.lit 5), (.mn (.v 0) (.lit 600)), (.v 57)] 2
(.call 27 [(.v 2), (.v 3), (.v 4), (.v 5), (.v 58), (.v 59), (.v 60), (.v 61), (.v 62), (.v 63), (.v 64), (.v 65), (.v 66), (.v 67), (.v 68), (.add (.add (.v 44) (.v 56)) (.v 70))] 12
(.call 27 [(.v 2), (.v 3), (.v 4), (.v 5), (.lit 0), (.lit 0), (.lit 0), (.lit 0), (.lit 0), (.lit 0), (.lit 0), (.lit 0), (.lit 0), (.lit 0), (.lit 0), (.add (.v 44) (.v 56))] 12
tr5))))))))))
(.call 24 [(.v 2), (.v 3), (.v 4), (.v 5), (.v 11), (.v 12), (.v 13), (.v 14), (.v 18), (.v 19), (.v 20), (.v 21), (.v 25), (.v 26), (.v 27), (.v 28), (.v 32), (.v 33), (.v 34), (.v 35)] 12
(.ite (.and (.not (.eq (.v 48) (.lit 0))) (.not (.eq (.v 48) (.lit 16))))
tr6
(.call 900 [(.lit 12), (.mn (.v 0) (.lit 600)), (.v 36)] 2
(.call 27 [(.v 2), (.v 3), (.v 4), (.v 5), (.v 37), (.v 38), (.v 39), (.v 40), (.v 41), (.v 42), (.v 43), (.v 44), (.v 45), (.v 46), (.v 47), (.add (.v 37) (.v 49))] 12
(.call 900 [(.lit 5), (.mn (.v 0) (.lit 600)), (.v 50)] 2
(.call 27 [(.v 2), (.v 3), (.v 4), (.v 5), (.v 51), (.v 52), (.v 53), (.v 54), (.v 55), (.v 56), (.v 57), (.v 58), (.v 59), (.v 60), (.v 61), (.add (.add (.v 37) (.v 49)) (.v 63))] 12
(.call 27 [(.v 2), (.v 3), (.v 4), (.v 5), (.lit 0), (.lit 0), (.lit 0), (.lit 0), (.lit 0), (.lit 0), (.lit 0), (.lit 0), (.lit 0), (.lit 0), (.lit 0), (.add (.v 37) (.v 49))] 12
tr7))))))))))
(.call 23 [(.v 2), (.v 3), (.v 4), (.v 5), (.v 11), (.v 12), (.v 13), (.v 14), (.v 18), (.v 19), (.v 20), (.v 21), (.v 25), (.v 26), (.v 27), (.v 28)] 12
(.ite (.and (.not (.eq (.v 41) (.lit 0))) (.not (.eq (.v 41) (.lit 16))))
tr8
(.call 900 [(.lit 12), (.mn (.v 0) (.lit 600)), (.v 29)] 2
(.call 27 [(.v 2), (.v 3), (.v 4), (.v 5), (.v 30), (.v 31), (.v 32), (.v 33), (.v 34), (.v 35), (.v 36), (.v 37), (.v 38), (.v 39), (.v 40), (.add (.v 30) (.v 42))] 12
(.call 900 [(.lit 5), (.mn (.v 0) (.lit 600)), (.v 43)] 2
(.call 27 [(.v 2), (.v 3), (.v 4), (.v 5), (.v 44), (.v 45), (.v 46), (.v 47), (.v 48), (.v 49), (.v 50), (.v 51), (.v 52), (.v 53), (.v 54), (.add (.add (.v 30) (.v 42)) (.v 56))] 12
(.call 27 [(.v 2), (.v 3), (.v 4), (.v 5), (.lit 0), (.lit 0), (.lit 0), (.lit 0), (.lit 0), (.lit 0), (.lit 0), (.lit 0), (.lit 0), (.lit 0), (.lit 0), (.add (.v 30) (.v 42))] 12
tr9))))))))))
(.call 22 [(.v 2), (.v 3), (.v 4), (.v 5), (.v 11), (.v 12), (.v 13), (.v 14), (.v 18), (.v 19), (.v 20), (.v 21)] 12
(.ite (.and (.not (.eq (.v 34) (.lit 0))) (.not (.eq (.v 34) (.lit 16))))
tr10
(.call 900 [(.lit 12), (.mn (.v 0) (.lit 600)), (.v 22)] 2
(.call 27 [(.v 2), (.v 3), (.v 4), (.v 5), (.v 23), (.v 24), (.v 25), (.v 26), (.v 27), (.v 28), (.v 29), (.v 30), (.v 31), (.v 32), (.v 33), (.add (.v 23) (.v 35))] 12
(.call 900 [(.lit 5), (.mn (.v 0) (.lit 600)), (.v 36)] 2
(.call 27 [(.v 2), (.v 3), (.v 4), (.v 5), (.v 37), (.v 38), (.v 39), (.v 40), (.v 41), (.v 42), (.v 43), (.v 44), (.v 45), (.v 46), (.v 47), (.add (.add (.v 23) (.v 35)) (.v 49))] 12
(.call 27 [(.v 2), (.v 3), (.v 4), (.v 5), (.lit 0), (.lit 0), (.lit 0), (.lit 0), (.lit 0), (.lit 0), (.lit 0), (.lit 0), (.lit 0), (.lit 0), (.lit 0), (.add (.v 23) (.v 35))] 12
tr11))))))))))
(.call 21 [(.v 2), (.v 3), (.v 4), (.v 5), (.v 11), (.v 12), (.v 13), (.v 14)] 12
(.ite (.and (.not (.eq (.v 27) (.lit 0))) (.not (.eq (.v 27) (.lit 16))))
tr12
(.call 900 [(.lit 12), (.mn (.v 0) (.lit 600)), (.v 15)] 2
(.call 27 [(.v 2), (.v 3), (.v 4), (.v 5), (.v 16), (.v 17), (.v 18), (.v 19), (.v 20), (.v 21), (.v 22), (.v 23), (.v 24), (.v 25), (.v 26), (.add (.v 16) (.v 28))] 12
(.call 900 [(.lit 5), (.mn (.v 0) (.lit 600)), (.v 29)] 2
(.call 27 [(.v 2), (.v 3), (.v 4), (.v 5), (.v 30), (.v 31), (.v 32), (.v 33), (.v 34), (.v 35), (.v 36), (.v 37), (.v 38), (.v 39), (.v 40), (.add (.add (.v 16) (.v 28)) (.v 42))] 12
(.call 27 [(.v 2), (.v 3), (.v 4), (.v 5), (.lit 0), (.lit 0), (.lit 0), (.lit 0), (.lit 0), (.lit 0), (.lit 0), (.lit 0), (.lit 0), (.lit 0), (.lit 0), (.add (.v 16) (.v 28))] 12
tr13))))))))))
(.call 20 [(.v 2), (.v 3), (.v 4), (.v 5)] 12
(.ite (.and (.not (.eq (.v 20) (.lit 0))) (.not (.eq (.v 20) (.lit 16))))
tr14
(.call 900 [(.lit 12), (.mn (.v 0) (.lit 600)), (.v 8)] 2
(.call 27 [(.v 2), (.v 3), (.v 4), (.v 5), (.v 9), (.v 10), (.v 11), (.v 12), (.v 13), (.v 14), (.v 15), (.v 16), (.v 17), (.v 18), (.v 19), (.add (.v 9) (.v 21))] 12
(.call 900 [(.lit 5), (.mn (.v 0) (.lit 600)), (.v 22)] 2
(.call 27 [(.v 2), (.v 3), (.v 4), (.v 5), (.v 23), (.v 24), (.v 25), (.v 26), (.v 27), (.v 28), (.v 29), (.v 30), (.v 31), (.v 32), (.v 33), (.add (.add (.v 9) (.v 21)) (.v 35))] 12
(.call 27 [(.v 2), (.v 3), (.v 4), (.v 5), (.lit 0), (.lit 0), (.lit 0), (.lit 0), (.lit 0), (.lit 0), (.lit 0), (.lit 0), (.lit 0), (.lit 0), (.lit 0), (.add (.v 9) (.v 21))] 12
tr15))))))))))
theorem th1 : (at_ LP LC LF (evD LP LC LF LD) LG LK ct1 st0).strip = tr1 := (at_piece (by kernel_rfl) pc1).trans (congrArg (T.call _ _ _) (congrArg (T.call _ _ _) (congr (congrArg (T.ite _) (congrArg (T.call _ _ _) (congrArg (T.call _ _ _) (congr (congrArg (T.ite _) (congrArg (T.call _ _ _) (congrArg (T.call _ _ _) (congr (congrArg (T.ite _) (congrArg (T.call _ _ _) (congrArg (T.call _ _ _) (congr (congrArg (T.ite _) (congrArg (T.call _ _ _) (congrArg (T.call _ _ _) (congr (congrArg (T.ite _) (congrArg (T.call _ _ _) (congrArg (T.call _ _ _) (congr (congrArg (T.ite _) (congrArg (T.call _ _ _) (congrArg (T.call _ _ _) (congrArg (T.call _ _ _) (congr (congrArg (T.ite _) (at_back (n := 1) (m := 0) (ct := ct2) (by kernel_rfl) th2)) (congrArg (T.call _ _ _) (congrArg (T.call _ _ _) (congrArg (T.call _ _ _) (congrArg (T.call _ _ _) (congrArg (T.call _ _ _) (at_back (n := 1) (m := 0) (ct := ct3) (by kernel_rfl) th3))))))))))) (congrArg (T.call _ _ _) (congr (congrArg (T.ite _) (at_back (n := 1) (m := 0) (ct := ct4) (by kernel_rfl) th4)) (congrArg (T.call _ _ _) (congrArg (T.call _ _ _) (congrArg (T.call _ _ _) (congrArg (T.call _ _ _) (congrArg (T.call _ _ _) (at_back (n := 1) (m := 0) (ct := ct5) (by kernel_rfl) th5)))))))))))) (congrArg (T.call _ _ _) (congr (congrArg (T.ite _) (at_back (n := 1) (m := 0) (ct := ct6) (by kernel_rfl) th6)) (congrArg (T.call _ _ _) (congrArg (T.call _ _ _) (congrArg (T.call _ _ _) (congrArg (T.call _ _ _) (congrArg (T.call _ _ _) (at_back (n := 1) (m := 0) (ct := ct7) (by kernel_rfl) th7)))))))))))) (congrArg (T.call _ _ _) (congr (congrArg (T.ite _) (at_back (n := 1) (m := 0) (ct := ct8) (by kernel_rfl) th8)) (congrArg (T.call _ _ _) (congrArg (T.call _ _ _) (congrArg (T.call _ _ _) (congrArg (T.call _ _ _) (congrArg (T.call _ _ _) (at_back (n := 1) (m := 0) (ct := ct9) (by kernel_rfl) th9)))))))))))) (congrArg (T.call _ _ _) (congr (congrArg (T.ite _) (at_back (n := 1) (m := 0) (ct := ct10) (by kernel_rfl) th10)) (congrArg (T.call _ _ _) (congrArg (T.call _ _ _) (congrArg (T.call _ _ _) (congrArg (T.call _ _ _) (congrArg (T.call _ _ _) (at_back (n := 1) (m := 0) (ct := ct11) (by kernel_rfl) th11)))))))))))) (congrArg (T.call _ _ _) (congr (congrArg (T.ite _) (at_back (n := 1) (m := 0) (ct := ct12) (by kernel_rfl) th12)) (congrArg (T.call _ _ _) (congrArg (T.call _ _ _) (congrArg (T.call _ _ _) (congrArg (T.call _ _ _) (congrArg (T.call _ _ _) (at_back (n := 1) (m := 0) (ct := ct13) (by kernel_rfl) th13)))))))))))) (congrArg (T.call _ _ _) (congr (congrArg (T.ite _) (at_back (n := 1) (m := 0) (ct := ct14) (by kernel_rfl) th14)) (congrArg (T.call _ _ _) (congrArg (T.call _ _ _) (congrArg (T.call _ _ _) (congrArg (T.call _ _ _) (congrArg (T.call _ _ _) (at_back (n := 1) (m := 0) (ct := ct15) (by kernel_rfl) th15)))))))))))
theorem th0 : (at_ LP LC LF (evD LP LC LF LD) LG LK ct0 st0).strip = tr1 := at_adm (n := 0) (m := 9) (ct := ct1) rfl th1
noncomputable abbrev tr0 : T Leaf := tr1
end Go.Proofs.Ytejklpbiieofoaa.monitorTicks
