/- 'dynpos/dynposlaw23.VesselExact': its walk, by a check of each part. -/
import Derived.Test.YtnnnmdmniceenaaVEV
import Derived.Test.YtnnnmdmniceenaaVExactK0
import Derived.Test.YtnnnmdmniceenaaVExactK1
import Derived.Test.YtnnnmdmniceenaaVExactK2
import Derived.Test.YtnnnmdmniceenaaVExactK3
import Derived.Test.YtnnnmdmniceenaaVExactK4
set_option linter.unusedSimpArgs false
set_option linter.unusedVariables false
set_option maxRecDepth 100000
namespace Go.Proofs.Ytnnnmdmniceenaa.vesselExact
open Go.RowKit Ev
theorem th2 : Z_ 14 fa2 [] ha2 (A_ ct2 st2) = true := by kernel_rfl
theorem th53 : Z_ 856 fa53 q0 ha53 (A_ ct53 st53) = true := by kernel_rfl
theorem th52 : Z_ 855 fa52 q0 ha52 (A_ ct52 st52) = true := z_piece (ct := ct52) (by kernel_rfl) pc52 (z_back (n := 0) (m := 0) (ct := ct53) (by kernel_rfl) th53)
theorem th50 : Z_ 855 fa50 q0 ha50 (A_ ct50 st50) = true := z_adm (n := 0) (m := 2) (ct := ct51) rfl (z_piece (ct := ct51) (by kernel_rfl) pc50 (z_back (n := 4) (m := 0) (ct := ct52) (by kernel_rfl) th52))
theorem th49 : Z_ 855 fa49 q0 ha49 (A_ ct49 st49) = true := z_piece (ct := ct49) (by kernel_rfl) pc49 (z_back (n := 2) (m := 0) (ct := ct50) (by kernel_rfl) th50)
theorem th47 : Z_ 855 fa47 q0 ha47 (A_ ct47 st47) = true := z_adm (n := 0) (m := 2) (ct := ct48) rfl (z_piece (ct := ct48) (by kernel_rfl) pc47 (z_back (n := 5) (m := 0) (ct := ct49) (by kernel_rfl) th49))
theorem th46 : Z_ 741 fa46 q1 ha46 (A_ ct46 st46) = true := z_piece (ct := ct46) (by kernel_rfl) pc46 (z_back (n := 2) (m := 0) (ct := ct47) (by kernel_rfl) th47)
theorem th44 : Z_ 741 fa44 q1 ha44 (A_ ct44 st44) = true := z_adm (n := 0) (m := 2) (ct := ct45) rfl (z_piece (ct := ct45) (by kernel_rfl) pc44 (z_back (n := 1) (m := 0) (ct := ct46) (by kernel_rfl) th46))
theorem th43 : Z_ 627 fa43 q2 ha43 (A_ ct43 st43) = true := z_piece (ct := ct43) (by kernel_rfl) pc43 (z_back (n := 2) (m := 0) (ct := ct44) (by kernel_rfl) th44)
theorem th41 : Z_ 627 fa41 q2 ha41 (A_ ct41 st41) = true := z_adm (n := 0) (m := 2) (ct := ct42) rfl (z_piece (ct := ct42) (by kernel_rfl) pc41 (z_back (n := 1) (m := 0) (ct := ct43) (by kernel_rfl) th43))
theorem th40 : Z_ 513 fa40 q3 ha40 (A_ ct40 st40) = true := z_piece (ct := ct40) (by kernel_rfl) pc40 (z_back (n := 2) (m := 0) (ct := ct41) (by kernel_rfl) th41)
theorem th38 : Z_ 513 fa38 q3 ha38 (A_ ct38 st38) = true := z_adm (n := 0) (m := 2) (ct := ct39) rfl (z_piece (ct := ct39) (by kernel_rfl) pc38 (z_back (n := 1) (m := 0) (ct := ct40) (by kernel_rfl) th40))
theorem th37 : Z_ 513 fa37 q3 ha37 (A_ ct37 st37) = true := z_adm (n := 2) (m := 0) (ct := ct38) (by kernel_rfl) th38
theorem th36 : Z_ 513 fa36 q3 ha36 (A_ ct36 st36) = true := z_adm (n := 1) (m := 0) (ct := ct37) (by kernel_rfl) th37
theorem th34 : Z_ 513 fa34 q3 ha34 (A_ ct34 st34) = true := z_adm (n := 0) (m := 2) (ct := ct35) rfl (z_piece (ct := ct35) (by kernel_rfl) pc34 (z_back (n := 1) (m := 0) (ct := ct36) (by kernel_rfl) th36))
theorem th33 : Z_ 513 fa33 q3 ha33 (A_ ct33 st33) = true := z_adm (n := 1) (m := 0) (ct := ct34) (by kernel_rfl) th34
theorem th32 : Z_ 513 fa32 q3 ha32 (A_ ct32 st32) = true := z_adm (n := 1) (m := 0) (ct := ct33) (by kernel_rfl) th33
theorem th30 : Z_ 513 fa30 q3 ha30 (A_ ct30 st30) = true := z_adm (n := 0) (m := 2) (ct := ct31) rfl (z_piece (ct := ct31) (by kernel_rfl) pc30 (z_back (n := 1) (m := 0) (ct := ct32) (by kernel_rfl) th32))
theorem th29 : Z_ 513 fa29 q3 ha29 (A_ ct29 st29) = true := z_piece (ct := ct29) (by kernel_rfl) pc29 (z_back (n := 2) (m := 0) (ct := ct30) (by kernel_rfl) th30)
theorem th27 : Z_ 513 fa27 q3 ha27 (A_ ct27 st27) = true := z_adm (n := 0) (m := 2) (ct := ct28) rfl (z_piece (ct := ct28) (by kernel_rfl) pc27 (z_back (n := 5) (m := 0) (ct := ct29) (by kernel_rfl) th29))
theorem th26 : Z_ 399 fa26 q4 ha26 (A_ ct26 st26) = true := z_piece (ct := ct26) (by kernel_rfl) pc26 (z_back (n := 2) (m := 0) (ct := ct27) (by kernel_rfl) th27)
theorem th24 : Z_ 399 fa24 q4 ha24 (A_ ct24 st24) = true := z_adm (n := 0) (m := 2) (ct := ct25) rfl (z_piece (ct := ct25) (by kernel_rfl) pc24 (z_back (n := 1) (m := 0) (ct := ct26) (by kernel_rfl) th26))
theorem th23 : Z_ 285 fa23 q5 ha23 (A_ ct23 st23) = true := z_piece (ct := ct23) (by kernel_rfl) pc23 (z_back (n := 2) (m := 0) (ct := ct24) (by kernel_rfl) th24)
theorem th21 : Z_ 285 fa21 q5 ha21 (A_ ct21 st21) = true := z_adm (n := 0) (m := 2) (ct := ct22) rfl (z_piece (ct := ct22) (by kernel_rfl) pc21 (z_back (n := 1) (m := 0) (ct := ct23) (by kernel_rfl) th23))
theorem th86 : Z_ 856 fa86 q0 ha86 (A_ ct86 st86) = true := by kernel_rfl
theorem th85 : Z_ 855 fa85 q0 ha85 (A_ ct85 st85) = true := z_piece (ct := ct85) (by kernel_rfl) pc85 (z_back (n := 0) (m := 0) (ct := ct86) (by kernel_rfl) th86)
theorem th83 : Z_ 855 fa83 q0 ha83 (A_ ct83 st83) = true := z_adm (n := 0) (m := 2) (ct := ct84) rfl (z_piece (ct := ct84) (by kernel_rfl) pc83 (z_back (n := 4) (m := 0) (ct := ct85) (by kernel_rfl) th85))
theorem th82 : Z_ 855 fa82 q0 ha82 (A_ ct82 st82) = true := z_piece (ct := ct82) (by kernel_rfl) pc82 (z_back (n := 2) (m := 0) (ct := ct83) (by kernel_rfl) th83)
theorem th80 : Z_ 855 fa80 q0 ha80 (A_ ct80 st80) = true := z_adm (n := 0) (m := 2) (ct := ct81) rfl (z_piece (ct := ct81) (by kernel_rfl) pc80 (z_back (n := 5) (m := 0) (ct := ct82) (by kernel_rfl) th82))
theorem th79 : Z_ 741 fa79 q1 ha79 (A_ ct79 st79) = true := z_piece (ct := ct79) (by kernel_rfl) pc79 (z_back (n := 2) (m := 0) (ct := ct80) (by kernel_rfl) th80)
theorem th77 : Z_ 741 fa77 q1 ha77 (A_ ct77 st77) = true := z_adm (n := 0) (m := 2) (ct := ct78) rfl (z_piece (ct := ct78) (by kernel_rfl) pc77 (z_back (n := 1) (m := 0) (ct := ct79) (by kernel_rfl) th79))
theorem th76 : Z_ 627 fa76 q2 ha76 (A_ ct76 st76) = true := z_piece (ct := ct76) (by kernel_rfl) pc76 (z_back (n := 2) (m := 0) (ct := ct77) (by kernel_rfl) th77)
theorem th74 : Z_ 627 fa74 q2 ha74 (A_ ct74 st74) = true := z_adm (n := 0) (m := 2) (ct := ct75) rfl (z_piece (ct := ct75) (by kernel_rfl) pc74 (z_back (n := 1) (m := 0) (ct := ct76) (by kernel_rfl) th76))
theorem th73 : Z_ 513 fa73 q3 ha73 (A_ ct73 st73) = true := z_piece (ct := ct73) (by kernel_rfl) pc73 (z_back (n := 2) (m := 0) (ct := ct74) (by kernel_rfl) th74)
theorem th71 : Z_ 513 fa71 q3 ha71 (A_ ct71 st71) = true := z_adm (n := 0) (m := 2) (ct := ct72) rfl (z_piece (ct := ct72) (by kernel_rfl) pc71 (z_back (n := 1) (m := 0) (ct := ct73) (by kernel_rfl) th73))
theorem th70 : Z_ 513 fa70 q3 ha70 (A_ ct70 st70) = true := z_adm (n := 2) (m := 0) (ct := ct71) (by kernel_rfl) th71
theorem th69 : Z_ 513 fa69 q3 ha69 (A_ ct69 st69) = true := z_adm (n := 1) (m := 0) (ct := ct70) (by kernel_rfl) th70
theorem th67 : Z_ 513 fa67 q3 ha67 (A_ ct67 st67) = true := z_adm (n := 0) (m := 2) (ct := ct68) rfl (z_piece (ct := ct68) (by kernel_rfl) pc67 (z_back (n := 1) (m := 0) (ct := ct69) (by kernel_rfl) th69))
theorem th66 : Z_ 513 fa66 q3 ha66 (A_ ct66 st66) = true := z_adm (n := 1) (m := 0) (ct := ct67) (by kernel_rfl) th67
theorem th65 : Z_ 513 fa65 q3 ha65 (A_ ct65 st65) = true := z_adm (n := 1) (m := 0) (ct := ct66) (by kernel_rfl) th66
theorem th63 : Z_ 513 fa63 q3 ha63 (A_ ct63 st63) = true := z_adm (n := 0) (m := 2) (ct := ct64) rfl (z_piece (ct := ct64) (by kernel_rfl) pc63 (z_back (n := 1) (m := 0) (ct := ct65) (by kernel_rfl) th65))
theorem th62 : Z_ 513 fa62 q3 ha62 (A_ ct62 st62) = true := z_piece (ct := ct62) (by kernel_rfl) pc62 (z_back (n := 2) (m := 0) (ct := ct63) (by kernel_rfl) th63)
theorem th60 : Z_ 513 fa60 q3 ha60 (A_ ct60 st60) = true := z_adm (n := 0) (m := 2) (ct := ct61) rfl (z_piece (ct := ct61) (by kernel_rfl) pc60 (z_back (n := 5) (m := 0) (ct := ct62) (by kernel_rfl) th62))
theorem th59 : Z_ 399 fa59 q4 ha59 (A_ ct59 st59) = true := z_piece (ct := ct59) (by kernel_rfl) pc59 (z_back (n := 2) (m := 0) (ct := ct60) (by kernel_rfl) th60)
theorem th57 : Z_ 399 fa57 q4 ha57 (A_ ct57 st57) = true := z_adm (n := 0) (m := 2) (ct := ct58) rfl (z_piece (ct := ct58) (by kernel_rfl) pc57 (z_back (n := 1) (m := 0) (ct := ct59) (by kernel_rfl) th59))
theorem th56 : Z_ 285 fa56 q5 ha56 (A_ ct56 st56) = true := z_piece (ct := ct56) (by kernel_rfl) pc56 (z_back (n := 2) (m := 0) (ct := ct57) (by kernel_rfl) th57)
theorem th54 : Z_ 285 fa54 q5 ha54 (A_ ct54 st54) = true := z_adm (n := 0) (m := 2) (ct := ct55) rfl (z_piece (ct := ct55) (by kernel_rfl) pc54 (z_back (n := 1) (m := 0) (ct := ct56) (by kernel_rfl) th56))
theorem th20 : Z_ 171 fa20 [] ha20 (A_ ct20 st20) = true := z_piece (ct := ct20) (by kernel_rfl) pc20 (and_t (z_back (n := 2) (m := 0) (ct := ct21) (by kernel_rfl) th21) (z_back (n := 2) (m := 0) (ct := ct54) (by kernel_rfl) th54))
theorem th18 : Z_ 171 fa18 [] ha18 (A_ ct18 st18) = true := z_adm (n := 0) (m := 2) (ct := ct19) rfl (z_piece (ct := ct19) (by kernel_rfl) pc18 (z_back (n := 1) (m := 0) (ct := ct20) (by kernel_rfl) th20))
theorem th17 : Z_ 171 fa17 [] ha17 (A_ ct17 st17) = true := z_adm (n := 2) (m := 0) (ct := ct18) (by kernel_rfl) th18
theorem th16 : Z_ 171 fa16 [] ha16 (A_ ct16 st16) = true := z_adm (n := 1) (m := 0) (ct := ct17) (by kernel_rfl) th17
theorem th14 : Z_ 171 fa14 [] ha14 (A_ ct14 st14) = true := z_adm (n := 0) (m := 2) (ct := ct15) rfl (z_piece (ct := ct15) (by kernel_rfl) pc14 (z_back (n := 1) (m := 0) (ct := ct16) (by kernel_rfl) th16))
theorem th13 : Z_ 171 fa13 [] ha13 (A_ ct13 st13) = true := z_adm (n := 1) (m := 0) (ct := ct14) (by kernel_rfl) th14
theorem th12 : Z_ 171 fa12 [] ha12 (A_ ct12 st12) = true := z_adm (n := 1) (m := 0) (ct := ct13) (by kernel_rfl) th13
theorem th10 : Z_ 171 fa10 [] ha10 (A_ ct10 st10) = true := z_adm (n := 0) (m := 2) (ct := ct11) rfl (z_piece (ct := ct11) (by kernel_rfl) pc10 (z_back (n := 1) (m := 0) (ct := ct12) (by kernel_rfl) th12))
theorem th9 : Z_ 171 fa9 [] ha9 (A_ ct9 st9) = true := z_adm (n := 2) (m := 0) (ct := ct10) (by kernel_rfl) th10
theorem th8 : Z_ 171 fa8 [] ha8 (A_ ct8 st8) = true := z_adm (n := 1) (m := 0) (ct := ct9) (by kernel_rfl) th9
theorem th132 : Z_ 858 fa132 q6 ha132 (A_ ct132 st132) = true := by kernel_rfl
theorem th131 : Z_ 857 fa131 q6 ha131 (A_ ct131 st131) = true := z_piece (ct := ct131) (by kernel_rfl) pc131 (z_back (n := 0) (m := 0) (ct := ct132) (by kernel_rfl) th132)
theorem th129 : Z_ 857 fa129 q6 ha129 (A_ ct129 st129) = true := z_adm (n := 0) (m := 2) (ct := ct130) rfl (z_piece (ct := ct130) (by kernel_rfl) pc129 (z_back (n := 4) (m := 0) (ct := ct131) (by kernel_rfl) th131))
theorem th128 : Z_ 857 fa128 q6 ha128 (A_ ct128 st128) = true := z_piece (ct := ct128) (by kernel_rfl) pc128 (z_back (n := 2) (m := 0) (ct := ct129) (by kernel_rfl) th129)
theorem th126 : Z_ 857 fa126 q6 ha126 (A_ ct126 st126) = true := z_adm (n := 0) (m := 2) (ct := ct127) rfl (z_piece (ct := ct127) (by kernel_rfl) pc126 (z_back (n := 5) (m := 0) (ct := ct128) (by kernel_rfl) th128))
theorem th125 : Z_ 743 fa125 q7 ha125 (A_ ct125 st125) = true := z_piece (ct := ct125) (by kernel_rfl) pc125 (z_back (n := 2) (m := 0) (ct := ct126) (by kernel_rfl) th126)
theorem th123 : Z_ 743 fa123 q7 ha123 (A_ ct123 st123) = true := z_adm (n := 0) (m := 2) (ct := ct124) rfl (z_piece (ct := ct124) (by kernel_rfl) pc123 (z_back (n := 1) (m := 0) (ct := ct125) (by kernel_rfl) th125))
theorem th122 : Z_ 629 fa122 q8 ha122 (A_ ct122 st122) = true := z_piece (ct := ct122) (by kernel_rfl) pc122 (z_back (n := 2) (m := 0) (ct := ct123) (by kernel_rfl) th123)
theorem th120 : Z_ 629 fa120 q8 ha120 (A_ ct120 st120) = true := z_adm (n := 0) (m := 2) (ct := ct121) rfl (z_piece (ct := ct121) (by kernel_rfl) pc120 (z_back (n := 1) (m := 0) (ct := ct122) (by kernel_rfl) th122))
theorem th119 : Z_ 515 fa119 q9 ha119 (A_ ct119 st119) = true := z_piece (ct := ct119) (by kernel_rfl) pc119 (z_back (n := 2) (m := 0) (ct := ct120) (by kernel_rfl) th120)
theorem th117 : Z_ 515 fa117 q9 ha117 (A_ ct117 st117) = true := z_adm (n := 0) (m := 2) (ct := ct118) rfl (z_piece (ct := ct118) (by kernel_rfl) pc117 (z_back (n := 1) (m := 0) (ct := ct119) (by kernel_rfl) th119))
theorem th116 : Z_ 515 fa116 q9 ha116 (A_ ct116 st116) = true := z_adm (n := 2) (m := 0) (ct := ct117) (by kernel_rfl) th117
theorem th115 : Z_ 515 fa115 q9 ha115 (A_ ct115 st115) = true := z_adm (n := 1) (m := 0) (ct := ct116) (by kernel_rfl) th116
theorem th113 : Z_ 515 fa113 q9 ha113 (A_ ct113 st113) = true := z_adm (n := 0) (m := 2) (ct := ct114) rfl (z_piece (ct := ct114) (by kernel_rfl) pc113 (z_back (n := 1) (m := 0) (ct := ct115) (by kernel_rfl) th115))
theorem th112 : Z_ 515 fa112 q9 ha112 (A_ ct112 st112) = true := z_adm (n := 1) (m := 0) (ct := ct113) (by kernel_rfl) th113
theorem th111 : Z_ 515 fa111 q9 ha111 (A_ ct111 st111) = true := z_adm (n := 1) (m := 0) (ct := ct112) (by kernel_rfl) th112
theorem th109 : Z_ 515 fa109 q9 ha109 (A_ ct109 st109) = true := z_adm (n := 0) (m := 2) (ct := ct110) rfl (z_piece (ct := ct110) (by kernel_rfl) pc109 (z_back (n := 1) (m := 0) (ct := ct111) (by kernel_rfl) th111))
theorem th108 : Z_ 515 fa108 q9 ha108 (A_ ct108 st108) = true := z_piece (ct := ct108) (by kernel_rfl) pc108 (z_back (n := 2) (m := 0) (ct := ct109) (by kernel_rfl) th109)
theorem th106 : Z_ 515 fa106 q9 ha106 (A_ ct106 st106) = true := z_adm (n := 0) (m := 2) (ct := ct107) rfl (z_piece (ct := ct107) (by kernel_rfl) pc106 (z_back (n := 5) (m := 0) (ct := ct108) (by kernel_rfl) th108))
theorem th105 : Z_ 401 fa105 q10 ha105 (A_ ct105 st105) = true := z_piece (ct := ct105) (by kernel_rfl) pc105 (z_back (n := 2) (m := 0) (ct := ct106) (by kernel_rfl) th106)
theorem th103 : Z_ 401 fa103 q10 ha103 (A_ ct103 st103) = true := z_adm (n := 0) (m := 2) (ct := ct104) rfl (z_piece (ct := ct104) (by kernel_rfl) pc103 (z_back (n := 1) (m := 0) (ct := ct105) (by kernel_rfl) th105))
theorem th102 : Z_ 287 fa102 q11 ha102 (A_ ct102 st102) = true := z_piece (ct := ct102) (by kernel_rfl) pc102 (z_back (n := 2) (m := 0) (ct := ct103) (by kernel_rfl) th103)
theorem th100 : Z_ 287 fa100 q11 ha100 (A_ ct100 st100) = true := z_adm (n := 0) (m := 2) (ct := ct101) rfl (z_piece (ct := ct101) (by kernel_rfl) pc100 (z_back (n := 1) (m := 0) (ct := ct102) (by kernel_rfl) th102))
theorem th165 : Z_ 858 fa165 q6 ha165 (A_ ct165 st165) = true := by kernel_rfl
theorem th164 : Z_ 857 fa164 q6 ha164 (A_ ct164 st164) = true := z_piece (ct := ct164) (by kernel_rfl) pc164 (z_back (n := 0) (m := 0) (ct := ct165) (by kernel_rfl) th165)
theorem th162 : Z_ 857 fa162 q6 ha162 (A_ ct162 st162) = true := z_adm (n := 0) (m := 2) (ct := ct163) rfl (z_piece (ct := ct163) (by kernel_rfl) pc162 (z_back (n := 4) (m := 0) (ct := ct164) (by kernel_rfl) th164))
theorem th161 : Z_ 857 fa161 q6 ha161 (A_ ct161 st161) = true := z_piece (ct := ct161) (by kernel_rfl) pc161 (z_back (n := 2) (m := 0) (ct := ct162) (by kernel_rfl) th162)
theorem th159 : Z_ 857 fa159 q6 ha159 (A_ ct159 st159) = true := z_adm (n := 0) (m := 2) (ct := ct160) rfl (z_piece (ct := ct160) (by kernel_rfl) pc159 (z_back (n := 5) (m := 0) (ct := ct161) (by kernel_rfl) th161))
theorem th158 : Z_ 743 fa158 q7 ha158 (A_ ct158 st158) = true := z_piece (ct := ct158) (by kernel_rfl) pc158 (z_back (n := 2) (m := 0) (ct := ct159) (by kernel_rfl) th159)
theorem th156 : Z_ 743 fa156 q7 ha156 (A_ ct156 st156) = true := z_adm (n := 0) (m := 2) (ct := ct157) rfl (z_piece (ct := ct157) (by kernel_rfl) pc156 (z_back (n := 1) (m := 0) (ct := ct158) (by kernel_rfl) th158))
theorem th155 : Z_ 629 fa155 q8 ha155 (A_ ct155 st155) = true := z_piece (ct := ct155) (by kernel_rfl) pc155 (z_back (n := 2) (m := 0) (ct := ct156) (by kernel_rfl) th156)
theorem th153 : Z_ 629 fa153 q8 ha153 (A_ ct153 st153) = true := z_adm (n := 0) (m := 2) (ct := ct154) rfl (z_piece (ct := ct154) (by kernel_rfl) pc153 (z_back (n := 1) (m := 0) (ct := ct155) (by kernel_rfl) th155))
theorem th152 : Z_ 515 fa152 q9 ha152 (A_ ct152 st152) = true := z_piece (ct := ct152) (by kernel_rfl) pc152 (z_back (n := 2) (m := 0) (ct := ct153) (by kernel_rfl) th153)
theorem th150 : Z_ 515 fa150 q9 ha150 (A_ ct150 st150) = true := z_adm (n := 0) (m := 2) (ct := ct151) rfl (z_piece (ct := ct151) (by kernel_rfl) pc150 (z_back (n := 1) (m := 0) (ct := ct152) (by kernel_rfl) th152))
theorem th149 : Z_ 515 fa149 q9 ha149 (A_ ct149 st149) = true := z_adm (n := 2) (m := 0) (ct := ct150) (by kernel_rfl) th150
theorem th148 : Z_ 515 fa148 q9 ha148 (A_ ct148 st148) = true := z_adm (n := 1) (m := 0) (ct := ct149) (by kernel_rfl) th149
theorem th146 : Z_ 515 fa146 q9 ha146 (A_ ct146 st146) = true := z_adm (n := 0) (m := 2) (ct := ct147) rfl (z_piece (ct := ct147) (by kernel_rfl) pc146 (z_back (n := 1) (m := 0) (ct := ct148) (by kernel_rfl) th148))
theorem th145 : Z_ 515 fa145 q9 ha145 (A_ ct145 st145) = true := z_adm (n := 1) (m := 0) (ct := ct146) (by kernel_rfl) th146
theorem th144 : Z_ 515 fa144 q9 ha144 (A_ ct144 st144) = true := z_adm (n := 1) (m := 0) (ct := ct145) (by kernel_rfl) th145
theorem th142 : Z_ 515 fa142 q9 ha142 (A_ ct142 st142) = true := z_adm (n := 0) (m := 2) (ct := ct143) rfl (z_piece (ct := ct143) (by kernel_rfl) pc142 (z_back (n := 1) (m := 0) (ct := ct144) (by kernel_rfl) th144))
theorem th141 : Z_ 515 fa141 q9 ha141 (A_ ct141 st141) = true := z_piece (ct := ct141) (by kernel_rfl) pc141 (z_back (n := 2) (m := 0) (ct := ct142) (by kernel_rfl) th142)
theorem th139 : Z_ 515 fa139 q9 ha139 (A_ ct139 st139) = true := z_adm (n := 0) (m := 2) (ct := ct140) rfl (z_piece (ct := ct140) (by kernel_rfl) pc139 (z_back (n := 5) (m := 0) (ct := ct141) (by kernel_rfl) th141))
theorem th138 : Z_ 401 fa138 q10 ha138 (A_ ct138 st138) = true := z_piece (ct := ct138) (by kernel_rfl) pc138 (z_back (n := 2) (m := 0) (ct := ct139) (by kernel_rfl) th139)
theorem th136 : Z_ 401 fa136 q10 ha136 (A_ ct136 st136) = true := z_adm (n := 0) (m := 2) (ct := ct137) rfl (z_piece (ct := ct137) (by kernel_rfl) pc136 (z_back (n := 1) (m := 0) (ct := ct138) (by kernel_rfl) th138))
theorem th135 : Z_ 287 fa135 q11 ha135 (A_ ct135 st135) = true := z_piece (ct := ct135) (by kernel_rfl) pc135 (z_back (n := 2) (m := 0) (ct := ct136) (by kernel_rfl) th136)
theorem th133 : Z_ 287 fa133 q11 ha133 (A_ ct133 st133) = true := z_adm (n := 0) (m := 2) (ct := ct134) rfl (z_piece (ct := ct134) (by kernel_rfl) pc133 (z_back (n := 1) (m := 0) (ct := ct135) (by kernel_rfl) th135))
theorem th99 : Z_ 173 fa99 [] ha99 (A_ ct99 st99) = true := z_piece (ct := ct99) (by kernel_rfl) pc99 (and_t (z_back (n := 2) (m := 0) (ct := ct100) (by kernel_rfl) th100) (z_back (n := 2) (m := 0) (ct := ct133) (by kernel_rfl) th133))
theorem th97 : Z_ 173 fa97 [] ha97 (A_ ct97 st97) = true := z_adm (n := 0) (m := 2) (ct := ct98) rfl (z_piece (ct := ct98) (by kernel_rfl) pc97 (z_back (n := 1) (m := 0) (ct := ct99) (by kernel_rfl) th99))
theorem th96 : Z_ 173 fa96 [] ha96 (A_ ct96 st96) = true := z_adm (n := 2) (m := 0) (ct := ct97) (by kernel_rfl) th97
theorem th95 : Z_ 173 fa95 [] ha95 (A_ ct95 st95) = true := z_adm (n := 1) (m := 0) (ct := ct96) (by kernel_rfl) th96
theorem th93 : Z_ 173 fa93 [] ha93 (A_ ct93 st93) = true := z_adm (n := 0) (m := 2) (ct := ct94) rfl (z_piece (ct := ct94) (by kernel_rfl) pc93 (z_back (n := 1) (m := 0) (ct := ct95) (by kernel_rfl) th95))
theorem th92 : Z_ 173 fa92 [] ha92 (A_ ct92 st92) = true := z_adm (n := 1) (m := 0) (ct := ct93) (by kernel_rfl) th93
theorem th91 : Z_ 173 fa91 [] ha91 (A_ ct91 st91) = true := z_adm (n := 1) (m := 0) (ct := ct92) (by kernel_rfl) th92
theorem th89 : Z_ 173 fa89 [] ha89 (A_ ct89 st89) = true := z_adm (n := 0) (m := 2) (ct := ct90) rfl (z_piece (ct := ct90) (by kernel_rfl) pc89 (z_back (n := 1) (m := 0) (ct := ct91) (by kernel_rfl) th91))
theorem th88 : Z_ 173 fa88 [] ha88 (A_ ct88 st88) = true := z_adm (n := 2) (m := 0) (ct := ct89) (by kernel_rfl) th89
theorem th87 : Z_ 173 fa87 [] ha87 (A_ ct87 st87) = true := z_adm (n := 1) (m := 0) (ct := ct88) (by kernel_rfl) th88
theorem th211 : Z_ 845 fa211 q12 ha211 (A_ ct211 st211) = true := by kernel_rfl
theorem th210 : Z_ 844 fa210 q12 ha210 (A_ ct210 st210) = true := z_piece (ct := ct210) (by kernel_rfl) pc210 (z_back (n := 0) (m := 0) (ct := ct211) (by kernel_rfl) th211)
theorem th208 : Z_ 844 fa208 q12 ha208 (A_ ct208 st208) = true := z_adm (n := 0) (m := 2) (ct := ct209) rfl (z_piece (ct := ct209) (by kernel_rfl) pc208 (z_back (n := 4) (m := 0) (ct := ct210) (by kernel_rfl) th210))
theorem th207 : Z_ 844 fa207 q12 ha207 (A_ ct207 st207) = true := z_piece (ct := ct207) (by kernel_rfl) pc207 (z_back (n := 2) (m := 0) (ct := ct208) (by kernel_rfl) th208)
theorem th205 : Z_ 844 fa205 q12 ha205 (A_ ct205 st205) = true := z_adm (n := 0) (m := 2) (ct := ct206) rfl (z_piece (ct := ct206) (by kernel_rfl) pc205 (z_back (n := 5) (m := 0) (ct := ct207) (by kernel_rfl) th207))
theorem th204 : Z_ 730 fa204 q13 ha204 (A_ ct204 st204) = true := z_piece (ct := ct204) (by kernel_rfl) pc204 (z_back (n := 2) (m := 0) (ct := ct205) (by kernel_rfl) th205)
theorem th202 : Z_ 730 fa202 q13 ha202 (A_ ct202 st202) = true := z_adm (n := 0) (m := 2) (ct := ct203) rfl (z_piece (ct := ct203) (by kernel_rfl) pc202 (z_back (n := 1) (m := 0) (ct := ct204) (by kernel_rfl) th204))
theorem th201 : Z_ 616 fa201 q14 ha201 (A_ ct201 st201) = true := z_piece (ct := ct201) (by kernel_rfl) pc201 (z_back (n := 2) (m := 0) (ct := ct202) (by kernel_rfl) th202)
theorem th199 : Z_ 616 fa199 q14 ha199 (A_ ct199 st199) = true := z_adm (n := 0) (m := 2) (ct := ct200) rfl (z_piece (ct := ct200) (by kernel_rfl) pc199 (z_back (n := 1) (m := 0) (ct := ct201) (by kernel_rfl) th201))
theorem th198 : Z_ 502 fa198 q15 ha198 (A_ ct198 st198) = true := z_piece (ct := ct198) (by kernel_rfl) pc198 (z_back (n := 2) (m := 0) (ct := ct199) (by kernel_rfl) th199)
theorem th196 : Z_ 502 fa196 q15 ha196 (A_ ct196 st196) = true := z_adm (n := 0) (m := 2) (ct := ct197) rfl (z_piece (ct := ct197) (by kernel_rfl) pc196 (z_back (n := 1) (m := 0) (ct := ct198) (by kernel_rfl) th198))
theorem th195 : Z_ 502 fa195 q15 ha195 (A_ ct195 st195) = true := z_adm (n := 2) (m := 0) (ct := ct196) (by kernel_rfl) th196
theorem th194 : Z_ 502 fa194 q15 ha194 (A_ ct194 st194) = true := z_adm (n := 1) (m := 0) (ct := ct195) (by kernel_rfl) th195
theorem th192 : Z_ 502 fa192 q15 ha192 (A_ ct192 st192) = true := z_adm (n := 0) (m := 2) (ct := ct193) rfl (z_piece (ct := ct193) (by kernel_rfl) pc192 (z_back (n := 1) (m := 0) (ct := ct194) (by kernel_rfl) th194))
theorem th191 : Z_ 502 fa191 q15 ha191 (A_ ct191 st191) = true := z_adm (n := 1) (m := 0) (ct := ct192) (by kernel_rfl) th192
theorem th190 : Z_ 502 fa190 q15 ha190 (A_ ct190 st190) = true := z_adm (n := 1) (m := 0) (ct := ct191) (by kernel_rfl) th191
theorem th188 : Z_ 502 fa188 q15 ha188 (A_ ct188 st188) = true := z_adm (n := 0) (m := 2) (ct := ct189) rfl (z_piece (ct := ct189) (by kernel_rfl) pc188 (z_back (n := 1) (m := 0) (ct := ct190) (by kernel_rfl) th190))
theorem th187 : Z_ 502 fa187 q15 ha187 (A_ ct187 st187) = true := z_piece (ct := ct187) (by kernel_rfl) pc187 (z_back (n := 2) (m := 0) (ct := ct188) (by kernel_rfl) th188)
theorem th185 : Z_ 502 fa185 q15 ha185 (A_ ct185 st185) = true := z_adm (n := 0) (m := 2) (ct := ct186) rfl (z_piece (ct := ct186) (by kernel_rfl) pc185 (z_back (n := 5) (m := 0) (ct := ct187) (by kernel_rfl) th187))
theorem th184 : Z_ 388 fa184 q16 ha184 (A_ ct184 st184) = true := z_piece (ct := ct184) (by kernel_rfl) pc184 (z_back (n := 2) (m := 0) (ct := ct185) (by kernel_rfl) th185)
theorem th182 : Z_ 388 fa182 q16 ha182 (A_ ct182 st182) = true := z_adm (n := 0) (m := 2) (ct := ct183) rfl (z_piece (ct := ct183) (by kernel_rfl) pc182 (z_back (n := 1) (m := 0) (ct := ct184) (by kernel_rfl) th184))
theorem th181 : Z_ 274 fa181 q17 ha181 (A_ ct181 st181) = true := z_piece (ct := ct181) (by kernel_rfl) pc181 (z_back (n := 2) (m := 0) (ct := ct182) (by kernel_rfl) th182)
theorem th179 : Z_ 274 fa179 q17 ha179 (A_ ct179 st179) = true := z_adm (n := 0) (m := 2) (ct := ct180) rfl (z_piece (ct := ct180) (by kernel_rfl) pc179 (z_back (n := 1) (m := 0) (ct := ct181) (by kernel_rfl) th181))
theorem th244 : Z_ 845 fa244 q12 ha244 (A_ ct244 st244) = true := by kernel_rfl
theorem th243 : Z_ 844 fa243 q12 ha243 (A_ ct243 st243) = true := z_piece (ct := ct243) (by kernel_rfl) pc243 (z_back (n := 0) (m := 0) (ct := ct244) (by kernel_rfl) th244)
theorem th241 : Z_ 844 fa241 q12 ha241 (A_ ct241 st241) = true := z_adm (n := 0) (m := 2) (ct := ct242) rfl (z_piece (ct := ct242) (by kernel_rfl) pc241 (z_back (n := 4) (m := 0) (ct := ct243) (by kernel_rfl) th243))
theorem th240 : Z_ 844 fa240 q12 ha240 (A_ ct240 st240) = true := z_piece (ct := ct240) (by kernel_rfl) pc240 (z_back (n := 2) (m := 0) (ct := ct241) (by kernel_rfl) th241)
theorem th238 : Z_ 844 fa238 q12 ha238 (A_ ct238 st238) = true := z_adm (n := 0) (m := 2) (ct := ct239) rfl (z_piece (ct := ct239) (by kernel_rfl) pc238 (z_back (n := 5) (m := 0) (ct := ct240) (by kernel_rfl) th240))
theorem th237 : Z_ 730 fa237 q13 ha237 (A_ ct237 st237) = true := z_piece (ct := ct237) (by kernel_rfl) pc237 (z_back (n := 2) (m := 0) (ct := ct238) (by kernel_rfl) th238)
theorem th235 : Z_ 730 fa235 q13 ha235 (A_ ct235 st235) = true := z_adm (n := 0) (m := 2) (ct := ct236) rfl (z_piece (ct := ct236) (by kernel_rfl) pc235 (z_back (n := 1) (m := 0) (ct := ct237) (by kernel_rfl) th237))
theorem th234 : Z_ 616 fa234 q14 ha234 (A_ ct234 st234) = true := z_piece (ct := ct234) (by kernel_rfl) pc234 (z_back (n := 2) (m := 0) (ct := ct235) (by kernel_rfl) th235)
theorem th232 : Z_ 616 fa232 q14 ha232 (A_ ct232 st232) = true := z_adm (n := 0) (m := 2) (ct := ct233) rfl (z_piece (ct := ct233) (by kernel_rfl) pc232 (z_back (n := 1) (m := 0) (ct := ct234) (by kernel_rfl) th234))
theorem th231 : Z_ 502 fa231 q15 ha231 (A_ ct231 st231) = true := z_piece (ct := ct231) (by kernel_rfl) pc231 (z_back (n := 2) (m := 0) (ct := ct232) (by kernel_rfl) th232)
theorem th229 : Z_ 502 fa229 q15 ha229 (A_ ct229 st229) = true := z_adm (n := 0) (m := 2) (ct := ct230) rfl (z_piece (ct := ct230) (by kernel_rfl) pc229 (z_back (n := 1) (m := 0) (ct := ct231) (by kernel_rfl) th231))
theorem th228 : Z_ 502 fa228 q15 ha228 (A_ ct228 st228) = true := z_adm (n := 2) (m := 0) (ct := ct229) (by kernel_rfl) th229
theorem th227 : Z_ 502 fa227 q15 ha227 (A_ ct227 st227) = true := z_adm (n := 1) (m := 0) (ct := ct228) (by kernel_rfl) th228
theorem th225 : Z_ 502 fa225 q15 ha225 (A_ ct225 st225) = true := z_adm (n := 0) (m := 2) (ct := ct226) rfl (z_piece (ct := ct226) (by kernel_rfl) pc225 (z_back (n := 1) (m := 0) (ct := ct227) (by kernel_rfl) th227))
theorem th224 : Z_ 502 fa224 q15 ha224 (A_ ct224 st224) = true := z_adm (n := 1) (m := 0) (ct := ct225) (by kernel_rfl) th225
theorem th223 : Z_ 502 fa223 q15 ha223 (A_ ct223 st223) = true := z_adm (n := 1) (m := 0) (ct := ct224) (by kernel_rfl) th224
theorem th221 : Z_ 502 fa221 q15 ha221 (A_ ct221 st221) = true := z_adm (n := 0) (m := 2) (ct := ct222) rfl (z_piece (ct := ct222) (by kernel_rfl) pc221 (z_back (n := 1) (m := 0) (ct := ct223) (by kernel_rfl) th223))
theorem th220 : Z_ 502 fa220 q15 ha220 (A_ ct220 st220) = true := z_piece (ct := ct220) (by kernel_rfl) pc220 (z_back (n := 2) (m := 0) (ct := ct221) (by kernel_rfl) th221)
theorem th218 : Z_ 502 fa218 q15 ha218 (A_ ct218 st218) = true := z_adm (n := 0) (m := 2) (ct := ct219) rfl (z_piece (ct := ct219) (by kernel_rfl) pc218 (z_back (n := 5) (m := 0) (ct := ct220) (by kernel_rfl) th220))
theorem th217 : Z_ 388 fa217 q16 ha217 (A_ ct217 st217) = true := z_piece (ct := ct217) (by kernel_rfl) pc217 (z_back (n := 2) (m := 0) (ct := ct218) (by kernel_rfl) th218)
theorem th215 : Z_ 388 fa215 q16 ha215 (A_ ct215 st215) = true := z_adm (n := 0) (m := 2) (ct := ct216) rfl (z_piece (ct := ct216) (by kernel_rfl) pc215 (z_back (n := 1) (m := 0) (ct := ct217) (by kernel_rfl) th217))
theorem th214 : Z_ 274 fa214 q17 ha214 (A_ ct214 st214) = true := z_piece (ct := ct214) (by kernel_rfl) pc214 (z_back (n := 2) (m := 0) (ct := ct215) (by kernel_rfl) th215)
theorem th212 : Z_ 274 fa212 q17 ha212 (A_ ct212 st212) = true := z_adm (n := 0) (m := 2) (ct := ct213) rfl (z_piece (ct := ct213) (by kernel_rfl) pc212 (z_back (n := 1) (m := 0) (ct := ct214) (by kernel_rfl) th214))
theorem th178 : Z_ 160 fa178 [] ha178 (A_ ct178 st178) = true := z_piece (ct := ct178) (by kernel_rfl) pc178 (and_t (z_back (n := 2) (m := 0) (ct := ct179) (by kernel_rfl) th179) (z_back (n := 2) (m := 0) (ct := ct212) (by kernel_rfl) th212))
theorem th176 : Z_ 160 fa176 [] ha176 (A_ ct176 st176) = true := z_adm (n := 0) (m := 2) (ct := ct177) rfl (z_piece (ct := ct177) (by kernel_rfl) pc176 (z_back (n := 1) (m := 0) (ct := ct178) (by kernel_rfl) th178))
theorem th175 : Z_ 160 fa175 [] ha175 (A_ ct175 st175) = true := z_adm (n := 2) (m := 0) (ct := ct176) (by kernel_rfl) th176
theorem th174 : Z_ 160 fa174 [] ha174 (A_ ct174 st174) = true := z_adm (n := 1) (m := 0) (ct := ct175) (by kernel_rfl) th175
theorem th172 : Z_ 160 fa172 [] ha172 (A_ ct172 st172) = true := z_adm (n := 0) (m := 2) (ct := ct173) rfl (z_piece (ct := ct173) (by kernel_rfl) pc172 (z_back (n := 1) (m := 0) (ct := ct174) (by kernel_rfl) th174))
theorem th171 : Z_ 160 fa171 [] ha171 (A_ ct171 st171) = true := z_adm (n := 1) (m := 0) (ct := ct172) (by kernel_rfl) th172
theorem th170 : Z_ 160 fa170 [] ha170 (A_ ct170 st170) = true := z_adm (n := 1) (m := 0) (ct := ct171) (by kernel_rfl) th171
theorem th168 : Z_ 160 fa168 [] ha168 (A_ ct168 st168) = true := z_adm (n := 0) (m := 2) (ct := ct169) rfl (z_piece (ct := ct169) (by kernel_rfl) pc168 (z_back (n := 1) (m := 0) (ct := ct170) (by kernel_rfl) th170))
theorem th167 : Z_ 160 fa167 [] ha167 (A_ ct167 st167) = true := z_adm (n := 2) (m := 0) (ct := ct168) (by kernel_rfl) th168
theorem th166 : Z_ 160 fa166 [] ha166 (A_ ct166 st166) = true := z_adm (n := 1) (m := 0) (ct := ct167) (by kernel_rfl) th167
theorem th290 : Z_ 845 fa290 q12 ha290 (A_ ct290 st290) = true := by kernel_rfl
theorem th289 : Z_ 844 fa289 q12 ha289 (A_ ct289 st289) = true := z_piece (ct := ct289) (by kernel_rfl) pc289 (z_back (n := 0) (m := 0) (ct := ct290) (by kernel_rfl) th290)
theorem th287 : Z_ 844 fa287 q12 ha287 (A_ ct287 st287) = true := z_adm (n := 0) (m := 2) (ct := ct288) rfl (z_piece (ct := ct288) (by kernel_rfl) pc287 (z_back (n := 4) (m := 0) (ct := ct289) (by kernel_rfl) th289))
theorem th286 : Z_ 844 fa286 q12 ha286 (A_ ct286 st286) = true := z_piece (ct := ct286) (by kernel_rfl) pc286 (z_back (n := 2) (m := 0) (ct := ct287) (by kernel_rfl) th287)
theorem th284 : Z_ 844 fa284 q12 ha284 (A_ ct284 st284) = true := z_adm (n := 0) (m := 2) (ct := ct285) rfl (z_piece (ct := ct285) (by kernel_rfl) pc284 (z_back (n := 5) (m := 0) (ct := ct286) (by kernel_rfl) th286))
theorem th283 : Z_ 730 fa283 q13 ha283 (A_ ct283 st283) = true := z_piece (ct := ct283) (by kernel_rfl) pc283 (z_back (n := 2) (m := 0) (ct := ct284) (by kernel_rfl) th284)
theorem th281 : Z_ 730 fa281 q13 ha281 (A_ ct281 st281) = true := z_adm (n := 0) (m := 2) (ct := ct282) rfl (z_piece (ct := ct282) (by kernel_rfl) pc281 (z_back (n := 1) (m := 0) (ct := ct283) (by kernel_rfl) th283))
theorem th280 : Z_ 616 fa280 q14 ha280 (A_ ct280 st280) = true := z_piece (ct := ct280) (by kernel_rfl) pc280 (z_back (n := 2) (m := 0) (ct := ct281) (by kernel_rfl) th281)
theorem th278 : Z_ 616 fa278 q14 ha278 (A_ ct278 st278) = true := z_adm (n := 0) (m := 2) (ct := ct279) rfl (z_piece (ct := ct279) (by kernel_rfl) pc278 (z_back (n := 1) (m := 0) (ct := ct280) (by kernel_rfl) th280))
theorem th277 : Z_ 502 fa277 q15 ha277 (A_ ct277 st277) = true := z_piece (ct := ct277) (by kernel_rfl) pc277 (z_back (n := 2) (m := 0) (ct := ct278) (by kernel_rfl) th278)
theorem th275 : Z_ 502 fa275 q15 ha275 (A_ ct275 st275) = true := z_adm (n := 0) (m := 2) (ct := ct276) rfl (z_piece (ct := ct276) (by kernel_rfl) pc275 (z_back (n := 1) (m := 0) (ct := ct277) (by kernel_rfl) th277))
theorem th274 : Z_ 502 fa274 q15 ha274 (A_ ct274 st274) = true := z_adm (n := 2) (m := 0) (ct := ct275) (by kernel_rfl) th275
theorem th273 : Z_ 502 fa273 q15 ha273 (A_ ct273 st273) = true := z_adm (n := 1) (m := 0) (ct := ct274) (by kernel_rfl) th274
theorem th271 : Z_ 502 fa271 q15 ha271 (A_ ct271 st271) = true := z_adm (n := 0) (m := 2) (ct := ct272) rfl (z_piece (ct := ct272) (by kernel_rfl) pc271 (z_back (n := 1) (m := 0) (ct := ct273) (by kernel_rfl) th273))
theorem th270 : Z_ 502 fa270 q15 ha270 (A_ ct270 st270) = true := z_adm (n := 1) (m := 0) (ct := ct271) (by kernel_rfl) th271
theorem th269 : Z_ 502 fa269 q15 ha269 (A_ ct269 st269) = true := z_adm (n := 1) (m := 0) (ct := ct270) (by kernel_rfl) th270
theorem th267 : Z_ 502 fa267 q15 ha267 (A_ ct267 st267) = true := z_adm (n := 0) (m := 2) (ct := ct268) rfl (z_piece (ct := ct268) (by kernel_rfl) pc267 (z_back (n := 1) (m := 0) (ct := ct269) (by kernel_rfl) th269))
theorem th266 : Z_ 502 fa266 q15 ha266 (A_ ct266 st266) = true := z_piece (ct := ct266) (by kernel_rfl) pc266 (z_back (n := 2) (m := 0) (ct := ct267) (by kernel_rfl) th267)
theorem th264 : Z_ 502 fa264 q15 ha264 (A_ ct264 st264) = true := z_adm (n := 0) (m := 2) (ct := ct265) rfl (z_piece (ct := ct265) (by kernel_rfl) pc264 (z_back (n := 5) (m := 0) (ct := ct266) (by kernel_rfl) th266))
theorem th263 : Z_ 388 fa263 q16 ha263 (A_ ct263 st263) = true := z_piece (ct := ct263) (by kernel_rfl) pc263 (z_back (n := 2) (m := 0) (ct := ct264) (by kernel_rfl) th264)
theorem th261 : Z_ 388 fa261 q16 ha261 (A_ ct261 st261) = true := z_adm (n := 0) (m := 2) (ct := ct262) rfl (z_piece (ct := ct262) (by kernel_rfl) pc261 (z_back (n := 1) (m := 0) (ct := ct263) (by kernel_rfl) th263))
theorem th260 : Z_ 274 fa260 q17 ha260 (A_ ct260 st260) = true := z_piece (ct := ct260) (by kernel_rfl) pc260 (z_back (n := 2) (m := 0) (ct := ct261) (by kernel_rfl) th261)
theorem th258 : Z_ 274 fa258 q17 ha258 (A_ ct258 st258) = true := z_adm (n := 0) (m := 2) (ct := ct259) rfl (z_piece (ct := ct259) (by kernel_rfl) pc258 (z_back (n := 1) (m := 0) (ct := ct260) (by kernel_rfl) th260))
theorem th323 : Z_ 845 fa323 q12 ha323 (A_ ct323 st323) = true := by kernel_rfl
theorem th322 : Z_ 844 fa322 q12 ha322 (A_ ct322 st322) = true := z_piece (ct := ct322) (by kernel_rfl) pc322 (z_back (n := 0) (m := 0) (ct := ct323) (by kernel_rfl) th323)
theorem th320 : Z_ 844 fa320 q12 ha320 (A_ ct320 st320) = true := z_adm (n := 0) (m := 2) (ct := ct321) rfl (z_piece (ct := ct321) (by kernel_rfl) pc320 (z_back (n := 4) (m := 0) (ct := ct322) (by kernel_rfl) th322))
theorem th319 : Z_ 844 fa319 q12 ha319 (A_ ct319 st319) = true := z_piece (ct := ct319) (by kernel_rfl) pc319 (z_back (n := 2) (m := 0) (ct := ct320) (by kernel_rfl) th320)
theorem th317 : Z_ 844 fa317 q12 ha317 (A_ ct317 st317) = true := z_adm (n := 0) (m := 2) (ct := ct318) rfl (z_piece (ct := ct318) (by kernel_rfl) pc317 (z_back (n := 5) (m := 0) (ct := ct319) (by kernel_rfl) th319))
theorem th316 : Z_ 730 fa316 q13 ha316 (A_ ct316 st316) = true := z_piece (ct := ct316) (by kernel_rfl) pc316 (z_back (n := 2) (m := 0) (ct := ct317) (by kernel_rfl) th317)
theorem th314 : Z_ 730 fa314 q13 ha314 (A_ ct314 st314) = true := z_adm (n := 0) (m := 2) (ct := ct315) rfl (z_piece (ct := ct315) (by kernel_rfl) pc314 (z_back (n := 1) (m := 0) (ct := ct316) (by kernel_rfl) th316))
theorem th313 : Z_ 616 fa313 q14 ha313 (A_ ct313 st313) = true := z_piece (ct := ct313) (by kernel_rfl) pc313 (z_back (n := 2) (m := 0) (ct := ct314) (by kernel_rfl) th314)
theorem th311 : Z_ 616 fa311 q14 ha311 (A_ ct311 st311) = true := z_adm (n := 0) (m := 2) (ct := ct312) rfl (z_piece (ct := ct312) (by kernel_rfl) pc311 (z_back (n := 1) (m := 0) (ct := ct313) (by kernel_rfl) th313))
theorem th310 : Z_ 502 fa310 q15 ha310 (A_ ct310 st310) = true := z_piece (ct := ct310) (by kernel_rfl) pc310 (z_back (n := 2) (m := 0) (ct := ct311) (by kernel_rfl) th311)
theorem th308 : Z_ 502 fa308 q15 ha308 (A_ ct308 st308) = true := z_adm (n := 0) (m := 2) (ct := ct309) rfl (z_piece (ct := ct309) (by kernel_rfl) pc308 (z_back (n := 1) (m := 0) (ct := ct310) (by kernel_rfl) th310))
theorem th307 : Z_ 502 fa307 q15 ha307 (A_ ct307 st307) = true := z_adm (n := 2) (m := 0) (ct := ct308) (by kernel_rfl) th308
theorem th306 : Z_ 502 fa306 q15 ha306 (A_ ct306 st306) = true := z_adm (n := 1) (m := 0) (ct := ct307) (by kernel_rfl) th307
theorem th304 : Z_ 502 fa304 q15 ha304 (A_ ct304 st304) = true := z_adm (n := 0) (m := 2) (ct := ct305) rfl (z_piece (ct := ct305) (by kernel_rfl) pc304 (z_back (n := 1) (m := 0) (ct := ct306) (by kernel_rfl) th306))
theorem th303 : Z_ 502 fa303 q15 ha303 (A_ ct303 st303) = true := z_adm (n := 1) (m := 0) (ct := ct304) (by kernel_rfl) th304
theorem th302 : Z_ 502 fa302 q15 ha302 (A_ ct302 st302) = true := z_adm (n := 1) (m := 0) (ct := ct303) (by kernel_rfl) th303
theorem th300 : Z_ 502 fa300 q15 ha300 (A_ ct300 st300) = true := z_adm (n := 0) (m := 2) (ct := ct301) rfl (z_piece (ct := ct301) (by kernel_rfl) pc300 (z_back (n := 1) (m := 0) (ct := ct302) (by kernel_rfl) th302))
theorem th299 : Z_ 502 fa299 q15 ha299 (A_ ct299 st299) = true := z_piece (ct := ct299) (by kernel_rfl) pc299 (z_back (n := 2) (m := 0) (ct := ct300) (by kernel_rfl) th300)
theorem th297 : Z_ 502 fa297 q15 ha297 (A_ ct297 st297) = true := z_adm (n := 0) (m := 2) (ct := ct298) rfl (z_piece (ct := ct298) (by kernel_rfl) pc297 (z_back (n := 5) (m := 0) (ct := ct299) (by kernel_rfl) th299))
theorem th296 : Z_ 388 fa296 q16 ha296 (A_ ct296 st296) = true := z_piece (ct := ct296) (by kernel_rfl) pc296 (z_back (n := 2) (m := 0) (ct := ct297) (by kernel_rfl) th297)
theorem th294 : Z_ 388 fa294 q16 ha294 (A_ ct294 st294) = true := z_adm (n := 0) (m := 2) (ct := ct295) rfl (z_piece (ct := ct295) (by kernel_rfl) pc294 (z_back (n := 1) (m := 0) (ct := ct296) (by kernel_rfl) th296))
theorem th293 : Z_ 274 fa293 q17 ha293 (A_ ct293 st293) = true := z_piece (ct := ct293) (by kernel_rfl) pc293 (z_back (n := 2) (m := 0) (ct := ct294) (by kernel_rfl) th294)
theorem th291 : Z_ 274 fa291 q17 ha291 (A_ ct291 st291) = true := z_adm (n := 0) (m := 2) (ct := ct292) rfl (z_piece (ct := ct292) (by kernel_rfl) pc291 (z_back (n := 1) (m := 0) (ct := ct293) (by kernel_rfl) th293))
theorem th257 : Z_ 160 fa257 [] ha257 (A_ ct257 st257) = true := z_piece (ct := ct257) (by kernel_rfl) pc257 (and_t (z_back (n := 2) (m := 0) (ct := ct258) (by kernel_rfl) th258) (z_back (n := 2) (m := 0) (ct := ct291) (by kernel_rfl) th291))
theorem th255 : Z_ 160 fa255 [] ha255 (A_ ct255 st255) = true := z_adm (n := 0) (m := 2) (ct := ct256) rfl (z_piece (ct := ct256) (by kernel_rfl) pc255 (z_back (n := 1) (m := 0) (ct := ct257) (by kernel_rfl) th257))
theorem th254 : Z_ 160 fa254 [] ha254 (A_ ct254 st254) = true := z_adm (n := 2) (m := 0) (ct := ct255) (by kernel_rfl) th255
theorem th253 : Z_ 160 fa253 [] ha253 (A_ ct253 st253) = true := z_adm (n := 1) (m := 0) (ct := ct254) (by kernel_rfl) th254
theorem th251 : Z_ 160 fa251 [] ha251 (A_ ct251 st251) = true := z_adm (n := 0) (m := 2) (ct := ct252) rfl (z_piece (ct := ct252) (by kernel_rfl) pc251 (z_back (n := 1) (m := 0) (ct := ct253) (by kernel_rfl) th253))
theorem th250 : Z_ 160 fa250 [] ha250 (A_ ct250 st250) = true := z_adm (n := 1) (m := 0) (ct := ct251) (by kernel_rfl) th251
theorem th249 : Z_ 160 fa249 [] ha249 (A_ ct249 st249) = true := z_adm (n := 1) (m := 0) (ct := ct250) (by kernel_rfl) th250
theorem th247 : Z_ 160 fa247 [] ha247 (A_ ct247 st247) = true := z_adm (n := 0) (m := 2) (ct := ct248) rfl (z_piece (ct := ct248) (by kernel_rfl) pc247 (z_back (n := 1) (m := 0) (ct := ct249) (by kernel_rfl) th249))
theorem th246 : Z_ 160 fa246 [] ha246 (A_ ct246 st246) = true := z_adm (n := 2) (m := 0) (ct := ct247) (by kernel_rfl) th247
theorem th245 : Z_ 160 fa245 [] ha245 (A_ ct245 st245) = true := z_adm (n := 1) (m := 0) (ct := ct246) (by kernel_rfl) th246
theorem th369 : Z_ 847 fa369 q18 ha369 (A_ ct369 st369) = true := by kernel_rfl
theorem th368 : Z_ 846 fa368 q18 ha368 (A_ ct368 st368) = true := z_piece (ct := ct368) (by kernel_rfl) pc368 (z_back (n := 0) (m := 0) (ct := ct369) (by kernel_rfl) th369)
theorem th366 : Z_ 846 fa366 q18 ha366 (A_ ct366 st366) = true := z_adm (n := 0) (m := 2) (ct := ct367) rfl (z_piece (ct := ct367) (by kernel_rfl) pc366 (z_back (n := 4) (m := 0) (ct := ct368) (by kernel_rfl) th368))
theorem th365 : Z_ 846 fa365 q18 ha365 (A_ ct365 st365) = true := z_piece (ct := ct365) (by kernel_rfl) pc365 (z_back (n := 2) (m := 0) (ct := ct366) (by kernel_rfl) th366)
theorem th363 : Z_ 846 fa363 q18 ha363 (A_ ct363 st363) = true := z_adm (n := 0) (m := 2) (ct := ct364) rfl (z_piece (ct := ct364) (by kernel_rfl) pc363 (z_back (n := 5) (m := 0) (ct := ct365) (by kernel_rfl) th365))
theorem th362 : Z_ 732 fa362 q19 ha362 (A_ ct362 st362) = true := z_piece (ct := ct362) (by kernel_rfl) pc362 (z_back (n := 2) (m := 0) (ct := ct363) (by kernel_rfl) th363)
theorem th360 : Z_ 732 fa360 q19 ha360 (A_ ct360 st360) = true := z_adm (n := 0) (m := 2) (ct := ct361) rfl (z_piece (ct := ct361) (by kernel_rfl) pc360 (z_back (n := 1) (m := 0) (ct := ct362) (by kernel_rfl) th362))
theorem th359 : Z_ 618 fa359 q20 ha359 (A_ ct359 st359) = true := z_piece (ct := ct359) (by kernel_rfl) pc359 (z_back (n := 2) (m := 0) (ct := ct360) (by kernel_rfl) th360)
theorem th357 : Z_ 618 fa357 q20 ha357 (A_ ct357 st357) = true := z_adm (n := 0) (m := 2) (ct := ct358) rfl (z_piece (ct := ct358) (by kernel_rfl) pc357 (z_back (n := 1) (m := 0) (ct := ct359) (by kernel_rfl) th359))
theorem th356 : Z_ 504 fa356 q21 ha356 (A_ ct356 st356) = true := z_piece (ct := ct356) (by kernel_rfl) pc356 (z_back (n := 2) (m := 0) (ct := ct357) (by kernel_rfl) th357)
theorem th354 : Z_ 504 fa354 q21 ha354 (A_ ct354 st354) = true := z_adm (n := 0) (m := 2) (ct := ct355) rfl (z_piece (ct := ct355) (by kernel_rfl) pc354 (z_back (n := 1) (m := 0) (ct := ct356) (by kernel_rfl) th356))
theorem th353 : Z_ 504 fa353 q21 ha353 (A_ ct353 st353) = true := z_adm (n := 2) (m := 0) (ct := ct354) (by kernel_rfl) th354
theorem th352 : Z_ 504 fa352 q21 ha352 (A_ ct352 st352) = true := z_adm (n := 1) (m := 0) (ct := ct353) (by kernel_rfl) th353
theorem th350 : Z_ 504 fa350 q21 ha350 (A_ ct350 st350) = true := z_adm (n := 0) (m := 2) (ct := ct351) rfl (z_piece (ct := ct351) (by kernel_rfl) pc350 (z_back (n := 1) (m := 0) (ct := ct352) (by kernel_rfl) th352))
theorem th349 : Z_ 504 fa349 q21 ha349 (A_ ct349 st349) = true := z_adm (n := 1) (m := 0) (ct := ct350) (by kernel_rfl) th350
theorem th348 : Z_ 504 fa348 q21 ha348 (A_ ct348 st348) = true := z_adm (n := 1) (m := 0) (ct := ct349) (by kernel_rfl) th349
theorem th346 : Z_ 504 fa346 q21 ha346 (A_ ct346 st346) = true := z_adm (n := 0) (m := 2) (ct := ct347) rfl (z_piece (ct := ct347) (by kernel_rfl) pc346 (z_back (n := 1) (m := 0) (ct := ct348) (by kernel_rfl) th348))
theorem th345 : Z_ 504 fa345 q21 ha345 (A_ ct345 st345) = true := z_piece (ct := ct345) (by kernel_rfl) pc345 (z_back (n := 2) (m := 0) (ct := ct346) (by kernel_rfl) th346)
theorem th343 : Z_ 504 fa343 q21 ha343 (A_ ct343 st343) = true := z_adm (n := 0) (m := 2) (ct := ct344) rfl (z_piece (ct := ct344) (by kernel_rfl) pc343 (z_back (n := 5) (m := 0) (ct := ct345) (by kernel_rfl) th345))
theorem th342 : Z_ 390 fa342 q22 ha342 (A_ ct342 st342) = true := z_piece (ct := ct342) (by kernel_rfl) pc342 (z_back (n := 2) (m := 0) (ct := ct343) (by kernel_rfl) th343)
theorem th340 : Z_ 390 fa340 q22 ha340 (A_ ct340 st340) = true := z_adm (n := 0) (m := 2) (ct := ct341) rfl (z_piece (ct := ct341) (by kernel_rfl) pc340 (z_back (n := 1) (m := 0) (ct := ct342) (by kernel_rfl) th342))
theorem th339 : Z_ 276 fa339 q23 ha339 (A_ ct339 st339) = true := z_piece (ct := ct339) (by kernel_rfl) pc339 (z_back (n := 2) (m := 0) (ct := ct340) (by kernel_rfl) th340)
theorem th337 : Z_ 276 fa337 q23 ha337 (A_ ct337 st337) = true := z_adm (n := 0) (m := 2) (ct := ct338) rfl (z_piece (ct := ct338) (by kernel_rfl) pc337 (z_back (n := 1) (m := 0) (ct := ct339) (by kernel_rfl) th339))
theorem th402 : Z_ 847 fa402 q18 ha402 (A_ ct402 st402) = true := by kernel_rfl
theorem th401 : Z_ 846 fa401 q18 ha401 (A_ ct401 st401) = true := z_piece (ct := ct401) (by kernel_rfl) pc401 (z_back (n := 0) (m := 0) (ct := ct402) (by kernel_rfl) th402)
theorem th399 : Z_ 846 fa399 q18 ha399 (A_ ct399 st399) = true := z_adm (n := 0) (m := 2) (ct := ct400) rfl (z_piece (ct := ct400) (by kernel_rfl) pc399 (z_back (n := 4) (m := 0) (ct := ct401) (by kernel_rfl) th401))
theorem th398 : Z_ 846 fa398 q18 ha398 (A_ ct398 st398) = true := z_piece (ct := ct398) (by kernel_rfl) pc398 (z_back (n := 2) (m := 0) (ct := ct399) (by kernel_rfl) th399)
theorem th396 : Z_ 846 fa396 q18 ha396 (A_ ct396 st396) = true := z_adm (n := 0) (m := 2) (ct := ct397) rfl (z_piece (ct := ct397) (by kernel_rfl) pc396 (z_back (n := 5) (m := 0) (ct := ct398) (by kernel_rfl) th398))
theorem th395 : Z_ 732 fa395 q19 ha395 (A_ ct395 st395) = true := z_piece (ct := ct395) (by kernel_rfl) pc395 (z_back (n := 2) (m := 0) (ct := ct396) (by kernel_rfl) th396)
theorem th393 : Z_ 732 fa393 q19 ha393 (A_ ct393 st393) = true := z_adm (n := 0) (m := 2) (ct := ct394) rfl (z_piece (ct := ct394) (by kernel_rfl) pc393 (z_back (n := 1) (m := 0) (ct := ct395) (by kernel_rfl) th395))
theorem th392 : Z_ 618 fa392 q20 ha392 (A_ ct392 st392) = true := z_piece (ct := ct392) (by kernel_rfl) pc392 (z_back (n := 2) (m := 0) (ct := ct393) (by kernel_rfl) th393)
theorem th390 : Z_ 618 fa390 q20 ha390 (A_ ct390 st390) = true := z_adm (n := 0) (m := 2) (ct := ct391) rfl (z_piece (ct := ct391) (by kernel_rfl) pc390 (z_back (n := 1) (m := 0) (ct := ct392) (by kernel_rfl) th392))
theorem th389 : Z_ 504 fa389 q21 ha389 (A_ ct389 st389) = true := z_piece (ct := ct389) (by kernel_rfl) pc389 (z_back (n := 2) (m := 0) (ct := ct390) (by kernel_rfl) th390)
theorem th387 : Z_ 504 fa387 q21 ha387 (A_ ct387 st387) = true := z_adm (n := 0) (m := 2) (ct := ct388) rfl (z_piece (ct := ct388) (by kernel_rfl) pc387 (z_back (n := 1) (m := 0) (ct := ct389) (by kernel_rfl) th389))
theorem th386 : Z_ 504 fa386 q21 ha386 (A_ ct386 st386) = true := z_adm (n := 2) (m := 0) (ct := ct387) (by kernel_rfl) th387
theorem th385 : Z_ 504 fa385 q21 ha385 (A_ ct385 st385) = true := z_adm (n := 1) (m := 0) (ct := ct386) (by kernel_rfl) th386
theorem th383 : Z_ 504 fa383 q21 ha383 (A_ ct383 st383) = true := z_adm (n := 0) (m := 2) (ct := ct384) rfl (z_piece (ct := ct384) (by kernel_rfl) pc383 (z_back (n := 1) (m := 0) (ct := ct385) (by kernel_rfl) th385))
theorem th382 : Z_ 504 fa382 q21 ha382 (A_ ct382 st382) = true := z_adm (n := 1) (m := 0) (ct := ct383) (by kernel_rfl) th383
theorem th381 : Z_ 504 fa381 q21 ha381 (A_ ct381 st381) = true := z_adm (n := 1) (m := 0) (ct := ct382) (by kernel_rfl) th382
theorem th379 : Z_ 504 fa379 q21 ha379 (A_ ct379 st379) = true := z_adm (n := 0) (m := 2) (ct := ct380) rfl (z_piece (ct := ct380) (by kernel_rfl) pc379 (z_back (n := 1) (m := 0) (ct := ct381) (by kernel_rfl) th381))
theorem th378 : Z_ 504 fa378 q21 ha378 (A_ ct378 st378) = true := z_piece (ct := ct378) (by kernel_rfl) pc378 (z_back (n := 2) (m := 0) (ct := ct379) (by kernel_rfl) th379)
theorem th376 : Z_ 504 fa376 q21 ha376 (A_ ct376 st376) = true := z_adm (n := 0) (m := 2) (ct := ct377) rfl (z_piece (ct := ct377) (by kernel_rfl) pc376 (z_back (n := 5) (m := 0) (ct := ct378) (by kernel_rfl) th378))
theorem th375 : Z_ 390 fa375 q22 ha375 (A_ ct375 st375) = true := z_piece (ct := ct375) (by kernel_rfl) pc375 (z_back (n := 2) (m := 0) (ct := ct376) (by kernel_rfl) th376)
theorem th373 : Z_ 390 fa373 q22 ha373 (A_ ct373 st373) = true := z_adm (n := 0) (m := 2) (ct := ct374) rfl (z_piece (ct := ct374) (by kernel_rfl) pc373 (z_back (n := 1) (m := 0) (ct := ct375) (by kernel_rfl) th375))
theorem th372 : Z_ 276 fa372 q23 ha372 (A_ ct372 st372) = true := z_piece (ct := ct372) (by kernel_rfl) pc372 (z_back (n := 2) (m := 0) (ct := ct373) (by kernel_rfl) th373)
theorem th370 : Z_ 276 fa370 q23 ha370 (A_ ct370 st370) = true := z_adm (n := 0) (m := 2) (ct := ct371) rfl (z_piece (ct := ct371) (by kernel_rfl) pc370 (z_back (n := 1) (m := 0) (ct := ct372) (by kernel_rfl) th372))
theorem th336 : Z_ 162 fa336 [] ha336 (A_ ct336 st336) = true := z_piece (ct := ct336) (by kernel_rfl) pc336 (and_t (z_back (n := 2) (m := 0) (ct := ct337) (by kernel_rfl) th337) (z_back (n := 2) (m := 0) (ct := ct370) (by kernel_rfl) th370))
theorem th334 : Z_ 162 fa334 [] ha334 (A_ ct334 st334) = true := z_adm (n := 0) (m := 2) (ct := ct335) rfl (z_piece (ct := ct335) (by kernel_rfl) pc334 (z_back (n := 1) (m := 0) (ct := ct336) (by kernel_rfl) th336))
theorem th333 : Z_ 162 fa333 [] ha333 (A_ ct333 st333) = true := z_adm (n := 2) (m := 0) (ct := ct334) (by kernel_rfl) th334
theorem th332 : Z_ 162 fa332 [] ha332 (A_ ct332 st332) = true := z_adm (n := 1) (m := 0) (ct := ct333) (by kernel_rfl) th333
theorem th330 : Z_ 162 fa330 [] ha330 (A_ ct330 st330) = true := z_adm (n := 0) (m := 2) (ct := ct331) rfl (z_piece (ct := ct331) (by kernel_rfl) pc330 (z_back (n := 1) (m := 0) (ct := ct332) (by kernel_rfl) th332))
theorem th329 : Z_ 162 fa329 [] ha329 (A_ ct329 st329) = true := z_adm (n := 1) (m := 0) (ct := ct330) (by kernel_rfl) th330
theorem th328 : Z_ 162 fa328 [] ha328 (A_ ct328 st328) = true := z_adm (n := 1) (m := 0) (ct := ct329) (by kernel_rfl) th329
theorem th326 : Z_ 162 fa326 [] ha326 (A_ ct326 st326) = true := z_adm (n := 0) (m := 2) (ct := ct327) rfl (z_piece (ct := ct327) (by kernel_rfl) pc326 (z_back (n := 1) (m := 0) (ct := ct328) (by kernel_rfl) th328))
theorem th325 : Z_ 162 fa325 [] ha325 (A_ ct325 st325) = true := z_adm (n := 2) (m := 0) (ct := ct326) (by kernel_rfl) th326
theorem th324 : Z_ 162 fa324 [] ha324 (A_ ct324 st324) = true := z_adm (n := 1) (m := 0) (ct := ct325) (by kernel_rfl) th325
theorem th6 : Z_ 156 fa6 [] ha6 (A_ ct6 st6) = true := z_adm (n := 0) (m := 1) (ct := ct7) rfl (z_piece (ct := ct7) (by kernel_rfl) pc6 (and_t (z_back (n := 1) (m := 0) (ct := ct8) (by kernel_rfl) th8) (and_t (z_back (n := 1) (m := 0) (ct := ct87) (by kernel_rfl) th87) (and_t (z_back (n := 1) (m := 0) (ct := ct166) (by kernel_rfl) th166) (and_t (z_back (n := 1) (m := 0) (ct := ct245) (by kernel_rfl) th245) (z_back (n := 1) (m := 0) (ct := ct324) (by kernel_rfl) th324))))))
theorem th5 : Z_ 156 fa5 [] ha5 (A_ ct5 st5) = true := z_adm (n := 1) (m := 0) (ct := ct6) (by kernel_rfl) th6
theorem th3 : Z_ 152 fa3 [] ha3 (A_ ct3 st3) = true := z_adm (n := 0) (m := 2) (ct := ct4) rfl (z_piece (ct := ct4) (by kernel_rfl) pc3 (z_back (n := 1) (m := 0) (ct := ct5) (by kernel_rfl) th5))
theorem th0 : Z_ 13 fa0 [] ha0 (A_ ct0 st0) = true := z_adm (n := 0) (m := 4) (ct := ct1) rfl (z_piece (ct := ct1) (by kernel_rfl) pc0 (and_t (z_back (n := 1) (m := 0) (ct := ct2) (by kernel_rfl) th2) (z_back (n := 1) (m := 0) (ct := ct3) (by kernel_rfl) th3)))
theorem root_chk : (clL (shsW SS + 2) (ltB ([] : Blks).length) (.sls 0 (.v 0) (.v 1) :: shsS SS 2) && clBs (shsW SS + 2) (ltB ([] : Blks).length) [] && clFx (shsW SS + 2) (rowFx (rngE 2 (ksRg (shsKs SS))))) = true := by kernel_rfl
theorem root_cl : clFx (shsW SS + 2) (rowFx (rngE 2 (ksRg (shsKs SS)))) = true := by kernel_rfl
theorem root_fn : LP.funcs[LG]? = some fn0 := by kernel_rfl
theorem root_body : fn0.body = some (fn0.body.getD .skip) := by kernel_rfl
theorem root_st : ({ t := (.sls 0 (.v 0) (.v 1) :: shsS SS 2) ++ List.replicate (fn0.ntmps - ((.sls 0 (.v 0) (.v 1) :: shsS SS 2) : List SV).length) .undef, b := [], fx := rowFx (rngE 2 (ksRg (shsKs SS))), n := shsW SS + 2, wd := [], cs := [] } : St) = st0 := by kernel_rfl
theorem root_fx : fa0 = rowFx (rngE 2 (ksRg (shsKs SS))) := by kernel_rfl
theorem root_at : chkT tws rgs (shsW SS + 2) (rowFx (rngE 2 (ksRg (shsKs SS)))) [] [] (at_ LP LC LF (evD LP LC LF LD) LG LK (.go (fn0.body.getD .skip) 0 []) st0) = true := root_fx ▸ th0
theorem zz : chkT tws rgs (shsW SS + 2) (rowFx (rngE 2 (ksRg (shsKs SS)))) [] [] (evFn Try.prog (rowCtxE (exL en46) [] hints) 60 12 6 (.sls 0 (.v 0) (.v 1) :: shsS SS 2) [] (rowFx (rngE 2 (ksRg (shsKs SS)))) (shsW SS + 2)) = true :=
  evFn_Z (Z := chkT tws rgs (shsW SS + 2) (rowFx (rngE 2 (ksRg (shsKs SS)))) [] []) (P := LP) (C := LC) (F := LF) (d := LD) (f := LG) (fn := fn0) root_chk root_fn root_body root_st root_at
theorem walk (a0 : Option Addr) (len0 cap0 : Nat) (z0 : List Int) (w : World) (w0 : IsRow .i64 w a0 len0 cap0 z0) (r : List Int) (hr : KsOK (shsKs SS) r) :
    Calls Try.prog 6 (.slice a0 len0 cap0 :: shsV SS r).toArray w fun e w' => e = .returned (.bool true) ∧ Below w.heap.size w w' :=
  row_lawZ w0 en46_con en46_kl zz root_cl (fun g hg hl => twins_ok hg hl) hr
end Go.Proofs.Ytnnnmdmniceenaa.vesselExact
