/- Parts of a walk. -/
import Derived.Test.YtnnnmdmniceenaaVExactD1
set_option linter.unusedSimpArgs false
set_option linter.unusedVariables false
set_option maxRecDepth 100000
namespace Go.Proofs.Ytnnnmdmniceenaa.vesselExact
open Go.RowKit Ev
theorem pc46 (K : X → St → T Leaf) : Z_ 741 fa46 q1 ha46 (B_ ct46 st46 K) =
(Z_ 855 fa47 q0 ha47 (K .normal st47)) := by kernel_rfl
theorem pc38 (K : X → St → T Leaf) : Z_ 513 fa38 q3 ha38 (B_ ct39 st38 K) =
(Z_ 513 fa40 q3 ha40 (K .normal st40)) := by kernel_rfl
theorem pc26 (K : X → St → T Leaf) : Z_ 399 fa26 q4 ha26 (B_ ct26 st26 K) =
(Z_ 513 fa27 q3 ha27 (K .normal st27)) := by kernel_rfl
theorem pc83 (K : X → St → T Leaf) : Z_ 855 fa83 q0 ha83 (B_ ct84 st83 K) =
(Z_ 855 fa85 q0 ha85 (K (.exit 0) st85)) := by kernel_rfl
theorem pc76 (K : X → St → T Leaf) : Z_ 627 fa76 q2 ha76 (B_ ct76 st76 K) =
(Z_ 741 fa77 q1 ha77 (K .normal st77)) := by kernel_rfl
theorem pc63 (K : X → St → T Leaf) : Z_ 513 fa63 q3 ha63 (B_ ct64 st63 K) =
(Z_ 513 fa65 q3 ha65 (K .normal st65)) := by kernel_rfl
theorem pc56 (K : X → St → T Leaf) : Z_ 285 fa56 q5 ha56 (B_ ct56 st56 K) =
(Z_ 399 fa57 q4 ha57 (K .normal st57)) := by kernel_rfl
theorem pc10 (K : X → St → T Leaf) : Z_ 171 fa10 [] ha10 (B_ ct11 st10 K) =
(Z_ 171 fa12 [] ha12 (K .normal st12)) := by kernel_rfl
theorem pc125 (K : X → St → T Leaf) : Z_ 743 fa125 q7 ha125 (B_ ct125 st125 K) =
(Z_ 857 fa126 q6 ha126 (K .normal st126)) := by kernel_rfl
theorem pc117 (K : X → St → T Leaf) : Z_ 515 fa117 q9 ha117 (B_ ct118 st117 K) =
(Z_ 515 fa119 q9 ha119 (K .normal st119)) := by kernel_rfl
theorem pc105 (K : X → St → T Leaf) : Z_ 401 fa105 q10 ha105 (B_ ct105 st105 K) =
(Z_ 515 fa106 q9 ha106 (K .normal st106)) := by kernel_rfl
theorem pc162 (K : X → St → T Leaf) : Z_ 857 fa162 q6 ha162 (B_ ct163 st162 K) =
(Z_ 857 fa164 q6 ha164 (K (.exit 0) st164)) := by kernel_rfl
theorem pc155 (K : X → St → T Leaf) : Z_ 629 fa155 q8 ha155 (B_ ct155 st155 K) =
(Z_ 743 fa156 q7 ha156 (K .normal st156)) := by kernel_rfl
theorem pc142 (K : X → St → T Leaf) : Z_ 515 fa142 q9 ha142 (B_ ct143 st142 K) =
(Z_ 515 fa144 q9 ha144 (K .normal st144)) := by kernel_rfl
theorem pc135 (K : X → St → T Leaf) : Z_ 287 fa135 q11 ha135 (B_ ct135 st135 K) =
(Z_ 401 fa136 q10 ha136 (K .normal st136)) := by kernel_rfl
theorem pc89 (K : X → St → T Leaf) : Z_ 173 fa89 [] ha89 (B_ ct90 st89 K) =
(Z_ 173 fa91 [] ha91 (K .normal st91)) := by kernel_rfl
theorem pc204 (K : X → St → T Leaf) : Z_ 730 fa204 q13 ha204 (B_ ct204 st204 K) =
(Z_ 844 fa205 q12 ha205 (K .normal st205)) := by kernel_rfl
theorem pc196 (K : X → St → T Leaf) : Z_ 502 fa196 q15 ha196 (B_ ct197 st196 K) =
(Z_ 502 fa198 q15 ha198 (K .normal st198)) := by kernel_rfl
theorem pc184 (K : X → St → T Leaf) : Z_ 388 fa184 q16 ha184 (B_ ct184 st184 K) =
(Z_ 502 fa185 q15 ha185 (K .normal st185)) := by kernel_rfl
theorem pc241 (K : X → St → T Leaf) : Z_ 844 fa241 q12 ha241 (B_ ct242 st241 K) =
(Z_ 844 fa243 q12 ha243 (K (.exit 0) st243)) := by kernel_rfl
theorem pc234 (K : X → St → T Leaf) : Z_ 616 fa234 q14 ha234 (B_ ct234 st234 K) =
(Z_ 730 fa235 q13 ha235 (K .normal st235)) := by kernel_rfl
theorem pc221 (K : X → St → T Leaf) : Z_ 502 fa221 q15 ha221 (B_ ct222 st221 K) =
(Z_ 502 fa223 q15 ha223 (K .normal st223)) := by kernel_rfl
theorem pc214 (K : X → St → T Leaf) : Z_ 274 fa214 q17 ha214 (B_ ct214 st214 K) =
(Z_ 388 fa215 q16 ha215 (K .normal st215)) := by kernel_rfl
theorem pc168 (K : X → St → T Leaf) : Z_ 160 fa168 [] ha168 (B_ ct169 st168 K) =
(Z_ 160 fa170 [] ha170 (K .normal st170)) := by kernel_rfl
theorem pc283 (K : X → St → T Leaf) : Z_ 730 fa283 q13 ha283 (B_ ct283 st283 K) =
(Z_ 844 fa284 q12 ha284 (K .normal st284)) := by kernel_rfl
theorem pc275 (K : X → St → T Leaf) : Z_ 502 fa275 q15 ha275 (B_ ct276 st275 K) =
(Z_ 502 fa277 q15 ha277 (K .normal st277)) := by kernel_rfl
theorem pc263 (K : X → St → T Leaf) : Z_ 388 fa263 q16 ha263 (B_ ct263 st263 K) =
(Z_ 502 fa264 q15 ha264 (K .normal st264)) := by kernel_rfl
theorem pc320 (K : X → St → T Leaf) : Z_ 844 fa320 q12 ha320 (B_ ct321 st320 K) =
(Z_ 844 fa322 q12 ha322 (K (.exit 0) st322)) := by kernel_rfl
theorem pc313 (K : X → St → T Leaf) : Z_ 616 fa313 q14 ha313 (B_ ct313 st313 K) =
(Z_ 730 fa314 q13 ha314 (K .normal st314)) := by kernel_rfl
theorem pc300 (K : X → St → T Leaf) : Z_ 502 fa300 q15 ha300 (B_ ct301 st300 K) =
(Z_ 502 fa302 q15 ha302 (K .normal st302)) := by kernel_rfl
theorem pc293 (K : X → St → T Leaf) : Z_ 274 fa293 q17 ha293 (B_ ct293 st293 K) =
(Z_ 388 fa294 q16 ha294 (K .normal st294)) := by kernel_rfl
theorem pc247 (K : X → St → T Leaf) : Z_ 160 fa247 [] ha247 (B_ ct248 st247 K) =
(Z_ 160 fa249 [] ha249 (K .normal st249)) := by kernel_rfl
theorem pc362 (K : X → St → T Leaf) : Z_ 732 fa362 q19 ha362 (B_ ct362 st362 K) =
(Z_ 846 fa363 q18 ha363 (K .normal st363)) := by kernel_rfl
theorem pc354 (K : X → St → T Leaf) : Z_ 504 fa354 q21 ha354 (B_ ct355 st354 K) =
(Z_ 504 fa356 q21 ha356 (K .normal st356)) := by kernel_rfl
theorem pc342 (K : X → St → T Leaf) : Z_ 390 fa342 q22 ha342 (B_ ct342 st342 K) =
(Z_ 504 fa343 q21 ha343 (K .normal st343)) := by kernel_rfl
theorem pc399 (K : X → St → T Leaf) : Z_ 846 fa399 q18 ha399 (B_ ct400 st399 K) =
(Z_ 846 fa401 q18 ha401 (K (.exit 0) st401)) := by kernel_rfl
theorem pc392 (K : X → St → T Leaf) : Z_ 618 fa392 q20 ha392 (B_ ct392 st392 K) =
(Z_ 732 fa393 q19 ha393 (K .normal st393)) := by kernel_rfl
theorem pc379 (K : X → St → T Leaf) : Z_ 504 fa379 q21 ha379 (B_ ct380 st379 K) =
(Z_ 504 fa381 q21 ha381 (K .normal st381)) := by kernel_rfl
theorem pc372 (K : X → St → T Leaf) : Z_ 276 fa372 q23 ha372 (B_ ct372 st372 K) =
(Z_ 390 fa373 q22 ha373 (K .normal st373)) := by kernel_rfl
theorem pc326 (K : X → St → T Leaf) : Z_ 162 fa326 [] ha326 (B_ ct327 st326 K) =
(Z_ 162 fa328 [] ha328 (K .normal st328)) := by kernel_rfl
end Go.Proofs.Ytnnnmdmniceenaa.vesselExact
