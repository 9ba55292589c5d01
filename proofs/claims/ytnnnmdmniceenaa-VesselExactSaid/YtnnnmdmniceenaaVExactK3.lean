/- Parts of a walk. -/
import Derived.Test.YtnnnmdmniceenaaVExactD1
set_option linter.unusedSimpArgs false
set_option linter.unusedVariables false
set_option maxRecDepth 100000
namespace Go.Proofs.Ytnnnmdmniceenaa.vesselExact
open Go.RowKit Ev
theorem pc47 (K : X → St → T Leaf) : Z_ 855 fa47 q0 ha47 (B_ ct48 st47 K) =
(Z_ 855 fa49 q0 ha49 (K (.exit 2) st49)) := by kernel_rfl
theorem pc40 (K : X → St → T Leaf) : Z_ 513 fa40 q3 ha40 (B_ ct40 st40 K) =
(Z_ 627 fa41 q2 ha41 (K .normal st41)) := by kernel_rfl
theorem pc27 (K : X → St → T Leaf) : Z_ 513 fa27 q3 ha27 (B_ ct28 st27 K) =
(Z_ 513 fa29 q3 ha29 (K (.exit 2) st29)) := by kernel_rfl
theorem pc85 (K : X → St → T Leaf) : Z_ 855 fa85 q0 ha85 (B_ ct85 st85 K) =
(Z_ 856 fa86 q0 ha86 (K .ret st86)) := by kernel_rfl
theorem pc77 (K : X → St → T Leaf) : Z_ 741 fa77 q1 ha77 (B_ ct78 st77 K) =
(Z_ 741 fa79 q1 ha79 (K .normal st79)) := by kernel_rfl
theorem pc67 (K : X → St → T Leaf) : Z_ 513 fa67 q3 ha67 (B_ ct68 st67 K) =
(Z_ 513 fa69 q3 ha69 (K .normal st69)) := by kernel_rfl
theorem pc57 (K : X → St → T Leaf) : Z_ 399 fa57 q4 ha57 (B_ ct58 st57 K) =
(Z_ 399 fa59 q4 ha59 (K .normal st59)) := by kernel_rfl
theorem pc14 (K : X → St → T Leaf) : Z_ 171 fa14 [] ha14 (B_ ct15 st14 K) =
(Z_ 171 fa16 [] ha16 (K .normal st16)) := by kernel_rfl
theorem pc126 (K : X → St → T Leaf) : Z_ 857 fa126 q6 ha126 (B_ ct127 st126 K) =
(Z_ 857 fa128 q6 ha128 (K (.exit 2) st128)) := by kernel_rfl
theorem pc119 (K : X → St → T Leaf) : Z_ 515 fa119 q9 ha119 (B_ ct119 st119 K) =
(Z_ 629 fa120 q8 ha120 (K .normal st120)) := by kernel_rfl
theorem pc106 (K : X → St → T Leaf) : Z_ 515 fa106 q9 ha106 (B_ ct107 st106 K) =
(Z_ 515 fa108 q9 ha108 (K (.exit 2) st108)) := by kernel_rfl
theorem pc164 (K : X → St → T Leaf) : Z_ 857 fa164 q6 ha164 (B_ ct164 st164 K) =
(Z_ 858 fa165 q6 ha165 (K .ret st165)) := by kernel_rfl
theorem pc156 (K : X → St → T Leaf) : Z_ 743 fa156 q7 ha156 (B_ ct157 st156 K) =
(Z_ 743 fa158 q7 ha158 (K .normal st158)) := by kernel_rfl
theorem pc146 (K : X → St → T Leaf) : Z_ 515 fa146 q9 ha146 (B_ ct147 st146 K) =
(Z_ 515 fa148 q9 ha148 (K .normal st148)) := by kernel_rfl
theorem pc136 (K : X → St → T Leaf) : Z_ 401 fa136 q10 ha136 (B_ ct137 st136 K) =
(Z_ 401 fa138 q10 ha138 (K .normal st138)) := by kernel_rfl
theorem pc93 (K : X → St → T Leaf) : Z_ 173 fa93 [] ha93 (B_ ct94 st93 K) =
(Z_ 173 fa95 [] ha95 (K .normal st95)) := by kernel_rfl
theorem pc205 (K : X → St → T Leaf) : Z_ 844 fa205 q12 ha205 (B_ ct206 st205 K) =
(Z_ 844 fa207 q12 ha207 (K (.exit 2) st207)) := by kernel_rfl
theorem pc198 (K : X → St → T Leaf) : Z_ 502 fa198 q15 ha198 (B_ ct198 st198 K) =
(Z_ 616 fa199 q14 ha199 (K .normal st199)) := by kernel_rfl
theorem pc185 (K : X → St → T Leaf) : Z_ 502 fa185 q15 ha185 (B_ ct186 st185 K) =
(Z_ 502 fa187 q15 ha187 (K (.exit 2) st187)) := by kernel_rfl
theorem pc243 (K : X → St → T Leaf) : Z_ 844 fa243 q12 ha243 (B_ ct243 st243 K) =
(Z_ 845 fa244 q12 ha244 (K .ret st244)) := by kernel_rfl
theorem pc235 (K : X → St → T Leaf) : Z_ 730 fa235 q13 ha235 (B_ ct236 st235 K) =
(Z_ 730 fa237 q13 ha237 (K .normal st237)) := by kernel_rfl
theorem pc225 (K : X → St → T Leaf) : Z_ 502 fa225 q15 ha225 (B_ ct226 st225 K) =
(Z_ 502 fa227 q15 ha227 (K .normal st227)) := by kernel_rfl
theorem pc215 (K : X → St → T Leaf) : Z_ 388 fa215 q16 ha215 (B_ ct216 st215 K) =
(Z_ 388 fa217 q16 ha217 (K .normal st217)) := by kernel_rfl
theorem pc172 (K : X → St → T Leaf) : Z_ 160 fa172 [] ha172 (B_ ct173 st172 K) =
(Z_ 160 fa174 [] ha174 (K .normal st174)) := by kernel_rfl
theorem pc284 (K : X → St → T Leaf) : Z_ 844 fa284 q12 ha284 (B_ ct285 st284 K) =
(Z_ 844 fa286 q12 ha286 (K (.exit 2) st286)) := by kernel_rfl
theorem pc277 (K : X → St → T Leaf) : Z_ 502 fa277 q15 ha277 (B_ ct277 st277 K) =
(Z_ 616 fa278 q14 ha278 (K .normal st278)) := by kernel_rfl
theorem pc264 (K : X → St → T Leaf) : Z_ 502 fa264 q15 ha264 (B_ ct265 st264 K) =
(Z_ 502 fa266 q15 ha266 (K (.exit 2) st266)) := by kernel_rfl
theorem pc322 (K : X → St → T Leaf) : Z_ 844 fa322 q12 ha322 (B_ ct322 st322 K) =
(Z_ 845 fa323 q12 ha323 (K .ret st323)) := by kernel_rfl
theorem pc314 (K : X → St → T Leaf) : Z_ 730 fa314 q13 ha314 (B_ ct315 st314 K) =
(Z_ 730 fa316 q13 ha316 (K .normal st316)) := by kernel_rfl
theorem pc304 (K : X → St → T Leaf) : Z_ 502 fa304 q15 ha304 (B_ ct305 st304 K) =
(Z_ 502 fa306 q15 ha306 (K .normal st306)) := by kernel_rfl
theorem pc294 (K : X → St → T Leaf) : Z_ 388 fa294 q16 ha294 (B_ ct295 st294 K) =
(Z_ 388 fa296 q16 ha296 (K .normal st296)) := by kernel_rfl
theorem pc251 (K : X → St → T Leaf) : Z_ 160 fa251 [] ha251 (B_ ct252 st251 K) =
(Z_ 160 fa253 [] ha253 (K .normal st253)) := by kernel_rfl
theorem pc363 (K : X → St → T Leaf) : Z_ 846 fa363 q18 ha363 (B_ ct364 st363 K) =
(Z_ 846 fa365 q18 ha365 (K (.exit 2) st365)) := by kernel_rfl
theorem pc356 (K : X → St → T Leaf) : Z_ 504 fa356 q21 ha356 (B_ ct356 st356 K) =
(Z_ 618 fa357 q20 ha357 (K .normal st357)) := by kernel_rfl
theorem pc343 (K : X → St → T Leaf) : Z_ 504 fa343 q21 ha343 (B_ ct344 st343 K) =
(Z_ 504 fa345 q21 ha345 (K (.exit 2) st345)) := by kernel_rfl
theorem pc401 (K : X → St → T Leaf) : Z_ 846 fa401 q18 ha401 (B_ ct401 st401 K) =
(Z_ 847 fa402 q18 ha402 (K .ret st402)) := by kernel_rfl
theorem pc393 (K : X → St → T Leaf) : Z_ 732 fa393 q19 ha393 (B_ ct394 st393 K) =
(Z_ 732 fa395 q19 ha395 (K .normal st395)) := by kernel_rfl
theorem pc383 (K : X → St → T Leaf) : Z_ 504 fa383 q21 ha383 (B_ ct384 st383 K) =
(Z_ 504 fa385 q21 ha385 (K .normal st385)) := by kernel_rfl
theorem pc373 (K : X → St → T Leaf) : Z_ 390 fa373 q22 ha373 (B_ ct374 st373 K) =
(Z_ 390 fa375 q22 ha375 (K .normal st375)) := by kernel_rfl
theorem pc330 (K : X → St → T Leaf) : Z_ 162 fa330 [] ha330 (B_ ct331 st330 K) =
(Z_ 162 fa332 [] ha332 (K .normal st332)) := by kernel_rfl
end Go.Proofs.Ytnnnmdmniceenaa.vesselExact
