/- Chapter 8: the table that a package variable holds when a call begins. -/
import Derived.Test.YtipanehdmhachaaGreatDoorRows
import Derived.Test.YtipanehdmhachaaGreatDoorKaC
import Derived.LaidMore
import Derived.OpenShut
import Derived.MakeChecks
import Derived.ChangeArms
import Derived.FnData
set_option linter.unusedSimpArgs false
set_option linter.unusedVariables false
set_option linter.unusedSectionVars false
namespace Go.Proofs.YtipanehdmhachaaGreatDoor.H
variable [DR]
def tabL : List Int := [0, 1, 56, 2, 57, 49, 28, 3, 61, 58, 42, 50, 38, 29, 17, 4, 62, 47, 59, 36, 45, 43, 51, 22, 53, 39, 33, 30, 24, 18, 12, 5, 63, 55, 48, 27, 60, 41, 37, 16, 46, 35, 44, 21, 52, 32, 23, 11, 54, 26, 40, 15, 34, 20, 31, 10, 25, 14, 19, 9, 13, 8, 7, 6]
theorem tbs_eq : tbs = [(1, tabL.map fun z : Int => Value.int .u8 z)] := rfl
theorem arr_cells {H : Type} {enc : TypeId × Value → H} {P : Program} {w : World} {base : Nat} {spare : Nat → Bool} {held : Bool} {m : Nat} {e : TypeId} {k : IntKind} {l : List Int} {cs : List Value} {xs : List (DataW H × List MemPlace)} (he : P.underlying e = some (.int k)) (hc : P.cellsOf e = 1)
    (hel : ∀ (i : Nat), i < l.length → DataW.trod enc P w base spare held m e ((cs.drop (i * P.cellsOf e)).take (P.cellsOf e)) = xs[i]?) (hx : xs.map (·.1) = l.map fun z => DataW.lit (.int k z)) : ∀ (i : Nat) (h : i < l.length), cs[i]? = some (.int k l[i]) := by
  intro i h
  have hlen : xs.length = l.length := by simpa using congrArg List.length hx
  have h1 := hel i h
  rw [hc, Nat.mul_one, List.getElem?_eq_getElem (by omega)] at h1
  obtain ⟨n, e1, e2, -⟩ := DataW.trod_int he h1
  have h2 : (xs.map (·.1))[i]? = some (DataW.lit (.int k l[i])) := by rw [hx]; simp [h]
  rw [List.getElem?_map, List.getElem?_eq_getElem (by omega), e2] at h2
  simp only [Option.map_some, Option.some.injEq, DataW.lit.injEq, Lit.int.injEq, true_and] at h2
  subst h2
  have h3 : (cs.drop i)[0]? = some (.int k l[i]) := by
    have h4 : ((cs.drop i).take 1)[0]? = some (.int k l[i]) := by rw [e1]; rfl
    rwa [List.getElem?_take, if_pos (by omega)] at h4
  rwa [List.getElem?_drop, Nat.add_zero] at h3
theorem g64 : Tryz.prog.globalNamed "math/bits.deBruijn64tab" = some 1 := by kernel_rfl
def laid2 : List (String × DataW Unit) := [("math/bits.deBruijn32tab", Rows.laid_math_bits_deBruijn32tab), ("math/bits.deBruijn64tab", Rows.laid_math_bits_deBruijn64tab)]
theorem ty64 : (Tryz.prog.globals[1]?).map (·.type) = some 198 := by kernel_rfl
theorem und64 : ∃ e, Tryz.prog.underlying 198 = some (.array 64 e) ∧ Tryz.prog.underlying e = some (.int .u8) ∧ Tryz.prog.cellsOf e = 1 := ⟨5, by kernel_rfl, by kernel_rfl, by kernel_rfl⟩
theorem laid_eq : (Rows.laid_math_bits_deBruijn64tab : DataW Unit) = .agg (tabL.map fun z => DataW.lit (.int .u8 z)) := by rfl
/-- What the row's premise gives the walk. -/
theorem gl_of {W : World} (h : laidMetH Tryz.prog laid2 W) : GL W fun b => b < W.heap.size := by
  rw [MakeChecks.laidMetH_plain _ _ _ (by kernel_rfl)] at h
  obtain ⟨ps, ⟨g0, t0, cs0, f0, p0, q0, hg0, ht0, hv0, hd0, ⟨g1, t1, cs1, f1, p1, q1, hg1, ht1, hv1, hd1, _, _⟩, _⟩, _, _⟩ := h
  obtain rfl := Option.some.inj (g64.symm.trans hg1)
  obtain rfl := Option.some.inj (ty64.symm.trans ht1)
  obtain ⟨e64, und, und8, cells8⟩ := und64
  obtain ⟨xs, m1, rfl, hx1, hlen, hn, hel⟩ := DataW.trod_array und hd1
  rw [laid_eq] at hx1
  simp only [Prod.mk.injEq, DataW.agg.injEq] at hx1
  have htl : tabL.length = 64 := rfl
  have hcs := arr_cells und8 cells8 (l := tabL) (by rw [htl]; exact hel) hx1.1.symm
  have hcell : ∀ (i : Nat) (h : i < tabL.length), W.cell? ⟨1, i, none⟩ = some (.int .u8 tabL[i]) := fun i hi => by
    rw [World.var?_cell hg1 hv1 i, ← Array.getElem?_toList]
    exact hcs i hi
  have hlt : 1 < W.heap.size := by
    refine Classical.byContradiction fun hn => ?_
    have h0 := hcell 0 (by rw [htl]; omega)
    have hno : W.heap[1]? = none := Array.getElem?_eq_none (by omega)
    unfold World.cell? at h0
    rw [hno] at h0
    simp at h0
  intro x hx
  rw [tbs_eq, List.mem_singleton] at hx
  subst hx
  refine RRows_of fun i r hi => ?_
  rw [List.map_map, List.getElem?_map, Option.map_eq_some_iff] at hi
  obtain ⟨z, hz, rfl⟩ := hi
  obtain ⟨hi', rfl⟩ := List.getElem?_eq_some_iff.1 hz
  refine ⟨rfl, ?_⟩
  simp only [Function.comp, RCells, RD]
  rw [Nat.mul_one, add_addr, Nat.zero_add]
  exact ⟨hlt, ⟨_, hcell i hi', rfl, rfl⟩, trivial⟩
end Go.Proofs.YtipanehdmhachaaGreatDoor.H
