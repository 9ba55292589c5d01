/- Angles and quotients: contracts. -/
import Derived.Test.YthhaeaiheidpoaaRows
import Derived.Test.YthhaeaiheidpoaaF24D
namespace Go.Proofs.Ythhaeaiheidpoaa
open Ev
set_option linter.unusedSimpArgs false
set_option linter.unusedVariables false

def t_norm : T Leaf :=
(.ite (.lt (.rem (.v 0) (.lit 3600)) (.lit 0))
 (.leaf ((.int .i64 (.add (.rem (.v 0) (.lit 3600)) (.lit 3600))), [], []))
 (.leaf ((.int .i64 (.rem (.v 0) (.lit 3600))), [], []))
)
theorem t_norm_eq : evFn Try.prog (noCtx) 100 12 59 (shsS cNorm.args 0) [] ⟨rngE 0 cNorm.dom, []⟩ cNorm.dom.length = t_norm := by kernel_rfl
set_option maxHeartbeats 2000000 in
theorem norm_ok : PCOK Try.prog 59 cNorm gNorm := pc_of_tree noCtx_ok (Φ := noSig) rfl (fun _ => trivial) (by kernel_rfl) (by kernel_rfl) rfl t_norm_eq fun xs hl hx => by
  match xs, hl with
  | [x0], _ =>
    simp [rngE, cNorm, den] at hx
    simp [t_norm, T.ok, LVal, gNorm, cNorm, RngOK, denV, denL, denB, den, retV, shsV, shV, cellV, cellsV, a0, a1, a2, a3, a4, Sh.w, fit0, fit1, fit2, fit3, fit4]
    exact ⟨norm_bd x0, fun h => tmod_neg (by omega) h, fun h => tmod_pos (by omega) h⟩
def t_normR : T Leaf :=
(.leaf ((.int .i64 (.rem (.add (.rem (.v 0) (.lit 3600)) (.lit 3600)) (.lit 3600))), [], []))
theorem t_normR_eq : evFn Try.prog (noCtx) 100 12 67 (shsS cNorm.args 0) [] ⟨rngE 0 cNorm.dom, []⟩ cNorm.dom.length = t_normR := by kernel_rfl
set_option maxHeartbeats 2000000 in
theorem normR_ok : PCOK Try.prog 67 cNorm gNorm := pc_of_tree noCtx_ok (Φ := noSig) rfl (fun _ => trivial) (by kernel_rfl) (by kernel_rfl) rfl t_normR_eq fun xs hl hx => by
  match xs, hl with
  | [x0], _ =>
    simp [rngE, cNorm, den] at hx
    simp [t_normR, T.ok, LVal, gNorm, cNorm, RngOK, denV, denL, denB, den, retV, shsV, shV, cellV, cellsV, a0, a1, a2, a3, a4, Sh.w, fit0, fit1, fit2, fit3, fit4]
    refine ⟨norm_bd x0, ?_⟩
    have a := Int.lt_tmod_of_pos x0 (show (0 : Int) < 3600 by omega)
    rw [Int.tmod_eq_emod_of_nonneg (by omega)]
    rcases Int.lt_or_le (x0.tmod 3600) 0 with h | h
    · have := tmod_neg (d := 3600) (by omega) h; omega
    · have := tmod_pos (d := 3600) (by omega) h; omega
def t_rnd : T Leaf :=
(.ite (.lt (.rem (.v 0) (.v 1)) (.lit 0))
 (.ite (.le (.wr .i64 (.sub (.v 1) (.wr .i64 (.sub (.v 0) (.wr .i64 (.mul (.sub (.quo (.v 0) (.v 1)) (.lit 1)) (.v 1))))))) (.wr .i64 (.sub (.v 0) (.wr .i64 (.mul (.sub (.quo (.v 0) (.v 1)) (.lit 1)) (.v 1))))))
  (.leaf ((.int .i64 (.add (.sub (.quo (.v 0) (.v 1)) (.lit 1)) (.lit 1))), [], []))
  (.leaf ((.int .i64 (.sub (.quo (.v 0) (.v 1)) (.lit 1))), [], []))
 )
 (.ite (.le (.wr .i64 (.sub (.v 1) (.wr .i64 (.sub (.v 0) (.wr .i64 (.mul (.quo (.v 0) (.v 1)) (.v 1))))))) (.wr .i64 (.sub (.v 0) (.wr .i64 (.mul (.quo (.v 0) (.v 1)) (.v 1))))))
  (.leaf ((.int .i64 (.add (.quo (.v 0) (.v 1)) (.lit 1))), [], []))
  (.leaf ((.int .i64 (.quo (.v 0) (.v 1))), [], []))
 )
)
theorem t_rnd_eq : evFn Try.prog (noCtx) 100 12 75 (shsS cRnd.args 0) [] ⟨rngE 0 cRnd.dom, []⟩ cRnd.dom.length = t_rnd := by kernel_rfl
set_option maxHeartbeats 2000000 in
theorem rnd_ok : PCOK Try.prog 75 cRnd gRnd := pc_of_tree noCtx_ok (Φ := noSig) rfl (fun _ => trivial) (by kernel_rfl) (by kernel_rfl) rfl t_rnd_eq fun xs hl hx => by
  match xs, hl with
  | [x0, x1], _ =>
    simp [rngE, cRnd, den] at hx
    simp [t_rnd, T.ok, LVal, gRnd, cRnd, RngOK, denV, denL, denB, den, retV, shsV, shV, cellV, cellsV, a0, a1, a2, a3, a4, Sh.w, fit0, fit1, fit2, fit3, fit4]
    obtain ⟨⟨b1, b2⟩, b3, b4⟩ := hx
    refine ⟨rnd_bd b1 b2 b3, fun h => ?_, fun h => ?_⟩
    · have e1 := floor_neg b3 h
      have e2 := Int.mul_ediv_add_emod x0 x1
      have e3 := Int.emod_nonneg x0 (show x1 ≠ 0 by omega)
      have e4 := Int.emod_lt_of_pos x0 (show 0 < x1 by omega)
      have e5 := rnd_of (x := x0) (d := x1) (f := x0 / x1) (m := x0 % x1) (by rw [Int.mul_comm]; exact e2) e3 e4
      rw [e1, Int.mul_comm, i64w (n := x1 * (x0 / x1)) (by omega) (by omega), i64w (n := x0 - x1 * (x0 / x1)) (by omega) (by omega), i64w (by omega) (by omega), e5]
      constructor
      · intro g; rw [if_pos (by omega)]; omega
      · intro g; rw [if_neg (by omega)]
    · have e1 := floor_nonneg b3 h
      have e2 := Int.mul_ediv_add_emod x0 x1
      have e3 := Int.emod_nonneg x0 (show x1 ≠ 0 by omega)
      have e4 := Int.emod_lt_of_pos x0 (show 0 < x1 by omega)
      have e5 := rnd_of (x := x0) (d := x1) (f := x0 / x1) (m := x0 % x1) (by rw [Int.mul_comm]; exact e2) e3 e4
      rw [e1, Int.mul_comm, i64w (n := x1 * (x0 / x1)) (by omega) (by omega), i64w (n := x0 - x1 * (x0 / x1)) (by omega) (by omega), i64w (by omega) (by omega), e5]
      constructor
      · intro g; rw [if_pos (by omega)]
      · intro g; rw [if_neg (by omega)]
def t_rndR : T Leaf :=
(.ite (.lt (.rem (.add (.mul (.lit 2) (.v 0)) (.v 1)) (.mul (.lit 2) (.v 1))) (.lit 0))
 (.leaf ((.int .i64 (.sub (.quo (.add (.mul (.lit 2) (.v 0)) (.v 1)) (.mul (.lit 2) (.v 1))) (.lit 1))), [], []))
 (.leaf ((.int .i64 (.quo (.add (.mul (.lit 2) (.v 0)) (.v 1)) (.mul (.lit 2) (.v 1)))), [], []))
)
theorem t_rndR_eq : evFn Try.prog (noCtx) 100 12 74 (shsS cRnd.args 0) [] ⟨rngE 0 cRnd.dom, []⟩ cRnd.dom.length = t_rndR := by kernel_rfl
set_option maxHeartbeats 2000000 in
theorem rndR_ok : PCOK Try.prog 74 cRnd gRnd := pc_of_tree noCtx_ok (Φ := noSig) rfl (fun _ => trivial) (by kernel_rfl) (by kernel_rfl) rfl t_rndR_eq fun xs hl hx => by
  match xs, hl with
  | [x0, x1], _ =>
    simp [rngE, cRnd, den] at hx
    simp [t_rndR, T.ok, LVal, gRnd, cRnd, RngOK, denV, denL, denB, den, retV, shsV, shV, cellV, cellsV, a0, a1, a2, a3, a4, Sh.w, fit0, fit1, fit2, fit3, fit4]
    obtain ⟨⟨b1, b2⟩, b3, b4⟩ := hx
    exact ⟨rnd_bd b1 b2 b3, fun h => floor_neg (by omega) h, fun h => floor_nonneg (by omega) h⟩
end Go.Proofs.Ythhaeaiheidpoaa
