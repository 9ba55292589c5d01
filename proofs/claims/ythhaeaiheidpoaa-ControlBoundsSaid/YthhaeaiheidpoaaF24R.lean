/- arith.Root and its reference: contracts, by a walk with the loop's relation. -/
import Derived.Test.YthhaeaiheidpoaaF24A
import Derived.WalkSpells
import Derived.WalkLawsBesides
import Derived.Lib.Hide
set_option linter.unusedSimpArgs false
set_option linter.unusedVariables false
namespace Go.Proofs.Ythhaeaiheidpoaa
open Go.RowKit Ev
theorem ret_int2 {k l : IntKind} {a b c d : Int} (h : a = b) (h' : c = d) : Ending.returned (.tuple #[.int k a, .int l c]) = .returned (.tuple #[.int k b, .int l d]) := by rw [h, h']
theorem mid_bd {a b : Int} (h0 : 0 ≤ a) (h : a < b) (h1 : b ≤ 1000000000) : a < (a + b + 1) / 2 ∧ (a + b + 1) / 2 ≤ b ∧ 0 ≤ (a + b + 1) / 2 * ((a + b + 1) / 2) ∧ (a + b + 1) / 2 * ((a + b + 1) / 2) ≤ 1000000000000000000 := by
  have h2 : a < (a + b + 1) / 2 := by omega
  have h3 : (a + b + 1) / 2 ≤ b := by omega
  generalize (a + b + 1) / 2 = m at *
  refine ⟨h2, h3, Int.mul_nonneg (by omega) (by omega), ?_⟩
  have := Int.mul_le_mul (show m ≤ 1000000000 by omega) (show m ≤ 1000000000 by omega) (by omega) (by omega)
  omega

theorem root_rng (n : Int) : (0 ≤ rootS n ∧ rootS n ≤ 1000000000) ∧ 0 ≤ rootE n ∧ rootE n ≤ 1 := by
  by_cases hb : rootB n = true
  · have h := rootS_spec hb
    have hn : 0 ≤ n ∧ n ≤ 1000000000000000000 := by simpa [rootB] using hb
    refine ⟨⟨h.1, ?_⟩, by unfold rootE; rw [if_pos hb]; omega⟩
    have := sq_lt (a := rootS n) (b := 1000000001) h.1 (by omega) (by omega)
    omega
  · unfold rootS rootE; rw [if_neg hb, if_neg hb]; omega

set_option maxHeartbeats 1000000 in
theorem root_call (n : Int) (w : World) : Calls Try.prog 58 #[.int .i64 n] w fun e w' => e = .returned (.tuple #[.int .i64 (rootS n), .int .i64 (rootE n)]) ∧ w = w' := by
  by_cases hb : rootB n = true
  · obtain ⟨h1, h2⟩ : 0 ≤ n ∧ n ≤ 1000000000000000000 := by simpa [rootB] using hb
    replace hb := Lib.hid hb
    go_enter Try.func58, Try.ntmps58
    go_wp2
    go_loop [4, 5] (fun lo hi => ∃ a b : Int, lo = .int .i64 a ∧ hi = .int .i64 b ∧ 0 ≤ a ∧ a ≤ b ∧ b ≤ 1000000000 ∧ a * a ≤ n ∧ n < (b + 1) * (b + 1)) (fun lo hi => (intOf hi - intOf lo).toNat)
    case atStart => exact ⟨0, 1000000000, rfl, rfl, by omega, by omega, by omega, by omega, by omega⟩
    case round =>
      obtain ⟨a, b, rfl, rfl, ha, hab, hb1, hlo, hhi⟩ := hrel
      by_cases hlt : a < b
      · have hm := mid_bd ha hlt hb1
        obtain ⟨hm1, hm2, hm3, hm4⟩ := hm
        go_wp2
        · go_round
          case rel => exact ⟨_, _, rfl, rfl, by omega, by omega, by omega, by assumption, by assumption⟩
          case measure => simp [intOf]; omega
        · go_round
          case rel =>
            refine ⟨_, _, rfl, rfl, by omega, by omega, by omega, by assumption, ?_⟩
            have e : (a + b + 1) / 2 - 1 + 1 = (a + b + 1) / 2 := by omega
            rw [e]; assumption
          case measure => simp [intOf]; omega
      · have hab' : b = a := by omega
        subst hab'
        go_wp2
        go_ret2
        exact ⟨ret_int2 (rootS_of hb.out ha hlo hhi).symm (by unfold rootE; rw [if_pos hb.out]), rfl⟩
  · have hn : n < 0 ∨ 1000000000000000000 < n := by
      simp [rootB] at hb; omega
    replace hb := Lib.hid hb
    go_enter Try.func58, Try.ntmps58
    go_wp2
    all_goals (try go_ret2)
    all_goals exact ⟨ret_int2 (by unfold rootS; rw [if_neg hb.out]) (by unfold rootE; rw [if_neg hb.out]), rfl⟩
theorem root_ok : PCOK Try.prog 58 cRoot gRoot where
  body := by kernel_rfl
  wide := by decide
  call := fun es ρ hl _ => by
    match es, hl with
    | [e], _ =>
      refine ⟨RngOK_get ?_, fun w => ?_⟩
      · simp only [cRoot, gRoot, RngOK, a0, List.map_cons, List.map_nil, List.getD_cons_zero, and_true]
        exact root_rng _
      · refine (root_call (den ρ e) w).mono fun x w' ⟨h1, h2⟩ => ⟨h1, ?_⟩
        subst h2; exact Below.refl _ _
set_option maxHeartbeats 1000000 in
theorem rootR_call (n : Int) (w : World) : Calls Try.prog 62 #[.int .i64 n] w fun e w' => e = .returned (.tuple #[.int .i64 (rootS n), .int .i64 (rootE n)]) ∧ w = w' := by
  by_cases hb : rootB n = true
  · obtain ⟨h1, h2⟩ : 0 ≤ n ∧ n ≤ 1000000000000000000 := by simpa [rootB] using hb
    replace hb := Lib.hid hb
    go_enter Try.func62, Try.ntmps62
    go_wp2
    go_loop [4, 5] (fun lo hi => ∃ a b : Int, lo = .int .i64 a ∧ hi = .int .i64 b ∧ 0 ≤ a ∧ a ≤ b ∧ b ≤ 1000000000 ∧ a * a ≤ n ∧ n < (b + 1) * (b + 1)) (fun lo hi => (intOf hi - intOf lo).toNat)
    case atStart => exact ⟨0, 1000000000, rfl, rfl, by omega, by omega, by omega, by omega, by omega⟩
    case round =>
      obtain ⟨a, b, rfl, rfl, ha, hab, hb1, hlo, hhi⟩ := hrel
      by_cases hlt : a < b
      · have hm := mid_bd ha hlt hb1
        obtain ⟨hm1, hm2, hm3, hm4⟩ := hm
        go_wp2
        · go_round
          case rel => exact ⟨_, _, rfl, rfl, by omega, by omega, by omega, by assumption, by assumption⟩
          case measure => simp [intOf]; omega
        · go_round
          case rel =>
            refine ⟨_, _, rfl, rfl, by omega, by omega, by omega, by assumption, ?_⟩
            have e : (a + b + 1) / 2 - 1 + 1 = (a + b + 1) / 2 := by omega
            rw [e]; assumption
          case measure => simp [intOf]; omega
      · have hab' : b = a := by omega
        subst hab'
        go_wp2
        go_ret2
        exact ⟨ret_int2 (rootS_of hb.out ha hlo hhi).symm (by unfold rootE; rw [if_pos hb.out]), rfl⟩
  · have hn : n < 0 ∨ 1000000000000000000 < n := by
      simp [rootB] at hb; omega
    replace hb := Lib.hid hb
    go_enter Try.func62, Try.ntmps62
    go_wp2
    all_goals (try go_ret2)
    all_goals exact ⟨ret_int2 (by unfold rootS; rw [if_neg hb.out]) (by unfold rootE; rw [if_neg hb.out]), rfl⟩
theorem rootR_ok : PCOK Try.prog 62 cRoot gRoot where
  body := by kernel_rfl
  wide := by decide
  call := fun es ρ hl _ => by
    match es, hl with
    | [e], _ =>
      refine ⟨RngOK_get ?_, fun w => ?_⟩
      · simp only [cRoot, gRoot, RngOK, a0, List.map_cons, List.map_nil, List.getD_cons_zero, and_true]
        exact root_rng _
      · refine (rootR_call (den ρ e) w).mono fun x w' ⟨h1, h2⟩ => ⟨h1, ?_⟩
        subst h2; exact Below.refl _ _
end Go.Proofs.Ythhaeaiheidpoaa
