/- Chapter 8: what the law of exactness is handed. -/
import Derived.Test.YtnbfcknhohdeeaaDoorHvY
set_option linter.unusedSimpArgs false
set_option linter.unusedVariables false
namespace Go.Proofs.YtnbfcknhohdeeaaDoor.H
theorem dec_fx {ds : List D} (h : okDs [.int .i64, .int .i64, .int .i64, .int .i64] ds) : ∃ f : Fx, ds = fxR f ∧ True := by
  obtain ⟨d1, e1, rfl, k1, m1⟩ := okDs_cons h
  obtain ⟨d2, e2, rfl, k2, m2⟩ := okDs_cons m1
  obtain ⟨d3, e3, rfl, k3, m3⟩ := okDs_cons m2
  obtain ⟨d4, e4, rfl, k4, m4⟩ := okDs_cons m3
  obtain rfl := okDs_nil m4
  obtain ⟨z1, rfl, _⟩ := okD_int k1
  obtain ⟨z2, rfl, _⟩ := okD_int k2
  obtain ⟨z3, rfl, _⟩ := okD_int k3
  obtain ⟨z4, rfl, _⟩ := okD_int k4
  exact ⟨⟨z1, z2, z3, z4⟩, rfl, trivial⟩
theorem dec_fxs {x : D} (h : okD (.sl [.int .i64, .int .i64, .int .i64, .int .i64]) x) : ∃ l : List Fx, x = .lst 4 (fxs l) ∧ l.length ≤ 9223372036854775807 := by
  obtain ⟨rows, rfl, hl, h⟩ := okD_sl h
  obtain ⟨l, rfl⟩ := map_of (f := fxR) (l := rows) fun r hr => by
    obtain ⟨f, rfl, _⟩ := dec_fx (h r hr)
    exact ⟨f, rfl⟩
  exact ⟨l, rfl, by simpa using hl⟩
theorem dec_vt {ds : List D} (h : okDs [.sl [.int .i64], .sl [.int .i64], .bool] ds) : ∃ v : Vt, ds = [.lst 1 (ints v.m), .lst 1 (ints v.c), .v (.bool v.t)] ∧ v.m.length ≤ 9223372036854775807 ∧ v.c.length ≤ 9223372036854775807 := by
  obtain ⟨d1, e1, rfl, k1, m1⟩ := okDs_cons h
  obtain ⟨d2, e2, rfl, k2, m2⟩ := okDs_cons m1
  obtain ⟨d3, e3, rfl, k3, m3⟩ := okDs_cons m2
  obtain rfl := okDs_nil m3
  obtain ⟨z1, rfl, g1⟩ := dec_ints k1
  obtain ⟨z2, rfl, g2⟩ := dec_ints k2
  obtain ⟨z3, rfl⟩ := okD_bool k3
  exact ⟨⟨z1, z2, z3⟩, rfl, g1, g2⟩
end Go.Proofs.YtnbfcknhohdeeaaDoor.H
