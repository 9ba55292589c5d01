/- Chapter 26: what the law of exactness is handed. -/
import Derived.Test.YtkgeadhnagnloaaHdO
import Derived.Test.YtkgeadhnagnloaaKaC
set_option linter.unusedSimpArgs false
set_option linter.unusedVariables false
namespace Go.Proofs.Ytkgeadhnagnloaa.H
theorem dec_pt {ds : List D} (h : okDs [.int .i64, .int .i64] ds) : ∃ p : Pt, ds = ptR p ∧ True := by
  obtain ⟨d1, e1, rfl, k1, m1⟩ := okDs_cons h
  obtain ⟨d2, e2, rfl, k2, m2⟩ := okDs_cons m1
  obtain rfl := okDs_nil m2
  obtain ⟨z1, rfl, _⟩ := okD_int k1
  obtain ⟨z2, rfl, _⟩ := okD_int k2
  exact ⟨(z1, z2), rfl, trivial⟩
theorem dec_pts {x : D} (h : okD (.sl [.int .i64, .int .i64]) x) : ∃ l : List Pt, x = .lst 2 (pts l) ∧ l.length ≤ 9223372036854775807 := by
  obtain ⟨rows, rfl, hl, h⟩ := okD_sl h
  obtain ⟨l, rfl⟩ := map_of (f := ptR) (l := rows) fun r hr => by
    obtain ⟨p, rfl, _⟩ := dec_pt (h r hr)
    exact ⟨p, rfl⟩
  exact ⟨l, rfl, by simpa using hl⟩
theorem dec_lns {x : D} (h : okD (.sl [.int .i64, .int .i64, .int .i64, .int .i64]) x) : ∃ l : List Ln, x = .lst 4 (lns l) ∧ l.length ≤ 9223372036854775807 := by
  obtain ⟨rows, rfl, hl, h⟩ := okD_sl h
  obtain ⟨l, rfl⟩ := map_of (f := lnR) (l := rows) fun r hr => by
    obtain ⟨d1, e1, rfl, k1, m1⟩ := okDs_cons (h r hr)
    obtain ⟨d2, e2, rfl, k2, m2⟩ := okDs_cons m1
    obtain ⟨d3, e3, rfl, k3, m3⟩ := okDs_cons m2
    obtain ⟨d4, e4, rfl, k4, m4⟩ := okDs_cons m3
    obtain rfl := okDs_nil m4
    obtain ⟨z1, rfl, _⟩ := okD_int k1
    obtain ⟨z2, rfl, _⟩ := okD_int k2
    obtain ⟨z3, rfl, _⟩ := okD_int k3
    obtain ⟨z4, rfl, _⟩ := okD_int k4
    exact ⟨((z1, z2), (z3, z4)), rfl⟩
  exact ⟨l, rfl, by simpa using hl⟩
theorem dec_grs {x : D} (h : okD (.sl [.str, .sl [.int .i64, .int .i64]]) x) : ∃ l : List Gr, x = .lst 2 (grs l) ∧ l.length ≤ 9223372036854775807 := by
  obtain ⟨rows, rfl, hl, h⟩ := okD_sl h
  obtain ⟨l, rfl⟩ := map_of (f := grR) (l := rows) fun r hr => by
    obtain ⟨d1, e1, rfl, k1, m1⟩ := okDs_cons (h r hr)
    obtain ⟨d2, e2, rfl, k2, m2⟩ := okDs_cons m1
    obtain rfl := okDs_nil m2
    obtain ⟨s, rfl, _⟩ := okD_str k1
    obtain ⟨p, rfl, _⟩ := dec_pts k2
    exact ⟨(s, p), rfl⟩
  exact ⟨l, rfl, by simpa using hl⟩
theorem dec_ds {ds : List D} (h : okDs [.sl [.int .i64, .int .i64], .sl [.int .i64, .int .i64, .int .i64, .int .i64], .sl [.str, .sl [.int .i64, .int .i64]]] ds) : ∃ x : List Pt × List Ln × List Gr, ds = [.lst 2 (pts x.1), .lst 4 (lns x.2.1), .lst 2 (grs x.2.2)] ∧ True := by
  obtain ⟨d1, e1, rfl, k1, m1⟩ := okDs_cons h
  obtain ⟨d2, e2, rfl, k2, m2⟩ := okDs_cons m1
  obtain ⟨d3, e3, rfl, k3, m3⟩ := okDs_cons m2
  obtain rfl := okDs_nil m3
  obtain ⟨z1, rfl, _⟩ := dec_pts k1
  obtain ⟨z2, rfl, _⟩ := dec_lns k2
  obtain ⟨z3, rfl, _⟩ := dec_grs k3
  exact ⟨(z1, z2, z3), rfl, trivial⟩
end Go.Proofs.Ytkgeadhnagnloaa.H
