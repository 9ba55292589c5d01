/- Chapter 8: a block told with less. -/
import Derived.Test.YtnbfcknhohdeeaaDoorHvF
set_option linter.unusedSimpArgs false
set_option linter.unusedVariables false
namespace Go.Proofs.YtnbfcknhohdeeaaDoor.H
/-- A block told with less. -/
theorem AW.weakB {P : Program} {N m : Nat} {c : Cd} {T : Tm} {s : St} {Q : Fl → Tm → St → Prop} {id t k : Nat} {rows : List (List AV)} (rows' : List (List AV)) (s' : St) (hid : s[id]? = some (some (.cells t k rows))) (hw : WkL rows.flatten rows'.flatten) (hl : ∀ r ∈ rows', r.length = k) (ho : ∀ v ∈ rows'.flatten, v.one = true)
    (hs : s' = s.set id (some (.cells t k rows'))) (h : AW P N m c T s' Q) : AW P N m c T s Q := by
  intro code hc w K β a hf hm
  have hlt := (List.getElem?_eq_some_iff.1 hid).1
  have hsl : s'.length = s.length := by rw [hs, List.length_set]
  have hget : ∀ (i : Nat) b, s'[i]? = some (some b) → (i = id ∧ b = .cells t k rows') ∨ (i ≠ id ∧ s[i]? = some (some b)) := fun i b hi => by
    rw [hs, List.getElem?_set] at hi
    by_cases e : id = i
    · subst e
      rw [if_pos rfl, if_pos hlt] at hi
      simp only [Option.some.injEq] at hi
      exact .inl ⟨rfl, hi.symm⟩
    · rw [if_neg e] at hi; exact .inr ⟨Ne.symm e, hi⟩
  have al : ∀ i, Alive s' i → Alive s i := fun i ⟨b, hb⟩ => by
    rcases hget i b hb with ⟨rfl, -⟩ | ⟨-, h2⟩
    · exact ⟨_, hid⟩
    · exact ⟨b, h2⟩
  have hcz : Cz w K β s' := by
    refine ⟨fun i b hi => ?_, fun i j hi hj => hf.cz.inj i j (al i hi) (al j hj), fun i hi => hf.cz.dis i (al i hi), hf.cz.kb, hf.cz.gl⟩
    rw [hsl]
    rcases hget i b hi with ⟨rfl, rfl⟩ | ⟨-, h2⟩
    · obtain ⟨pre, us, post, e1, e2, e3, e4, e5, e6, e7⟩ := hf.cz.blk _ _ hid
      exact ⟨pre, us, post, e1, e2, RL_wk hw e3, e4, e5, ho, hl⟩
    · exact hf.cz.blk i b h2
  refine wp_mono (h code hc w K β a ⟨hcz, by rw [hsl]; exact hf.rt, hf.sz, hf.df⟩ (by omega)) (After.trans ?_)
  exact { size := Nat.le_refl _, io := .refl _, fix := fun _ _ => rfl, len := by omega, frame := fun _ _ _ => rfl, kmono := fun _ h => h, knew := fun _ h => .inl h, onew := fun i hi => .inr ⟨i, al i hi, rfl⟩ }
end Go.Proofs.YtnbfcknhohdeeaaDoor.H
