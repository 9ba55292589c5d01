/- An own block is given up to lists, in other blocks too. -/
import Derived.Test.YtcedkkleclhglaaHxC
set_option linter.unusedSimpArgs false
set_option linter.unusedVariables false
set_option linter.unusedSectionVars false
namespace Go.Proofs.Ytcedkkleclhglaa.H
def frzB (id k : Nat) (rows : List (List D)) : Blk → Blk
  | .cells T k' rs => .cells T k' (rs.map (frzL id k rows))
def fitB (id n : Nat) : Blk → Prop
  | .cells _ _ rs => ∀ r ∈ rs, fitL id n r
theorem frzL_map {id k : Nat} {rows : List (List D)} : ∀ l, frzL id k rows l = l.map (frzA id k rows)
  | [] => rfl
  | v :: l => by simp only [frzL, List.map_cons, frzL_map l]
theorem fitL_iff {id n : Nat} : ∀ {l : List AV}, fitL id n l ↔ ∀ v ∈ l, fitA id n v
  | [] => by simp [fitL]
  | v :: l => by simp [fitL, fitL_iff (l := l)]
theorem frzA_one {id k : Nat} {rows : List (List D)} : ∀ {v : AV}, v.one = true → (frzA id k rows v).one = true
  | .own .., _ => by simp only [frzA]; split <;> rfl
  | .agg _, h => by simp [AV.one] at h
  | .tup _, h => by simp [AV.one] at h
  | .d _, _ | .ful .., _ | .elm .., _ | .ptr .., _ | .osl .., _ | .mp _, _ | .fn .., _ => by simp [frzA, AV.one]
section
variable {P : Program} {N m : Nat} {T : Tm} {s : St} {Q : Fl → Tm → St → Prop}
theorem AW.freezeB {c : Cd} {id t k : Nat} {rows : List (List D)} (hid : s[id]? = some (some (.cells t k (rowsA rows)))) {T' : Tm} {s' : St} (h : AW P N m c T' s' Q) (hl : s'.length = s.length)
    (hT : ∀ i v', tget T' i = some v' → ∃ v, tget T i = some v ∧ v' = frzA id k rows v ∧ fitA id rows.length v)
    (hs : ∀ (i : Nat) b', s'[i]? = some (some b') → i ≠ id ∧ ∃ b, s[i]? = some (some b) ∧ b' = frzB id k rows b ∧ fitB id rows.length b) : AW P N m c T s Q := by
  intro code hc w K β a hf hm
  have hal : Alive s id := ⟨_, hid⟩
  let K' : Nat → Prop := fun b => K b ∨ b = (β id).b
  have hK : Stays w K w K' := ⟨fun _ h => .inl h, fun _ _ => rfl⟩
  have hF : FrzH w K' β id k rows := .of hf.cz hid hK (.inr rfl)
  have al : ∀ i, Alive s' i → i ≠ id ∧ Alive s i := fun i ⟨b, hb⟩ => by
    obtain ⟨h1, b0, h2, _⟩ := hs i b hb
    exact ⟨h1, b0, h2⟩
  have hcz : Cz w K' β s' := by
    refine ⟨fun i b hi => ?_, fun i j hi hj => hf.cz.inj i j (al i hi).2 (al j hj).2, fun i hi hk => ?_, fun b hb => ?_⟩
    · obtain ⟨h1, b0, h2, rfl, hfit⟩ := hs i b hi
      rw [hl]
      have := hf.cz.blk i b0 h2
      cases b0 with
      | cells T0 k0 rs =>
        obtain ⟨pre, us, post, e1, e2, e3, e4, e5, e6, e7⟩ := this
        have efl : (rs.map (frzL id k rows)).flatten = frzL id k rows rs.flatten := by
          rw [frzL_map, List.map_flatten]
          congr 1
          exact List.map_congr_left fun l _ => frzL_map l
        refine ⟨pre, us, post, e1, e2, ?_, e4, e5, fun v hv => ?_, fun r hr => ?_⟩
        · rw [efl]
          exact RL_frz hK hF e3 (fitL_iff.2 fun v hv => by
            obtain ⟨r, hr, hv⟩ := List.mem_flatten.1 hv
            exact fitL_iff.1 (hfit r hr) v hv)
        · rw [efl, frzL_map] at hv
          obtain ⟨x, hx, rfl⟩ := List.mem_map.1 hv
          exact frzA_one (e6 x hx)
        · obtain ⟨x, hx, rfl⟩ := List.mem_map.1 hr
          rw [frzL_map, List.length_map]; exact e7 x hx
    · rcases hk with hk | hk
      · exact hf.cz.dis i (al i hi).2 hk
      · exact hf.cz.inj i id (al i hi).2 hal (al i hi).1 hk
    · rcases hb with hb | hb
      · exact hf.cz.kb b hb
      · rw [hb]; exact hf.cz.lt hal
  refine wp_mono (h code hc w K' β a ⟨hcz, fun i v hv => ?_, hf.sz, hf.df⟩ (by rw [hl]; exact hm)) (After.trans ?_)
  · obtain ⟨v0, h1, rfl, h3⟩ := hT i v hv
    obtain ⟨u, g1, g2⟩ := hf.rt i v0 h1
    exact ⟨u, g1, by rw [hl]; exact R_frz hK hF g2 h3⟩
  · exact { size := Nat.le_refl _, io := .refl _, fix := fun _ _ => rfl, len := by rw [hl]; exact hm, frame := fun _ _ _ => rfl, kmono := fun _ h => .inl h
            knew := fun b hb => by
              rcases hb with hb | hb
              · exact .inl hb
              · exact .inr (.inr ⟨id, hal, hb.symm⟩)
            onew := fun i hi => .inr ⟨i, (al i hi).2, rfl⟩ }
end
theorem Fn.of {P : Program} {f N : Nat} {c : Cd} {rs : List RC} {vs : List AV} {v : AV} (hf : FnOK P f N c rs) (hN : vs.length ≤ N) (hb : belA 0 v = true) (h : AW P N 0 c (argT 0 vs) [] (callQ rs fun r _ => r = v)) : Fn P f vs v :=
  ACalls.take (ACalls.of hf hN h) fun r s' h1 => ⟨by rw [h1]; exact hb, fun i b hi => by simp at hi, h1, by simp⟩
end Go.Proofs.Ytcedkkleclhglaa.H
