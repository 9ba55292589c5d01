/- Calls with fewer blocks: the others stay as they are. -/
import Derived.Test.YtcedkkleclhglaaHaT
set_option linter.unusedSimpArgs false
set_option linter.unusedVariables false
set_option linter.unusedSectionVars false
namespace Go.Proofs.Ytcedkkleclhglaa.H

/-- The callee's names for blocks in the caller's. -/
def nmR (ft : List Nat) (n : Nat) (i : Nat) : Nat := if i < ft.length then ft.getD i 0 else n + (i - ft.length)
/-- The caller's blocks behind the call. -/
def backS (ft : List Nat) (s : St) (sc : St) : St :=
  ((List.range s.length).map fun j => match ft.idxOf? j with
    | some i => (match sc[i]? with | some (some b) => some (renB (nmR ft s.length) b) | _ => none)
    | none => match s[j]? with | some b => b | none => none) ++
  (sc.drop ft.length).map fun b => match b with
    | some b => some (renB (nmR ft s.length) b)
    | none => none
/-- What the callee is given. -/
structure Given (ft : List Nat) (s : St) (vs : List AV) (sc : St) (vc : List AV) : Prop where
  len : sc.length = ft.length
  lt : ∀ i ∈ ft, i < s.length
  nd : ft.Nodup
  blk : ∀ (i : Nat) b, sc[i]? = some (some b) → belB sc.length b = true ∧ s[ft.getD i 0]? = some (some (renB (nmR ft s.length) b))
  bel : belL sc.length vc = true
  args : vs = renL (nmR ft s.length) vc
theorem idxOf?_some {ft : List Nat} (hn : ft.Nodup) {i j : Nat} (h : ft.idxOf? j = some i) : ft[i]? = some j := by
  rw [List.idxOf?_eq_some_iff] at h
  obtain ⟨h1, h2⟩ := h
  have : ft[i] = j := by simpa using h2.1
  rw [← this]; simp [h1]
theorem nd_inj {ft : List Nat} (hn : ft.Nodup) {i j x : Nat} (h1 : ft[i]? = some x) (h2 : ft[j]? = some x) : i = j := by
  obtain ⟨a1, b1⟩ := List.getElem?_eq_some_iff.1 h1
  obtain ⟨a2, b2⟩ := List.getElem?_eq_some_iff.1 h2
  rcases Nat.lt_trichotomy i j with h | h | h
  · exact absurd (b1.trans b2.symm) ((List.pairwise_iff_getElem.1 hn) i j a1 a2 h)
  · exact h
  · exact absurd (b2.trans b1.symm) ((List.pairwise_iff_getElem.1 hn) j i a2 a1 h)
theorem idxOf?_get {ft : List Nat} (hn : ft.Nodup) {i j : Nat} (h : ft[i]? = some j) : ft.idxOf? j = some i := by
  cases hx : ft.idxOf? j with
  | none =>
    rw [List.idxOf?_eq_none_iff] at hx
    exact absurd (List.mem_of_getElem? h) hx
  | some k => rw [nd_inj hn (idxOf?_some hn hx) h]
theorem ACalls.frame {P : Program} {f : FuncId} {ft : List Nat} {s sc : St} {vs vc : List AV} {Qc Q : AV → St → Prop} (h : ACalls P f vc sc Qc) (hg : Given ft s vs sc vc)
    (hq : ∀ v s', Qc v s' → Q (renA (nmR ft s.length) v) (backS ft s s')) : ACalls P f vs s Q := by
  intro w K β us hz hr
  have ftl : ∀ {i : Nat}, i < ft.length → ft[i]? = some (ft.getD i 0) := fun hi => getD_lt hi
  have nmlt : ∀ i, i < sc.length → nmR ft s.length i = ft.getD i 0 := fun i hi => by unfold nmR; rw [if_pos (by rw [← hg.len]; exact hi)]
  let βc : Nat → Loc := fun i => β (nmR ft s.length i)
  have hbc : ∀ i, i < sc.length → βc i = β (nmR ft s.length i) := fun _ _ => rfl
  have alc : ∀ i, Alive sc i → Alive s (nmR ft s.length i) := fun i ⟨b, hb⟩ => by
    rw [nmlt i (alive_lt ⟨b, hb⟩)]
    exact ⟨_, (hg.blk i b hb).2⟩
  have ninj : ∀ i j, i < sc.length → j < sc.length → i ≠ j → nmR ft s.length i ≠ nmR ft s.length j := fun i j hi hj hij e => by
    rw [nmlt i hi, nmlt j hj] at e
    exact hij (nd_inj hg.nd (ftl (by rw [← hg.len]; exact hi)) (e ▸ ftl (by rw [← hg.len]; exact hj)))
  have hcz : Cz w K βc sc := by
    refine ⟨fun i b hb => ?_, fun i j h1 h2 h3 => hz.inj _ _ (alc i h1) (alc j h2) (ninj i j (alive_lt h1) (alive_lt h2) h3), fun i h1 => hz.dis _ (alc i h1), hz.kb⟩
    have hil := alive_lt ⟨b, hb⟩
    have := hz.blk _ _ (hg.blk i b hb).2
    rw [← nmlt i hil] at this
    exact BlkOK_unren hbc this (hg.blk i b hb).1
  have hrc : RL w K βc sc.length vc us := by
    rw [hg.args] at hr
    exact RL_unren hbc hr hg.bel
  refine (h w K βc us hcz hrc).mono fun e w' ⟨v, sc', K', βc', u, e1, q, hz', hR, hx⟩ => ?_
  subst e1
  have hst : Stays w K w' K' := hx.stays hcz
  let β' : Nat → Loc := fun j => if j < s.length then β j else βc' (ft.length + (j - s.length))
  let r := nmR ft s.length
  have hlen' : (backS ft s sc').length = s.length + (sc'.length - ft.length) := by simp [backS]
  have hle : ft.length ≤ sc'.length := by rw [← hg.len]; exact hx.len
  have hrlt : ∀ i, i < sc'.length → r i < (backS ft s sc').length := fun i hi => by
    show nmR ft s.length i < _
    rw [hlen']
    unfold nmR
    split
    · rename_i h1
      have := hg.lt (ft.getD i 0) (List.mem_of_getElem? (ftl h1))
      omega
    · omega
  have hbb : ∀ i, i < sc'.length → βc' i = β' (r i) := fun i hi => by
    show βc' i = β' (nmR ft s.length i)
    by_cases h1 : i < ft.length
    · have h2 : nmR ft s.length i < s.length := by
        rw [nmlt i (by rw [hg.len]; exact h1)]
        exact hg.lt _ (List.mem_of_getElem? (ftl h1))
      have h3 : β' (nmR ft s.length i) = β (nmR ft s.length i) := if_pos h2
      rw [h3, hx.fix i (by rw [hg.len]; exact h1)]
    · have h2 : nmR ft s.length i = s.length + (i - ft.length) := by unfold nmR; rw [if_neg h1]
      have h3 : β' (s.length + (i - ft.length)) = βc' (ft.length + (s.length + (i - ft.length) - s.length)) := if_neg (by omega)
      rw [h2, h3]; congr 1; omega
  -- a block of the caller's behind the call
  have get : ∀ {j b}, (backS ft s sc')[j]? = some (some b) → (j < s.length ∧ j ∉ ft ∧ s[j]? = some (some b)) ∨ ∃ i b', i < sc'.length ∧ r i = j ∧ sc'[i]? = some (some b') ∧ b = renB r b' := by
    intro j b hb
    unfold backS at hb
    by_cases hj : j < s.length
    · rw [List.getElem?_append_left (by simpa using hj)] at hb
      rw [List.getElem?_map, List.getElem?_range hj] at hb
      simp only [Option.map_some, Option.some.injEq] at hb
      split at hb
      · rename_i i hi
        have hfi := idxOf?_some hg.nd hi
        have hil := (List.getElem?_eq_some_iff.1 hfi).1
        split at hb
        · rename_i b' hb'
          simp only [Option.some.injEq] at hb
          right
          refine ⟨i, b', (List.getElem?_eq_some_iff.1 hb').1, ?_, hb', hb.symm⟩
          show nmR ft s.length i = j
          rw [nmlt i (by rw [hg.len]; exact hil)]
          have := ftl hil
          rw [hfi] at this; simpa using this.symm
        · cases hb
      · rename_i hi
        left
        rw [List.idxOf?_eq_none_iff] at hi
        split at hb
        · rename_i b' hb'; subst hb; exact ⟨hj, hi, hb'⟩
        · cases hb
    · rw [List.getElem?_append_right (by simpa using hj)] at hb
      simp only [List.length_map, List.length_range, List.getElem?_map, List.getElem?_drop, Option.map_eq_some_iff] at hb
      obtain ⟨x, hx', hb⟩ := hb
      split at hb
      · rename_i b'
        simp only [Option.some.injEq] at hb
        right
        refine ⟨ft.length + (j - s.length), b', (List.getElem?_eq_some_iff.1 hx').1, ?_, hx', hb.symm⟩
        show nmR ft s.length _ = j
        unfold nmR
        rw [if_neg (by omega)]; omega
      · cases hb
  have al : ∀ j, Alive (backS ft s sc') j → (j < s.length ∧ j ∉ ft ∧ Alive s j) ∨ ∃ i, i < sc'.length ∧ r i = j ∧ Alive sc' i := fun j ⟨b, hb⟩ => by
    rcases get hb with ⟨h1, h2, h3⟩ | ⟨i, b', h1, h2, h3, _⟩
    · exact .inl ⟨h1, h2, b, h3⟩
    · exact .inr ⟨i, h1, h2, b', h3⟩
  have hβ' : ∀ {j}, j < s.length → β' j = β j := fun hj => if_pos hj
  have nown : ∀ j, Alive s j → j ∉ ft → ∀ i, Alive sc i → (βc i).b ≠ (β j).b := fun j hj hn i hi => by
    refine hz.inj _ _ (alc i hi) hj fun e => hn ?_
    have hil := alive_lt hi
    rw [nmlt i hil] at e
    rw [← e]; exact List.mem_of_getElem? (ftl (by rw [← hg.len]; exact hil))
  refine ⟨renA r v, backS ft s sc', K', β', u, rfl, hq v sc' q, ⟨?_, ?_, ?_, hz'.kb⟩, R_ren hbb hrlt hR, ?_⟩
  · intro j b hb
    rcases get hb with ⟨h1, h2, h3⟩ | ⟨i, b', h1, h2, h3, rfl⟩
    · rw [hβ' h1]
      exact hz.old hst (by rw [hlen']; omega) (fun i hi => hβ' hi) h3 (hx.frame _ (hz.lt ⟨b, h3⟩) fun i hi => nown j ⟨b, h3⟩ h2 i hi)
    · rw [← h2, ← hbb i h1]
      exact BlkOK_ren hbb hrlt (hz'.blk i b' h3)
  · intro j k hj hk hjk
    have apart : ∀ j, j < s.length → j ∉ ft → Alive s j → ∀ i, i < sc'.length → Alive sc' i → (β j).b ≠ (βc' i).b := fun j h1 h2 h3 i h4 h5 e => by
      rcases hx.onew i h5 with h6 | ⟨k, hk, h6⟩
      · have := hz.lt h3; omega
      · exact nown j h3 h2 k hk (h6.trans e.symm)
    rcases al j hj with ⟨h1, h2, h3⟩ | ⟨i, h1, h2, h3⟩ <;> rcases al k hk with ⟨g1, g2, g3⟩ | ⟨i', g1, g2, g3⟩
    · rw [hβ' h1, hβ' g1]; exact hz.inj j k h3 g3 hjk
    · rw [hβ' h1, ← g2, ← hbb i' g1]; exact apart j h1 h2 h3 i' g1 g3
    · rw [hβ' g1, ← h2, ← hbb i h1]; exact fun e => apart k g1 g2 g3 i h1 h3 e.symm
    · rw [← h2, ← g2, ← hbb i h1, ← hbb i' g1]; exact hz'.inj i i' h3 g3 fun e => hjk (by rw [← h2, ← g2, e])
  · intro j hj hk
    rcases al j hj with ⟨h1, h2, h3⟩ | ⟨i, h1, h2, h3⟩
    · rw [hβ' h1] at hk
      rcases hx.knew _ hk with h | h | ⟨i, hi, h⟩
      · exact hz.dis j h3 h
      · have := hz.lt h3; omega
      · exact nown j h3 h2 i hi h
    · rw [← h2, ← hbb i h1] at hk; exact hz'.dis i h3 hk
  · exact { size := hx.size, io := hx.io, fix := fun i hi => hβ' hi, len := by rw [hlen']; omega, kmono := hx.kmono
            frame := fun b hb hn => hx.frame b hb fun i hi => hn _ (alc i hi)
            knew := fun b hb => by
              rcases hx.knew b hb with h | h | ⟨i, hi, h⟩
              · exact .inl h
              · exact .inr (.inl h)
              · exact .inr (.inr ⟨_, alc i hi, h⟩)
            onew := fun j hj => by
              rcases al j hj with ⟨h1, h2, h3⟩ | ⟨i, h1, h2, h3⟩
              · rw [hβ' h1]; exact .inr ⟨j, h3, rfl⟩
              · rw [← h2, ← hbb i h1]
                rcases hx.onew i h3 with h | ⟨k, hk, h⟩
                · exact .inl h
                · exact .inr ⟨_, alc k hk, h⟩ }
end Go.Proofs.Ytcedkkleclhglaa.H
