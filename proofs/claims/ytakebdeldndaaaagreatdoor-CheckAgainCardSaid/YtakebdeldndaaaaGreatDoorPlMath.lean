/- What is folded behind what is loaded. Plain. -/
import Derived.Test.YtakebdeldndaaaaGreatDoorRq
import Derived.Test.YtakebdeldndaaaaGreatDoorFitB
namespace Go.Proofs.YtakebdeldndaaaaGreatDoor
open Go
set_option linter.unusedVariables false

theorem may_kind {d : DefV} (h : mayDef d = 0) : 1 ≤ d.kind ∧ d.kind ≤ 4 := by
  unfold mayDef at h
  split at h
  · cases h
  · rename_i h1; omega
theorem nz_count {d : DefV} {k : Str} {D : Ents} (h : d.kind ≠ 3 → ∀ p ∈ D, p.2 ≠ 0) : d.kind ≠ 3 → ∀ p ∈ setF d k (atI D k + 1) D, p.2 ≠ 0 := fun h3 p hp => by
  rcases mem_set0 hp with ⟨rfl, hn⟩ | hp
  · exact hn.elim id fun h => absurd h h3
  · exact h h3 p hp
theorem nz_members {d : DefV} {st : Str} : ∀ (ts : List Str) {D : Ents}, (d.kind ≠ 3 → ∀ p ∈ D, p.2 ≠ 0) → d.kind ≠ 3 → ∀ p ∈ membersF d st ts D, p.2 ≠ 0
  | [], D, h => h
  | t :: ts, D, h => nz_members ts (nz_count h)
theorem okR_step {d : DefV} {e : EvV} {D : Ents} (h : OkR d D) : OkR d (StepF d e D).2 := by
  unfold StepF
  split
  rotate_left
  · exact h
  unfold stepF
  split
  · rename_i h2
    unfold sumF
    split
    · exact h
    · rename_i hs
      refine ⟨up_setF h.up, fun h3 p hp => ?_, fun _ => ?_⟩
      · rcases mem_set0 hp with ⟨rfl, hn⟩ | hp
        · exact hn.elim id fun h => absurd h h3
        · exact h.nz h3 p hp
      · show fitsN (atI (setF d [] (atI D [] + (valF e.fields d.field).getD 0) D) []) = true
        rw [atI_setF, if_pos rfl]
        by_cases h0 : (valF e.fields d.field).getD 0 = 0
        · rw [h0, Int.add_zero]; exact h.fit h2
        · cases hf : fitsN (atI D [] + (valF e.fields d.field).getD 0)
          · exact absurd ⟨hf, h0⟩ hs
          · rfl
  rename_i h2
  split
  · rename_i h3
    show OkR d (latestF d e D)
    unfold latestF
    split
    · exact ⟨up_setF h.up, fun h => absurd h3 h, fun h => absurd h h2⟩
    · exact h
  split
  · exact ⟨up_members _ h.up, nz_members _ h.nz, fun h => absurd h h2⟩
  · exact ⟨up_setF h.up, nz_count h.nz, fun h => absurd h h2⟩
end Go.Proofs.YtakebdeldndaaaaGreatDoor

