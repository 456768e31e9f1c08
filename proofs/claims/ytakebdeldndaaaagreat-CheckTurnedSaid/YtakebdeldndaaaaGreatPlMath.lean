/- What is folded behind what is loaded. Plain. -/
import Derived.Test.YtakebdeldndaaaaGreatRq
import Derived.Test.YtakebdeldndaaaaGreatFitB
namespace Go.Proofs.YtakebdeldndaaaaGreat
open Go
set_option linter.unusedVariables false

theorem may_kind {d : DefV} (h : mayDef d = 0) : 1 ≤ d.kind ∧ d.kind ≤ 4 := by
  unfold mayDef at h
  split at h
  · cases h
  · rename_i h1; omega
theorem nz_count {d : DefV} {k : Str} {D : Ents} (h : d.kind ≠ 3 → ∀ p ∈ D, p.2 ≠ 0) : d.kind ≠ 3 → ∀ p ∈ setF d k (atI D k + 1) D, p.2 ≠ 0 := fun h3 p hp => by
  rcases mem_set0 hp with ⟨rfl, hn⟩ | hp
  · exact hn.elim id fun h => absurd h h3
  · exact h h3 p hp
theorem nz_members {d : DefV} {st : Str} : ∀ (ts : List Str) {D : Ents}, (d.kind ≠ 3 → ∀ p ∈ D, p.2 ≠ 0) → d.kind ≠ 3 → ∀ p ∈ membersF d st ts D, p.2 ≠ 0
  | [], D, h => h
  | t :: ts, D, h => nz_members ts (nz_count h)
theorem okR_step {d : DefV} {e : EvV} {D : Ents} (h : OkR d D) : OkR d (StepF d e D).2 := by
  unfold StepF
  split
  rotate_left
  · exact h
  unfold stepF
  split
  · rename_i h2
    unfold sumF
    split
    · exact h
    · rename_i hs
      refine ⟨up_setF h.up, fun h3 p hp => ?_, fun _ => ?_⟩
      · rcases mem_set0 hp with ⟨rfl, hn⟩ | hp
        · exact hn.elim id fun h => absurd h h3
        · exact h.nz h3 p hp
      · show fitsN (atI (setF d [] (atI D [] + (valF e.fields d.field).getD 0) D) []) = true
        rw [atI_setF, if_pos rfl]
        by_cases h0 : (valF e.fields d.field).getD 0 = 0
        · rw [h0, Int.add_zero]; exact h.fit h2
        · cases hf : fitsN (atI D [] + (valF e.fields d.field).getD 0)
          · exact absurd ⟨hf, h0⟩ hs
          · rfl
  rename_i h2
  split
  · rename_i h3
    show OkR d (latestF d e D)
    unfold latestF
    split
    · exact ⟨up_setF h.up, fun h => absurd h3 h, fun h => absurd h h2⟩
    · exact h
  split
  · exact ⟨up_members _ h.up, nz_members _ h.nz, fun h => absurd h h2⟩
  · exact ⟨up_setF h.up, nz_count h.nz, fun h => absurd h h2⟩
theorem okR_load {d : DefV} {l : Ents} : OkR d (loadF d l []) ∧ (loadF d l []).length ≤ l.length ∧ FitB 1125899906842624 (loadF d l []) := by
  cases hok : okE d l
  · rw [loadF_no hok]
    exact ⟨⟨List.Pairwise.nil, fun _ p hp => by simp at hp, fun _ => rfl⟩, by simp, fun p hp => by simp at hp⟩
  · rw [loadF_ok hok]
    have hf := okE_fit hok
    refine ⟨⟨okE_up hok, fun h3 p hp => ?_, fun _ => ?_⟩, Nat.le_refl _, hf⟩
    · obtain ⟨j, hj, rfl⟩ := List.getElem_of_mem hp
      have := okE_bad hok hj
      unfold badE at this
      rw [Bool.or_eq_false_iff] at this
      have h2 := this.2
      rw [gE_at hj] at h2
      intro h0
      rw [h0] at h2
      simp [h3] at h2
    · rcases atI_mem (D := l) (k := []) with e | ⟨x, hx, e⟩
      · rw [e]; rfl
      · rw [← e, fitsN_iff]; exact hf x hx
structure PlayOk (d : DefV) (j : Nat) (D : Ents) : Prop where
  ok : OkR d D
  len : D.length ≤ 30 + 1000 * j
  fit : FitB (1125899906842624 + 1000 * (j : Int)) D
set_option maxRecDepth 100000 in
theorem play_ok {d : DefV} {l : Ents} {fl : List EvV} (hsm : ∀ e ∈ fl, SmallE e) (hl : l.length ≤ 30) : ∀ j, j ≤ fl.length → PlayOk d j (foldE d (loadF d l []) (fl.take j))
  | 0, _ => by
    obtain ⟨h1, h2, h3⟩ := okR_load (d := d) (l := l)
    exact ⟨h1, by show (loadF d l []).length ≤ _; omega, by show FitB _ (loadF d l []); simpa using h3⟩
  | j + 1, hj => by
    have hx : j < fl.length := by omega
    obtain ⟨h1, h2, h3⟩ := play_ok (d := d) (l := l) hsm hl j (by omega)
    have hs := hsm _ (List.getElem_mem hx)
    rw [foldE_take d _ hx]
    refine ⟨okR_step h1, ?_, (fitB_step h3 (by omega) hs).le (by omega)⟩
    have := length_step d fl[j] (foldE d (loadF d l []) (fl.take j)) hs
    omega
end Go.Proofs.YtakebdeldndaaaaGreat
