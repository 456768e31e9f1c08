/- How far a step goes. Plain. -/
import Derived.Test.YtakebdeldndaaaaGreatDoorFoy
namespace Go.Proofs.YtakebdeldndaaaaGreatDoor
open Go
set_option linter.unusedVariables false

theorem fitB_step {d : DefV} {e : EvV} {D : Ents} {B : Int} (h : FitB B D) (hB : 1125899906842624 ≤ B) (he : SmallE e) : FitB (B + 1000) (StepF d e D).2 := by
  have hm := he.many
  have h1 : FitB (B + 1000) D := h.le (by omega)
  unfold StepF
  split
  rotate_left
  · exact h1
  unfold stepF
  split
  · unfold sumF
    split
    · exact h1
    · rename_i hs
      have hx := atI_fit h (by omega) []
      refine h1.set ?_
      by_cases h0 : (valF e.fields d.field).getD 0 = 0
      · rw [h0]; omega
      · cases hf : fitsN (atI D [] + (valF e.fields d.field).getD 0)
        · exact absurd ⟨hf, h0⟩ hs
        · have := (fitsN_iff _).1 hf; omega
  split
  · show FitB _ (latestF d e D)
    unfold latestF
    split
    · rename_i v hv
      have := valF_small he d.field
      rw [hv] at this
      exact h1.set (by simp only [Option.getD_some] at this; omega)
    · exact h1
  split
  · exact (membersF_fit (d := d) (st := e.st) e.tags h (by omega)).le (by omega)
  · exact (countF_fit (d := d) (k := []) h (by omega)).le (by omega)
structure RunFit (d : DefV) (D : Ents) (B : Int) (n : Nat) : Prop where
  len : D.length + 1000 * n + 1000 < 1000000
  fit : FitB B D
  lo : 1125899906842624 ≤ B
  hi : B + 1000 * (n : Int) ≤ 2305843009213693952
set_option maxRecDepth 100000 in
theorem RunFit.at_ {d : DefV} {D : Ents} {B : Int} {es : List EvV} (h : RunFit d D B es.length) (hs : ∀ e ∈ es, SmallE e) : ∀ k, k ≤ es.length → (foldE d D (es.take k)).length ≤ D.length + 1000 * k ∧ FitB (B + 1000 * (k : Int)) (foldE d D (es.take k))
  | 0, _ => ⟨by simp [foldE], by simpa [foldE] using h.fit⟩
  | k + 1, hk => by
    have hx : k < es.length := by omega
    obtain ⟨h1, h2⟩ := h.at_ hs k (by omega)
    have hs1 := hs _ (List.getElem_mem hx)
    have hlo := h.lo
    rw [foldE_take d _ hx]
    refine ⟨?_, (fitB_step h2 (by omega) hs1).le (by omega)⟩
    have := length_step d es[k] (foldE d D (es.take k)) hs1
    omega
set_option maxRecDepth 100000 in
theorem RunFit.ok {d : DefV} {D : Ents} {B : Int} {es : List EvV} (h : RunFit d D B es.length) (hs : ∀ e ∈ es, SmallE e) (k : Nat) (hk : k < es.length) : (foldE d D (es.take k)).length + 1000 < 1000000 ∧ FitB 2305843009213693952 (foldE d D (es.take k)) := by
  obtain ⟨h1, h2⟩ := h.at_ hs k (by omega)
  have h3 := h.len; have h4 := h.hi
  exact ⟨by omega, h2.le (by omega)⟩
end Go.Proofs.YtakebdeldndaaaaGreatDoor

