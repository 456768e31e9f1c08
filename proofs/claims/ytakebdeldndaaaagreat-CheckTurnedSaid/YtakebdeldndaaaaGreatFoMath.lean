/- What folding comes to. Plain. -/
import Derived.Test.YtakebdeldndaaaaGreatBas15
namespace Go.Proofs.YtakebdeldndaaaaGreat
open Go
set_option linter.unusedVariables false

theorem matchQ_all (e : EvV) : matchQ [allC] e = true := by simp [matchQ, clauseB, allC]
theorem atI_setF (d : DefV) (k k' : Str) (n : Int) (D : Ents) : atI (setF d k n D) k' = if k = k' then n else atI D k' := by
  unfold setF
  split
  · rename_i h
    rw [atI_del]
    split
    · exact h.1.symm
    · rfl
  · exact atI_put k k' n D
def evN (v : Int) : EvV := ⟨[115], [116], [], [([110], v)]⟩
theorem step_over {D : Ents} {sum v : Int} (h : atI D [] = sum) (hs : fitsN sum = true) (hv : fitsN (sum + v) = false) : StepF exD (evN v) D = (4, D) := by
  have hv0 : v ≠ 0 := by rintro rfl; rw [Int.add_zero, hs] at hv; cases hv
  have e : StepF exD (evN v) D = sumF exD (evN v) D := by
    unfold StepF
    rw [show exD.q = [allC] from rfl, if_pos (matchQ_all _)]
    rfl
  rw [e]
  unfold sumF
  rw [show (valF (evN v).fields exD.field).getD 0 = v from rfl, h, if_pos ⟨hv, hv0⟩]
theorem step_in {D : Ents} {sum v : Int} (h : atI D [] = sum) (hv : fitsN (sum + v) = true) : StepF exD (evN v) D = (0, setF exD [] (sum + v) D) := by
  have e : StepF exD (evN v) D = sumF exD (evN v) D := by
    unfold StepF
    rw [show exD.q = [allC] from rfl, if_pos (matchQ_all _)]
    rfl
  rw [e]
  unfold sumF
  rw [show (valF (evN v).fields exD.field).getD 0 = v from rfl, h, if_neg (fun h' => by rw [hv] at h'; cases h'.1)]
theorem fitsN_iff (n : Int) : fitsN n = true ↔ -1125899906842624 ≤ n ∧ n ≤ 1125899906842624 := by unfold fitsN; exact decide_eq_true_iff
theorem load_one {n : Int} (h0 : n ≠ 0) : okE exD [([], n)] = fitsN n := by
  unfold okE
  simp [badE, gE, h0, List.range_succ]
theorem puts_one (n : Int) : putsI [([], n)] = [([], n)] := rfl
end Go.Proofs.YtakebdeldndaaaaGreat
