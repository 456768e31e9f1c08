/- Files, told by their bytes; what is safe. Plain. -/
import Derived.Test.YtakebdeldndaaaaGreatDoorStor2
namespace Go.Proofs.YtakebdeldndaaaaGreatDoor
open Go Go.RowKit
set_option linter.unusedSimpArgs false
set_option linter.unusedVariables false
theorem atF_crashF (keep : Int) : ∀ (F : Files) (nm : List UInt8), atF (crashF keep F) nm = (atF F nm).map (crash1 keep)
  | [], nm => rfl
  | p :: F, nm => by
    have ih := atF_crashF keep F nm
    unfold atF crashF at ih ⊢
    rw [List.map_cons, List.find?_cons, List.find?_cons]
    cases h : (p.1 == nm) with
    | true => rfl
    | false => exact ih
theorem crash1_b {keep : Int} {f : File} (h : (f.b.length : Int) ≤ keep) : (crash1 keep f).b = f.b := by
  unfold crash1
  exact List.take_of_length_le (by unfold crashN; omega)
end Go.Proofs.YtakebdeldndaaaaGreatDoor
