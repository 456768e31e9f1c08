/- A text as an argument of a row, with its reading. -/
import Derived.Test.YtpmmapcjohmniaaOpF
import Derived.SizedLaws
namespace Go.Proofs.Ytpmmapcjohmniaa
open Go Go.RowKit Go.ChangeShapes Go.WideShapes Go.ChangeAt
set_option linter.unusedVariables false
set_option maxRecDepth 100000

theorem open_txtZ {H : Type} {enc : TypeId × Value → H} {W : World} {r : Reach} {base : Nat} {v : Value} {d : DataW H} {p : List MemPlace}
    (hv : Value.okWide Try.prog W r base 9 v) (h : DataW.Trod enc Try.prog W 0 (fun _ => true) true 9 v d p) : ∃ s : Str, v = .string (str s) ∧ d = .lit (.string s) := by
  obtain ⟨fuel, hf⟩ := h
  obtain ⟨b, rfl⟩ := okWide_string Try.underlying9 hv
  obtain ⟨s, e, hx, hw⟩ := DataW.trod_string Try.underlying9 hf
  simp [Value.cells] at e
  subst e
  obtain ⟨y, rfl, hy⟩ := str_of b
  refine ⟨y, rfl, ?_⟩
  injection hx
theorem reach_eq {n : Nat} (h : n ≤ reachBytes) : n ≤ 140737488351232 := h
end Go.Proofs.Ytpmmapcjohmniaa
