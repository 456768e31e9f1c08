/- How many are kept, and calls, as an argument of a row. -/
import Derived.Test.YtpipmkaljkhgiaaDoorOps
namespace Go.Proofs.YtpipmkaljkhgiaaDoor
open Go Go.RowKit Go.ChangeShapes Go.WideShapes Go.ChangeAt
set_option maxRecDepth 100000
set_option linter.unusedVariables false

theorem okWide_struct {P : Program} {w : World} {r : Reach} {base : Nat} {t : TypeId} {fs : Array Field} {v : Value} (ht : P.underlying t = some (.struct fs)) (h : Value.okWide P w r base t v) : ∃ cs, v = .agg cs ∧ cs.size = P.cellsOf t := by
  simp only [Value.okWide, ht] at h
  cases v <;> simp at h
  exact ⟨_, rfl, h.1⟩
theorem open_restV {H : Type} {enc : TypeId × Value → H} {W : World} {r : Reach} {base : Nat} {v : Value} {d : DataW H} {p : List MemPlace} (hv : Value.okWide Tryd.prog W r base 42 v)
    (h : DataW.Trod enc Tryd.prog W 0 (fun _ => true) true 42 v d p) : ∃ (x : Int) (a : Option Addr) (len cap : Nat) (xs : List OpV), v = .agg #[.int .i64 x, .slice a len cap] ∧ (-9223372036854775808 ≤ x ∧ x ≤ 9223372036854775807) ∧ SlR ROp W (· < W.heap.size) a len cap xs := by
  obtain ⟨cs, rfl, hs⟩ := okWide_struct Tryd.underlying42 hv
  obtain ⟨x, a, len, cap, xs, rfl, h1, h2⟩ := open_rest (by rw [hs, rest_cells]) h
  exact ⟨x, a, len, cap, xs, rfl, h1, h2⟩
end Go.Proofs.YtpipmkaljkhgiaaDoor
