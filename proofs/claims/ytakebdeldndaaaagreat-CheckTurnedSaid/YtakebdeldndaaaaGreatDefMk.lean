/- Definitions and events as they are typed out. -/
import Derived.Test.YtakebdeldndaaaaGreatPja
namespace Go.Proofs.YtakebdeldndaaaaGreat
open Go Go.RowKit
set_option linter.unusedSimpArgs false
set_option linter.unusedVariables false

theorem def_mk {w : World} {K : Nat → Prop} {d : DefV} {A : Option Addr} {n c : Nat} (h1 : Short d.field) (hq : SlR RCl w K A n c d.q) : RDef.rel w K d [.int .i64 d.kind, .string (str d.field), .slice A n c] :=
  ⟨[.int .i64 d.kind], _, rfl, rfl, [strV d.field], _, rfl, ⟨rfl, h1⟩, slice_mk hq⟩
def d0 : DefV := ⟨1, [], [allC]⟩
def e0 : EvV := ⟨[], [], [], []⟩
theorem fold_e0 : foldE d0 [] [e0, e0] = [([], 2)] := by decide
theorem small_e0 : SmallE e0 := ⟨by decide, by simp [e0], by simp [e0], by simp [e0]⟩
end Go.Proofs.YtakebdeldndaaaaGreat
