/- Definitions and events as they are typed out. -/
import Derived.Test.YtakebdeldndaaaaGreatDoorPja
namespace Go.Proofs.YtakebdeldndaaaaGreatDoor
open Go Go.RowKit
set_option linter.unusedSimpArgs false
set_option linter.unusedVariables false
theorem def_mk {w : World} {K : Nat → Prop} {d : DefV} {A : Option Addr} {n c : Nat} (h1 : Short d.field) (hq : SlR RCl w K A n c d.q) : RDef.rel w K d [.int .i64 d.kind, .string (str d.field), .slice A n c] :=
 ⟨[.int .i64 d.kind], _, rfl, rfl, [strV d.field], _, rfl, ⟨rfl, h1⟩, slice_mk hq⟩
def d0 : DefV := ⟨1, [], [allC]⟩
def e0 : EvV := ⟨[], [], [], []⟩
end Go.Proofs.YtakebdeldndaaaaGreatDoor
