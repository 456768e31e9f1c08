/- A set, and the reference's one, side by side. -/
import Derived.Test.YtakebdeldndaaaaGreatDoorLd
import Derived.Test.YtakebdeldndaaaaGreatDoorRs
namespace Go.Proofs.YtakebdeldndaaaaGreatDoor
open Go Go.RowKit
set_option linter.unusedSimpArgs false
set_option linter.unusedVariables false
section
variable {w w' : World} {S S' : Nat → Prop} {p : Nat} {L : List Pc}
end
section
variable {n0 : Nat} {w w' : World} {S S' : Nat → Prop} {p q : Nat} {L M : List Pc}
end
end Go.Proofs.YtakebdeldndaaaaGreatDoor
