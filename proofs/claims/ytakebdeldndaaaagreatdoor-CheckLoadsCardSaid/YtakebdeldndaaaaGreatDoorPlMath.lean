/- What is folded behind what is loaded. Plain. -/
import Derived.Test.YtakebdeldndaaaaGreatDoorRq
import Derived.Test.YtakebdeldndaaaaGreatDoorFitB
namespace Go.Proofs.YtakebdeldndaaaaGreatDoor
open Go
set_option linter.unusedVariables false
end Go.Proofs.YtakebdeldndaaaaGreatDoor
