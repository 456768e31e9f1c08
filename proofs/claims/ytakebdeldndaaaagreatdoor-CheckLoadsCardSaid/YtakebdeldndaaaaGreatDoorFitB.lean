/- How far a step goes. Plain. -/
import Derived.Test.YtakebdeldndaaaaGreatDoorFoy
namespace Go.Proofs.YtakebdeldndaaaaGreatDoor
open Go
set_option linter.unusedVariables false
end Go.Proofs.YtakebdeldndaaaaGreatDoor
