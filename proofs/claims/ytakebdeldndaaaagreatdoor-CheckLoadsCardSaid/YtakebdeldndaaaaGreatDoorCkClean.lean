/- check.Clean. -/
import Derived.Test.YtakebdeldndaaaaGreatDoorSv
namespace Go.Proofs.YtakebdeldndaaaaGreatDoor
open Go Go.RowKit
set_option linter.unusedSimpArgs false
set_option linter.unusedVariables false
end Go.Proofs.YtakebdeldndaaaaGreatDoor
