/- Joined texts: YLexA. -/
import Derived.Test.YtncnnbmeacpboaaGreatDoorN08
import Derived.Test.YtncnnbmeacpboaaGreatDoorChecked
import Derived.Deep.QuietTactic
import Derived.BigQuiet
import Derived.Shelf.Abstract
set_option linter.unusedVariables false
set_option linter.unusedSimpArgs false
/- lex.of, run$1, slices.IndexFunc over bytes, run, word. -/
namespace Go.Proofs.YtncnnbmeacpboaaGreatDoor
open Go.RowKit Go.Chalk
end Go.Proofs.YtncnnbmeacpboaaGreatDoor
