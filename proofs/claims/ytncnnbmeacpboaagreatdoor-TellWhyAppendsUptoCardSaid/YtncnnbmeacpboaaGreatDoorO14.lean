/- Parts of the proof. -/
import Derived.Test.YtncnnbmeacpboaaGreatDoorO08
import Derived.Test.YtncnnbmeacpboaaGreatDoorChecked
import Derived.BigQuiet
import Derived.Shelf.Abstract
set_option linter.unusedVariables false
set_option linter.unusedSimpArgs false
