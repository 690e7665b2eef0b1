/- Parts of the proof. -/
import Derived.Test.YtncnnbmeacpboaaGreatDoorO04
import Derived.Test.YtncnnbmeacpboaaGreatDoorProg
import Derived.Deep.RegionLaw
import Derived.BigQuiet
set_option linter.unusedVariables false
set_option linter.unusedSimpArgs false
