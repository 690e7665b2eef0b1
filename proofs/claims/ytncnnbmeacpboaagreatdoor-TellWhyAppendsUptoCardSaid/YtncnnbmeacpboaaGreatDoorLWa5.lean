/- Parts of the proof. -/
import Derived.Test.YtncnnbmeacpboaaGreatDoorO12
set_option linter.unusedVariables false
set_option linter.unusedSimpArgs false
