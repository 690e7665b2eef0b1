/- Joined texts: YLexB. -/
import Derived.Test.YtncnnbmeacpboaaGreatDoorN14
import Derived.Test.YtncnnbmeacpboaaGreatDoorN23
import Derived.WalkSmall
import Derived.WalkMore
set_option linter.unusedVariables false
set_option linter.unusedSimpArgs false
/- lex.numeral, sign; slices.Index over bytes. -/
namespace Go.Proofs.YtncnnbmeacpboaaGreatDoor
open Go.RowKit Go.Chalk
theorem below_bytesWorld {w:World} (e:TypeId) (s:ByteArray):Below w.heap.size w (Lib.bytesWorld w e s) :=
 ⟨rfl,rfl,rfl,by rw [Lib.bytesWorld_size];omega,fun k hk=>Lib.bytesWorld_at_old w e s k hk⟩

end Go.Proofs.YtncnnbmeacpboaaGreatDoor
