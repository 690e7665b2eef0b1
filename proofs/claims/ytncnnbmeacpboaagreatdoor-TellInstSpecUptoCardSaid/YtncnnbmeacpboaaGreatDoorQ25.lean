/- Parts of the proof. -/
import Derived.Test.YtncnnbmeacpboaaGreatDoorQ08
import Derived.Test.YtncnnbmeacpboaaGreatDoorChecked
import Derived.BigQuiet
import Derived.Shelf.Abstract
import Derived.Test.YtncnnbmeacpboaaGreatDoorQ23
set_option linter.unusedVariables false
set_option linter.unusedSimpArgs false
namespace Go.Proofs.YtncnnbmeacpboaaGreatDoor
open Go.RowKit Go.aa
theorem below_bytesWorld{w:World}(e:TypeId)(s:ByteArray):Below w.heap.size w (Lib.bytesWorld w e s):=
 ⟨rfl,rfl,rfl,by rw[Lib.bytesWorld_size];omega,fun k hk=>Lib.bytesWorld_at_old w e s k hk⟩
end Go.Proofs.YtncnnbmeacpboaaGreatDoor
