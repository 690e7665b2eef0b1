/- Parts of the proof. -/
import Derived.Test.YtncnnbmeacpboaaGreatDoorQ04
set_option linter.unusedVariables false
set_option linter.unusedSimpArgs false
namespace Go.aa
open Go.RowKit
theorem au.OI{w:World}{F:Nat->Prop}{x:D}{cs:List Value}(h:bg w F x cs):au w F [x] cs:=by rw[au];exact⟨cs,[],(List.append_nil _).symm,h,by rw[au]⟩
def Fr(lo:Nat)(w:World)(k:Nat):Prop:=lo<=k/\k<w.heap.size
end Go.aa
