/- Joined texts: CardA. -/
import Derived.Test.YtncnnbmeacpboaaGreatDoorChecked
import Derived.Test.YtncnnbmeacpboaaGreatDoorRows
import Derived.JoinedCond
set_option linter.unusedVariables false
set_option linter.unusedSimpArgs false
/- Closed facts that all cards of a seat share. -/
namespace Go.Proofs.YtncnnbmeacpboaaGreatDoor
theorem andT {a b:Bool} (ha:a=true) (hb:b=true):(a&&b)=true:=by rw [ha,hb];rfl
theorem card_k2:laidOutB Tryz.prog=true:=by kernel_rfl
theorem card_k3:mapsRowed Tryz.prog=true:=by kernel_rfl
theorem card_k25:Tryz.prog.stopsHeard=true:=by kernel_rfl
theorem card_k26:Tryz.prog.mayEnter=true:=by kernel_rfl
end Go.Proofs.YtncnnbmeacpboaaGreatDoor
