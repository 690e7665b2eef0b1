/- Parts of the proof. -/
import Derived.Test.YtncnnbmeacpboaaGreatDoorRows
import Derived.JoinedCond
set_option linter.unusedVariables false
set_option linter.unusedSimpArgs false
namespace Go.Proofs.YtncnnbmeacpboaaGreatDoor
theorem gy{a b:Bool}(ha:a=true)(hb:b=true):(a&&b)=true:=by rw[ha,hb];rfl
theorem IC:laidOutB Tryz.prog=true:=by kernel_rfl
theorem IE:mapsRowed Tryz.prog=true:=by kernel_rfl
theorem EN:Tryz.prog.stopsHeard=true:=by kernel_rfl
theorem EO:Tryz.prog.mayEnter=true:=by kernel_rfl
end Go.Proofs.YtncnnbmeacpboaaGreatDoor
