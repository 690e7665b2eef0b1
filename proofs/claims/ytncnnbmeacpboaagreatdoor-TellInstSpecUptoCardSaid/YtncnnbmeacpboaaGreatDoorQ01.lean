/- Parts of the proof. -/
import Derived.Test.YtncnnbmeacpboaaGreatDoorRows
import Derived.JoinedCond
set_option linter.unusedVariables false
set_option linter.unusedSimpArgs false
namespace Go.Proofs.YtncnnbmeacpboaaGreatDoor
theorem iM{a b:Bool}(ha:a=true)(hb:b=true):(a&&b)=true:=by rw[ha,hb];rfl
theorem NN:laidOutB Tryz.prog=true:=by kernel_rfl
theorem NP:mapsRowed Tryz.prog=true:=by kernel_rfl
theorem J8:Tryz.prog.stopsHeard=true:=by kernel_rfl
theorem J9:Tryz.prog.mayEnter=true:=by kernel_rfl
end Go.Proofs.YtncnnbmeacpboaaGreatDoor
