/- Parts of the proof. -/
import Derived.Test.YtncnnbmeacpboaaGreatDoorO35
set_option linter.unusedVariables false
set_option linter.unusedSimpArgs false
namespace Go.Proofs.YtncnnbmeacpboaaGreatDoor
open Go.RowKit Go.aa
theorem xS{l:List dz}(h:bI (l.map dz.toD)<=1048576):l.length<=1000000/\∀i∈l,i.binds.length<=2000000:=by
 have h3:∀l:List dz,2*l.length<=bI (l.map dz.toD):=by
  intro l
  induction l with
  |nil=>simp
  |cons i r ih=>rw[List.map_cons,bI,List.length_cons];simp only[dz.toD,D.bulk,bI];omega
 have:=h3 l;exact⟨by omega,fun i hi=>Ji (by have:=bP (f:=dz.toD) hi;omega)⟩
end Go.Proofs.YtncnnbmeacpboaaGreatDoor
