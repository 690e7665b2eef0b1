/- Joined texts: UBulk2. -/
import Derived.Test.YtncnnbmeacpboaaGreatDoorN35
set_option linter.unusedVariables false
set_option linter.unusedSimpArgs false
/- Instances of bounded bulk. -/
namespace Go.Proofs.YtncnnbmeacpboaaGreatDoor
open Go.RowKit Go.Chalk
theorem inxs_fit {l:List Inx} (h:bulks (l.map Inx.toD)<=1048576):l.length<=1000000/\∀ i∈l,i.binds.length<=2000000:=by
 have h3:∀ l:List Inx,2*l.length<=bulks (l.map Inx.toD):=by
  intro l
  induction l with
  | nil=>simp
  | cons i r ih=>rw [List.map_cons,bulks,List.length_cons];simp only [Inx.toD,D.bulk,bulks];omega
 have:=h3 l
 exact ⟨by omega,fun i hi=>inx_fit (by have:=bulks_map_mem (f:=Inx.toD) hi;omega)⟩
end Go.Proofs.YtncnnbmeacpboaaGreatDoor
