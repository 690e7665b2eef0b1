/- Joined texts: LinCheck, Bools. -/
import Derived.Test.YtjjkfgjnadaheaaGreatDoorB08
import Derived.Test.YtjjkfgjnadaheaaGreatDoorChecked
import Derived.Shelf.Abstract
import Derived.WalkLawsBesides
set_option linter.unusedVariables false
set_option linter.unusedSimpArgs false
/- lin.Check of a constraint that is well-formed. -/
namespace Go.Chalk
end Go.Chalk
namespace Go.Proofs.YtjjkfgjnadaheaaGreatDoor
open Go.RowKit Go.Chalk
end Go.Proofs.YtjjkfgjnadaheaaGreatDoor
/- Slices of bools; the value of a literal and of a constraint. -/
namespace Go.Chalk
open Go.RowKit
def dbools (xs:List Bool):List D:=xs.map D.bool
@[simp] theorem dbools_length (xs:List Bool):(dbools xs).length=xs.length:=by simp [dbools]
theorem DAt.open_bools {w:World} {F:Nat->Prop} {xs:List Bool} {cs:List Value} (h:DAt w F (.sl (dbools xs)) cs) :
  ∃ a b o cap,cs=[.slice a xs.length cap]/\SlAt F a b o xs.length/\xs.length<=cap/\cap<=maxLen/\∀ (i:Nat) (h:i<xs.length),w.cell? ⟨b,o+i,none⟩=some (.bool xs[i]):=by
 rw [DAt] at h
 obtain ⟨a,b,o,cap,rfl,h1,h2,h3,h4⟩:=h
 rw [dbools_length] at h1 h2
 refine ⟨a,b,o,cap,by rw [dbools_length],h1,h2,h3,fun i hi=>?_⟩
 obtain ⟨cs,g1,g2⟩:=h4.get (sz:=1) (fun x hx=>by simp only [dbools,List.mem_map] at hx;obtain ⟨y,_,rfl⟩:=hx;rfl) i (by simpa using hi)
 have e:(dbools xs)[i]'(by simpa using hi)=.bool xs[i]:=by simp [dbools]
 rw [e,DAt] at g1
 subst g1
 simpa using g2 0 (by simp)
theorem DsAt.bools {w:World} {F:Nat->Prop}:∀ {xs:List Bool},DsAt w F (dbools xs) (xs.map Value.bool)
 | []=>by rw [dbools,List.map_nil,DsAt];rfl
 | x :: r=>by rw [dbools,List.map_cons,DsAt];exact ⟨[.bool x],r.map Value.bool,rfl,by rw [DAt],DsAt.bools⟩

end Go.Chalk
namespace Go.Proofs.YtjjkfgjnadaheaaGreatDoor
open Go.RowKit Go.Chalk
end Go.Proofs.YtjjkfgjnadaheaaGreatDoor
