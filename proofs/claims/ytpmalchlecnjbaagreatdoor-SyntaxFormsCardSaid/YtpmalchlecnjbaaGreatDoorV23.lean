/- Joined texts: Small, CheckF, CheckG. -/
import Derived.Test.YtpmalchlecnjbaaGreatDoorV10
import Derived.Test.YtpmalchlecnjbaaGreatDoorV11
import Derived.Test.YtpmalchlecnjbaaGreatDoorV22
import Derived.Test.YtpmalchlecnjbaaGreatDoorV06
set_option linter.unusedVariables false
set_option linter.unusedSimpArgs false
/- Small functions: slices.Contains of ints, cmp.Compare, eval.times. -/
namespace Go.Proofs.YtpmalchlecnjbaaGreatDoor
open Go.RowKit Go.Chalk
end Go.Proofs.YtpmalchlecnjbaaGreatDoor
/- The closures of school.Check. -/
namespace Go.Proofs.YtpmalchlecnjbaaGreatDoor
open Go.RowKit Go.Chalk
attribute [local go_sem] Oper.semAt_some
theorem any_range {α:Type} (l:List α) (f:α->Bool):(List.range l.length).any (fun j=>(l[j]?.map f).getD false)=l.any f:=by
 rw [Bool.eq_iff_iff,List.any_eq_true,List.any_eq_true]
 constructor
 ·rintro ⟨j,hj,h⟩
  have hj':=List.mem_range.1 hj
  rw [List.getElem?_eq_getElem hj'] at h
  exact ⟨l[j],List.getElem_mem hj',by simpa using h⟩
 ·rintro ⟨y,hy,h⟩
  obtain ⟨j,hj,rfl⟩:=List.getElem_of_mem hy
  exact ⟨j,List.mem_range.2 hj,by rw [List.getElem?_eq_getElem hj];simpa using h⟩

theorem cell_alloc {w:World} {x:Obj} {p:Addr} {v:Value} (h:w.cell? p=some v):(w.alloc x).cell? p=some v :=
 (((Below.refl w.heap.size w).alloc (Nat.le_refl _) x).cell (World.block_lt_of_cell? w p h)).trans h
end Go.Proofs.YtpmalchlecnjbaaGreatDoor
/- ContainsFunc with the closures of school.Check. -/
namespace Go.Proofs.YtpmalchlecnjbaaGreatDoor
open Go.RowKit Go.Chalk
end Go.Proofs.YtpmalchlecnjbaaGreatDoor
