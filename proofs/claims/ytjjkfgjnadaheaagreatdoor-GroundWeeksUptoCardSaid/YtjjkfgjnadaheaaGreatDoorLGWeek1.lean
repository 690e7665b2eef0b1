/- Joined texts: BoolA. -/
import Derived.Test.YtjjkfgjnadaheaaGreatDoorB13
import Derived.Test.YtjjkfgjnadaheaaGreatDoorB16
set_option linter.unusedVariables false
set_option linter.unusedSimpArgs false
set_option maxRecDepth 100000

/- An argument that the model reads as a list of bools. -/
namespace Go.Proofs.YtjjkfgjnadaheaaGreatDoor
open Go.RowKit Go.Chalk
open Go.ChangeShapes Go.WideShapes Go.ChangeAt
theorem boolTypes:plainTypes Tryz.prog [51,4]=true:=by kernel_rfl
theorem bools_sl {H:Type} {enc:TypeId×Value->H} {W:World} {base:Nat} {v:Value} {d:DataW H} {ps:List MemPlace} {sp:Nat->Bool} {held:Bool} (hval:Value.okWide Tryz.prog W .any base 51 v) (h:DataW.Trod enc Tryz.prog W 0 sp held 51 v d ps) :
  ∃ (l:List Bool) (x:SlA),D.of d=.sl (dbools l)/\v=x.val l.length/\SlIn W (·<W.heap.size) (dbools l) x:=by
 obtain ⟨fuel,hf⟩:=h
 obtain ⟨h1,h2,h3⟩:=trod_at boolTypes fuel _ _ _ _ (by simp) hf
 obtain ⟨l,hl⟩:=h2.slice_of Tryz.underlying51 (f:=D.bool) (fun j y _ hy=>hy.bool Tryz.underlying4)
 obtain ⟨a,n,cap,rfl⟩:=okWide_slice Tryz.underlying51 hval
 rw [hl] at h1
 simp only [Value.cells] at h1
 obtain ⟨x,e,h4⟩:=DAt.sl_iff.1 h1
 rw [List.length_map] at e
 exact ⟨l,x,hl,by simpa using e,h4⟩
end Go.Proofs.YtjjkfgjnadaheaaGreatDoor
