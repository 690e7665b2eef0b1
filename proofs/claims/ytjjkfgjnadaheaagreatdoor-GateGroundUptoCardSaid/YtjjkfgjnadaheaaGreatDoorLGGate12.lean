/- Joined texts: XGatesRef. -/
import Derived.Test.YtjjkfgjnadaheaaGreatDoorLGGate11
import Derived.Test.YtjjkfgjnadaheaaGreatDoorLGGate5
import Derived.Deep.QuietTactic
import Derived.BigQuiet
set_option linter.unusedVariables false
set_option linter.unusedSimpArgs false
/- The reference's Gates. -/
namespace Go.Proofs.YtjjkfgjnadaheaaGreatDoor
open Go.RowKit Go.Chalk
def GatesPost (w:World) (r:Int×List Lin×Int×Int) (e:Ending) (w':World):Prop :=
 ∃ v,e=.returned (.tuple #[.int .i64 r.1,v,.int .i64 r.2.2.1,.int .i64 r.2.2.2])/\NewAt w w' (.sl (r.2.1.map Lin.toD)) [v]/\Below w.heap.size w w'
theorem newAt_nil (w w':World):NewAt w w' (.sl (([]:List Lin).map Lin.toD)) [.slice none 0 0] :=
 DAt.slice (xs:=[]) (b:=0) (o:=0) (a:=none) (fun h=>by simp at h) (Nat.le_refl _) (Nat.zero_le _) (by rw [RowAt];trivial)
theorem GatesPost.err {w w':World} {e:Int} (hb:Below w.heap.size w w'):GatesPost w (0,[],0,e) (.returned (.tuple #[.int .i64 0,.slice none 0 0,.int .i64 0,.int .i64 e])) w' :=
 ⟨_,rfl,newAt_nil w w',hb⟩

theorem MkAt.read {w w':World} {G:Nat->Prop} {mb:Nat} {tm tl:TypeId} {ex:List Value} {v:Value} {nx:Int} {ls:List Lin} {r:Option Nat} (h:MkAt w' G mb tm tl ex v nx ls r) (hG:∀ k,G k->w.heap.size<=k):NewAt w w' (.sl (ls.map Lin.toD)) [v]:=by
 obtain ⟨h1,⟨F,h2,h3⟩,h4,h5⟩:=h
 exact h2.read (fun k hk=>⟨hG k (h3 k hk).1,h5 k (h3 k hk).1⟩) (fun k hk=>⟨hG k (h4 k hk).1,h5 k (h4 k hk).1⟩) (by rw [lins_widths,List.length_map])

end Go.Proofs.YtjjkfgjnadaheaaGreatDoor
