/- Joined texts: Clone, App. -/
import Derived.Test.YtpmalchlecnjbaaGreatDoorV04
import Derived.Test.YtpmalchlecnjbaaGreatDoorV05
import Derived.Test.YtpmalchlecnjbaaGreatDoorChecked
import Derived.ArgAppend
import Derived.Deep.AppendLies
set_option linter.unusedVariables false
set_option linter.unusedSimpArgs false
/- slices.Clone over flat data. Printed by gen_clone.py. -/
namespace Go.Chalk
open Go.RowKit
theorem flats_map {α:Type} {f:α->D} {sz:Nat} (hf:FlatT f sz):∀ l:List α,flats (l.map f)=true
 | []=>rfl
 | x :: r=>by rw [List.map_cons,flats,hf.flat x,flats_map hf r];rfl
theorem widths_map {α:Type} {f:α->D} {sz:Nat} (hf:FlatT f sz):∀ l:List α,widths (l.map f)=l.length*sz
 | []=>by simp [widths]
 | x :: r=>by rw [List.map_cons,widths,hf.width x,widths_map hf r,List.length_cons,Nat.add_mul];omega
theorem SlIn.later {w w':World} {xs:List D} {x:SlA} {B C:Nat} (h:SlIn w (·<B) xs x) (hb:Below B w w') (hC:B<=C):SlIn w' (·<C) xs x:=(h.agree (agree_of_below hb)).mono (fun _ hk=>Nat.lt_of_lt_of_le hk hC)
theorem Own.sl {w:World} {F G:Nat->Prop} {e:TypeId} {sz:Nat} {v:Value} {r:Option Nat} {xs:List D} (h:Own w F e sz v r xs) (hFG:∀ k,F k->G k) (hr:∀ k,r=some k->G k) (hw:widths xs=xs.length*sz):∃ x:SlA,v=x.val xs.length/\SlIn w G xs x:=by
 have:=h.read hFG hr hw
 obtain ⟨x,e,h⟩:=DAt.sl_iff.1 this
 simp only [List.cons.injEq,and_true] at e
 exact ⟨x,e,h⟩
end Go.Chalk
namespace Go.Proofs.YtpmalchlecnjbaaGreatDoor
open Go.RowKit Go.Chalk
end Go.Proofs.YtpmalchlecnjbaaGreatDoor
/- append(s, y) where s is a slice of the call's own, or one that came in and is clipped. -/
namespace Go.Chalk
open Go.RowKit
variable {P:Program}
end Go.Chalk
