/- Joined texts: Clone, App. -/
import Derived.Test.YtpmalchlecnjbaaGreatDoorU04
import Derived.Test.YtpmalchlecnjbaaGreatDoorU05
import Derived.Test.YtpmalchlecnjbaaGreatDoorChecked
import Derived.ArgAppend
import Derived.Deep.AppendLies
set_option linter.unusedVariables false
set_option linter.unusedSimpArgs false
/- slices.Clone over flat data. Printed by gen_clone.py. -/
namespace Go.Chalk
open Go.RowKit
theorem widths_map {α:Type} {f:α->D} {sz:Nat} (hf:FlatT f sz):∀ l:List α,widths (l.map f)=l.length*sz
 | []=>by simp [widths]
 | x :: r=>by rw [List.map_cons,widths,hf.width x,widths_map hf r,List.length_cons,Nat.add_mul];omega
theorem Own.flat {w:World} {F G:Nat->Prop} {e:TypeId} {sz:Nat} {v:Value} {r:Option Nat} {xs:List D} (h:Own w F e sz v r xs) (hf:flats xs=true) (hr:∀ k,r=some k->¬ G k) (hlt:∀ k,G k->k<w.heap.size):Own w G e sz v r xs:=by
 obtain ⟨cs,h1,h2⟩:=h.cells
 exact ⟨⟨cs,h1,(DsAt.flat _ _ hf).2 ((DsAt.flat _ _ hf).1 h2)⟩,h.row,hr,hlt⟩
theorem SlIn.later {w w':World} {xs:List D} {x:SlA} {B C:Nat} (h:SlIn w (·<B) xs x) (hb:Below B w w') (hC:B<=C):SlIn w' (·<C) xs x:=(h.agree (agree_of_below hb)).mono (fun _ hk=>Nat.lt_of_lt_of_le hk hC)
theorem Own.sl {w:World} {F G:Nat->Prop} {e:TypeId} {sz:Nat} {v:Value} {r:Option Nat} {xs:List D} (h:Own w F e sz v r xs) (hFG:∀ k,F k->G k) (hr:∀ k,r=some k->G k) (hw:widths xs=xs.length*sz):∃ x:SlA,v=x.val xs.length/\SlIn w G xs x:=by
 have:=h.read hFG hr hw
 obtain ⟨x,e,h⟩:=DAt.sl_iff.1 this
 simp only [List.cons.injEq,and_true] at e
 exact ⟨x,e,h⟩
end Go.Chalk
namespace Go.Proofs.YtpmalchlecnjbaaGreatDoor
open Go.RowKit Go.Chalk
end Go.Proofs.YtpmalchlecnjbaaGreatDoor
/- append(s, y) where s is a slice of the call's own, or one that came in and is clipped. -/
namespace Go.Chalk
open Go.RowKit
def Onto1 (w:World) (lo:Nat) (F:Nat->Prop) (e:TypeId) (sz:Nat) (v:Value) (xs:List D):Prop :=
 (∃ x:SlA,v=.slice x.a xs.length xs.length/\x.cap=xs.length/\SlIn w (·<lo) xs x/\(x.a=none->xs=[])/\flats xs=true/\lo<=w.heap.size/\∀ k,F k->k<w.heap.size)∨(∃ r,Own w F e sz v r xs/\∀ k,r=some k->lo<=k)
theorem Onto1.nil (w:World) (lo:Nat) (F:Nat->Prop) (e:TypeId) (sz:Nat) (lt:∀ k,F k->k<w.heap.size):Onto1 w lo F e sz (.slice none 0 0) [] :=
 .inr ⟨none,Own.nil _ _ _ _ lt,fun _ h=>by cases h⟩
theorem Onto1.below {w w':World} {lo:Nat} {F:Nat->Prop} {e:TypeId} {sz:Nat} {v:Value} {xs:List D} (h:Onto1 w lo F e sz v xs) (hb:Below w.heap.size w w'):Onto1 w' lo F e sz v xs:=by
 rcases h with ⟨x,h1,h2,h3,h4,h5,h6,h7⟩ | ⟨r,h1,h2⟩
 ·exact .inl ⟨x,h1,h2,h3.agree (agree_of_below (hb.mono h6)),h4,h5,by have:=hb.size;omega,fun k hk=>by have:=h7 k hk;have:=hb.size;omega⟩
 ·exact .inr ⟨r,h1.below hb,h2⟩
theorem Onto1.sl {w:World} {lo:Nat} {F:Nat->Prop} {e:TypeId} {sz:Nat} {v:Value} {xs:List D} (h:Onto1 w lo F e sz v xs) (hw:widths xs=xs.length*sz):∃ x:SlA,v=x.val xs.length/\SlIn w (·<w.heap.size) xs x:=by
 rcases h with ⟨x,h1,h2,h3,h4,h5,h6,h7⟩ | ⟨r,h1,h2⟩
 ·exact ⟨x,by rw [h1,SlA.val,h2],h3.mono (fun k hk=>by omega)⟩
 ·exact h1.sl h1.lt (fun k hk=>h1.row_lt hk) hw
theorem Onto1.form {w:World} {lo:Nat} {F:Nat->Prop} {e:TypeId} {sz:Nat} {v:Value} {xs:List D} (h:Onto1 w lo F e sz v xs):∃ a cap,v=.slice a xs.length cap:=by
 rcases h with ⟨x,h1,h2,h3,h4,h5,h6,h7⟩ | ⟨r,h1,h2⟩
 ·exact ⟨_,_,h1⟩
 ·exact h1.form

variable {P:Program}
end Go.Chalk
