/- Joined texts: Elems, Elems2. -/
import Derived.Test.YtpmalchlecnjbaaGreatDoorU17
import Derived.Stop.RegionWithIn
import Derived.Lib.ItoaNum
import Derived.Laws.Concat
set_option linter.unusedVariables false
set_option linter.unusedSimpArgs false
/- school.row, school.elements, school.Count. -/
namespace Go.Proofs.YtpmalchlecnjbaaGreatDoor
open Go.RowKit Go.Chalk
attribute [local go_sem] Oper.semAt_some
end Go.Proofs.YtpmalchlecnjbaaGreatDoor
/- school.each over days and houses. -/
namespace Go.Proofs.YtpmalchlecnjbaaGreatDoor
open Go.RowKit Go.Chalk
attribute [local go_sem] Oper.semAt_some
def RoundB (J Jx:Nat->(Nat->Prop)->World->Prop) (T:Nat->Prop) (W:World) (i:Nat) (b:Bool) (W':World):Prop :=
 ∃ T',Ext T T' W W'/\Chalk.Mod T W W'/\((b=true/\J (i+1) T' W')∨(b=false/\Jx (i+1) T' W'))
theorem RoundB.of {J Jx:Nat->(Nat->Prop)->World->Prop} {T:Nat->Prop} {W:World} {i:Nat} {e:Ending} {W':World} (h:RoundPost J Jx T W i e W'):∃ b,e=.returned (.bool b)/\RoundB J Jx T W i b W':=by
 obtain ⟨T',h1,h2,⟨rfl,h3⟩ | ⟨rfl,h3⟩⟩:=h
 ·exact ⟨true,rfl,T',h1,h2,.inl ⟨rfl,h3⟩⟩
 ·exact ⟨false,rfl,T',h1,h2,.inr ⟨rfl,h3⟩⟩

end Go.Proofs.YtpmalchlecnjbaaGreatDoor
