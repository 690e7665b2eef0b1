/- Parts of the proof. -/
import Derived.Test.YtncnnbmeacpboaaGreatDoorQ25
import Derived.Deep.RegionHeld3
set_option linter.unusedVariables false
set_option linter.unusedSimpArgs false
namespace Go.aa
open Go.RowKit
def OP(W:World)(H:Nat)(c0 c1 c2:Value):World:=((W.setCell ⟨H,0,none⟩ c0).setCell ⟨H,1,none⟩ c1).setCell ⟨H,2,none⟩ c2
theorem mY(q:UInt8->Bool)(l:Bs):l.take (l.takeWhile q).length=l.takeWhile q:=(List.prefix_iff_eq_take.1 (List.takeWhile_prefix q)).symm
theorem SB.run{w:World}{B:Nat}{l:Bs}{a:Option Addr}{b o:Nat}(h:SB w B l a b o)(q:UInt8->Bool):SB w B (l.takeWhile q) a b o:=by
 have h2:=h.2.take (l.takeWhile q).length;rw[mY] at h2;exact⟨fun hp=>h.1 (Nat.lt_of_lt_of_le hp (List.takeWhile_sublist _).length_le),h2⟩
end Go.aa
