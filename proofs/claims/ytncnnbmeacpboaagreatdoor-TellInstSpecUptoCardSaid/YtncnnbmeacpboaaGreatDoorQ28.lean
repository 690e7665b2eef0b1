/- Parts of the proof. -/
import Derived.Test.YtncnnbmeacpboaaGreatDoorQ19
import Derived.Test.YtncnnbmeacpboaaGreatDoorQ27
set_option maxHeartbeats 2000000
set_option maxRecDepth 100000
set_option linter.unusedVariables false
set_option linter.unusedSimpArgs false
namespace Go.Proofs.YtncnnbmeacpboaaGreatDoor
open Go.RowKit Go.aa
theorem M3(P:Nat)(l:Bs)(w:World)(h:iB w P l):Calls Tryz.prog 128 #[.pointer (some ⟨P,0,none⟩)] w fun e w'=>e=.returned (.int .i64 l.length)/\w'=w:=by
 obtain⟨p,v,_,hbk,hown,_⟩:=h;obtain⟨ao,cap,rfl⟩:∃ao cap,v=.slice ao l.length cap:=by
  rcases hown.2 with⟨hv,h0⟩|⟨g,cap,cur,hv,_⟩
  ·exact⟨none,0,by rw[hv,h0]⟩
  ·exact⟨_,_,hv⟩
 have c1:w.cell? ⟨P,1,none⟩=some (.slice ao l.length cap):=cH hbk rfl;clear hown hbk;go_enter Tryz.func128,Tryz.ntmps128;go_wp2;go_ret;exact⟨rfl,rfl⟩
theorem cellsByte:Tryz.prog.cellsOf 5=1:=by kernel_rfl
theorem zV(P:Nat)(l:Bs)(w:World)(h:iB w P l)(h0:l≠[]):
  Calls Tryz.prog 79 #[.pointer (some ⟨P,0,none⟩)] w fun e w'=>e=.returned (.string ⟨l.toArray⟩)/\Below P w w':=by
 obtain⟨p,v,_,hbk,hown,hnil⟩:=h;have hl0:l.length≠0:=by simpa using h0
 obtain⟨g,cap,cur,rfl,hbg,hg,hnc,hcm,hcs,htake⟩:∃g cap cur,v=.slice (some ⟨g,0,none⟩) l.length cap/\P+1<=g/\w.heap[g]?=some (.cells cur 5 (0,0))/\l.length<=cap/\cap<=maxLen/\cur.size=cap*1/\cur.toList.take (l.length*1)=Lib.byteCells l:=by
  rcases hown.2 with⟨_,hz⟩|⟨g,cap,cur,hv,r⟩
  ·exact absurd hz hl0
  ·exact⟨g,cap,cur,hv,r⟩
 have c1:w.drew.cell? ⟨P,1,none⟩=some (.slice (some ⟨g,0,none⟩) l.length cap):=cH (show w.drew.heap[P]?=_ from hbk) rfl;have hSD:(Builtin.unsafeSliceData_ #[71] 193 #[.slice (some ⟨g,0,none⟩) l.length cap]).run Tryz.prog w.drew=.ok (.pointer (some ⟨g,0,none⟩)) w.drew:=
  Lib.run_unsafeSliceData_row _ _ _ _ _ _ (by omega)
 have hUS:(Builtin.unsafeString_ #[193,3] 9 #[.pointer (some ⟨g,0,none⟩),.int .i64 l.length]).run Tryz.prog w.drew=.ok (.string ⟨l.toArray⟩) (w.drew.freeze ⟨g,0,none⟩ l.length):=by
  refine Lib.run_unsafeString_row w.drew 193 3 9 5 Tryz.underlying193 cellsByte g cur.size (by have hg':w.drew.heap[g]?=some (.cells cur 5 (0,0)):=hg;simp[World.shape?,hg']) l h0 (by omega) (by unfold maxLen at hcm;omega) ?_;intro j x hx;exact hown.cells (g:=g) rfl j (.int .u8 x.toNat) (by simp[Lib.byteCells,hx])
 clear hown hnil htake;go_enter Tryz.func79,Tryz.ntmps79;go_wp2;go_region
 all_goals(go_wp2;go_ret;exact⟨rfl,Lib.below_freeze (Below.drew (Below.refl P w)) (p:=⟨g,0,none⟩) (by show P<=g;omega) _⟩)
theorem zU(P:Nat)(w:World)(h:iB w P []):
  Calls Tryz.prog 79 #[.pointer (some ⟨P,0,none⟩)] w fun e w'=>e=.returned (.string ⟨#[]⟩)/\Below P w w':=by
 obtain⟨p,v,_,hbk,hown,hnil⟩:=h;obtain rfl:=hnil.2 rfl;have hUS:∀W:World,(Builtin.unsafeString_ #[193,3] 9 #[.pointer none,.int .i64 0]).run Tryz.prog W=.ok (.string .empty) W:=fun W=>Lib.run_unsafeString_none W _ _ _ none;have c1:w.drew.cell? ⟨P,1,none⟩=some (.slice none 0 0):=cH (show w.drew.heap[P]?=_ from hbk) rfl;have hSD:(Builtin.unsafeSliceData_ #[71] 193 #[.slice none 0 0]).run Tryz.prog w.drew=.ok (.pointer none) w.drew:=rfl;clear hown hnil;go_enter Tryz.func79,Tryz.ntmps79;go_wp2;go_region
 all_goals(go_wp2;go_ret;exact⟨rfl,Below.drew (Below.refl P w)⟩)
theorem C9(P:Nat)(l:Bs)(w:World)(h:iB w P l):
  Calls Tryz.prog 79 #[.pointer (some ⟨P,0,none⟩)] w fun e w'=>e=.returned (.string ⟨l.toArray⟩)/\Below P w w':=by
 by_cases h0:l=[]
 ·subst h0;exact zU P w h
 ·exact zV P l w h h0
def gu(B:Nat)(w:World)(r:Bs×Int)(e:Ending)(w':World):Prop:=∃v,e=.returned (.tuple #[v,.int .i64 r.2])/\iK w' v r.1/\Below B w w'
theorem gu.mk'{B:Nat}{w w':World}{r:Bs×Int}{b:Bs}{er:Int}{v:Value}(h:r=(b,er))(hv:iK w' v b)(hb:Below B w w'):gu B w r (.returned (.tuple #[v,.int .i64 er])) w':=⟨v,by rw[h],by rw[h];exact hv,hb⟩
def oo(l:Bs):Bs×Int:=if 16384<l.length then([],2) else(l,0)
theorem CQ(P:Nat)(l:Bs)(w:World)(h:iB w P l)(hmax:l.length<=140737488355328):Calls Tryz.prog 76 #[.pointer (some ⟨P,0,none⟩)] w (gu P w (oo l)):=by
 have HL:=Lh (M3 P l w h);have HS:=Lh (C9 P l w h);have ny:=h.lt;clear h;by_cases hbig:16384<l.length
 ·have hbig':decide ((16384:Int)<(l.length:Int))=true:=by simp;omega
  have HF:Hid (oo l=([],2)):=Lh (by unfold oo;rw[if_pos hbig]);clear hbig HS;go_enter Tryz.func76,Tryz.ntmps76;go_wp2_with (go_at_call 128;refine HL.out.mono ?_;rintro e w' ⟨rfl,rfl⟩);go_ret2;exact gu.mk' HF.out (iK.nil _) (Below.refl _ _)
 ·have hbig':decide ((16384:Int)<(l.length:Int))=false:=by simp;omega
  have HF:Hid (oo l=(l,0)):=Lh (by unfold oo;rw[if_neg hbig]);clear hbig;go_enter Tryz.func76,Tryz.ntmps76;go_wp2_with (first|(go_at_call 128;refine HL.out.mono ?_;rintro e w' ⟨rfl,rfl⟩)|(go_at_call 79;refine HS.out.mono ?_;rintro e w' ⟨rfl,hb⟩;have hcv:=Lib.run_convert_string_bytes (P:=Tryz.prog) w' 9 71 5 ⟨l.toArray⟩ Tryz.underlying9 Tryz.underlying71 Tryz.underlying5;rw[size_mk] at hcv;have HB:=Lh hb;clear hb));go_ret2;exact gu.mk' HF.out ⟨_,_,_,_,rfl,SB.FN _ 5 l,grownCap_ge _ _ _ _⟩ (HB.out.trans ((below_bytesWorld 5 ⟨l.toArray⟩).mono (by have:=HB.out.size;omega)))
end Go.Proofs.YtncnnbmeacpboaaGreatDoor
