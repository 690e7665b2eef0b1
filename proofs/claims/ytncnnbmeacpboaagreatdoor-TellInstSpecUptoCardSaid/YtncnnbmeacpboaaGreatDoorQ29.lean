/- Parts of the proof. -/
import Derived.Test.YtncnnbmeacpboaaGreatDoorQ22
import Derived.Test.YtncnnbmeacpboaaGreatDoorQ24
import Derived.Shelf.Strings.SlTrimAscii
set_option maxHeartbeats 1000000
set_option maxRecDepth 100000
set_option linter.unusedVariables false
set_option linter.unusedSimpArgs false
namespace Go.Proofs.YtncnnbmeacpboaaGreatDoor
open Go.RowKit Go.aa
theorem EU(s:Bs)(w:World)(hs:s.length<=4000000):Calls Tryz.prog 187 #[.string ⟨s.toArray⟩,.string ⟨AX.toArray⟩] w fun e w'=>e=.returned (.string ⟨(Lib.trimS s AX).toArray⟩)/\Below w.heap.size w w':=
 Any.strings_Trim_laid Tryz.lays160 (by kernel_rfl) ⟨s.toArray⟩ ⟨AX.toArray⟩ w (by rw[aZ];omega) (by decide) (ascii_of_all (by decide+kernel))
theorem ve(s:Bs)(w:World)(hg:GG w)(hlen:s.length<=4000000):Calls Tryz.prog 163 #[.string ⟨s.toArray⟩] w fun e w'=>e=.returned (.bool (aR s))/\Below w.heap.size w w':=by
 cases s with
 |nil=>
  have e:aR []=false:=rfl;rw[e];clear e hg;go_enter Tryz.func163,Tryz.ntmps163;go_wp2_with fail;go_ret;exact⟨rfl,Below.refl _ _⟩
 |cons c r=>
  have hsz:(⟨(c::r).toArray⟩:ByteArray).size=r.length+1:=by rw[aZ];rfl
  have hg0:(⟨(c::r).toArray⟩:ByteArray)[0]'(by rw[hsz];omega)=c:=rfl;by_cases h1:64<r.length+1
  ·have e:aR (c::r)=false:=by
    have:¬(c::r).length<=64:=by simp;omega
    simp only[aR,this,decide_false,Bool.false_and]
   rw[e];clear e hg;have h1':(64:Int)<(r.length:Int)+1:=by omega
   go_enter Tryz.func163,Tryz.ntmps163;go_wp2_with fail;go_ret;exact⟨rfl,Below.refl _ _⟩
  have hl:(c::r).length<=64:=by simp;omega
  have h1':decide ((64:Int)<(r.length:Int)+1)=false:=by simp;omega
  obtain⟨b,o,q1,q2,q3⟩:=hg.reserved;have hlk:=q3 w q2 (.string ⟨(c::r).toArray⟩) ⟨_,Nat.le_trans hl (by decide),rfl⟩;simp only[oF] at hlk;have e0:aR (c::r)=(!(dG.contains (c::r))&&(c::r).all aU&&decide (97<=c.toNat)):=by
   simp only[aR,hl,decide_true,Bool.true_and]
  rw[e0];generalize dG.contains (c::r)=rs at hlk ⊢;have HT:=Lh (fun W=>EU (c::r) W hlen);obtain⟨al,hal⟩:∃al,al=(c::r).all aU:=⟨_,rfl⟩;have HA:=Lh ((ET (c::r)).trans hal.symm);rw[<-hal];clear e0 hg q2 q3 hal;have hdd:(decide (97<=c.toNat)=true/\(97:Int)<=(c.toNat:Int))∨(decide (97<=c.toNat)=false/\decide ((97:Int)<=(c.toNat:Int))=false):=by
   by_cases h:97<=c.toNat
   ·exact .inl ⟨by simpa using h,by omega⟩
   ·exact .inr ⟨by simpa using h,by simp;omega⟩
  cases rs
  ·rcases hdd with⟨hd1,hd2⟩|⟨hd1,hd2⟩
   all_goals
    rw[hd1];clear hd1;go_enter Tryz.func163,Tryz.ntmps163;go_wp2_with fail;refine(HT.out _).mono ?_;rintro e w1 ⟨rfl,hb⟩;have HB1:=Lh hb;clear hb hlk q1;generalize Lib.trimS (c::r) AX=tr at HA ⊢;cases tr with
    |nil=>
     have HA2:Hid (al=true):=Lh HA.out.symm;go_wp2_with fail;go_ret;exact⟨by rw[HA2.out];rfl,HB1.out⟩
    |cons d u=>
     have HA2:Hid (al=false):=Lh HA.out.symm;go_wp2_with fail;go_ret;exact⟨by rw[HA2.out];rfl,HB1.out⟩
  ·clear hdd;go_enter Tryz.func163,Tryz.ntmps163;go_wp2_with fail;go_ret;exact⟨rfl,Below.refl _ _⟩
theorem vW(n:Int)(w:World):Calls Tryz.prog 164 #[.int .i64 n] w fun e w'=>e=.returned (.bool (dn n))/\w=w':=by
 by_cases h1:0<=n
 ·by_cases h2:n<=1099511627776
  ·have e:dn n=true:=by unfold dn;simp[h1,h2]
   rw[e];clear e;go_enter Tryz.func164,Tryz.ntmps164;go_wp2_with fail;go_ret;exact⟨rfl,rfl⟩
  ·have e:dn n=false:=by unfold dn;simp[h2]
   rw[e];clear e;have h2':decide (n<=1099511627776)=false:=by simpa using h2
   go_enter Tryz.func164,Tryz.ntmps164;go_wp2_with fail;go_ret;exact⟨rfl,rfl⟩
 ·have e:dn n=false:=by unfold dn;simp[h1]
  rw[e];clear e;have h1':decide (0<=n)=false:=by simpa using h1
  go_enter Tryz.func164,Tryz.ntmps164;go_wp2_with fail;go_ret;exact⟨rfl,rfl⟩
theorem AP(n:Int)(w:World):Calls Tryz.prog 156 #[.int .i64 n] w fun e w'=>e=.returned (.bool (bZ n))/\w=w':=by
 by_cases h1:3<=n
 ·by_cases h2:n<=9
  ·have e:bZ n=true:=by unfold bZ;simp[h1,h2]
   rw[e];clear e;go_enter Tryz.func156,Tryz.ntmps156;go_wp2_with fail;go_ret;exact⟨rfl,rfl⟩
  ·have e:bZ n=false:=by unfold bZ;simp[h2]
   rw[e];clear e;have h2':decide (n<=9)=false:=by simpa using h2
   go_enter Tryz.func156,Tryz.ntmps156;go_wp2_with fail;go_ret;exact⟨rfl,rfl⟩
 ·have e:bZ n=false:=by unfold bZ;simp[h1]
  rw[e];clear e;have h1':decide (3<=n)=false:=by simpa using h1
  go_enter Tryz.func156,Tryz.ntmps156;go_wp2_with fail;go_ret;exact⟨rfl,rfl⟩
theorem rV(n:Int)(w:World):Calls Tryz.prog 157 #[.int .i64 n] w fun e w'=>e=.returned (.bool (cZ n))/\w=w':=by
 by_cases h1:14<=n
 ·by_cases h2:n<=17
  ·have e:cZ n=true:=by unfold cZ;simp[h1,h2]
   rw[e];clear e;go_enter Tryz.func157,Tryz.ntmps157;go_wp2_with fail;go_ret;exact⟨rfl,rfl⟩
  ·have e:cZ n=false:=by unfold cZ;simp[h2]
   rw[e];clear e;have h2':decide (n<=17)=false:=by simpa using h2
   go_enter Tryz.func157,Tryz.ntmps157;go_wp2_with fail;go_ret;exact⟨rfl,rfl⟩
 ·have e:cZ n=false:=by unfold cZ;simp[h1]
  rw[e];clear e;have h1':decide (14<=n)=false:=by simpa using h1
  go_enter Tryz.func157,Tryz.ntmps157;go_wp2_with fail;go_ret;exact⟨rfl,rfl⟩
theorem Bd(n:Int)(w:World):Calls Tryz.prog 158 #[.int .i64 n] w fun e w'=>e=.returned (.bool (dL n))/\w=w':=by
 by_cases h1:n=16
 ·have e:dL n=true:=by unfold dL;simp[h1]
  rw[e];clear e;subst h1;go_enter Tryz.func158,Tryz.ntmps158;go_wp2_with fail;go_ret;exact⟨rfl,rfl⟩
 ·have h1':(n==16)=false:=by simpa using h1
  have e:dL n=(n==17):=by unfold dL;simp[h1];rfl
  rw[e];clear e;go_enter Tryz.func158,Tryz.ntmps158;go_wp2_with fail;go_ret;exact⟨rfl,rfl⟩
theorem EM(t:bH)(w:World)(hg:GG w)(hlen:t.name.length<=4000000):
  Calls Tryz.prog 160 #[.agg #[.int .i64 t.kind,.string ⟨t.name.toArray⟩,.int .i64 t.n]] w fun e w'=>e=.returned (.bool (aA t))/\Below w.heap.size w w':=by
 have cz:Below w.heap.size w (w.alloc (.cells #[.int .i64 t.kind,.string ⟨t.name.toArray⟩,.int .i64 t.n] 92)):=(Below.refl _ _).alloc (Nat.le_refl _) _;have hg':=hg.below cz;have HB:=Lh cz;clear hg cz;obtain⟨kind,name,n⟩:=t;simp only at hlen hg' HB ⊢;by_cases h1:kind=1
 ·subst h1;have e:aA ⟨1,name,n⟩=(name.isEmpty&&dn n):=by unfold aA;simp
  rw[e];clear e hg';cases name with
  |nil=>
   go_enter Tryz.func160,Tryz.ntmps160;go_wp2_with (go_at_call 164;refine(vW _ _).mono ?_;rintro e w' ⟨rfl,rfl⟩);go_ret;exact⟨by simp,HB.out⟩
  |cons c r=>
   have hsz:(⟨(c::r).toArray⟩:ByteArray).size=r.length+1:=by rw[aZ];rfl
   go_enter Tryz.func160,Tryz.ntmps160;go_wp2_with fail;go_ret;exact⟨by simp,HB.out⟩
 ·have h1':(kind==1)=false:=by simpa using h1
  have e:aA ⟨kind,name,n⟩=(decide (2<=kind)&&decide (kind<=7)&&aR name&&decide (n=0)):=by unfold aA;rw[if_neg h1]
  rw[e];clear e;by_cases h2:2<=kind
  ·by_cases h3:kind<=7
   ·have HN:=Lh (ve name _ hg' hlen);simp only[h2,h3,decide_true,Bool.true_and];generalize aR name=nm at HN ⊢;clear hg';go_enter Tryz.func160,Tryz.ntmps160;go_wp2_with fail;refine HN.out.mono ?_;rintro e w1 ⟨rfl,hb⟩;have HB1:=Lh hb;clear hb;cases nm
    ·go_wp2_with fail;go_ret;exact⟨by simp,HB.out.trans (HB1.out.mono HB.out.size)⟩
    ·have q2:w1.cell? ⟨w.heap.size,2,none⟩=some (.int .i64 n):=cH (boxed (B:=w.heap.size+1) (by simpa using HB1.out) (by omega)) rfl;go_wp2_with fail;go_ret;exact⟨by simp;rfl,HB.out.trans (HB1.out.mono HB.out.size)⟩
   ·have h3':decide (kind<=7)=false:=by simpa using h3
    clear hg';go_enter Tryz.func160,Tryz.ntmps160;go_wp2_with fail;go_ret;exact⟨by simp,HB.out⟩
  ·have h2':decide (2<=kind)=false:=by simpa using h2
   clear hg';go_enter Tryz.func160,Tryz.ntmps160;go_wp2_with fail;go_ret;exact⟨by simp[h2],HB.out⟩
end Go.Proofs.YtncnnbmeacpboaaGreatDoor
