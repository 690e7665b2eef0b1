/- Parts of the proof. -/
import Derived.Test.YtncnnbmeacpboaaGreatDoorQ32
import Derived.Test.YtncnnbmeacpboaaGreatDoorLIs4
import Derived.Test.YtncnnbmeacpboaaGreatDoorQ13
set_option maxHeartbeats 8000000
set_option maxRecDepth 100000
set_option linter.unusedVariables false
set_option linter.unusedSimpArgs false
namespace Go.aa
open Go.RowKit
variable {s sub:List UInt8} {k B j:Nat} {n:Int} {w w':World} {r:bq} {b l:List aD} {ns:List Bs} {α:Type} {t:bH} {x:aK}
theorem nH{i:Nat}(h1:i<=s.length)(h:Lib.occAt s sub i=true):Lib.contains s sub=true:=by
 unfold Lib.contains;rcases Lib.index_spec s sub with⟨_,h2⟩|⟨j,hj,_⟩
 ·rw[h2 i h1] at h;cases h
 ·rw[hj];simp
theorem lT(h:∀i,i+sub.length<=s.length->Lib.occAt s sub i=false)(h0:sub≠[]):Lib.contains s sub=false:=by
 unfold Lib.contains;rcases Lib.index_spec s sub with⟨h2,_⟩|⟨j,hj,h3,h4,_⟩
 ·rw[h2];rfl
 ·rcases Lib.occAt_room h4 with h5|h5
  ·rw[h j h5] at h4;cases h4
  ·exact absurd h5 h0
end Go.aa
namespace Go.Proofs.YtncnnbmeacpboaaGreatDoor
open Go.RowKit Go.aa
variable {s sub:List UInt8} {k B j:Nat} {n:Int} {w w':World} {r:bq} {b l:List aD} {ns:List Bs} {α:Type} {t:bH} {x:aK}
theorem Cu(x s:ByteArray)(w:World)(hx:x.size<=281474976710656)(hs:s.size<=281474976710656):
  Calls Tryz.prog 188 #[.string x,.string s] w fun e w'=>e=.returned (.bool (Lib.contains x.data.toList s.data.toList))/\w'=w:=by
 go_enter Tryz.func188,Tryz.ntmps188;go_wp2_with fail;go_loop [5] (fun i=>∃k:Nat,k<=x.size+1/\i=.int .i64 k/\Hid (∀j,j<k->Lib.occAt x.data.toList s.data.toList j=false)) (fun i=>x.size+1-(intOf i).toNat)
 case atStart=>exact⟨0,Nat.zero_le _,rfl,Lh (fun j hj=>by omega)⟩
 case round=>
  obtain⟨k,hk,rfl,HA⟩:=hrel;by_cases hlt:k+s.size<=x.size
  ·have Sd:=Lh (Lib.occ_of_piece x s k hlt);have hkl:k<=x.data.toList.length:=by simp;omega
   have wX:=Lh (nH (sub:=s.data.toList) hkl);clear hkl;cases hoc:(x.extract k (k+s.size)).toList==s.toList
   ·have HN:Hid (∀j,j<k+1->Lib.occAt x.data.toList s.data.toList j=false):=Lh (fun j hj=>by
     by_cases h:j=k
     ·subst h;rw[Sd.out,hoc]
     ·exact HA.out j (by omega))
    go_wp2_with fail;go_round
    case rel=>exact⟨k+1,by omega,by go_num,HN⟩
    case measure=>simp[intOf];omega
   ·have HN:=Lh (wX.out (by rw[Sd.out,hoc]));go_wp2_with fail;go_ret;exact⟨by rw[HN.out];rfl,rfl⟩
  ·have HN:Hid (Lib.contains x.data.toList s.data.toList=false):=Lh (by
    have hxl:x.data.toList.length=x.size:=by simp
    have hsl:s.data.toList.length=s.size:=by simp
    refine lT (fun i hi=>HA.out i (by omega)) (fun h=>?_);have:=HA.out 0 (by rw[h] at hsl;simp at hsl;omega);rw[h] at this;simp[Lib.occAt] at this)
   go_wp2_with fail;go_ret;exact⟨by rw[HN.out];rfl,rfl⟩
theorem D8(s:ByteArray):df s.data.toList=(s.data.toList.all aU&&(if h:0<s.size then dX s[0] else false)&&(decide ((1:Int)<=(s.size:Int))&&decide ((s.size:Int)<=64))&&!(Lib.contains bf (32::(s.data.toList++[32])))):=by
 have hl:s.data.toList.length=s.size:=by simp
 by_cases h0:0<s.size
 ·have hd:s.data.toList=s[0]::s.data.toList.drop 1:=by
   have:=List.drop_eq_getElem_cons (l:=s.data.toList) (i:=0) (by omega);rw[List.drop_zero] at this;exact this
  simp only[h0,dite_true];have e1:decide ((1:Int)<=(s.size:Int))=true:=by simp;omega
  have e2:decide ((s.size:Int)<=64)=decide (s.data.toList.length<=64):=by rw[Bool.eq_iff_iff];simp only[decide_eq_true_eq];omega
  rw[e1,e2];generalize s[0]=c at hd;generalize s.data.toList.drop 1=r at hd;rw[hd,df];have e3:((c::r).all aU&&dX c)=(decide (97<=c.toNat)&&(c::r).all aU):=by
   rw[Bool.eq_iff_iff];simp only[Bool.and_eq_true,decide_eq_true_eq,List.all_cons,dX];constructor
   ·rintro⟨h1,h2,h3⟩;exact⟨h2,h1⟩
   ·rintro⟨h1,h2,h3⟩;refine⟨⟨h2,h3⟩,h1,?_⟩;unfold aU dX jS at h2;simp at h2;omega
  rw[e3];cases decide (97<=c.toNat)<;>cases (c::r).all aU<;>cases decide ((c::r).length<=64)<;>rfl
 ·have hn:s.data.toList=[]:=List.length_eq_zero_iff.1 (by omega);rw[hn];simp[h0,df]
def j5(n:Int)(k:Nat):Prop:=(97<=n/\n<=122)∨(k≠0/\((48<=n/\n<=57)∨n=95))
theorem mq{c:UInt8}:j5 (c.toNat:Int) k↔(aU c=true/\(k=0->dX c=true)):=by
 unfold j5 aU dX jS;simp only[Bool.or_eq_true,Bool.and_eq_true,decide_eq_true_eq,beq_iff_eq];omega
theorem wH(s:ByteArray):(⟨#[32]⟩++s++⟨#[32]⟩:ByteArray).data.toList=32::(s.data.toList++[32]):=by
 simp[ByteArray.data_append]
theorem Ex(s:ByteArray)(w:World)(hs:s.size<=1000000000):Calls Tryz.prog 170 #[.string s] w fun e w'=>e=.returned (.bool (df s.data.toList))/\w'=w:=by
 have kM:=Lh (D8 s);have RZ:Hid (∀k (h:k<s.size),¬j5 (s[k].toNat:Int) k->df s.data.toList=false):=Lh (fun k h hg=>by
  rw[kM.out];rw[mq] at hg;by_cases h1:aU s[k]=true
  ·have h2:k=0/\dX s[k]=false:=by
    by_cases hk:k=0
    ·refine⟨hk,?_⟩;cases hsm:dX s[k] with
     |false=>rfl
     |true=>exact absurd ⟨h1,fun _=>hsm⟩ hg
    ·exact absurd ⟨h1,fun h=>absurd h hk⟩ hg
   obtain⟨rfl,h2⟩:=h2;simp[h,h2]
  ·have:s.data.toList.all aU=false:=List.all_eq_false.2 ⟨s[k],by
    have e:s.data.toList[k]'(by simpa using h)=s[k]:=rfl;rw[<-e];exact List.getElem_mem _,h1⟩
   rw[this];simp)
 have hrs:(⟨bf.toArray⟩:ByteArray).data.toList=bf:=List.toList_toArray ..;have HST:Hid (s.size<=64->Calls Tryz.prog 188 #[.string ⟨bf.toArray⟩,.string (⟨#[32]⟩++s++⟨#[32]⟩)] w fun e w'=>e=.returned (.bool (Lib.contains bf (32::(s.data.toList++[32]))))/\w'=w):=Lh (fun ZT=>by
  have h:=Cu ⟨bf.toArray⟩ (⟨#[32]⟩++s++⟨#[32]⟩) w (by decide) (by have e:(⟨#[32]⟩:ByteArray).size=1:=rfl;simp only[ByteArray.size_append,e];omega);rw[hrs,wH] at h;exact h)
 clear hrs;go_enter Tryz.func170,Tryz.ntmps170;go_wp2_with fail;go_loop [3,4,5] (fun i _ _=>∃k:Nat,k<=s.size/\i=.int .i64 k/\Hid ((∀j (h:j<s.size),j<k->aU s[j]=true)/\(∀h:0<s.size,0<k->dX s[0]=true))) (fun i _ _=>s.size-(intOf i).toNat)
 case atStart=>exact⟨0,Nat.zero_le _,rfl,Lh ⟨fun _ _ h=>by omega,fun _ h=>by omega⟩⟩
 case round=>
  obtain⟨k,hk,rfl,HA⟩:=hrel;by_cases hlt:k<s.size
  ·have Nt:=Lh (RZ.out k hlt);have HG:Hid (j5 (s[k].toNat:Int) k->(∀j (h:j<s.size),j<k+1->aU s[j]=true)/\(∀h:0<s.size,0<k+1->dX s[0]=true)):=Lh (fun hg=>by
    obtain⟨g1,g2⟩:=mq.1 hg;refine⟨fun j h hj=>?_,fun h _=>?_⟩
    ·by_cases e:j=k
     ·subst e;exact g1
     ·exact HA.out.1 j h (by omega)
    ·by_cases e:k=0
     ·subst e;exact g2 rfl
     ·exact HA.out.2 h (by omega))
   generalize hn:s[k].toNat=n at Nt HG;go_wp2_with fail
   all_goals first
    |(go_ret;exact⟨by rw[Nt.out (by unfold j5;omega)];rfl,rfl⟩)
    |exact⟨⟨k+1,by omega,by first|go_num|(congr 1;omega),Lh (HG.out (by unfold j5;omega))⟩,by simp[intOf];omega⟩
    |(rename_i hq;simp at hq;first|(exfalso;omega)|exact⟨⟨k+1,by omega,by first|go_num|(congr 1;omega),Lh (HG.out (by unfold j5;omega))⟩,by simp[intOf];omega⟩)
    |(rename_i hq _;simp at hq;first|(exfalso;omega)|(go_ret;exact⟨by rw[Nt.out (by unfold j5;omega)];rfl,rfl⟩))
    |(rename_i hq _ _;simp at hq;first|(exfalso;omega)|(go_ret;exact⟨by rw[Nt.out (by unfold j5;omega)];rfl,rfl⟩))
  ·obtain rfl:k=s.size:=by omega
   have HA2:Hid (s.data.toList.all aU=true/\(∀h:0<s.size,dX s[0]=true)):=Lh ⟨List.all_eq_true.2 (fun c hc=>by
    obtain⟨j,hj,rfl⟩:=List.mem_iff_getElem.1 hc;have hj2:j<s.size:=by simpa using hj
    exact HA.out.1 j hj2 hj2),fun h=>HA.out.2 h h⟩
   by_cases h0:0<s.size
   ·by_cases h64:s.size<=64
    ·have Sm:=Lh (HST.out h64);have HE:Hid (df s.data.toList=!(Lib.contains bf (32::(s.data.toList++[32])))):=Lh (by
      rw[kM.out,HA2.out.1];have e1:decide ((1:Int)<=(s.size:Int))=true:=by simp;omega
      have e2:decide ((s.size:Int)<=64)=true:=by simp;omega
      simp only[h0,dite_true,HA2.out.2 h0,e1,e2,Bool.true_and])
     have e1:(1:Int)<=(s.size:Int):=by omega
     have e2:(s.size:Int)<=64:=by omega
     generalize Lib.contains bf (32::(s.data.toList++[32]))=b at Sm HE;go_wp2_with fail;refine Sm.out.mono ?_;rintro e w' ⟨rfl,rfl⟩;go_wp2_with fail;go_ret;exact⟨by rw[HE.out];rfl,rfl⟩
    ·have HE:Hid (df s.data.toList=false):=Lh (by
      rw[kM.out];have e2:decide ((s.size:Int)<=64)=false:=by simp;omega
      rw[e2];simp)
     have e1:(1:Int)<=(s.size:Int):=by omega
     have e2:decide ((s.size:Int)<=64)=false:=by simp;omega
     clear h64;go_wp2_with fail;go_ret;exact⟨by rw[HE.out];rfl,rfl⟩
   ·have HE:Hid (df s.data.toList=false):=Lh (by
     rw[kM.out];simp[h0])
    have e1:decide ((1:Int)<=(s.size:Int))=false:=by simp;omega
    go_wp2_with fail;go_ret;exact⟨by rw[HE.out];rfl,rfl⟩
end Go.Proofs.YtncnnbmeacpboaaGreatDoor
namespace Go.aa
open Go.RowKit
variable {s sub:List UInt8} {k B j:Nat} {n:Int} {w w':World} {r:bq} {b l:List aD} {ns:List Bs} {α:Type} {t:bH} {x:aK}
def lastOf:List Int->Int->Int
 |[],last=>last
 |x::r,_=>lastOf r x
theorem jW(n:Int):∀(a b:List Int) (last:Int),dZ n (a++b) last=(dZ n a last&&dZ n b (lastOf a last))
 |[],b,last=>by simp[dZ,lastOf]
 |x::r,b,last=>by
  rw[List.cons_append,dZ,dZ,lastOf];split
  ·rfl
  ·exact jW n r b x
theorem o9(n:Int):∀(a:List Int) (last:Int),dZ n a last=true->last<=lastOf a last/\(a≠[]->last<lastOf a last)
 |[],last,_=>⟨Int.le_refl _,fun h=>absurd rfl h⟩
 |x::r,last,h=>by
  rw[dZ] at h;split at h
  ·cases h
  ·rename_i hc;have:=(o9 n r x h).1;rw[lastOf];exact⟨by omega,fun _=>by omega⟩
theorem sO:∀(l:List Int) (k:Nat) (last:Int) (hk:k<l.length),lastOf (l.take (k+1)) last=l[k]
 |x::r,0,last,_=>by simp[lastOf]
 |x::r,k+1,last,hk=>by
  rw[List.take_succ_cons,lastOf,sO r k x (by simpa using hk)];rfl
theorem BX{l:List Int}(hk:k<l.length)(h:cK (l.take k) n=true):
  cK (l.take (k+1)) n=!(decide (l[k]<0)||decide (n<=l[k])||(decide (0<k)&&decide (l[k]<=(l[k-1]?.getD 0)))):=by
 unfold cK at h ⊢;rw[List.take_succ_eq_append_getElem hk,jW,h,Bool.true_and];simp only[dZ];cases k with
 |zero=>
  simp only[List.take_zero,lastOf];rw[Bool.eq_iff_iff];simp;omega
 |succ k=>
  have h1:=sO l k (-1) (by omega);have h2:=(o9 n _ _ h).2 (fun he=>by
   rw[List.take_eq_nil_iff] at he;rcases he with he|he
   ·omega
   ·rw[he] at hk;simp at hk)
  rw[h1] at h2 ⊢;rw[Nat.add_sub_cancel,List.getElem?_eq_getElem (show k<l.length by omega),Option.getD_some];rw[Bool.eq_iff_iff];simp;omega
theorem Eg{l:List Int}(h:cK (l.take k) n=false):cK l n=false:=by
 unfold cK at h ⊢;have:=jW n (l.take k) (l.drop k) (-1);rw[List.take_append_drop,h] at this;rw[this];rfl
end Go.aa
namespace Go.Proofs.YtncnnbmeacpboaaGreatDoor
open Go.RowKit Go.aa
variable {s sub:List UInt8} {k B j:Nat} {n:Int} {w w':World} {r:bq} {b l:List aD} {ns:List Bs} {α:Type} {t:bH} {x:aK}
theorem dQ(h:Below B w w')(n:Nat):Below B w (w'.drewN n):=⟨h.os,h.tape,h.output,h.size,h.block⟩
theorem nI{wr:World}(h:∃m,wr=w.drewN m)(n:Nat):∃m,wr.drewN n=w.drewN m:=by
 obtain⟨m,rfl⟩:=h;exact⟨m+n,World.drewN_drewN ..⟩
theorem rW(l:List Int)(x:aK)(n:Int)(w:World)(hx:aj w (·<w.heap.size) (bD l) x)(hl:l.length<=2000000):
  Calls Tryz.prog 132 #[.slice x.a l.length x.cap,.int .i64 n] w fun e w'=>e=.returned (.bool (cK l n))/\∃m,w'=w.drewN m:=by
 obtain⟨h1,_,_,_,h2⟩:=hx.ints;have HX:=Lh (aI h1 h2);clear hx h1 h2;go_enter Tryz.func132,Tryz.ntmps132;go_wp2_with fail;go_loopw [5] (fun i wr=>∃k:Nat,k<=l.length/\i=.int .i64 k/\Hid (cK (l.take k) n=true)/\Hid (∃m,wr=w.drewN m)) (fun i _=>l.length-(intOf i).toNat)
 case atStart=>exact⟨0,Nat.zero_le _,rfl,Lh rfl,Lh ⟨0,rfl⟩⟩
 case round=>
  obtain⟨k,hk,rfl,HP,HM⟩:=hrel;have HB:Hid (Below w.heap.size w wr):=Lh (by obtain⟨m,hm⟩:=HM.out;rw[hm];exact dQ (Below.refl _ _) m);by_cases hlt:k<l.length
  ·obtain⟨hxa,hxb⟩:=HX.out.1 (by omega);have e0:=(HB.out.cell (p:=⟨x.b,x.o+k,none⟩) hxb).trans (HX.out.2 k hlt);have HS:=Lh (BX hlt HP.out);have sD:=Lh (fun(h:cK (l.take (k+1)) n=false)=>Eg h);have hw1:IntKind.i64.wrap ((k:Int)-1)=(k:Int)-1:=IntWalk.i64_in _ (by omega);have i1:(0:Int)<=(k:Int):=by omega
   have i2:(k:Int)<(l.length:Int):=by omega
   rw[hxa];generalize hy:l[k]=y at e0 HS;clear hy;by_cases p1:y<0
   ·have HF:=Lh (sD.out (by rw[HS.out,decide_eq_true p1];simp));go_wp2_with fail;go_quiet (fail);go_wp2_with fail;go_ret;exact⟨by rw[HF.out];rfl,(nI HM.out _)⟩
   have q1:decide (y<0)=false:=decide_eq_false p1;by_cases p2:n<=y
   ·have HF:=Lh (sD.out (by rw[HS.out,decide_eq_true p2];simp));clear p1;go_wp2_with fail;go_quiet (fail);go_wp2_with fail;go_ret;exact⟨by rw[HF.out];rfl,(nI HM.out _)⟩
   have q2:decide (n<=y)=false:=decide_eq_false p2;by_cases h0:k=0
   ·subst h0;have HT:Hid (cK (l.take (0+1)) n=true):=Lh (by rw[HS.out,q1,q2];simp);rw[Nat.add_zero] at e0;have i6:(0:Int)<(l.length:Int):=by omega
    clear p1 p2 i1 i2;go_wp2_with fail;go_quiet (fail);go_wp2_with fail;exact⟨⟨1,by omega,by go_num,HT,Lh (nI HM.out _)⟩,by simp[intOf];omega⟩
   ·obtain⟨j,rfl⟩:∃j,k=j+1:=⟨k-1,by omega⟩;have e1:=(HB.out.cell (p:=⟨x.b,x.o+j,none⟩) hxb).trans (HX.out.2 j (by omega));rw[Nat.add_sub_cancel,List.getElem?_eq_getElem (show j<l.length by omega),Option.getD_some] at HS;generalize l[j]=z at e1 HS;have i3:(0:Int)<(j:Int)+1:=by omega
    have i4:(0:Int)<=(j:Int):=by omega
    have i5:(j:Int)<(l.length:Int):=by omega
    by_cases p3:y<=z
    ·have HF:=Lh (sD.out (by rw[HS.out,decide_eq_true p3];simp));clear p1 p2;go_wp2_with fail;go_quiet (fail);go_wp2_with fail;go_ret;exact⟨by rw[HF.out];rfl,(nI HM.out _)⟩
    ·have q3:decide (y<=z)=false:=decide_eq_false p3;have HT:Hid (cK (l.take (j+1+1)) n=true):=Lh (by rw[HS.out,q1,q2,q3];simp);clear p1 p2 p3;go_wp2_with fail;go_quiet (fail);go_wp2_with fail;exact⟨⟨j+1+1,by omega,by go_num,HT,Lh (nI HM.out _)⟩,by simp[intOf];omega⟩
  ·obtain rfl:k=l.length:=by omega
   have HT:=Lh (show cK l n=true by have:=HP.out;rwa [List.take_length] at this);go_wp2_with fail;go_ret;exact⟨by rw[HT.out];rfl,HM.out⟩
theorem Cs(l:List Int)(x:aK)(n:Int)(w:World)(hx:aj w (·<w.heap.size) (bD l) x)(hl:l.length<=2000000):
  Calls Tryz.prog 132 #[.slice x.a l.length x.cap,.int .i64 n] w fun e w'=>e=.returned (.bool (cK l n))/\Below w.heap.size w w':=
 (rW l x n w hx hl).mono fun _ _ ⟨he,m,hm⟩=>⟨he,by rw[hm];exact dQ (Below.refl _ _) m⟩
end Go.Proofs.YtncnnbmeacpboaaGreatDoor
namespace Go.aa
variable {s sub:List UInt8} {k B j:Nat} {n:Int} {w w':World} {r:bq} {b l:List aD} {ns:List Bs} {α:Type} {t:bH} {x:aK}
theorem Hy{s:aF}(h:bE s=0)(sort:Int):∀x∈ai s sort,x.length<=64:=by
 have h0:(ax [] (ai s 1)&&ax [] (ai s 2)&&ax [] (ai s 3)&&ax [] (ai s 4)&&ax [] (ai s 5))=true:=by
  cases e:(ax [] (ai s 1)&&ax [] (ai s 2)&&ax [] (ai s 3)&&ax [] (ai s 4)&&ax [] (ai s 5)) with
  |true=>rfl
  |false=>unfold bE at h;rw[e] at h;cases h
 simp only[Bool.and_eq_true] at h0;obtain⟨⟨⟨⟨k1,k2⟩,k3⟩,k4⟩,k5⟩:=h0;have sl:∀x:Bs,df x=true->x.length<=64:=fun x hx=>by
  cases x with
  |nil=>simp
  |cons c r=>simp only[df,Bool.and_eq_true,decide_eq_true_eq] at hx;exact hx.1.1.1
 have one:∀z:Int,ax [] (ai s z)=true->∀x∈ai s z,x.length<=64:=fun z k x hx=>sl x ((nN _ _ k).1 x hx).1;by_cases e1:sort=1
 ·rw[e1];exact one 1 k1
 by_cases e2:sort=2
 ·rw[e2];exact one 2 k2
 by_cases e3:sort=3
 ·rw[e3];exact one 3 k3
 by_cases e4:sort=4
 ·rw[e4];exact one 4 k4
 by_cases e5:sort=5
 ·rw[e5];exact one 5 k5
 unfold ai;rw[if_neg e1,if_neg e2,if_neg e3,if_neg e4,if_neg e5];split
 ·decide
 split
 ·decide
 ·simp
theorem Kn{s:aF}(h:bE s=0){sort at_:Int}:(bY s sort at_).length<=64:=by
 by_cases h1:bY s sort at_=[]
 ·rw[h1];simp
 ·exact Hy h sort _ (List.mem_of_getElem? (NS h1).2)
theorem xU{s:aF}(hs:bE s=0):∀(b:List aD) (q:List Int) (ns:List Bs),iQ s b q=some ns->∀x∈ns,x.length<=64
 |[],q,ns,h,x,hx=>by rw[iQ] at h;obtain rfl:=Option.some.inj h;simp at hx
 |b::r,[],ns,h,x,hx=>by rw[iQ] at h;cases h
 |b::r,i::q,ns,h,x,hx=>by
  rw[iQ] at h;split at h
  ·cases h
  ·obtain⟨l,hl,rfl⟩:=Option.map_eq_some_iff.1 h;rcases List.mem_cons.1 hx with rfl|hx
   ·exact Kn hs
   ·exact xU hs r q l hl x hx
theorem qL{x:Bs}(h:aR x=true):x.length<=64:=by
 cases x with
 |nil=>simp
 |cons c r=>simp only[aR,Bool.and_eq_true,decide_eq_true_eq] at h;exact h.1.1.1
structure Qq (r:bq):Prop where
 name:r.name.length<=64
 each:r.each.length<=6
 uU:∀b∈r.each,b.name.length<=64
 nodup:(r.each.map aD.name).Nodup
 body:aM r.body=0
 weight:0<=r.weight/\r.weight<=1000
theorem EZ(h:dK r=0):0<=r.weight/\r.weight<=1000:=by
 unfold dK at h;by_cases h1:aL ⟨r.name,1⟩=false∨r.weight<(if r.hard then 0 else 1)∨(if r.hard then 0 else 1000)<r.weight∨6<r.each.length∨r.each.all aL=false
 ·rw[if_pos h1] at h;cases h
 ·simp only[not_or] at h1;cases hh:r.hard<;>simp[hh] at h1<;>omega
theorem OX(h:dK r=0):Qq r:=by
 obtain⟨h1,h2,h3⟩:=lW h;have h4:=EY h;obtain⟨h5,h6⟩:=vM.1 h4.may;simp only[aL,Bool.and_eq_true] at h1;exact⟨qL h1.1.1,h4.each,fun b hb=>by have:=h5 b hb;simp only[aL,Bool.and_eq_true] at this;exact qL this.1.1,h6,h3,EZ h⟩
theorem uq{s:aF}{l:List bq}(h:okF s l=0):∀r∈l,Qq r:=fun r hr=>OX ((jF h).2.1 r hr)
theorem vF:∀m:List (Bs×Bs),Lib.join (m.map eD) [44,32]=eX m
 |[]=>rfl
 |[p]=>by rw[List.map_cons,List.map_nil,Lib.join_one];rfl
 |p::q::r=>by
  have:=vF (q::r);rw[eX,<-this];simp only[List.map_cons,Lib.join,List.intercalate,List.intersperse_cons_cons,List.flatten_cons]
theorem sV{p:Bs×Bs}(h1:p.1.length<=64)(h2:p.2.length<=64):(eD p).length<=131:=by simp[eD];omega
theorem kC:∀(m:List (Bs×Bs)),(∀p∈m,p.1.length<=64/\p.2.length<=64)->(eX m).length<=133*m.length
 |[],_=>by simp[eX]
 |[p],h=>by have:=h p (by simp);have:=sV this.1 this.2;simp only[eX,List.length_singleton];omega
 |p::q::r,h=>by
  have h1:=h p (by simp);have h2:=sV h1.1 h1.2;have h3:=kC (q::r) (fun x hx=>h x (by simp[hx]));rw[eX];simp only[List.length_append,List.length_cons,List.length_nil] at h3 ⊢;omega
open Go.Proofs in
theorem O9(h1:j<b.length)(h2:j<ns.length):((b.map aD.name).zip ns).take (j+1)=((b.map aD.name).zip ns).take j++[(b[j].name,ns[j])]:=by
 have:j<((b.map aD.name).zip ns).length:=by simp;omega
 rw[List.take_succ_eq_append_getElem this];simp
theorem zip_fst(h:ns.length=b.length):((b.map aD.name).zip ns).map Prod.fst=b.map aD.name:=by
 rw[List.map_fst_zip (by simp[h])]
theorem F6(h1:∀x∈b,x.name.length<=64)(h2:∀x∈ns,x.length<=64):∀p∈(b.map aD.name).zip ns,p.1.length<=64/\p.2.length<=64:=by
 intro p hp;have h3:=List.of_mem_zip hp;obtain⟨x,hx,e⟩:=List.mem_map.1 h3.1;exact⟨by rw[<-e];exact h1 x hx,h2 _ h3.2⟩
theorem IU(hn:(b.map aD.name).Nodup)(hl:ns.length=b.length)(hj:j<b.length):∀p∈((b.map aD.name).zip ns).take j,p.1≠b[j].name:=by
 intro p hp e;obtain⟨i,hi,rfl⟩:=List.mem_iff_getElem.1 hp;have hi':i<j:=by simp at hi;omega
 rw[List.getElem_take,List.getElem_zip,List.getElem_map] at e;rw[List.nodup_iff_pairwise_ne,List.pairwise_iff_getElem] at hn;exact hn i j (by simp;omega) (by simpa using hj) hi' (by simpa using e)
end Go.aa
namespace Go.Proofs.YtncnnbmeacpboaaGreatDoor
open Go.RowKit Go.aa
variable {s sub:List UInt8} {k B j:Nat} {n:Int} {w w':World} {r:bq} {b l:List aD} {ns:List Bs} {α:Type} {t:bH} {x:aK}
theorem gZ.ren{m:List (Bs×Bs)}{f:ae}(hf:gZ f)(hm:∀p∈m,p.2.length<=64):gZ (gm m f):=by
 refine⟨by rw[CB];exact hf.size,fun g hg=>?_⟩;rw[yu] at hg;obtain⟨q,hq,rfl⟩:=List.mem_map.1 hg;obtain⟨h1,h2,h3,h4,h5,h6⟩:=hf.nodes q hq;obtain⟨e1,e2,e3,e4,e5,e6⟩:=Im m q;unfold jo;rw[e4,e5,e6,e2];refine⟨by simpa using h1,h2,by simpa using h3,h4,fun t ht=>?_,h6⟩;obtain⟨u,hu,rfl⟩:=List.mem_map.1 ht;exact Me (fun p hp=>by have:=hm p hp;omega) (h5 u hu)
theorem sI(h:Below B w w')(n:Nat):Below B w (w'.drewN n):=⟨h.os,h.tape,h.output,h.size,h.block⟩
theorem Io(s:aF)(x:bS)(w:World)(hs:dD w (·<w.heap.size) s x)(hsm:SchSmall s):
  Calls Tryz.prog 22 #[.agg (x.cells s).toArray] w fun e w'=>∃b:Bool,e=.returned (.bool b)/\Below w.heap.size w w':=by
 have cz:Below w.heap.size w (w.alloc (.cells (x.cells s).toArray 28)):=(Below.refl _ _).alloc (Nat.le_refl _) _;have hbx:bX (w.alloc (.cells (x.cells s).toArray 28)) w.heap.size s x:=by unfold bX;rw[af,if_pos rfl]
 have ow:=Lh (fun(sort:Int) (W:World) (hW:Below w.heap.size w W)=>mM s x sort W (hs.later hW hW.size) hsm);have yS:=Lh (fun(sort:Int)=>count_le hsm sort);have HB:=Lh (aI cz hbx);have HS:=Lh hs;have Ad:=Lh hsm;clear hs hsm cz hbx;simp only[bS.cells,aK.val] at ow HB ⊢;go_enter Tryz.func22,Tryz.ntmps22;go_wp2_with fail;go_loopw [3,4] (fun nn i wr=>∃(j:Nat) (q:Int),j<=s.ah.length/\i=.int .i64 j/\nn=.int .i64 q/\Below w.heap.size w wr/\Hid (bX wr w.heap.size s x)) (fun _ i _=>s.ah.length-(intOf i).toNat)
 case atStart=>exact⟨0,0,Nat.zero_le _,rfl,rfl,HB.out.1,Lh HB.out.2⟩
 case round=>
  obtain⟨j,q,hj,rfl,rfl,hb,gM⟩:=hrel;have HB0:=Lh hb;have hsm:=Ad.out.ah;obtain⟨c0,c1,c2,c3,c4⟩:=gM.out.cells;obtain⟨v,hv⟩:∃v,v=(decide (j<s.ah.length)&&decide (j<80)):=⟨_,rfl⟩;have HV:=Lh hv;clear hv;have hcase:Hid ((j<s.ah.length/\j<80)∨(j<s.ah.length/\¬j<80)∨¬j<s.ah.length):=Lh (by omega);go_upto_region 3 with fail
  go_cut [18] from 10 to 29 (fun u w'=>u=.bool v/\w'=wr)
  case first=>
   rcases hcase.out with⟨p1,p2⟩|⟨p1,p2⟩|p1
   ·have hv:v=true:=by rw[HV.out];simp[p1,p2]
    subst hv;go_wp2_with fail
    all_goals(go_meet;exact⟨by first|rfl|(congr 1;simp;omega)|(exfalso;simp at sU;omega),rfl⟩)
   ·have hv:v=false:=by rw[HV.out];simp[p2]
    subst hv;have PQ:decide ((j:Int)<80)=false:=decide_eq_false (by omega);clear p2;go_wp2_with fail
    all_goals(go_meet;exact⟨by first|rfl|(congr 1;simp;omega)|(exfalso;simp at sU;omega),rfl⟩)
   ·have hv:v=false:=by rw[HV.out];simp[p1]
    subst hv;have sU:decide ((j:Int)<(s.ah.length:Int))=false:=decide_eq_false (by omega);clear p1;go_wp2_with fail
    all_goals(go_meet;exact⟨by first|rfl|(congr 1;simp;omega)|(exfalso;simp at sU;omega),rfl⟩)
  case rest=>
   obtain⟨rfl,rfl⟩:=hcut;cases v;rotate_left
   ·have hlt:j<s.ah.length:=by
     have h:=HV.out;rcases hcase.out with⟨p1,p2⟩|⟨p1,p2⟩|p1
     ·exact p1
     ·exact p1
     ·rw[decide_eq_false p1] at h;simp at h
    clear HV hcase;obtain⟨y1,_,_,_,_,hy2⟩:=HS.out.ah.TU j hlt;obtain⟨hxa,kg⟩:=HS.out.ah.at_ (by rw[List.length_map];omega);obtain⟨e0,e1,e2,e3⟩:=(hy2.agree (ag hb) kg).four;simp only[aK.val] at e3;generalize (s.ah[j]).shut.length=sl at e3;rw[hxa] at c1;clear hy2 kg hxa hb;go_wp2_with fail;exact⟨⟨j+1,_,by omega,by go_num,rfl,HB0.out,gM⟩,by simp[intOf];omega⟩
   ·clear HV hcase hb;go_wp2_with fail;go_loopw [3,5] (fun nn i wr=>∃(j:Nat) (q:Int),j<=s.people.length/\i=.int .i64 j/\nn=.int .i64 q/\Below w.heap.size w wr/\Hid (bX wr w.heap.size s x)) (fun _ i _=>s.people.length-(intOf i).toNat)
    case atStart=>exact⟨0,q,Nat.zero_le _,rfl,rfl,HB0.out,gM⟩
    case round=>
     obtain⟨j,q,hj,rfl,rfl,hb,gM⟩:=hrel;have HB0:=Lh hb;have hsm:=Ad.out.people;obtain⟨c0,c1,c2,c3,c4⟩:=gM.out.cells;obtain⟨v,hv⟩:∃v,v=(decide (j<s.people.length)&&decide (j<80)):=⟨_,rfl⟩;have HV:=Lh hv;clear hv;have hcase:Hid ((j<s.people.length/\j<80)∨(j<s.people.length/\¬j<80)∨¬j<s.people.length):=Lh (by omega);go_upto_region 7 with fail
     go_cut [38] from 30 to 49 (fun u w'=>u=.bool v/\w'=wr)
     case first=>
      rcases hcase.out with⟨p1,p2⟩|⟨p1,p2⟩|p1
      ·have hv:v=true:=by rw[HV.out];simp[p1,p2]
       subst hv;go_wp2_with fail
       all_goals(go_meet;exact⟨by first|rfl|(congr 1;simp;omega)|(exfalso;simp at sU;omega),rfl⟩)
      ·have hv:v=false:=by rw[HV.out];simp[p2]
       subst hv;have PQ:decide ((j:Int)<80)=false:=decide_eq_false (by omega);clear p2;go_wp2_with fail
       all_goals(go_meet;exact⟨by first|rfl|(congr 1;simp;omega)|(exfalso;simp at sU;omega),rfl⟩)
      ·have hv:v=false:=by rw[HV.out];simp[p1]
       subst hv;have sU:decide ((j:Int)<(s.people.length:Int))=false:=decide_eq_false (by omega);clear p1;go_wp2_with fail
       all_goals(go_meet;exact⟨by first|rfl|(congr 1;simp;omega)|(exfalso;simp at sU;omega),rfl⟩)
     case rest=>
      obtain⟨rfl,rfl⟩:=hcut;cases v;rotate_left
      ·have hlt:j<s.people.length:=by
        have h:=HV.out;rcases hcase.out with⟨p1,p2⟩|⟨p1,p2⟩|p1
        ·exact p1
        ·exact p1
        ·rw[decide_eq_false p1] at h;simp at h
       clear HV hcase;obtain⟨y1,_,_,hy2⟩:=HS.out.people.TR j hlt;obtain⟨hxa,kg⟩:=HS.out.people.at_ (by rw[List.length_map];omega);obtain⟨e0,e1⟩:=(hy2.agree (ag hb) kg).two;simp only[aK.val] at e1;generalize (s.people[j]).away.length=sl at e1;rw[hxa] at c2;clear hy2 kg hxa hb;go_wp2_with fail;exact⟨⟨j+1,_,by omega,by go_num,rfl,HB0.out,gM⟩,by simp[intOf];omega⟩
      ·clear HV hcase hb;go_wp2_with fail;go_loopw [3,6] (fun nn i wr=>∃(j:Nat) (q:Int),j<=s.lessons.length/\i=.int .i64 j/\nn=.int .i64 q/\Below w.heap.size w wr/\Hid (bX wr w.heap.size s x)) (fun _ i _=>s.lessons.length-(intOf i).toNat)
       case atStart=>exact⟨0,q,Nat.zero_le _,rfl,rfl,HB0.out,gM⟩
       case round=>
        obtain⟨j,q,hj,rfl,rfl,hb,gM⟩:=hrel;have HB0:=Lh hb;have hsm:=Ad.out.lessons;obtain⟨c0,c1,c2,c3,c4⟩:=gM.out.cells;obtain⟨v,hv⟩:∃v,v=(decide (j<s.lessons.length)&&decide (j<80)):=⟨_,rfl⟩;have HV:=Lh hv;clear hv;have hcase:Hid ((j<s.lessons.length/\j<80)∨(j<s.lessons.length/\¬j<80)∨¬j<s.lessons.length):=Lh (by omega);go_upto_region 11 with fail
        go_cut [58] from 50 to 77 (fun u w'=>u=.bool v/\w'=wr)
        case first=>
         rcases hcase.out with⟨p1,p2⟩|⟨p1,p2⟩|p1
         ·have hv:v=true:=by rw[HV.out];simp[p1,p2]
          subst hv;go_wp2_with fail
          all_goals(go_meet;exact⟨by first|rfl|(congr 1;simp;omega)|(exfalso;simp at sU;omega),rfl⟩)
         ·have hv:v=false:=by rw[HV.out];simp[p2]
          subst hv;have PQ:decide ((j:Int)<80)=false:=decide_eq_false (by omega);clear p2;go_wp2_with fail
          all_goals(go_meet;exact⟨by first|rfl|(congr 1;simp;omega)|(exfalso;simp at sU;omega),rfl⟩)
         ·have hv:v=false:=by rw[HV.out];simp[p1]
          subst hv;have sU:decide ((j:Int)<(s.lessons.length:Int))=false:=decide_eq_false (by omega);clear p1;go_wp2_with fail
          all_goals(go_meet;exact⟨by first|rfl|(congr 1;simp;omega)|(exfalso;simp at sU;omega),rfl⟩)
        case rest=>
         obtain⟨rfl,rfl⟩:=hcut;cases v;rotate_left
         ·have hlt:j<s.lessons.length:=by
           have h:=HV.out;rcases hcase.out with⟨p1,p2⟩|⟨p1,p2⟩|p1
           ·exact p1
           ·exact p1
           ·rw[decide_eq_false p1] at h;simp at h
          clear HV hcase;obtain⟨y1,y2,_,_,_,hy2⟩:=HS.out.lessons.TN j hlt;obtain⟨hxa,kg⟩:=HS.out.lessons.at_ (by rw[List.length_map];omega);obtain⟨e0,e1,e2⟩:=(hy2.agree (ag hb) kg).three;simp only[aK.val] at e1 e2;generalize (s.lessons[j]).who.length=sl at e1;generalize (s.lessons[j]).groups.length=sl2 at e2;rw[hxa] at c4;clear hy2 kg hxa hb;go_wp2_with fail;go_quiet (fail);go_wp2_with fail;exact⟨⟨j+1,_,by omega,by go_num,rfl,sI HB0.out _,Lh (gM.out.below (sI (Below.refl _ _) _))⟩,by simp[intOf];omega⟩
         ·clear HV hcase hb;go_wp2_with fail;go_loopw [3,7] (fun nn so wr=>∃(j:Nat) (q:Int),j<=5/\so=.int .i64 ((j:Int)+1)/\nn=.int .i64 q/\Below w.heap.size w wr/\Hid (bX wr w.heap.size s x)) (fun _ so _=>6-(intOf so).toNat)
          case atStart=>exact⟨0,q,Nat.zero_le _,rfl,rfl,HB0.out,gM⟩
          case round=>
           obtain⟨j,q,hj,rfl,rfl,hb,gM⟩:=hrel;have HB0:=Lh hb;obtain⟨c0,c1,c2,c3,c4⟩:=gM.out.cells;by_cases hlt:j<5
           ·have hl5:(j:Int)+1<=5:=by omega
            have R8:=Lh (ow.out ((j:Int)+1) _ hb);have hle:=yS.out ((j:Int)+1);have JJ:Hid ((ai s ((j:Int)+1)).length<=2000000):=Lh hle;clear hb hle;generalize ai s ((j:Int)+1)=ns at R8 JJ;go_wp2_with fail;refine R8.out.mono ?_;rintro e w1 ⟨x0,rfl,hx0,hb1⟩;have pK:=Lh (aI (HB0.out.trans (hb1.mono HB0.out.size)) (gM.out.below hb1));have HX0:=Lh hx0;clear hb1 hx0 c0 c1 c2 c3 c4;obtain⟨xa,xb,xo,xc⟩:=x0;simp only at HX0 ⊢;go_wp2_with fail;go_loop [3,9] (fun nn i=>∃(k:Nat) (q:Int),k<=ns.length/\i=.int .i64 k/\nn=.int .i64 q) (fun _ i=>ns.length-(intOf i).toNat)
            case atStart=>exact⟨0,q,Nat.zero_le _,rfl,rfl⟩
            case round=>
             obtain⟨k,q,hk,rfl,rfl⟩:=hrel;have hle:=JJ.out;obtain⟨v,hv⟩:∃v,v=(decide (k<ns.length)&&decide (k<80)):=⟨_,rfl⟩;have HV:=Lh hv;clear hv;have hcase:Hid ((k<ns.length/\k<80)∨(k<ns.length/\¬k<80)∨¬k<ns.length):=Lh (by omega);go_upto_region 19 with fail
             go_cut [92] from 85 to 101 (fun u w'=>u=.bool v/\w'=w1)
             case first=>
              rcases hcase.out with⟨p1,p2⟩|⟨p1,p2⟩|p1
              ·have hv:v=true:=by rw[HV.out];simp[p1,p2]
               subst hv;go_wp2_with fail
               all_goals(go_meet;exact⟨by first|rfl|(congr 1;simp;omega)|(exfalso;simp at sU;omega),rfl⟩)
              ·have hv:v=false:=by rw[HV.out];simp[p2]
               subst hv;have PQ:decide ((k:Int)<80)=false:=decide_eq_false (by omega);clear p2;go_wp2_with fail
               all_goals(go_meet;exact⟨by first|rfl|(congr 1;simp;omega)|(exfalso;simp at sU;omega),rfl⟩)
              ·have hv:v=false:=by rw[HV.out];simp[p1]
               subst hv;have sU:decide ((k:Int)<(ns.length:Int))=false:=decide_eq_false (by omega);clear p1;go_wp2_with fail
               all_goals(go_meet;exact⟨by first|rfl|(congr 1;simp;omega)|(exfalso;simp at sU;omega),rfl⟩)
             case rest=>
              obtain⟨rfl,rfl⟩:=hcut;cases v;rotate_left
              ·have V3:k<ns.length:=by
                have h:=HV.out;rcases hcase.out with⟨p1,p2⟩|⟨p1,p2⟩|p1
                ·exact p1
                ·exact p1
                ·rw[decide_eq_false p1] at h;simp at h
               clear HV hcase;obtain⟨ga,_,_,gc,_⟩:=HX0.out.flat iW;obtain⟨hxa,_⟩:=ga (by omega);have e0:wc.cell? ⟨xb,xo+k,none⟩=some (.string ⟨(ns[k]).toArray⟩):=by
                have h:=gc k V3;have h2:=h 0 (by simp[fT,D.vals]);simpa[fT,D.vals] using h2
               clear ga gc;simp only at hxa;subst hxa;generalize ns[k]=nm at e0;go_wp2_with fail;go_round
               case rel=>exact⟨k+1,_,by omega,by go_num,rfl⟩
               case measure=>simp[intOf];omega
              ·clear HV hcase;by_cases h80:(80:Int)<(ns.length:Int)
               ·go_wp2_with fail;go_ret;exact⟨.inl rfl,pK.out.1⟩
               ·have Zq:decide ((80:Int)<(ns.length:Int))=false:=decide_eq_false h80;clear h80;go_wp2_with fail;exact⟨⟨j+1,q,by omega,by go_num,rfl,pK.out.1,Lh pK.out.2⟩,by simp[intOf];omega⟩
           ·have Tn:j=5:=by omega
            subst Tn;by_cases hq:q<=(20000:Int)
            ·go_wp2_with fail;go_ret;exact⟨true,rfl,HB0.out⟩
            ·have hq':decide (q<=(20000:Int))=false:=decide_eq_false hq;clear hq;go_wp2_with fail;go_ret;exact⟨false,rfl,HB0.out⟩
end Go.Proofs.YtncnnbmeacpboaaGreatDoor
namespace Go.aa
open Go.RowKit
variable {s sub:List UInt8} {k B j:Nat} {n:Int} {w w':World} {r:bq} {b l:List aD} {ns:List Bs} {α:Type} {t:bH} {x:aK}
theorem Jl(s:ByteArray):iJ s.data.toList=(s.data.toList.all aU&&(if h:0<s.size then dX s[0] else false)&&(decide ((1:Int)<=(s.size:Int))&&decide ((s.size:Int)<=64))):=by
 have hl:s.data.toList.length=s.size:=by simp
 by_cases h0:0<s.size
 ·have hd:s.data.toList=s[0]::s.data.toList.drop 1:=by
   have:=List.drop_eq_getElem_cons (l:=s.data.toList) (i:=0) (by omega);rw[List.drop_zero] at this;exact this
  simp only[h0,dite_true];have e1:decide ((1:Int)<=(s.size:Int))=true:=by simp;omega
  have e2:decide ((s.size:Int)<=64)=decide (s.data.toList.length<=64):=by rw[Bool.eq_iff_iff];simp only[decide_eq_true_eq];omega
  rw[e1,e2];generalize s[0]=c at hd;generalize s.data.toList.drop 1=r at hd;rw[hd,iJ];cases dX c<;>cases (c::r).all aU<;>cases decide ((c::r).length<=64)<;>rfl
 ·have hn:s.data.toList=[]:=List.length_eq_zero_iff.1 (by omega);rw[hn];simp[h0,iJ]
theorem Re{x:List UInt8}(h:s.all aU=true):(s++32::x).takeWhile (fun c=>c !=32)=s:=by
 induction s with
 |nil=>rfl
 |cons c r ih=>
  rw[List.all_cons,Bool.and_eq_true] at h;have hc:(c !=32)=true:=by
   cases hb:c !=32 with
   |true=>rfl
   |false=>
    have:c=32:=by simpa using hb
    rw[this] at h;exact absurd h.1 (by decide)
  rw[List.cons_append,List.takeWhile_cons,hc,ih h.2];rfl
theorem wB{s:Bs}(hs:s.all aU=true)(hne:s≠[]):Lib.contains bf (32::(s++[32]))=dG.contains s:=by
 have key:∀i:Fin 135,(bf.drop i.val).head?=some 32->(let t:=(bf.drop (i.val+1)).takeWhile (fun c=>c !=32);t=[]∨dG.contains t=true):=by decide+kernel
 have back:∀t∈dG,Lib.contains bf (32::(t++[32]))=true:=by decide+kernel
 cases hb:dG.contains s with
 |true=>exact back s (by simpa using hb)
 |false=>
  refine lT (fun i hi=>?_) (by simp);cases ho:Lib.occAt bf (32::(s++[32])) i with
  |false=>rfl
  |true=>
   exfalso;have hp:(32::(s++[32])).isPrefixOf (bf.drop i)=true:=ho;rw[List.isPrefixOf_iff_prefix] at hp;obtain⟨x,hx⟩:=hp;have hi2:i<135:=by
    simp only[List.length_cons,List.length_append,List.length_nil] at hi;have:bf.length=135:=rfl;omega
   have h1:=key ⟨i,hi2⟩ (by rw[<-hx];rfl);have h2:bf.drop (i+1)=s++32::x:=by
    have:bf.drop (i+1)=(bf.drop i).drop 1:=by rw[List.drop_drop]
    rw[this,<-hx];simp
   simp only[h2,Re hs] at h1;rcases h1 with h1|h1
   ·exact hne h1
   ·rw[hb] at h1;cases h1
def D7(s:Bs):Bool:=iJ s&&!(dG.contains s)
theorem xq(s:Bs):aR s=D7 s:=by
 cases s with
 |nil=>rfl
 |cons c r=>
  rw[aR,D7,iJ,Bool.eq_iff_iff];simp only[Bool.and_eq_true,decide_eq_true_eq,List.all_cons];have hc:aU c=true->(dX c=true↔97<=c.toNat):=by
   intro h;simp only[aU,dX,jS,Bool.or_eq_true,Bool.and_eq_true,decide_eq_true_eq,beq_iff_eq] at h ⊢;constructor
   ·exact fun h=>h.1
   ·intro h97;rcases h with(h|h)|h
    ·exact h
    ·omega
    ·omega
  constructor
  ·rintro⟨⟨⟨h1,h2⟩,h3,h4⟩,h5⟩;exact⟨⟨⟨(hc h3).2 h5,h3,h4⟩,h1⟩,h2⟩
  ·rintro⟨⟨⟨h1,h3,h4⟩,h5⟩,h2⟩;exact⟨⟨⟨h5,h2⟩,h3,h4⟩,(hc h3).1 h1⟩
theorem xu(s:Bs):aR s=(iJ s&&!(Lib.contains bf (32::(s++[32])))):=by
 rw[xq,D7];cases hw:iJ s with
 |false=>rfl
 |true=>
  cases s with
  |nil=>cases hw
  |cons c r=>
   rw[iJ] at hw;simp only[Bool.and_eq_true] at hw;rw[wB hw.1.2 (by simp)]
end Go.aa
namespace Go.Proofs.YtncnnbmeacpboaaGreatDoor
open Go.RowKit Go.aa
variable {s sub:List UInt8} {k B j:Nat} {n:Int} {w w':World} {r:bq} {b l:List aD} {ns:List Bs} {α:Type} {t:bH} {x:aK}
theorem zJ(x s:ByteArray)(w:World)(hx:x.size<=281474976710656)(hs:s.size<=281474976710656):
  Calls Tryz.prog 172 #[.string x,.string s] w fun e w'=>e=.returned (.bool (Lib.contains x.data.toList s.data.toList))/\w'=w:=by
 go_enter Tryz.func172,Tryz.ntmps172;go_wp2_with fail;go_loop [5] (fun i=>∃k:Nat,k<=x.size+1/\i=.int .i64 k/\Hid (∀j,j<k->Lib.occAt x.data.toList s.data.toList j=false)) (fun i=>x.size+1-(intOf i).toNat)
 case atStart=>exact⟨0,Nat.zero_le _,rfl,Lh (fun j hj=>by omega)⟩
 case round=>
  obtain⟨k,hk,rfl,HA⟩:=hrel;by_cases hlt:k+s.size<=x.size
  ·have Sd:=Lh (Lib.occ_of_piece x s k hlt);have hkl:k<=x.data.toList.length:=by simp;omega
   have wX:=Lh (nH (sub:=s.data.toList) hkl);clear hkl;cases hoc:(x.extract k (k+s.size)).toList==s.toList
   ·have HN:Hid (∀j,j<k+1->Lib.occAt x.data.toList s.data.toList j=false):=Lh (fun j hj=>by
     by_cases h:j=k
     ·subst h;rw[Sd.out,hoc]
     ·exact HA.out j (by omega))
    go_wp2_with fail;go_round
    case rel=>exact⟨k+1,by omega,by go_num,HN⟩
    case measure=>simp[intOf];omega
   ·have HN:=Lh (wX.out (by rw[Sd.out,hoc]));go_wp2_with fail;go_ret;exact⟨by rw[HN.out];rfl,rfl⟩
  ·have HN:Hid (Lib.contains x.data.toList s.data.toList=false):=Lh (by
    have hxl:x.data.toList.length=x.size:=by simp
    have hsl:s.data.toList.length=s.size:=by simp
    refine lT (fun i hi=>HA.out i (by omega)) (fun h=>?_);have:=HA.out 0 (by rw[h] at hsl;simp at hsl;omega);rw[h] at this;simp[Lib.occAt] at this)
   go_wp2_with fail;go_ret;exact⟨by rw[HN.out];rfl,rfl⟩
theorem Em(s:ByteArray)(w:World)(hs:s.size<=1000000000):Calls Tryz.prog 171 #[.string s] w fun e w'=>e=.returned (.bool (iJ s.data.toList))/\w'=w:=by
 have kM:=Lh (Jl s);have RZ:Hid (∀k (h:k<s.size),¬j5 (s[k].toNat:Int) k->iJ s.data.toList=false):=Lh (fun k h hg=>by
  rw[kM.out];rw[mq] at hg;by_cases h1:aU s[k]=true
  ·have h2:k=0/\dX s[k]=false:=by
    by_cases hk:k=0
    ·refine⟨hk,?_⟩;cases hsm:dX s[k] with
     |false=>rfl
     |true=>exact absurd ⟨h1,fun _=>hsm⟩ hg
    ·exact absurd ⟨h1,fun h=>absurd h hk⟩ hg
   obtain⟨rfl,h2⟩:=h2;simp[h,h2]
  ·have:s.data.toList.all aU=false:=List.all_eq_false.2 ⟨s[k],by
    have e:s.data.toList[k]'(by simpa using h)=s[k]:=rfl;rw[<-e];exact List.getElem_mem _,h1⟩
   rw[this];simp)
 go_enter Tryz.func171,Tryz.ntmps171;go_wp2_with fail;go_loop [3,4,5] (fun i _ _=>∃k:Nat,k<=s.size/\i=.int .i64 k/\Hid ((∀j (h:j<s.size),j<k->aU s[j]=true)/\(∀h:0<s.size,0<k->dX s[0]=true))) (fun i _ _=>s.size-(intOf i).toNat)
 case atStart=>exact⟨0,Nat.zero_le _,rfl,Lh ⟨fun _ _ h=>by omega,fun _ h=>by omega⟩⟩
 case round=>
  obtain⟨k,hk,rfl,HA⟩:=hrel;by_cases hlt:k<s.size
  ·have Nt:=Lh (RZ.out k hlt);have HG:Hid (j5 (s[k].toNat:Int) k->(∀j (h:j<s.size),j<k+1->aU s[j]=true)/\(∀h:0<s.size,0<k+1->dX s[0]=true)):=Lh (fun hg=>by
    obtain⟨g1,g2⟩:=mq.1 hg;refine⟨fun j h hj=>?_,fun h _=>?_⟩
    ·by_cases e:j=k
     ·subst e;exact g1
     ·exact HA.out.1 j h (by omega)
    ·by_cases e:k=0
     ·subst e;exact g2 rfl
     ·exact HA.out.2 h (by omega))
   generalize hn:s[k].toNat=n at Nt HG;go_wp2_with fail
   all_goals first
    |(go_ret;exact⟨by rw[Nt.out (by unfold j5;omega)];rfl,rfl⟩)
    |exact⟨⟨k+1,by omega,by first|go_num|(congr 1;omega),Lh (HG.out (by unfold j5;omega))⟩,by simp[intOf];omega⟩
    |(rename_i hq;simp at hq;first|(exfalso;omega)|exact⟨⟨k+1,by omega,by first|go_num|(congr 1;omega),Lh (HG.out (by unfold j5;omega))⟩,by simp[intOf];omega⟩)
    |(rename_i hq _;simp at hq;first|(exfalso;omega)|(go_ret;exact⟨by rw[Nt.out (by unfold j5;omega)];rfl,rfl⟩))
    |(rename_i hq _ _;simp at hq;first|(exfalso;omega)|(go_ret;exact⟨by rw[Nt.out (by unfold j5;omega)];rfl,rfl⟩))
  ·obtain rfl:k=s.size:=by omega
   have HE:Hid (iJ s.data.toList=(decide ((1:Int)<=(s.size:Int))&&decide ((s.size:Int)<=64))):=Lh (by
    rw[kM.out];have h1:s.data.toList.all aU=true:=List.all_eq_true.2 (fun c hc=>by
     obtain⟨j,hj,rfl⟩:=List.mem_iff_getElem.1 hc;have hj2:j<s.size:=by simpa using hj
     exact HA.out.1 j hj2 hj2)
    rw[h1];by_cases h0:0<s.size
    ·simp[h0,HA.out.2 h0 h0]
    ·have e1:decide ((1:Int)<=(s.size:Int))=false:=by simp;omega
     simp[h0,e1])
   by_cases h0:0<s.size
   ·by_cases h64:s.size<=64
    ·have e1:decide ((1:Int)<=(s.size:Int))=true:=by simp;omega
     have e2:decide ((s.size:Int)<=64)=true:=by simp;omega
     have HE2:Hid (iJ s.data.toList=true):=Lh (by rw[HE.out,e1,e2];rfl);go_wp2_with fail;go_ret;exact⟨by rw[HE2.out];first|rfl|simp,rfl⟩
    ·have e1:decide ((1:Int)<=(s.size:Int))=true:=by simp;omega
     have e2:decide ((s.size:Int)<=64)=false:=by simp;omega
     have HE2:Hid (iJ s.data.toList=false):=Lh (by rw[HE.out,e1,e2];rfl);go_wp2_with fail;go_ret;exact⟨by rw[HE2.out];first|rfl|simp,rfl⟩
   ·have e1:decide ((1:Int)<=(s.size:Int))=false:=by simp;omega
    have HE2:Hid (iJ s.data.toList=false):=Lh (by rw[HE.out,e1];rfl);go_wp2_with fail;go_ret;exact⟨by rw[HE2.out];first|rfl|simp,rfl⟩
theorem mI(s:ByteArray)(w:World)(hs:s.size<=1000000000):Calls Tryz.prog 134 #[.string s] w fun e w'=>e=.returned (.bool (aR s.data.toList))/\w'=w:=by
 have hrs:(⟨bf.toArray⟩:ByteArray).data.toList=bf:=List.toList_toArray ..;have HST:Hid (Calls Tryz.prog 172 #[.string ⟨bf.toArray⟩,.string (⟨#[32]⟩++s++⟨#[32]⟩)] w fun e w'=>e=.returned (.bool (Lib.contains bf (32::(s.data.toList++[32]))))/\w'=w):=Lh (by
  have h:=zJ ⟨bf.toArray⟩ (⟨#[32]⟩++s++⟨#[32]⟩) w (by decide) (by have e:(⟨#[32]⟩:ByteArray).size=1:=rfl;simp only[ByteArray.size_append,e];omega);rw[hrs,wH] at h;exact h)
 have HE:=Lh (xu s.data.toList);have ND:=Lh (Em s w hs);clear hrs;generalize iJ s.data.toList=b1 at HE ND;generalize Lib.contains bf (32::(s.data.toList++[32]))=b2 at HE HST;generalize aR s.data.toList=b3 at HE ⊢;go_enter Tryz.func134,Tryz.ntmps134;go_wp2_with fail;refine ND.out.mono ?_;rintro e w' ⟨rfl,rfl⟩;cases b1
 ·go_wp2_with fail;go_ret;exact⟨by rw[HE.out];rfl,rfl⟩
 ·go_wp2_with fail;refine HST.out.mono ?_;rintro e w' ⟨rfl,rfl⟩;go_wp2_with fail;go_ret;exact⟨by rw[HE.out];rfl,rfl⟩
end Go.Proofs.YtncnnbmeacpboaaGreatDoor
namespace Go.aa
variable {s sub:List UInt8} {k B j:Nat} {n:Int} {w w':World} {r:bq} {b l:List aD} {ns:List Bs} {α:Type} {t:bH} {x:aK}
def nU(k:Int):Int:=match dW k with|some n=>(n:Int)|none=> -1
theorem Ee(k:Int)(n:Nat):((n:Int)==nU k)=(dW k==some n):=by
 unfold nU;cases h:dW k with
 |none=>
  dsimp only;rw[show((none:Option Nat)==some n)=false from rfl,beq_eq_false_iff_ne];omega
 |some m=>
  dsimp only;rw[show((some m:Option Nat)==some n)=(m==n) from rfl,Bool.eq_iff_iff];simp only[beq_iff_eq];omega
end Go.aa
namespace Go.Proofs.YtncnnbmeacpboaaGreatDoor
open Go.RowKit Go.aa
variable {s sub:List UInt8} {k B j:Nat} {n:Int} {w w':World} {r:bq} {b l:List aD} {ns:List Bs} {α:Type} {t:bH} {x:aK}
theorem mH(n:Int)(w:World):Calls Tryz.prog 174 #[.int .i64 n] w fun e w'=>e=.returned (.bool (bZ n))/\w'=w:=by
 by_cases h1:3<=n
 ·by_cases h2:n<=9
  ·have e:bZ n=true:=by unfold bZ;simp[h1,h2]
   rw[e];clear e;go_enter Tryz.func174,Tryz.ntmps174;go_wp2_with fail;go_ret;exact⟨rfl,rfl⟩
  ·have e:bZ n=false:=by unfold bZ;simp[h2]
   rw[e];clear e;have h2':decide (n<=9)=false:=by simpa using h2
   go_enter Tryz.func174,Tryz.ntmps174;go_wp2_with fail;go_ret;exact⟨rfl,rfl⟩
 ·have e:bZ n=false:=by unfold bZ;simp[h1]
  rw[e];clear e;have h1':decide (3<=n)=false:=by simpa using h1
  go_enter Tryz.func174,Tryz.ntmps174;go_wp2_with fail;go_ret;exact⟨rfl,rfl⟩
theorem Cf(n:Int)(w:World):Calls Tryz.prog 179 #[.int .i64 n] w fun e w'=>e=.returned (.bool (cZ n))/\w'=w:=by
 by_cases h1:14<=n
 ·by_cases h2:n<=17
  ·have e:cZ n=true:=by unfold cZ;simp[h1,h2]
   rw[e];clear e;go_enter Tryz.func179,Tryz.ntmps179;go_wp2_with fail;go_ret;exact⟨rfl,rfl⟩
  ·have e:cZ n=false:=by unfold cZ;simp[h2]
   rw[e];clear e;have h2':decide (n<=17)=false:=by simpa using h2
   go_enter Tryz.func179,Tryz.ntmps179;go_wp2_with fail;go_ret;exact⟨rfl,rfl⟩
 ·have e:cZ n=false:=by unfold cZ;simp[h1]
  rw[e];clear e;have h1':decide (14<=n)=false:=by simpa using h1
  go_enter Tryz.func179,Tryz.ntmps179;go_wp2_with fail;go_ret;exact⟨rfl,rfl⟩
theorem Ej(s:Bs)(w:World):Calls Tryz.prog 178 #[.string ⟨s.toArray⟩] w fun e w'=>e=.returned (.bool (cmpL.contains s))/\w'=w:=by
 by_cases hc:s∈cmpL
 ·have e:cmpL.contains s=true:=by simpa using hc
  rw[e];clear e;simp only[cmpL,List.mem_cons,List.not_mem_nil,or_false] at hc;rcases hc with rfl|rfl|rfl|rfl|rfl|rfl
  all_goals
   go_enter Tryz.func178,Tryz.ntmps178;go_wp2_with fail;go_ret;exact⟨rfl,rfl⟩
 ·have e:cmpL.contains s=false:=by simpa using hc
  rw[e];clear e;simp only[cmpL,List.mem_cons,List.not_mem_nil,or_false,not_or] at hc;obtain⟨h1,h2,h3,h4,h5,h6⟩:=hc;have e1:(s==[61])=false:=by simpa using h1
  have e2:(s==[33,61])=false:=by simpa using h2
  have e3:(s==[60])=false:=by simpa using h3
  have e4:(s==[60,61])=false:=by simpa using h4
  have e5:(s==[62])=false:=by simpa using h5
  have e6:(s==[62,61])=false:=by simpa using h6
  clear h1 h2 h3 h4 h5 h6;go_enter Tryz.func178,Tryz.ntmps178;go_wp2_with fail;go_ret;exact⟨rfl,rfl⟩
theorem Ce(k:Int)(w:World):Calls Tryz.prog 138 #[.int .i64 k] w fun e w'=>e=.returned (.int .i64 (nU k))/\w'=w:=by
 by_cases hA:k=10∨k=14∨k=15∨k=16∨k=17∨k=11∨k=12∨k=13∨k=1∨k=2
 ·rcases hA with rfl|rfl|rfl|rfl|rfl|rfl|rfl|rfl|rfl|rfl
  all_goals
   go_enter Tryz.func138,Tryz.ntmps138;go_wp2_with fail;go_ret;exact⟨rfl,rfl⟩
 ·have e10:(k==10)=false:=by simp;omega
  have e14:(k==14)=false:=by simp;omega
  have e15:(k==15)=false:=by simp;omega
  have e16:(k==16)=false:=by simp;omega
  have e17:(k==17)=false:=by simp;omega
  have e11:(k==11)=false:=by simp;omega
  have e12:(k==12)=false:=by simp;omega
  have e13:(k==13)=false:=by simp;omega
  have e1:(k==1)=false:=by simp;omega
  have e2:(k==2)=false:=by simp;omega
  have HA:=Lh (mH k w);have HP:Hid (nU k=if bZ k then 0 else -1):=Lh (by
   unfold nU dW bZ;by_cases h:k<1∨17<k
   ·rw[if_pos h];have:(decide (3<=k)&&decide (k<=9))=false:=by simp;omega
    rw[this];rfl
   ·rw[if_neg h,if_pos (by omega)];have:(decide (3<=k)&&decide (k<=9))=true:=by simp;omega
    rw[this];rfl)
  clear hA;generalize nU k=pn at HP ⊢;generalize bZ k=b at HA HP;go_enter Tryz.func138,Tryz.ntmps138;go_wp2_with fail;refine HA.out.mono ?_;rintro e w' ⟨rfl,rfl⟩;cases b
  ·go_wp2_with fail;go_ret;exact⟨by rw[HP.out];rfl,rfl⟩
  ·go_wp2_with fail;go_ret;exact⟨by rw[HP.out];rfl,rfl⟩
theorem wm(t:bH)(w:World)(hlen:t.name.length<=4000000):
  Calls Tryz.prog 177 #[.agg #[.int .i64 t.kind,.string ⟨t.name.toArray⟩,.int .i64 t.n]] w fun e w'=>e=.returned (.bool (aA t))/\Below w.heap.size w w':=by
 have cz:Below w.heap.size w (w.alloc (.cells #[.int .i64 t.kind,.string ⟨t.name.toArray⟩,.int .i64 t.n] 92)):=(Below.refl _ _).alloc (Nat.le_refl _) _;have HB:=Lh cz;clear cz;obtain⟨kind,name,n⟩:=t;simp only at hlen HB ⊢;by_cases h1:kind=1
 ·subst h1;have e:aA ⟨1,name,n⟩=(name.isEmpty&&dn n):=by unfold aA;simp
  rw[e];clear e;cases name with
  |nil=>
   by_cases h2:0<=n
   ·by_cases h3:n<=1099511627776
    ·have e:dn n=true:=by unfold dn;simp[h2,h3]
     rw[e];clear e;go_enter Tryz.func177,Tryz.ntmps177;go_wp2_with fail;go_ret;exact⟨rfl,HB.out⟩
    ·have e:dn n=false:=by unfold dn;simp[h3]
     have h3':decide (n<=1099511627776)=false:=by simpa using h3
     rw[e];clear e;go_enter Tryz.func177,Tryz.ntmps177;go_wp2_with fail;go_ret;exact⟨rfl,HB.out⟩
   ·have e:dn n=false:=by unfold dn;simp[h2]
    have h2':decide (0<=n)=false:=by simpa using h2
    rw[e];clear e;go_enter Tryz.func177,Tryz.ntmps177;go_wp2_with fail;go_ret;exact⟨rfl,HB.out⟩
  |cons c r=>
   have hsz:(⟨(c::r).toArray⟩:ByteArray).size=r.length+1:=by rw[aZ];rfl
   go_enter Tryz.func177,Tryz.ntmps177;go_wp2_with fail;go_ret;exact⟨by simp,HB.out⟩
 ·have h1':(kind==1)=false:=by simpa using h1
  have e:aA ⟨kind,name,n⟩=(decide (2<=kind)&&decide (kind<=7)&&aR name&&decide (n=0)):=by unfold aA;rw[if_neg h1]
  rw[e];clear e;by_cases h2:2<=kind
  ·by_cases h3:kind<=7
   ·have HN:=Lh (fun(W:World)=>mI ⟨name.toArray⟩ W (by rw[aZ];omega));rw[show(⟨name.toArray⟩:ByteArray).data.toList=name from List.toList_toArray ..] at HN;simp only[h2,h3,decide_true,Bool.true_and];generalize aR name=nm at HN ⊢;go_enter Tryz.func177,Tryz.ntmps177;go_wp2_with fail;refine(HN.out _).mono ?_;rintro e w1 ⟨rfl,rfl⟩;cases nm
    ·go_wp2_with fail;go_ret;exact⟨by simp,HB.out⟩
    ·go_wp2_with fail;go_ret;exact⟨by simp;rfl,HB.out⟩
   ·have h3':decide (kind<=7)=false:=by simpa using h3
    go_enter Tryz.func177,Tryz.ntmps177;go_wp2_with fail;go_ret;exact⟨by simp,HB.out⟩
  ·have h2':decide (2<=kind)=false:=by simpa using h2
   go_enter Tryz.func177,Tryz.ntmps177;go_wp2_with fail;go_ret;exact⟨by simp[h2],HB.out⟩
end Go.Proofs.YtncnnbmeacpboaaGreatDoor
namespace Go.aa
open Go.RowKit
variable {s sub:List UInt8} {k B j:Nat} {n:Int} {w w':World} {r:bq} {b l:List aD} {ns:List Bs} {α:Type} {t:bH} {x:aK}
def CR(kind:Int)(name:Bs):List bH->Bool
 |[t,u]=>aA t&&aA u&&(if kind=9 then cmpL.contains name else name.isEmpty&&(t.kind==2)&&(u.kind==2))
 |_=>false
def nZ(kind:Int)(name:Bs)(terms:List bH):Bool:=if bZ kind then CR kind name terms else terms.isEmpty&&name.isEmpty
def pR(kind n:Int)(binds:List aD):Bool:=
 if cZ kind then binds.all aL&&decide (1<=binds.length)&&decide (binds.length<=6)&&((n==0)||(dL kind&&decide (0<n)&&decide (n<=1099511627776))) else binds.isEmpty&&(n==0)
theorem Bh(kind:Int)(name:Bs)(n:Int)(terms:List bH)(binds:List aD)(l:List ae):aH (.mk kind name n terms binds l)=((dW kind==some l.length)&&nZ kind name terms&&pR kind n binds):=by
 rw[jD,ll];cases hr:(dW kind==some l.length) with
 |false=>rfl
 |true=>
  unfold nZ pR;cases ha:bZ kind with
  |true=>
   have hk:3<=kind/\kind<=9:=by unfold bZ at ha;simpa using ha
   have hq:cZ kind=false:=by unfold cZ;simp;omega
   have hc:dL kind=false:=by unfold dL;simp;omega
   have hnn:decide (n=0)=(n==0):=by rw[Bool.eq_iff_iff];simp
   rw[hq,hc,hnn];simp only[Bool.or_true,Bool.or_false,Bool.and_true,Bool.true_and,if_true,Bool.false_eq_true,if_false];have key:∀t u:bH,([t,u].all fun t=>aA t&&(decide (kind=9)||decide (t.kind=2)))=(aA t&&aA u&&(decide (kind=9)||((t.kind==2)&&(u.kind==2)))):=fun t u=>by
    simp only[List.all_cons,List.all_nil,Bool.and_true];have e1:decide (t.kind=2)=(t.kind==2):=by rw[Bool.eq_iff_iff];simp
    have e2:decide (u.kind=2)=(u.kind==2):=by rw[Bool.eq_iff_iff];simp
    rw[e1,e2];cases aA t<;>cases aA u<;>cases decide (kind=9)<;>cases t.kind==2<;>cases u.kind==2<;>rfl
   match terms with
   |[]=>simp[CR]
   |[t]=>simp[CR]
   |t::u::v::r=>simp[CR]
   |[t,u]=>
    rw[key,show CR kind name [t,u]=(aA t&&aA u&&(if kind=9 then cmpL.contains name else name.isEmpty&&(t.kind==2)&&(u.kind==2))) from rfl];by_cases h9:kind=9
    ·rw[if_pos h9,decide_eq_true h9];cases cmpL.contains name<;>cases binds.isEmpty<;>cases (n==0)<;>simp[h9]<;>cases aA t<;>cases aA u<;>rfl
    ·rw[if_neg h9,if_neg (fun h=>h9 h.1),decide_eq_false h9];cases name.isEmpty<;>cases binds.isEmpty<;>cases (n==0)<;>simp<;>cases aA t<;>cases aA u<;>cases t.kind==2<;>cases u.kind==2<;>rfl
  |false=>
   have h9:¬kind=9:=fun h=>by subst h;revert ha;decide
   rw[if_neg (fun h=>h9 h.1),decide_eq_false h9];cases hq:cZ kind with
   |true=>
    have hk:14<=kind/\kind<=17:=by unfold cZ at hq;simpa using hq
    simp only[Bool.or_true,Bool.or_false,Bool.and_true,Bool.true_and,if_true,Bool.false_eq_true,if_false];have e1:decide (0<binds.length)=decide (1<=binds.length):=by rw[Bool.eq_iff_iff];simp only[decide_eq_true_eq];omega
    rw[e1];have e2:(decide (n=0)||dL kind)=true->((decide (n=0)||dL kind)&&dn n)=((n==0)||(dL kind&&decide (0<n)&&decide (n<=1099511627776))):=by
     intro h;rw[h,Bool.true_and];unfold dn;by_cases h0:n=0
     ·subst h0;cases dL kind<;>rfl
     ·have hb:(n==0)=false:=by simpa using h0
      have hd:decide (n=0)=false:=by simpa using h0
      rw[hd,Bool.false_or] at h;rw[hb,h,Bool.false_or,Bool.true_and,Bool.eq_iff_iff];simp only[Bool.and_eq_true,decide_eq_true_eq];omega
    have e3:(decide (n=0)||dL kind)=false->((n==0)||(dL kind&&decide (0<n)&&decide (n<=1099511627776)))=false:=by
     intro h;rw[Bool.or_eq_false_iff] at h;have hb:(n==0)=false:=by simpa using h.1
     rw[hb,h.2];rfl
    cases hc:(decide (n=0)||dL kind) with
    |true=>
     rw[<-e2 hc,hc];cases terms.isEmpty<;>cases name.isEmpty<;>cases decide (1<=binds.length)<;>cases decide (binds.length<=6)<;>cases binds.all aL<;>cases dn n<;>rfl
    |false=>
     rw[e3 hc];cases terms.isEmpty<;>cases name.isEmpty<;>simp
   |false=>
    have hc:dL kind=false:=by
     cases hb:dL kind with
     |false=>rfl
     |true=>unfold dL at hb;unfold cZ at hq;simp at hb hq;omega
    have hnn:decide (n=0)=(n==0):=by rw[Bool.eq_iff_iff];simp
    rw[hc,hnn];simp only[Bool.or_true,Bool.or_false,Bool.and_true,Bool.true_and,if_true,Bool.false_eq_true,if_false];cases terms.isEmpty<;>cases name.isEmpty<;>cases binds.isEmpty<;>cases (n==0)<;>rfl
end Go.aa
namespace Go.Proofs.YtncnnbmeacpboaaGreatDoor
open Go.RowKit Go.aa
variable {s sub:List UInt8} {k B j:Nat} {n:Int} {w w':World} {r:bq} {b l:List aD} {ns:List Bs} {α:Type} {t:bH} {x:aK}
theorem Cg(f:ae)(x:aC)(w:World)(hx:aB w (·<w.heap.size) f x)(hsm:jo f):
  Calls Tryz.prog 139 #[gB (f,x)] w fun e w'=>e=.returned (.bool (nZ f.kind f.name f.terms))/\Below w.heap.size w w':=by
 have cz:Below w.heap.size w (w.alloc (.cells (x.cells f).toArray 64)):=(Below.refl _ _).alloc (Nat.le_refl _) _;have HB:=Lh cz;have Gl:=Lh (hx.terms.later cz (C:=w.heap.size) (Nat.le_refl _));have Ad:=Lh hsm;clear hx cz;obtain⟨kind,name,n,terms,binds,fl⟩:=f;simp only[gB,aC.cells,aK.val,ae.kind,ae.name,ae.n,ae.terms,ae.binds,ae.l] at HB Gl Ad ⊢;unfold jo at Ad;simp only[ae.terms,ae.binds,ae.l,ae.name] at Ad;have HA:=Lh (fun(W:World)=>mH kind W);have HR:Hid (nZ kind name terms=if bZ kind then CR kind name terms else terms.isEmpty&&name.isEmpty):=Lh rfl;generalize nZ kind name terms=res at HR ⊢;obtain⟨W0,hW0⟩:∃W0,W0=w.alloc (.cells #[.int .i64 kind,.string ⟨name.toArray⟩,.int .i64 n,.slice x.t.a terms.length x.t.cap,.slice x.b.a binds.length x.b.cap,.slice x.l.a fl.length x.l.cap] 64):=⟨_,rfl⟩;have hq:W0.heap[w.heap.size]?=some (.cells #[.int .i64 kind,.string ⟨name.toArray⟩,.int .i64 n,.slice x.t.a terms.length x.t.cap,.slice x.b.a binds.length x.b.cap,.slice x.l.a fl.length x.l.cap] 64 (0,0)):=by rw[hW0,af,if_pos rfl]
 have hbw:Below w.heap.size w W0:=by rw[hW0];exact HB.out
 have QY:aj W0 (·<w.heap.size) (terms.map bH.toD) x.t:=by rw[hW0];exact Gl.out
 have HK:Hid (∀W,Below W0.heap.size W0 W->Below w.heap.size w W/\aj W (·<w.heap.size) (terms.map bH.toD) x.t/\W.cell? ⟨w.heap.size,0,none⟩=some (.int .i64 kind)/\W.cell? ⟨w.heap.size,1,none⟩=some (.string ⟨name.toArray⟩)/\W.cell? ⟨w.heap.size,3,none⟩=some (.slice x.t.a terms.length x.t.cap)):=Lh (fun W hW=>by
  have hb:=(hW.block _ (gS hq).1).trans hq;exact⟨hbw.trans (hW.mono hbw.size),QY.later (hW.mono hbw.size) (Nat.le_refl _),cH hb rfl,cH hb rfl,cH hb rfl⟩)
 have HW0:=Lh hW0;clear hW0 hq hbw QY HB Gl;obtain⟨_,_,c0,c1,c3⟩:=HK.out W0 (Below.refl _ _);go_enter Tryz.func139,Tryz.ntmps139;go_upto_region 1 with fail
 rw[<-HW0.out];go_wp2_with fail;refine(HA.out _).mono ?_;rintro e w' ⟨rfl,hw⟩;rw[hw];clear hw w';cases hak:bZ kind with
 |false=>
  have HR2:Hid (res=(terms.isEmpty&&name.isEmpty)):=Lh (by rw[HR.out,hak];rfl);clear HR hak;cases terms with
  |nil=>
   cases name with
   |nil=>
    go_wp2_with fail;go_ret;exact⟨by rw[HR2.out];rfl,(HK.out _ (Below.refl _ _)).1⟩
   |cons c r=>
    have hsz:(⟨(c::r).toArray⟩:ByteArray).size=r.length+1:=by rw[aZ];rfl
    go_wp2_with fail;go_ret;exact⟨by rw[HR2.out];first|rfl|simp,(HK.out _ (Below.refl _ _)).1⟩
  |cons t r=>
   have h0:(((t::r).length:Int)==0)=false:=by simp;omega
   go_wp2_with fail;go_ret;exact⟨by rw[HR2.out];rfl,(HK.out _ (Below.refl _ _)).1⟩
 |true=>
  have HR2:Hid (res=CR kind name terms):=Lh (by rw[HR.out,hak];rfl);clear HR hak;rcases terms with _|⟨t,_|⟨u,_|⟨v,r⟩⟩⟩
  ·go_wp2_with fail;go_ret;exact⟨by rw[HR2.out];rfl,(HK.out _ (Below.refl _ _)).1⟩
  ·go_wp2_with fail;go_ret;exact⟨by rw[HR2.out];rfl,(HK.out _ (Below.refl _ _)).1⟩
  rotate_left
  ·have h3:(((t::u::v::r).length:Int) !=2)=true:=by simp;omega
   go_wp2_with fail;go_ret;exact⟨by rw[HR2.out];rfl,(HK.out _ (Below.refl _ _)).1⟩
  have HC:Hid (∀W,Below W0.heap.size W0 W->x.t.a=some ⟨x.t.b,x.t.o,none⟩/\(W.cell? ⟨x.t.b,x.t.o,none⟩=some (.int .i64 t.kind)/\W.cell? ⟨x.t.b,x.t.o+1,none⟩=some (.string ⟨t.name.toArray⟩)/\W.cell? ⟨x.t.b,x.t.o+2,none⟩=some (.int .i64 t.n))/\(W.cell? ⟨x.t.b,x.t.o+3,none⟩=some (.int .i64 u.kind)/\W.cell? ⟨x.t.b,x.t.o+4,none⟩=some (.string ⟨u.name.toArray⟩)/\W.cell? ⟨x.t.b,x.t.o+5,none⟩=some (.int .i64 u.n))):=Lh (fun W hW=>by
   obtain⟨h1,_,_,h4,_⟩:=aj.flat bH.bI (HK.out W hW).2.1;obtain⟨g0,g1,g2⟩:=h4.three 0 (by simp) rfl;obtain⟨k0,k1,k2⟩:=h4.three 1 (by simp) rfl;exact⟨(h1 (by simp)).1,⟨by simpa using g0,by simpa using g1,by simpa using g2⟩,⟨by simpa using k0,by simpa using k1,by simpa using k2⟩⟩)
  have HT:=Lh (fun(W:World)=>wm t W (Ad.out.2.2.2.2.1 t (by simp)));have HU:=Lh (fun(W:World)=>wm u W (Ad.out.2.2.2.2.1 u (by simp)));have HR3:Hid (res=(aA t&&aA u&&(if kind=9 then cmpL.contains name else name.isEmpty&&(t.kind==2)&&(u.kind==2)))):=Lh HR2.out;clear HR2;obtain⟨hxa,⟨a0,a1,a2⟩,b0,b1,b2⟩:=HC.out W0 (Below.refl _ _);obtain⟨tk,tn,tm⟩:=t;obtain⟨uk,un,um⟩:=u;generalize aA ⟨tk,tn,tm⟩=bt at HT HR3;generalize aA ⟨uk,un,um⟩=bu at HU HR3;simp only at HT HU HC HR3 a0 a1 a2 b0 b1 b2;simp only[hxa] at HK HC c3 ⊢;go_wp2_with fail;refine(HT.out _).mono ?_;rintro e w1 ⟨rfl,hb1⟩;have H1:=Lh hb1;clear hb1 a0 a1 a2 b0 b1 b2 c0 c1 c3;cases bt
  ·go_wp2_with fail;go_ret;exact⟨by rw[HR3.out];rfl,(HK.out _ H1.out).1⟩
  obtain⟨_,_,c0,c1,c3⟩:=HK.out w1 H1.out;obtain⟨_,⟨a0,a1,a2⟩,b0,b1,b2⟩:=HC.out w1 H1.out;go_wp2_with fail;refine(HU.out _).mono ?_;rintro e w2 ⟨rfl,hb2⟩;have H2:=Lh (H1.out.trans (hb2.mono H1.out.size));clear hb2 a0 a1 a2 b0 b1 b2 c0 c1 c3;cases bu
  ·go_wp2_with fail;go_ret;exact⟨by rw[HR3.out];rfl,(HK.out _ H2.out).1⟩
  obtain⟨_,_,c0,c1,c3⟩:=HK.out w2 H2.out;obtain⟨_,⟨a0,a1,a2⟩,b0,b1,b2⟩:=HC.out w2 H2.out;by_cases h9:kind=9
  ·have HR4:Hid (res=cmpL.contains name):=Lh (by rw[HR3.out,if_pos h9];rfl);have d9:(kind==9)=true:=by simpa using h9
   clear h9 HR3;have HS:=Lh (fun(W:World)=>Ej name W);generalize cmpL.contains name=cs at HS HR4;go_wp2_with fail;refine(HS.out _).mono ?_;rintro e w3 ⟨rfl,rfl⟩;go_wp2_with fail;go_ret;exact⟨by rw[HR4.out];rfl,(HK.out _ H2.out).1⟩
  ·have HR4:Hid (res=(name.isEmpty&&(tk==2)&&(uk==2))):=Lh (by rw[HR3.out,if_neg h9];rfl);have d9:(kind==9)=false:=by simpa using h9
   clear h9 HR3;cases name with
   |cons c r=>
    have hsz:(⟨(c::r).toArray⟩:ByteArray).size=r.length+1:=by rw[aZ];rfl
    go_wp2_with fail;go_ret;exact⟨by rw[HR4.out];first|rfl|simp,(HK.out _ H2.out).1⟩
   |nil=>
    cases h1:(tk==2)
    ·go_wp2_with fail;go_ret;exact⟨by rw[HR4.out,h1];rfl,(HK.out _ H2.out).1⟩
    ·have h1':tk=2:=by simpa using h1
     cases h2:(uk==2)
     ·go_wp2_with fail;go_ret;exact⟨by rw[HR4.out,h1,h2];rfl,(HK.out _ H2.out).1⟩
     ·go_wp2_with fail;go_ret;exact⟨by rw[HR4.out,h1,h2];rfl,(HK.out _ H2.out).1⟩
end Go.Proofs.YtncnnbmeacpboaaGreatDoor
namespace Go.aa
open Go.RowKit
variable {s sub:List UInt8} {k B j:Nat} {n:Int} {w w':World} {r:bq} {b l:List aD} {ns:List Bs} {α:Type} {t:bH} {x:aK}
theorem Gw(hk:k<l.length)(h:(l.take k).all aL=true):(l.take (k+1)).all aL=aL l[k]:=by
 rw[List.take_succ_eq_append_getElem hk,List.all_append,h,Bool.true_and];simp
theorem J4(hk:k<l.length)(h:aL l[k]=false):l.all aL=false:=by
 cases hc:l.all aL with
 |false=>rfl
 |true=>rw[List.all_eq_true] at hc;rw[hc _ (List.getElem_mem hk)] at h;cases h
end Go.aa
namespace Go.Proofs.YtncnnbmeacpboaaGreatDoor
open Go.RowKit Go.aa
variable {s sub:List UInt8} {k B j:Nat} {n:Int} {w w':World} {r:bq} {b l:List aD} {ns:List Bs} {α:Type} {t:bH} {x:aK}
theorem Cb(f:ae)(x:aC)(w:World)(hx:aB w (·<w.heap.size) f x)(hsm:jo f):
  Calls Tryz.prog 140 #[gB (f,x)] w fun e w'=>e=.returned (.bool (pR f.kind f.n f.binds))/\Below w.heap.size w w':=by
 have cz:Below w.heap.size w (w.alloc (.cells (x.cells f).toArray 64)):=(Below.refl _ _).alloc (Nat.le_refl _) _;have HB:=Lh cz;have Gl:=Lh (hx.binds.later cz (C:=w.heap.size) (Nat.le_refl _));have Ad:=Lh hsm;clear hx cz;obtain⟨kind,name,n,terms,binds,fl⟩:=f;simp only[gB,aC.cells,aK.val,ae.kind,ae.name,ae.n,ae.terms,ae.binds,ae.l] at HB Gl Ad ⊢;unfold jo at Ad;simp only[ae.terms,ae.binds,ae.l,ae.name] at Ad;have HQ:=Lh (fun(W:World)=>Cf kind W);have HR:Hid (pR kind n binds=if cZ kind then binds.all aL&&decide (1<=binds.length)&&decide (binds.length<=6)&&((n==0)||(dL kind&&decide (0<n)&&decide (n<=1099511627776))) else binds.isEmpty&&(n==0)):=Lh rfl;generalize pR kind n binds=res at HR ⊢;obtain⟨W0,hW0⟩:∃W0,W0=w.alloc (.cells #[.int .i64 kind,.string ⟨name.toArray⟩,.int .i64 n,.slice x.t.a terms.length x.t.cap,.slice x.b.a binds.length x.b.cap,.slice x.l.a fl.length x.l.cap] 64):=⟨_,rfl⟩;have hq:W0.heap[w.heap.size]?=some (.cells #[.int .i64 kind,.string ⟨name.toArray⟩,.int .i64 n,.slice x.t.a terms.length x.t.cap,.slice x.b.a binds.length x.b.cap,.slice x.l.a fl.length x.l.cap] 64 (0,0)):=by rw[hW0,af,if_pos rfl]
 have hbw:Below w.heap.size w W0:=by rw[hW0];exact HB.out
 have QY:aj W0 (·<w.heap.size) (binds.map aD.toD) x.b:=by rw[hW0];exact Gl.out
 have HK:Hid (∀W,Below W0.heap.size W0 W->Below w.heap.size w W/\aj W (·<w.heap.size) (binds.map aD.toD) x.b/\W.cell? ⟨w.heap.size,0,none⟩=some (.int .i64 kind)/\W.cell? ⟨w.heap.size,2,none⟩=some (.int .i64 n)/\W.cell? ⟨w.heap.size,4,none⟩=some (.slice x.b.a binds.length x.b.cap)):=Lh (fun W hW=>by
  have hb:=(hW.block _ (gS hq).1).trans hq;exact⟨hbw.trans (hW.mono hbw.size),QY.later (hW.mono hbw.size) (Nat.le_refl _),cH hb rfl,cH hb rfl,cH hb rfl⟩)
 have HW0:=Lh hW0;clear hW0 hq hbw QY HB Gl;obtain⟨_,_,c0,c2,c4⟩:=HK.out W0 (Below.refl _ _);go_enter Tryz.func140,Tryz.ntmps140;go_upto_region 1 with fail
 rw[<-HW0.out];clear HW0;go_wp2_with fail;refine(HQ.out _).mono ?_;rintro e w' ⟨rfl,hw⟩;rw[hw];clear hw w';cases hqk:cZ kind with
 |false=>
  have HR2:Hid (res=(binds.isEmpty&&(n==0))):=Lh (by rw[HR.out,hqk];rfl);clear HR hqk;cases binds with
  |nil=>
   cases hn:(n==0)
   ·go_wp2_with fail;go_ret;exact⟨by rw[HR2.out,hn];rfl,(HK.out _ (Below.refl _ _)).1⟩
   ·go_wp2_with fail;go_ret;exact⟨by rw[HR2.out,hn];rfl,(HK.out _ (Below.refl _ _)).1⟩
  |cons t r=>
   have h0:(((t::r).length:Int)==0)=false:=by simp;omega
   go_wp2_with fail;go_ret;exact⟨by rw[HR2.out];rfl,(HK.out _ (Below.refl _ _)).1⟩
 |true=>
  have HR2:Hid (res=(binds.all aL&&decide (1<=binds.length)&&decide (binds.length<=6)&&((n==0)||(dL kind&&decide (0<n)&&decide (n<=1099511627776))))):=Lh (by rw[HR.out,hqk];rfl);clear HR hqk c0 c2 c4;have GY:binds.length<=2000000:=Ad.out.2.1;go_upto_region 3 with fail
  go_wp2_with fail;go_loopw [3] (fun i wr=>∃k:Nat,k<=binds.length/\i=.int .i64 k/\Hid ((binds.take k).all aL=true)/\Hid (Below W0.heap.size W0 wr)) (fun i _=>binds.length-(intOf i).toNat)
  case atStart=>exact⟨0,Nat.zero_le _,rfl,Lh rfl,Lh (Below.refl _ _)⟩
  case round=>
   obtain⟨k,hk,rfl,HP,Jo⟩:=hrel;obtain⟨hbe,hsl,c0,c2,c4⟩:=HK.out wr Jo.out;by_cases hlt:k<binds.length
   ·obtain⟨h1,_,_,h4,_⟩:=aj.flat aD.bI hsl;obtain⟨e0,e1⟩:=h4.two k hlt rfl;have hxa:=(h1 (by omega)).1;have HST:=Lh (Gw hlt HP.out);have sD:=Lh (fun(h:aL binds[k]=false)=>J4 hlt h);have HN:=Lh (fun(W:World)=>mI ⟨binds[k].name.toArray⟩ W (by rw[aZ];have:=Ad.out.2.2.2.2.2 _ (List.getElem_mem hlt);omega));rw[show(⟨binds[k].name.toArray⟩:ByteArray).data.toList=binds[k].name from List.toList_toArray ..] at HN;have xP:Hid (aL binds[k]=(aR binds[k].name&&decide (1<=binds[k].sort)&&decide (binds[k].sort<=7))):=Lh rfl;generalize aL binds[k]=ok at HST sD xP;generalize binds[k]=bd at HN xP e0 e1;obtain⟨nm,so⟩:=bd;simp only at HN xP e0 e1;rw[hxa] at c4;clear h1 h4 hsl hxa hbe;generalize aR nm=TP at HN xP;go_wp2_with fail;refine(HN.out _).mono ?_;rintro e w' ⟨rfl,hw⟩;rw[hw];clear hw w';cases TP
    ·go_wp2_with fail;go_ret;exact⟨by rw[HR2.out,sD.out (by rw[xP.out];rfl)];rfl,(HK.out _ Jo.out).1⟩
    ·by_cases g1:1<=so
     ·have d1:decide (so<1)=false:=by simp;omega
      by_cases g2:so<=7
      ·have d2:decide (7<so)=false:=by simp;omega
       have hok:ok=true:=by rw[xP.out,decide_eq_true g1,decide_eq_true g2];rfl
       clear g1 g2;go_wp2_with fail;exact⟨⟨k+1,by omega,by go_num,Lh (by rw[HST.out,hok]),Jo⟩,by simp[intOf];omega⟩
      ·have d2:7<so:=by omega
       have hok:ok=false:=by rw[xP.out,decide_eq_false g2];simp
       clear g1 g2;go_wp2_with fail;go_ret;exact⟨by rw[HR2.out,sD.out hok];rfl,(HK.out _ Jo.out).1⟩
     ·have d1:so<1:=by omega
      have hok:ok=false:=by rw[xP.out,decide_eq_false g1];simp
      clear g1;go_wp2_with fail;go_ret;exact⟨by rw[HR2.out,sD.out hok];rfl,(HK.out _ Jo.out).1⟩
   ·have hkl:k=binds.length:=by omega
    have wV:Hid (binds.all aL=true):=Lh (by have:=HP.out;rw[hkl,List.take_length] at this;exact this);subst hkl;have yP:Hid (dL kind=((kind==16)||(kind==17))):=Lh (by unfold dL;rw[Bool.eq_iff_iff];simp);generalize dL kind=cn at yP HR2;generalize binds.all aL=al at wV HR2;have wQ:=Lh hbe;clear hsl HP hbe HQ Ad Jo;generalize hbl:binds.length=bl at*;have HR3:Hid (res=(decide (1<=bl)&&decide (bl<=6)&&((n==0)||(((kind==16)||(kind==17))&&decide (0<n)&&decide (n<=1099511627776))))):=Lh (by rw[HR2.out,wV.out,yP.out];rfl);clear HR2 wV yP;cases h16:(kind==16)
    ·cases XO:(kind==17)
     ·by_cases p1:(1:Int)<=bl
      ·by_cases p2:(bl:Int)<=6
       ·cases hn:(n==0)
        ·have HX:Hid (res=false):=Lh (by rw[HR3.out,hn,h16,XO];simp);clear HR3;go_wp2_with fail;go_ret;exact⟨by rw[HX.out];rfl,wQ.out⟩
        ·have HX:Hid (res=true):=Lh (by rw[HR3.out,hn,decide_eq_true (show 1<=bl by omega),decide_eq_true (show bl<=6 by omega)];rfl);clear HR3;go_wp2_with fail;go_ret;exact⟨by rw[HX.out];rfl,wQ.out⟩
       ·have HX:Hid (res=false):=Lh (by rw[HR3.out,decide_eq_false (show ¬bl<=6 by omega)];simp);have d2:decide ((bl:Int)<=6)=false:=decide_eq_false p2;clear HR3 p2;go_wp2_with fail;go_ret;exact⟨by rw[HX.out];rfl,wQ.out⟩
      ·have HX:Hid (res=false):=Lh (by rw[HR3.out,decide_eq_false (show ¬1<=bl by omega)];rfl);have d1:decide ((1:Int)<=bl)=false:=decide_eq_false p1;clear HR3 p1;go_wp2_with fail;go_ret;exact⟨by rw[HX.out];rfl,wQ.out⟩
     ·by_cases p1:(1:Int)<=bl
      ·by_cases p2:(bl:Int)<=6
       ·cases hn:(n==0)
        ·by_cases q1:0<n
         ·by_cases q2:n<=1099511627776
          ·have HX:Hid (res=true):=Lh (by rw[HR3.out,hn,h16,XO,decide_eq_true (show 1<=bl by omega),decide_eq_true (show bl<=6 by omega),decide_eq_true q1,decide_eq_true q2];rfl);clear HR3;go_wp2_with fail;go_ret;exact⟨by rw[HX.out];rfl,wQ.out⟩
          ·have HX:Hid (res=false):=Lh (by rw[HR3.out,hn,decide_eq_false q2];simp);have d2:decide (n<=1099511627776)=false:=decide_eq_false q2;clear HR3 q2;go_wp2_with fail;go_ret;exact⟨by rw[HX.out];rfl,wQ.out⟩
         ·have HX:Hid (res=false):=Lh (by rw[HR3.out,hn,decide_eq_false q1];simp);have d1:decide (0<n)=false:=decide_eq_false q1;clear HR3 q1;go_wp2_with fail;go_ret;exact⟨by rw[HX.out];rfl,wQ.out⟩
        ·have HX:Hid (res=true):=Lh (by rw[HR3.out,hn,decide_eq_true (show 1<=bl by omega),decide_eq_true (show bl<=6 by omega)];rfl);clear HR3;go_wp2_with fail;go_ret;exact⟨by rw[HX.out];rfl,wQ.out⟩
       ·have HX:Hid (res=false):=Lh (by rw[HR3.out,decide_eq_false (show ¬bl<=6 by omega)];simp);have d2:decide ((bl:Int)<=6)=false:=decide_eq_false p2;clear HR3 p2;go_wp2_with fail;go_ret;exact⟨by rw[HX.out];rfl,wQ.out⟩
      ·have HX:Hid (res=false):=Lh (by rw[HR3.out,decide_eq_false (show ¬1<=bl by omega)];rfl);have d1:decide ((1:Int)<=bl)=false:=decide_eq_false p1;clear HR3 p1;go_wp2_with fail;go_ret;exact⟨by rw[HX.out];rfl,wQ.out⟩
    ·by_cases p1:(1:Int)<=bl
     ·by_cases p2:(bl:Int)<=6
      ·cases hn:(n==0)
       ·by_cases q1:0<n
        ·by_cases q2:n<=1099511627776
         ·have HX:Hid (res=true):=Lh (by rw[HR3.out,hn,h16,decide_eq_true (show 1<=bl by omega),decide_eq_true (show bl<=6 by omega),decide_eq_true q1,decide_eq_true q2];rfl);clear HR3;go_wp2_with fail;go_ret;exact⟨by rw[HX.out];rfl,wQ.out⟩
         ·have HX:Hid (res=false):=Lh (by rw[HR3.out,hn,decide_eq_false q2];simp);have d2:decide (n<=1099511627776)=false:=decide_eq_false q2;clear HR3 q2;go_wp2_with fail;go_ret;exact⟨by rw[HX.out];rfl,wQ.out⟩
        ·have HX:Hid (res=false):=Lh (by rw[HR3.out,hn,decide_eq_false q1];simp);have d1:decide (0<n)=false:=decide_eq_false q1;clear HR3 q1;go_wp2_with fail;go_ret;exact⟨by rw[HX.out];rfl,wQ.out⟩
       ·have HX:Hid (res=true):=Lh (by rw[HR3.out,hn,decide_eq_true (show 1<=bl by omega),decide_eq_true (show bl<=6 by omega)];rfl);clear HR3;go_wp2_with fail;go_ret;exact⟨by rw[HX.out];rfl,wQ.out⟩
      ·have HX:Hid (res=false):=Lh (by rw[HR3.out,decide_eq_false (show ¬bl<=6 by omega)];simp);have d2:decide ((bl:Int)<=6)=false:=decide_eq_false p2;clear HR3 p2;go_wp2_with fail;go_ret;exact⟨by rw[HX.out];rfl,wQ.out⟩
     ·have HX:Hid (res=false):=Lh (by rw[HR3.out,decide_eq_false (show ¬1<=bl by omega)];rfl);have d1:decide ((1:Int)<=bl)=false:=decide_eq_false p1;clear HR3 p1;go_wp2_with fail;go_ret;exact⟨by rw[HX.out];rfl,wQ.out⟩
end Go.Proofs.YtncnnbmeacpboaaGreatDoor
namespace Go.aa
open Go.RowKit
variable {s sub:List UInt8} {k B j:Nat} {n:Int} {w w':World} {r:bq} {b l:List aD} {ns:List Bs} {α:Type} {t:bH} {x:aK}
theorem Gr{p:α->Bool}{l:List α}(hk:k<l.length)(h:(l.take k).all p=true):(l.take (k+1)).all p=p l[k]:=by
 rw[List.take_succ_eq_append_getElem hk,List.all_append,h,Bool.true_and];simp
theorem JW{p:α->Bool}{l:List α}(hk:k<l.length)(h:p l[k]=false):l.all p=false:=by
 cases hc:l.all p with
 |false=>rfl
 |true=>rw[List.all_eq_true] at hc;rw[hc _ (List.getElem_mem hk)] at h;cases h
end Go.aa
namespace Go.Proofs.YtncnnbmeacpboaaGreatDoor
open Go.RowKit Go.aa
variable {s sub:List UInt8} {k B j:Nat} {n:Int} {w w':World} {r:bq} {b l:List aD} {ns:List Bs} {α:Type} {t:bH} {x:aK}
theorem NI(kind:Int)(name:Bs)(n:Int)(terms:List bH)(binds:List aD)(l:List ae):(aJ (.mk kind name n terms binds l)).all aH=(((((l.length:Int)==nU kind)&&nZ kind name terms)&&pR kind n binds)&&l.all (fun g=>(aJ g).all aH)):=by
 rw[aJ,List.all_cons,Bh,Ee,oH,List.all_flatten,List.all_map];rfl
theorem JV{kind:Int}{name:Bs}{terms:List bH}{binds:List aD}{l:List ae}{g h:ae}(hg:g∈l)(hh:h∈aJ g):h∈aJ (.mk kind name n terms binds l):=by
 rw[aJ,oH];exact List.mem_cons_of_mem _ (List.mem_flatten.2 ⟨_,List.mem_map.2 ⟨g,hg,rfl⟩,hh⟩)
theorem Ei(m:Nat):∀(f:ae) (y:aC) (w:World),f.size<=m->f.size<=2000000->(∀g∈aJ f,jo g)->aB w (·<w.heap.size) f y->
  Calls Tryz.prog 82 #[gB (f,y)] w fun e w'=>e=.returned (.bool ((aJ f).all aH))/\Below w.heap.size w w':=by
 induction m with
 |zero=>intro f _ _ h;have:=f.size_pos;omega
 |succ m ih=>
  rintro⟨kind,name,n,terms,binds,fl⟩ y w hm hsz hsm hy;rw[ae.size] at hm hsz;have hll:=di fl;have cz:Below w.heap.size w (w.alloc (.cells (y.cells (.mk kind name n terms binds fl)).toArray 64)):=(Below.refl _ _).alloc (Nat.le_refl _) _;have hby:bW (w.alloc (.cells (y.cells (.mk kind name n terms binds fl)).toArray 64)) w.heap.size (.mk kind name n terms binds fl) y:=by unfold bW;rw[af,if_pos rfl]
  have zZ:Hid (∀(j:Nat) (hj:j<fl.length),∃y1:aC,aB w (·<w.heap.size) fl[j] y1/\ay w y.l.b (y.l.o+j*6) (y1.cells fl[j])):=Lh (fun j hj=>hy.l.qK j hj);have Di:Hid (gT (·<w.heap.size) y.l.a y.l.b y.l.o fl.length):=Lh (by have:=hy.l.at_;rw[List.length_map] at this;exact this);have Aa:=Lh (fun(j:Nat) (hj:j<fl.length) (y1:aC) (W:World) (hW:Below w.heap.size w W) (h1:aB w (·<w.heap.size) fl[j] y1)=>ih fl[j] y1 W (by have:=aT fl j hj;omega) (by have:=aT fl j hj;omega) (fun g hg=>hsm g (JV (List.getElem_mem hj) hg)) (h1.later hW hW.size));have QW:=hsm _ (by rw[aJ];exact List.mem_cons_self ..);have Gl:=Lh (fun(W:World) (hW:Below w.heap.size w W)=>Cg (.mk kind name n terms binds fl) y W (hy.later hW hW.size) QW);have tK:=Lh (fun(W:World) (hW:Below w.heap.size w W)=>Cb (.mk kind name n terms binds fl) y W (hy.later hW hW.size) QW);have Sk:=Lh (fun(W:World)=>Ce kind W);have qp:=Lh (NI kind name n terms binds fl);generalize (aJ (.mk kind name n terms binds fl)).all aH=res at qp ⊢;obtain⟨W0,hW0⟩:∃W0,W0=w.alloc (.cells (y.cells (.mk kind name n terms binds fl)).toArray 64):=⟨_,rfl⟩;have HK:Hid (∀W,Below W0.heap.size W0 W->Below w.heap.size w W/\bW W w.heap.size (.mk kind name n terms binds fl) y):=Lh (fun W hW=>by
   rw[hW0] at hW;exact⟨cz.trans (hW.mono cz.size),hby.below hW⟩)
  have HW0:=Lh hW0;have HD0:Hid (Below W0.heap.size W0 W0.drew):=Lh (Below.refl _ _).drew;clear ih hy cz hby hW0 hsm QW;simp only[gB,aC.cells,aK.val,ae.kind,ae.name,ae.n,ae.terms,ae.binds,ae.l] at Gl tK HW0 ⊢;generalize nU kind=pn at Sk qp;generalize nZ kind name terms=tb at Gl qp;generalize pR kind n binds=bb at tK qp;obtain⟨c0,c1,c2,c3,c4,c5⟩:=(HK.out _ HD0.out).2.cells;simp only[ae.kind,ae.name,ae.n,ae.terms,ae.binds,ae.l] at c0 c1 c2 c3 c4 c5;go_enter Tryz.func82,Tryz.ntmps82;go_upto_region 1 with fail
  rw[<-HW0.out];clear HW0;cases hpn:((fl.length:Int)==pn) with
  |false=>
   have d1:((fl.length:Int) !=pn)=true:=by rw[bne,hpn];rfl
   have HR2:Hid (res=false):=Lh (by rw[qp.out,hpn];rfl);clear hpn qp;go_region_law (go_simp;go_at_call 138;(with_reducible refine(Sk.out _).mono ?_);rintro e w2 ⟨rfl,hw2⟩;subst hw2)
   all_goals
    go_wp2_with fail;go_ret;exact⟨by rw[HR2.out];rfl,(HK.out _ HD0.out).1⟩
  |true=>
   have d1:((fl.length:Int) !=pn)=false:=by rw[bne,hpn];rfl
   cases tb with
   |false=>
    have HR2:Hid (res=false):=Lh (by rw[qp.out,hpn];rfl);clear hpn qp;go_region_law (first|(go_simp;go_at_call 138;(with_reducible refine(Sk.out _).mono ?_);rintro e w2 ⟨rfl,hw2⟩;subst hw2)|(go_simp;go_at_call 139;(with_reducible refine(Gl.out _ (HK.out _ HD0.out).1).mono ?_);rintro e w1 ⟨rfl,hb1⟩;have H1:=Lh (HD0.out.trans (hb1.mono HD0.out.size));clear hb1 c0 c1 c2 c3 c4 c5;obtain⟨c0,c1,c2,c3,c4,c5⟩:=(HK.out _ H1.out).2.cells;simp only[ae.kind,ae.name,ae.n,ae.terms,ae.binds,ae.l] at c0 c1 c2 c3 c4 c5))
    all_goals
     go_wp2_with fail;go_ret;exact⟨by rw[HR2.out];rfl,(HK.out _ H1.out).1⟩
   |true=>
    cases bb with
    |false=>
     have HR2:Hid (res=false):=Lh (by rw[qp.out,hpn];rfl);clear hpn qp;go_region_law (first|(go_simp;go_at_call 138;(with_reducible refine(Sk.out _).mono ?_);rintro e w2 ⟨rfl,hw2⟩;subst hw2)|(go_simp;go_at_call 139;(with_reducible refine(Gl.out _ (HK.out _ HD0.out).1).mono ?_);rintro e w1 ⟨rfl,hb1⟩;have H1:=Lh (HD0.out.trans (hb1.mono HD0.out.size));clear hb1 c0 c1 c2 c3 c4 c5;obtain⟨c0,c1,c2,c3,c4,c5⟩:=(HK.out _ H1.out).2.cells;simp only[ae.kind,ae.name,ae.n,ae.terms,ae.binds,ae.l] at c0 c1 c2 c3 c4 c5)|(go_simp;go_at_call 140;(with_reducible refine(tK.out _ (HK.out _ H1.out).1).mono ?_);rintro e w3 ⟨rfl,hb3⟩;have H3:=Lh (H1.out.trans (hb3.mono H1.out.size));clear hb3 c0 c1 c2 c3 c4 c5))
     all_goals
      go_wp2_with fail;go_ret;exact⟨by rw[HR2.out];rfl,(HK.out _ H3.out).1⟩
    |true=>
     have HR2:Hid (res=fl.all (fun g=>(aJ g).all aH)):=Lh (by rw[qp.out,hpn];rfl);clear hpn qp;go_region_law (first|(go_simp;go_at_call 138;(with_reducible refine(Sk.out _).mono ?_);rintro e w2 ⟨rfl,hw2⟩;subst hw2)|(go_simp;go_at_call 139;(with_reducible refine(Gl.out _ (HK.out _ HD0.out).1).mono ?_);rintro e w1 ⟨rfl,hb1⟩;have H1:=Lh (HD0.out.trans (hb1.mono HD0.out.size));clear hb1 c0 c1 c2 c3 c4 c5;obtain⟨c0,c1,c2,c3,c4,c5⟩:=(HK.out _ H1.out).2.cells;simp only[ae.kind,ae.name,ae.n,ae.terms,ae.binds,ae.l] at c0 c1 c2 c3 c4 c5)|(go_simp;go_at_call 140;(with_reducible refine(tK.out _ (HK.out _ H1.out).1).mono ?_);rintro e w3 ⟨rfl,hb3⟩;have H3:=Lh (H1.out.trans (hb3.mono H1.out.size));clear hb3 c0 c1 c2 c3 c4 c5))
     all_goals
      go_wp2_with fail;go_loopw [3] (fun i wr=>∃j:Nat,j<=fl.length/\i=.int .i64 j/\Below w.heap.size w wr/\Hid (bW wr w.heap.size (.mk kind name n terms binds fl) y)/\Hid ((fl.take j).all (fun g=>(aJ g).all aH)=true)) (fun i _=>fl.length-(intOf i).toNat)
      case atStart=>exact⟨0,Nat.zero_le _,rfl,(HK.out _ H3.out).1,Lh (HK.out _ H3.out).2,Lh rfl⟩
      case round=>
       obtain⟨j,hj,rfl,hb,gM,HP⟩:=hrel;have HB0:=Lh hb;obtain⟨_,_,_,_,_,b5⟩:=gM.out.cells;simp only[ae.l] at b5;by_cases hlt:j<fl.length
       ·obtain⟨y1,hy1,hy2⟩:=zZ.out j hlt;obtain⟨hxa,kg⟩:=Di.out (by omega);have fZ:=Lh (Aa.out j hlt y1 wr hb hy1);have HST:=Lh (Gr hlt HP.out);have sD:=Lh (fun h=>JW (p:=fun g=>(aJ g).all aH) hlt h);obtain⟨e0,e1,e2,e3,e4,e5⟩:=(hy2.agree (ag hb) kg).six;rw[hxa] at b5;clear hy1 hy2 kg hxa hb
        try simp only at HST sD
        generalize fl[j]=fe at fZ e0 e1 e2 e3 e4 e5 HST sD;obtain⟨mU,mV,n1,jX,jR,Jv⟩:=fe;generalize (aJ (.mk mU mV n1 jX jR Jv)).all aH=fb at fZ HST sD;simp only[gB,aC.cells,aK.val,ae.kind,ae.name,ae.n,ae.terms,ae.binds,ae.l] at fZ e0 e1 e2 e3 e4 e5;go_wp2_with fail;refine fZ.out.mono ?_;rintro e w1 ⟨rfl,hb1⟩;have pK:=Lh (aI (HB0.out.trans (hb1.mono HB0.out.size)) (gM.out.below hb1));clear hb1 e0 e1 e2 e3 e4 e5 b5;cases fb
        ·have HX:=Lh (sD.out rfl);go_wp2_with fail;go_ret;exact⟨by rw[HR2.out,HX.out];rfl,pK.out.1⟩
        ·go_wp2_with fail;exact⟨⟨j+1,by omega,by go_num,pK.out.1,Lh pK.out.2,HST⟩,by simp[intOf];omega⟩
       ·have HX:Hid (fl.all (fun g=>(aJ g).all aH)=true):=Lh (by have:=HP.out;rw[List.take_of_length_le (by omega)] at this;exact this);clear hb;go_wp2_with fail;go_ret;exact⟨by rw[HR2.out,HX.out];rfl,HB0.out⟩
theorem El(m:Nat):∀(f:ae) (y:aC) (w:World),f.size<=m->f.size<=2000000->aB w (·<w.heap.size) f y->
  Calls Tryz.prog 39 #[gB (f,y)] w fun e w'=>e=.returned (.int .i64 (f.size:Nat))/\Below w.heap.size w w':=by
 induction m with
 |zero=>intro f _ _ h;have:=f.size_pos;omega
 |succ m ih=>
  rintro⟨kind,name,n,terms,binds,fl⟩ y w hm hsz hy;rw[ae.size] at hm hsz;have hll:=di fl;have cz:Below w.heap.size w (w.alloc (.cells (y.cells (.mk kind name n terms binds fl)).toArray 64)):=(Below.refl _ _).alloc (Nat.le_refl _) _;have hby:bW (w.alloc (.cells (y.cells (.mk kind name n terms binds fl)).toArray 64)) w.heap.size (.mk kind name n terms binds fl) y:=by unfold bW;rw[af,if_pos rfl]
  have zZ:Hid (∀(j:Nat) (hj:j<fl.length),∃y1:aC,aB w (·<w.heap.size) fl[j] y1/\ay w y.l.b (y.l.o+j*6) (y1.cells fl[j])):=Lh (fun j hj=>hy.l.qK j hj);have Di:Hid (gT (·<w.heap.size) y.l.a y.l.b y.l.o fl.length):=Lh (by have:=hy.l.at_;rw[List.length_map] at this;exact this);have Aa:=Lh (fun(j:Nat) (hj:j<fl.length) (y1:aC) (W:World) (hW:Below w.heap.size w W) (h1:aB w (·<w.heap.size) fl[j] y1)=>ih fl[j] y1 W (by have:=aT fl j hj;omega) (by have:=aT fl j hj;omega) (h1.later hW hW.size));have HB:=Lh (aI cz hby);clear ih hy cz hby;rw[ae.size];simp only[gB,aC.cells,aK.val,ae.kind,ae.name,ae.n,ae.terms,ae.binds,ae.l] at HB ⊢;go_enter Tryz.func39,Tryz.ntmps39;go_wp2_with fail;go_loopw [3,4] (fun nn i wr=>∃(j:Nat),j<=fl.length/\i=.int .i64 j/\nn=.int .i64 (1+bF (fl.take j):Nat)/\Below w.heap.size w wr/\Hid (bW wr w.heap.size (.mk kind name n terms binds fl) y)) (fun _ i _=>fl.length-(intOf i).toNat)
  case atStart=>exact⟨0,Nat.zero_le _,rfl,rfl,HB.out.1,Lh HB.out.2⟩
  case round=>
   obtain⟨j,hj,rfl,rfl,hb,gM⟩:=hrel;have HB0:=Lh hb;obtain⟨_,_,_,_,_,b5⟩:=gM.out.cells;simp only[ae.l] at b5;by_cases hlt:j<fl.length
   ·obtain⟨y1,hy1,hy2⟩:=zZ.out j hlt;obtain⟨hxa,kg⟩:=Di.out (by omega);have fZ:=Lh (Aa.out j hlt y1 wr hb hy1);obtain⟨e0,e1,e2,e3,e4,e5⟩:=(hy2.agree (ag hb) kg).six;rw[hxa] at b5;clear hy1 hy2 kg hxa hb;have hs3:=jE fl j hlt;have hs4:=fB fl (j+1);have Fq:=Lh hs3;generalize bF (fl.take j)=d1 at Fq hs3 ⊢;generalize fl[j]=fe at fZ Fq hs3 e0 e1 e2 e3 e4 e5;generalize fe.size=d2 at Fq fZ hs3;have hs5:1+d1+d2<=2000000:=by omega
    clear hs3 hs4;obtain⟨mU,mV,n1,jX,jR,Jv⟩:=fe;simp only[gB,aC.cells,aK.val,ae.kind,ae.name,ae.n,ae.terms,ae.binds,ae.l] at fZ e0 e1 e2 e3 e4 e5;go_wp2_with fail;refine fZ.out.mono ?_;rintro e w1 ⟨rfl,hb1⟩;have pK:=Lh (aI (HB0.out.trans (hb1.mono HB0.out.size)) (gM.out.below hb1));clear hb1 e0 e1 e2 e3 e4 e5 b5;go_wp2_with fail;refine⟨⟨j+1,by omega,by go_num,?_,pK.out.1,Lh pK.out.2⟩,by simp[intOf];omega⟩;rw[Fq.out];go_num
   ·clear hb;have HE:Hid (bF (fl.take j)=bF fl):=Lh (by rw[List.take_of_length_le (by omega)]);generalize bF (fl.take j)=d1 at HE ⊢;go_wp2_with fail;go_ret;exact⟨by rw[HE.out];rfl,HB0.out⟩
theorem Cc(m:Nat):∀(f:ae) (y:aC) (w:World),f.size<=m->f.size<=2000000->aB w (·<w.heap.size) f y->
  Calls Tryz.prog 83 #[gB (f,y)] w fun e w'=>e=.returned (.int .i64 (f.depth:Nat))/\Below w.heap.size w w':=by
 induction m with
 |zero=>intro f _ _ h;have:=f.size_pos;omega
 |succ m ih=>
  rintro⟨kind,name,n,terms,binds,fl⟩ y w hm hsz hy;rw[ae.size] at hm hsz;have hll:=di fl;have cz:Below w.heap.size w (w.alloc (.cells (y.cells (.mk kind name n terms binds fl)).toArray 64)):=(Below.refl _ _).alloc (Nat.le_refl _) _;have hby:bW (w.alloc (.cells (y.cells (.mk kind name n terms binds fl)).toArray 64)) w.heap.size (.mk kind name n terms binds fl) y:=by unfold bW;rw[af,if_pos rfl]
  have zZ:Hid (∀(j:Nat) (hj:j<fl.length),∃y1:aC,aB w (·<w.heap.size) fl[j] y1/\ay w y.l.b (y.l.o+j*6) (y1.cells fl[j])):=Lh (fun j hj=>hy.l.qK j hj);have Di:Hid (gT (·<w.heap.size) y.l.a y.l.b y.l.o fl.length):=Lh (by have:=hy.l.at_;rw[List.length_map] at this;exact this);have Aa:=Lh (fun(j:Nat) (hj:j<fl.length) (y1:aC) (W:World) (hW:Below w.heap.size w W) (h1:aB w (·<w.heap.size) fl[j] y1)=>ih fl[j] y1 W (by have:=aT fl j hj;omega) (by have:=aT fl j hj;omega) (h1.later hW hW.size));have HB:=Lh (aI cz hby);clear ih hy cz hby;rw[ae.depth];simp only[gB,aC.cells,aK.val,ae.kind,ae.name,ae.n,ae.terms,ae.binds,ae.l] at HB ⊢;go_enter Tryz.func83,Tryz.ntmps83;go_wp2_with fail;go_loopw [3,4] (fun nn i wr=>∃(j:Nat),j<=fl.length/\i=.int .i64 j/\nn=.int .i64 (bQ (fl.take j):Nat)/\Below w.heap.size w wr/\Hid (bW wr w.heap.size (.mk kind name n terms binds fl) y)) (fun _ i _=>fl.length-(intOf i).toNat)
  case atStart=>exact⟨0,Nat.zero_le _,rfl,rfl,HB.out.1,Lh HB.out.2⟩
  case round=>
   obtain⟨j,hj,rfl,rfl,hb,gM⟩:=hrel;have HB0:=Lh hb;obtain⟨_,_,_,_,_,b5⟩:=gM.out.cells;simp only[ae.l] at b5;by_cases hlt:j<fl.length
   ·obtain⟨y1,hy1,hy2⟩:=zZ.out j hlt;obtain⟨hxa,kg⟩:=Di.out (by omega);have fZ:=Lh (Aa.out j hlt y1 wr hb hy1);obtain⟨e0,e1,e2,e3,e4,e5⟩:=(hy2.agree (ag hb) kg).six;rw[hxa] at b5;clear hy1 hy2 kg hxa hb;have hs3:=jb fl j hlt;have hs1:=aT fl j hlt;have hd1:bQ (fl.take j)<=2000000:=by have:=gP (fl.take j);have:=fB fl j;omega
    have hd2:(fl[j]).depth<=2000000:=by have:=ae.kT fl[j];omega
    have Fq:=Lh hs3;clear hs1 hs3;generalize bQ (fl.take j)=d1 at hd1 Fq ⊢;generalize fl[j]=fe at fZ Fq hd2 e0 e1 e2 e3 e4 e5;generalize fe.depth=d2 at hd2 Fq fZ;obtain⟨mU,mV,n1,jX,jR,Jv⟩:=fe;simp only[gB,aC.cells,aK.val,ae.kind,ae.name,ae.n,ae.terms,ae.binds,ae.l] at fZ e0 e1 e2 e3 e4 e5;go_wp2_with fail;refine fZ.out.mono ?_;rintro e w1 ⟨rfl,hb1⟩;have pK:=Lh (aI (HB0.out.trans (hb1.mono HB0.out.size)) (gM.out.below hb1));clear hb1 e0 e1 e2 e3 e4 e5 b5;go_wp2_with fail;refine⟨⟨j+1,by omega,by go_num,?_,pK.out.1,Lh pK.out.2⟩,by simp[intOf];omega⟩;rw[Fq.out]
    first
     |go_num
     |(rcases Nat.lt_or_ge d1 d2 with h|h;(rw[if_pos h,Nat.max_eq_right (by omega)]);(rw[if_neg (by omega),Nat.max_eq_left (by omega)]))
   ·clear hb;have hd1:bQ (fl.take j)<=2000000:=by have:=gP (fl.take j);have:=fB fl j;omega
    have HE:Hid (bQ (fl.take j)=bQ fl):=Lh (by rw[List.take_of_length_le (by omega)]);generalize bQ (fl.take j)=d1 at hd1 HE ⊢;go_wp2_with fail;go_ret;exact⟨by rw[<-HE.out];go_num,HB0.out⟩
theorem sW(f:ae)(y:aC)(w:World)(hsz:f.size<=2000000)(hsm:∀g∈aJ f,jo g)(hy:aB w (·<w.heap.size) f y):
  Calls Tryz.prog 53 #[gB (f,y)] w fun e w'=>e=.returned (.int .i64 (aM f))/\Below w.heap.size w w':=by
 have wX:=Lh (fun(W:World) (hW:Below w.heap.size w W)=>Ei _ f y W (Nat.le_refl _) hsz hsm (hy.later hW hW.size));have sF:=Lh (fun(W:World) (hW:Below w.heap.size w W)=>El _ f y W (Nat.le_refl _) hsz (hy.later hW hW.size));have Rn:=Lh (fun(W:World) (hW:Below w.heap.size w W)=>Cc _ f y W (Nat.le_refl _) hsz (hy.later hW hW.size));have qp:Hid (aM f=if(aJ f).all aH=false then 1 else if 256<f.size∨24<f.depth then 2 else 0):=Lh rfl;generalize aM f=res at qp ⊢;generalize (aJ f).all aH=fo at wX qp;have hdz:=ae.kT f;generalize f.size=sz at sF qp hsz hdz;generalize f.depth=dp at Rn qp hdz;obtain⟨W0,hW0⟩:∃W0,W0=w.alloc (.cells (y.cells f).toArray 64):=⟨_,rfl⟩;have cz:Below w.heap.size w W0:=by rw[hW0];exact(Below.refl _ _).alloc (Nat.le_refl _) _
 have hby:bW W0 w.heap.size f y:=by unfold bW;rw[hW0,af,if_pos rfl]
 have HK:Hid (∀W,Below W0.heap.size W0 W->Below w.heap.size w W/\bW W w.heap.size f y):=Lh (fun W hW=>⟨cz.trans (hW.mono cz.size),hby.below hW⟩);have HW0:=Lh hW0;clear hW0 cz hby hy hsm;obtain⟨kind,name,n,terms,binds,fl⟩:=f;obtain⟨c0,c1,c2,c3,c4,c5⟩:=(HK.out _ (Below.refl _ _)).2.cells;simp only[gB,aC.cells,aK.val,ae.kind,ae.name,ae.n,ae.terms,ae.binds,ae.l] at wX sF Rn HW0 c0 c1 c2 c3 c4 c5 ⊢;go_enter Tryz.func53,Tryz.ntmps53;go_upto_region 1 with fail
 rw[<-HW0.out];clear HW0;go_wp2_with fail;refine(wX.out _ (HK.out _ (Below.refl _ _)).1).mono ?_;rintro e w1 ⟨rfl,hb1⟩;have H1:=Lh hb1;clear hb1 c0 c1 c2 c3 c4 c5;cases fo
 ·have HX:Hid (res=1):=Lh (by rw[qp.out];rfl);go_wp2_with fail;go_ret;exact⟨by rw[HX.out];rfl,(HK.out _ H1.out).1⟩
 obtain⟨c0,c1,c2,c3,c4,c5⟩:=(HK.out _ H1.out).2.cells;simp only[ae.kind,ae.name,ae.n,ae.terms,ae.binds,ae.l] at c0 c1 c2 c3 c4 c5;go_wp2_with fail;refine(sF.out _ (HK.out _ H1.out).1).mono ?_;rintro e w2 ⟨rfl,hb2⟩;have H2:=Lh (H1.out.trans (hb2.mono H1.out.size));clear hb2 c0 c1 c2 c3 c4 c5;by_cases p1:(256:Int)<(sz:Int)
 ·have HX:Hid (res=2):=Lh (by rw[qp.out,if_neg (by decide),if_pos (Or.inl (by omega))]);go_wp2_with fail;go_ret;exact⟨by rw[HX.out];rfl,(HK.out _ H2.out).1⟩
 have sU:decide ((256:Int)<(sz:Int))=false:=decide_eq_false p1;have Sl:Hid (res=if 24<dp then 2 else 0):=Lh (by
  rw[qp.out,if_neg (by decide)];by_cases h:24<dp
  ·rw[if_pos h,if_pos (Or.inr h)]
  ·rw[if_neg h,if_neg (by omega)])
 clear p1 qp;obtain⟨c0,c1,c2,c3,c4,c5⟩:=(HK.out _ H2.out).2.cells;simp only[ae.kind,ae.name,ae.n,ae.terms,ae.binds,ae.l] at c0 c1 c2 c3 c4 c5;go_wp2_with fail;refine(Rn.out _ (HK.out _ H2.out).1).mono ?_;rintro e w3 ⟨rfl,hb3⟩;have H3:=Lh (H2.out.trans (hb3.mono H2.out.size));clear hb3 c0 c1 c2 c3 c4 c5;by_cases p2:(24:Int)<(dp:Int)
 ·have HX:Hid (res=2):=Lh (by rw[Sl.out,if_pos (by omega)]);go_wp2_with fail;go_ret;exact⟨by rw[HX.out];rfl,(HK.out _ H3.out).1⟩
 ·have HX:Hid (res=0):=Lh (by rw[Sl.out,if_neg (by omega)]);have PQ:decide ((24:Int)<(dp:Int))=false:=decide_eq_false p2;clear p2;go_wp2_with fail;go_ret;exact⟨by rw[HX.out];rfl,(HK.out _ H3.out).1⟩
theorem En(nm:Bs)(so:Int)(w:World)(hlen:nm.length<=4000000):
  Calls Tryz.prog 135 #[.agg #[.string ⟨nm.toArray⟩,.int .i64 so]] w fun e w'=>e=.returned (.bool (aL ⟨nm,so⟩))/\Below w.heap.size w w':=by
 have HB:Hid (Below w.heap.size w (w.alloc (.cells #[.string ⟨nm.toArray⟩,.int .i64 so] 94))):=Lh ((Below.refl _ _).alloc (Nat.le_refl _) _);have HN:=Lh (fun(W:World)=>mI ⟨nm.toArray⟩ W (by rw[aZ];omega));rw[show(⟨nm.toArray⟩:ByteArray).data.toList=nm from List.toList_toArray ..] at HN;have xP:Hid (aL ⟨nm,so⟩=(aR nm&&decide (1<=so)&&decide (so<=7))):=Lh rfl;generalize aL ⟨nm,so⟩=ok at xP ⊢;generalize aR nm=TP at HN xP;go_enter Tryz.func135,Tryz.ntmps135;go_wp2_with fail;refine(HN.out _).mono ?_;rintro e w' ⟨rfl,hw⟩;rw[hw];clear hw w';cases TP
 ·go_wp2_with fail;go_ret;exact⟨by rw[xP.out];rfl,HB.out⟩
 ·by_cases g1:1<=so
  ·by_cases g2:so<=7
   ·have HX:Hid (ok=true):=Lh (by rw[xP.out,decide_eq_true g1,decide_eq_true g2];rfl);go_wp2_with fail;go_ret;exact⟨by rw[HX.out];rfl,HB.out⟩
   ·have HX:Hid (ok=false):=Lh (by rw[xP.out,decide_eq_false g2];simp);have d2:decide (so<=7)=false:=decide_eq_false g2;clear g2;go_wp2_with fail;go_ret;exact⟨by rw[HX.out];rfl,HB.out⟩
  ·have HX:Hid (ok=false):=Lh (by rw[xP.out,decide_eq_false g1];simp);have d1:decide (1<=so)=false:=decide_eq_false g1;clear g1;go_wp2_with fail;go_ret;exact⟨by rw[HX.out];rfl,HB.out⟩
theorem mJ(l:List aD)(x:aK)(nm:Bs)(w:World)(hx:aj w (·<w.heap.size) (l.map aD.toD) x)(hl:l.length<=2000000):
  Calls Tryz.prog 136 #[.slice x.a l.length x.cap,.string ⟨nm.toArray⟩] w fun e w'=>e=.returned (.bool (dF l nm).isSome)/\w'=w:=by
 obtain⟨h1,_,_,h4,_⟩:=aj.flat aD.bI hx;have H1:=Lh h1;have H4:=Lh h4;have HS:Hid (∀(k:Nat) (hk:k<l.length),l[k].name=nm->(∀j (h:j<l.length),j<k->l[j].name≠nm)->(dF l nm).isSome=true):=Lh (fun k hk he hn=>by
  rw[jC.2 ⟨hk,he,fun j hj=>hn j (by omega) hj⟩];rfl)
 have HN:Hid ((∀j (h:j<l.length),j<l.length->l[j].name≠nm)->(dF l nm).isSome=false):=Lh (fun hn=>by
  rw[kW.2 (fun hm=>by
   obtain⟨b,hb,he⟩:=List.mem_map.1 hm;obtain⟨j,hj,rfl⟩:=List.mem_iff_getElem.1 hb;exact hn j hj hj he)];rfl)
 generalize (dF l nm).isSome=res at HS HN ⊢;clear hx h1 h4;go_enter Tryz.func136,Tryz.ntmps136;go_wp2_with fail;go_loop [5] (fun i=>∃k:Nat,k<=l.length/\i=.int .i64 k/\Hid (∀j (h:j<l.length),j<k->l[j].name≠nm)) (fun i=>l.length-(intOf i).toNat)
 case atStart=>exact⟨0,Nat.zero_le _,rfl,Lh (fun _ _ h=>by omega)⟩
 case round=>
  obtain⟨k,hk,rfl,HD⟩:=hrel;by_cases hlt:k<l.length
  ·obtain⟨e0,_⟩:=H4.out.two k hlt rfl;have hxa:=(H1.out (by omega)).1;have HZ:=Lh (HS.out k hlt);have HT:Hid (l[k].name≠nm->∀j (h:j<l.length),j<k+1->l[j].name≠nm):=Lh (fun hne i h hi=>by
    by_cases e:i=k
    ·subst e;exact hne
    ·exact HD.out i h (by omega))
   generalize l[k].name=z at e0 HZ HT;rw[hxa];clear hxa;by_cases hq:z=nm
   ·subst hq;have HF:=Lh (HZ.out rfl HD.out);go_wp2_with fail;go_ret;exact⟨by rw[HF.out];rfl,rfl⟩
   ·have HD2:=Lh (HT.out hq);have hne:(z==nm)=false:=by simpa using hq
    clear hq;go_wp2_with fail;go_round
    case rel=>exact⟨k+1,by omega,by go_num,HD2⟩
    case measure=>simp[intOf];omega
  ·obtain rfl:k=l.length:=by omega
   have HF:=Lh (HN.out HD.out);go_wp2_with fail;go_ret;exact⟨by rw[HF.out];rfl,rfl⟩
theorem Ep(l:List aD)(x:aK)(nm:Bs)(w:World)(hx:aj w (·<w.heap.size) (l.map aD.toD) x)(hl:l.length<=2000000):
  Calls Tryz.prog 205 #[.slice x.a l.length x.cap,.string ⟨nm.toArray⟩] w fun e w'=>e=.returned (.int .i64 ((jr l nm).getD 0))/\w'=w:=by
 obtain⟨h1,_,_,h4,_⟩:=aj.flat aD.bI hx;have H1:=Lh h1;have H4:=Lh h4;have HS:Hid (∀(k:Nat) (hk:k<l.length),l[k].name=nm->(∀j (h:j<l.length),j<k->l[j].name≠nm)->(jr l nm).getD 0=l[k].sort):=Lh (fun k hk he hn=>by
  obtain⟨_,h⟩:=xV (jC.2 ⟨hk,he,fun j hj=>hn j (by omega) hj⟩);rw[h];rfl)
 have HN:Hid ((∀j (h:j<l.length),j<l.length->l[j].name≠nm)->(jr l nm).getD 0=0):=Lh (fun hn=>by
  have h:dF l nm=none:=kW.2 (fun hm=>by
   obtain⟨b,hb,he⟩:=List.mem_map.1 hm;obtain⟨j,hj,rfl⟩:=List.mem_iff_getElem.1 hb;exact hn j hj hj he)
  have h2:=kU (a:=l) (n:=nm);rw[h] at h2;cases hc:jr l nm with
  |none=>rfl
  |some v=>rw[hc] at h2;cases h2)
 generalize (jr l nm).getD 0=res at HS HN ⊢;clear hx h1 h4;go_enter Tryz.func205,Tryz.ntmps205;go_wp2_with fail;go_loop [5] (fun i=>∃k:Nat,k<=l.length/\i=.int .i64 k/\Hid (∀j (h:j<l.length),j<k->l[j].name≠nm)) (fun i=>l.length-(intOf i).toNat)
 case atStart=>exact⟨0,Nat.zero_le _,rfl,Lh (fun _ _ h=>by omega)⟩
 case round=>
  obtain⟨k,hk,rfl,HD⟩:=hrel;by_cases hlt:k<l.length
  ·obtain⟨e0,e1⟩:=H4.out.two k hlt rfl;have hxa:=(H1.out (by omega)).1;have HZ:=Lh (HS.out k hlt);have HT:Hid (l[k].name≠nm->∀j (h:j<l.length),j<k+1->l[j].name≠nm):=Lh (fun hne i h hi=>by
    by_cases e:i=k
    ·subst e;exact hne
    ·exact HD.out i h (by omega))
   generalize l[k].name=z at e0 HZ HT;generalize l[k].sort=so at e1 HZ;rw[hxa];clear hxa;by_cases hq:z=nm
   ·subst hq;have HF:=Lh (HZ.out rfl HD.out);go_wp2_with fail;go_ret;exact⟨by rw[HF.out];rfl,rfl⟩
   ·have HD2:=Lh (HT.out hq);have hne:(z==nm)=false:=by simpa using hq
    clear hq;go_wp2_with fail;go_round
    case rel=>exact⟨k+1,by omega,by go_num,HD2⟩
    case measure=>simp[intOf];omega
  ·obtain rfl:k=l.length:=by omega
   have HF:=Lh (HN.out HD.out);go_wp2_with fail;go_ret;exact⟨by rw[HF.out];rfl,rfl⟩
theorem pY(l:List aD)(x:aK)(t:bH)(w:World)(hx:aj w (·<w.heap.size) (l.map aD.toD) x)(hl:l.length<=2000000)(hk1:1<=t.kind)(hk2:t.kind<=7):
  Calls Tryz.prog 189 #[.slice x.a l.length x.cap,.agg #[.int .i64 t.kind,.string ⟨t.name.toArray⟩,.int .i64 t.n]] w fun e w'=>e=.returned (.tuple #[.int .i64 (aP l t).1,.int .i64 (aP l t).2])/\Below w.heap.size w w':=by
 have cz:Below w.heap.size w (w.alloc (.cells #[.int .i64 t.kind,.string ⟨t.name.toArray⟩,.int .i64 t.n] 92)):=(Below.refl _ _).alloc (Nat.le_refl _) _;have HB:=Lh cz;have HST:=Lh (fun(W:World) (hW:Below w.heap.size w W)=>mJ l x t.name W (hx.later hW hW.size) hl);have Ae:=Lh (fun(W:World) (hW:Below w.heap.size w W)=>Ep l x t.name W (hx.later hW hW.size) hl);rw[kU] at HST;have HR:=Lh (p9 l t);clear cz hx;obtain⟨kind,name,n⟩:=t;simp only at HB HST Ae HR hk1 hk2 ⊢;generalize jr l name=lk at HST Ae HR;generalize aP l ⟨kind,name,n⟩=res at HR ⊢;have hk:kind=1∨kind=2∨kind=3∨kind=4∨kind=5∨kind=6∨kind=7:=by omega
 clear hk1 hk2;by_cases h1:kind=1
 ·subst h1;have HX:Hid (res=(8,0)):=Lh (by rw[HR.out];rfl);clear HR hk;go_enter Tryz.func189,Tryz.ntmps189;go_wp2_with fail;go_ret2;exact⟨by rw[HX.out];rfl,HB.out⟩
 have h1':(kind==1)=false:=by simpa using h1
 cases lk with
 |none=>
  have HX:Hid (res=(0,81)):=Lh (by rw[HR.out,if_neg h1];rfl);clear HR hk h1;go_enter Tryz.func189,Tryz.ntmps189;go_wp2_with fail;refine(HST.out _ HB.out).mono ?_;rintro e w' ⟨rfl,hw⟩;rw[hw];clear hw w';go_wp2_with fail;go_ret2;exact⟨by rw[HX.out];rfl,HB.out⟩
 |some so=>
  have HX:Hid (res=ME (some so) kind):=Lh (by rw[HR.out,if_neg h1]);have hk':kind=2∨kind=3∨kind=4∨kind=5∨kind=6∨kind=7:=by omega
  clear HR h1 h1' hk;rcases hk' with rfl|rfl|rfl|rfl|rfl|rfl
  ·have wZ:Hid (res=(so,0)):=Lh HX.out;clear HX;go_enter Tryz.func189,Tryz.ntmps189;go_wp2_with fail;refine(HST.out _ HB.out).mono ?_;rintro e w' ⟨rfl,hw⟩;rw[hw];clear hw w';go_wp2_with fail;refine(Ae.out _ HB.out).mono ?_;rintro e w' ⟨rfl,hw⟩;rw[hw];clear hw w';go_wp2_with fail;go_ret2;exact⟨by rw[wZ.out];rfl,HB.out⟩
  ·by_cases hs:so=2
   ·subst hs;have wZ:Hid (res=(6,0)):=Lh (by rw[HX.out];rfl);clear HX;go_enter Tryz.func189,Tryz.ntmps189;go_wp2_with fail;refine(HST.out _ HB.out).mono ?_;rintro e w' ⟨rfl,hw⟩;rw[hw];clear hw w';go_wp2_with fail;refine(Ae.out _ HB.out).mono ?_;rintro e w' ⟨rfl,hw⟩;rw[hw];clear hw w';go_wp2_with fail;go_ret2;exact⟨by rw[wZ.out];rfl,HB.out⟩
   ·have wZ:Hid (res=(0,80)):=Lh (by rw[HX.out];show(if(3:Int)=2 then(so,(0:Int)) else if(2:Int)≠so then(0,80) else(6,0))=_;rw[if_neg (by decide),if_pos (fun h=>hs h.symm)]);have ds:(so !=2)=true:=by simpa using hs
    clear HX hs;go_enter Tryz.func189,Tryz.ntmps189;go_wp2_with fail;refine(HST.out _ HB.out).mono ?_;rintro e w' ⟨rfl,hw⟩;rw[hw];clear hw w';go_wp2_with fail;refine(Ae.out _ HB.out).mono ?_;rintro e w' ⟨rfl,hw⟩;rw[hw];clear hw w';go_wp2_with fail;go_ret2;exact⟨by rw[wZ.out];rfl,HB.out⟩
  ·by_cases hs:so=2
   ·subst hs;have wZ:Hid (res=(8,0)):=Lh (by rw[HX.out];rfl);clear HX;go_enter Tryz.func189,Tryz.ntmps189;go_wp2_with fail;refine(HST.out _ HB.out).mono ?_;rintro e w' ⟨rfl,hw⟩;rw[hw];clear hw w';go_wp2_with fail;refine(Ae.out _ HB.out).mono ?_;rintro e w' ⟨rfl,hw⟩;rw[hw];clear hw w';go_wp2_with fail;go_ret2;exact⟨by rw[wZ.out];rfl,HB.out⟩
   ·have wZ:Hid (res=(0,80)):=Lh (by rw[HX.out];show(if(4:Int)=2 then(so,(0:Int)) else if(2:Int)≠so then(0,80) else(8,0))=_;rw[if_neg (by decide),if_pos (fun h=>hs h.symm)]);have ds:(so !=2)=true:=by simpa using hs
    clear HX hs;go_enter Tryz.func189,Tryz.ntmps189;go_wp2_with fail;refine(HST.out _ HB.out).mono ?_;rintro e w' ⟨rfl,hw⟩;rw[hw];clear hw w';go_wp2_with fail;refine(Ae.out _ HB.out).mono ?_;rintro e w' ⟨rfl,hw⟩;rw[hw];clear hw w';go_wp2_with fail;go_ret2;exact⟨by rw[wZ.out];rfl,HB.out⟩
  ·by_cases hs:so=3
   ·subst hs;have wZ:Hid (res=(7,0)):=Lh (by rw[HX.out];rfl);clear HX;go_enter Tryz.func189,Tryz.ntmps189;go_wp2_with fail;refine(HST.out _ HB.out).mono ?_;rintro e w' ⟨rfl,hw⟩;rw[hw];clear hw w';go_wp2_with fail;refine(Ae.out _ HB.out).mono ?_;rintro e w' ⟨rfl,hw⟩;rw[hw];clear hw w';go_wp2_with fail;go_ret2;exact⟨by rw[wZ.out];rfl,HB.out⟩
   ·have wZ:Hid (res=(0,80)):=Lh (by rw[HX.out];show(if(5:Int)=2 then(so,(0:Int)) else if(3:Int)≠so then(0,80) else(7,0))=_;rw[if_neg (by decide),if_pos (fun h=>hs h.symm)]);have ds:(so !=3)=true:=by simpa using hs
    clear HX hs;go_enter Tryz.func189,Tryz.ntmps189;go_wp2_with fail;refine(HST.out _ HB.out).mono ?_;rintro e w' ⟨rfl,hw⟩;rw[hw];clear hw w';go_wp2_with fail;refine(Ae.out _ HB.out).mono ?_;rintro e w' ⟨rfl,hw⟩;rw[hw];clear hw w';go_wp2_with fail;go_ret2;exact⟨by rw[wZ.out];rfl,HB.out⟩
  ·by_cases hs:so=3
   ·subst hs;have wZ:Hid (res=(8,0)):=Lh (by rw[HX.out];rfl);clear HX;go_enter Tryz.func189,Tryz.ntmps189;go_wp2_with fail;refine(HST.out _ HB.out).mono ?_;rintro e w' ⟨rfl,hw⟩;rw[hw];clear hw w';go_wp2_with fail;refine(Ae.out _ HB.out).mono ?_;rintro e w' ⟨rfl,hw⟩;rw[hw];clear hw w';go_wp2_with fail;go_ret2;exact⟨by rw[wZ.out];rfl,HB.out⟩
   ·have wZ:Hid (res=(0,80)):=Lh (by rw[HX.out];show(if(6:Int)=2 then(so,(0:Int)) else if(3:Int)≠so then(0,80) else(8,0))=_;rw[if_neg (by decide),if_pos (fun h=>hs h.symm)]);have ds:(so !=3)=true:=by simpa using hs
    clear HX hs;go_enter Tryz.func189,Tryz.ntmps189;go_wp2_with fail;refine(HST.out _ HB.out).mono ?_;rintro e w' ⟨rfl,hw⟩;rw[hw];clear hw w';go_wp2_with fail;refine(Ae.out _ HB.out).mono ?_;rintro e w' ⟨rfl,hw⟩;rw[hw];clear hw w';go_wp2_with fail;go_ret2;exact⟨by rw[wZ.out];rfl,HB.out⟩
  ·by_cases hs:so=1
   ·subst hs;have wZ:Hid (res=(8,0)):=Lh (by rw[HX.out];rfl);clear HX;go_enter Tryz.func189,Tryz.ntmps189;go_wp2_with fail;refine(HST.out _ HB.out).mono ?_;rintro e w' ⟨rfl,hw⟩;rw[hw];clear hw w';go_wp2_with fail;refine(Ae.out _ HB.out).mono ?_;rintro e w' ⟨rfl,hw⟩;rw[hw];clear hw w';go_wp2_with fail;go_ret2;exact⟨by rw[wZ.out];rfl,HB.out⟩
   ·have wZ:Hid (res=(0,80)):=Lh (by rw[HX.out];show(if(7:Int)=2 then(so,(0:Int)) else if(1:Int)≠so then(0,80) else(8,0))=_;rw[if_neg (by decide),if_pos (fun h=>hs h.symm)]);have ds:(so !=1)=true:=by simpa using hs
    clear HX hs;go_enter Tryz.func189,Tryz.ntmps189;go_wp2_with fail;refine(HST.out _ HB.out).mono ?_;rintro e w' ⟨rfl,hw⟩;rw[hw];clear hw w';go_wp2_with fail;refine(Ae.out _ HB.out).mono ?_;rintro e w' ⟨rfl,hw⟩;rw[hw];clear hw w';go_wp2_with fail;go_ret2;exact⟨by rw[wZ.out];rfl,HB.out⟩
theorem Ch(k:Int)(w:World)(hk1:3<=k)(hk2:k<=8):Calls Tryz.prog 175 #[.int .i64 k] w fun e w'=>e=.returned (.tuple #[.int .i64 (gz k).1,.int .i64 (gz k).2])/\w'=w:=by
 have hk:k=3∨k=4∨k=5∨k=6∨k=7∨k=8:=by omega
 rcases hk with rfl|rfl|rfl|rfl|rfl|rfl
 all_goals
  go_enter Tryz.func175,Tryz.ntmps175;go_wp2_with fail;go_ret2;exact⟨rfl,rfl⟩
theorem Ck(l:List aD)(x:aK)(t:bH)(so:Int)(w:World)(hx:aj w (·<w.heap.size) (l.map aD.toD) x)(hl:l.length<=2000000)(hk1:1<=t.kind)(hk2:t.kind<=7):
  Calls Tryz.prog 176 #[.slice x.a l.length x.cap,.agg #[.int .i64 t.kind,.string ⟨t.name.toArray⟩,.int .i64 t.n],.int .i64 so] w fun e w'=>e=.returned (.int .i64 (if(aP l t).2≠0 then(aP l t).2 else if(aP l t).1≠so then 80 else 0))/\Below w.heap.size w w':=by
 have cz:Below w.heap.size w (w.alloc (.cells #[.int .i64 t.kind,.string ⟨t.name.toArray⟩,.int .i64 t.n] 92)):=(Below.refl _ _).alloc (Nat.le_refl _) _;have HB:=Lh cz;have Uo:=Lh (fun(W:World) (hW:Below w.heap.size w W)=>pY l x t W (hx.later hW hW.size) hl hk1 hk2);clear cz hx;obtain⟨kind,name,n⟩:=t;simp only at HB Uo hk1 hk2 ⊢;generalize aP l ⟨kind,name,n⟩=res at Uo ⊢;obtain⟨a,b⟩:=res;simp only at Uo ⊢;have HR:Hid ((if b≠0 then b else if a≠so then 80 else 0)=(if b≠0 then b else if a≠so then 80 else 0)):=Lh rfl;generalize hrr:(if b≠0 then b else if a≠so then 80 else 0)=rr at HR ⊢;have HRR:=Lh hrr;clear HR hrr;go_enter Tryz.func176,Tryz.ntmps176;go_wp2_with fail;refine(Uo.out _ HB.out).mono ?_;rintro e w1 ⟨rfl,hb1⟩;have H1:=Lh (HB.out.trans (hb1.mono HB.out.size));clear hb1;by_cases h1:b=0
 ·subst h1;by_cases h2:a=so
  ·subst h2;have HX:Hid (rr=0):=Lh (by rw[<-HRR.out];simp);clear HRR;go_wp2_with fail;go_ret;exact⟨by rw[HX.out];rfl,H1.out⟩
  ·have HX:Hid (rr=80):=Lh (by rw[<-HRR.out,if_neg (by simp),if_pos h2]);have d2:(a !=so)=true:=by simpa using h2
   clear HRR h2;go_wp2_with fail;go_ret;exact⟨by rw[HX.out];rfl,H1.out⟩
 ·have HX:Hid (rr=b):=Lh (by rw[<-HRR.out,if_pos h1]);have d1:(b==0)=false:=by simpa using h1
  clear HRR h1;go_wp2_with fail;go_ret;exact⟨by rw[HX.out];rfl,H1.out⟩
theorem yI{u:bH}(h:aj w (·<w.heap.size) ([t,u].map bH.toD) x):x.a=some ⟨x.b,x.o,none⟩/\(w.cell? ⟨x.b,x.o,none⟩=some (.int .i64 t.kind)/\w.cell? ⟨x.b,x.o+1,none⟩=some (.string ⟨t.name.toArray⟩)/\w.cell? ⟨x.b,x.o+2,none⟩=some (.int .i64 t.n))/\(w.cell? ⟨x.b,x.o+3,none⟩=some (.int .i64 u.kind)/\w.cell? ⟨x.b,x.o+4,none⟩=some (.string ⟨u.name.toArray⟩)/\w.cell? ⟨x.b,x.o+5,none⟩=some (.int .i64 u.n)):=by
 obtain⟨h1,_,_,h4,_⟩:=aj.flat bH.bI h;obtain⟨g0,g1,g2⟩:=h4.three 0 (by simp) rfl;obtain⟨k0,k1,k2⟩:=h4.three 1 (by simp) rfl;exact⟨(h1 (by simp)).1,⟨by simpa using g0,by simpa using g1,by simpa using g2⟩,⟨by simpa using k0,by simpa using k1,by simpa using k2⟩⟩
theorem wu(l:List aD)(x:aK)(kind:Int)(name:Bs)(n:Int)(terms:List bH)(t u:bH)(lU:terms=[t,u])(binds:List aD)(fl:List ae)(y:aC)(w:World)(hx:aj w (·<w.heap.size) (l.map aD.toD) x)(hl:l.length<=2000000)(hy:aB w (·<w.heap.size) (.mk kind name n terms binds fl) y)(hk1:1<=t.kind/\t.kind<=7)(hk2:1<=u.kind/\u.kind<=7):
  Calls Tryz.prog 173 #[.slice x.a l.length x.cap,gB (.mk kind name n terms binds fl,y)] w fun e w'=>e=.returned (.int .i64 (gI l name t u))/\Below w.heap.size w w':=by
 have cz:Below w.heap.size w (w.alloc (.cells (y.cells (.mk kind name n terms binds fl)).toArray 64)):=(Below.refl _ _).alloc (Nat.le_refl _) _;have Gm:=Lh (fun(W:World) (hW:Below w.heap.size w W)=>pY l x t W (hx.later hW hW.size) hl hk1.1 hk1.2);have Rx:=Lh (fun(W:World) (hW:Below w.heap.size w W)=>pY l x u W (hx.later hW hW.size) hl hk2.1 hk2.2);obtain⟨W0,hW0⟩:∃W0,W0=w.alloc (.cells (y.cells (.mk kind name n terms binds fl)).toArray 64):=⟨_,rfl⟩;rw[<-hW0] at cz;have hby:bW W0 w.heap.size (.mk kind name n terms binds fl) y:=by unfold bW;rw[hW0,af,if_pos rfl]
 have HK:Hid (∀W,Below W0.heap.size W0 W->Below w.heap.size w W/\bW W w.heap.size (.mk kind name n terms binds fl) y):=Lh (fun W hW=>⟨cz.trans (hW.mono cz.size),hby.below hW⟩);have Qf:=Lh (fun(W:World) (hW:Below w.heap.size w W)=>yI (by rw[<-lU];exact hy.terms.later hW hW.size));have hlt:1<terms.length:=by rw[lU];simp
 have M9:Hid (gI l name t u=if(aP l t).2≠0 then(aP l t).2 else if(aP l u).2≠0 then(aP l u).2
 else if(aP l t).1≠(aP l u).1∨¬((aP l t).1=8∨(aP l t).1=2∨(aP l t).1=6∨name=[61]∨name=[33,61]) then 80 else 0):=Lh rfl
 generalize gI l name t u=res at M9 ⊢;generalize aP l t=p at Gm M9;generalize aP l u=q at Rx M9;obtain⟨a,e1⟩:=p;obtain⟨b,e2⟩:=q;have HW0:=Lh hW0;clear hW0 cz hby hx hy lU;obtain⟨tk,tn,tm⟩:=t;obtain⟨uk,un,um⟩:=u;simp only[gB,aC.cells,aK.val,ae.kind,ae.name,ae.n,ae.terms,ae.binds,ae.l] at Gm Rx Qf M9 HW0 ⊢;obtain⟨c0,c1,c2,c3,c4,c5⟩:=(HK.out _ (Below.refl _ _)).2.cells;simp only[ae.kind,ae.name,ae.n,ae.terms,ae.binds,ae.l] at c0 c1 c2 c3 c4 c5;obtain⟨hxa,⟨a0,a1,a2⟩,b0,b1,b2⟩:=Qf.out _ (HK.out _ (Below.refl _ _)).1;rw[hxa] at c3;have Qn:=Lh hxa;clear hxa;go_enter Tryz.func173,Tryz.ntmps173;go_upto_region 1 with fail
 rw[<-HW0.out];clear HW0;go_wp2_with fail;refine(Gm.out _ (HK.out _ (Below.refl _ _)).1).mono ?_;rintro e w1 ⟨rfl,hb1⟩;have H1:=Lh hb1;clear hb1 c0 c1 c2 c3 c4 c5 a0 a1 a2 b0 b1 b2;by_cases he1:e1=0;rotate_left
 ·have HX:Hid (res=e1):=Lh (by rw[M9.out,if_pos he1]);have d1:(e1 !=0)=true:=by simpa using he1
  clear M9 he1;go_wp2_with fail;go_ret;exact⟨by rw[HX.out];rfl,(HK.out _ H1.out).1⟩
 subst he1;obtain⟨c0,c1,c2,c3,c4,c5⟩:=(HK.out _ H1.out).2.cells;simp only[ae.kind,ae.name,ae.n,ae.terms,ae.binds,ae.l] at c0 c1 c2 c3 c4 c5;obtain⟨_,⟨a0,a1,a2⟩,b0,b1,b2⟩:=Qf.out _ (HK.out _ H1.out).1;rw[Qn.out] at c3;go_wp2_with fail;refine(Rx.out _ (HK.out _ H1.out).1).mono ?_;rintro e w2 ⟨rfl,hb2⟩;have H2:=Lh (H1.out.trans (hb2.mono H1.out.size));clear hb2 c0 c1 c2 c3 c4 c5 a0 a1 a2 b0 b1 b2;by_cases he2:e2=0;rotate_left
 ·have HX:Hid (res=e2):=Lh (by rw[M9.out,if_neg (by simp),if_pos he2]);have d1:(e2 !=0)=true:=by simpa using he2
  clear M9 he2;go_wp2_with fail;go_ret;exact⟨by rw[HX.out];rfl,(HK.out _ H2.out).1⟩
 subst he2;have uC:Hid (res=if a≠b∨¬(a=8∨a=2∨a=6∨name=[61]∨name=[33,61]) then 80 else 0):=Lh (by rw[M9.out,if_neg (by simp),if_neg (by simp)]);clear M9;obtain⟨c0,c1,c2,c3,c4,c5⟩:=(HK.out _ H2.out).2.cells;simp only[ae.kind,ae.name,ae.n,ae.terms,ae.binds,ae.l] at c0 c1 c2 c3 c4 c5;by_cases hab:a=b;rotate_left
 ·have HX:Hid (res=80):=Lh (by rw[uC.out,if_pos (Or.inl hab)]);have dab:(a !=b)=true:=by simpa using hab
  clear uC hab;by_cases n1:name=[61]
  ·subst n1;go_wp2_with fail;go_ret;exact⟨by rw[HX.out];rfl,(HK.out _ H2.out).1⟩
  ·have Zm:(name==[61])=false:=by simpa using n1
   by_cases n2:name=[33,61]
   ·subst n2;go_wp2_with fail;go_ret;exact⟨by rw[HX.out];rfl,(HK.out _ H2.out).1⟩
   ·have Zn:(name==[33,61])=false:=by simpa using n2
    clear n1 n2;go_wp2_with fail;go_ret;exact⟨by rw[HX.out];rfl,(HK.out _ H2.out).1⟩
 subst hab;by_cases n1:name=[61]
 ·subst n1;have HX:Hid (res=0):=Lh (by rw[uC.out,if_neg (by simp)]);clear uC;go_wp2_with fail;go_ret;exact⟨by rw[HX.out];rfl,(HK.out _ H2.out).1⟩
 have Zm:(name==[61])=false:=by simpa using n1
 by_cases n2:name=[33,61]
 ·subst n2;have HX:Hid (res=0):=Lh (by rw[uC.out,if_neg (by simp)]);clear uC n1;go_wp2_with fail;go_ret;exact⟨by rw[HX.out];rfl,(HK.out _ H2.out).1⟩
 have Zn:(name==[33,61])=false:=by simpa using n2
 by_cases s8:a=8
 ·subst s8;have HX:Hid (res=0):=Lh (by rw[uC.out,if_neg (by simp)]);clear uC n1 n2;go_wp2_with fail;go_ret;exact⟨by rw[HX.out];rfl,(HK.out _ H2.out).1⟩
 have d8:(a !=8)=true:=by simpa using s8
 by_cases s2:a=2
 ·subst s2;have HX:Hid (res=0):=Lh (by rw[uC.out,if_neg (by simp)]);clear uC n1 n2 s8;go_wp2_with fail;go_ret;exact⟨by rw[HX.out];rfl,(HK.out _ H2.out).1⟩
 have d2:(a !=2)=true:=by simpa using s2
 by_cases s6:a=6
 ·subst s6;have HX:Hid (res=0):=Lh (by rw[uC.out,if_neg (by simp)]);clear uC n1 n2 s8 s2;go_wp2_with fail;go_ret;exact⟨by rw[HX.out];rfl,(HK.out _ H2.out).1⟩
 have d6:(a !=6)=true:=by simpa using s6
 have HX:Hid (res=80):=Lh (by rw[uC.out,if_pos (Or.inr (by rintro(h|h|h|h|h)<;>contradiction))]);clear uC n1 n2 s8 s2 s6;go_wp2_with fail;go_ret;exact⟨by rw[HX.out];rfl,(HK.out _ H2.out).1⟩
theorem gD.take{α:Type}{f:α->D}{sz:Nat}{w:World}{l:List α}{b o:Nat}(h:gD w f sz l b o)(k:Nat):gD w f sz (l.take k) b o:=fun i hi=>by
 have hi':i<l.length:=by rw[List.length_take] at hi;omega
 have:=h i hi';rw[List.getElem_take];exact this
theorem aj.takeB{F:Nat->Prop}(h:aj w F (l.map aD.toD) x)(k:Nat):aj w F ((l.take k).map aD.toD) x:=by
 obtain⟨g1,g2,g3,g4⟩:=h;refine⟨fun h0=>g1 (by rw[List.length_map,List.length_take] at h0;rw[List.length_map];omega),?_,g3,?_⟩
 ·rw[List.length_map] at g2 ⊢;rw[List.length_take];omega
 ·obtain⟨q1,q2⟩:=bU.flat aD.bI g4;exact bU.of_flat aD.bI (gD.take q1 k) (fun z hz=>q2 z (List.mem_of_mem_take hz))
def vO(l:List aD)(k:Nat):Bool:=(List.range k).all (fun i=>match l[i]? with|some b=>aL b&&(dF l b.name==some i)|none=>true)
theorem LG(l:List aD):vO l l.length=kZ l:=rfl
theorem Kq(hk:k<l.length):(dF l l[k].name==some k)=!(dF (l.take k) l[k].name).isSome:=by
 rw[Bool.eq_iff_iff,Bool.not_eq_true',beq_iff_eq,jC];constructor
 ·rintro⟨h,_,hn⟩;have:dF (l.take k) l[k].name=none:=kW.2 (fun hm=>by
   obtain⟨b,hb,he⟩:=List.mem_map.1 hm;obtain⟨j,hj,rfl⟩:=List.mem_iff_getElem.1 hb;rw[List.length_take] at hj;rw[List.getElem_take] at he;exact hn j (by omega) he)
  rw[this];rfl
 ·intro h;refine⟨hk,rfl,fun j hj he=>?_⟩;have h2:dF (l.take k) l[k].name=none:=by
   cases hc:dF (l.take k) l[k].name with
   |none=>rfl
   |some v=>rw[hc] at h;cases h
  refine kW.1 h2 (List.mem_map.2 ⟨l[j],?_,he⟩);exact List.mem_take_iff_getElem.2 ⟨j,by omega,rfl⟩
theorem Ht(hk:k<l.length)(h:vO l k=true):vO l (k+1)=(aL l[k]&&!(dF (l.take k) l[k].name).isSome):=by
 unfold vO at h ⊢;rw[List.range_succ,List.all_append,h,Bool.true_and,<-Kq hk];simp only[List.all_cons,List.all_nil,Bool.and_true];rw[List.getElem?_eq_getElem hk]
theorem LF(hk:k<l.length)(h:vO l (k+1)=false):kZ l=false:=by
 cases hc:kZ l with
 |false=>rfl
 |true=>
  unfold kZ at hc;unfold vO at h;rw[List.all_eq_true] at hc;rw[List.all_eq_false] at h;obtain⟨i,hi,hb⟩:=h;exact absurd (hc i (by rw[List.mem_range] at hi ⊢;omega)) hb
theorem xJ(kind:Int)(name:Bs)(n:Int)(binds:List aD)(fl:List ae)(ih:∀(j:Nat) (hj:j<fl.length) (a:List aD) (x:aK) (y:aC) (w:World),aj w (·<w.heap.size) (a.map aD.toD) x->aB w (·<w.heap.size) fl[j] y->a.length+6*fl[j].depth<=1900000->
   Calls Tryz.prog 137 #[.slice x.a a.length x.cap,gB (fl[j],y)] w fun e w'=>e=.returned (.int .i64 (eH a fl[j]))/\Below w.heap.size w w')(a:List aD)(x:aK)(y:aC)(w:World)(hx:aj w (·<w.heap.size) (a.map aD.toD) x)(hy:aB w (·<w.heap.size) (.mk kind name n [] binds fl) y)(hl:a.length+6*(bQ fl+1)<=1900000)(hb6:binds.length<=6)(hfl:fl.length<=2000000)(h9:(kind==9)=false)(hat:bZ kind=false):
  Calls Tryz.prog 137 #[.slice x.a a.length x.cap,gB (.mk kind name n [] binds fl,y)] w fun e w'=>e=.returned (.int .i64 (eH a (.mk kind name n [] binds fl)))/\Below w.heap.size w w':=by
 have cz:Below w.heap.size w (w.alloc (.cells (y.cells (.mk kind name n [] binds fl)).toArray 64)):=(Below.refl _ _).alloc (Nat.le_refl _) _;have hby:bW (w.alloc (.cells (y.cells (.mk kind name n [] binds fl)).toArray 64)) w.heap.size (.mk kind name n [] binds fl) y:=by unfold bW;rw[af,if_pos rfl]
 obtain⟨W0,hW0⟩:∃W0,W0=w.alloc (.cells (y.cells (.mk kind name n [] binds fl)).toArray 64):=⟨_,rfl⟩;have hz0:W0.heap.size=w.heap.size+1:=by rw[hW0];simp
 rw[<-hW0] at cz hby;have hb1:Below W0.heap.size W0 (W0.alloc (.cells #[] 94)):=(Below.refl _ _).alloc (Nat.le_refl _) _;have HO:=Lh (show aa.Own (W0.alloc (.cells #[] 94)) (·<W0.heap.size) 94 2 (.slice (some ⟨W0.heap.size,0,none⟩) 0 0) (some W0.heap.size) [] from aa.Own.lit (w:=W0) (n:=0) (cs:=[]) rfl (by unfold maxLen;omega) rfl (by rw[au]) (fun _ h=>h));have hsrc:aj (W0.alloc (.cells #[] 94)) (·<W0.heap.size) (a.map aD.toD) x:=(hx.later cz cz.size).later hb1 (Nat.le_refl _);have HS:=Lh hsrc.d;have hlen:(a.map aD.toD).length=a.length:=by simp
 rw[hlen] at HS;obtain⟨g1,_,_,g4,g5⟩:=hy.binds.flat aD.bI;have HC:=Lh g4;have F9:=Lh g5;have zZ:Hid (∀(j:Nat) (hj:j<fl.length),∃y1:aC,aB w (·<w.heap.size) fl[j] y1/\ay w y.l.b (y.l.o+j*6) (y1.cells fl[j])):=Lh (fun(j:Nat) (hj:j<fl.length)=>hy.l.qK j hj);have Di:=Lh hy.l.at_;have Aa:=Lh ih;have HW:=Lh (oM a kind name n binds fl);have HB:=Lh (aI cz hby);have HB1:=Lh hb1;have P6:=Lh g1;have HAT:=Lh (fun(W:World)=>mH kind W);rw[hat] at HAT;obtain⟨i0,hi,TG,TH,TI⟩:=info_parts FE;have HW0:=Lh hW0;have HL:=Lh hlen;have HZ0:=Lh hz0;clear hx hy g1 g4 g5 ih cz hby hb1 hsrc hat hW0 hlen hz0;simp only[gB,aC.cells,aK.val,ae.kind,ae.name,ae.n,ae.terms,ae.binds,ae.l,List.length_nil] at HC F9 P6 Di HW0 ⊢;obtain⟨c0,c1,c2,c3,c4,c5⟩:=HB.out.2.cells;simp only[ae.kind,ae.name,ae.n,ae.terms,ae.binds,ae.l,List.length_nil] at c0 c1 c2 c3 c4 c5;generalize eH a (.mk kind name n [] binds fl)=res at HW ⊢;go_enter Tryz.func137,Tryz.ntmps137;go_upto_region 1 with fail
 rw[<-HW0.out];clear HW0;go_upto_region 9 with(go_at_call 174;refine(HAT.out _).mono ?_;rintro e w' ⟨rfl,hw⟩;rw[hw];clear hw w')
 go_upto_region 10 with(at_builtin;go_must (refine eP _ (by rfl) _ _ _ rfl 94 i0 _ 2 24 Tryz.underlying60 hi TG TH TI rfl (by omega) (.slice (some ⟨W0.heap.size,0,none⟩) 0 0) (.slice x.a a.length x.cap) (·<W0.heap.size) (some W0.heap.size) [] (a.map aD.toD) rfl rfl HO.out HS.out (by rw[bP aD.bI,HL.out]) (by rw[HL.out];simp;unfold maxLen;omega) (by rw[HL.out];simp;omega) ?_);intro oa iA LZ w5 hown hmod hat;have HOW:=Lh hown;have HM:=Lh (aI hmod hat);clear hown hmod hat;rw[HL.out];simp only[List.length_nil,Nat.zero_add])
 have uB:Hid (Below w.heap.size w w5/\bW w5 w.heap.size (.mk kind name n [] binds fl) y/\fV w5 (w.heap.size+1) (fun _=>False) 94 2 (.slice oa a.length iA) (a.map aD.toD)):=Lh (by
  have hb5:Below (w.heap.size+1) (W0.alloc (.cells #[] 94)) w5:=HM.out.1.below (by have:=HB1.out.size;have:=HZ0.out;omega) (fun k hk=>by simp at hk;have:=HZ0.out;omega);have hq:bW (W0.alloc (.cells #[] 94)) w.heap.size (.mk kind name n [] binds fl) y:=HB.out.2.below HB1.out;refine⟨(HB.out.1.trans (HB1.out.mono HB.out.1.size)).trans (hb5.mono (by omega)),(hb5.block _ (by omega)).trans hq,.inr ⟨LZ,?_,fun k hk=>?_⟩⟩
  ·have h1:=HOW.out;rw[List.nil_append,List.length_nil,Nat.zero_add,HL.out] at h1;exact h1.flat (fG aD.bI a) (fun _ _ h=>h) (fun _ h=>h.elim)
  ·rcases HM.out.2 with h|h
   ·rw[h] at hk;simp at hk;have:=HZ0.out;omega
   ·rw[h] at hk;simp at hk;have:=HZ0.out;omega)
 clear HO HS HOW HM HB HB1 HZ0 c0 c1 c2 c3 c4 c5;go_wp2_with fail;go_loopw [8,9] (fun v i wr=>∃(j:Nat) (bs:List aD),j<=binds.length/\i=.int .i64 j/\Below w.heap.size w wr/\Hid (bW wr w.heap.size (.mk kind name n [] binds fl) y)/\Hid (fV wr (w.heap.size+1) (fun _=>False) 94 2 v (bs.map aD.toD))/\Hid (bs.length=a.length+j/\dE a binds=dE bs (binds.drop j))) (fun _ i _=>binds.length-(intOf i).toNat)
 case atStart=>exact⟨0,a,Nat.zero_le _,rfl,uB.out.1,Lh uB.out.2.1,Lh uB.out.2.2,Lh ⟨rfl,rfl⟩⟩
 case round=>
  obtain⟨j,bs,hj,rfl,hb,gM,HO,HE⟩:=hrel;obtain⟨x1,hv,hx1⟩:=HO.out.sl (by rw[bP aD.bI,List.length_map]);rw[List.length_map] at hv;subst hv;have hbl:bs.length<=1900000:=by have:=HE.out.1;omega
  have JO:=Lh hx1;clear hx1;obtain⟨c0,c1,c2,c3,c4,c5⟩:=gM.out.cells;simp only[ae.kind,ae.name,ae.n,ae.terms,ae.binds,ae.l,List.length_nil] at c0 c1 c2 c3 c4 c5;by_cases hlt:j<binds.length
  ·obtain⟨hxa,GY⟩:=P6.out (by omega);obtain⟨q0,q1⟩:=HC.out.two j hlt rfl;have e0:=(hb.cell (p:=⟨y.b.b,y.b.o+j*2,none⟩) GY).trans q0;have e1:=(hb.cell (p:=⟨y.b.b,y.b.o+j*2+1,none⟩) GY).trans q1;have yQ:=Lh (mJ bs x1 binds[j].name wr JO.out (by omega));have Au:=Lh (F9.out _ (List.getElem_mem hlt));have hdrop:binds.drop j=binds[j]::binds.drop (j+1):=List.drop_eq_getElem_cons hlt;have HDR:=Lh hdrop;have ni:=Lh hb;rw[hxa] at c4;clear q0 q1 hdrop hxa;generalize hbe:binds[j]=be at yQ Au HDR e0 e1;clear hbe;obtain⟨nm,so⟩:=be;simp only at yQ e0 e1;cases hf:dF bs nm with
   |some i=>
    rw[hf] at yQ;have HR:Hid (res=82):=Lh (by rw[HW.out,HE.out.2,qB HDR.out hf]);clear hf;go_wp2_with fail;refine yQ.out.mono ?_;rintro e w1 ⟨rfl,hw⟩;rw[hw];clear hw w1;go_wp2_with fail;go_ret;exact⟨aQ HR.out.symm,ni.out⟩
   |none=>
    rw[hf] at yQ;have HR:=Lh (HE.out.2.trans (qA HDR.out hf));clear hf;have DL:=gM.out.lt;go_wp2_with fail;refine yQ.out.mono ?_;rintro e w1 ⟨rfl,hw⟩;rw[hw];clear hw w1;go_wp2_with (at_builtin;go_must (refine qf (W0:=wr) (B:=wr.heap.size) rfl rfl _ _ 60 rfl 94 i0 _ 2 24 Tryz.underlying60 hi TG TH TI rfl (by decide) (.slice x1.a bs.length x1.cap) (bs.map aD.toD) (aD.toD ⟨nm,so⟩) [.string ⟨nm.toArray⟩,.int .i64 so] 94 rfl rfl HO.out (au.nM (aD.bI.flat _) Au.out) (by omega) rfl (by rw[bP aD.bI,List.length_map]) (by rw[List.length_map];unfold maxLen;omega) (by rw[List.length_map];omega) ?_);intro ao cap w6 hon QG;have lS:=Lh (aI hon (aI (ni.out.trans (QG.mono (by omega))) (show bW w6 w.heap.size (.mk kind name n [] binds fl) y from(QG.block _ (by omega)).trans gM.out)));clear hon QG);refine⟨⟨j+1,bs++[⟨nm,so⟩],by omega,by go_num,lS.out.2.1,Lh lS.out.2.2,Lh ?_,Lh ⟨by have:=HE.out.1;simp;omega,HR.out⟩⟩,by simp[intOf];omega⟩;have:=lS.out.1;rw[List.length_map] at this;simpa using this
  ·have hjb:j=binds.length:=by omega
   obtain⟨wo,rfl⟩:∃wo,wo=wr:=⟨_,rfl⟩;have HR:Hid (res=iX bs fl):=Lh (by rw[HW.out,HE.out.2,hjb,List.drop_length,dE]);have VT:bs.length+6*bQ fl<=1900000:=by have:=HE.out.1;omega
   have lX:=Lh hb;have Qo:=Lh (fun(W:World) (hW:Below wo.heap.size wo W)=>JO.out.later hW hW.size);have Df:=Lh (fun(W:World) (hW:Below wo.heap.size wo W)=>(gM.out.below hW).cells);clear HC F9 P6 HO HE gM hjb;go_wp2_with fail;go_loopw [10] (fun i wr=>∃j2:Nat,j2<=fl.length/\i=.int .i64 j2/\Below wo.heap.size wo wr/\Hid (iX bs fl=iX bs (fl.drop j2))) (fun i _=>fl.length-(intOf i).toNat)
   case atStart=>exact⟨0,Nat.zero_le _,rfl,Below.refl _ _,Lh rfl⟩
   case round=>
    obtain⟨j2,hj2,rfl,hb2,HE2⟩:=hrel;obtain⟨_,_,_,_,_,b5⟩:=Df.out _ hb2;simp only[ae.l] at b5;by_cases hlt2:j2<fl.length
    ·obtain⟨y1,hy1,hy2⟩:=zZ.out j2 hlt2;obtain⟨hxa,kg⟩:=Di.out (by rw[List.length_map];omega);have hbw:Below w.heap.size w wr:=lX.out.trans (hb2.mono lX.out.size);obtain⟨e0,e1,e2,e3,e4,e5⟩:=(hy2.agree (ag hbw) kg).six;have hdp:=jB fl j2 hlt2;have fZ:=Lh (Aa.out j2 hlt2 bs x1 y1 wr (Qo.out _ hb2) (hy1.later hbw hbw.size) (by omega));have qo:=Lh hb2;have hdrop:fl.drop j2=fl[j2]::fl.drop (j2+1):=List.drop_eq_getElem_cons hlt2;have HDR:=Lh hdrop;obtain⟨c,hc⟩:∃c,eH bs fl[j2]=c:=⟨_,rfl⟩;rw[hc] at fZ;have uf:=Lh hc;rw[hxa] at b5;clear hy1 hy2 kg hbw hdrop hc hdp hxa;generalize fl[j2]=fe at fZ HDR uf e0 e1 e2 e3 e4 e5;obtain⟨mU,mV,n1,jX,jR,Jv⟩:=fe;simp only[gB,aC.cells,aK.val,ae.kind,ae.name,ae.n,ae.terms,ae.binds,ae.l] at fZ e0 e1 e2 e3 e4 e5;have hcd:(c≠0/\(c !=0)=true)∨(c=0/\(c !=0)=false):=by by_cases h:c=0<;>simp[h]
     rcases hcd with⟨d1,d2⟩|⟨d1,d2⟩
     ·have HD:=Lh (HR.out.trans (HE2.out.trans (yK HDR.out uf.out d1)));clear d1;go_wp2_with fail;refine fZ.out.mono ?_;rintro e w1 ⟨rfl,hb1⟩;have HB1:=Lh (lX.out.trans ((qo.out.trans (hb1.mono qo.out.size)).mono lX.out.size));clear hb1;go_wp2_with fail;go_ret;exact⟨aQ HD.out.symm,HB1.out⟩
     ·subst d1;clear d2;have HD:=Lh (HE2.out.trans (wN HDR.out uf.out));go_wp2_with fail;refine fZ.out.mono ?_;rintro e w1 ⟨rfl,hb1⟩;have HB1:=Lh (qo.out.trans (hb1.mono qo.out.size));clear hb1;go_wp2_with fail;exact⟨⟨j2+1,by omega,by go_num,HB1.out,HD⟩,by simp[intOf];omega⟩
    ·go_wp2_with fail;go_ret;have hjl:j2=fl.length:=by omega
     exact⟨aQ (by rw[HR.out,HE2.out,hjl,List.drop_length,iX]),lX.out.trans (hb2.mono lX.out.size)⟩
def PO(p:Int×Int)(so:Int):Int:=if p.2≠0 then p.2 else if p.1≠so then 80 else 0
theorem AO(a:List aD)(k:Int)(t u:bH):gJ a k t u=if PO (aP a t) (gz k).1≠0 then PO (aP a t) (gz k).1 else PO (aP a u) (gz k).2:=by
 unfold gJ PO;by_cases h1:(aP a t).2=0
 ·by_cases h2:(aP a t).1=(gz k).1
  ·simp[h1,h2]
  ·simp[h1,h2]
 ·simp[h1]
theorem lM(h:aA t=true):1<=t.kind/\t.kind<=7:=by
 unfold aA at h;by_cases h1:t.kind=1
 ·omega
 ·rw[if_neg h1] at h;simp only[Bool.and_eq_true,decide_eq_true_eq] at h;omega
theorem Cj(l:List aD)(x:aK)(name:Bs)(n:Int)(terms:List bH)(t u:bH)(lU:terms=[t,u])(binds:List aD)(fl:List ae)(y:aC)(w:World)(hx:aj w (·<w.heap.size) (l.map aD.toD) x)(hl:l.length<=2000000)(hy:aB w (·<w.heap.size) (.mk 9 name n terms binds fl) y)(hk1:1<=t.kind/\t.kind<=7)(hk2:1<=u.kind/\u.kind<=7):
  Calls Tryz.prog 137 #[.slice x.a l.length x.cap,gB (.mk 9 name n terms binds fl,y)] w fun e w'=>e=.returned (.int .i64 (gI l name t u))/\Below w.heap.size w w':=by
 have cz:Below w.heap.size w (w.alloc (.cells (y.cells (.mk 9 name n terms binds fl)).toArray 64)):=(Below.refl _ _).alloc (Nat.le_refl _) _;have HCM:=Lh (fun(W:World) (hW:Below w.heap.size w W)=>wu l x 9 name n terms t u lU binds fl y W (hx.later hW hW.size) hl (hy.later hW hW.size) hk1 hk2);obtain⟨W0,hW0⟩:∃W0,W0=w.alloc (.cells (y.cells (.mk 9 name n terms binds fl)).toArray 64):=⟨_,rfl⟩;rw[<-hW0] at cz;have hby:bW W0 w.heap.size (.mk 9 name n terms binds fl) y:=by unfold bW;rw[hW0,af,if_pos rfl]
 have HB:=Lh cz;obtain⟨c0,c1,c2,c3,c4,c5⟩:=hby.cells;have HW0:=Lh hW0;clear cz hx hy hW0 hby lU hk1 hk2;simp only[gB,aC.cells,aK.val,ae.kind,ae.name,ae.n,ae.terms,ae.binds,ae.l] at HCM HW0 c0 c1 c2 c3 c4 c5 ⊢;generalize gI l name t u=res at HCM ⊢;go_enter Tryz.func137,Tryz.ntmps137;go_upto_region 1 with fail
 rw[<-HW0.out];clear HW0;go_wp2_with fail;refine(HCM.out _ HB.out).mono ?_;rintro e w1 ⟨rfl,hb1⟩;have H1:=Lh (HB.out.trans (hb1.mono HB.out.size));clear hb1 c0 c1 c2 c3 c4 c5;go_wp2_with fail;go_ret;exact⟨rfl,H1.out⟩
theorem zK(l:List aD)(x:aK)(kind:Int)(name:Bs)(n:Int)(terms:List bH)(t u:bH)(lU:terms=[t,u])(binds:List aD)(fl:List ae)(y:aC)(w:World)(hx:aj w (·<w.heap.size) (l.map aD.toD) x)(hl:l.length<=2000000)(hy:aB w (·<w.heap.size) (.mk kind name n terms binds fl) y)(hk:3<=kind/\kind<=8)(hk1:1<=t.kind/\t.kind<=7)(hk2:1<=u.kind/\u.kind<=7):
  Calls Tryz.prog 137 #[.slice x.a l.length x.cap,gB (.mk kind name n terms binds fl,y)] w fun e w'=>e=.returned (.int .i64 (gJ l kind t u))/\Below w.heap.size w w':=by
 have cz:Below w.heap.size w (w.alloc (.cells (y.cells (.mk kind name n terms binds fl)).toArray 64)):=(Below.refl _ _).alloc (Nat.le_refl _) _;have HAT:=Lh (fun(W:World)=>mH kind W);rw[show bZ kind=true by unfold bZ;simp;omega] at HAT;have HAS:=Lh (fun(W:World)=>Ch kind W hk.1 hk.2);have Gm:=Lh (fun(so:Int) (W:World) (hW:Below w.heap.size w W)=>Ck l x t so W (hx.later hW hW.size) hl hk1.1 hk1.2);have Rx:=Lh (fun(so:Int) (W:World) (hW:Below w.heap.size w W)=>Ck l x u so W (hx.later hW hW.size) hl hk2.1 hk2.2);obtain⟨W0,hW0⟩:∃W0,W0=w.alloc (.cells (y.cells (.mk kind name n terms binds fl)).toArray 64):=⟨_,rfl⟩;rw[<-hW0] at cz;have hby:bW W0 w.heap.size (.mk kind name n terms binds fl) y:=by unfold bW;rw[hW0,af,if_pos rfl]
 have HK:Hid (∀W,Below W0.heap.size W0 W->Below w.heap.size w W/\bW W w.heap.size (.mk kind name n terms binds fl) y):=Lh (fun W hW=>⟨cz.trans (hW.mono cz.size),hby.below hW⟩);have Qf:=Lh (fun(W:World) (hW:Below w.heap.size w W)=>yI (by rw[<-lU];exact hy.terms.later hW hW.size));have hlt:1<terms.length:=by rw[lU];simp
 have PU:=Lh (AO l kind t u);generalize gJ l kind t u=res at PU ⊢;have h9:(kind==9)=false:=by simp;omega
 have Xq:Hid (∀so,(if(aP l t).2≠0 then(aP l t).2 else if(aP l t).1≠so then 80 else 0)=PO (aP l t) so):=Lh (fun _=>rfl);have Xr:Hid (∀so,(if(aP l u).2≠0 then(aP l u).2 else if(aP l u).1≠so then 80 else 0)=PO (aP l u) so):=Lh (fun _=>rfl);have HT2:=Lh (fun(W:World) (hW:Below w.heap.size w W)=>Gm.out (gz kind).1 W hW);have Sv:=Lh (fun(W:World) (hW:Below w.heap.size w W)=>Rx.out (gz kind).2 W hW);rw[Xq.out] at HT2;rw[Xr.out] at Sv;clear Gm Rx Xq Xr;generalize PO (aP l t) (gz kind).1=r1 at HT2 PU;generalize PO (aP l u) (gz kind).2=r2 at Sv PU;generalize gz kind=ak at HAS HT2 Sv;obtain⟨k1,k2⟩:=ak;have HW0:=Lh hW0;clear hW0 cz hby hx hy lU hk;obtain⟨tk,tn,tm⟩:=t;obtain⟨uk,un,um⟩:=u;simp only[gB,aC.cells,aK.val,ae.kind,ae.name,ae.n,ae.terms,ae.binds,ae.l] at HAS HT2 Sv Qf HW0 ⊢;obtain⟨c0,c1,c2,c3,c4,c5⟩:=(HK.out _ (Below.refl _ _)).2.cells;simp only[ae.kind,ae.name,ae.n,ae.terms,ae.binds,ae.l] at c0 c1 c2 c3 c4 c5;obtain⟨hxa,⟨a0,a1,a2⟩,b0,b1,b2⟩:=Qf.out _ (HK.out _ (Below.refl _ _)).1;rw[hxa] at c3;have Qn:=Lh hxa;clear hxa hk1 hk2;go_enter Tryz.func137,Tryz.ntmps137;go_upto_region 1 with fail
 rw[<-HW0.out];clear HW0;go_wp2_with fail;refine(HAT.out _).mono ?_;rintro e w' ⟨rfl,hw⟩;rw[hw];clear hw w';go_wp2_with fail;refine(HAS.out _).mono ?_;rintro e w' ⟨rfl,hw⟩;rw[hw];clear hw w';go_wp2_with fail;refine(HT2.out _ (HK.out _ (Below.refl _ _)).1).mono ?_;rintro e w1 ⟨rfl,hb1⟩;have H1:=Lh hb1;clear hb1 c0 c1 c2 c3 c4 c5 a0 a1 a2 b0 b1 b2;by_cases he1:r1=0;rotate_left
 ·have HX:Hid (res=r1):=Lh (by rw[PU.out,if_pos he1]);have d1:(r1 !=0)=true:=by simpa using he1
  clear PU he1;go_wp2_with fail;go_ret;exact⟨by rw[HX.out];rfl,(HK.out _ H1.out).1⟩
 subst he1;have HX:Hid (res=r2):=Lh (by rw[PU.out,if_neg (by simp)]);clear PU;obtain⟨c0,c1,c2,c3,c4,c5⟩:=(HK.out _ H1.out).2.cells;simp only[ae.kind,ae.name,ae.n,ae.terms,ae.binds,ae.l] at c0 c1 c2 c3 c4 c5;obtain⟨_,⟨a0,a1,a2⟩,b0,b1,b2⟩:=Qf.out _ (HK.out _ H1.out).1;rw[Qn.out] at c3;go_wp2_with fail;refine(Sv.out _ (HK.out _ H1.out).1).mono ?_;rintro e w2 ⟨rfl,hb2⟩;have H2:=Lh (H1.out.trans (hb2.mono H1.out.size));clear hb2 c0 c1 c2 c3 c4 c5 a0 a1 a2 b0 b1 b2;go_wp2_with fail;go_ret;exact⟨by rw[HX.out];rfl,(HK.out _ H2.out).1⟩
theorem Ci(m:Nat):∀(f:ae) (a:List aD) (x:aK) (y:aC) (w:World),f.size<=m->f.size<=2000000->(aJ f).all aH=true->aj w (·<w.heap.size) (a.map aD.toD) x->aB w (·<w.heap.size) f y->a.length+6*f.depth<=1900000->
  Calls Tryz.prog 137 #[.slice x.a a.length x.cap,gB (f,y)] w fun e w'=>e=.returned (.int .i64 (eH a f))/\Below w.heap.size w w':=by
 induction m with
 |zero=>intro f _ _ _ _ h;have:=f.size_pos;omega
 |succ m ih=>
  rintro⟨kind,name,n,terms,binds,fl⟩ a x y w hm hs hf hx hy hd;have hf1:aH (.mk kind name n terms binds fl)=true:=by
   rw[aJ,List.all_cons,Bool.and_eq_true] at hf;exact hf.1
  rw[ae.size] at hm hs;rw[ae.depth] at hd;have hll:=di fl;cases hk:bZ kind
  ·obtain⟨ht,hb6⟩:=qJ hf1 hk;subst ht;have h9:(kind==9)=false:=by
    unfold bZ at hk;simp;intro h;subst h;simp at hk
   exact xJ kind name n binds fl (fun j hj a' x' y' w' h1 h2 h3=>ih fl[j] a' x' y' w' (by have:=aT fl j hj;omega) (by have:=aT fl j hj;omega) (sS hf j hj) h1 h2 h3) a x y w hx hy hd hb6 (by omega) h9 hk
  ·obtain⟨t,u,ht,htk⟩:=mo hf1 hk;have hkt:aA t=true/\aA u=true:=by
    rw[Bh,Bool.and_eq_true,Bool.and_eq_true] at hf1;have h:=hf1.1.2;unfold nZ at h;rw[hk,if_pos rfl,ht] at h;rw[show CR kind name [t,u]=(aA t&&aA u&&(if kind=9 then cmpL.contains name else name.isEmpty&&(t.kind==2)&&(u.kind==2))) from rfl] at h;simp only[Bool.and_eq_true] at h;exact h.1
   have e:eH a (.mk kind name n terms binds fl)=if kind=9 then gI a name t u else gJ a kind t u:=by rw[ht,sj]
   rw[e];by_cases h9:kind=9
   ·subst h9;rw[if_pos rfl];exact Cj a x name n terms t u ht binds fl y w hx (by omega) hy (lM hkt.1) (lM hkt.2)
   ·rw[if_neg h9];exact zK a x kind name n terms t u ht binds fl y w hx (by omega) hy (by unfold bZ at hk;simp at hk;omega) (lM hkt.1) (lM hkt.2)
end Go.Proofs.YtncnnbmeacpboaaGreatDoor
