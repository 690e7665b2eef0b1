/- Parts of the proof. -/
import Derived.Test.YtncnnbmeacpboaaGreatDoorQ29
import Derived.Test.YtncnnbmeacpboaaGreatDoorQ15
import Derived.Deep.CutRange
set_option maxHeartbeats 2000000
set_option maxRecDepth 100000
set_option linter.unusedVariables false
set_option linter.unusedSimpArgs false
namespace Go.Proofs.YtncnnbmeacpboaaGreatDoor
open Go.RowKit Go.aa
theorem LX(t:bH)(p:Nat)(kind:Int)(w:World)(hg:GG w)(hlen:t.name.length<=4000000)(hp:w.cell? ⟨p,0,none⟩=some (.int .i64 kind)):
  Calls Tryz.prog 159 #[.agg #[.int .i64 t.kind,.string ⟨t.name.toArray⟩,.int .i64 t.n],.pointer (some ⟨p,0,none⟩)] w (dC w (!(aA t&&(decide (kind=9)||decide (t.kind=2))))):=by
 have cz:Below w.heap.size w (w.alloc (.cells #[.int .i64 t.kind,.string ⟨t.name.toArray⟩,.int .i64 t.n] 92)):=(Below.refl _ _).alloc (Nat.le_refl _) _;have HT:=Lh (EM t _ (hg.below cz) hlen);have HB:=Lh cz;have hp':=gH (x:=.cells #[.int .i64 t.kind,.string ⟨t.name.toArray⟩,.int .i64 t.n] 92) hp;have hpl:=World.block_lt_of_cell? _ _ hp';obtain⟨b,hb⟩:∃b,b=aA t:=⟨_,rfl⟩;rw[<-hb] at HT ⊢;obtain⟨tk,name,n⟩:=t;simp only at*;have h9:(kind=9/\(kind !=9)=false)∨(¬kind=9/\(kind !=9)=true):=by by_cases h:kind=9<;>simp[h]
 clear hg cz hb hp;go_enter Tryz.func159,Tryz.ntmps159;go_wp2_with fail;refine HT.out.mono ?_;rintro e w1 ⟨rfl,hb1⟩;have HB1:=Lh hb1;have q0:w1.cell? ⟨w.heap.size,0,none⟩=some (.int .i64 tk):=cH (boxed (B:=w.heap.size+1) (by simpa using hb1) (by omega)) rfl;have q1:w1.cell? ⟨p,0,none⟩=some (.int .i64 kind):=(hb1.cell (p:=⟨p,0,none⟩) hpl).trans hp';clear hb1 hp' hpl;cases b
 ·go_wp2_with fail;go_ret;exact⟨by simp,HB.out.trans (HB1.out.mono HB.out.size)⟩
 ·rcases h9 with⟨h1,h2⟩|⟨h1,h2⟩
  ·go_wp2_with fail;go_ret;exact⟨by simp[h1],HB.out.trans (HB1.out.mono HB.out.size)⟩
  ·go_wp2_with fail;go_ret;refine⟨bT ?_,HB.out.trans (HB1.out.mono HB.out.size)⟩;simp[h1];rfl
theorem LW(b:aD)(w:World)(hg:GG w)(hlen:b.name.length<=4000000):
  Calls Tryz.prog 162 #[.agg #[.string ⟨b.name.toArray⟩,.int .i64 b.sort]] w (dC w (!(aL b))):=by
 have cz:Below w.heap.size w (w.alloc (.cells #[.string ⟨b.name.toArray⟩,.int .i64 b.sort] 94)):=(Below.refl _ _).alloc (Nat.le_refl _) _;have HT:=Lh (ve b.name _ (hg.below cz) hlen);have HB:=Lh cz;obtain⟨name,sort⟩:=b;simp only[aL] at*;generalize aR name=nm at HT ⊢;clear hg cz;have h1:(1<=sort/\decide (sort<1)=false)∨(¬1<=sort/\sort<1):=by by_cases h:1<=sort<;>simp[h]<;>omega
 go_enter Tryz.func162,Tryz.ntmps162;go_wp2_with fail;refine HT.out.mono ?_;rintro e w1 ⟨rfl,hb1⟩;have HB1:=Lh hb1;have q0:w1.cell? ⟨w.heap.size,1,none⟩=some (.int .i64 sort):=cH (boxed (B:=w.heap.size+1) (by simpa using hb1) (by omega)) rfl;clear hb1;cases nm
 ·go_wp2_with fail;go_ret;exact⟨by simp,HB.out.trans (HB1.out.mono HB.out.size)⟩
 ·rcases h1 with⟨h1,h2⟩|⟨h1,h2⟩
  ·go_wp2_with fail;go_ret;refine⟨bT ?_,HB.out.trans (HB1.out.mono HB.out.size)⟩;by_cases h3:7<sort
   ·simp[h1,h3,show ¬sort<=7 from by omega]
   ·simp[h1,h3,show sort<=7 from by omega]
  ·go_wp2_with fail;go_ret;exact⟨by simp[h1],HB.out.trans (HB1.out.mono HB.out.size)⟩
theorem IX(l:List bH)(x:aK)(q:Nat)(kind:Int)(w:World)(hx:aj w (·<w.heap.size) (l.map bH.toD) x)(hl:l.length<=2000000)(hmax:∀t∈l,t.name.length<=4000000)(hg:GG w)(hq:w.cell? ⟨q,0,none⟩=some (.int .i64 kind)):
  Calls Tryz.prog 161 #[.slice x.a l.length x.cap,.func (.func 159) #[] #[.pointer (some ⟨q,0,none⟩)]] w fun e w'=>e=.returned (.bool (!(l.all (fun t=>aA t&&(decide (kind=9)||decide (t.kind=2))))))/\Below w.heap.size w w':=by
 obtain⟨g1,_,_,g4,_⟩:=hx.flat bH.bI;rw[show(!(l.all (fun t=>aA t&&(decide (kind=9)||decide (t.kind=2)))))=l.any (fun t=>!(aA t&&(decide (kind=9)||decide (t.kind=2)))) from by rw[List.all_eq_not_any_not,Bool.not_not],<-iq];refine rJ 159 #[.pointer (some ⟨q,0,none⟩)] (fun j=>(l[j]?.map (fun t=>!(aA t&&(decide (kind=9)||decide (t.kind=2))))).getD false) l.length (fun j=>.int .i64 ((l[j]?.map (·.kind)).getD 0)) (fun j=>.string ⟨(l[j]?.map (·.name.toArray)).getD #[]⟩) (fun j=>.int .i64 ((l[j]?.map (·.n)).getD 0)) x.a x.b x.o x.cap w g1 ?_ ?_ (fun _ _=>enters_of Tryz.func159 (by kernel_rfl) rfl _ _) hl
 ·intro j hj;have h:=g4.three j hj rfl;rw[List.getElem?_eq_getElem hj];exact h
 ·intro j hj W hW;rw[List.getElem?_eq_getElem hj];exact LX l[j] q kind W (hg.below hW) (hmax _ (List.getElem_mem hj)) ((hW.cell (World.block_lt_of_cell? w _ hq)).trans hq)
theorem Gv(l:List aD)(x:aK)(w:World)(hx:aj w (·<w.heap.size) (l.map aD.toD) x)(hl:l.length<=2000000)(hmax:∀t∈l,t.name.length<=4000000)(hg:GG w):
  Calls Tryz.prog 113 #[.slice x.a l.length x.cap,.func (.func 162) #[] #[]] w fun e w'=>e=.returned (.bool (!(l.all aL)))/\Below w.heap.size w w':=by
 obtain⟨g1,_,_,g4,_⟩:=hx.flat aD.bI;rw[show(!(l.all aL))=l.any (fun b=>!(aL b)) from by rw[List.all_eq_not_any_not,Bool.not_not],<-iq];refine lZ 162 #[] (fun j=>(l[j]?.map (fun b=>!(aL b))).getD false) l.length (fun j=>.string ⟨(l[j]?.map (·.name.toArray)).getD #[]⟩) (fun j=>.int .i64 ((l[j]?.map (·.sort)).getD 0)) x.a x.b x.o x.cap w g1 ?_ ?_ (fun _ _=>enters_of Tryz.func162 (by kernel_rfl) rfl _ _) hl
 ·intro j hj;have h:=g4.two j hj rfl;rw[List.getElem?_eq_getElem hj];exact h
 ·intro j hj W hW;rw[List.getElem?_eq_getElem hj];exact LW l[j] W (hg.below hW) (hmax _ (List.getElem_mem hj))
theorem BU:∀kn n2 z3 A z4 Q z5 C z6 n9:Bool,
  ((kn&&!n2&&(!z3||A)&&(!z4||Q)&&(!z5||C)&&(z6||!n9))=false/\(kn=false∨(kn=true/\n2=true)∨(kn=true/\n2=false/\z3=true/\A=false)∨
   (kn=true/\n2=false/\(z3=false∨(z3=true/\A=true))/\z4=true/\Q=false)∨
   (kn=true/\n2=false/\(z3=false∨(z3=true/\A=true))/\(z4=false∨(z4=true/\Q=true))/\z5=true/\C=false)∨
   (kn=true/\n2=false/\(z3=false∨(z3=true/\A=true))/\(z4=false∨(z4=true/\Q=true))/\(z5=false∨(z5=true/\C=true))/\z6=false/\n9=true)))∨
  ((kn&&!n2&&(!z3||A)&&(!z4||Q)&&(!z5||C)&&(z6||!n9))=true/\kn=true/\n2=false/\(z3=false∨(z3=true/\A=true))/\(z4=false∨(z4=true/\Q=true))/\(z5=false∨(z5=true/\C=true))/\(z6=true∨(z6=false/\n9=false))):=by
 intro kn n2 z3 A z4 Q z5 C z6 n9;have key:∀z a:Bool,(z=true/\a=false/\(!z||a)=false)∨((!z||a)=true/\(z=false∨(z=true/\a=true))):=by decide
 cases kn with
 |false=>exact .inl ⟨by simp,.inl rfl⟩
 |true=>
  cases n2 with
  |true=>exact .inl ⟨by simp,.inr (.inl ⟨rfl,rfl⟩)⟩
  |false=>
   rcases key z3 A with⟨h1,h2,e3⟩|⟨e3,p3⟩
   ·exact .inl ⟨by simp[e3],.inr (.inr (.inl ⟨rfl,rfl,h1,h2⟩))⟩
   rcases key z4 Q with⟨h1,h2,e4⟩|⟨e4,p4⟩
   ·exact .inl ⟨by simp[e4],.inr (.inr (.inr (.inl ⟨rfl,rfl,p3,h1,h2⟩)))⟩
   rcases key z5 C with⟨h1,h2,e5⟩|⟨e5,p5⟩
   ·exact .inl ⟨by simp[e5],.inr (.inr (.inr (.inr (.inl ⟨rfl,rfl,p3,p4,h1,h2⟩))))⟩
   rcases key (!z6) (!n9) with⟨h1,h2,e6⟩|⟨e6,p6⟩
   ·exact .inl ⟨by rw[Bool.not_not] at e6;simp[e6],.inr (.inr (.inr (.inr (.inr ⟨rfl,rfl,p3,p4,p5,by simpa using h1,by simpa using h2⟩))))⟩
   ·rw[Bool.not_not] at e6;exact .inr ⟨by simp only[e3,e4,e5,e6];rfl,rfl,rfl,p3,p4,p5,by simpa using p6⟩
theorem BB{α:Type}{l:List α}(h:(((l.length:Nat):Int) !=0)=false):l=[]:=by
 cases l with
 |nil=>rfl
 |cons c r=>simp at h;omega
theorem int_eq{a b:Int}(h:(a !=b)=false):a=b:=by simpa using h
theorem nat_eq{a b:Nat}(h:((a:Int) !=(b:Int))=false):b=a:=by have:=int_eq h;omega
theorem Qv{s:Bs}(h:s.isEmpty=true):s=[]:=List.isEmpty_iff.1 h
theorem Ia(kind:Int)(name:Bs):((kind==9)=true/\(BH name).isEmpty=true/\(kind=9/\cmpL.contains name=false))∨
  (((kind==9)=false∨((kind==9)=true/\(BH name).isEmpty=false))/\¬(kind=9/\cmpL.contains name=false)):=by
 have h:(BH name).isEmpty=!(cmpL.contains name):=by
  unfold BH cmpL;by_cases h1:name=[61]
  ·simp[h1]
  by_cases h2:name=[33,61]
  ·simp[h2]
  by_cases h3:name=[60]
  ·simp[h3]
  by_cases h4:name=[62,61]
  ·simp[h4]
  by_cases h5:name=[60,61]
  ·simp[h5]
  by_cases h6:name=[62]
  ·simp[h6]
  simp[h1,h2,h3,h4,h5,h6]
 rw[h];by_cases hk:kind=9
 ·cases hc:cmpL.contains name
  ·exact .inl ⟨by simpa using hk,rfl,hk,rfl⟩
  ·exact .inr ⟨.inr ⟨by simpa using hk,rfl⟩,fun h=>by cases h.2⟩
 ·exact .inr ⟨.inl (by simpa using hk),fun h=>hk h.1⟩
theorem xH(kind:Int)(name:Bs)(n:Int)(terms:List bH)(binds:List aD)(fl:List ae):oJ (.mk kind name n terms binds fl)=
  ((dW kind).isSome&&!(((fl.length:Nat):Int) !=(((dW kind).getD 0:Nat):Int))&&(!(((terms.length:Nat):Int) !=0)||bZ kind)&&(!(((binds.length:Nat):Int) !=0)||cZ kind)&&(!(n !=0)||dL kind)&&(name.isEmpty||!(kind !=9))):=by
 rw[ll];congr 1;congr 1;congr 1;congr 1
 ·cases dW kind with
  |none=>rfl
  |some m=>
   by_cases h:fl.length=m
   ·subst h;simp
   ·have h2:((fl.length:Int) !=(m:Int))=true:=by simp;omega
    have h3:(some m==some fl.length)=false:=by simp;omega
    simp only[Option.isSome_some,Option.getD_some,h2,h3];rfl
 ·cases terms with
  |nil=>rfl
  |cons c r=>
   have h2:((((c::r).length:Nat):Int) !=0)=true:=by simp;omega
   rw[h2];rfl
 ·cases binds with
  |nil=>rfl
  |cons c r=>
   have h2:((((c::r).length:Nat):Int) !=0)=true:=by simp;omega
   rw[h2];rfl
 ·by_cases h:n=0<;>simp[h]
 ·by_cases h:kind=9<;>simp[h]
theorem Dw(f:ae)(x:aC)(w:World)(hx:aB w (·<w.heap.size) f x)(hg:GG w)(hsm:f.terms.length<=2000000/\f.binds.length<=2000000/\f.l.length<=2000000/\f.name.length<=4000000/\(∀t∈f.terms,t.name.length<=4000000)/\(∀b∈f.binds,b.name.length<=4000000)):
  Calls Tryz.prog 117 #[gB (f,x)] w fun e w'=>e=.returned (.bool (aH f))/\Below w.heap.size w w':=by
 have cz:Below w.heap.size w (w.alloc (.cells (x.cells f).toArray 64)):=(Below.refl _ _).alloc (Nat.le_refl _) _;have hg1:=hg.below cz;have hx1:=hx.later cz (C:=(w.alloc (.cells (x.cells f).toArray 64)).heap.size) (by simp);have HB:=Lh (aI cz (aI hg1 hx1));have hki:=hx.kind;clear hg hx cz hx1;obtain⟨kind,name,n,terms,binds,fl⟩:=f;simp only[gB,aC.cells,aK.val,ae.kind,ae.name,ae.n,ae.terms,ae.binds,ae.l] at*;obtain⟨b,o,q1,q2,q3⟩:=hg1.arity;have hlk:=q3 _ q2 (.int .i64 kind) ⟨_,hki,rfl⟩;simp only[rT] at hlk;obtain⟨b2,o2,r1,r2,r3⟩:=hg1.zm;have hls:=r3 _ r2 (.string ⟨name.toArray⟩) ⟨_,Nat.le_trans hsm.2.2.2.1 (by decide),rfl⟩;simp only[oF] at hls;clear q2 q3 r2 r3 hg1 hki;obtain⟨pv,hpv⟩:∃pv,pv=oJ (.mk kind name n terms binds fl):=⟨_,rfl⟩;have hpb:=xH kind name n terms binds fl;rw[<-hpv] at hpb;have hall:=BU (dW kind).isSome (((fl.length:Nat):Int) !=(((dW kind).getD 0:Nat):Int)) (((terms.length:Nat):Int) !=0) (bZ kind) (((binds.length:Nat):Int) !=0) (cZ kind) (n !=0) (dL kind) (name.isEmpty) (kind !=9);rw[<-hpb] at hall;have Ve:=Lh hpv;have wV:=Lh hall;clear hpb hall hpv;have wX:=Lh (jD kind name n terms binds fl);generalize (dW kind).getD 0=ar at hlk wV;generalize (dW kind).isSome=kn at hlk wV;go_enter Tryz.func117,Tryz.ntmps117;go_upto_region 2 with fail
 go_cut [67] from 14 to 67 (fun v w'=>v=.bool (!pv)/\w'=w.alloc (.cells #[.int .i64 kind,.string ⟨name.toArray⟩,.int .i64 n,.slice x.t.a terms.length x.t.cap,.slice x.b.a binds.length x.b.cap,.slice x.l.a fl.length x.l.cap] 64))
 case first=>
  rcases wV.out with⟨hp,rfl|⟨rfl,h2⟩|⟨rfl,h2,h3,h3'⟩|⟨rfl,h2,h3|⟨h3,h3'⟩,h4,h4'⟩|⟨rfl,h2,h3|⟨h3,h3'⟩,h4|⟨h4,h4'⟩,h5,h5'⟩|⟨rfl,h2,h3|⟨h3,h3'⟩,h4|⟨h4,h4'⟩,h5|⟨h5,h5'⟩,h6,h6'⟩⟩|⟨hp,rfl,h2,h3|⟨h3,h3'⟩,h4|⟨h4,h4'⟩,h5|⟨h5,h5'⟩,h6|⟨h6,h6'⟩⟩
  all_goals
   clear wV Ve wX HB hsm;subst hp
   try(obtain rfl:=nat_eq h2;clear h2)
   try(obtain rfl:=BB h3;clear h3)
   try(obtain rfl:=BB h4;clear h4)
   try(obtain rfl:=int_eq h5;clear h5)
   try(obtain rfl:=int_eq h6';clear h6')
   try(obtain rfl:=Qv h6;clear h6)
   go_wp2_with (first|(go_at_call 156;refine(AP _ _).mono ?_;rintro e w' ⟨rfl,rfl⟩)|(go_at_call 157;refine(rV _ _).mono ?_;rintro e w' ⟨rfl,rfl⟩)|(go_at_call 158;refine(Bd _ _).mono ?_;rintro e w' ⟨rfl,rfl⟩));go_meet;exact⟨rfl,rfl⟩
 case rest=>
  obtain⟨rfl,rfl⟩:=hcut;cases pv
  ·clear wV;go_wp2_with fail;go_ret;exact⟨bT (by rw[wX.out,<-Ve.out];rfl),HB.out.1⟩
  ·have hF:aH (.mk kind name n terms binds fl)=(if kind=9/\cmpL.contains name=false then false
    else if bZ kind then decide (terms.length=2)&&terms.all (fun t=>aA t&&(decide (kind=9)||decide (t.kind=2)))
    else if cZ kind then decide (0<binds.length)&&decide (binds.length<=6)&&binds.all aL&&dn n
    else true):=by rw[wX.out,<-Ve.out,Bool.true_and]
   have hst:=Ia kind name;have Pq:=Lh (IX terms x.t w.heap.size kind _ HB.out.2.2.terms hsm.1 hsm.2.2.2.2.1 HB.out.2.1 (cH (boxed (B:=w.heap.size+1) (Below.refl _ _) (by omega)) rfl));have zY:=Lh (Gv binds x.b _ HB.out.2.2.binds hsm.2.1 hsm.2.2.2.2.2 HB.out.2.1);obtain⟨A,hA⟩:∃A,A=bZ kind:=⟨_,rfl⟩;obtain⟨Q,hQ⟩:∃Q,Q=cZ kind:=⟨_,rfl⟩;obtain⟨ta,uh⟩:∃ta,ta=terms.all (fun t=>aA t&&(decide (kind=9)||decide (t.kind=2))):=⟨_,rfl⟩;obtain⟨ba,QI⟩:∃ba,ba=binds.all aL:=⟨_,rfl⟩;have HA:Hid (∀W,Calls Tryz.prog 156 #[.int .i64 kind] W fun e w'=>e=.returned (.bool A)/\W=w'):=Lh (fun W=>by rw[hA];exact AP _ _);have HQ:Hid (∀W,Calls Tryz.prog 157 #[.int .i64 kind] W fun e w'=>e=.returned (.bool Q)/\W=w'):=Lh (fun W=>by rw[hQ];exact rV _ _);rw[<-hA,<-hQ,<-uh,<-QI] at hF;rw[<-uh] at Pq;rw[<-QI] at zY;have HF:=Lh hF;clear wV hF hA hQ uh QI hsm;have hb0:((0:Int)<(binds.length:Int)/\0<binds.length)∨(decide ((0:Int)<(binds.length:Int))=false/\¬0<binds.length):=by
    by_cases h:0<binds.length
    ·exact .inl ⟨by omega,h⟩
    ·exact .inr ⟨decide_eq_false (by omega),h⟩
   have hb6:((binds.length:Int)<=6/\binds.length<=6)∨(decide ((binds.length:Int)<=6)=false/\¬binds.length<=6):=by
    by_cases h:binds.length<=6
    ·exact .inl ⟨by omega,h⟩
    ·exact .inr ⟨by simp;omega,h⟩
   have ht2:(((terms.length:Int)==2)=true/\terms.length=2)∨(((terms.length:Int)==2)=false/\¬terms.length=2):=by
    by_cases h:terms.length=2
    ·exact .inl ⟨by simp;omega,h⟩
    ·exact .inr ⟨by simp;omega,h⟩
   rcases hst with⟨k1,k2,k3⟩|⟨k1|⟨k1,k2⟩,k3⟩
   ·clear hb0 hb6 ht2 Pq zY HA HQ;have HK:=Lh k3;clear k3;go_wp2_with fail;go_ret;exact⟨bT (by rw[HF.out,if_pos HK.out]),HB.out.1⟩
   all_goals
    have HK:=Lh k3;clear k3;rw[if_neg HK.out] at HF;cases A
    ·cases Q
     ·clear hb0 hb6 ht2 Pq zY;go_wp2_with (first|(go_at_call 156;refine(HA.out _).mono ?_;rintro e w' ⟨rfl,rfl⟩)|(go_at_call 157;refine(HQ.out _).mono ?_;rintro e w' ⟨rfl,rfl⟩));go_ret;exact⟨bT (by rw[HF.out];rfl),HB.out.1⟩
     ·clear ht2 Pq;rcases hb0 with⟨b1,b2⟩|⟨b1,b2⟩
      ·rcases hb6 with⟨b3,b4⟩|⟨b3,b4⟩
       ·go_wp2_with (first|(go_at_call 156;refine(HA.out _).mono ?_;rintro e w' ⟨rfl,rfl⟩)|(go_at_call 157;refine(HQ.out _).mono ?_;rintro e w' ⟨rfl,rfl⟩));refine zY.out.mono ?_;rintro e w2 ⟨rfl,hb2⟩;have hx2:=HB.out.2.2;have q2:w2.cell? ⟨w.heap.size,2,none⟩=some (.int .i64 n):=cH (boxed (B:=w.heap.size+1) (by simpa using hb2) (by omega)) rfl;have HB2:=Lh hb2;clear hb2 hx2;cases ba
        ·go_wp2_with fail;go_ret;exact⟨bT (by rw[HF.out];simp),HB.out.1.trans (HB2.out.mono HB.out.1.size)⟩
        ·go_wp2_with (go_at_call 164;refine(vW _ _).mono ?_;rintro e w' ⟨rfl,rfl⟩);go_ret;exact⟨bT (by rw[HF.out];simp[b2,b4]),HB.out.1.trans (HB2.out.mono HB.out.1.size)⟩
       ·clear zY;go_wp2_with (first|(go_at_call 156;refine(HA.out _).mono ?_;rintro e w' ⟨rfl,rfl⟩)|(go_at_call 157;refine(HQ.out _).mono ?_;rintro e w' ⟨rfl,rfl⟩));go_ret;exact⟨bT (by rw[HF.out];simp[b4]),HB.out.1⟩
      ·clear zY hb6;go_wp2_with (first|(go_at_call 156;refine(HA.out _).mono ?_;rintro e w' ⟨rfl,rfl⟩)|(go_at_call 157;refine(HQ.out _).mono ?_;rintro e w' ⟨rfl,rfl⟩));go_ret;exact⟨bT (by rw[HF.out];simp[b2]),HB.out.1⟩
    ·clear hb0 hb6 zY;rcases ht2 with⟨t1,t2⟩|⟨t1,t2⟩
     ·have HT2:=Lh t2;clear t2;go_wp2_with (first|(go_at_call 156;refine(HA.out _).mono ?_;rintro e w' ⟨rfl,rfl⟩)|(go_at_call 157;refine(HQ.out _).mono ?_;rintro e w' ⟨rfl,rfl⟩));refine Pq.out.mono ?_;rintro e w2 ⟨rfl,hb2⟩;have HB2:=Lh hb2;clear hb2;go_wp2_with fail;go_ret;exact⟨bT (by rw[HF.out];simp[HT2.out]),HB.out.1.trans (HB2.out.mono HB.out.1.size)⟩
     ·clear Pq;go_wp2_with (first|(go_at_call 156;refine(HA.out _).mono ?_;rintro e w' ⟨rfl,rfl⟩)|(go_at_call 157;refine(HQ.out _).mono ?_;rintro e w' ⟨rfl,rfl⟩));go_ret;exact⟨bT (by rw[HF.out];simp[t2]),HB.out.1⟩
end Go.Proofs.YtncnnbmeacpboaaGreatDoor
