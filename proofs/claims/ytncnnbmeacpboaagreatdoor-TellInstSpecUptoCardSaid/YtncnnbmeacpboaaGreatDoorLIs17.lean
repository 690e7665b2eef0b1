/- Parts of the proof. -/
import Derived.Test.YtncnnbmeacpboaaGreatDoorLIs12
import Derived.Test.YtncnnbmeacpboaaGreatDoorLIs2
import Derived.Test.YtncnnbmeacpboaaGreatDoorLIs4
import Derived.Test.YtncnnbmeacpboaaGreatDoorLIs15
set_option maxHeartbeats 4000000
set_option maxRecDepth 100000
set_option linter.unusedVariables false
set_option linter.unusedSimpArgs false
namespace Go.aa
open Go.RowKit
variable {w0 w w' W W':World} {P sz lo C:Nat} {e:TypeId} {v:Value} {xs:List D} {S:Nat->Prop} {x:aK}
def Am:List Tok->Prop
 |[]=>False
 |[t]=>t.kind=4
 |_::u::r=>Am (u::r)
theorem Am.cons{l:List Tok}(h:Am l):∃t r,l=t::r:=by
 cases l with
 |nil=>exact h.elim
 |cons t r=>exact⟨t,r,rfl⟩
end Go.aa
namespace Go.Proofs.YtncnnbmeacpboaaGreatDoor
open Go.RowKit Go.aa
attribute [local go_sem] Oper.semAt_some
variable {w0 w w' W W':World} {P sz lo C:Nat} {e:TypeId} {v:Value} {xs:List D} {S:Nat->Prop} {x:aK}
def GB(w0 w:World):Prop:=GS w0/\Below w0.heap.size w0 w
theorem GB.gs(h:GB w0 w):GS w:=h.1.below h.2
theorem GB.mod(h:GB w0 w)(hP:w0.heap.size<=P)(hm:aa.Mod (fun k=>k=P) w w'):GB w0 w':=⟨h.1,h.2.trans (hm.below h.2.size (fun k hk=>by omega))⟩
theorem GB.below(h:GB w0 w)(hb:Below w.heap.size w w'):GB w0 w':=⟨h.1,h.2.trans (hb.mono h.2.size)⟩
end Go.Proofs.YtncnnbmeacpboaaGreatDoor
namespace Go.aa
open Go.RowKit
variable {w0 w w' W W':World} {P sz lo C:Nat} {e:TypeId} {v:Value} {xs:List D} {S:Nat->Prop} {x:aK}
structure tN (w:World) (e:TypeId) (sz lo:Nat) (v:Value) (xs:List D):Prop where
 own:∃q,Own w (fun _=>False) e sz v q xs/\∀k,q=some k->lo<=k
theorem tN.nil(w:World)(e:TypeId)(sz lo:Nat):tN w e sz lo (.slice none 0 0) []:=⟨none,Own.nil _ _ _ _ (fun _ h=>h.elim),fun _ h=>by cases h⟩
theorem tN.form{w:World}{e:TypeId}{sz lo:Nat}{v:Value}{xs:List D}(h:tN w e sz lo v xs):∃a cap,v=.slice a xs.length cap:=by
 obtain⟨q,h,_⟩:=h.own;obtain⟨a,cap,h⟩:=Own.form h;exact⟨a,cap,h⟩
theorem tN.kept{w w':World}{e:TypeId}{sz lo P:Nat}{v:Value}{xs:List D}(h:tN w e sz lo v xs)(hP:P<lo)(hm:Mod (fun k=>k=P) w w'):tN w' e sz lo v xs:=by
 obtain⟨q,h,hq⟩:=h.own;exact⟨q,h.kept hm (fun _ h=>h.elim) (fun k hk e=>by have:=hq k hk;omega),hq⟩
theorem tN.below{w w':World}{e:TypeId}{sz lo:Nat}{v:Value}{xs:List D}(h:tN w e sz lo v xs)(hb:Below w.heap.size w w'):tN w' e sz lo v xs:=by
 obtain⟨q,h,hq⟩:=h.own;exact⟨q,h.below hb,hq⟩
theorem tN.sl(h:tN w e sz lo v xs)(hw:bO xs=xs.length*sz):∃z:aK,v=z.val xs.length/\aj w (fun k=>lo<=k/\k<w.heap.size) xs z:=by
 obtain⟨q,h,hq⟩:=h.own;have:=h.read (G:=fun k=>lo<=k/\k<w.heap.size) (fun _ h=>h.elim) (fun k hk=>⟨hq k hk,h.fQ hk⟩) hw;obtain⟨z,hz,hs⟩:=bg.cO.1 this;exact⟨z,by simpa using hz,hs⟩
theorem aB.D6{f:ae}{x:aC}(h:aB w (Fr lo w) f x)(hm:Mod S w w')(hS:∀k,S k->k<lo):aB w' (Fr lo w') f x:=
 (h.agree (hm.agree (fun k hk=>⟨hk.2,fun hs=>by have:=hS k hs;have:=hk.1;omega⟩))).mono (fun k hk=>⟨hk.1,Nat.lt_of_lt_of_le hk.2 hm.size⟩)
theorem aj.D6{l:List D}(h:aj w (Fr lo w) l x)(hm:Mod S w w')(hS:∀k,S k->k<lo):aj w' (Fr lo w') l x:=
 (h.agree (hm.agree (fun k hk=>⟨hk.2,fun hs=>by have:=hS k hs;have:=hk.1;omega⟩))).mono (fun k hk=>⟨hk.1,Nat.lt_of_lt_of_le hk.2 hm.size⟩)
end Go.aa
namespace Go.Proofs.YtncnnbmeacpboaaGreatDoor
open Go.RowKit Go.aa
attribute [local go_sem] Oper.semAt_some
variable {w0 w w' W W':World} {P sz lo C:Nat} {e:TypeId} {v:Value} {xs:List D} {S:Nat->Prop} {x:aK}
theorem gV.D6{lo:Nat}{w w':World}{r:bq}{x:iG}{S:Nat->Prop}(h:gV w (Fr lo w) r x)(hm:aa.Mod S w w')(hS:∀k,S k->k<lo):gV w' (Fr lo w') r x:=
 ⟨h.name,h.weight,h.each.D6 hm hS,h.body.D6 hm hS⟩
end Go.Proofs.YtncnnbmeacpboaaGreatDoor
namespace Go.aa
open Go.RowKit
variable {w0 w w' W W':World} {P sz lo C:Nat} {e:TypeId} {v:Value} {xs:List D} {S:Nat->Prop} {x:aK}
theorem Am.app{n:Nat}:∀l:List Tok,Am (l++[⟨4,[],n⟩])
 |[]=>rfl
 |[t]=>by show Am [⟨4,[],n⟩];rfl
 |t::u::r=>by
  have:=Am.app (n:=n) (u::r);simpa[Am] using this
end Go.aa
namespace Go.Proofs.YtncnnbmeacpboaaGreatDoor
open Go.RowKit Go.aa
attribute [local go_sem] Oper.semAt_some
variable {w0 w w' W W':World} {P sz lo C:Nat} {e:TypeId} {v:Value} {xs:List D} {S:Nat->Prop} {x:aK}
def De(C lo:Nat)(R:Rs ae)(W:World):Prop:=∀f r,R=.ok f r->∃x:aC,W.heap[C]?=some (.cells #[.int .i64 f.kind,.string ⟨f.name.toArray⟩,.int .i64 f.n,.slice x.t.a f.terms.length x.t.cap,.slice x.b.a f.binds.length x.b.cap,.slice x.l.a f.l.length x.l.cap] 64 (0,0))/\aB W (Fr lo W) f x
theorem De.kept{R:Rs ae}(h:De C lo R W)(hm:aa.Mod S W W')(hC:¬S C)(hS:∀k,S k->k<lo):De C lo R W':=fun f r hR=>by
 obtain⟨x,h1,h2⟩:=h f r hR;exact⟨x,av h1 hm hC,h2.D6 hm hS⟩
end Go.Proofs.YtncnnbmeacpboaaGreatDoor
namespace Go.Proofs.YtncnnbmeacpboaaGreatDoor
open Go.RowKit Go.aa
variable {w0 w w' W W':World} {P sz lo C:Nat} {e:TypeId} {v:Value} {xs:List D} {S:Nat->Prop} {x:aK}
def Fs(l:List Tok):Prop:=∀t∈l,t.text.length<=16384
theorem Fs.XK{l r:List Tok}(h:Fs l)(e:pJ l r):Fs r:=by
 obtain⟨p,_,rfl⟩:=e;exact fun t ht=>h t (List.mem_append_right _ ht)
def Fit(f:ae)(l r:List Tok):Prop:=Fs l->f.size+r.length<=l.length/\∀g∈aJ f,jo g
end Go.Proofs.YtncnnbmeacpboaaGreatDoor
namespace Go.aa
open Go.RowKit
variable {w0 w w' W W':World} {P sz lo C:Nat} {e:TypeId} {v:Value} {xs:List D} {S:Nat->Prop} {x:aK}
def yU(w:World)(e:TypeId)(sz lo hi:Nat)(v:Value)(xs:List D):Prop:=∃r,aa.Own w (fun k=>lo<=k/\k<w.heap.size/\r≠some k) e sz v r xs/\∀k,r=some k->lo<=k/\k<hi
theorem yU.nil(w:World)(e:TypeId)(sz lo hi:Nat):yU w e sz lo hi (.slice none 0 0) []:=⟨none,Own.nil _ _ _ _ (fun k h=>h.2.1),fun _ h=>by cases h⟩
theorem yU.form{w:World}{e:TypeId}{sz lo hi:Nat}{v:Value}{xs:List D}(h:yU w e sz lo hi v xs):∃a cap,v=.slice a xs.length cap:=by
 obtain⟨q,h,_⟩:=h;obtain⟨a,cap,h⟩:=Own.form h;exact⟨a,cap,h⟩
theorem yU.kept{w w':World}{e:TypeId}{sz lo hi:Nat}{v:Value}{xs:List D}{S:Nat->Prop}(h:yU w e sz lo hi v xs)(hm:Mod S w w')(hS:∀k,S k->k<lo):yU w' e sz lo hi v xs:=by
 obtain⟨r,h1,h2⟩:=h;have h3:=h1.kept hm (fun k hk hs=>by have:=hS k hs;omega) (fun k hk hs=>by have:=hS k hs;have:=h2 k hk;omega);exact⟨r,h3.widen (fun k hk=>⟨hk.1,Nat.lt_of_lt_of_le hk.2.1 hm.size,hk.2.2⟩) (fun k hk hg=>hg.2.2 hk) (fun k hk=>hk.2.1),h2⟩
theorem yU.sl{hi:Nat}(h:yU w e sz lo hi v xs)(hw:bO xs=xs.length*sz):∃z:aK,v=z.val xs.length/\aj w (Fr lo w) xs z:=by
 obtain⟨r,h,hr⟩:=h;have:=h.read (G:=Fr lo w) (fun k hk=>⟨hk.1,hk.2.1⟩) (fun k hk=>⟨(hr k hk).1,h.fQ hk⟩) hw;obtain⟨z,hz,hs⟩:=bg.cO.1 this;exact⟨z,by simpa using hz,hs⟩
end Go.aa
namespace Go.Proofs.YtncnnbmeacpboaaGreatDoor
open Go.RowKit Go.aa
attribute [local go_sem] Oper.semAt_some
variable {w0 w w' W W':World} {P sz lo C:Nat} {e:TypeId} {v:Value} {xs:List D} {S:Nat->Prop} {x:aK}
def yY(C lo:Nat)(R:Rs (List bq))(W:World):Prop:=∀l r,R=.ok l r->∃z:aK,W.heap[C]?=some (.cells #[.slice z.a l.length z.cap] 29 (0,0))/\aj W (Fr lo W) (l.map bq.toD) z
theorem aj.D6(h:aj w (Fr lo w) xs x)(hm:aa.Mod S w w')(hS:∀k,S k->k<lo):aj w' (Fr lo w') xs x:=
 (h.agree (hm.agree (fun k hk=>⟨hk.2,fun hs=>by have:=hS k hs;have:=hk.1;omega⟩))).mono (fun k hk=>⟨hk.1,Nat.lt_of_lt_of_le hk.2 hm.size⟩)
theorem yY.kept{R:Rs (List bq)}(h:yY C lo R W)(hm:aa.Mod S W W')(hC:¬S C)(hS:∀k,S k->k<lo):yY C lo R W':=fun l r hR=>by
 obtain⟨z,h1,h2⟩:=h l r hR;exact⟨z,av h1 hm hC,aj.D6 h2 hm hS⟩
theorem iB.low{l:Bs}(h:iB w P l)(hm:aa.Mod (fun k=>k=C) w w')(hC:C<P):iB w' P l:=by
 obtain⟨p,v,h1,h2,h3,h4⟩:=h;exact⟨p,v,h1,av h2 hm (by omega),oK h3 (fun k hk=>hm.block k (h3.lt k hk).2 (by have:=(h3.lt k hk).1;omega)),h4⟩
end Go.Proofs.YtncnnbmeacpboaaGreatDoor
namespace Go.aa
variable {w0 w w' W W':World} {P sz lo C:Nat} {e:TypeId} {v:Value} {xs:List D} {S:Nat->Prop} {x:aK}
theorem y7(x y:Bs):((⟨x.toArray⟩:ByteArray)++⟨y.toArray⟩)=⟨(x++y).toArray⟩:=by
 apply ByteArray.ext;rw[ByteArray.data_append];simp
theorem y8:∀(m n:Nat),n<=m->(Lib.decDigits n).length<=n+1
 |m,n,hm=>by
  by_cases h:n<10
  ·rw[Lib.decDigits_one h];simp
  ·rw[Lib.decDigits,dif_neg h];obtain⟨k,rfl⟩:∃k,m=k+1:=⟨m-1,by omega⟩;have:=y8 k (n/10) (by omega);simp only[List.length_append,List.length_cons,List.length_nil];omega
end Go.aa
namespace Go.Proofs.YtncnnbmeacpboaaGreatDoor
open Go.RowKit Go.aa
attribute [local go_sem] Oper.semAt_some y7
variable {w0 w w' W W':World} {P sz lo C:Nat} {e:TypeId} {v:Value} {xs:List D} {S:Nat->Prop} {x:aK}
theorem one_byte(W:World)(n:Nat)(hn:n<10):(convert 71 9 (.slice (some ⟨W.heap.size,0,none⟩) 1 1)).run Tryz.prog (W.alloc (.cells #[.int .u8 (48+(n:Int))] 5))=.ok (.string ⟨(Lib.decDigits n).toArray⟩) (W.alloc (.cells #[.int .u8 (48+(n:Int))] 5)):=by
 rw[Lib.decDigits_one hn];have h:SB (W.alloc (.cells #[.int .u8 (48+(n:Int))] 5)) (W.alloc (.cells #[.int .u8 (48+(n:Int))] 5)).heap.size [UInt8.ofNat (48+n)] (some ⟨W.heap.size,0,none⟩) W.heap.size 0:=by
  refine⟨fun _=>⟨rfl,(gS (heap_alloc_new W (.cells #[.int .u8 (48+(n:Int))] 5))).1⟩,fun i hi=>?_⟩;have h0:i=0:=by simp at hi;omega
  subst h0;have hk:=cH (i:=0) (heap_alloc_new W (.cells #[.int .u8 (48+(n:Int))] 5)) (v:=.int .u8 (48+(n:Int))) rfl;rw[show 0+0=0 from rfl,hk];have:(UInt8.ofNat (48+n)).toNat=48+n:=by simp;omega
  simp only[List.getElem_cons_zero,this];rfl
 exact h.text (P:=Tryz.prog) 71 5 9 Tryz.underlying71 Tryz.underlying5 Tryz.underlying9 1
theorem jN:∀(m n:Nat) (w:World),n<=m->n<=9223372036854775807->Calls Tryz.prog 87 #[.int .i64 (n:Int)] w fun e w'=>e=.returned (.string ⟨(Lib.decDigits n).toArray⟩)/\Below w.heap.size w w'
 |m,n,w,hm,hn=>by
  by_cases h10:n<10
  ·have h1:decide ((n:Int)<10)=true:=by simp;omega
   have h2:IntKind.u8.wrap (n:Int)=(n:Int):=by
    unfold IntKind.wrap;simp[IntKind.bits,IntKind.signed];omega
   have h3:IntKind.u8.wrap (48+(n:Int))=48+(n:Int):=by
    unfold IntKind.wrap;simp[IntKind.bits,IntKind.signed];omega
   have hcv:=one_byte w n h10;have hb:=aG w (.cells #[.int .u8 (48+(n:Int))] 5);clear h10 hm hn;go_enter Tryz.func87,Tryz.ntmps87;go_wp2_with fail;go_ret;exact⟨rfl,hb⟩
  ·obtain⟨k,rfl⟩:∃k,m=k+1:=⟨m-1,by omega⟩;have h1:decide ((n:Int)<10)=false:=by simp;omega
   have hq:((n:Int).tdiv 10)=((n/10:Nat):Int):=rfl;have hr:((n:Int).tmod 10)=((n % 10:Nat):Int):=rfl;have H1:=Lh (fun W=>jN k (n/10) W (by omega) (by omega));have H2:=Lh (fun W=>jN k (n % 10) W (by omega) (by omega));have hd:Lib.decDigits n=Lib.decDigits (n/10)++Lib.decDigits (n % 10):=by
    rw[Lib.decDigits,dif_neg h10,Lib.decDigits_one (i:=n % 10) (by omega)]
   rw[hd];obtain⟨a,ha⟩:∃a,a=n/10:=⟨_,rfl⟩;obtain⟨b,hb⟩:∃b,b=n % 10:=⟨_,rfl⟩;have hsz:¬9223372036854775807<(Lib.decDigits (n/10)).length+(Lib.decDigits (n % 10)).length:=by
    have e1:=y8 _ (n/10) (Nat.le_refl _);have e2:=y8 _ (n % 10) (Nat.le_refl _);omega
   have Nj:wrap64 (a:Int)=(a:Int):=IntWalk.wrap64_in _ (by omega);rw[<-ha] at hq H1 hsz ⊢;rw[<-hb] at hr H2 hsz ⊢;clear h10 hm hn hd ha hb;go_enter Tryz.func87,Tryz.ntmps87;go_wp2_with fail;refine(H1.out _).mono ?_;rintro e w1 ⟨rfl,hb1⟩;have D1:=Lh hb1;clear hb1;go_wp2_with fail;refine(H2.out _).mono ?_;rintro e w2 ⟨rfl,hb2⟩;have D2:=Lh (D1.out.trans (hb2.mono D1.out.size));clear hb2;go_wp2_with fail;go_ret;exact⟨rfl,D2.out⟩
end Go.Proofs.YtncnnbmeacpboaaGreatDoor
namespace Go.aa
variable {w0 w w' W W':World} {P sz lo C:Nat} {e:TypeId} {v:Value} {xs:List D} {S:Nat->Prop} {x:aK}
def Lm(k:Int):Int:=if k=13 then 0 else if k=12 then 1 else if k=11 then 2 else 3
end Go.aa
namespace Go.Proofs.YtncnnbmeacpboaaGreatDoor
open Go.RowKit Go.aa
attribute [local go_sem] Oper.semAt_some y7
variable {w0 w w' W W':World} {P sz lo C:Nat} {e:TypeId} {v:Value} {xs:List D} {S:Nat->Prop} {x:aK}
theorem Eu(k:Int)(s:ByteArray)(n:Int)(a b c:Value)(w:World):Calls Tryz.prog 142 #[.agg #[.int .i64 k,.string s,.int .i64 n,a,b,c]] w fun e w'=>e=.returned (.int .i64 (Lm k))/\Below w.heap.size w w':=by
 have hb:=Lh (aG w (.cells #[.int .i64 k,.string s,.int .i64 n,a,b,c] 64));unfold Lm;by_cases h1:k=13
 ·subst h1;go_enter Tryz.func142,Tryz.ntmps142;go_wp2_with fail;go_ret;exact⟨rfl,hb.out⟩
 by_cases h2:k=12
 ·subst h2;clear h1;go_enter Tryz.func142,Tryz.ntmps142;go_wp2_with fail;go_ret;exact⟨rfl,hb.out⟩
 by_cases h3:k=11
 ·subst h3;clear h1 h2;go_enter Tryz.func142,Tryz.ntmps142;go_wp2_with fail;go_ret;exact⟨rfl,hb.out⟩
 have e1:(k==13)=false:=by simpa using h1
 have e2:(k==12)=false:=by simpa using h2
 have e3:(k==11)=false:=by simpa using h3
 rw[if_neg h1,if_neg h2,if_neg h3];clear h1 h2 h3;go_enter Tryz.func142,Tryz.ntmps142;go_wp2_with fail;go_ret;exact⟨rfl,hb.out⟩
theorem EC(w:World):Calls Tryz.prog 141 #[] w fun e w'=>∃b:Nat,e=.returned (.slice (some ⟨b,0,none⟩) 5 5)/\(∀j:Nat,j<5->w'.cell? ⟨b,j,none⟩=some (.string ⟨(eO ig ((j:Int)+3)).toArray⟩))/\Below w.heap.size w w':=by
 go_enter Tryz.func141,Tryz.ntmps141;go_wp2_with fail;go_ret;refine⟨_,rfl,fun j hj=>?_,aG _ _⟩;have h:j=0∨j=1∨j=2∨j=3∨j=4:=by omega
 rcases h with rfl|rfl|rfl|rfl|rfl<;>exact cH (heap_alloc_new w _) rfl
theorem EB(w:World):Calls Tryz.prog 143 #[] w fun e w'=>∃b:Nat,e=.returned (.slice (some ⟨b,0,none⟩) 8 8)/\(∀j:Nat,j<8->w'.cell? ⟨b,j,none⟩=some (.string ⟨(eO fE ((j:Int)+0)).toArray⟩))/\Below w.heap.size w w':=by
 go_enter Tryz.func143,Tryz.ntmps143;go_wp2_with fail;go_ret;refine⟨_,rfl,fun j hj=>?_,aG _ _⟩;have h:j=0∨j=1∨j=2∨j=3∨j=4∨j=5∨j=6∨j=7:=by omega
 rcases h with rfl|rfl|rfl|rfl|rfl|rfl|rfl|rfl<;>exact cH (heap_alloc_new w _) rfl
theorem Ez(w:World):Calls Tryz.prog 88 #[] w fun e w'=>∃b:Nat,e=.returned (.slice (some ⟨b,0,none⟩) 6 6)/\(∀j:Nat,j<6->w'.cell? ⟨b,j,none⟩=some (.string ⟨(eO gU ((j:Int)+3)).toArray⟩))/\Below w.heap.size w w':=by
 go_enter Tryz.func88,Tryz.ntmps88;go_wp2_with fail;go_ret;refine⟨_,rfl,fun j hj=>?_,aG _ _⟩;have h:j=0∨j=1∨j=2∨j=3∨j=4∨j=5:=by omega
 rcases h with rfl|rfl|rfl|rfl|rfl|rfl<;>exact cH (heap_alloc_new w _) rfl
theorem oL(t:bH)(w:World)(ht:aA t=true):Calls Tryz.prog 84 #[.agg #[.int .i64 t.kind,.string ⟨t.name.toArray⟩,.int .i64 t.n]] w fun e w'=>e=.returned (.string ⟨(bC t).toArray⟩)/\Below w.heap.size w w':=by
 obtain⟨k,s,n⟩:=t;unfold aA at ht;unfold bC;simp only at ht ⊢;have HB:=Lh (aG w (.cells #[.int .i64 k,.string ⟨s.toArray⟩,.int .i64 n] 92));by_cases h1:k=1
 ·rw[if_pos h1] at ht ⊢;subst h1;simp only[dn,Bool.and_eq_true,decide_eq_true_eq] at ht;obtain⟨m,rfl⟩:=Int.eq_ofNat_of_zero_le ht.2.1;have HD:=Lh (fun W=>jN m m W (Nat.le_refl _) (by omega));rw[show l5 (m:Int)=Lib.decDigits m from rfl];clear ht;go_enter Tryz.func84,Tryz.ntmps84;go_wp2_with fail;refine(HD.out _).mono ?_;rintro e w1 ⟨rfl,hb⟩;have D1:=Lh (HB.out.trans (hb.mono HB.out.size));clear hb;go_wp2_with fail;go_ret;exact⟨rfl,D1.out⟩
 rw[if_neg h1] at ht ⊢;by_cases h2:k=2
 ·rw[if_pos h2];subst h2;clear ht h1;go_enter Tryz.func84,Tryz.ntmps84;go_wp2_with fail;go_ret;exact⟨rfl,HB.out⟩
 rw[if_neg h2];simp only[Bool.and_eq_true,decide_eq_true_eq] at ht;obtain⟨⟨⟨ha,hb'⟩,hnm⟩,rfl⟩:=ht;have hln:=oG hnm;obtain⟨j,rfl⟩:∃j:Nat,k=(j:Int)+3:=⟨(k-3).toNat,by omega⟩;have Tn:j<5:=by omega
 have e1:(((j:Int)+3)==1)=false:=by simp;omega
 have e2:(((j:Int)+3)==2)=false:=by simp;omega
 have hlk:=vI ((j:Int)+3);obtain⟨wd,hwd⟩:∃wd,eO ig ((j:Int)+3)=wd:=⟨_,rfl⟩;rw[hwd] at hlk;have ND:=Lh hwd;obtain⟨s1,hs1⟩:∃s1,wd++[40]=s1:=⟨_,rfl⟩;obtain⟨s2,hs2⟩:∃s2,s1++s=s2:=⟨_,rfl⟩;obtain⟨s3,hs3⟩:∃s3,s2++[41]=s3:=⟨_,rfl⟩;have l1:s1.length=wd.length+1:=by rw[<-hs1];simp
 have l2:s2.length=s1.length+s.length:=by rw[<-hs2];simp
 have g1:¬9223372036854775807<wd.length+1:=by omega
 have g2:¬9223372036854775807<s1.length+s.length:=by omega
 have g3:¬9223372036854775807<s2.length+1:=by omega
 have hfin:eO ig ((j:Int)+3)++([40]++(s++[41]))=s3:=by rw[<-hs3,<-hs2,<-hs1,<-hwd];simp
 rw[hfin];have hjk:((j:Int)+3-3)=(j:Int):=by omega
 have hwk:IntKind.i64.wrap ((j:Int)+3-3)=(j:Int):=by rw[hjk];exact IntWalk.i64_in _ (by omega)
 have i1:(0:Int)<=(j:Int):=by omega
 have i2:(j:Int)<5:=by omega
 have NB:=Lh (fun W=>EC W);obtain⟨kk,hK'⟩:∃kk,kk=(j:Int)+3:=⟨_,rfl⟩;rw[<-hK'] at hwk e1 e2 HB ⊢;obtain⟨B,hB⟩:∃B,B=w.heap.size:=⟨_,rfl⟩;obtain⟨W0,hW0⟩:∃W0,W0=w.alloc (.cells #[.int .i64 kk,.string ⟨s.toArray⟩,.int .i64 0] 92):=⟨_,rfl⟩;have hk:=heap_alloc_new w (.cells #[.int .i64 kk,.string ⟨s.toArray⟩,.int .i64 0] 92);rw[<-hW0,<-hB] at hk;have c0:W0.drew.cell? ⟨B,0,none⟩=some (.int .i64 kk):=cH hk rfl;have c1:W0.drew.cell? ⟨B,1,none⟩=some (.string ⟨s.toArray⟩):=cH hk rfl;have HC:=Lh (aI c0 c1);have HW:=Lh (aI hW0 hB);have Jq:Hid (B<W0.drew.heap.size):=Lh (gS hk).1;have hbb:=HB.out;rw[<-hW0] at hbb;have HB2:=Lh hbb;clear hW0 hB hk c0 c1 hbb ha hb' hnm hln h1 h2 hlk hwd hfin l1 l2 hjk hK';go_enter Tryz.func84,Tryz.ntmps84;go_wp2_with fail;rw[<-HW.out.1,<-HW.out.2];refine bB 11 (S:=fun w'=>w'.cell? ⟨B,0,none⟩=some (.int .i64 kk)/\w'.cell? ⟨B,1,none⟩=some (.string ⟨s.toArray⟩)) (by kernel_rfl) HC.out (fun hHeld=>?_);refine CL (i:=1) rfl hHeld ?_;refine CL (i:=2) rfl hHeld ?_;refine CL (i:=3) rfl hHeld ?_;refine CL (i:=7) rfl hHeld ?_;refine CL (i:=8) rfl hHeld ?_;refine az (rs:=[0]) (by kernel_rfl) (by simp) ?_;refine aY rfl (fun K hK=>?_) aS;go_simp;refine(NB.out _).mono ?_;rintro e w2 ⟨b,rfl,hcs,hb2⟩;have x0:=hcs j Tn;rw[ND.out] at x0;have HB3:=Lh hb2;clear hb2 hcs;go_simp;refine hK.out _ _ (⟨(HB3.out.cell (p:=⟨B,0,none⟩) Jq.out).trans HC.out.1,(HB3.out.cell (p:=⟨B,1,none⟩) Jq.out).trans HC.out.2⟩) fun hHeld=>?_;clear hK K
 try simp only[Act.put,jZ,j3,j4]
 refine az (rs:=[4]) (by kernel_rfl) (by simp) ?_;refine aY rfl (fun K hK=>?_) aS;go_simp;refine hK.out _ _ (hHeld) fun hHeld=>?_;clear hK K
 try simp only[Act.put,jZ,j3,j4]
 refine az (rs:=[5]) (by kernel_rfl) (by simp) ?_;refine aY rfl (fun K hK=>?_) aS;go_simp;refine hK.out _ _ (hHeld) fun hHeld=>?_;clear hK K
 try simp only[Act.put,jZ,j3,j4]
 refine az (rs:=[6]) (by kernel_rfl) (by simp) ?_;refine aY rfl (fun K hK=>?_) aS;go_simp;refine hK.out _ _ (hHeld) fun hHeld=>?_;clear hK K
 try simp only[Act.put,jZ,j3,j4]
 refine az (rs:=[9]) (by kernel_rfl) (by simp) ?_;refine aY rfl (fun K hK=>?_) aS;go_simp;refine hK.out _ _ (hHeld) fun hHeld=>?_;clear hK K
 try simp only[Act.put,jZ,j3,j4]
 refine az (rs:=[10]) (by kernel_rfl) (by simp) ?_;refine aY rfl (fun K hK=>?_) aS;go_simp;refine hK.out _ _ (hHeld) fun hHeld=>?_;clear hK K
 try simp only[Act.put,jZ,j3,j4]
 refine az (rs:=[11]) (by kernel_rfl) (by simp) ?_;refine eG rfl (by kernel_rfl) (fun K hK=>?_) aS;go_simp;refine hK.out _ _ ?_;clear hK K
 try simp only[Act.put,jZ,j3,j4]
 refine eT (by kernel_rfl) ?_ _;go_wp2_with fail;go_ret;exact⟨rfl,HB2.out.drew.trans (HB3.out.mono HB2.out.drew.size)⟩
theorem lK(bs:List aD)(z:aK)(w:World)(hz:aj w (·<w.heap.size) (bs.map aD.toD) z)(hn:bs.length<=6)(hok:bs.all aL=true):
  Calls Tryz.prog 86 #[.slice z.a bs.length z.cap] w fun e w'=>e=.returned (.string ⟨(aO bs).toArray⟩)/\Below w.heap.size w w':=by
 obtain⟨g1,_,_,g4,_⟩:=hz.flat aD.bI;have HG:=Lh (aI g1 g4);have xP:=Lh (fun(j:Nat) (hj:j<bs.length)=>(List.all_eq_true.1 hok) _ (List.getElem_mem hj));have JJ:=Lh (fun(j:Nat)=>rz (bs:=bs.take j) (List.all_eq_true.2 fun x hx=>List.all_eq_true.1 hok x (List.mem_of_mem_take hx)) (by rw[List.length_take];omega));have NB:=Lh (fun W=>EB W);obtain⟨n,hnn⟩:∃n,n=bs.length:=⟨_,rfl⟩;have HN:=Lh hnn;rw[<-hnn] at hn ⊢;obtain⟨R,hR⟩:∃R,R=aO bs:=⟨_,rfl⟩;rw[<-hR];have HR:=Lh hR;clear hz g1 g4 hok hnn hR;go_enter Tryz.func86,Tryz.ntmps86;go_wp2_with fail;go_loopw [3,8] (fun s3 s8 wr=>∃(j:Nat) (cur:Bs),j<=n/\s8=.int .i64 j/\s3=.string ⟨cur.toArray⟩/\Hid (cur=aO (bs.take j))/\Hid (Below w.heap.size w wr)) (fun _ s8 _=>n-(intOf s8).toNat)
 case atStart=>exact⟨0,[],Nat.zero_le _,rfl,rfl,Lh (by simp[aO]),Lh (Below.refl _ _)⟩
 case round=>
  obtain⟨j,cur,hj,rfl,rfl,UY,HB⟩:=hrel;by_cases hlt:j<n
  ·have hjl:j<bs.length:=by have:=HN.out;omega
   obtain⟨hza,hzb⟩:=HG.out.1 (by omega);obtain⟨q0,q1⟩:=(HG.out.2.below HB.out (fun _=>hzb)).two j hjl rfl;have hnext:=lV bs j hjl;have hle:=JJ.out j;have hb:=xP.out j hjl;rw[<-UY.out] at hnext hle;rw[hza];clear hza;generalize bs[j]=b at*;obtain⟨name,sort⟩:=b;simp only[aL,Bool.and_eq_true,decide_eq_true_eq] at q0 q1 hb;obtain⟨⟨hnm,hs1⟩,hs7⟩:=hb;obtain⟨st,rfl⟩:=Int.eq_ofNat_of_zero_le (show 0<=sort by omega);have Tw:st<8:=by omega
   have hln:=oG hnm;have hlk:=vH (st:Int);obtain⟨wd,hwd⟩:∃wd,eO fE (st:Int)=wd:=⟨_,rfl⟩;have KZ:eO fE ((st:Int)+0)=wd:=by rw[Int.add_zero];exact hwd
   have ND:=Lh KZ;rw[hwd] at hlk;obtain⟨y1,hy1⟩:∃y1,name++[58,32]=y1:=⟨_,rfl⟩;obtain⟨y2,hy2⟩:∃y2,y1++wd=y2:=⟨_,rfl⟩;have l1:y1.length=name.length+2:=by rw[<-hy1];simp
   have l2:y2.length=y1.length+wd.length:=by rw[<-hy2];simp
   have htb:kE ⟨name,(st:Int)⟩=y2:=by rw[<-hy2,<-hy1,<-hwd,kE];simp
   rw[htb] at hnext;have g1:¬9223372036854775807<name.length+2:=by omega
   have g2:¬9223372036854775807<y1.length+wd.length:=by omega
   have i1:(0:Int)<=(st:Int):=by omega
   have i2:(st:Int)<8:=by omega
   obtain⟨W1,hW1⟩:∃W1,W1=wr.alloc (.cells #[.string ⟨name.toArray⟩,.int .i64 (st:Int)] 94):=⟨_,rfl⟩;obtain⟨B,hB⟩:∃B,B=wr.heap.size:=⟨_,rfl⟩;have hk:=heap_alloc_new wr (.cells #[.string ⟨name.toArray⟩,.int .i64 (st:Int)] 94);rw[<-hW1,<-hB] at hk;have c0:W1.drew.cell? ⟨B,0,none⟩=some (.string ⟨name.toArray⟩):=cH hk rfl;have c1:W1.drew.cell? ⟨B,1,none⟩=some (.int .i64 (st:Int)):=cH hk rfl;have HC:=Lh (aI c0 c1);have HW:=Lh (aI hW1 hB);have Jq:Hid (B<W1.drew.heap.size):=Lh (gS hk).1;have hb1:Below wr.heap.size wr W1:=by rw[hW1];exact aG _ _
   have zY:=Lh (HB.out.trans (hb1.mono HB.out.size));clear hW1 hB hk c0 c1 hb1 hnm hs1 hs7 hwd KZ htb hzb;by_cases h0:j=0
   ·obtain⟨s4,hs4⟩:∃s4,cur++y2=s4:=⟨_,rfl⟩;have g4:¬9223372036854775807<cur.length+y2.length:=by omega
    have hp:decide ((0:Int)<(j:Int))=false:=by simp;omega
    have hp2:¬0<j:=by omega
    have Da:Hid (s4=aO (bs.take (j+1))):=Lh (by rw[hnext,<-hs4,if_pos h0];simp);clear hnext h0 l1 l2 hle hln hlk;go_wp2_with fail;rw[<-HW.out.1,<-HW.out.2];refine bB 11 (S:=fun w'=>w'.cell? ⟨B,0,none⟩=some (.string ⟨name.toArray⟩)/\w'.cell? ⟨B,1,none⟩=some (.int .i64 (st:Int))) (by kernel_rfl) HC.out (fun hHeld=>?_);refine CL (i:=0) rfl hHeld ?_;refine CL (i:=1) rfl hHeld ?_;refine CL (i:=2) rfl hHeld ?_;refine CL (i:=3) rfl hHeld ?_;refine CL (i:=5) rfl hHeld ?_;refine CL (i:=6) rfl hHeld ?_;refine az (rs:=[4]) (by kernel_rfl) (by simp) ?_;refine aY rfl (fun K hK=>?_) aS;go_simp;refine(NB.out _).mono ?_;rintro e w2 ⟨b,rfl,hcs,hb2⟩;have x0:=hcs st Tw;rw[ND.out] at x0;have HB3:=Lh hb2;clear hb2 hcs;go_simp;refine hK.out _ _ (⟨(HB3.out.cell (p:=⟨B,0,none⟩) Jq.out).trans HC.out.1,(HB3.out.cell (p:=⟨B,1,none⟩) Jq.out).trans HC.out.2⟩) fun hHeld=>?_;clear hK K
    try simp only[Act.put,jZ,j3,j4]
    refine az (rs:=[7]) (by kernel_rfl) (by simp) ?_;refine aY rfl (fun K hK=>?_) aS;go_simp;refine hK.out _ _ (hHeld) fun hHeld=>?_;clear hK K
    try simp only[Act.put,jZ,j3,j4]
    refine az (rs:=[8]) (by kernel_rfl) (by simp) ?_;refine aY rfl (fun K hK=>?_) aS;go_simp;refine hK.out _ _ (hHeld) fun hHeld=>?_;clear hK K
    try simp only[Act.put,jZ,j3,j4]
    refine az (rs:=[9]) (by kernel_rfl) (by simp) ?_;refine aY rfl (fun K hK=>?_) aS;go_simp;refine hK.out _ _ (hHeld) fun hHeld=>?_;clear hK K
    try simp only[Act.put,jZ,j3,j4]
    refine az (rs:=[10]) (by kernel_rfl) (by simp) ?_;refine aY rfl (fun K hK=>?_) aS;go_simp;refine hK.out _ _ (hHeld) fun hHeld=>?_;clear hK K
    try simp only[Act.put,jZ,j3,j4]
    refine az (rs:=[11]) (by kernel_rfl) (by simp) ?_;refine eG rfl (by kernel_rfl) (fun K hK=>?_) aS;go_simp;refine hK.out _ _ ?_;clear hK K
    try simp only[Act.put,jZ,j3,j4]
    refine eT (by kernel_rfl) ?_ _;go_wp2_with fail;exact⟨⟨j+1,s4,by omega,by go_num,rfl,Da,Lh ((zY.out.drew).trans (HB3.out.mono zY.out.drew.size))⟩,by simp[intOf];omega⟩
   ·obtain⟨c1,hc1⟩:∃c1,cur++[44,32]=c1:=⟨_,rfl⟩;have l0:c1.length=cur.length+2:=by rw[<-hc1];simp
    obtain⟨s4,hs4⟩:∃s4,c1++y2=s4:=⟨_,rfl⟩;have g3:¬9223372036854775807<cur.length+2:=by omega
    have g4:¬9223372036854775807<c1.length+y2.length:=by omega
    have hp:decide ((0:Int)<(j:Int))=true:=by simp;omega
    have hp2:0<j:=by omega
    have Da:Hid (s4=aO (bs.take (j+1))):=Lh (by rw[hnext,<-hs4,<-hc1,if_neg h0];simp);clear hnext h0 l0 l1 l2 hle hln hlk;go_wp2_with fail;rw[<-HW.out.1,<-HW.out.2];refine bB 11 (S:=fun w'=>w'.cell? ⟨B,0,none⟩=some (.string ⟨name.toArray⟩)/\w'.cell? ⟨B,1,none⟩=some (.int .i64 (st:Int))) (by kernel_rfl) HC.out (fun hHeld=>?_);refine CL (i:=0) rfl hHeld ?_;refine CL (i:=1) rfl hHeld ?_;refine CL (i:=2) rfl hHeld ?_;refine CL (i:=3) rfl hHeld ?_;refine CL (i:=5) rfl hHeld ?_;refine CL (i:=6) rfl hHeld ?_;refine az (rs:=[4]) (by kernel_rfl) (by simp) ?_;refine aY rfl (fun K hK=>?_) aS;go_simp;refine(NB.out _).mono ?_;rintro e w2 ⟨b,rfl,hcs,hb2⟩;have x0:=hcs st Tw;rw[ND.out] at x0;have HB3:=Lh hb2;clear hb2 hcs;go_simp;refine hK.out _ _ (⟨(HB3.out.cell (p:=⟨B,0,none⟩) Jq.out).trans HC.out.1,(HB3.out.cell (p:=⟨B,1,none⟩) Jq.out).trans HC.out.2⟩) fun hHeld=>?_;clear hK K
    try simp only[Act.put,jZ,j3,j4]
    refine az (rs:=[7]) (by kernel_rfl) (by simp) ?_;refine aY rfl (fun K hK=>?_) aS;go_simp;refine hK.out _ _ (hHeld) fun hHeld=>?_;clear hK K
    try simp only[Act.put,jZ,j3,j4]
    refine az (rs:=[8]) (by kernel_rfl) (by simp) ?_;refine aY rfl (fun K hK=>?_) aS;go_simp;refine hK.out _ _ (hHeld) fun hHeld=>?_;clear hK K
    try simp only[Act.put,jZ,j3,j4]
    refine az (rs:=[9]) (by kernel_rfl) (by simp) ?_;refine aY rfl (fun K hK=>?_) aS;go_simp;refine hK.out _ _ (hHeld) fun hHeld=>?_;clear hK K
    try simp only[Act.put,jZ,j3,j4]
    refine az (rs:=[10]) (by kernel_rfl) (by simp) ?_;refine aY rfl (fun K hK=>?_) aS;go_simp;refine hK.out _ _ (hHeld) fun hHeld=>?_;clear hK K
    try simp only[Act.put,jZ,j3,j4]
    refine az (rs:=[11]) (by kernel_rfl) (by simp) ?_;refine eG rfl (by kernel_rfl) (fun K hK=>?_) aS;go_simp;refine hK.out _ _ ?_;clear hK K
    try simp only[Act.put,jZ,j3,j4]
    refine eT (by kernel_rfl) ?_ _;go_wp2_with fail;exact⟨⟨j+1,s4,by omega,by go_num,rfl,Da,Lh ((zY.out.drew).trans (HB3.out.mono zY.out.drew.size))⟩,by simp[intOf];omega⟩
  ·have hjl:j=bs.length:=by have:=HN.out;omega
   have VR:=UY.out;rw[hjl,List.take_length] at VR;rw[<-HR.out] at VR;subst VR;have hbd:=HB.out;clear UY hjl HR;go_wp2_with fail;go_ret;exact⟨rfl,hbd⟩
end Go.Proofs.YtncnnbmeacpboaaGreatDoor
namespace Go.aa
open Go.RowKit
variable {w0 w w' W W':World} {P sz lo C:Nat} {e:TypeId} {v:Value} {xs:List D} {S:Nat->Prop} {x:aK}
theorem Hm(f:ae)(least:Nat)(h:least<=3):aN f (least+1)=if Lm f.kind<(least:Int) then [40]++(bL f++[41]) else bL f:=by
 unfold aN Lm dm;by_cases h1:f.kind=13
 ·simp only[h1,if_pos];by_cases h2:0<least
  ·rw[if_pos (by omega),if_pos (by omega)]
  ·rw[if_neg (by omega),if_neg (by omega)]
 ·by_cases h3:f.kind=12
  ·simp only[h3,if_pos,show ¬(12:Int)=13 from by decide,if_neg,not_false_eq_true];by_cases h2:1<least
   ·rw[if_pos (by omega),if_pos (by omega)]
   ·rw[if_neg (by omega),if_neg (by omega)]
  ·by_cases h4:f.kind=11
   ·simp only[h4,if_pos,show ¬(11:Int)=13 from by decide,show ¬(11:Int)=12 from by decide,if_neg,not_false_eq_true];by_cases h2:2<least
    ·rw[if_pos (by omega),if_pos (by omega)]
    ·rw[if_neg (by omega),if_neg (by omega)]
   ·simp only[if_neg h1,if_neg h3,if_neg h4];rw[if_neg (by omega),if_neg (by omega)]
end Go.aa
namespace Go.Proofs.YtncnnbmeacpboaaGreatDoor
open Go.RowKit Go.aa
attribute [local go_sem] Oper.semAt_some y7
variable {w0 w w' W W':World} {P sz lo C:Nat} {e:TypeId} {v:Value} {xs:List D} {S:Nat->Prop} {x:aK}
def eQ(g:ae):Prop:=∀(x:aC) (w:World),aB w (·<w.heap.size) g x->(bL g).length<=1000000000000->Calls Tryz.prog 54 #[.agg #[.int .i64 g.kind,.string ⟨g.name.toArray⟩,.int .i64 g.n,.slice x.t.a g.terms.length x.t.cap,.slice x.b.a g.binds.length x.b.cap,.slice x.l.a g.l.length x.l.cap]] w fun e w'=>e=.returned (.string ⟨(bL g).toArray⟩)/\Below w.heap.size w w'
theorem mK(g:ae)(hG:eQ g)(x:aC)(w:World)(hx:aB w (·<w.heap.size) g x)(least:Nat)(hl3:least<=3)(hlen:(bL g).length<=1000000000000):Calls Tryz.prog 85 #[.agg #[.int .i64 g.kind,.string ⟨g.name.toArray⟩,.int .i64 g.n,.slice x.t.a g.terms.length x.t.cap,.slice x.b.a g.binds.length x.b.cap,.slice x.l.a g.l.length x.l.cap],.int .i64 (least:Int)] w fun e w'=>e=.returned (.string ⟨(aN g (least+1)).toArray⟩)/\Below w.heap.size w w':=by
 obtain⟨W0,hW0⟩:∃W0,W0=w.alloc (.cells #[.int .i64 g.kind,.string ⟨g.name.toArray⟩,.int .i64 g.n,.slice x.t.a g.terms.length x.t.cap,.slice x.b.a g.binds.length x.b.cap,.slice x.l.a g.l.length x.l.cap] 64):=⟨_,rfl⟩;obtain⟨B,hB⟩:∃B,B=w.heap.size:=⟨_,rfl⟩;have hb0:Below w.heap.size w W0:=by rw[hW0];exact aG _ _
 have hk:=heap_alloc_new w (.cells #[.int .i64 g.kind,.string ⟨g.name.toArray⟩,.int .i64 g.n,.slice x.t.a g.terms.length x.t.cap,.slice x.b.a g.binds.length x.b.cap,.slice x.l.a g.l.length x.l.cap] 64);rw[<-hW0,<-hB] at hk;have HK:=Lh hk;have HW:=Lh (aI hW0 hB);have HB0:=Lh hb0;have HT:=Lh (hG x W0 (hx.later hb0 hb0.size) hlen);have Y2:=Lh (fun W=>Eu g.kind ⟨g.name.toArray⟩ g.n (.slice x.t.a g.terms.length x.t.cap) (.slice x.b.a g.binds.length x.b.cap) (.slice x.l.a g.l.length x.l.cap) W);have htx:=Hm g least hl3;obtain⟨s,hs⟩:∃s,s=bL g:=⟨_,rfl⟩;rw[<-hs] at HT hlen htx;obtain⟨R,hR⟩:∃R,R=aN g (least+1):=⟨_,rfl⟩;rw[<-hR] at htx ⊢;clear hW0 hB hb0 hk hG hx hs hR;have p0:W0.cell? ⟨B,0,none⟩=some (.int .i64 g.kind):=cH HK.out rfl;have p1:W0.cell? ⟨B,1,none⟩=some (.string ⟨g.name.toArray⟩):=cH HK.out rfl;have p2:W0.cell? ⟨B,2,none⟩=some (.int .i64 g.n):=cH HK.out rfl;have p3:W0.cell? ⟨B,3,none⟩=some (.slice x.t.a g.terms.length x.t.cap):=cH HK.out rfl;have p4:W0.cell? ⟨B,4,none⟩=some (.slice x.b.a g.binds.length x.b.cap):=cH HK.out rfl;have p5:W0.cell? ⟨B,5,none⟩=some (.slice x.l.a g.l.length x.l.cap):=cH HK.out rfl;go_enter Tryz.func85,Tryz.ntmps85;go_wp2_with fail;rw[<-HW.out.1];refine HT.out.mono ?_;rintro e w1 ⟨rfl,hb1⟩;have D1:=Lh (HB0.out.trans (hb1.mono HB0.out.size));have hk1:=(hb1.block B (gS HK.out).1).trans HK.out;clear p0 p1 p2 p3 p4 p5 hb1;rw[<-HW.out.2];have p0:w1.cell? ⟨B,0,none⟩=some (.int .i64 g.kind):=cH hk1 rfl;have p1:w1.cell? ⟨B,1,none⟩=some (.string ⟨g.name.toArray⟩):=cH hk1 rfl;have p2:w1.cell? ⟨B,2,none⟩=some (.int .i64 g.n):=cH hk1 rfl;have p3:w1.cell? ⟨B,3,none⟩=some (.slice x.t.a g.terms.length x.t.cap):=cH hk1 rfl;have p4:w1.cell? ⟨B,4,none⟩=some (.slice x.b.a g.binds.length x.b.cap):=cH hk1 rfl;have p5:w1.cell? ⟨B,5,none⟩=some (.slice x.l.a g.l.length x.l.cap):=cH hk1 rfl;clear hk1;go_wp2_with fail;refine(Y2.out _).mono ?_;rintro e w2 ⟨rfl,hb2⟩;have D2:=Lh (D1.out.trans (hb2.mono D1.out.size));clear hb2 p0 p1 p2 p3 p4 p5;generalize Lm g.kind=z at htx;by_cases hz:z<(least:Int)
 ·rw[if_pos hz] at htx;have hz':decide (z<(least:Int))=true:=decide_eq_true hz;obtain⟨s1,hs1⟩:∃s1,40::s=s1:=⟨_,rfl⟩;obtain⟨s2,hs2⟩:∃s2,s1++[41]=s2:=⟨_,rfl⟩;have l1:s1.length=s.length+1:=by rw[<-hs1];simp
  have g1:¬9223372036854775807<1+s.length:=by omega
  have g2:¬9223372036854775807<s1.length+1:=by omega
  have hR2:R=s2:=by rw[htx,<-hs2,<-hs1];simp
  subst hR2;clear l1 htx hlen hz;go_wp2_with fail;go_ret;exact⟨rfl,D2.out⟩
 ·rw[if_neg hz] at htx;have hz':decide (z<(least:Int))=false:=decide_eq_false hz;subst htx;clear hz hlen;go_wp2_with fail;go_ret;exact⟨rfl,D2.out⟩
end Go.Proofs.YtncnnbmeacpboaaGreatDoor
