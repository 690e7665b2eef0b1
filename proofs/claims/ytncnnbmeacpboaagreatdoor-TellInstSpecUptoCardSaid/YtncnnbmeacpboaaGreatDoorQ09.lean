/- Parts of the proof. -/
import Derived.Test.YtncnnbmeacpboaaGreatDoorQ05
import Derived.Test.YtncnnbmeacpboaaGreatDoorChecked
set_option maxHeartbeats 400000
set_option maxRecDepth 100000
set_option linter.unusedVariables false
set_option linter.unusedSimpArgs false
namespace Go.aa
open Go.RowKit
variable {w:World} {F:Nat->Prop} {xs:List D} {x:aK}
theorem fG{α:Type}{f:α->D}{sz:Nat}(hf:kK f sz):∀l:List α,jq (l.map f)=true
 |[]=>rfl
 |x::r=>by rw[List.map_cons,jq,hf.flat x,fG hf r];rfl
theorem bP{α:Type}{f:α->D}{sz:Nat}(hf:kK f sz):∀l:List α,bO (l.map f)=l.length*sz
 |[]=>by simp[bO]
 |x::r=>by rw[List.map_cons,bO,hf.width x,bP hf r,List.length_cons,Nat.add_mul];omega
theorem Own.flat{w:World}{F G:Nat->Prop}{e:TypeId}{sz:Nat}{v:Value}{r:Option Nat}{xs:List D}(h:Own w F e sz v r xs)(hf:jq xs=true)(hr:∀k,r=some k->¬G k)(hlt:∀k,G k->k<w.heap.size):Own w G e sz v r xs:=by
 obtain⟨cs,h1,h2⟩:=h.cells;exact⟨⟨cs,h1,(au.flat _ _ hf).2 ((au.flat _ _ hf).1 h2)⟩,h.row,hr,hlt⟩
def RO(e:TypeId)(sz:Nat)(xs:List D)(w:World)(en:Ending)(w':World):Prop:=
 ∃v r,en=.returned v/\Own w' (fun _=>False) e sz v r xs/\(∀k,r=some k->w.heap.size<=k)/\Below w.heap.size w w'
theorem aj.d(h:aj w F xs x):bg w F (.sl xs) [x.val xs.length]:=bg.cO.2 ⟨x,rfl,h⟩
theorem aj.later{w':World}{B C:Nat}(h:aj w (·<B) xs x)(hb:Below B w w')(hC:B<=C):aj w' (·<C) xs x:=(h.agree (ag hb)).mono (fun _ hk=>Nat.lt_of_lt_of_le hk hC)
theorem Own.sl{G:Nat->Prop}{e:TypeId}{sz:Nat}{v:Value}{r:Option Nat}(h:Own w F e sz v r xs)(nu:∀k,F k->G k)(hr:∀k,r=some k->G k)(hw:bO xs=xs.length*sz):∃x:aK,v=x.val xs.length/\aj w G xs x:=by
 have:=h.read nu hr hw;obtain⟨x,e,h⟩:=bg.cO.1 this;simp only[List.cons.injEq,and_true] at e;exact⟨x,e,h⟩
end Go.aa
namespace Go.Proofs.YtncnnbmeacpboaaGreatDoor
open Go.RowKit Go.aa
variable {w:World} {F:Nat->Prop} {xs:List D} {x:aK}
theorem Oo:(Tryz.prog.info? 92).map (fun i=>(i.zero,i.size,i.bytes))=some (some (.agg #[.int .i64 0,.string ByteArray.empty,.int .i64 0]),3,32):=by kernel_rfl
theorem GA(l:List bH)(x:aK)(w:World)(hx:aj w (·<w.heap.size) (l.map bH.toD) x)(hmax:l.length<=2000000):
  Calls Tryz.prog 45 #[x.val l.length] w (RO 92 3 (l.map bH.toD) w):=by
 obtain⟨i0,hi,hz0,hz1,hz2⟩:=info_parts Oo;have hq:=fun(w:World) (a:Option Addr) (n c:Nat)=>Lib.run_eql_slice_nil (P:=Tryz.prog) w 61 92 a n c 0 0 Tryz.underlying61;have hlen:(l.map bH.toD).length=l.length:=by simp
 by_cases hn:x.a=none
 ·have hl:l=[]:=by
   cases l with
   |nil=>rfl
   |cons y r=>have:=(hx.at_ (by simp)).1;rw[hn] at this;cases this
  subst hl;obtain⟨a,b,o,cap⟩:=x;simp only at hn;subst hn;clear hx hi hz0 hz1 hz2;go_enter Tryz.func45,Tryz.ntmps45;go_wp2_with fail;go_ret;exact⟨_,none,rfl,aa.Own.nil _ _ _ _ (fun _ h=>h.elim),fun _ h=>(by cases h),Below.refl _ _⟩
 ·obtain⟨a,b,o,cap⟩:=x;obtain⟨ad,rfl⟩:∃ad,a=some ad:=Option.ne_none_iff_exists'.1 hn;have cz:Below w.heap.size w (w.alloc (.cells #[] 92)):=(Below.refl _ _).alloc (Nat.le_refl _) _;have hsrc:aj (w.alloc (.cells #[] 92)) (·<w.heap.size) (l.map bH.toD) ⟨some ad,b,o,cap⟩:=hx.later cz (Nat.le_refl _);have hown:aa.Own (w.alloc (.cells #[] 92)) (·<w.heap.size) 92 3 (.slice (some ⟨w.heap.size,0,none⟩) 0 0) (some w.heap.size) []:=aa.Own.lit (w:=w) (n:=0) (cs:=[]) rfl (by unfold maxLen;omega) rfl (by rw[au]) (fun _ h=>h);have HS:=Lh hsrc.d;have HO:=Lh hown;have HB:=Lh cz;rw[hlen] at HS;have HL:=Lh hlen;clear hx hsrc hown cz hn hlen;go_enter Tryz.func45,Tryz.ntmps45;go_wp2_with (at_builtin;go_must (refine eP _ (by rfl) _ _ _ rfl 92 i0 _ 3 32 Tryz.underlying61 hi hz0 hz1 hz2 rfl (by omega) (.slice (some ⟨w.heap.size,0,none⟩) 0 0) (.slice (some ad) l.length cap) (·<w.heap.size) (some w.heap.size) [] (l.map bH.toD) rfl rfl HO.out HS.out (by rw[bP bH.bI,HL.out]) (by rw[HL.out];simp;unfold maxLen;omega) (by rw[HL.out];simp;omega) ?_);intro oa iA LZ w5 hown hmod hat;have HOW:=Lh hown;have HM:=Lh hmod;clear hown hmod;rw[HL.out];simp only[List.length_nil,Nat.zero_add]);go_ret;have hbb:Below w.heap.size w w5:=HB.out.trans (HM.out.below HB.out.size (fun k hk=>by simp at hk;omega));have h1:=HOW.out;rw[List.nil_append,List.length_nil,Nat.zero_add,HL.out] at h1;refine⟨_,LZ,rfl,h1.flat (fG bH.bI l) (fun _ _ h=>h) (fun _ h=>h.elim),fun k hk=>?_,hbb⟩;rcases hat with h|h
  ·rw[h] at hk;simp at hk;omega
  ·rw[h] at hk;simp at hk;omega
theorem FE:(Tryz.prog.info? 94).map (fun i=>(i.zero,i.size,i.bytes))=some (some (.agg #[.string ByteArray.empty,.int .i64 0]),2,24):=by kernel_rfl
theorem FH:(Tryz.prog.info? 3).map (fun i=>(i.zero,i.size,i.bytes))=some (some (.int .i64 0),1,8):=by kernel_rfl
end Go.Proofs.YtncnnbmeacpboaaGreatDoor
namespace Go.aa
open Go.RowKit
variable {w:World} {F:Nat->Prop} {xs:List D} {x:aK}
def fV(w:World)(lo:Nat)(F:Nat->Prop)(e:TypeId)(sz:Nat)(v:Value)(xs:List D):Prop:=
 (∃x:aK,v=.slice x.a xs.length xs.length/\x.cap=xs.length/\aj w (·<lo) xs x/\(x.a=none->xs=[])/\jq xs=true/\lo<=w.heap.size/\∀k,F k->k<w.heap.size)∨(∃r,Own w F e sz v r xs/\∀k,r=some k->lo<=k)
theorem fV.nil(w:World)(lo:Nat)(F:Nat->Prop)(e:TypeId)(sz:Nat)(lt:∀k,F k->k<w.heap.size):fV w lo F e sz (.slice none 0 0) []:=
 .inr ⟨none,Own.nil _ _ _ _ lt,fun _ h=>by cases h⟩
theorem fV.below{w w':World}{lo:Nat}{F:Nat->Prop}{e:TypeId}{sz:Nat}{v:Value}{xs:List D}(h:fV w lo F e sz v xs)(hb:Below w.heap.size w w'):fV w' lo F e sz v xs:=by
 rcases h with⟨x,h1,h2,h3,h4,h5,h6,h7⟩|⟨r,h1,h2⟩
 ·exact .inl ⟨x,h1,h2,h3.agree (ag (hb.mono h6)),h4,h5,by have:=hb.size;omega,fun k hk=>by have:=h7 k hk;have:=hb.size;omega⟩
 ·exact .inr ⟨r,h1.below hb,h2⟩
theorem fV.sl{w:World}{lo:Nat}{F:Nat->Prop}{e:TypeId}{sz:Nat}{v:Value}{xs:List D}(h:fV w lo F e sz v xs)(hw:bO xs=xs.length*sz):∃x:aK,v=x.val xs.length/\aj w (·<w.heap.size) xs x:=by
 rcases h with⟨x,h1,h2,h3,h4,h5,h6,h7⟩|⟨r,h1,h2⟩
 ·exact⟨x,by rw[h1,aK.val,h2],h3.mono (fun k hk=>by omega)⟩
 ·exact h1.sl h1.lt (fun k hk=>h1.fQ hk) hw
theorem fV.form{w:World}{lo:Nat}{F:Nat->Prop}{e:TypeId}{sz:Nat}{v:Value}{xs:List D}(h:fV w lo F e sz v xs):∃a cap,v=.slice a xs.length cap:=by
 rcases h with⟨x,h1,h2,h3,h4,h5,h6,h7⟩|⟨r,h1,h2⟩
 ·exact⟨_,_,h1⟩
 ·exact h1.form
end Go.aa
namespace Go.aa
open Go.RowKit
variable {P:Program}
variable {w:World} {F:Nat->Prop} {xs:List D} {x:aK}
theorem gX{W0:World}{lo:Nat}{ops:Array Oper}{rest:List Oper}{o:Oper}{a:Act}{Q:Exit->Act->World->Prop}(hgd:o.guard=none)(s x:Operand)(t:TypeId)(ho:o.op=.call { callee:=.builtin .append,args:=#[s,x],argTypes:=#[t,t]})(e:TypeId)(i:TypeInfo)(z:Value)(size bytes:Nat)(ht:P.underlying t=some (.slice e))(hi:P.info? e=some i)(hz:i.zero=some z)(hsize:i.size=size)(hby:i.bytes=bytes)(hzs:z.cells.size=size)(hsz:0<size)(v:Value)(xs:List D)(y:D)(cs:List Value)(T:TypeId)(hs:a.eval s=v)(hx:a.eval x=.slice (some ⟨W0.heap.size,0,none⟩) 1 1)(hv:fV W0 lo F e size v xs)(hd:au W0 F [y] cs)(hlo:lo<=W0.heap.size)(hw:y.width=size)(hwx:bO xs=xs.length*size)(h63:xs.length+1<=maxLen)(hbytes:(xs.length+1)*bytes<=140737488355328)(h:∀ao cap w',fV w' lo F e size (.slice ao (xs.length+1) cap) (xs++[y])->Below lo W0 w'->wpList P ops Q rest (a.put o.dst (.slice ao (xs.length+1) cap)) w'):
  wpList P ops Q (o::rest) a (W0.alloc (.cells cs.toArray T)):=by
 have hb:Below W0.heap.size W0 (W0.alloc (.cells cs.toArray T)):=(Below.refl _ _).alloc (Nat.le_refl _) _;have hnb:(W0.alloc (.cells cs.toArray T)).heap[W0.heap.size]?=some (.cells cs.toArray T (0,0)):=boxed (B:=W0.heap.size+1) (Below.refl _ _) (by omega);have hnews:∀j u,cs[j]?=some u->(W0.alloc (.cells cs.toArray T)).cell? ((⟨W0.heap.size,0,none⟩:Addr).add j)=some u:=fun j u hu=>by
  have hc:=cH (i:=j) hnb (v:=u) (by simpa using hu);unfold Addr.add;by_cases h0:j=0
  ·subst h0;simpa using hc
  ·rw[if_neg h0];simpa using hc
 have hone:=au.one _ _ hd;have hlen:cs.length=1*size:=by
  have:=au.length _ _ hd;rw[this];simp[bO,hw]
 have VZ:∀k,F k->k<W0.heap.size:=by
  rcases hv with⟨_,_,_,_,_,_,_,h7⟩|⟨r,h1,_⟩
  ·exact h7
  ·exact h1.lt
 have hd':au (W0.alloc (.cells cs.toArray T)) F [y] cs:=au.agree ((ag hb).mono VZ) _ _ hd;rcases hv with⟨x0,h1,h2,h3,h4,h5,h6,h7⟩|⟨r,h1,h2⟩
 ·obtain⟨cs0,k1,k2⟩:=h3.row.cells;have hfl:=(au.flat xs cs0 h5).1 k1;have hl0:cs0.length=xs.length*size:=by rw[au.length _ _ k1,hwx]
  have hsn:0<xs.length->x0.a=some ⟨x0.b,x0.o,none⟩:=fun hn=>(h3.at_ hn).1;refine wpList_append_grows (W0.alloc (.cells cs.toArray T)) hgd s x t ho e i z size bytes ht hi hz hsize hby hzs hsz x0.a xs.length xs.length cs0 (hs.trans h1) (fun hn=>by have:=h4 hn;subst this;exact⟨rfl,rfl⟩) hl0 (fun b hbb j u hu=>?_) ⟨W0.heap.size,0,none⟩ 1 1 cs hx hlen hnews hone (by omega) h63 hbytes (fun v' w' hown hgr=>?_)
  ·have hj:=(List.getElem?_eq_some_iff.1 hu).1;have hn:0<xs.length:=by
    rcases Nat.eq_zero_or_pos xs.length with h|h
    ·rw[h] at hl0;omega
    ·exact h
   have hbe:=hsn hn;rw[hbe] at hbb;simp only[Option.some.injEq] at hbb;subst hbb;have hc:=k2 j hj;rw[(List.getElem?_eq_some_iff.1 hu).2] at hc;have hlt:x0.b<W0.heap.size:=by have:=(h3.at_ hn).2;omega
   have hc':=(hb.cell (p:=⟨x0.b,x0.o+j,none⟩) hlt).trans hc;unfold Addr.add;by_cases h0:j=0
   ·subst h0;simpa using hc'
   ·rw[if_neg h0];exact hc'
  ·obtain⟨q1,q2⟩:=hown;have q2':=q2;rcases q2 with⟨_,hn⟩|⟨g,cap,cur,rfl,hg,hrest⟩
   ·omega
   ·have hm:Mod (fun _=>False) (W0.alloc (.cells cs.toArray T)) w':=Mod.vX hgr (fun k hk=>by cases hk);have hm0:Mod (fun _=>False) W0 w':=(Mod.of_below (S:=fun _=>False) hb).trans hm (fun _ _ h=>h)
    have hgs : W0.heap.size ≤ g := by have : (W0.alloc (.cells cs.toArray T)).heap.size = W0.heap.size + 1 := by simp
                                      omega
    refine h _ _ _ (.inr ⟨some g,⟨⟨cs0++cs,by rw[show(xs++[y]).length=xs.length+1 from by simp];exact⟨q1,.inr ⟨g,cap,cur,rfl,Nat.zero_le _,hrest⟩⟩,au.append ((au.flat xs cs0 h5).2 hfl) (au.agree (hm.agree (fun k hk=>⟨by have:=h7 k hk;simp;omega,id⟩)) _ _ hd')⟩,rfl,fun k hk hF=>?_,fun k hk=>?_⟩,fun k hk=>?_⟩) (hm0.below hlo (fun _ hk=>hk.elim))
    ·simp only[Option.some.injEq] at hk;have:=h7 k hF;omega
    ·have:=h7 k hk;have:=hm0.size;omega
    ·simp only[Option.some.injEq] at hk;omega
 ·have h1':=h1.alloc (.cells cs.toArray T);obtain⟨cs0,k1,k2⟩:=h1'.cells;refine wpList_append_lies (W0.alloc (.cells cs.toArray T)) hgd s x t ho 0 e i z size bytes ht hi hz hsize hby hzs hsz v xs.length cs0 hs k1 ⟨W0.heap.size,0,none⟩ 1 1 cs hx hlen hnews hone (by omega) h63 hbytes (Nat.zero_le _) _ rfl (fun g cap w' hown hgr hat hlt=>?_);obtain⟨g1,g2,g3⟩:=h1'.appended (ys:=[y]) k2 hown hgr (by rcases hat with h|h;exact .inl h.symm;exact .inr (by rw[h];rfl)) hd';have hm0:Mod (fun k=>r=some k) W0 w':=(Mod.of_below (S:=fun k=>r=some k) hb).trans g2 (fun _ _ h=>h);refine h _ _ _ (.inr ⟨_,g1,fun k hk=>?_⟩) (hm0.below hlo (fun k hk=>h2 k hk));rcases g3 with g3|g3
  ·rw[g3] at hk;exact h2 k hk
  ·rw[g3] at hk;simp at hk;omega
end Go.aa
