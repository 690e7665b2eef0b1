/- Parts of the proof. -/
import Derived.Test.YtncnnbmeacpboaaGreatDoorO32
import Derived.Sort.LoopGhostIn
import Derived.Sort.QuietIn
import Derived.Test.YtncnnbmeacpboaaGreatDoorO13
import Derived.Test.YtncnnbmeacpboaaGreatDoorO07
set_option maxHeartbeats 1000000
set_option maxRecDepth 100000
set_option linter.unusedVariables false
set_option linter.unusedSimpArgs false
namespace Go.aa
open Go.RowKit
variable {W Wr w w':World} {F T T1:Nat->Prop} {ts:List Nat} {T0 e:TypeId} {J:Nat->(Nat->Prop)->World->Prop} {j tb B:Nat} {v:Value} {cs:List Value} {t:Tr}
def TB(T:TypeId)(W:World)(b:Nat)(ts:List Nat):Prop:=W.heap[b]?=some (.cells (ts.map (fun(n:Nat)=>Value.int .i64 n)).toArray T (0,0))
theorem TB.cell{T:TypeId}{W:World}{b:Nat}{ts:List Nat}(h:TB T W b ts)(i:Nat)(hi:i<ts.length):W.cell? ⟨b,i,none⟩=some (.int .i64 ts[i]):=cH h (by simp[hi])
theorem TB.sl{T:TypeId}{b:Nat}(h:TB T W b ts)(hF:F b)(hl:ts.length<=maxLen)(hk:∀k∈ts,k<=2000000):ak W F (aG (zU ts)) ⟨some ⟨b,0,none⟩,b,0,ts.length⟩:=by
 have hcs:(zU ts).map (Value.int .i64)=ts.map (fun(n:Nat)=>Value.int .i64 n):=by simp[zU]
 refine ak.lit (cs:=(zU ts).map (Value.int .i64)) (by rw[hcs];exact h) (au.ints (fun z hz=>?_)) hF (by simp) hl;unfold zU at hz;obtain⟨k,hk1,rfl⟩:=List.mem_map.1 hz;have:=hk k hk1;constructor<;>omega
structure Ka (T0:TypeId) (J:Nat->(Nat->Prop)->World->Prop) (T T1:Nat->Prop) (W Wr:World) (j tb:Nat) (ts:List Nat):Prop where
 ext:Ext T T1 W Wr
 mod:Mod T W Wr
 inv:J j T1 Wr
 nt:¬T1 tb
 ge:W.heap.size<=tb
 box:TB T0 Wr tb ts
theorem Ka.lt{T0:TypeId}{J:Nat->(Nat->Prop)->World->Prop}{T T1:Nat->Prop}{W Wr:World}{j tb:Nat}{ts:List Nat}(h:Ka T0 J T T1 W Wr j tb ts)(hT:∀k,T k->k<W.heap.size):∀k,T1 k->k<Wr.heap.size:=h.ext.lt h.mod.size hT
theorem Ka.own{W':World}{ts':List Nat}(h:Ka T0 J T T1 W Wr j tb ts)(hJ:lu W.heap.size J)(hm:Mod (fun k=>k=tb) Wr W')(hb:TB T0 W' tb ts'):Ka T0 J T T1 W W' j tb ts':=by
 have hs:=h.mod.size;refine⟨fun k hk=>?_,h.mod.trans hm (fun k hk e=>by have:=h.ge;omega),hJ _ _ _ _ _ h.inv hm (fun k hk=>by subst hk;exact⟨h.ge,h.nt⟩),h.nt,h.ge,hb⟩;rcases h.ext k hk with g|g
 ·exact .inl g
 ·exact .inr ⟨g.1,by have:=hm.size;omega⟩
theorem Ka.round{J2:Nat->(Nat->Prop)->World->Prop}{T2 S:Nat->Prop}{W2:World}{j2:Nat}(h:Ka T0 J T T1 W Wr j tb ts)(hS:∀k,S k->W.heap.size<=k/\k<Wr.heap.size/\k≠tb)(he:Ext (fun k=>T1 k∨S k) T2 Wr W2)(hm:Mod (fun k=>T1 k∨S k) Wr W2)(hj:J2 j2 T2 W2):Ka T0 J2 T T2 W W2 j2 tb ts:=by
 have hs:=h.mod.size;have hlt:tb<Wr.heap.size:=(gS h.box).1;have hn:¬(T1 tb∨S tb):=fun g=>by
  rcases g with g|g
  ·exact h.nt g
  ·exact(hS _ g).2.2 rfl
 have hE:Ext T (fun k=>T1 k∨S k) W Wr:=fun k hk=>by
  rcases hk with g|g
  ·exact h.ext k g
  ·exact .inr ⟨(hS k g).1,(hS k g).2.1⟩
 exact⟨hE.trans he hs hm.size,h.mod.ext hm hE,hj,he.not hlt hn,h.ge,ai h.box hm hn⟩
def Og(W:World)(g o:Nat)(c0 c1 c2 c3:Value):World:=(((W.setCell ⟨g,o,none⟩ c0).setCell ⟨g,o+1,none⟩ c1).setCell ⟨g,o+2,none⟩ c2).setCell ⟨g,o+3,none⟩ c3
def wS(W:World)(mb H:Nat)(t e:TypeId)(xs:List D)(T1:Nat->Prop):Prop:=∃T',(∀k,T1 k↔T' k∨k=mb)/\jv W H t e 4 H xs T'
theorem wS.mb{W:World}{mb H:Nat}{t e:TypeId}{xs:List D}{T1:Nat->Prop}(h:wS W mb H t e xs T1):T1 mb:=by
 obtain⟨T',h1,_⟩:=h;exact(h1 _).2 (.inr rfl)
theorem wS.kept{W W':World}{mb H:Nat}{t e:TypeId}{xs:List D}{T1 S:Nat->Prop}(h:wS W mb H t e xs T1)(hm:Mod S W W')(hS:∀k,S k->¬T1 k):wS W' mb H t e xs T1:=by
 obtain⟨T',h1,h2⟩:=h;exact⟨T',h1,h2.kept hm (fun k hk h=>hS k hk ((h1 k).2 (.inl h)))⟩
theorem ED.mono{P:Program}{g:Nat}{lb:Array Value}{m sz:Nat}{E:Nat->Array Value->(Nat->Prop)->World->Prop}{D D':Nat->Prop}{w w':World}(h:ED P g lb m sz E D w)(ha:Agree D w w')(hD:∀k,D k->D' k):ED P g lb m sz E D' w':=by
 intro l J Jx T W h1 h2 h3 h4 h5 h6 h7;exact h l J Jx T W (ha.trans (h1.mono hD)) (fun k hk=>h2 k (hD k hk)) h3 h4 h5 h6 h7
theorem au.Jz{w:World}{F:Nat->Prop}{x:D}{cs:List Value}(h:aM w F x cs):∀n:Nat,au w F (List.replicate n x) (List.replicate n cs).flatten
 |0=>by rw[List.replicate_zero,List.replicate_zero,List.flatten_nil,au]
 |n+1=>by
  rw[List.replicate_succ,List.replicate_succ,List.flatten_cons,au];exact⟨cs,_,rfl,h,au.Jz h n⟩
def iC(W:World)(B:Nat)(e:TypeId)(v:Value)(ts:List Tr):Prop:=∃F,dK W B F e 4 v (ts.map Tr.toD)/\∀k,F k->B<=k
theorem Tr.bz:∀ts:List Tr,aa.bz (ts.map Tr.toD)=ts.length*4
 |[]=>rfl
 |t::r=>by
  have:=Tr.bz r;have h:=Tr.width t;simp only[List.map_cons,aa.bz,List.length_cons,this,h];omega
theorem iC.nil(W:World)(B:Nat)(e:TypeId):iC W B e (.slice none 0 0) []:=⟨fun _=>False,dK.nil _ _ _ _ _ (fun _ h=>h.elim),fun _ h=>h.elim⟩
theorem iC.form{W:World}{B:Nat}{e:TypeId}{v:Value}{ts:List Tr}(h:iC W B e v ts):∃a cap,v=.slice a ts.length cap:=by
 obtain⟨F,h1,_⟩:=h;obtain⟨a,cap,e⟩:=h1.form;exact⟨a,cap,by rw[e,List.length_map]⟩
theorem iC.sl{ts:List Tr}(h:iC W B e v ts):∃u:aB,v=u.val ts.length/\ak W (fun k=>B<=k/\k<W.heap.size) (ts.map Tr.toD) u:=by
 obtain⟨F,⟨r,h1,h2⟩,h3⟩:=h;have h4:=h1.read (G:=fun k=>B<=k/\k<W.heap.size) (fun k hk=>⟨h3 k hk,h1.lt k hk⟩) (fun k hk=>⟨h2 k hk,h1.gX hk⟩) (by rw[Tr.bz,List.length_map]);obtain⟨u,hu,hs⟩:=aM.bB.1 h4;simp only[List.cons.injEq,and_true] at hu;exact⟨u,by rw[hu,List.length_map],hs⟩
theorem iC.call{Wc W0:World}{mb:Nat}{ts:List Tr}{t:D}(h:iC Wc B e v ts)(hm:Mod (fun k=>k=mb) Wc W0)(hmb:mb<B)(hB:B<=Wc.heap.size)(ht:aM W0 (fun k=>Wc.heap.size<=k/\k<W0.heap.size) t cs):
  ∃F,dK W0 B F e 4 v (ts.map Tr.toD)/\au W0 F [t] cs/\∀k,F k->B<=k:=by
 obtain⟨F,⟨r,h1,h2⟩,h3⟩:=h;have hz:=hm.size;refine⟨fun k=>F k∨(Wc.heap.size<=k/\k<W0.heap.size),⟨r,(h1.kept hm (fun k hk e=>by have:=h3 k hk;omega) (fun k hk e=>by have:=h2 k hk;omega)).widen (fun _=>.inl) (fun k hk hk'=>?_) (fun k hk=>?_),h2⟩,?_,fun k hk=>?_⟩
 ·rcases hk' with h|h
  ·exact h1.off k hk h
  ·have:=h1.gX hk;omega
 ·rcases hk with h|h
  ·have:=h1.lt k h;omega
  ·exact h.2
 ·rw[au];exact⟨cs,[],(List.append_nil _).symm,aM.mono (fun k hk=>.inr hk) _ _ ht,by rw[au]⟩
 ·rcases hk with h|h
  ·exact h3 k h
  ·omega
theorem iC.of{ts:List Tr}(h:dK W B F e 4 v (ts.map Tr.toD++[t.toD]))(hF:∀k,F k->B<=k):iC W B e v (ts++[t]):=⟨F,by rw[List.map_append];exact h,hF⟩
theorem iC.kept{W W':World}{B mb:Nat}{e:TypeId}{v:Value}{ts:List Tr}(h:iC W B e v ts)(hm:Mod (fun k=>k=mb) W W')(hmb:mb<B):iC W' B e v ts:=by
 obtain⟨F,⟨r,h1,h2⟩,h3⟩:=h;exact⟨F,⟨r,h1.kept hm (fun k hk e=>by have:=h3 k hk;omega) (fun k hk e=>by have:=h2 k hk;omega),h2⟩,h3⟩
structure dz where
 rule:Int
 binds:List Int
 tree:Tr
abbrev dz.ins(x:dz):Ins:=⟨x.rule,x.binds⟩
def dz.toD(x:dz):D:=.st [.int .i64 x.rule,.sl (aG x.binds),x.tree.toD]
theorem dz.width(x:dz):x.toD.width=6:=by simp[dz.toD,D.width,bz,Tr.width]
structure jV where
 b:aB
 k0:Int
 k1:Int
 k2:Int
 a:Option Addr
 n:Nat
 cap:Nat
abbrev jV.cells(y:jV)(i:dz):List Value:=[.int .i64 i.rule,y.b.val i.binds.length,.int .i64 y.k0,.int .i64 y.k1,.int .i64 y.k2,.slice y.a y.n y.cap]
structure gm (w:World) (F:Nat->Prop) (i:dz) (y:jV):Prop where
 rule:jh i.rule
 binds:ak w F (aG i.binds) y.b
 tree:aM w F i.tree.toD [.int .i64 y.k0,.int .i64 y.k1,.int .i64 y.k2,.slice y.a y.n y.cap]
theorem Tr.ES(h:aM w F t.toD cs):∃k0 k1 k2 a n cap,cs=[.int .i64 k0,.int .i64 k1,.int .i64 k2,.slice a n cap]:=by
 cases t with
 |mk kind v k l=>
  rw[Tr.toD,aM] at h;simp only[au] at h;obtain⟨_,_,rfl,h0,_,_,rfl,h1,_,_,rfl,h2,_,_,rfl,h3,rfl⟩:=h;rw[aM] at h0;rw[aM] at h1;rw[aM] at h2;obtain⟨rfl,_⟩:=h0;obtain⟨rfl,_⟩:=h1;obtain⟨rfl,_⟩:=h2;obtain⟨x,rfl,_⟩:=aM.bB.1 h3;exact⟨_,_,_,_,_,_,rfl⟩
theorem gm.iff{i:dz}:aM w F i.toD cs↔ ∃y:jV,cs=y.cells i/\gm w F i y:=by
 rw[dz.toD,aM];simp only[au];constructor
 ·rintro⟨_,_,rfl,h0,_,_,rfl,h1,c2,_,rfl,h2,rfl⟩;rw[aM] at h0;obtain⟨rfl,h0⟩:=h0;obtain⟨b,rfl,k1⟩:=aM.bB.1 h1;obtain⟨k0,q1,q2,a,n,cap,rfl⟩:=Tr.ES h2;exact⟨⟨b,k0,q1,q2,a,n,cap⟩,by simp[jV.cells,aG],jh.oo h0,k1,h2⟩
 ·rintro⟨y,rfl,h0,h1,h2⟩;exact⟨[_],_,rfl,by rw[aM];exact⟨rfl,h0.wf⟩,[_],_,rfl,aM.bB.2 ⟨y.b,by simp[aG],h1⟩,_,[],(List.append_nil _).symm,h2,rfl⟩
theorem gm.agree{F:Nat->Prop}{w w':World}{i:dz}{y:jV}(h:gm w F i y)(ha:Agree F w w'):gm w' F i y:=⟨h.rule,h.binds.agree ha,aM.agree ha _ _ h.tree⟩
theorem gm.mono{F G:Nat->Prop}{w:World}{i:dz}{y:jV}(h:gm w F i y)(lh:∀k,F k->G k):gm w G i y:=⟨h.rule,h.binds.mono lh,aM.mono lh _ _ h.tree⟩
theorem gm.later{i:dz}{y:jV}{C:Nat}(h:gm w (·<B) i y)(hb:Below B w w')(hC:B<=C):gm w' (·<C) i y:=(h.agree (af hb)).mono (fun _ hk=>Nat.lt_of_lt_of_le hk hC)
theorem ak.O7{l:List dz}{x:aB}(h:ak w F (l.map dz.toD) x)(i:Nat)(hi:i<l.length):
  ∃y:jV,gm w F l[i] y/\av w x.b (x.o+i*6) (y.cells l[i]):=by
 obtain⟨cs,h1,h2⟩:=h.row.get (sz:=6) (fun d hd=>by obtain⟨t,_,rfl⟩:=List.mem_map.1 hd;exact t.width) i (by simpa using hi);rw[List.getElem_map] at h1;obtain⟨y,rfl,h3⟩:=gm.iff.1 h1;exact⟨y,h3,h2⟩
def aO(s:Bs):D:=.str ⟨s.toArray⟩
theorem aZ:jd aO 1:=⟨fun _=>rfl,fun _=>rfl⟩
theorem jJ{s:Bs}(h:s.length<=maxLen):au w F [aO s] [.string ⟨s.toArray⟩]:=by
 rw[au];exact⟨[_],[],rfl,by rw[aO,aM];exact⟨rfl,by rw[aS];exact h⟩,by rw[au]⟩
def qP(w:World)(v:Value)(l:List Bs):Prop:=∃x:aB,v=.slice x.a l.length x.cap/\ak w (·<w.heap.size) (l.map aO) x
theorem qP.nil(w:World):qP w (.slice none 0 0) []:=⟨⟨none,0,0,0⟩,rfl,ak.nil (Nat.zero_le _) _ _ _⟩
theorem qP.below{l:List Bs}(h:qP w v l)(hb:Below w.heap.size w w'):qP w' v l:=by
 obtain⟨x,h1,h2⟩:=h;exact⟨x,h1,h2.later hb hb.size⟩
end Go.aa
namespace Go.Proofs.YtncnnbmeacpboaaGreatDoor
open Go.RowKit Go.aa
attribute [local go_sem] Oper.semAt_some
variable {W Wr w w':World} {F T T1:Nat->Prop} {ts:List Nat} {T0 e:TypeId} {J:Nat->(Nat->Prop)->World->Prop} {j tb B:Nat} {v:Value} {cs:List Value} {t:Tr}
theorem nC(s:ax)(x:bH)(l:List aV)(z:aB)(w:World)(hI:gq)(hs:dh w (·<w.heap.size) s x)(hf:iE s)(hz:ak w (·<w.heap.size) (l.map aV.toD) z)(hl:l.length<=2000000)(hfr:∀r∈l,gL r)(hg:GG w):
  Calls Tryz.prog 23 #[.agg (x.cells s).toArray,.slice z.a l.length z.cap] w fun e w'=>e=.returned (.int .i64 (okF s l))/\Below w.heap.size w w':=by
 obtain⟨W1,hW1⟩:∃W1,W1=w.alloc (.cells (x.cells s).toArray 28):=⟨_,rfl⟩;have hb1:Below w.heap.size w W1:=by rw[hW1];exact(Below.refl _ _).alloc (Nat.le_refl _) _
 have HC:=Lh (Ae s x W1 hI (hs.later hb1 hb1.size) hf (hg.below hb1));have HT:=Lh (fun(W:World) (hb:Below w.heap.size w W)=>Au l z W (hz.later hb hb.size) hl hfr (hg.below hb));have HB1:=Lh hb1;have hbx:W1.heap[w.heap.size]?=some (.cells (x.cells s).toArray 28 (0,0)):=by rw[hW1,ae,if_pos rfl]
 obtain⟨c0,c1,c2,c3,c4⟩:=(show bL W1 w.heap.size s x from hbx).cells;obtain⟨R,hR⟩:∃R,R=okF s l:=⟨_,rfl⟩;rw[<-hR];obtain⟨e,he⟩:∃e,e=bM s:=⟨_,rfl⟩;rw[<-he] at HC;have HR:Hid (R=if e≠0 then e else(j6 l).2):=Lh (by rw[hR,he];rfl);have HW1:=Lh hW1;clear hR he hs hf hz hfr hg hb1 hbx hW1;simp only[bH.cells,aB.val] at HC HW1 ⊢;go_enter Tryz.func23,Tryz.ntmps23;go_upto_region 1 with fail
 rw[<-HW1.out];go_wp2_with fail;refine HC.out.mono ?_;rintro e' w2 ⟨rfl,hb2⟩;have HB2:=Lh (HB1.out.trans (hb2.mono HB1.out.size));clear hb2 c0 c1 c2 c3 c4;by_cases h0:e=0
 ·subst h0;go_wp2_with fail;refine(HT.out w2 HB2.out).mono ?_;rintro e' w3 ⟨rfl,hb3⟩;have HB3:=Lh (HB2.out.trans (hb3.mono HB2.out.size));clear hb3;go_wp2_with fail;go_ret;exact⟨by rw[HR.out];rfl,HB3.out⟩
 ·have h1:(e==0)=false:=by simpa using h0
  have jT:Hid (R=e):=Lh (by rw[HR.out,if_pos h0]);clear HR;go_wp2_with fail;go_ret;exact⟨by rw[jT.out];rfl,HB2.out⟩
end Go.Proofs.YtncnnbmeacpboaaGreatDoor
