/- Parts of the proof. -/
import Derived.Test.YtncnnbmeacpboaaGreatDoorQ32
import Derived.Sort.LoopGhostIn
import Derived.Sort.QuietIn
import Derived.Test.YtncnnbmeacpboaaGreatDoorQ13
import Derived.Test.YtncnnbmeacpboaaGreatDoorQ07
set_option maxHeartbeats 1000000
set_option maxRecDepth 100000
set_option linter.unusedVariables false
set_option linter.unusedSimpArgs false
namespace Go.aa
open Go.RowKit
variable {W Wr w w':World} {F T T1:Nat->Prop} {ts:List Nat} {T0 e:TypeId} {J:Nat->(Nat->Prop)->World->Prop} {j tb B:Nat} {v:Value} {cs:List Value} {t:Tr}
def TB(T:TypeId)(W:World)(b:Nat)(ts:List Nat):Prop:=W.heap[b]?=some (.cells (ts.map (fun(n:Nat)=>Value.int .i64 n)).toArray T (0,0))
theorem TB.cell{T:TypeId}{W:World}{b:Nat}{ts:List Nat}(h:TB T W b ts)(i:Nat)(hi:i<ts.length):W.cell? ⟨b,i,none⟩=some (.int .i64 ts[i]):=cH h (by simp[hi])
theorem TB.sl{T:TypeId}{b:Nat}(h:TB T W b ts)(hF:F b)(hl:ts.length<=maxLen)(hk:∀k∈ts,k<=2000000):aj W F (bD (Eb ts)) ⟨some ⟨b,0,none⟩,b,0,ts.length⟩:=by
 have hcs:(Eb ts).map (Value.int .i64)=ts.map (fun(n:Nat)=>Value.int .i64 n):=by simp[Eb]
 refine aj.lit (cs:=(Eb ts).map (Value.int .i64)) (by rw[hcs];exact h) (au.ints (fun z hz=>?_)) hF (by simp) hl;unfold Eb at hz;obtain⟨k,hk1,rfl⟩:=List.mem_map.1 hz;have:=hk k hk1;constructor<;>omega
structure Pw (T0:TypeId) (J:Nat->(Nat->Prop)->World->Prop) (T T1:Nat->Prop) (W Wr:World) (j tb:Nat) (ts:List Nat):Prop where
 ext:Ext T T1 W Wr
 mod:Mod T W Wr
 inv:J j T1 Wr
 nt:¬T1 tb
 ge:W.heap.size<=tb
 box:TB T0 Wr tb ts
theorem Pw.lt{T0:TypeId}{J:Nat->(Nat->Prop)->World->Prop}{T T1:Nat->Prop}{W Wr:World}{j tb:Nat}{ts:List Nat}(h:Pw T0 J T T1 W Wr j tb ts)(hT:∀k,T k->k<W.heap.size):∀k,T1 k->k<Wr.heap.size:=h.ext.lt h.mod.size hT
theorem Pw.own{W':World}{ts':List Nat}(h:Pw T0 J T T1 W Wr j tb ts)(hJ:nD W.heap.size J)(hm:Mod (fun k=>k=tb) Wr W')(hb:TB T0 W' tb ts'):Pw T0 J T T1 W W' j tb ts':=by
 have hs:=h.mod.size;refine⟨fun k hk=>?_,h.mod.trans hm (fun k hk e=>by have:=h.ge;omega),hJ _ _ _ _ _ h.inv hm (fun k hk=>by subst hk;exact⟨h.ge,h.nt⟩),h.nt,h.ge,hb⟩;rcases h.ext k hk with g|g
 ·exact .inl g
 ·exact .inr ⟨g.1,by have:=hm.size;omega⟩
theorem Pw.round{J2:Nat->(Nat->Prop)->World->Prop}{T2 S:Nat->Prop}{W2:World}{j2:Nat}(h:Pw T0 J T T1 W Wr j tb ts)(hS:∀k,S k->W.heap.size<=k/\k<Wr.heap.size/\k≠tb)(he:Ext (fun k=>T1 k∨S k) T2 Wr W2)(hm:Mod (fun k=>T1 k∨S k) Wr W2)(hj:J2 j2 T2 W2):Pw T0 J2 T T2 W W2 j2 tb ts:=by
 have hs:=h.mod.size;have hlt:tb<Wr.heap.size:=(gS h.box).1;have hn:¬(T1 tb∨S tb):=fun g=>by
  rcases g with g|g
  ·exact h.nt g
  ·exact(hS _ g).2.2 rfl
 have hE:Ext T (fun k=>T1 k∨S k) W Wr:=fun k hk=>by
  rcases hk with g|g
  ·exact h.ext k g
  ·exact .inr ⟨(hS k g).1,(hS k g).2.1⟩
 exact⟨hE.trans he hs hm.size,h.mod.ext hm hE,hj,he.not hlt hn,h.ge,av h.box hm hn⟩
def TS(W:World)(g o:Nat)(c0 c1 c2 c3:Value):World:=(((W.setCell ⟨g,o,none⟩ c0).setCell ⟨g,o+1,none⟩ c1).setCell ⟨g,o+2,none⟩ c2).setCell ⟨g,o+3,none⟩ c3
def Al(W:World)(mb H:Nat)(t e:TypeId)(xs:List D)(T1:Nat->Prop):Prop:=∃T',(∀k,T1 k↔T' k∨k=mb)/\kJ W H t e 4 H xs T'
theorem Al.mb{W:World}{mb H:Nat}{t e:TypeId}{xs:List D}{T1:Nat->Prop}(h:Al W mb H t e xs T1):T1 mb:=by
 obtain⟨T',h1,_⟩:=h;exact(h1 _).2 (.inr rfl)
theorem Al.kept{W W':World}{mb H:Nat}{t e:TypeId}{xs:List D}{T1 S:Nat->Prop}(h:Al W mb H t e xs T1)(hm:Mod S W W')(hS:∀k,S k->¬T1 k):Al W' mb H t e xs T1:=by
 obtain⟨T',h1,h2⟩:=h;exact⟨T',h1,h2.kept hm (fun k hk h=>hS k hk ((h1 k).2 (.inl h)))⟩
theorem JP.mono{P:Program}{g:Nat}{lb:Array Value}{m sz:Nat}{E:Nat->Array Value->(Nat->Prop)->World->Prop}{D D':Nat->Prop}{w w':World}(h:JP P g lb m sz E D w)(ha:Agree D w w')(hD:∀k,D k->D' k):JP P g lb m sz E D' w':=by
 intro l J Jx T W h1 h2 h3 h4 h5 h6 h7;exact h l J Jx T W (ha.trans (h1.mono hD)) (fun k hk=>h2 k (hD k hk)) h3 h4 h5 h6 h7
theorem au.OT{w:World}{F:Nat->Prop}{x:D}{cs:List Value}(h:bg w F x cs):∀n:Nat,au w F (List.replicate n x) (List.replicate n cs).flatten
 |0=>by rw[List.replicate_zero,List.replicate_zero,List.flatten_nil,au]
 |n+1=>by
  rw[List.replicate_succ,List.replicate_succ,List.flatten_cons,au];exact⟨cs,_,rfl,h,au.OT h n⟩
def jy(W:World)(B:Nat)(e:TypeId)(v:Value)(ts:List Tr):Prop:=∃F,fP W B F e 4 v (ts.map Tr.toD)/\∀k,F k->B<=k
theorem Tr.bO:∀ts:List Tr,aa.bO (ts.map Tr.toD)=ts.length*4
 |[]=>rfl
 |t::r=>by
  have:=Tr.bO r;have h:=Tr.width t;simp only[List.map_cons,aa.bO,List.length_cons,this,h];omega
theorem jy.nil(W:World)(B:Nat)(e:TypeId):jy W B e (.slice none 0 0) []:=⟨fun _=>False,fP.nil _ _ _ _ _ (fun _ h=>h.elim),fun _ h=>h.elim⟩
theorem jy.form{W:World}{B:Nat}{e:TypeId}{v:Value}{ts:List Tr}(h:jy W B e v ts):∃a cap,v=.slice a ts.length cap:=by
 obtain⟨F,h1,_⟩:=h;obtain⟨a,cap,e⟩:=h1.form;exact⟨a,cap,by rw[e,List.length_map]⟩
theorem jy.sl{ts:List Tr}(h:jy W B e v ts):∃u:aK,v=u.val ts.length/\aj W (fun k=>B<=k/\k<W.heap.size) (ts.map Tr.toD) u:=by
 obtain⟨F,⟨r,h1,h2⟩,h3⟩:=h;have h4:=h1.read (G:=fun k=>B<=k/\k<W.heap.size) (fun k hk=>⟨h3 k hk,h1.lt k hk⟩) (fun k hk=>⟨h2 k hk,h1.fQ hk⟩) (by rw[Tr.bO,List.length_map]);obtain⟨u,hu,hs⟩:=bg.cO.1 h4;simp only[List.cons.injEq,and_true] at hu;exact⟨u,by rw[hu,List.length_map],hs⟩
theorem jy.call{Wc W0:World}{mb:Nat}{ts:List Tr}{t:D}(h:jy Wc B e v ts)(hm:Mod (fun k=>k=mb) Wc W0)(hmb:mb<B)(hB:B<=Wc.heap.size)(ht:bg W0 (fun k=>Wc.heap.size<=k/\k<W0.heap.size) t cs):
  ∃F,fP W0 B F e 4 v (ts.map Tr.toD)/\au W0 F [t] cs/\∀k,F k->B<=k:=by
 obtain⟨F,⟨r,h1,h2⟩,h3⟩:=h;have hz:=hm.size;refine⟨fun k=>F k∨(Wc.heap.size<=k/\k<W0.heap.size),⟨r,(h1.kept hm (fun k hk e=>by have:=h3 k hk;omega) (fun k hk e=>by have:=h2 k hk;omega)).widen (fun _=>.inl) (fun k hk hk'=>?_) (fun k hk=>?_),h2⟩,?_,fun k hk=>?_⟩
 ·rcases hk' with h|h
  ·exact h1.off k hk h
  ·have:=h1.fQ hk;omega
 ·rcases hk with h|h
  ·have:=h1.lt k h;omega
  ·exact h.2
 ·rw[au];exact⟨cs,[],(List.append_nil _).symm,bg.mono (fun k hk=>.inr hk) _ _ ht,by rw[au]⟩
 ·rcases hk with h|h
  ·exact h3 k h
  ·omega
theorem jy.of{ts:List Tr}(h:fP W B F e 4 v (ts.map Tr.toD++[t.toD]))(hF:∀k,F k->B<=k):jy W B e v (ts++[t]):=⟨F,by rw[List.map_append];exact h,hF⟩
theorem jy.kept{W W':World}{B mb:Nat}{e:TypeId}{v:Value}{ts:List Tr}(h:jy W B e v ts)(hm:Mod (fun k=>k=mb) W W')(hmb:mb<B):jy W' B e v ts:=by
 obtain⟨F,⟨r,h1,h2⟩,h3⟩:=h;exact⟨F,⟨r,h1.kept hm (fun k hk e=>by have:=h3 k hk;omega) (fun k hk e=>by have:=h2 k hk;omega),h2⟩,h3⟩
structure gp where
 rule:Int
 binds:List Int
 tree:Tr
abbrev gp.ins(x:gp):Ins:=⟨x.rule,x.binds⟩
def gp.toD(x:gp):D:=.st [.int .i64 x.rule,.sl (bD x.binds),x.tree.toD]
theorem gp.width(x:gp):x.toD.width=6:=by simp[gp.toD,D.width,bO,Tr.width]
structure jL where
 b:aK
 k0:Int
 k1:Int
 k2:Int
 a:Option Addr
 n:Nat
 cap:Nat
abbrev jL.cells(y:jL)(i:gp):List Value:=[.int .i64 i.rule,y.b.val i.binds.length,.int .i64 y.k0,.int .i64 y.k1,.int .i64 y.k2,.slice y.a y.n y.cap]
structure fU (w:World) (F:Nat->Prop) (i:gp) (y:jL):Prop where
 rule:ku i.rule
 binds:aj w F (bD i.binds) y.b
 tree:bg w F i.tree.toD [.int .i64 y.k0,.int .i64 y.k1,.int .i64 y.k2,.slice y.a y.n y.cap]
theorem Tr.Kc(h:bg w F t.toD cs):∃k0 k1 k2 a n cap,cs=[.int .i64 k0,.int .i64 k1,.int .i64 k2,.slice a n cap]:=by
 cases t with
 |mk kind v k l=>
  rw[Tr.toD,bg] at h;simp only[au] at h;obtain⟨_,_,rfl,h0,_,_,rfl,h1,_,_,rfl,h2,_,_,rfl,h3,rfl⟩:=h;rw[bg] at h0;rw[bg] at h1;rw[bg] at h2;obtain⟨rfl,_⟩:=h0;obtain⟨rfl,_⟩:=h1;obtain⟨rfl,_⟩:=h2;obtain⟨x,rfl,_⟩:=bg.cO.1 h3;exact⟨_,_,_,_,_,_,rfl⟩
theorem fU.iff{i:gp}:bg w F i.toD cs↔ ∃y:jL,cs=y.cells i/\fU w F i y:=by
 rw[gp.toD,bg];simp only[au];constructor
 ·rintro⟨_,_,rfl,h0,_,_,rfl,h1,c2,_,rfl,h2,rfl⟩;rw[bg] at h0;obtain⟨rfl,h0⟩:=h0;obtain⟨b,rfl,k1⟩:=bg.cO.1 h1;obtain⟨k0,q1,q2,a,n,cap,rfl⟩:=Tr.Kc h2;exact⟨⟨b,k0,q1,q2,a,n,cap⟩,by simp[jL.cells,bD],ku.qW h0,k1,h2⟩
 ·rintro⟨y,rfl,h0,h1,h2⟩;exact⟨[_],_,rfl,by rw[bg];exact⟨rfl,h0.wf⟩,[_],_,rfl,bg.cO.2 ⟨y.b,by simp[bD],h1⟩,_,[],(List.append_nil _).symm,h2,rfl⟩
theorem fU.agree{F:Nat->Prop}{w w':World}{i:gp}{y:jL}(h:fU w F i y)(ha:Agree F w w'):fU w' F i y:=⟨h.rule,h.binds.agree ha,bg.agree ha _ _ h.tree⟩
theorem fU.mono{F G:Nat->Prop}{w:World}{i:gp}{y:jL}(h:fU w F i y)(nu:∀k,F k->G k):fU w G i y:=⟨h.rule,h.binds.mono nu,bg.mono nu _ _ h.tree⟩
theorem fU.later{i:gp}{y:jL}{C:Nat}(h:fU w (·<B) i y)(hb:Below B w w')(hC:B<=C):fU w' (·<C) i y:=(h.agree (ag hb)).mono (fun _ hk=>Nat.lt_of_lt_of_le hk hC)
theorem aj.Ws{l:List gp}{x:aK}(h:aj w F (l.map gp.toD) x)(i:Nat)(hi:i<l.length):
  ∃y:jL,fU w F l[i] y/\ay w x.b (x.o+i*6) (y.cells l[i]):=by
 obtain⟨cs,h1,h2⟩:=h.row.get (sz:=6) (fun d hd=>by obtain⟨t,_,rfl⟩:=List.mem_map.1 hd;exact t.width) i (by simpa using hi);rw[List.getElem_map] at h1;obtain⟨y,rfl,h3⟩:=fU.iff.1 h1;exact⟨y,h3,h2⟩
def bM(s:Bs):D:=.str ⟨s.toArray⟩
theorem bV:kK bM 1:=⟨fun _=>rfl,fun _=>rfl⟩
theorem lG{s:Bs}(h:s.length<=maxLen):au w F [bM s] [.string ⟨s.toArray⟩]:=by
 rw[au];exact⟨[_],[],rfl,by rw[bM,bg];exact⟨rfl,by rw[aZ];exact h⟩,by rw[au]⟩
def uJ(w:World)(v:Value)(l:List Bs):Prop:=∃x:aK,v=.slice x.a l.length x.cap/\aj w (·<w.heap.size) (l.map bM) x
theorem uJ.nil(w:World):uJ w (.slice none 0 0) []:=⟨⟨none,0,0,0⟩,rfl,aj.nil (Nat.zero_le _) _ _ _⟩
theorem uJ.below{l:List Bs}(h:uJ w v l)(hb:Below w.heap.size w w'):uJ w' v l:=by
 obtain⟨x,h1,h2⟩:=h;exact⟨x,h1,h2.later hb hb.size⟩
end Go.aa
namespace Go.Proofs.YtncnnbmeacpboaaGreatDoor
open Go.RowKit Go.aa
attribute [local go_sem] Oper.semAt_some
variable {W Wr w w':World} {F T T1:Nat->Prop} {ts:List Nat} {T0 e:TypeId} {J:Nat->(Nat->Prop)->World->Prop} {j tb B:Nat} {v:Value} {cs:List Value} {t:Tr}
theorem qc(s:aF)(x:bS)(l:List bq)(z:aK)(w:World)(hI:iL)(hs:dD w (·<w.heap.size) s x)(hf:gQ s)(hz:aj w (·<w.heap.size) (l.map bq.toD) z)(hl:l.length<=2000000)(hfr:∀r∈l,gF r)(hg:GG w):
  Calls Tryz.prog 23 #[.agg (x.cells s).toArray,.slice z.a l.length z.cap] w fun e w'=>e=.returned (.int .i64 (okF s l))/\Below w.heap.size w w':=by
 obtain⟨W1,hW1⟩:∃W1,W1=w.alloc (.cells (x.cells s).toArray 28):=⟨_,rfl⟩;have hb1:Below w.heap.size w W1:=by rw[hW1];exact(Below.refl _ _).alloc (Nat.le_refl _) _
 have HC:=Lh (EE s x W1 hI (hs.later hb1 hb1.size) hf (hg.below hb1));have HT:=Lh (fun(W:World) (hb:Below w.heap.size w W)=>EW l z W (hz.later hb hb.size) hl hfr (hg.below hb));have HB1:=Lh hb1;have hbx:W1.heap[w.heap.size]?=some (.cells (x.cells s).toArray 28 (0,0)):=by rw[hW1,af,if_pos rfl]
 obtain⟨c0,c1,c2,c3,c4⟩:=(show bX W1 w.heap.size s x from hbx).cells;obtain⟨R,hR⟩:∃R,R=okF s l:=⟨_,rfl⟩;rw[<-hR];obtain⟨e,he⟩:∃e,e=bE s:=⟨_,rfl⟩;rw[<-he] at HC;have HR:Hid (R=if e≠0 then e else(iI l).2):=Lh (by rw[hR,he];rfl);have HW1:=Lh hW1;clear hR he hs hf hz hfr hg hb1 hbx hW1;simp only[bS.cells,aK.val] at HC HW1 ⊢;go_enter Tryz.func23,Tryz.ntmps23;go_upto_region 1 with fail
 rw[<-HW1.out];go_wp2_with fail;refine HC.out.mono ?_;rintro e' w2 ⟨rfl,hb2⟩;have HB2:=Lh (HB1.out.trans (hb2.mono HB1.out.size));clear hb2 c0 c1 c2 c3 c4;by_cases h0:e=0
 ·subst h0;go_wp2_with fail;refine(HT.out w2 HB2.out).mono ?_;rintro e' w3 ⟨rfl,hb3⟩;have HB3:=Lh (HB2.out.trans (hb3.mono HB2.out.size));clear hb3;go_wp2_with fail;go_ret;exact⟨by rw[HR.out];rfl,HB3.out⟩
 ·have h1:(e==0)=false:=by simpa using h0
  have kr:Hid (R=e):=Lh (by rw[HR.out,if_pos h0]);clear HR;go_wp2_with fail;go_ret;exact⟨by rw[kr.out];rfl,HB2.out⟩
end Go.Proofs.YtncnnbmeacpboaaGreatDoor
