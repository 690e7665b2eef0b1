/- Joined texts: EvE, GPl, GEachP, GEachQ, EvF, GMk, GKids, URight. -/
import Derived.Test.YtncnnbmeacpboaaGreatDoorN32
import Derived.Test.YtncnnbmeacpboaaGreatDoorN06
import Derived.Laws.MakeOwn
import Derived.Sort.LoopGhostIn
import Derived.Sort.QuietIn
import Derived.Test.YtncnnbmeacpboaaGreatDoorN12
import Derived.Test.YtncnnbmeacpboaaGreatDoorN21
import Derived.Test.YtncnnbmeacpboaaGreatDoorN13
import Derived.Deep.AppendLies
import Derived.Deep.RegionLaw
import Derived.Test.YtncnnbmeacpboaaGreatDoorN30
import Derived.Test.YtncnnbmeacpboaaGreatDoorN07
set_option maxHeartbeats 1000000
set_option maxRecDepth 100000
set_option linter.unusedVariables false
set_option linter.unusedSimpArgs false
/- eval.tuples: the iterator. -/
namespace Go.Chalk
open Go.RowKit
def TB (T:TypeId) (W:World) (b:Nat) (ts:List Nat):Prop:=W.heap[b]?=some (.cells (ts.map (fun (n:Nat)=>Value.int .i64 n)).toArray T (0,0))
theorem TB.cell {T:TypeId} {W:World} {b:Nat} {ts:List Nat} (h:TB T W b ts) (i:Nat) (hi:i<ts.length):W.cell? ⟨b,i,none⟩=some (.int .i64 ts[i]):=cH h (by simp [hi])
theorem TB.sl {T:TypeId} {W:World} {F:Nat->Prop} {b:Nat} {ts:List Nat} (h:TB T W b ts) (hF:F b) (hl:ts.length<=maxLen) (hk:∀ k∈ts,k<=2000000):SlIn W F (dints (nats ts)) ⟨some ⟨b,0,none⟩,b,0,ts.length⟩:=by
 have hcs:(nats ts).map (Value.int .i64)=ts.map (fun (n:Nat)=>Value.int .i64 n):=by simp [nats]
 refine SlIn.lit (cs:=(nats ts).map (Value.int .i64)) (by rw [hcs];exact h) (DsAt.ints (fun z hz=>?_)) hF (by simp) hl
 unfold nats at hz
 obtain ⟨k,hk1,rfl⟩:=List.mem_map.1 hz
 have:=hk k hk1
 constructor <;> omega
structure TuB (T0:TypeId) (J:Nat->(Nat->Prop)->World->Prop) (T T1:Nat->Prop) (W Wr:World) (j tb:Nat) (ts:List Nat):Prop where
 ext:Ext T T1 W Wr
 mod:Mod T W Wr
 inv:J j T1 Wr
 nt:¬ T1 tb
 ge:W.heap.size<=tb
 box:TB T0 Wr tb ts
theorem TuB.lt {T0:TypeId} {J:Nat->(Nat->Prop)->World->Prop} {T T1:Nat->Prop} {W Wr:World} {j tb:Nat} {ts:List Nat} (h:TuB T0 J T T1 W Wr j tb ts) (hT:∀ k,T k->k<W.heap.size):∀ k,T1 k->k<Wr.heap.size:=h.ext.lt h.mod.size hT
theorem TuB.own {T0:TypeId} {J:Nat->(Nat->Prop)->World->Prop} {T T1:Nat->Prop} {W Wr W':World} {j tb:Nat} {ts ts':List Nat} (h:TuB T0 J T T1 W Wr j tb ts) (hJ:Stab W.heap.size J) (hm:Mod (fun k=>k=tb) Wr W') (hb:TB T0 W' tb ts'):TuB T0 J T T1 W W' j tb ts':=by
 have hs:=h.mod.size
 refine ⟨fun k hk=>?_,h.mod.trans hm (fun k hk e=>by have:=h.ge;omega),hJ _ _ _ _ _ h.inv hm (fun k hk=>by subst hk;exact ⟨h.ge,h.nt⟩),h.nt,h.ge,hb⟩
 rcases h.ext k hk with g | g
 ·exact .inl g
 ·exact .inr ⟨g.1,by have:=hm.size;omega⟩
theorem TuB.round {T0:TypeId} {J J2:Nat->(Nat->Prop)->World->Prop} {T T1 T2 S:Nat->Prop} {W Wr W2:World} {j j2 tb:Nat} {ts:List Nat} (h:TuB T0 J T T1 W Wr j tb ts) (hS:∀ k,S k->W.heap.size<=k/\k<Wr.heap.size/\k ≠ tb) (he:Ext (fun k=>T1 k∨S k) T2 Wr W2) (hm:Mod (fun k=>T1 k∨S k) Wr W2) (hj:J2 j2 T2 W2):TuB T0 J2 T T2 W W2 j2 tb ts:=by
 have hs:=h.mod.size
 have hlt:tb<Wr.heap.size:=(gS h.box).1
 have hn:¬ (T1 tb∨S tb):=fun g=>by
  rcases g with g | g
  ·exact h.nt g
  ·exact (hS _ g).2.2 rfl
 have hE:Ext T (fun k=>T1 k∨S k) W Wr:=fun k hk=>by
  rcases hk with g | g
  ·exact h.ext k g
  ·exact .inr ⟨(hS k g).1,(hS k g).2.1⟩
 exact ⟨hE.trans he hs hm.size,h.mod.ext hm hE,hj,he.not hlt hn,h.ge,heap_kept h.box hm hn⟩
end Go.Chalk
namespace Go.Proofs.YtncnnbmeacpboaaGreatDoor
open Go.RowKit Go.Chalk
attribute [local go_sem] Oper.semAt_some
end Go.Proofs.YtncnnbmeacpboaaGreatDoor
/- ground.place: the last element of an environment that has a name. -/
namespace Go.Chalk
open Go.RowKit
end Go.Chalk
namespace Go.Proofs.YtncnnbmeacpboaaGreatDoor
open Go.RowKit Go.Chalk
attribute [local go_sem] Oper.semAt_some
end Go.Proofs.YtncnnbmeacpboaaGreatDoor
/- A list in a box grows by an element that is appended as zero and stored behind. No program is named here. -/
namespace Go.Chalk
open Go.RowKit
def put4 (W:World) (g o:Nat) (c0 c1 c2 c3:Value):World:=(((W.setCell ⟨g,o,none⟩ c0).setCell ⟨g,o+1,none⟩ c1).setCell ⟨g,o+2,none⟩ c2).setCell ⟨g,o+3,none⟩ c3
def BoxMb (W:World) (mb H:Nat) (t e:TypeId) (xs:List D) (T1:Nat->Prop):Prop:=∃ T',(∀ k,T1 k ↔ T' k∨k=mb)/\BoxOwn W H t e 4 H xs T'
theorem BoxMb.mb {W:World} {mb H:Nat} {t e:TypeId} {xs:List D} {T1:Nat->Prop} (h:BoxMb W mb H t e xs T1):T1 mb:=by
 obtain ⟨T',h1,_⟩:=h;exact (h1 _).2 (.inr rfl)
theorem BoxMb.kept {W W':World} {mb H:Nat} {t e:TypeId} {xs:List D} {T1 S:Nat->Prop} (h:BoxMb W mb H t e xs T1) (hm:Mod S W W') (hS:∀ k,S k->¬ T1 k):BoxMb W' mb H t e xs T1:=by
 obtain ⟨T',h1,h2⟩:=h;exact ⟨T',h1,h2.kept hm (fun k hk h=>hS k hk ((h1 k).2 (.inl h)))⟩
end Go.Chalk
/- An element is appended as zero: the append, in a region that draws its order. No program is named here. -/
namespace Go.Chalk
open Go.RowKit
variable {P:Program}
end Go.Chalk
/- eval: tuples, with. -/
namespace Go.Chalk
open Go.RowKit
theorem IterV.mono {P:Program} {g:Nat} {lb:Array Value} {m sz:Nat} {E:Nat->Array Value->(Nat->Prop)->World->Prop} {D D':Nat->Prop} {w w':World} (h:IterV P g lb m sz E D w) (ha:Agree D w w') (hD:∀ k,D k->D' k):IterV P g lb m sz E D' w':=by
 intro l J Jx T W h1 h2 h3 h4 h5 h6 h7
 exact h l J Jx T W (ha.trans (h1.mono hD)) (fun k hk=>h2 k (hD k hk)) h3 h4 h5 h6 h7
variable {P:Program}
end Go.Chalk
namespace Go.Proofs.YtncnnbmeacpboaaGreatDoor
open Go.RowKit Go.Chalk
attribute [local go_sem] Oper.semAt_some
end Go.Proofs.YtncnnbmeacpboaaGreatDoor
/- ground's maker: the variable, its first week, a node. -/
namespace Go.Chalk
open Go.RowKit
theorem DsAt.repl {w:World} {F:Nat->Prop} {x:D} {cs:List Value} (h:DAt w F x cs):∀ n:Nat,DsAt w F (List.replicate n x) (List.replicate n cs).flatten
 | 0=>by rw [List.replicate_zero,List.replicate_zero,List.flatten_nil,DsAt]
 | n+1=>by
  rw [List.replicate_succ,List.replicate_succ,List.flatten_cons,DsAt]
  exact ⟨cs,_,rfl,h,DsAt.repl h n⟩
end Go.Chalk
namespace Go.Proofs.YtncnnbmeacpboaaGreatDoor
open Go.RowKit Go.Chalk
attribute [local go_sem] Oper.semAt_some
end Go.Proofs.YtncnnbmeacpboaaGreatDoor
/- ground's trees: the list of the parts as it grows; a node. No program is named here. -/
namespace Go.Chalk
open Go.RowKit
def KidsAt (W:World) (B:Nat) (e:TypeId) (v:Value) (ts:List Tr):Prop:=∃ F,OwnN W B F e 4 v (ts.map Tr.toD)/\∀ k,F k->B<=k
theorem Tr.widths:∀ ts:List Tr,Chalk.widths (ts.map Tr.toD)=ts.length*4
 | []=>rfl
 | t :: r=>by
  have:=Tr.widths r
  have h:=Tr.width t
  simp only [List.map_cons,Chalk.widths,List.length_cons,this,h];omega
theorem KidsAt.nil (W:World) (B:Nat) (e:TypeId):KidsAt W B e (.slice none 0 0) []:=⟨fun _=>False,OwnN.nil _ _ _ _ _ (fun _ h=>h.elim),fun _ h=>h.elim⟩
theorem KidsAt.form {W:World} {B:Nat} {e:TypeId} {v:Value} {ts:List Tr} (h:KidsAt W B e v ts):∃ a cap,v=.slice a ts.length cap:=by
 obtain ⟨F,h1,_⟩:=h
 obtain ⟨a,cap,e⟩:=h1.form
 exact ⟨a,cap,by rw [e,List.length_map]⟩
theorem KidsAt.sl {W:World} {B:Nat} {e:TypeId} {v:Value} {ts:List Tr} (h:KidsAt W B e v ts):∃ u:SlA,v=u.val ts.length/\SlIn W (fun k=>B<=k/\k<W.heap.size) (ts.map Tr.toD) u:=by
 obtain ⟨F,⟨r,h1,h2⟩,h3⟩:=h
 have h4:=h1.read (G:=fun k=>B<=k/\k<W.heap.size) (fun k hk=>⟨h3 k hk,h1.lt k hk⟩) (fun k hk=>⟨h2 k hk,h1.row_lt hk⟩) (by rw [Tr.widths,List.length_map])
 obtain ⟨u,hu,hs⟩:=DAt.sl_iff.1 h4
 simp only [List.cons.injEq,and_true] at hu
 exact ⟨u,by rw [hu,List.length_map],hs⟩
theorem KidsAt.call {Wc W0:World} {B mb:Nat} {e:TypeId} {v:Value} {ts:List Tr} {t:D} {cs:List Value} (h:KidsAt Wc B e v ts) (hm:Mod (fun k=>k=mb) Wc W0) (hmb:mb<B) (hB:B<=Wc.heap.size) (ht:DAt W0 (fun k=>Wc.heap.size<=k/\k<W0.heap.size) t cs) :
  ∃ F,OwnN W0 B F e 4 v (ts.map Tr.toD)/\DsAt W0 F [t] cs/\∀ k,F k->B<=k:=by
 obtain ⟨F,⟨r,h1,h2⟩,h3⟩:=h
 have hz:=hm.size
 refine ⟨fun k=>F k∨(Wc.heap.size<=k/\k<W0.heap.size),⟨r,(h1.kept hm (fun k hk e=>by have:=h3 k hk;omega) (fun k hk e=>by have:=h2 k hk;omega)).widen (fun _=>.inl) (fun k hk hk'=>?_) (fun k hk=>?_),h2⟩,?_,fun k hk=>?_⟩
 ·rcases hk' with h | h
  ·exact h1.off k hk h
  ·have:=h1.row_lt hk;omega
 ·rcases hk with h | h
  ·have:=h1.lt k h;omega
  ·exact h.2
 ·rw [DsAt]
  exact ⟨cs,[],(List.append_nil _).symm,DAt.mono (fun k hk=>.inr hk) _ _ ht,by rw [DsAt]⟩
 ·rcases hk with h | h
  ·exact h3 k h
  ·omega
theorem KidsAt.of {W:World} {B:Nat} {F:Nat->Prop} {e:TypeId} {v:Value} {ts:List Tr} {t:Tr} (h:OwnN W B F e 4 v (ts.map Tr.toD++[t.toD])) (hF:∀ k,F k->B<=k):KidsAt W B e v (ts++[t]):=⟨F,by rw [List.map_append];exact h,hF⟩
theorem KidsAt.kept {W W':World} {B mb:Nat} {e:TypeId} {v:Value} {ts:List Tr} (h:KidsAt W B e v ts) (hm:Mod (fun k=>k=mb) W W') (hmb:mb<B):KidsAt W' B e v ts:=by
 obtain ⟨F,⟨r,h1,h2⟩,h3⟩:=h
 exact ⟨F,⟨r,h1.kept hm (fun k hk e=>by have:=h3 k hk;omega) (fun k hk e=>by have:=h2 k hk;omega),h2⟩,h3⟩
end Go.Chalk
/- tell.right; instances and texts in memory. -/
namespace Go.Chalk
open Go.RowKit
structure Inx where
 rule:Int
 binds:List Int
 tree:Tr
abbrev Inx.ins (x:Inx):Ins:=⟨x.rule,x.binds⟩
def Inx.toD (x:Inx):D:=.st [.int .i64 x.rule,.sl (dints x.binds),x.tree.toD]
theorem Inx.width (x:Inx):x.toD.width=6:=by simp [Inx.toD,D.width,widths,Tr.width]
structure InxA where
 b:SlA
 k0:Int
 k1:Int
 k2:Int
 a:Option Addr
 n:Nat
 cap:Nat
abbrev InxA.cells (y:InxA) (i:Inx):List Value:=[.int .i64 i.rule,y.b.val i.binds.length,.int .i64 y.k0,.int .i64 y.k1,.int .i64 y.k2,.slice y.a y.n y.cap]
structure InxIn (w:World) (F:Nat->Prop) (i:Inx) (y:InxA):Prop where
 rule:I64 i.rule
 binds:SlIn w F (dints i.binds) y.b
 tree:DAt w F i.tree.toD [.int .i64 y.k0,.int .i64 y.k1,.int .i64 y.k2,.slice y.a y.n y.cap]
theorem Tr.cells_of {w:World} {F:Nat->Prop} {t:Tr} {cs:List Value} (h:DAt w F t.toD cs):∃ k0 k1 k2 a n cap,cs=[.int .i64 k0,.int .i64 k1,.int .i64 k2,.slice a n cap]:=by
 cases t with
 | mk kind v k l =>
  rw [Tr.toD,DAt] at h
  simp only [DsAt] at h
  obtain ⟨_,_,rfl,h0,_,_,rfl,h1,_,_,rfl,h2,_,_,rfl,h3,rfl⟩:=h
  rw [DAt] at h0;rw [DAt] at h1;rw [DAt] at h2
  obtain ⟨rfl,_⟩:=h0
  obtain ⟨rfl,_⟩:=h1
  obtain ⟨rfl,_⟩:=h2
  obtain ⟨x,rfl,_⟩:=DAt.sl_iff.1 h3
  exact ⟨_,_,_,_,_,_,rfl⟩
theorem InxIn.iff {w:World} {F:Nat->Prop} {i:Inx} {cs:List Value}:DAt w F i.toD cs ↔ ∃ y:InxA,cs=y.cells i/\InxIn w F i y:=by
 rw [Inx.toD,DAt]
 simp only [DsAt]
 constructor
 ·rintro ⟨_,_,rfl,h0,_,_,rfl,h1,c2,_,rfl,h2,rfl⟩
  rw [DAt] at h0
  obtain ⟨rfl,h0⟩:=h0
  obtain ⟨b,rfl,k1⟩:=DAt.sl_iff.1 h1
  obtain ⟨k0,q1,q2,a,n,cap,rfl⟩:=Tr.cells_of h2
  exact ⟨⟨b,k0,q1,q2,a,n,cap⟩,by simp [InxA.cells,dints],I64.of_wf h0,k1,h2⟩
 ·rintro ⟨y,rfl,h0,h1,h2⟩
  exact ⟨[_],_,rfl,by rw [DAt];exact ⟨rfl,h0.wf⟩,[_],_,rfl,DAt.sl_iff.2 ⟨y.b,by simp [dints],h1⟩,_,[],(List.append_nil _).symm,h2,rfl⟩
theorem InxIn.agree {F:Nat->Prop} {w w':World} {i:Inx} {y:InxA} (h:InxIn w F i y) (ha:Agree F w w'):InxIn w' F i y:=⟨h.rule,h.binds.agree ha,DAt.agree ha _ _ h.tree⟩
theorem InxIn.mono {F G:Nat->Prop} {w:World} {i:Inx} {y:InxA} (h:InxIn w F i y) (hFG:∀ k,F k->G k):InxIn w G i y:=⟨h.rule,h.binds.mono hFG,DAt.mono hFG _ _ h.tree⟩
theorem InxIn.later {w w':World} {i:Inx} {y:InxA} {B C:Nat} (h:InxIn w (·<B) i y) (hb:Below B w w') (hC:B<=C):InxIn w' (·<C) i y:=(h.agree (agree_of_below hb)).mono (fun _ hk=>Nat.lt_of_lt_of_le hk hC)
theorem SlIn.inx {w:World} {F:Nat->Prop} {l:List Inx} {x:SlA} (h:SlIn w F (l.map Inx.toD) x) (i:Nat) (hi:i<l.length) :
  ∃ y:InxA,InxIn w F l[i] y/\CellsAt w x.b (x.o+i*6) (y.cells l[i]):=by
 obtain ⟨cs,h1,h2⟩:=h.row.get (sz:=6) (fun d hd=>by obtain ⟨t,_,rfl⟩:=List.mem_map.1 hd;exact t.width) i (by simpa using hi)
 rw [List.getElem_map] at h1
 obtain ⟨y,rfl,h3⟩:=InxIn.iff.1 h1
 exact ⟨y,h3,h2⟩
def dstr (s:Bs):D:=.str ⟨s.toArray⟩
theorem dstr_flat:FlatT dstr 1:=⟨fun _=>rfl,fun _=>rfl⟩
theorem dstr_at {w:World} {F:Nat->Prop} {s:Bs} (h:s.length<=maxLen):DsAt w F [dstr s] [.string ⟨s.toArray⟩]:=by
 rw [DsAt];exact ⟨[_],[],rfl,by rw [dstr,DAt];exact ⟨rfl,by rw [bs_size];exact h⟩,by rw [DsAt]⟩
def TxtsV (w:World) (v:Value) (l:List Bs):Prop:=∃ x:SlA,v=.slice x.a l.length x.cap/\SlIn w (·<w.heap.size) (l.map dstr) x
theorem TxtsV.nil (w:World):TxtsV w (.slice none 0 0) []:=⟨⟨none,0,0,0⟩,rfl,SlIn.nil (Nat.zero_le _) _ _ _⟩
theorem TxtsV.below {w w':World} {v:Value} {l:List Bs} (h:TxtsV w v l) (hb:Below w.heap.size w w'):TxtsV w' v l:=by
 obtain ⟨x,h1,h2⟩:=h
 exact ⟨x,h1,h2.later hb hb.size⟩
end Go.Chalk
namespace Go.Proofs.YtncnnbmeacpboaaGreatDoor
open Go.RowKit Go.Chalk
attribute [local go_sem] Oper.semAt_some
theorem tright_any (s:Schl) (x:SchA) (l:List Rul) (z:SlA) (w:World) (hI:ItoaAt) (hs:SchIn w (·<w.heap.size) s x) (hf:SchFit s) (hz:SlIn w (·<w.heap.size) (l.map Rul.toD) z) (hl:l.length<=2000000) (hfr:∀ r∈l,RulFit r) (hg:GG w) :
  Calls Tryz.prog 23 #[.agg (x.cells s).toArray,.slice z.a l.length z.cap] w fun e w'=>e=.returned (.int .i64 (okF s l))/\Below w.heap.size w w':=by
 obtain ⟨W1,hW1⟩:∃ W1,W1=w.alloc (.cells (x.cells s).toArray 28):=⟨_,rfl⟩
 have hb1:Below w.heap.size w W1:=by rw [hW1];exact (Below.refl _ _).alloc (Nat.le_refl _) _
 have HC:=Lh (scheck_any s x W1 hI (hs.later hb1 hb1.size) hf (hg.below hb1))
 have HT:=Lh (fun (W:World) (hb:Below w.heap.size w W)=>trules_any l z W (hz.later hb hb.size) hl hfr (hg.below hb))
 have HB1:=Lh hb1
 have hbx:W1.heap[w.heap.size]?=some (.cells (x.cells s).toArray 28 (0,0)):=by rw [hW1,heap_get,if_pos rfl]
 obtain ⟨c0,c1,c2,c3,c4⟩:=(show SchBox W1 w.heap.size s x from hbx).cells
 obtain ⟨R,hR⟩:∃ R,R=okF s l:=⟨_,rfl⟩
 rw [<- hR]
 obtain ⟨e,he⟩:∃ e,e=schCheck s:=⟨_,rfl⟩
 rw [<- he] at HC
 have HR:Hid (R=if e ≠ 0 then e else (typRules l).2):=Lh (by rw [hR,he];rfl)
 have HW1:=Lh hW1
 clear hR he hs hf hz hfr hg hb1 hbx hW1
 simp only [SchA.cells,SlA.val] at HC HW1 ⊢
 go_enter Tryz.func23,Tryz.ntmps23
 go_upto_region 1 with fail
 rw [<- HW1.out]
 go_wp2_with fail
 refine HC.out.mono ?_
 rintro e' w2 ⟨rfl,hb2⟩
 have HB2:=Lh (HB1.out.trans (hb2.mono HB1.out.size))
 clear hb2 c0 c1 c2 c3 c4
 by_cases h0:e=0
 ·subst h0
  go_wp2_with fail
  refine (HT.out w2 HB2.out).mono ?_
  rintro e' w3 ⟨rfl,hb3⟩
  have HB3:=Lh (HB2.out.trans (hb3.mono HB2.out.size))
  clear hb3
  go_wp2_with fail
  go_ret
  exact ⟨by rw [HR.out];rfl,HB3.out⟩
 ·have h1:(e==0)=false:=by simpa using h0
  have HRE:Hid (R=e):=Lh (by rw [HR.out,if_pos h0])
  clear HR
  go_wp2_with fail
  go_ret
  exact ⟨by rw [HRE.out];rfl,HB2.out⟩
end Go.Proofs.YtncnnbmeacpboaaGreatDoor
