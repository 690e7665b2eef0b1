/- Parts of the proof. -/
import Derived.Test.YtncnnbmeacpboaaGreatDoorQ04
import Derived.RangeFuncNested
import Derived.RangeFuncBound
import Derived.OwnWalkIn
import Derived.TacticsInMore
import Derived.LoopNIn
import Derived.LoopIn
import Derived.Shelf.Abstract
set_option linter.unusedVariables false
set_option linter.unusedSimpArgs false
namespace Go.aa
open Go.RowKit
variable {T T1 T2 T' D:Nat->Prop} {A B C W W' w Wr W2:World} {g:Operand} {ps:Array Tmp} {assign body c:Code} {Q:Exit->Act->World->Prop} {a:Act} {gf m m' j N:Nat} {lb:Array Value} {α:Type} {P:Program} {enc enc' args:Nat->Array Value} {J Jx:Nat->(Nat->Prop)->World->Prop} {f0:FuncId}
def Ext(T T':Nat->Prop)(W W':World):Prop:=∀k,T' k->T k∨(W.heap.size<=k/\k<W'.heap.size)
theorem Ext.refl(T:Nat->Prop)(W W':World):Ext T T W W':=fun _ h=>.inl h
theorem Ext.trans(h:Ext T T1 A B)(k:Ext T1 T2 B C)(h1:A.heap.size<=B.heap.size)(h2:B.heap.size<=C.heap.size):Ext T T2 A C:=fun i hi=>by
 rcases k i hi with g|g
 ·rcases h i g with g|g
  ·exact .inl g
  ·exact .inr (by omega)
 ·exact .inr (by omega)
theorem Ext.lt(h:Ext T T' W W')(hs:W.heap.size<=W'.heap.size)(hT:∀k,T k->k<W.heap.size):∀k,T' k->k<W'.heap.size:=fun k hk=>by
 rcases h k hk with g|g
 ·have:=hT k g;omega
 ·exact g.2
theorem Ext.not(h:Ext T T' W W'){k:Nat}(hk:k<W.heap.size)(hT:¬T k):¬T' k:=fun g=>by
 rcases h k g with g|g
 ·exact hT g
 ·omega
theorem Mod.ext(h:Mod T A B)(k:Mod T1 B C)(he:Ext T T1 A B):Mod T A C:=h.trans k (fun i hi g=>by
 rcases he i g with g|g
 ·exact g
 ·omega)
def nD(N:Nat)(J:Nat->(Nat->Prop)->World->Prop):Prop:=∀i T W W' S,J i T W->Mod S W W'->(∀k,S k->N<=k/\¬T k)->J i T W'
def jA(J Jx:Nat->(Nat->Prop)->World->Prop)(T:Nat->Prop)(W:World)(i:Nat)(e:Ending)(W':World):Prop:=
 ∃T',Ext T T' W W'/\Mod T W W'/\((e=.returned (.bool true)/\J (i+1) T' W')∨(e=.returned (.bool false)/\Jx (i+1) T' W'))
def kN(J Jx:Nat->(Nat->Prop)->World->Prop)(T:Nat->Prop)(W:World)(m:Nat)(e:Ending)(W':World):Prop:=
 (∃v,e=.returned v)/\∃T',Ext T T' W W'/\Mod T W W'/\(J m T' W'∨∃i,0<i/\i<=m/\Jx i T' W')
def Iter(P:Program)(g:Nat)(lb:Array Value)(m:Nat)(enc:Nat->Array Value)(D:Nat->Prop)(w:World):Prop:=
 ∀(l:Nat) (J Jx:Nat->(Nat->Prop)->World->Prop) (T:Nat->Prop) (W:World),
  Agree D w W->(∀k,D k->k<W.heap.size/\¬T k)->(∀k,T k->k<W.heap.size)->nD W.heap.size J->nD W.heap.size Jx->
  (∀i T1 W1,i<m->J i T1 W1->(∀k,T1 k->k<W1.heap.size)->YieldAt Fence.wide 0 P l (enc i) W1 (jA J Jx T1 W1 i))->
  J 0 T W->Calls P g (#[.func (.yield l) #[] #[]]++lb) W (kN J Jx T W m)
def Jz(I:Nat->(Nat->Prop)->World->Prop)(Ix:Code->Nat->(Nat->Prop)->World->Prop)(T:Nat->Prop)(W:World)(i:Nat):Exit->Act->World->Prop
 | .normal,_,W'=>∃T',Ext T T' W W'/\Mod T W W'/\I i T' W'
 | .ret,_,W'=>∃T',Ext T T' W W'/\Mod T W W'/\Ix .ret i T' W'
 | .exit id,_,W'=>∃T',Ext T T' W W'/\Mod T W W'/\Ix (.exit id) i T' W'
 | .goto t,_,W'=>∃T',Ext T T' W W'/\Mod T W W'/\Ix (.goto t) i T' W'
 |_,_,_=>False
theorem Mod.putObj(W:World)(l:Nat)(o:Obj):Mod (fun k=>k=l) W (W.putObj l o):=
 Mod.vX (grownBy_putObj' W l o) (fun k hk=>by simpa using hk.symm)
theorem av{S:Nat->Prop}{k:Nat}{o:Obj}(h:W.heap[k]?=some o)(hm:Mod S W W')(hS:¬S k):W'.heap[k]?=some o:=
 (hm.block k (gS h).1 hS).trans h
end Go.aa
namespace Go.aa
open Go.RowKit
variable {P:Program}
variable {T T1 T2 T' D:Nat->Prop} {A B C W W' w Wr W2:World} {g:Operand} {ps:Array Tmp} {assign body c:Code} {Q:Exit->Act->World->Prop} {a:Act} {gf m m' j N:Nat} {lb:Array Value} {α:Type} {P:Program} {enc enc' args:Nat->Array Value} {J Jx:Nat->(Nat->Prop)->World->Prop} {f0:FuncId}
theorem C7(hg:a.eval g=.func (.func gf) #[] lb)(eg:∀args w,(callFunc gf args).run P w=.ok (.enter gf args) w){m:Nat}{enc:Nat->Array Value}{D:Nat->Prop}(hseq:Iter P gf lb m enc D w)(hps:∀i,i<m->(enc i).size=ps.size)(T:Nat->Prop)(hD:∀k,D k->k<w.heap.size/\¬T k)(hT:∀k,T k->k<w.heap.size)(I:Nat->(Nat->Prop)->World->Prop)(Ix:Code->Nat->(Nat->Prop)->World->Prop)(hI:nD w.heap.size I)(hIx:∀c,nD w.heap.size (Ix c))(h0:I 0 T w)(Ax:Nat->Nat->Act->(Nat->Prop)->World->Prop)(hAx:∀l i a' T1 W W',Ax l i a' T1 W->Mod (fun k=>k=l) W W'->Ax l i a' T1 W')(hassign:∀(l i:Nat) (T1:Nat->Prop) (W:World) (K:Act->World->Prop),i<m->Ext T T1 w W->Mod T w W->I i T1 W->(∀k,T1 k->k<W.heap.size)->l<W.heap.size->
   (∀a' T' W',Ext T1 T' W W'->Mod T1 W W'->I i T' W'->Ax l i a' T' W'->K a' W')->
   assign.wpIn (Fence.wide.inRound l) 0 P (Exit.then K (fun _ _ _=>False)) { tmps:=(ps.zip (enc i)).foldl (fun t (p,v)=>t.setIfInBounds p v) a.tmps,defers:=[]} W)(hbody:∀(l i:Nat) (T1:Nat->Prop) (a':Act) (W:World),i<m->Ext T T1 w W->Mod T w W->I i T1 W->Ax l i a' T1 W->(∀k,T1 k->k<W.heap.size)->w.heap.size<=l->¬T1 l->(∃r,W.heap[l]?=some (.loop r))->
   body.wpIn (Fence.wide.inRound l) 0 P (Jz I Ix T1 W (i+1)) a' W)(hdone:∀(D0:Nat) (T':Nat->Prop) (W:World),w.heap.size<=D0->D0<W.heap.size->¬T' D0->Ext T T' w W->Mod T w W->I m T' W->W.heap[D0]?=some (.deferred (some []))->Q .normal { a with defers:={ target:=.collected D0,args:=#[]}::a.defers} W)(hstop:∀(D0:Nat) (c:Code) (i:Nat) (T':Nat->Prop) (W:World),w.heap.size<=D0->D0<W.heap.size->¬T' D0->0<i->i<=m->Ext T T' w W->Mod T w W->Ix c i T' W->W.heap[D0]?=some (.deferred (some []))->c.wpIn Fence.wide 0 P Q { a with defers:={ target:=.collected D0,args:=#[]}::a.defers} W):
  (Code.rangeFunc g ps assign body).wpIn Fence.wide 0 P Q a w:=by
 refine wpIn_rangeFunc ?_;intro fn hfn;obtain⟨rec,hrec⟩:∃rec:LoopState->Option Code->Loop,rec=fun st pe=>{ state:=st,pending:=pe,fn,tmps:=a.tmps,params:=ps,assign,body,defers:=w.heap.size}:=⟨_,rfl⟩;obtain⟨W1,hW1⟩:∃W1,(w.alloc (.deferred (some []))).alloc (.loop (rec .ready none))=W1:=⟨_,rfl⟩;have hsz:W1.heap.size=w.heap.size+2:=by rw[<-hW1];simp
 have hL1:W1.heap[w.heap.size+1]?=some (.loop (rec .ready none)):=by
  rw[<-hW1];have:=World.alloc_heap_new (w.alloc (.deferred (some []))) (.loop (rec .ready none));rwa [World.size_alloc] at this
 have hK1:W1.heap[w.heap.size]?=some (.deferred (some [])):=by
  rw[<-hW1];exact(Below.heap_alloc _ _ _ (by simp)).trans (World.alloc_heap_new w _)
 have hm1:Mod (fun _=>False) w W1:=by rw[<-hW1];exact((Mod.refl _ w).alloc _).alloc _
 have hI1:I 0 T W1:=hI _ _ _ _ _ h0 hm1 (fun _ h=>h.elim);refine⟨w.heap.size+1,[{ target:=.collected w.heap.size,args:=#[]}],W1,{ target:=.fn (.func gf) lb,args:=#[.func (.yield (w.heap.size+1)) #[] #[]]},W1,gf,
  #[.func (.yield (w.heap.size+1)) #[] #[]]++lb,W1,?_,?_,?_,?_,fun h=>(by cases h),?_⟩
 ·rw[<-hW1,hrec];exact run_enterLoop_outer _ _ _ _ _
 ·simp only[resolve,hg];simp[go_sem]
 ·intro f' _;trivial
 ·simp[invoke,go_sem,eg]
 ·let T0:=T
  let X:(Nat->Prop)->Nat->Prop:=fun T1 k=>T1 k∨k=w.heap.size∨k=w.heap.size+1
  let J:Nat->(Nat->Prop)->World->Prop:=fun i T W=>∃T1,(∀k,T k↔X T1 k)/\¬T1 w.heap.size/\¬T1 (w.heap.size+1)/\(Ext T0 T1 w W/\Mod T0 w W)/\I i T1 W/\W.heap[w.heap.size+1]?=some (.loop (rec .ready none))/\W.heap[w.heap.size]?=some (.deferred (some []))
  let Jx:Nat->(Nat->Prop)->World->Prop:=fun i T W=>∃T1 c,(∀k,T k↔X T1 k)/\¬T1 w.heap.size/\¬T1 (w.heap.size+1)/\(Ext T0 T1 w W/\Mod T0 w W)/\Ix c i T1 W/\W.heap[w.heap.size+1]?=some (.loop (rec .done (some c)))/\W.heap[w.heap.size]?=some (.deferred (some []))
  have hST:∀ {T T1:Nat->Prop} {W W':World} {S:Nat->Prop},(∀k,T k↔X T1 k)->(∀k,S k->W1.heap.size<=k/\¬T k)->∀k,S k->w.heap.size<=k/\¬T1 k:=fun e hS k hk=>⟨by have:=(hS k hk).1;omega,fun h=>(hS k hk).2 ((e k).2 (.inl h))⟩;have Uz:∀ {T1:Nat->Prop} {W W':World} {S:Nat->Prop},Ext T0 T1 w W/\Mod T0 w W->Mod S W W'->(∀k,S k->w.heap.size<=k)->Ext T0 T1 w W'/\Mod T0 w W':=fun h hm hS=>
   ⟨fun k hk=>by rcases h.1 k hk with g|g;exact .inl g;exact .inr ⟨g.1,by have:=hm.size;omega⟩,h.2.trans hm (fun k hk g=>by have:=hS k g;omega)⟩
  have hJ:nD W1.heap.size J:=fun i T W W' S ⟨T1,e,n1,n2,hem,hi,hl,hk⟩ hm hS=>⟨T1,e,n1,n2,Uz hem hm (fun k hk=>by have:=(hS k hk).1;omega),hI _ _ _ _ _ hi hm (hST (W:=W) (W':=W') e hS),av hl hm (fun h=>(hS _ h).2 ((e _).2 (.inr (.inr rfl)))),av hk hm (fun h=>(hS _ h).2 ((e _).2 (.inr (.inl rfl))))⟩;have hJx:nD W1.heap.size Jx:=fun i T W W' S ⟨T1,c,e,n1,n2,hem,hi,hl,hk⟩ hm hS=>⟨T1,c,e,n1,n2,Uz hem hm (fun k hk=>by have:=(hS k hk).1;omega),hIx c _ _ _ _ _ hi hm (hST (W:=W) (W':=W') e hS),av hl hm (fun h=>(hS _ h).2 ((e _).2 (.inr (.inr rfl)))),av hk hm (fun h=>(hS _ h).2 ((e _).2 (.inr (.inl rfl))))⟩;refine callsIn_wide.2 ((hseq (w.heap.size+1) J Jx (X T) W1 (hm1.agree (fun k hk=>⟨(hD k hk).1,id⟩)) (fun k hk=>⟨by have:=(hD k hk).1;omega,fun h=>?_⟩) (fun k hk=>?_) hJ hJx ?_ ⟨T,fun _=>Iff.rfl,fun h=>by have:=hT _ h;omega,fun h=>by have:=hT _ h;omega,⟨Ext.refl _ _ _,hm1.mono (fun _ h=>h.elim)⟩,hI1,hL1,hK1⟩).mono ?_)
  ·have:=(hD k hk).1;rcases h with h|h|h
   ·exact(hD k hk).2 h
   ·omega
   ·omega
  ·rcases hk with h|h|h
   ·have:=hT k h;omega
   ·omega
   ·omega
  ·
   rintro i TT W him ⟨T1,e,n1,n2,hem,hi,hl,hk⟩ Zw;have hT1:∀k,T1 k->k<W.heap.size:=fun k hk=>Zw k ((e k).2 (.inl hk));have hy:=run_yield (P:=P) (args:=enc i) hl (by rw[hrec];exact hps i him);rw[hrec] at hy;refine⟨fn,_,assign,body,hy,roundIn_of_wpIn hfn (hassign _ i T1 W _ him hem.1 hem.2 hi hT1 (gS hl).1 ?_)⟩;clear hy;intro a' T2 Wa he2 hm2 hi2 hax;have hs2:=hm2.size;have hl2:=av hl hm2 n2;have hk2:=av hk hm2 n1;have hlt:w.heap.size+1<W.heap.size:=(gS hl).1;have hlt2:w.heap.size+1<Wa.heap.size:=by omega
   have n1':¬T2 w.heap.size:=he2.not (by omega) n1;have UN:¬T2 (w.heap.size+1):=he2.not hlt n2;have VK:=he2.lt hs2 hT1;refine⟨_,run_beginRound hl2 (by rw[hrec]),?_⟩;obtain⟨Wb,UE⟩:∃Wb,Wa.putObj (w.heap.size+1) (.loop { rec .ready none with state:=.busy})=Wb:=⟨_,rfl⟩;have hmb:Mod (fun k=>k=w.heap.size+1) Wa Wb:=by rw[<-UE];exact Mod.putObj _ _ _
   have hlb:Wb.heap[w.heap.size+1]?=some (.loop { rec .ready none with state:=.busy}):=by rw[<-UE];exact World.putObj_heap_same hlt2
   have hkb:=av hk2 hmb (by omega);have hd2:∀k,k=w.heap.size+1->w.heap.size<=k/\¬T2 k:=fun k hk=>⟨by omega,fun h=>UN (hk▸h)⟩;have hs0:=hem.2.size;have GZ:Ext T0 T2 w Wb/\Mod T0 w Wb:=Uz ⟨hem.1.trans he2 hs0 hs2,hem.2.ext hm2 hem.1⟩ hmb (fun k hk=>by omega);have hib:=hI _ _ _ _ _ hi2 hmb hd2;have VP:=hAx _ _ _ _ _ _ hax hmb;have hsb:Wb.heap.size=Wa.heap.size:=by rw[<-UE];simp
   rw[UE];refine wpIn_mono (hbody _ i T2 a' Wb him GZ.1 GZ.2 hib VP (by rw[hsb];exact VK) (by omega) UN ⟨_,hlb⟩) ?_;have fin:∀(jump:Option Code) (T3:Nat->Prop) (W3:World),Ext T2 T3 Wb W3->Mod T2 Wb W3->
     ∃W4,(Instr.endRound (w.heap.size+1) jump).run P W3=.ok (.bool jump.isNone) W4/\Mod (fun k=>k=w.heap.size+1) W3 W4/\
     W4.heap[w.heap.size+1]?=some (.loop (rec (if jump.isNone then .ready else .done) jump))/\W4.heap[w.heap.size]?=some (.deferred (some []))/\
     ¬T3 w.heap.size/\¬T3 (w.heap.size+1)/\Ext TT (X T3) W W4/\Mod TT W W4/\(Ext T0 T3 w W4/\Mod T0 w W4):=fun jump T3 W3 xZ xy=>by
    have hl3:=av hlb xy UN;have hk3:=av hkb xy n1';have hs3:=xy.size;have hr:=run_endRound (P:=P) jump hl3;refine⟨W3.putObj (w.heap.size+1) (.loop (rec (if jump.isNone then .ready else .done) jump)),by rw[hrec] at hr ⊢;exact hr,Mod.putObj _ _ _,World.putObj_heap_same (gS hl3).1,(World.putObj_heap_other (by omega)).trans hk3,xZ.not (by omega) n1',xZ.not (by omega) UN,?_,?_,Uz ⟨GZ.1.trans xZ GZ.2.size hs3,GZ.2.ext xy GZ.1⟩ (Mod.putObj _ _ _) (fun k hk=>by omega)⟩
    ·intro k hk;have hs4:(W3.putObj (w.heap.size+1) (.loop (rec (if jump.isNone then .ready else .done) jump))).heap.size=W3.heap.size:=by simp
     rcases hk with h|h|h
     ·rcases xZ k h with g|g
      ·rcases he2 k g with g|g
       ·exact .inl ((e k).2 (.inl g))
       ·exact .inr (by omega)
      ·exact .inr (by omega)
     ·exact .inl ((e k).2 (.inr (.inl h)))
     ·exact .inl ((e k).2 (.inr (.inr h)))
    ·have g1:Mod TT W Wa:=hm2.mono (fun k hk=>(e k).2 (.inl hk));have g2:Mod TT W Wb:=g1.trans hmb (fun k _ hk=>(e k).2 (.inr (.inr hk)));have g3:Mod TT W W3:=g2.trans xy (fun k hk1 hk2=>by
      rcases he2 k hk2 with g|g
      ·exact(e k).2 (.inl g)
      ·omega)
     exact g3.trans (Mod.putObj _ _ _) (fun k _ hk=>(e k).2 (.inr (.inr hk)))
   rintro ex a3 W3 hp;cases ex with
   |normal=>
    obtain⟨T3,xZ,xy,hi3⟩:=hp;obtain⟨W4,hr,KV,hl4,hk4,n3,n4,hE,hM,DI⟩:=fin none T3 W3 xZ xy;exact⟨_,_,hr,_,hE,hM,.inl ⟨rfl,T3,fun _=>Iff.rfl,n3,n4,DI,hI _ _ _ _ _ hi3 KV (fun k hk=>⟨by omega,fun h=>n4 (hk▸h)⟩),hl4,hk4⟩⟩
   |ret=>
    obtain⟨T3,xZ,xy,hi3⟩:=hp;obtain⟨W4,hr,KV,hl4,hk4,n3,n4,hE,hM,DI⟩:=fin (some .ret) T3 W3 xZ xy;exact⟨_,_,hr,_,hE,hM,.inr ⟨rfl,T3,.ret,fun _=>Iff.rfl,n3,n4,DI,hIx _ _ _ _ _ _ hi3 KV (fun k hk=>⟨by omega,fun h=>n4 (hk▸h)⟩),hl4,hk4⟩⟩
   |exit id=>
    obtain⟨T3,xZ,xy,hi3⟩:=hp;obtain⟨W4,hr,KV,hl4,hk4,n3,n4,hE,hM,DI⟩:=fin (some (.exit id)) T3 W3 xZ xy;exact⟨_,_,hr,_,hE,hM,.inr ⟨rfl,T3,.exit id,fun _=>Iff.rfl,n3,n4,DI,hIx _ _ _ _ _ _ hi3 KV (fun k hk=>⟨by omega,fun h=>n4 (hk▸h)⟩),hl4,hk4⟩⟩
   |goto t=>
    obtain⟨T3,xZ,xy,hi3⟩:=hp;obtain⟨W4,hr,KV,hl4,hk4,n3,n4,hE,hM,DI⟩:=fin (some (.goto t)) T3 W3 xZ xy;exact⟨_,_,hr,_,hE,hM,.inr ⟨rfl,T3,.goto t,fun _=>Iff.rfl,n3,n4,DI,hIx _ _ _ _ _ _ hi3 KV (fun k hk=>⟨by omega,fun h=>n4 (hk▸h)⟩),hl4,hk4⟩⟩
   |panic ch=>exact hp.elim
   |outgrown=>exact hp.elim
  ·
   rintro ee W2 ⟨⟨v,rfl⟩,TT,hE,hM,hor⟩;have hs2:=hM.size;have Zt:Mod T w W2:=(hm1.mono (T:=T) (fun _ h=>h.elim)).trans hM (fun k hk h=>by
    rcases h with h|h|h
    ·exact h
    ·omega
    ·omega)
   have hfin:∀(st:LoopState) (pe:Option Code) (T1:Nat->Prop),st≠ .busy->(∀k,TT k↔X T1 k)->¬T1 w.heap.size->¬T1 (w.heap.size+1)->W2.heap[w.heap.size+1]?=some (.loop (rec st pe))->W2.heap[w.heap.size]?=some (.deferred (some []))->
     ∃W4,(Instr.endLoop (w.heap.size+1)).run P W2=.ok pe W4/\Mod (fun k=>k=w.heap.size+1) W2 W4/\W4.heap[w.heap.size]?=some (.deferred (some []))/\Ext T T1 w W4/\Mod T w W4/\w.heap.size<W4.heap.size:=fun st pe T1 hst e n1 n2 hl hk=>by
    have hr:=run_endLoop (P:=P) hl (by rw[hrec];exact hst);have hmm:Mod (fun k=>k=w.heap.size+1) W2 (W2.putObj (w.heap.size+1) (.loop { rec st pe with state:=.exhausted})):=Mod.putObj _ _ _;refine⟨W2.putObj (w.heap.size+1) (.loop { rec st pe with state:=.exhausted}),by rw[hrec] at hr ⊢;exact hr,hmm,(World.putObj_heap_other (by omega)).trans hk,?_,?_,?_⟩
    ·intro k hk;rcases hE k ((e k).2 (.inl hk)) with h|h
     ·rcases h with h|h|h
      ·exact .inl h
      ·subst h;exact absurd hk n1
      ·subst h;exact absurd hk n2
     ·refine .inr ⟨by omega,?_⟩;simp;omega
    ·exact Zt.trans (Mod.putObj _ _ _) (fun k hk h=>by omega)
    ·simp;omega
   rcases hor with⟨T1,e,n1,n2,_,hi,hl,hk⟩|⟨i,hi0,him,T1,c,e,n1,n2,_,hi,hl,hk⟩
   ·obtain⟨W4,hr,KV,hk4,VE,VH,KU⟩:=hfin _ _ T1 (by simp) e n1 n2 hl hk;exact⟨none,W4,hr,hdone _ T1 W4 (Nat.le_refl _) KU n1 VE VH (hI _ _ _ _ _ hi KV (fun k hk=>⟨by omega,fun h=>n2 (hk▸h)⟩)) hk4⟩
   ·obtain⟨W4,hr,KV,hk4,VE,VH,KU⟩:=hfin _ _ T1 (by simp) e n1 n2 hl hk;exact⟨some c,W4,hr,hstop _ c i T1 W4 (Nat.le_refl _) KU n1 hi0 him VE VH (hIx c _ _ _ _ _ hi KV (fun k hk=>⟨by omega,fun h=>n2 (hk▸h)⟩)) hk4⟩
def mark(d:Nat):Deferred:={ target:=.collected d,args:=#[]}
theorem qR{fn:Func}{tmps:Array Value}{R:Ending->World->Prop}{v:Value}:∀(ds:List Nat) (W:World),(∀w,(results fn tmps).run P w=.ok v w)->ds.Nodup->(∀d∈ds,W.heap[d]?=some (.deferred (some [])))->
  (∀W',Mod (fun k=>k∈ds) W W'->R (.returned v) W')->LeavesInM Fence.wide 0 P fn tmps R (ds.map mark) .returning W
 |[],W,hv,_,_,hR=>⟨v,hv W,hR W (Mod.refl _ _)⟩
 |d::ds,W,hv,hn,hd,hR=>by
  have hd0:=hd d (by simp);obtain⟨hn0,hn⟩:=List.nodup_cons.1 hn;refine⟨by simp,.inl ⟨d,_,rfl,run_takeDeferred hd0,qR ds _ hv hn (fun e he=>?_) (fun W' hm=>hR W' ?_)⟩⟩
  ·have hne:e≠d:=fun h=>hn0 (h▸he);exact(World.putObj_heap_other hne).trans (hd e (by simp[he]))
  ·exact((Mod.putObj W d _).mono (fun k hk=>by simp[hk])).trans hm (fun k _ hk=>by simp[hk])
theorem fI{fn:Func}{tmps:Array Value}{R:Ending->World->Prop}{v:Value}:∀(ds:List Nat) (W:World),ds.Nodup->(∀d∈ds,W.heap[d]?=some (.deferred (some [])))->
  (∀W',Mod (fun k=>k∈ds) W W'->(results fn tmps).run P W'=.ok v W'/\R (.returned v) W')->LeavesInM Fence.wide 0 P fn tmps R (ds.map mark) .returning W
 |[],W,_,_,hR=>⟨v,(hR W (Mod.refl _ _)).1,(hR W (Mod.refl _ _)).2⟩
 |d::ds,W,hn,hd,hR=>by
  have hd0:=hd d (by simp);obtain⟨hn0,hn⟩:=List.nodup_cons.1 hn;refine⟨by simp,.inl ⟨d,_,rfl,run_takeDeferred hd0,fI ds _ hn (fun e he=>?_) (fun W' hm=>hR W' ?_)⟩⟩
  ·have hne:e≠d:=fun h=>hn0 (h▸he);exact(World.putObj_heap_other hne).trans (hd e (by simp[he]))
  ·exact((Mod.putObj W d _).mono (fun k hk=>by simp[hk])).trans hm (fun k _ hk=>by simp[hk])
theorem Bc{Q:Nat->α->Prop}(h:∀j,j<m->∃y,Q j y):∃ys:List α,ys.length=m/\∀(j:Nat) (hj:j<ys.length),Q j ys[j]:=by
 induction m with
 |zero=>exact⟨[],rfl,fun j hj=>by simp at hj⟩
 |succ m ih=>
  obtain⟨ys,hl,hq⟩:=ih (fun j hj=>h j (by omega));obtain⟨y,hy⟩:=h m (by omega);refine⟨ys++[y],by simp[hl],fun j hj=>?_⟩;by_cases hlt:j<ys.length
  ·rw[List.getElem_append_left hlt];exact hq j hlt
  ·have:j=m:=by simp at hj;omega
   subst this;rw[List.getElem_append_right (by omega)];simpa[hl] using hy
def jm{α:Type}(iT:List (List α))(j:Nat):Nat:=((iT.take j).map List.length).sum
theorem yx(iT:List (List α))(j:Nat)(h:j<iT.length):jm iT (j+1)=jm iT j+(iT[j]).length:=by
 unfold jm;rw[List.take_succ_eq_append_getElem h,List.map_append,List.sum_append];simp
theorem BP(iT:List (List α)):jm iT iT.length=iT.flatten.length:=by
 unfold jm;rw[List.take_of_length_le (Nat.le_refl _)];simp[List.length_flatten]
theorem BQ{α:Type}:∀(iT:List (List α)) (j i:Nat) (hj:j<iT.length) (hi:i<(iT[j]).length),iT.flatten[jm iT j+i]?=some (iT[j])[i]
 |[],j,_,hj,_=>by simp at hj
 |x::r,0,i,_,hi=>by
  simp only[List.getElem_cons_zero] at hi;simp[jm,List.getElem?_append_left hi]
 |x::r,j+1,i,hj,hi=>by
  have:=BQ r j i (by simpa using hj) (by simpa using hi);have e:jm (x::r) (j+1)=x.length+jm r j:=by simp[jm]
  rw[e,List.flatten_cons,List.getElem?_append_right (by omega)];rw[show x.length+jm r j+i-x.length=jm r j+i from by omega];simpa using this
theorem OH(iT:List (List α))(j:Nat)(h:j<=iT.length):jm iT j<=iT.flatten.length:=by
 have:∀d,j+d=iT.length->jm iT j<=iT.flatten.length:=by
  intro d
  induction d generalizing j with
  |zero=>intro e;rw[<-BP,<-e];exact Nat.le_refl _
  |succ d ih=>
   intro e;have h1:=ih (j+1) (by omega) (by omega);rw[yx iT j (by omega)] at h1;omega
 exact this (iT.length-j) (by omega)
end Go.aa
namespace Go.aa
open Go.RowKit
variable {T T1 T2 T' D:Nat->Prop} {A B C W W' w Wr W2:World} {g:Operand} {ps:Array Tmp} {assign body c:Code} {Q:Exit->Act->World->Prop} {a:Act} {gf m m' j N:Nat} {lb:Array Value} {α:Type} {P:Program} {enc enc' args:Nat->Array Value} {J Jx:Nat->(Nat->Prop)->World->Prop} {f0:FuncId}
def j6(P:Program)(g:Nat)(args:Nat->Array Value)(m:Nat)(enc:Nat->Array Value)(D:Nat->Prop)(w:World):Prop:=
 ∀(l:Nat) (J Jx:Nat->(Nat->Prop)->World->Prop) (T:Nat->Prop) (W:World),
  Agree D w W->(∀k,D k->k<W.heap.size/\¬T k)->(∀k,T k->k<W.heap.size)->nD W.heap.size J->nD W.heap.size Jx->
  (∀i T1 W1,i<m->J i T1 W1->(∀k,T1 k->k<W1.heap.size)->YieldAt Fence.wide 0 P l (enc i) W1 (jA J Jx T1 W1 i))->
  J 0 T W->Calls P g (args l) W (kN J Jx T W m)
theorem Iter.congr{g:Nat}(hm:m=m')(he:∀i,i<m->enc i=enc' i)(h:Iter P g lb m enc D w):Iter P g lb m' enc' D w:=by
 subst hm;intro l J Jx T W h1 h2 h3 h4 h5 h6 h7;exact h l J Jx T W h1 h2 h3 h4 h5 (fun i T1 W1 hi hj hk=>by rw[he i hi];exact h6 i T1 W1 hi hj hk) h7
theorem j6.congr{g:Nat}(hm:m=m')(he:∀i,i<m->enc i=enc' i)(h:j6 P g args m enc D w):j6 P g args m' enc' D w:=by
 subst hm;intro l J Jx T W h1 h2 h3 h4 h5 h6 h7;exact h l J Jx T W h1 h2 h3 h4 h5 (fun i T1 W1 hi hj hk=>by rw[he i hi];exact h6 i T1 W1 hi hj hk) h7
theorem j6.later{g:Nat}{D':Nat->Prop}{w':World}(h:j6 P g args m enc D w)(ha:Agree D w w')(hD:∀k,D k->D' k):j6 P g args m enc D' w':=by
 intro l J Jx T W h1 h2 h3 h4 h5 h6 h7;exact h l J Jx T W (ha.trans (h1.mono hD)) (fun k hk=>h2 k (hD k hk)) h3 h4 h5 h6 h7
structure Between (J:Nat->(Nat->Prop)->World->Prop) (T T1:Nat->Prop) (W Wr:World) (j:Nat):Prop where
 ext:Ext T T1 W Wr
 mod:Mod T W Wr
 inv:J j T1 Wr
theorem Between.start(h:J 0 T W):Between J T T W W 0:=⟨Ext.refl _ _ _,Mod.refl _ _,h⟩
theorem Between.own(h:Between J T T1 W Wr j)(hJ:nD W.heap.size J)(hb:Below Wr.heap.size Wr W'):Between J T T1 W W' j:=by
 have hs:=h.mod.size;refine⟨fun k hk=>?_,h.mod.trans (Mod.of_below (S:=fun _=>False) hb) (fun _ _ h=>h.elim),hJ _ _ _ _ _ h.inv (Mod.of_below (S:=fun _=>False) hb) (fun _ h=>h.elim)⟩;rcases h.ext k hk with g|g
 ·exact .inl g
 ·exact .inr ⟨g.1,by have:=hb.size;omega⟩
theorem Between.lt{J:Nat->(Nat->Prop)->World->Prop}{T T1:Nat->Prop}{W Wr:World}{j:Nat}(h:Between J T T1 W Wr j)(hT:∀k,T k->k<W.heap.size):∀k,T1 k->k<Wr.heap.size:=h.ext.lt h.mod.size hT
theorem Between.round(h:Between J T T1 W Wr j)(he:Ext T1 T2 Wr W2)(hm:Mod T1 Wr W2)(hj:J (j+1) T2 W2):Between J T T2 W W2 (j+1):=
 ⟨h.ext.trans he h.mod.size hm.size,h.mod.ext hm h.ext,hj⟩
theorem Between.stop(h:Between J T T1 W Wr j)(hlt:j<m)(he:Ext T1 T2 Wr W2)(hm:Mod T1 Wr W2)(hj:Jx (j+1) T2 W2){v:Value}:kN J Jx T W m (.returned v) W2:=
 ⟨⟨_,rfl⟩,T2,h.ext.trans he h.mod.size hm.size,h.mod.ext hm h.ext,.inr ⟨j+1,by omega,by omega,hj⟩⟩
theorem Between.done(h:Between J T T1 W Wr m){v:Value}:kN J Jx T W m (.returned v) Wr:=
 ⟨⟨_,rfl⟩,T1,h.ext,h.mod,.inl h.inv⟩
theorem Between.agree{J:Nat->(Nat->Prop)->World->Prop}{T T1 D:Nat->Prop}{W Wr:World}{j:Nat}(h:Between J T T1 W Wr j)(hD:∀k,D k->k<W.heap.size/\¬T k):Agree D W Wr:=h.mod.agree hD
def eu(N:Nat)(T:Nat->Prop)(I:Nat->World->Prop):Prop:=∀i W W' S,I i W->Mod S W W'->(∀k,S k->N<=k/\¬T k)->I i W'
def Fe(T:Nat->Prop)(I:Nat->World->Prop)(Ix:Code->Nat->World->Prop)(W:World)(i:Nat):Exit->Act->World->Prop
 | .normal,_,W'=>Mod T W W'/\I i W'
 | .ret,_,W'=>Mod T W W'/\Ix .ret i W'
 | .exit id,_,W'=>Mod T W W'/\Ix (.exit id) i W'
 | .goto t,_,W'=>Mod T W W'/\Ix (.goto t) i W'
 |_,_,_=>False
theorem GJ:eu N T (fun _ _=>False):=fun _ _ _ _ h _ _=>h
theorem eu.box{B:Nat}(hB:T B){o:Nat->Obj}:eu N T (fun i W=>W.heap[B]?=some (o i)):=fun i W W' S h hm hS=>av h hm (fun h=>(hS _ h).2 hB)
theorem eu.and{I I':Nat->World->Prop}(h:eu N T I)(h':eu N T I'):eu N T (fun i W=>I i W/\I' i W):=fun i W W' S hi hm hS=>⟨h _ _ _ _ hi.1 hm hS,h' _ _ _ _ hi.2 hm hS⟩
theorem eu.pure{p:Nat->Prop}:eu N T (fun i _=>p i):=fun _ _ _ _ h _ _=>h
theorem mQ(hg:a.eval g=.func (.func gf) #[] lb)(eg:∀args w,(callFunc gf args).run P w=.ok (.enter gf args) w){m:Nat}{enc:Nat->Array Value}{D:Nat->Prop}(hseq:Iter P gf lb m enc D w)(hps:∀i,i<m->(enc i).size=ps.size)(T:Nat->Prop)(hD:∀k,D k->k<w.heap.size/\¬T k)(hT:∀k,T k->k<w.heap.size)(I:Nat->World->Prop)(Ix:Code->Nat->World->Prop)(hI:eu w.heap.size T I)(hIx:∀c,eu w.heap.size T (Ix c))(h0:I 0 w)(a1:Nat->Act)(hassign:∀(l i:Nat) (W:World) (K:Act->World->Prop),i<m->K (a1 i) W->
   assign.wpIn (Fence.wide.inRound l) 0 P (Exit.then K (fun _ _ _=>False)) { tmps:=(ps.zip (enc i)).foldl (fun t (p,v)=>t.setIfInBounds p v) a.tmps,defers:=[]} W)(hbody:∀(l i:Nat) (W:World),i<m->Mod T w W->I i W->(∀k,T k->k<W.heap.size)->w.heap.size<=l->¬T l->body.wpIn (Fence.wide.inRound l) 0 P (Fe T I Ix W (i+1)) (a1 i) W)(hdone:∀(D0:Nat) (W:World),w.heap.size<=D0->D0<W.heap.size->¬T D0->Mod T w W->I m W->W.heap[D0]?=some (.deferred (some []))->Q .normal { a with defers:={ target:=.collected D0,args:=#[]}::a.defers} W)(hstop:∀(D0:Nat) (c:Code) (i:Nat) (W:World),w.heap.size<=D0->D0<W.heap.size->¬T D0->0<i->i<=m->Mod T w W->Ix c i W->W.heap[D0]?=some (.deferred (some []))->c.wpIn Fence.wide 0 P Q { a with defers:={ target:=.collected D0,args:=#[]}::a.defers} W):
  (Code.rangeFunc g ps assign body).wpIn Fence.wide 0 P Q a w:=by
 refine C7 hg eg hseq hps T hD hT (fun i T' W=>T'=T/\I i W) (fun c i T' W=>T'=T/\Ix c i W)
  (fun i T' A B S h hm hS=>⟨h.1,hI _ _ _ _ h.2 hm (fun k hk=>by have:=hS k hk;rw[h.1] at this;exact this)⟩)
  (fun c i T' A B S h hm hS=>⟨h.1,hIx c _ _ _ _ h.2 hm (fun k hk=>by have:=hS k hk;rw[h.1] at this;exact this)⟩) ⟨rfl,h0⟩
  (fun _ i a' _ _=>a'=a1 i) (fun _ _ _ _ _ _ h _=>h) ?_ ?_ ?_ ?_
 ·intro l i T1 W K hi he hm hI1 hlt hl hK;exact hassign l i W K hi (hK _ T1 W (Ext.refl _ _ _) (Mod.refl _ _) hI1 rfl)
 ·rintro l i T1 a' W hi he hm ⟨rfl,hi1⟩ rfl hlt hwl hnl _;refine wpIn_mono (hbody l i W hi hm hi1 hlt hwl hnl) ?_;intro ex a' W' h;cases ex with
  |normal=>exact⟨T1,Ext.refl _ _ _,h.1,rfl,h.2⟩
  |ret=>exact⟨T1,Ext.refl _ _ _,h.1,rfl,h.2⟩
  |exit id=>exact⟨T1,Ext.refl _ _ _,h.1,rfl,h.2⟩
  |goto t=>exact⟨T1,Ext.refl _ _ _,h.1,rfl,h.2⟩
  |panic c=>exact h.elim
  |outgrown=>exact h.elim
 ·rintro D0 T' W h1 h2 h3 he hm ⟨rfl,hi⟩ hd;exact hdone D0 W h1 h2 h3 hm hi hd
 ·rintro D0 c i T' W h1 h2 h3 h4 h5 he hm ⟨rfl,hi⟩ hd;exact hstop D0 c i W h1 h2 h3 h4 h5 hm hi hd
def JP(P:Program)(g:Nat)(lb:Array Value)(m sz:Nat)(E:Nat->Array Value->(Nat->Prop)->World->Prop)(D:Nat->Prop)(w:World):Prop:=
 ∀(l:Nat) (J Jx:Nat->(Nat->Prop)->World->Prop) (T:Nat->Prop) (W:World),
  Agree D w W->(∀k,D k->k<W.heap.size/\¬T k)->(∀k,T k->k<W.heap.size)->nD W.heap.size J->nD W.heap.size Jx->
  (∀i T1 W1 v S,i<m->J i T1 W1->(∀k,T1 k->k<W1.heap.size)->(∀k,S k->W.heap.size<=k/\k<W1.heap.size/\¬T1 k)->E i v S W1->v.size=sz->YieldAt Fence.wide 0 P l v W1 (jA J Jx (fun k=>T1 k∨S k) W1 i))->
  J 0 T W->Calls P g (#[.func (.yield l) #[] #[]]++lb) W (kN J Jx T W m)
end Go.aa
namespace Go.aa
open Go.RowKit
variable {P:Program}
variable {T T1 T2 T' D:Nat->Prop} {A B C W W' w Wr W2:World} {g:Operand} {ps:Array Tmp} {assign body c:Code} {Q:Exit->Act->World->Prop} {a:Act} {gf m m' j N:Nat} {lb:Array Value} {α:Type} {P:Program} {enc enc' args:Nat->Array Value} {J Jx:Nat->(Nat->Prop)->World->Prop} {f0:FuncId}
theorem C8(hg:a.eval g=.func (.func gf) #[] lb)(eg:∀args w,(callFunc gf args).run P w=.ok (.enter gf args) w){m:Nat}{enc:Nat->Array Value}{D:Nat->Prop}(hseq:Iter P gf lb m enc D w)(hps:∀i,i<m->(enc i).size=ps.size)(T:Nat->Prop)(hD:∀k,D k->k<w.heap.size/\¬T k)(hT:∀k,T k->k<w.heap.size)(I:Nat->World->Prop)(Ix:Code->Nat->World->Prop)(hI:eu w.heap.size T I)(hIx:∀c,eu w.heap.size T (Ix c))(h0:I 0 w)(Ax:Nat->Nat->Act->World->Prop)(hAx:∀l i a' W W',Ax l i a' W->Mod (fun k=>k=l) W W'->Ax l i a' W')(hassign:∀(l i:Nat) (W:World) (K:Act->World->Prop),i<m->Mod T w W->I i W->l<W.heap.size->
   (∀a' W',Mod T W W'->I i W'->Ax l i a' W'->K a' W')->
   assign.wpIn (Fence.wide.inRound l) 0 P (Exit.then K (fun _ _ _=>False)) { tmps:=(ps.zip (enc i)).foldl (fun t (p,v)=>t.setIfInBounds p v) a.tmps,defers:=[]} W)(hbody:∀(l i:Nat) (a':Act) (W:World),i<m->Mod T w W->I i W->Ax l i a' W->(∀k,T k->k<W.heap.size)->w.heap.size<=l->¬T l->body.wpIn (Fence.wide.inRound l) 0 P (Fe T I Ix W (i+1)) a' W)(hdone:∀(D0:Nat) (W:World),w.heap.size<=D0->D0<W.heap.size->¬T D0->Mod T w W->I m W->W.heap[D0]?=some (.deferred (some []))->Q .normal { a with defers:={ target:=.collected D0,args:=#[]}::a.defers} W)(hstop:∀(D0:Nat) (c:Code) (i:Nat) (W:World),w.heap.size<=D0->D0<W.heap.size->¬T D0->0<i->i<=m->Mod T w W->Ix c i W->W.heap[D0]?=some (.deferred (some []))->c.wpIn Fence.wide 0 P Q { a with defers:={ target:=.collected D0,args:=#[]}::a.defers} W):
  (Code.rangeFunc g ps assign body).wpIn Fence.wide 0 P Q a w:=by
 refine C7 hg eg hseq hps T hD hT (fun i T' W=>T'=T/\I i W) (fun c i T' W=>T'=T/\Ix c i W)
  (fun i T' A B S h hm hS=>⟨h.1,hI _ _ _ _ h.2 hm (fun k hk=>by have:=hS k hk;rw[h.1] at this;exact this)⟩)
  (fun c i T' A B S h hm hS=>⟨h.1,hIx c _ _ _ _ h.2 hm (fun k hk=>by have:=hS k hk;rw[h.1] at this;exact this)⟩) ⟨rfl,h0⟩
  (fun l i a' T' W=>T'=T/\Ax l i a' W) (fun l i a' T1 W W' h hm=>⟨h.1,hAx _ _ _ _ _ h.2 hm⟩) ?_ ?_ ?_ ?_
 ·rintro l i T1 W K hi he hm ⟨rfl,hI1⟩ hlt hl hK;exact hassign l i W K hi hm hI1 hl (fun a' W' hm' hi' hax=>hK a' T1 W' (Ext.refl _ _ _) hm' ⟨rfl,hi'⟩ ⟨rfl,hax⟩)
 ·rintro l i T1 a' W hi he hm ⟨rfl,hi1⟩ ⟨_,hax⟩ hlt hwl hnl _;refine wpIn_mono (hbody l i a' W hi hm hi1 hax hlt hwl hnl) ?_;intro ex a' W' h;cases ex with
  |normal=>exact⟨T1,Ext.refl _ _ _,h.1,rfl,h.2⟩
  |ret=>exact⟨T1,Ext.refl _ _ _,h.1,rfl,h.2⟩
  |exit id=>exact⟨T1,Ext.refl _ _ _,h.1,rfl,h.2⟩
  |goto t=>exact⟨T1,Ext.refl _ _ _,h.1,rfl,h.2⟩
  |panic c=>exact h.elim
  |outgrown=>exact h.elim
 ·rintro D0 T' W h1 h2 h3 he hm ⟨rfl,hi⟩ hd;exact hdone D0 W h1 h2 h3 hm hi hd
 ·rintro D0 c i T' W h1 h2 h3 h4 h5 he hm ⟨rfl,hi⟩ hd;exact hstop D0 c i W h1 h2 h3 h4 h5 hm hi hd
end Go.aa
namespace Go.aa
open Go.RowKit
variable {T T1 T2 T' D:Nat->Prop} {A B C W W' w Wr W2:World} {g:Operand} {ps:Array Tmp} {assign body c:Code} {Q:Exit->Act->World->Prop} {a:Act} {gf m m' j N:Nat} {lb:Array Value} {α:Type} {P:Program} {enc enc' args:Nat->Array Value} {J Jx:Nat->(Nat->Prop)->World->Prop} {f0:FuncId}
def AA(f0:FuncId)(P:Program)(c:Code)(Q:Exit->Act->World->Prop)(a:Act)(w:World):Prop:=
 ∀(b:Frame) (k:List Item) (cs:List Frame),b.roundOf=none->b.fn=f0->∃e a' w',Q e a' w'/\ArrivesIn (Machine.fenced P Fence.wide) P (lone (b.atR a (.code c::k)) cs w) b k cs e a' w'
theorem AA.of(h:c.wpIn Fence.wide 0 P Q a w):AA f0 P c Q a w:=fun b k cs hro _=>h b k cs hro trivial (room_wide _)
theorem AA.mono{Q':Exit->Act->World->Prop}(h:AA f0 P c Q a w)(hq:∀e a w,Q e a w->Q' e a w):AA f0 P c Q' a w:=
 fun b k cs hro hb=>let ⟨e,a',w',q,r⟩:=h b k cs hro hb;⟨e,a',w',hq _ _ _ q,r⟩
end Go.aa
