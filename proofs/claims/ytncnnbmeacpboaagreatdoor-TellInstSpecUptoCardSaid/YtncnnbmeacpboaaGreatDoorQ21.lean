/- Parts of the proof. -/
import Derived.Test.YtncnnbmeacpboaaGreatDoorQ18
import Derived.Handy
import Derived.Deep.RegionWith
set_option maxHeartbeats 2000000
set_option maxRecDepth 100000
set_option linter.unusedVariables false
set_option linter.unusedSimpArgs false
namespace Go.aa
open Go.RowKit
variable {n i:Nat} {α:Type}
theorem uu{P:Nat->aK->Prop}(h:∀j,j<n->∃a,P j a):∃f:Nat->aK,∀j,j<n->P j (f j):=by
 classical
 exact⟨fun j=>if hj:j<n then(h j hj).choose else⟨none,0,0,0⟩,fun j hj=>by simp only[hj,dif_pos];exact(h j hj).choose_spec⟩
theorem O0{P:Nat->aK->aK->Prop}(h:∀j,j<n->∃a b,P j a b):∃f g:Nat->aK,∀j,j<n->P j (f j) (g j):=by
 obtain⟨f,hf⟩:=uu (P:=fun j a=>∃b,P j a b) h;obtain⟨g,hg⟩:=uu (P:=fun j b=>P j (f j) b) hf;exact⟨f,g,hg⟩
def nth{α:Type}(d:α)(l:List α)(i:Nat):α:=l[i]?.getD d
theorem iO{d:α}{l:List α}(h:i<l.length):nth d l i=l[i]:=by unfold nth;rw[List.getElem?_eq_getElem h];rfl
theorem mF{β:Type}{d:α}{e:β}{f:α->β}{l:List α}(h:i<l.length):nth e (l.map f) i=f (nth d l i):=by
 rw[iO (by simpa using h),iO h];simp
theorem af(w:World)(o:Obj)(k:Nat):(w.alloc o).heap[k]?=if k=w.heap.size then some o else w.heap[k]?:=by
 show(w.heap.push o)[k]?=_;rw[Array.getElem?_push]
theorem lN(w:World)(a b c:Obj):Below w.heap.size w (((w.alloc a).alloc b).alloc c).drew:=((((Below.refl _ _).alloc (Nat.le_refl _) _).alloc (by simp) _).alloc (by simp;omega) _).drew
theorem FX(w:World)(a b c:Obj):(((w.alloc a).alloc b).alloc c).drew.heap[w.heap.size]?=some a:=by
 show(((w.alloc a).alloc b).alloc c).heap[w.heap.size]?=_;rw[af,if_neg (by simp;omega),af,if_neg (by simp),af,if_pos rfl]
theorem uw(w:World)(a b c:Obj):(((w.alloc a).alloc b).alloc c).drew.heap[w.heap.size+1]?=some b:=by
 show(((w.alloc a).alloc b).alloc c).heap[w.heap.size+1]?=_;rw[af,if_neg (by simp),af,if_pos (by simp)]
theorem FY(w:World)(a b c:Obj):(((w.alloc a).alloc b).alloc c).drew.heap[w.heap.size+1+1]?=some c:=by
 show(((w.alloc a).alloc b).alloc c).heap[w.heap.size+1+1]?=_;rw[af,if_pos (by simp)]
end Go.aa
namespace Go.Proofs.YtncnnbmeacpboaaGreatDoor
open Go.RowKit Go.aa
attribute [local go_sem] Oper.semAt_some
variable {n i:Nat} {α:Type}
theorem Ld(l:List qx)(sa:aK)(w:World)(F:Nat->Prop)(h:aj w F (l.map qx.toD) sa)(hmax:l.length<=2000000):
  j6 Tryz.prog 91 (fun lp=>#[.slice sa.a l.length sa.cap,.func (.func 92) #[] #[],.func (.yield lp) #[] #[]]) l.length (fun i=>#[.int .i64 i,.string ⟨(nth [] (l.map qx.name) i).toArray⟩]) F w:=by
 obtain⟨y1,y2,hy⟩:=O0 (n:=l.length) (P:=fun j y z=>∀hj:j<l.length,ay w sa.b (sa.o+j*3) [.string ⟨l[j].name.toArray⟩,y.val l[j].who.length,z.val l[j].groups.length]) (fun j hj=>by
  obtain⟨y,z,_,_,_,h5⟩:=h.TN j hj;exact⟨y,z,fun _=>h5⟩)
 refine Ki l.length (fun j=>nth [] (l.map qx.name) j) y1 (fun j=>(nth ⟨[],[],[]⟩ l j).who.length) y2 (fun j=>(nth ⟨[],[],[]⟩ l j).groups.length) sa _ F w (by simpa using h.at_) (fun j hj=>?_) (fun j hj W=>LK _ _ _ _ _ W) (enters_of Tryz.func92 (by kernel_rfl) rfl) hmax;have:=(hy j hj hj).three;rw[mF (d:=⟨[],[],[]⟩) hj,iO hj];exact this
theorem Lg(l:List ma)(sa:aK)(w:World)(F:Nat->Prop)(h:aj w F (l.map ma.toD) sa)(hmax:l.length<=2000000):
  j6 Tryz.prog 93 (fun lp=>#[.slice sa.a l.length sa.cap,.func (.func 94) #[] #[],.func (.yield lp) #[] #[]]) l.length (fun i=>#[.int .i64 i,.string ⟨(nth [] (l.map ma.name) i).toArray⟩]) F w:=by
 obtain⟨g1,_,_,g4,_⟩:=h.flat ma.bI;refine Kl l.length (fun j=>nth [] (l.map ma.name) j) (fun j=>(nth ⟨[],0,0⟩ l j).day) (fun j=>(nth ⟨[],0,0⟩ l j).hour) sa _ F w g1 (fun j hj=>?_) (fun j hj W=>LQ _ _ _ W) (enters_of Tryz.func94 (by kernel_rfl) rfl) hmax;have:=g4.three j hj rfl;rw[mF (d:=⟨[],0,0⟩) hj,iO hj];exact this
theorem Lf(l:List qi)(sa:aK)(w:World)(F:Nat->Prop)(h:aj w F (l.map qi.toD) sa)(hmax:l.length<=2000000):
  j6 Tryz.prog 95 (fun lp=>#[.slice sa.a l.length sa.cap,.func (.func 96) #[] #[],.func (.yield lp) #[] #[]]) l.length (fun i=>#[.int .i64 i,.string ⟨(nth [] (l.map qi.name) i).toArray⟩]) F w:=by
 obtain⟨y3,hy⟩:=uu (n:=l.length) (P:=fun j y=>∀hj:j<l.length,ay w sa.b (sa.o+j*4) [.string ⟨l[j].name.toArray⟩,.int .i64 l[j].house,.int .i64 l[j].seats,y.val l[j].shut.length]) (fun j hj=>by
  obtain⟨y,_,_,_,_,h5⟩:=h.TU j hj;exact⟨y,fun _=>h5⟩)
 refine Kk l.length (fun j=>nth [] (l.map qi.name) j) (fun j=>(nth ⟨[],0,0,[]⟩ l j).house) (fun j=>(nth ⟨[],0,0,[]⟩ l j).seats) y3 (fun j=>(nth ⟨[],0,0,[]⟩ l j).shut.length) sa _ F w (by simpa using h.at_) (fun j hj=>?_) (fun j hj W=>LP _ _ _ _ _ W) (enters_of Tryz.func96 (by kernel_rfl) rfl) hmax;have:=(hy j hj hj).four;rw[mF (d:=⟨[],0,0,[]⟩) hj,iO hj];exact this
theorem Le(l:List sG)(sa:aK)(w:World)(F:Nat->Prop)(h:aj w F (l.map sG.toD) sa)(hmax:l.length<=2000000):
  j6 Tryz.prog 97 (fun lp=>#[.slice sa.a l.length sa.cap,.func (.func 98) #[] #[],.func (.yield lp) #[] #[]]) l.length (fun i=>#[.int .i64 i,.string ⟨(nth [] (l.map sG.name) i).toArray⟩]) F w:=by
 obtain⟨y1,hy⟩:=uu (n:=l.length) (P:=fun j y=>∀hj:j<l.length,ay w sa.b (sa.o+j*2) [.string ⟨l[j].name.toArray⟩,y.val l[j].away.length]) (fun j hj=>by
  obtain⟨y,_,_,h5⟩:=h.TR j hj;exact⟨y,fun _=>h5⟩)
 refine Kj l.length (fun j=>nth [] (l.map sG.name) j) y1 (fun j=>(nth ⟨[],[]⟩ l j).away.length) sa _ F w (by simpa using h.at_) (fun j hj=>?_) (fun j hj W=>LM _ _ _ W) (enters_of Tryz.func98 (by kernel_rfl) rfl) hmax;have:=(hy j hj hj).two;rw[mF (d:=⟨[],[]⟩) hj,iO hj];exact this
theorem Lc(l:List qm)(sa:aK)(w:World)(F:Nat->Prop)(h:aj w F (l.map qm.toD) sa)(hmax:l.length<=2000000):
  j6 Tryz.prog 99 (fun lp=>#[.slice sa.a l.length sa.cap,.func (.func 100) #[] #[],.func (.yield lp) #[] #[]]) l.length (fun i=>#[.int .i64 i,.string ⟨(nth [] (l.map qm.name) i).toArray⟩]) F w:=by
 obtain⟨g1,_,_,g4,_⟩:=h.flat qm.bI;refine Kh l.length (fun j=>nth [] (l.map qm.name) j) (fun j=>(nth ⟨[],0⟩ l j).size) sa _ F w g1 (fun j hj=>?_) (fun j hj W=>LJ _ _ W) (enters_of Tryz.func100 (by kernel_rfl) rfl) hmax;have:=g4.two j hj rfl;rw[mF (d:=⟨[],0⟩) hj,iO hj];exact this
structure SchSmall (s:aF):Prop where
 slots:s.slots.length<=2000000
 ah:s.ah.length<=2000000
 people:s.people.length<=2000000
 groups:s.groups.length<=2000000
 lessons:s.lessons.length<=2000000
theorem qH(s:aF)(x:bS)(sort:Int)(w:World):
  Calls Tryz.prog 60 #[.agg (x.cells s).toArray,.int .i64 sort] w fun e w'=>e=.returned (.func (.func 90) #[] #[.pointer (some ⟨w.heap.size+1,0,none⟩),.pointer (some ⟨w.heap.size,0,none⟩)])/\(w.alloc (.cells (x.cells s).toArray 28)).alloc (.cells #[.int .i64 sort] 3)=w':=by
 have Od:∀(fn:Fn) (first cap:Array Value) (w:World),(Instr.makeFunc fn first cap).run Tryz.prog w=.ok (.func fn first cap) w:=fun _ _ _ _=>rfl;simp only[bS.cells,aK.val];go_enter Tryz.func60,Tryz.ntmps60;go_wp2_with fail;go_ret;exact⟨rfl,rfl⟩
def iL:Prop:=∀i,i<10->∀W,Calls Tryz.prog 89 #[.int .i64 (i:Nat)] W fun e w'=>e=.returned (.string ⟨(Lib.decDigits i).toArray⟩)/\W=w'
theorem pU(i:Nat)(h:i<10):Lib.decDigits i=[UInt8.ofNat (48+i)]:=by rw[Lib.decDigits,dif_pos h]
theorem nJ(s:aF)(x:bS)(sort:Int)(w:World)(sb kb:Nat)(F:Nat->Prop)(hI:iL)(hs:dD w F s x)(hsm:SchSmall s)(h1:w.heap[sb]?=some (.cells (x.cells s).toArray 28 (0,0)))(h2:w.heap[kb]?=some (.cells #[.int .i64 sort] 3 (0,0))):
  Iter Tryz.prog 90 #[.pointer (some ⟨kb,0,none⟩),.pointer (some ⟨sb,0,none⟩)] (bA s sort) (fun i=>#[.int .i64 i,.string ⟨(nth [] (ai s sort) i).toArray⟩]) (fun k=>F k∨k=sb∨k=kb) w:=by
 intro l J Jx T W sK hD hT hJ hJx hY h0;have rM:Agree F w W:=sK.mono (fun k hk=>.inl hk);have GU:∀k,F k->k<W.heap.size/\¬T k:=fun k hk=>hD k (.inl hk);have b1:W.heap[sb]?=_:=(sK sb (.inr (.inl rfl))).trans h1;have b2:W.heap[kb]?=_:=(sK kb (.inr (.inr rfl))).trans h2;have d0:W.cell? ⟨sb,0,none⟩=some (.slice x.slots.a s.slots.length x.slots.cap):=cH b1 rfl;have d1:W.cell? ⟨sb,1,none⟩=some (.slice x.ah.a s.ah.length x.ah.cap):=cH b1 rfl;have d2:W.cell? ⟨sb,2,none⟩=some (.slice x.people.a s.people.length x.people.cap):=cH b1 rfl;have d3:W.cell? ⟨sb,3,none⟩=some (.slice x.groups.a s.groups.length x.groups.cap):=cH b1 rfl;have d4:W.cell? ⟨sb,4,none⟩=some (.slice x.lessons.a s.lessons.length x.lessons.cap):=cH b1 rfl;have d5:W.cell? ⟨kb,0,none⟩=some (.int .i64 sort):=cH b2 rfl;clear b1 b2 sK hD h1 h2;by_cases k1:sort=1
 ·subst k1;have hc:=(Ld s.lessons x.lessons w F hs.lessons hsm.lessons).congr (m':=bA s 1) (enc':=fun i=>#[.int .i64 i,.string ⟨(nth [] (ai s 1) i).toArray⟩]) (by rw[fq];rfl) (fun _ _=>rfl);have HC:=Lh (hc l J Jx T W rM GU hT hJ hJx hY h0);clear hY hJ hJx h0 rM GU hT hc;go_enter Tryz.func90,Tryz.ntmps90;go_wp2_with fail;refine HC.out.mono ?_;rintro e W2 ⟨⟨v,rfl⟩,hp⟩;have HP:=Lh hp;clear hp;go_wp2_with fail;go_end0;exact⟨⟨_,rfl⟩,HP.out⟩
 by_cases k2:sort=2
 ·subst k2;have hc:=(Lg s.slots x.slots w F hs.slots hsm.slots).congr (m':=bA s 2) (enc':=fun i=>#[.int .i64 i,.string ⟨(nth [] (ai s 2) i).toArray⟩]) (by rw[fq];rfl) (fun _ _=>rfl);have HC:=Lh (hc l J Jx T W rM GU hT hJ hJx hY h0);clear hY hJ hJx h0 rM GU hT hc k1;go_enter Tryz.func90,Tryz.ntmps90;go_wp2_with fail;refine HC.out.mono ?_;rintro e W2 ⟨⟨v,rfl⟩,hp⟩;have HP:=Lh hp;clear hp;go_wp2_with fail;go_end0;exact⟨⟨_,rfl⟩,HP.out⟩
 by_cases k3:sort=3
 ·subst k3;have hc:=(Lf s.ah x.ah w F hs.ah hsm.ah).congr (m':=bA s 3) (enc':=fun i=>#[.int .i64 i,.string ⟨(nth [] (ai s 3) i).toArray⟩]) (by rw[fq];rfl) (fun _ _=>rfl);have HC:=Lh (hc l J Jx T W rM GU hT hJ hJx hY h0);clear hY hJ hJx h0 rM GU hT hc k1 k2;go_enter Tryz.func90,Tryz.ntmps90;go_wp2_with fail;refine HC.out.mono ?_;rintro e W2 ⟨⟨v,rfl⟩,hp⟩;have HP:=Lh hp;clear hp;go_wp2_with fail;go_end0;exact⟨⟨_,rfl⟩,HP.out⟩
 by_cases k4:sort=4
 ·subst k4;have hc:=(Le s.people x.people w F hs.people hsm.people).congr (m':=bA s 4) (enc':=fun i=>#[.int .i64 i,.string ⟨(nth [] (ai s 4) i).toArray⟩]) (by rw[fq];rfl) (fun _ _=>rfl);have HC:=Lh (hc l J Jx T W rM GU hT hJ hJx hY h0);clear hY hJ hJx h0 rM GU hT hc k1 k2 k3;go_enter Tryz.func90,Tryz.ntmps90;go_wp2_with fail;refine HC.out.mono ?_;rintro e W2 ⟨⟨v,rfl⟩,hp⟩;have HP:=Lh hp;clear hp;go_wp2_with fail;go_end0;exact⟨⟨_,rfl⟩,HP.out⟩
 by_cases k5:sort=5
 ·subst k5;have hc:=(Lc s.groups x.groups w F hs.groups hsm.groups).congr (m':=bA s 5) (enc':=fun i=>#[.int .i64 i,.string ⟨(nth [] (ai s 5) i).toArray⟩]) (by rw[fq];rfl) (fun _ _=>rfl);have HC:=Lh (hc l J Jx T W rM GU hT hJ hJx hY h0);clear hY hJ hJx h0 rM GU hT hc k1 k2 k3 k4;go_enter Tryz.func90,Tryz.ntmps90;go_wp2_with fail;refine HC.out.mono ?_;rintro e W2 ⟨⟨v,rfl⟩,hp⟩;have HP:=Lh hp;clear hp;go_wp2_with fail;go_end0;exact⟨⟨_,rfl⟩,HP.out⟩
 have hU:∀(n:Nat) (word:Bs),n<=10->word.length<=100->(∀i T1 W1,i<n->J i T1 W1->(∀k,T1 k->k<W1.heap.size)->YieldAt Fence.wide 0 Tryz.prog l #[.int .i64 i,.string ⟨(word++Lib.decDigits i).toArray⟩] W1 (jA J Jx T1 W1 i))->
   ∀(W5:World) (sb yb wb:Nat),Below W.heap.size W W5->W5.heap[yb]?=some (.cells #[.func (.yield l) #[] #[]] 155 (0,0))->W5.heap[wb]?=some (.cells #[.string ⟨word.toArray⟩] 9 (0,0))->W.heap.size<=yb->W.heap.size<=wb->
    Calls Tryz.prog 101 #[.slice (some ⟨sb,0,none⟩) n n,.nilFunc,.func (.func 145) #[] #[.pointer (some ⟨yb,0,none⟩),.pointer (some ⟨wb,0,none⟩)]] W5 (kN J Jx T W n):=by
  intro n word hn hw Zy W5 sb yb wb hb q1 q2 g1 g2;have hsz:=hb.size;refine(GH n hn sb l yb wb word (fun i=>Lib.decDigits i) hw (fun i hi=>by rw[pU i (by omega)];simp) (fun i hi W=>hI i (by omega) W) J Jx T W5 q1 q2 (fun h=>by have:=hT _ h;omega) (fun h=>by have:=hT _ h;omega) (fun k hk=>by have:=hT k hk;omega)
   (fun i T' A B S h hm hS=>hJ i T' A B S h hm (fun k hk=>⟨by have:=(hS k hk).1;omega,(hS k hk).2⟩)) (fun i T' A B S h hm hS=>hJx i T' A B S h hm (fun k hk=>⟨by have:=(hS k hk).1;omega,(hS k hk).2⟩)) Zy (hJ _ _ _ _ _ h0 (aa.Mod.of_below (S:=fun _=>False) hb) (fun _ h=>h.elim))).mono ?_
  rintro e W' ⟨hv,T',he,hm,hor⟩;refine⟨hv,T',fun k hk=>?_,(aa.Mod.of_below (S:=T) hb).trans hm (fun _ _ h=>h),hor⟩;rcases he k hk with h|h
  ·exact .inl h
  ·exact .inr ⟨by omega,h.2⟩
 by_cases k6:sort=6
 ·subst k6;have hu:=hU 7 ([100,97,121]:Bs) (by decide) (by decide) (fun i T1 W1 hi hj hk=>by
   have:=hY i T1 W1 (by rw[fq];exact hi) hj hk;rw[pU i (by omega)];have e:nth [] (ai s 6) i=([100,97,121]:Bs)++[UInt8.ofNat (48+i)]:=by
    show nth [] ((List.range 7).map (fun i=>[100,97,121,UInt8.ofNat (48+i)])) i=_;rw[mF (d:=0) (by simpa using hi),iO (by simpa using hi)];simp
   simp only[e] at this;exact this)
  have HA:=Lh (hu (((W.alloc (.cells #[] 167)).alloc (.cells #[.string ⟨([100,97,121]:Bs).toArray⟩] 9)).alloc (.cells #[.func (.yield l) #[] #[]] 155)).drew W.heap.size (W.heap.size+1+1) (W.heap.size+1) (lN _ _ _ _) (FY _ _ _ _) (uw _ _ _ _) (by omega) (by omega));have HB:=Lh (hu (((W.alloc (.cells #[.string ⟨([100,97,121]:Bs).toArray⟩] 9)).alloc (.cells #[.func (.yield l) #[] #[]] 155)).alloc (.cells #[] 167)).drew (W.heap.size+1+1) (W.heap.size+1) W.heap.size (lN _ _ _ _) (uw _ _ _ _) (FX _ _ _ _) (by omega) (by omega));clear hY hJ hJx h0 rM GU hT hU hu k1 k2 k3 k4 k5;have hmk:∀W,(Instr.makeSlice 168 (.int .i64 7) (.int .i64 7)).run Tryz.prog W=.ok (.slice (some ⟨W.heap.size,0,none⟩) 7 7) (W.alloc (.cells #[] 167)):=fun _=>by kernel_rfl
  go_enter Tryz.func90,Tryz.ntmps90;go_wp2_with fail;go_region_with (first|(go_at_call 102;refine(FT _ _ _ _ _).mono ?_;rintro e w' ⟨rfl,rfl⟩)|(go_at_call 101;(first|(with_reducible refine HA.out.mono ?_)|(with_reducible refine HB.out.mono ?_));rintro e W2 ⟨⟨v,rfl⟩,hp⟩;have HP:=Lh hp;clear hp)|fail)
  all_goals
   go_wp2_with fail;go_end0;exact⟨⟨_,rfl⟩,HP.out⟩
 by_cases k7:sort=7
 ·subst k7;have hu:=hU 8 ([104,111,117,115,101]:Bs) (by decide) (by decide) (fun i T1 W1 hi hj hk=>by
   have:=hY i T1 W1 (by rw[fq];exact hi) hj hk;rw[pU i (by omega)];have e:nth [] (ai s 7) i=([104,111,117,115,101]:Bs)++[UInt8.ofNat (48+i)]:=by
    show nth [] ((List.range 8).map (fun i=>[104,111,117,115,101,UInt8.ofNat (48+i)])) i=_;rw[mF (d:=0) (by simpa using hi),iO (by simpa using hi)];simp
   simp only[e] at this;exact this)
  have HA:=Lh (hu (((W.alloc (.cells #[] 167)).alloc (.cells #[.string ⟨([104,111,117,115,101]:Bs).toArray⟩] 9)).alloc (.cells #[.func (.yield l) #[] #[]] 155)).drew W.heap.size (W.heap.size+1+1) (W.heap.size+1) (lN _ _ _ _) (FY _ _ _ _) (uw _ _ _ _) (by omega) (by omega));have HB:=Lh (hu (((W.alloc (.cells #[.string ⟨([104,111,117,115,101]:Bs).toArray⟩] 9)).alloc (.cells #[.func (.yield l) #[] #[]] 155)).alloc (.cells #[] 167)).drew (W.heap.size+1+1) (W.heap.size+1) W.heap.size (lN _ _ _ _) (uw _ _ _ _) (FX _ _ _ _) (by omega) (by omega));clear hY hJ hJx h0 rM GU hT hU hu k1 k2 k3 k4 k5 k6;have hmk:∀W,(Instr.makeSlice 168 (.int .i64 8) (.int .i64 8)).run Tryz.prog W=.ok (.slice (some ⟨W.heap.size,0,none⟩) 8 8) (W.alloc (.cells #[] 167)):=fun _=>by kernel_rfl
  go_enter Tryz.func90,Tryz.ntmps90;go_wp2_with fail;go_region_with (first|(go_at_call 102;refine(FT _ _ _ _ _).mono ?_;rintro e w' ⟨rfl,rfl⟩)|(go_at_call 101;(first|(with_reducible refine HA.out.mono ?_)|(with_reducible refine HB.out.mono ?_));rintro e W2 ⟨⟨v,rfl⟩,hp⟩;have HP:=Lh hp;clear hp)|fail)
  all_goals
   go_wp2_with fail;go_end0;exact⟨⟨_,rfl⟩,HP.out⟩
 have hm:bA s sort=0:=by rw[fq];simp[k1,k2,k3,k4,k5,k6,k7]
 rw[hm];have HP:=Lh h0;have e1:(sort==1)=false:=by simpa using k1
 have e2:(sort==2)=false:=by simpa using k2
 have e3:(sort==3)=false:=by simpa using k3
 have e4:(sort==4)=false:=by simpa using k4
 have e5:(sort==5)=false:=by simpa using k5
 have e6:(sort==6)=false:=by simpa using k6
 have e7:(sort==7)=false:=by simpa using k7
 clear hY hJ hJx h0 rM GU hT hU hm k1 k2 k3 k4 k5 k6 k7;go_enter Tryz.func90,Tryz.ntmps90;go_wp2_with fail;go_end0;exact⟨⟨_,rfl⟩,T,Ext.refl _ _ _,aa.Mod.refl _ _,.inl HP.out⟩
end Go.Proofs.YtncnnbmeacpboaaGreatDoor
namespace Go.Proofs.YtncnnbmeacpboaaGreatDoor
open Go.RowKit Go.aa
variable {n i:Nat} {α:Type}
def xe(W:World)(g T:Nat)(ok:Bool)(f:Value->Value)(kk:Value->Prop):Prop:=
 ∃b o,W.cell? ⟨g,0,none⟩=some (.map (some b))/\W.heap[b]?=some o/\∀W',W'.heap[b]?=some o->∀k,kk k->(Instr.lookup T (.map (some b)) k ok).run Tryz.prog W'=.ok (f k) W'
theorem xe.below{W W':World}{g T:Nat}{ok:Bool}{f:Value->Value}{kk:Value->Prop}(h:xe W g T ok f kk)(hb:Below W.heap.size W W'):xe W' g T ok f kk:=by
 obtain⟨b,o,h1,h2,h3⟩:=h;exact⟨b,o,(hb.cell (p:=⟨g,0,none⟩) (World.block_lt_of_cell? W ⟨g,0,none⟩ h1)).trans h1,(hb.block b (gS h2).1).trans h2,h3⟩
def zP(k:Value):Prop:=∃s:Bs,s.length<=maxLen/\k=.string ⟨s.toArray⟩
def La(k:Value):Prop:=∃n:Int,ku n/\k=.int .i64 n
def yf:Value->Bs| .string s=>s.data.toList|_=>[]
def rT:Value->Int| .int _ n=>n|_=>0
theorem oF(s:Bs):yf (.string ⟨s.toArray⟩)=s:=by simp[yf]
structure GG (W:World):Prop where
 zD:∃m,W.cell? ⟨5,0,none⟩=some (.int .i64 m)
 reserved:xe W 4 120 false (fun k=>.bool (dG.contains (yf k))) zP
 arity:xe W 1 211 true (fun k=>.tuple #[.int .i64 ((dW (rT k)).getD 0:Nat),.bool (dW (rT k)).isSome]) La
 zm:xe W 2 103 false (fun k=>.string ⟨(BH (yf k)).toArray⟩) zP
 asks:∀k,k<=8->W.cell? ⟨0,k*2,none⟩=some (.int .i64 (gz k).1)/\W.cell? ⟨0,k*2+1,none⟩=some (.int .i64 (gz k).2)
 takes:∀k,k<=7->W.cell? ⟨3,k*2,none⟩=some (.int .i64 (ji k).1)/\W.cell? ⟨3,k*2+1,none⟩=some (.int .i64 (ji k).2)
theorem GG.below{W W':World}(h:GG W)(hb:Below W.heap.size W W'):GG W':=
 have key:∀(g o:Nat) (v:Value),W.cell? ⟨g,o,none⟩=some v->W'.cell? ⟨g,o,none⟩=some v:=fun g o v e=>(hb.cell (p:=⟨g,o,none⟩) (World.block_lt_of_cell? W ⟨g,o,none⟩ e)).trans e
 {
  zD:=let ⟨m,hm⟩:=h.zD;⟨m,key _ _ _ hm⟩,
  reserved:=h.reserved.below hb,
  arity:=h.arity.below hb,
  zm:=h.zm.below hb,
  asks:=fun k hk=>⟨key _ _ _ (h.asks k hk).1,key _ _ _ (h.asks k hk).2⟩,
  takes:=fun k hk=>⟨key _ _ _ (h.takes k hk).1,key _ _ _ (h.takes k hk).2⟩,
 }
structure gQ (s:aF) extends SchSmall s where
 names:∀sort,∀x∈ai s sort,x.length<=4000000
 shut:∀x∈s.ah,x.shut.length<=2000000
 away:∀x∈s.people,x.away.length<=2000000
 who:∀x∈s.lessons,x.who.length<=2000000
 SE:∀x∈s.lessons,x.groups.length<=2000000
end Go.Proofs.YtncnnbmeacpboaaGreatDoor
namespace Go.Proofs.YtncnnbmeacpboaaGreatDoor
open Go.RowKit Go.aa
attribute [local go_sem] Oper.semAt_some
variable {n i:Nat} {α:Type}
mutual
theorem o6:∀f:ae,(aJ f).length=f.size
 | .mk _ _ _ _ _ l=>by rw[aJ,List.length_cons,o7 l,ae.size];omega
theorem o7:∀l:List ae,(dU l).length=bF l
 |[]=>rfl
 |f::r=>by rw[dU,List.length_append,o6 f,o7 r,bF]
end
theorem GD(n:Nat):∀(f:ae) (x:aC) (w:World),f.size<=n->f.size<=2000000->aB w (·<w.heap.size) f x->
  Calls Tryz.prog 119 #[gB (f,x)] w fun e w'=>e=.returned (.int .i64 (f.depth:Nat))/\Below w.heap.size w w':=by
 induction n with
 |zero=>intro f _ _ h;have:=f.size_pos;omega
 |succ n ih=>
  intro f x w hn hs hx;have hsz:f.size=1+bF f.l:=by cases f;simp[ae.size,ae.l]
  have hdz:f.depth=bQ f.l+1:=by cases f;simp[ae.depth,ae.l]
  have hll:=di f.l;have Jp:=Lh (fun j (hj:j<f.l.length)=>hx.l.qK j hj);have uF:=Lh hx.l.at_;have IH:=Lh ih;rw[hdz];rw[hsz] at hn hs;clear ih hx hsz hdz;obtain⟨kind,name,nn,terms,binds,fl⟩:=f;simp only[gB,aC.cells,aK.val,ae.kind,ae.name,ae.n,ae.terms,ae.binds,ae.l] at*;go_enter Tryz.func119,Tryz.ntmps119;go_wp2_with fail;go_loopw [3,9] (fun s i wr=>∃j:Nat,j<=fl.length/\i=.int .i64 j/\s=.int .i64 (bQ (fl.take j):Nat)/\Below w.heap.size w wr) (fun _ i _=>fl.length-(intOf i).toNat)
  case atStart=>exact⟨0,Nat.zero_le _,rfl,rfl,(Below.refl _ _).alloc (Nat.le_refl _) _⟩
  case round=>
   obtain⟨j,hj,rfl,rfl,hb⟩:=hrel;by_cases hlt:j<fl.length
   ·obtain⟨y,hy1,hy2⟩:=Jp.out j hlt;obtain⟨hxa,kg⟩:=uF.out (by rw[List.length_map];omega);obtain⟨e0,e1,e2,e3,e4,e5⟩:=(hy2.agree (ag hb) kg).six;have hs1:=aT fl j hlt;have hs3:=jb fl j hlt;have hd1:bQ (fl.take j)<=2000000:=by have:=gP (fl.take j);have:=fB fl j;omega
    have hd2:(fl[j]).depth<=2000000:=by have:=ae.kT fl[j];omega
    have cz:Below w.heap.size w (wr.alloc (.cells (y.cells fl[j]).toArray 64)):=hb.alloc hb.size _;have fZ:=Lh (IH.out fl[j] y (wr.alloc (.cells (y.cells fl[j]).toArray 64)) (by omega) (by omega) (hy1.later cz cz.size));have ni:=Lh cz;have Fq:=Lh hs3;rw[hxa];clear hy1 hy2 kg cz hs1 hs3;generalize bQ (fl.take j)=d1 at hd1 Fq;generalize fl[j]=fe at fZ ni Fq hd2 e0 e1 e2 e3 e4 e5;generalize fe.depth=d2 at hd2 Fq fZ;obtain⟨mU,mV,n1,jX,jR,Jv⟩:=fe;simp only[gB,aC.cells,aK.val,ae.kind,ae.name,ae.n,ae.terms,ae.binds,ae.l] at fZ ni e0 e1 e2 e3 e4 e5;go_wp2_with fail;refine fZ.out.mono ?_;rintro e w' ⟨rfl,hb'⟩;have YU:=Lh (ni.out.trans (hb'.mono ni.out.size));clear hb';go_wp2_with fail;refine⟨⟨j+1,by omega,by go_num,?_,YU.out⟩,by simp[intOf];omega⟩;rw[Fq.out];by_cases h:d1<d2
    ·rw[if_pos h,Nat.max_eq_right (by omega)]
    ·rw[if_neg h,Nat.max_eq_left (by omega)]
   ·have hd1:bQ (fl.take j)<=2000000:=by have:=gP (fl.take j);have:=fB fl j;omega
    have HE:Hid (bQ (fl.take j)=bQ fl):=Lh (by rw[List.take_of_length_le (by omega)]);generalize bQ (fl.take j)=d1 at hd1 HE;go_wp2_with fail;go_ret;exact⟨by rw[<-HE.out];go_num,hb⟩
theorem GN(f:ae)(x:aC)(w:World)(hs:f.size<=2000000)(hx:aB w (·<w.heap.size) f x):
  Calls Tryz.prog 118 #[gB (f,x)] w fun e w'=>e=.returned (.int .i64 (f.size:Nat))/\Below w.heap.size w w':=by
 obtain⟨ns,h1,h2,h3⟩:=xX f.size f x w _ (Nat.le_refl _) hs hx;have hln:ns.length=f.size:=by rw[<-o6,<-h1,List.length_map]
 have hit:=fun W0 tb hag htb=>AB f x ns w _ h3 W0 tb hag htb;have HIT:=Lh hit;have Nk:=Lh (fun W=>Fw f x W);clear hit h1 h2 h3 hx;obtain⟨kind,name,n,terms,binds,fl⟩:=f;simp only[gB,aC.cells,aK.val,ae.kind,ae.name,ae.n,ae.terms,ae.binds,ae.l] at*;generalize ae.size (.mk kind name n terms binds fl)=sz at*;refine(callsIn_wide (n:=0)).1 (callsIn_of_wp_marks Tryz.func118 rfl trivial ?_);simp only[Tryz.ntmps118,List.size_toArray,List.length_cons,List.length_nil,Nat.reduceAdd,Nat.reduceSub,Array.replicate_succ,Array.replicate_zero,List.push_toArray,List.append_toArray,List.nil_append,List.cons_append]
 gi_wp2_with fail
 refine⟨trivial,rfl,(callsIn_wide.2 (Nk.out _)).mono ?_⟩;rintro e w' ⟨rfl,rfl⟩
 gi_wp2_with fail
 generalize hW3:(((w.alloc _).alloc _).alloc _)=W3;have hsz:W3.heap.size=w.heap.size+3:=by rw[<-hW3];simp
 have hb3:Below w.heap.size w W3:=by rw[<-hW3];exact(((Below.refl _ _).alloc (Nat.le_refl _) _).alloc (by simp) _).alloc (by simp;omega) _
 have g1:W3.heap[w.heap.size+1]?=some (.cells #[.int .i64 0] 3 (0,0)):=by rw[<-hW3];simp only[af,World.size_alloc];repeat(first|rw[if_pos trivial]|rw[if_pos (by omega)]|rw[if_neg (by omega)])
 have g2:W3.heap[w.heap.size+1+1]?=some (.cells #[.int .i64 kind,.string ⟨name.toArray⟩,.int .i64 n,.slice x.t.a terms.length x.t.cap,.slice x.b.a binds.length x.b.cap,.slice x.l.a fl.length x.l.cap] 64 (0,0)):=by rw[<-hW3];simp only[af,World.size_alloc];repeat(first|rw[if_pos trivial]|rw[if_pos (by omega)]|rw[if_neg (by omega)])
 have hit:=HIT.out W3 (w.heap.size+1+1) (ag hb3) g2;have G:=Lh (aI hsz (aI hb3 g1));have HI2:=Lh hit;clear hW3 hsz hb3 g1 g2 hit;refine mQ (gf:=154) (lb:=#[.pointer (some ⟨w.heap.size+1+1,0,none⟩)]) rfl (enters_of Tryz.func154 (by kernel_rfl) rfl)
  HI2.out (fun _ _=>rfl) (fun k=>k=w.heap.size+1) (fun k hk=>by have:=G.out.1;omega) (fun k hk=>by have:=G.out.1;omega)
  (fun i W=>W.heap[w.heap.size+1]?=some (.cells #[.int .i64 i] 3 (0,0))) (fun _ _ _=>False) (eu.box (T:=fun k=>k=w.heap.size+1) (B:=w.heap.size+1) (o:=fun i=>.cells #[.int .i64 i] 3 (0,0)) rfl) (fun _=>GJ) G.out.2.2 _ (fun l i W K hi hK=>wpIn_skip hK) ?body ?done (fun _ _ _ _ _ _ _ _ _ _ h _=>h.elim)
 case body=>
  intro l i W hi hm hb hT hwl hnl;have r0:W.cell? ⟨w.heap.size+1,0,none⟩=some (.int .i64 i):=cH hb rfl;have r1:W.frozen? ⟨w.heap.size+1,0,none⟩=false:=fH hb;have HB:=Lh hb;clear hb
  gi_wp2_with fail
  refine⟨(aa.Mod.refl (fun k=>k=w.heap.size+1) _).setCell (p:=⟨w.heap.size+1,0,none⟩) (fun _=>rfl) _,?_⟩;show(W.setCell ⟨w.heap.size+1,0,none⟩ _).heap[w.heap.size+1]?=_;rw[aW _ HB.out];rfl
 case done=>
  intro D0 W hD0 hDlt hnD hm hb hdd;rw[hln] at hb;have r0:W.cell? ⟨w.heap.size+1,0,none⟩=some (.int .i64 sz):=cH hb rfl;have HH:=Lh (aI hm hdd);clear hb hm hdd
  gi_wp2_with fail
  refine qR (v:=.int .i64 sz) [D0] W (fun w=>by simp[results,Tryz.results118,go_sem]) (by simp) (fun d hd=>by simp at hd;subst hd;exact HH.out.2) (fun W' hm'=>⟨rfl,?_⟩);have h1:=G.out;exact h1.2.1.trans ((HH.out.1.below (B:=w.heap.size) (by omega) (fun k hk=>by omega)).trans (hm'.below (by have:=HH.out.1.size;omega) (fun k hk=>by simp at hk;omega)))
end Go.Proofs.YtncnnbmeacpboaaGreatDoor
