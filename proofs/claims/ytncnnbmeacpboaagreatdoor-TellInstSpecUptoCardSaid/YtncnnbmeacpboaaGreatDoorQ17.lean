/- Parts of the proof. -/
import Derived.Test.YtncnnbmeacpboaaGreatDoorQ15
import Derived.Test.YtncnnbmeacpboaaGreatDoorQ07
set_option maxHeartbeats 1000000
set_option maxRecDepth 100000
set_option linter.unusedVariables false
set_option linter.unusedSimpArgs false
namespace Go.aa
open Go.RowKit
variable {t:List (Bs×Int)}
def gY:Nat->List (Bs×Int)->List MapEntry
 |_,[]=>[]
 |n,p::r=>{ key:=.string ⟨p.1.toArray⟩,val:=.int .i64 p.2,born:=n}::gY (n+1) r
def oO(w:World)(b:Nat)(t:List (Bs×Int)):Prop:=w.heap[b]?=some (.map (gY 0 t).toArray t.length)
theorem oO.below{w w':World}{b:Nat}(h:oO w b t)(hb:Below w.heap.size w w'):oO w' b t:=(hb.block b (gS h).1).trans h
theorem yg:∀(t:List (Bs×Int)) (n:Nat),(∀x∈gY n t,n<=x.born/\x.born<n+t.length)/\((gY n t).map (·.born)).Nodup
 |[],n=>⟨by simp[gY],by simp[gY]⟩
 |p::r,n=>by
  obtain⟨h1,h2⟩:=yg r (n+1);refine⟨fun x hx=>?_,?_⟩
  ·rw[gY] at hx;rcases List.mem_cons.1 hx with rfl|hx
   ·simp
   ·have:=h1 x hx;simp only[List.length_cons];omega
  ·rw[gY,List.map_cons,List.nodup_cons];refine⟨fun hm=>?_,h2⟩;obtain⟨x,hx,he⟩:=List.mem_map.1 hm;have:=h1 x hx;simp only at he;omega
theorem BA:∀(t:List (Bs×Int)) (n:Nat) (x:MapEntry),x∈gY n t->∃p∈t,x.key=.string ⟨p.1.toArray⟩/\x.val=.int .i64 p.2
 |[],n,x,hx=>by simp[gY] at hx
 |p::r,n,x,hx=>by
  rw[gY] at hx;rcases List.mem_cons.1 hx with rfl|hx
  ·exact⟨p,by simp,rfl,rfl⟩
  ·obtain⟨q,hq,h⟩:=BA r (n+1) x hx;exact⟨q,by simp[hq],h⟩
theorem Bz:∀(t:List (Bs×Int)) (n:Nat) (p:Bs×Int),p∈t->∃x∈gY n t,x.val=.int .i64 p.2
 |q::r,n,p,hp=>by
  rw[gY];rcases List.mem_cons.1 hp with rfl|hp
  ·exact⟨_,List.mem_cons_self ..,rfl⟩
  ·obtain⟨x,hx,h⟩:=Bz r (n+1) p hp;exact⟨x,by simp[hx],h⟩
theorem IG{α:Type}(a:Array α)(x y:α):(a.push x).setIfInBounds a.size y=a.push y:=by
 apply Array.ext_getElem?;intro i;rw[Array.getElem?_setIfInBounds,Array.getElem?_push,Array.getElem?_push];by_cases h:a.size=i
 ·subst h;simp
 ·rw[if_neg h,if_neg (fun e=>h e.symm),if_neg (fun e=>h e.symm)]
theorem dY{P:Program}(w:World)(T K E:TypeId)(es:Array MapEntry)(clock:Nat)(k:Bs)(v:Value)(hT:P.underlying T=some (.map K E))(hK:P.underlying K=some .string)(hf:Instr.findNow .string (.string ⟨k.toArray⟩) es.toList 0=some none):
  (Instr.mapUpdate T (.map (some w.heap.size)) (.string ⟨k.toArray⟩) v).run P (w.alloc (.map es clock))=.ok () (w.alloc (.map (es.push { key:=.string ⟨k.toArray⟩,val:=v,born:=clock}) (clock+1))):=by
 have h:(w.alloc (.map es clock)).heap[w.heap.size]?=some (.map es clock):=(MapKept.heap_alloc w _).1;unfold Instr.mapUpdate;simp only[Sem.run_bind,run_underlying hT,Result.andThen_ok,MapKept.run_getObj_map h,MapKept.run_checkKey (P:=P) hK (k:=.string ⟨k.toArray⟩) trivial,MapKept.run_findKey hK hf,MapKept.run_setObj_map _ h];have e:(w.alloc (.map es clock)).heap=w.heap.push (.map es clock):=rfl;rw[e,IG];rfl
theorem He{n:Int}(h:∀p∈t,¬p.2=n):eO t n=[]:=by
 have:t.find? (fun p=>p.2==n)=none:=by rw[List.find?_eq_none];exact fun x hx=>by simpa using h x hx
 unfold eO;rw[this];rfl
theorem yh:∀ {t:List (Bs×Int)} {p:Bs×Int},(t.map Prod.snd).Nodup->p∈t->eO t p.2=p.1
 |q::r,p,hn,hp=>by
  rw[List.map_cons,List.nodup_cons] at hn;unfold eO;rw[List.find?_cons];by_cases h:q.2=p.2
  ·rw[show(q.2==p.2)=true from by simpa using h];rcases List.mem_cons.1 hp with rfl|hp
   ·rfl
   ·exact absurd (List.mem_map.2 ⟨p,hp,h.symm⟩) hn.1
  ·rw[show(q.2==p.2)=false from by simpa using h];rcases List.mem_cons.1 hp with rfl|hp
   ·exact absurd rfl h
   ·exact yh hn.2 hp
theorem ym:(fE.map Prod.snd).Nodup:=by decide
theorem Hd:(gU.map Prod.snd).Nodup:=by decide
theorem Hf:(ig.map Prod.snd).Nodup:=by decide
theorem Bw:(fD.map Prod.snd).Nodup:=by decide
end Go.aa
namespace Go.Proofs.YtncnnbmeacpboaaGreatDoor
open Go.RowKit Go.aa
variable {t:List (Bs×Int)}
theorem yG(w:World):Calls Tryz.prog 167 #[] w fun e w'=>e=.returned (.map (some w.heap.size))/\w'=w.alloc (.map (gY 0 fE).toArray 7):=by
 have hmm:= @run_makeMap Tryz.prog;have h0:=dY (P:=Tryz.prog) w 189 _ _ #[] 0 [108,101,115,115,111,110] (.int .i64 1) Tryz.underlying189 Tryz.underlying9 rfl;have h1:=dY (P:=Tryz.prog) w 189 _ _ #[{ key:=.string ⟨([108,101,115,115,111,110]:Bs).toArray⟩,val:=.int .i64 1,born:=0}] 1 [115,108,111,116] (.int .i64 2) Tryz.underlying189 Tryz.underlying9 rfl;have h2:=dY (P:=Tryz.prog) w 189 _ _ #[{ key:=.string ⟨([108,101,115,115,111,110]:Bs).toArray⟩,val:=.int .i64 1,born:=0},{ key:=.string ⟨([115,108,111,116]:Bs).toArray⟩,val:=.int .i64 2,born:=1}] 2 [114,111,111,109] (.int .i64 3) Tryz.underlying189 Tryz.underlying9 rfl;have h3:=dY (P:=Tryz.prog) w 189 _ _ #[{ key:=.string ⟨([108,101,115,115,111,110]:Bs).toArray⟩,val:=.int .i64 1,born:=0},{ key:=.string ⟨([115,108,111,116]:Bs).toArray⟩,val:=.int .i64 2,born:=1},{ key:=.string ⟨([114,111,111,109]:Bs).toArray⟩,val:=.int .i64 3,born:=2}] 3 [112,101,114,115,111,110] (.int .i64 4) Tryz.underlying189 Tryz.underlying9 rfl;have h4:=dY (P:=Tryz.prog) w 189 _ _ #[{ key:=.string ⟨([108,101,115,115,111,110]:Bs).toArray⟩,val:=.int .i64 1,born:=0},{ key:=.string ⟨([115,108,111,116]:Bs).toArray⟩,val:=.int .i64 2,born:=1},{ key:=.string ⟨([114,111,111,109]:Bs).toArray⟩,val:=.int .i64 3,born:=2},{ key:=.string ⟨([112,101,114,115,111,110]:Bs).toArray⟩,val:=.int .i64 4,born:=3}] 4 [103,114,111,117,112] (.int .i64 5) Tryz.underlying189 Tryz.underlying9 rfl;have h5:=dY (P:=Tryz.prog) w 189 _ _ #[{ key:=.string ⟨([108,101,115,115,111,110]:Bs).toArray⟩,val:=.int .i64 1,born:=0},{ key:=.string ⟨([115,108,111,116]:Bs).toArray⟩,val:=.int .i64 2,born:=1},{ key:=.string ⟨([114,111,111,109]:Bs).toArray⟩,val:=.int .i64 3,born:=2},{ key:=.string ⟨([112,101,114,115,111,110]:Bs).toArray⟩,val:=.int .i64 4,born:=3},{ key:=.string ⟨([103,114,111,117,112]:Bs).toArray⟩,val:=.int .i64 5,born:=4}] 5 [100,97,121] (.int .i64 6) Tryz.underlying189 Tryz.underlying9 rfl;have h6:=dY (P:=Tryz.prog) w 189 _ _ #[{ key:=.string ⟨([108,101,115,115,111,110]:Bs).toArray⟩,val:=.int .i64 1,born:=0},{ key:=.string ⟨([115,108,111,116]:Bs).toArray⟩,val:=.int .i64 2,born:=1},{ key:=.string ⟨([114,111,111,109]:Bs).toArray⟩,val:=.int .i64 3,born:=2},{ key:=.string ⟨([112,101,114,115,111,110]:Bs).toArray⟩,val:=.int .i64 4,born:=3},{ key:=.string ⟨([103,114,111,117,112]:Bs).toArray⟩,val:=.int .i64 5,born:=4},{ key:=.string ⟨([100,97,121]:Bs).toArray⟩,val:=.int .i64 6,born:=5}] 6 [104,111,117,115,101] (.int .i64 7) Tryz.underlying189 Tryz.underlying9 rfl;simp only[List.push_toArray,List.nil_append,List.cons_append,Nat.zero_add,Nat.reduceAdd] at h0 h1 h2 h3 h4 h5 h6;go_enter Tryz.func167,Tryz.ntmps167;go_wp2_with fail;go_ret;exact⟨rfl,rfl⟩
theorem Gt(w:World):Calls Tryz.prog 127 #[] w fun e w'=>e=.returned (.map (some w.heap.size))/\w'=w.alloc (.map (gY 0 gU).toArray 6):=by
 have hmm:= @run_makeMap Tryz.prog;have h0:=dY (P:=Tryz.prog) w 189 _ _ #[] 0 [97,116] (.int .i64 3) Tryz.underlying189 Tryz.underlying9 rfl;have h1:=dY (P:=Tryz.prog) w 189 _ _ #[{ key:=.string ⟨([97,116]:Bs).toArray⟩,val:=.int .i64 3,born:=0}] 1 [105,110] (.int .i64 4) Tryz.underlying189 Tryz.underlying9 rfl;have h2:=dY (P:=Tryz.prog) w 189 _ _ #[{ key:=.string ⟨([97,116]:Bs).toArray⟩,val:=.int .i64 3,born:=0},{ key:=.string ⟨([105,110]:Bs).toArray⟩,val:=.int .i64 4,born:=1}] 2 [116,101,97,99,104,101,115] (.int .i64 5) Tryz.underlying189 Tryz.underlying9 rfl;have h3:=dY (P:=Tryz.prog) w 189 _ _ #[{ key:=.string ⟨([97,116]:Bs).toArray⟩,val:=.int .i64 3,born:=0},{ key:=.string ⟨([105,110]:Bs).toArray⟩,val:=.int .i64 4,born:=1},{ key:=.string ⟨([116,101,97,99,104,101,115]:Bs).toArray⟩,val:=.int .i64 5,born:=2}] 3 [97,116,116,101,110,100,115] (.int .i64 6) Tryz.underlying189 Tryz.underlying9 rfl;have h4:=dY (P:=Tryz.prog) w 189 _ _ #[{ key:=.string ⟨([97,116]:Bs).toArray⟩,val:=.int .i64 3,born:=0},{ key:=.string ⟨([105,110]:Bs).toArray⟩,val:=.int .i64 4,born:=1},{ key:=.string ⟨([116,101,97,99,104,101,115]:Bs).toArray⟩,val:=.int .i64 5,born:=2},{ key:=.string ⟨([97,116,116,101,110,100,115]:Bs).toArray⟩,val:=.int .i64 6,born:=3}] 4 [97,119,97,121] (.int .i64 7) Tryz.underlying189 Tryz.underlying9 rfl;have h5:=dY (P:=Tryz.prog) w 189 _ _ #[{ key:=.string ⟨([97,116]:Bs).toArray⟩,val:=.int .i64 3,born:=0},{ key:=.string ⟨([105,110]:Bs).toArray⟩,val:=.int .i64 4,born:=1},{ key:=.string ⟨([116,101,97,99,104,101,115]:Bs).toArray⟩,val:=.int .i64 5,born:=2},{ key:=.string ⟨([97,116,116,101,110,100,115]:Bs).toArray⟩,val:=.int .i64 6,born:=3},{ key:=.string ⟨([97,119,97,121]:Bs).toArray⟩,val:=.int .i64 7,born:=4}] 5 [115,104,117,116] (.int .i64 8) Tryz.underlying189 Tryz.underlying9 rfl;simp only[List.push_toArray,List.nil_append,List.cons_append,Nat.zero_add,Nat.reduceAdd] at h0 h1 h2 h3 h4 h5;go_enter Tryz.func127,Tryz.ntmps127;go_wp2_with fail;go_ret;exact⟨rfl,rfl⟩
theorem IW(w:World):Calls Tryz.prog 165 #[] w fun e w'=>e=.returned (.map (some w.heap.size))/\w'=w.alloc (.map (gY 0 ig).toArray 5):=by
 have hmm:= @run_makeMap Tryz.prog;have h0:=dY (P:=Tryz.prog) w 189 _ _ #[] 0 [100,97,121] (.int .i64 3) Tryz.underlying189 Tryz.underlying9 rfl;have h1:=dY (P:=Tryz.prog) w 189 _ _ #[{ key:=.string ⟨([100,97,121]:Bs).toArray⟩,val:=.int .i64 3,born:=0}] 1 [104,111,117,114] (.int .i64 4) Tryz.underlying189 Tryz.underlying9 rfl;have h2:=dY (P:=Tryz.prog) w 189 _ _ #[{ key:=.string ⟨([100,97,121]:Bs).toArray⟩,val:=.int .i64 3,born:=0},{ key:=.string ⟨([104,111,117,114]:Bs).toArray⟩,val:=.int .i64 4,born:=1}] 2 [104,111,117,115,101] (.int .i64 5) Tryz.underlying189 Tryz.underlying9 rfl;have h3:=dY (P:=Tryz.prog) w 189 _ _ #[{ key:=.string ⟨([100,97,121]:Bs).toArray⟩,val:=.int .i64 3,born:=0},{ key:=.string ⟨([104,111,117,114]:Bs).toArray⟩,val:=.int .i64 4,born:=1},{ key:=.string ⟨([104,111,117,115,101]:Bs).toArray⟩,val:=.int .i64 5,born:=2}] 3 [115,101,97,116,115] (.int .i64 6) Tryz.underlying189 Tryz.underlying9 rfl;have h4:=dY (P:=Tryz.prog) w 189 _ _ #[{ key:=.string ⟨([100,97,121]:Bs).toArray⟩,val:=.int .i64 3,born:=0},{ key:=.string ⟨([104,111,117,114]:Bs).toArray⟩,val:=.int .i64 4,born:=1},{ key:=.string ⟨([104,111,117,115,101]:Bs).toArray⟩,val:=.int .i64 5,born:=2},{ key:=.string ⟨([115,101,97,116,115]:Bs).toArray⟩,val:=.int .i64 6,born:=3}] 4 [115,105,122,101] (.int .i64 7) Tryz.underlying189 Tryz.underlying9 rfl;simp only[List.push_toArray,List.nil_append,List.cons_append,Nat.zero_add,Nat.reduceAdd] at h0 h1 h2 h3 h4;go_enter Tryz.func165,Tryz.ntmps165;go_wp2_with fail;go_ret;exact⟨rfl,rfl⟩
theorem AJ(w:World):Calls Tryz.prog 124 #[] w fun e w'=>e=.returned (.map (some w.heap.size))/\w'=w.alloc (.map (gY 0 fD).toArray 4):=by
 have hmm:= @run_makeMap Tryz.prog;have h0:=dY (P:=Tryz.prog) w 189 _ _ #[] 0 [97,108,108] (.int .i64 14) Tryz.underlying189 Tryz.underlying9 rfl;have h1:=dY (P:=Tryz.prog) w 189 _ _ #[{ key:=.string ⟨([97,108,108]:Bs).toArray⟩,val:=.int .i64 14,born:=0}] 1 [115,111,109,101] (.int .i64 15) Tryz.underlying189 Tryz.underlying9 rfl;have h2:=dY (P:=Tryz.prog) w 189 _ _ #[{ key:=.string ⟨([97,108,108]:Bs).toArray⟩,val:=.int .i64 14,born:=0},{ key:=.string ⟨([115,111,109,101]:Bs).toArray⟩,val:=.int .i64 15,born:=1}] 2 [108,101,97,115,116] (.int .i64 16) Tryz.underlying189 Tryz.underlying9 rfl;have h3:=dY (P:=Tryz.prog) w 189 _ _ #[{ key:=.string ⟨([97,108,108]:Bs).toArray⟩,val:=.int .i64 14,born:=0},{ key:=.string ⟨([115,111,109,101]:Bs).toArray⟩,val:=.int .i64 15,born:=1},{ key:=.string ⟨([108,101,97,115,116]:Bs).toArray⟩,val:=.int .i64 16,born:=2}] 3 [109,111,115,116] (.int .i64 17) Tryz.underlying189 Tryz.underlying9 rfl;simp only[List.push_toArray,List.nil_append,List.cons_append,Nat.zero_add,Nat.reduceAdd] at h0 h1 h2 h3;go_enter Tryz.func124,Tryz.ntmps124;go_wp2_with fail;go_ret;exact⟨rfl,rfl⟩
theorem sw(t:List (Bs×Int))(n:Int)(bm:Nat)(w:World)(hb:oO w bm t)(hn:(t.map Prod.snd).Nodup):Calls Tryz.prog 125 #[.map (some bm),.int .i64 n] w fun e w'=>e=.returned (.string ⟨(eO t n).toArray⟩)/\Below w.heap.size w w':=by
 have hrg:=run_range_map (P:=Tryz.prog) w 189 9 3 bm _ _ Tryz.underlying189 hb;have hst:=yg t 0;have hbl:=(gS hb).1;have HB:=Lh hb;have HN:=Lh hn;have HS:=Lh hst;obtain⟨clock,hck⟩:∃c,c=t.length:=⟨_,rfl⟩;obtain⟨es,hes⟩:∃es,es=(gY 0 t).toArray:=⟨_,rfl⟩;have HE:=Lh (aI hck hes);rw[<-hck] at hrg;clear hb hn hst hck hes;go_enter Tryz.func125,Tryz.ntmps125;go_wp2_with fail;go_loopw [] (fun wr=>Below w.heap.size w wr/\∃seen:Array Nat,wr.heap[w.heap.size]?=some (.mapIter (some bm) clock seen clock)/\Hid (∀x∈es.toList,seen.contains x.born=true->¬valOf x.val=n)) (fun wr=>(leftOf es (wr.iterSeen w.heap.size)).size)
 case atStart=>exact⟨(Below.refl _ _).alloc (Nat.le_refl _) _,#[],heap_alloc_new _ _,fun x _ h=>by simp at h⟩
 case round=>
  obtain⟨hbe,seen,hit,Xo⟩:=hrel;have VQ:wr.heap[bm]?=some (.map es clock):=by rw[HE.out.1,HE.out.2];exact(hbe.block bm hbl).trans HB.out
  have hold:∀x∈es.toList,x.born<clock:=fun x hx=>by rw[HE.out.2] at hx;rw[HE.out.1];have:=HS.out.1 x (by simpa using hx);omega
  have hnd:(es.toList.map (·.born)).Nodup:=by rw[HE.out.2];simpa using HS.out.2
  have law:=run_next_at (P:=Tryz.prog) wr 0 w.heap.size bm clock clock seen es clock hit VQ hold (Nat.le_refl _);have HH:=Lh (aI hit (aI VQ (aI hold hnd)));have wQ:=Lh hbe;clear hit VQ hold hnd hbe hrg;rcases law with⟨h0,hrun⟩|⟨e,he,w2,SY,hrun⟩
  ·have hnx:∀ty,(Instr.next (.pointer (some ⟨w.heap.size,0,none⟩)) false ty).run Tryz.prog wr=_:=fun _=>hrun;clear hrun;go_wp2_with fail;go_ret;have hk:eO t n=[]:=He (fun p hp hpn=>by
    obtain⟨x,hx,hxv⟩:=Bz t 0 p hp;have hx':x∈es.toList:=by rw[HE.out.2];simpa using hx
    exact Xo.out x hx' (all_seen es seen h0 x hx') (by rw[hxv];exact hpn))
   rw[hk];exact⟨rfl,wQ.out⟩
  ·obtain⟨hem,hse⟩:=mem_left he;obtain⟨p,hp,hkey,hval⟩:=BA t 0 e (by rw[HE.out.2] at hem;simpa using hem);rw[hkey,hval] at hrun;have hw2:w2.heap=wr.heap/\Below w.heap.size w w2:=by
    rcases SY with rfl|rfl
    ·exact⟨rfl,wQ.out⟩
    ·exact⟨rfl,wQ.out.drew⟩
   have hlt:w.heap.size<wr.heap.size:=(gS HH.out.1).1;have hit3:(Go.ChangeMaps.setBlock w2 w.heap.size (.mapIter (some bm) clock (seen.push e.born) clock)).heap[w.heap.size]?=some (.mapIter (some bm) clock (seen.push e.born) clock):=by
    show(w2.heap.setIfInBounds w.heap.size _)[w.heap.size]?=_;rw[Array.getElem?_setIfInBounds_self_of_lt (by rw[hw2.1];exact hlt)]
   have QL:(Go.ChangeMaps.setBlock w2 w.heap.size (.mapIter (some bm) clock (seen.push e.born) clock)).heap[bm]?=some (.map es clock):=by
    show(w2.heap.setIfInBounds w.heap.size _)[bm]?=_;rw[Array.getElem?_setIfInBounds_ne (by omega),hw2.1];exact HH.out.2.1
   have hb3:Below w.heap.size w (Go.ChangeMaps.setBlock w2 w.heap.size (.mapIter (some bm) clock (seen.push e.born) clock)):=⟨hw2.2.os,hw2.2.tape,hw2.2.output,by show _<=(w2.heap.setIfInBounds _ _).size;rw[Array.size_setIfInBounds];exact hw2.2.size,fun k hk=>by
    show(w2.heap.setIfInBounds _ _)[k]?=_;rw[Array.getElem?_setIfInBounds_ne (by omega)];exact hw2.2.block k hk⟩
   have hms:(leftOf es ((Go.ChangeMaps.setBlock w2 w.heap.size (.mapIter (some bm) clock (seen.push e.born) clock)).iterSeen w.heap.size)).size<(leftOf es (wr.iterSeen w.heap.size)).size:=by
    unfold World.iterSeen;rw[hit3,HH.out.1];exact left_shrinks es seen e he
   generalize Go.ChangeMaps.setBlock w2 w.heap.size (.mapIter (some bm) clock (seen.push e.born) clock)=w3 at hrun hit3 QL hb3 hms;have hnx:∀ty,(Instr.next (.pointer (some ⟨w.heap.size,0,none⟩)) false ty).run Tryz.prog wr=_:=fun _=>hrun;have hen:=run_entry_at (P:=Tryz.prog) w3 w.heap.size bm clock seen es clock e hit3 QL hem HH.out.2.2.2;rw[hkey,hval] at hen;have H3:=Lh (aI hit3 (aI hb3 (aI hms (aI hem (aI hp hval)))));clear hit3 QL hb3 hms hrun hw2 SY hem hp hval hkey he hlt hse;by_cases hpn:p.2=n
   ·have e1:(p.2==n)=true:=by simpa using hpn
    have hk:eO t n=p.1:=by rw[<-hpn];exact yh HN.out H3.out.2.2.2.2.1
    have HK:=Lh hk;clear hpn hk;go_wp2_with fail;go_ret;exact⟨by rw[HK.out];rfl,H3.out.2.1⟩
   ·have e1:(p.2==n)=false:=by simpa using hpn
    have HP:=Lh hpn;clear hpn;go_wp2_with fail;go_roundw
    case rel=>
     refine⟨H3.out.2.1,seen.push e.born,H3.out.1,fun x hx hc=>?_⟩;rw[contains_push] at hc;rcases Bool.or_eq_true _ _▸hc with h1|h1
     ·exact Xo.out x hx h1
     ·have:x=e:=born_inj HH.out.2.2.2 hx H3.out.2.2.2.1 (beq_iff_eq.1 h1);subst this;rw[H3.out.2.2.2.2.2];exact HP.out
    case measure=>exact H3.out.2.2.1
end Go.Proofs.YtncnnbmeacpboaaGreatDoor
