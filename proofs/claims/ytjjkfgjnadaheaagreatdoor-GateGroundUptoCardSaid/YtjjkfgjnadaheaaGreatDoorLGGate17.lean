/- Joined texts: XMade2, XGates, XLive, XLinValue, XHolds, XKept, XMeansLaw, XReader. -/
import Derived.Test.YtjjkfgjnadaheaaGreatDoorLGGate16
import Derived.Test.YtjjkfgjnadaheaaGreatDoorLGGate2
import Derived.ChangeAlike
import Derived.Deep.RegionHeld3
import Derived.Test.YtjjkfgjnadaheaaGreatDoorLGGate12
import Derived.Test.YtjjkfgjnadaheaaGreatDoorLGGate4
import Derived.Test.YtjjkfgjnadaheaaGreatDoorLGGate10
import Derived.Test.YtjjkfgjnadaheaaGreatDoorLGGate6
import Derived.Test.YtjjkfgjnadaheaaGreatDoorLGGate11
set_option maxHeartbeats 1000000
set_option maxRecDepth 100000
set_option linter.unusedVariables false
set_option linter.unusedSimpArgs false
/- gate's made: its walk. -/
namespace Go.Proofs.YtjjkfgjnadaheaaGreatDoor
open Go.RowKit Go.Chalk
def MadePost (w:World) (r:List Int×List Lin×Int×Int) (e:Ending) (w':World):Prop :=
 ∃ vL vS,e=.returned (.tuple #[vL,.agg #[vS,.int .i64 r.2.2.1],.int .i64 r.2.2.2])/\NewAt w w' (.sl (dints r.1)) [vL]/\NewAt w w' (.sl (r.2.1.map Lin.toD)) [vS]/\Below w.heap.size w w'

theorem below_undrewX {B:Nat} {w w3:World} (h:Below B w w3):Below B w w3.drew:=⟨h.os,h.tape,h.output,h.size,h.block⟩
theorem new_nil (w w':World):NewAt w w' (.sl []) [.slice none 0 0] :=
 DAt.slice (xs:=[]) (b:=0) (o:=0) (a:=none) (fun h=>by simp at h) (Nat.le_refl _) (Nat.zero_le _) (by rw [RowAt];trivial)

theorem made_arg (l:List Tr) (next:Int) (a:Option Addr) (cap:Nat) (w:World) (h0:next<1∨65537<next) :
  Calls Tryz.prog 77 #[.slice a l.length cap,.int .i64 next] w (MadePost w ([],[],0,1)):=by
 rcases h0 with h0 | h0
 ·go_enter_defers Tryz.func77,Tryz.ntmps77
  go_wp2_with fail
  go_region
  all_goals
   go_wp2
   refine ⟨.tuple #[.slice none 0 0,.agg #[.slice none 0 0,.int .i64 0],.int .i64 1],by simp [results,Tryz.results77,go_sem],_,_,rfl,new_nil _ _,new_nil _ _,?_⟩
   exact below_undrewX ((((Below.refl _ _).alloc (Nat.le_refl _) _).alloc (by simp) _).alloc (by simp;omega) _)
 ·have h0':decide (next<1)=false:=by simp;omega
  go_enter_defers Tryz.func77,Tryz.ntmps77
  go_wp2_with fail
  go_region
  all_goals
   go_wp2
   refine ⟨.tuple #[.slice none 0 0,.agg #[.slice none 0 0,.int .i64 0],.int .i64 1],by simp [results,Tryz.results77,go_sem],_,_,rfl,new_nil _ _,new_nil _ _,?_⟩
   exact below_undrewX ((((Below.refl _ _).alloc (Nat.le_refl _) _).alloc (by simp) _).alloc (by simp;omega) _)

structure MadeRel (w wr:World) (l:List Tr) (next:Int) (j:Nat) (lv v':Value) (r q:Option Nat) (xs:List Int) (ls:List Lin) (nx:Int):Prop where
 le:j<=l.length
 eq:allGo l next [] []=allGo (l.drop j) nx xs ls
 lo:1<=nx
 hi:nx<=65537
 nlen:xs.length<=j
 nlin:ls.length<=2*sizes (l.take j)
 c4:wr.heap[w.heap.size]?=some (.cells #[lv] 90 (0,0))
 c5:wr.heap[w.heap.size+1]?=some (.cells #[.slice none 0 0,.int .i64 0] 142 (0,0))
 c6:wr.heap[w.heap.size+1+1]?=some (.cells #[.int .i64 0] 40 (0,0))
 kinds:KindsAt wr (w.heap.size+1+1+1)
 maker:MkAt wr (fun k=>w.heap.size+4<k/\k<wr.heap.size/\q ≠ some k) (w.heap.size+1+1+1+1) 210 139 [.map (some (w.heap.size+1+1+1))] v' nx ls r
 lits:Chalk.Own wr (fun _=>False) 3 1 lv q (dints xs)
 low:∀ k,q=some k->w.heap.size+4<k
 below:Below w.heap.size w wr

theorem MadeRel.start (w:World) (l:List Tr) (next:Int) (h1:1<=next) (h2:next<=65537) :
  MadeRel w (((((w.alloc (.cells #[.slice none 0 0] 90)).alloc (.cells #[.slice none 0 0,.int .i64 0] 142)).alloc (.cells #[.int .i64 0] 40)).alloc (.map kindsEs 4)).alloc (.cells #[.slice none 0 0,.int .i64 next,.map (some (w.heap.size+1+1+1))] 210)) l next 0 (.slice none 0 0) (.slice none 0 0) none none [] [] next:=by
 have g:∀ (w:World) (o:Obj) (k:Nat),(w.alloc o).heap[k]?=if k=w.heap.size then some o else w.heap[k]?:=heap_alloc_get'
 refine ⟨Nat.zero_le _,rfl,h1,h2,Nat.le_refl _,by simp,?_,?_,?_,?_,⟨?_,⟨fun _=>False,Chalk.Own.nil _ _ _ _ (fun _ h=>h.elim),fun _ h=>h.elim⟩,fun _ h=>(by cases h),fun k hk=>hk.2.1⟩,Chalk.Own.nil _ _ _ _ (fun _ h=>h.elim),fun _ h=>(by cases h),?_⟩
 ·simp only [g,World.size_alloc];repeat (first | rw [if_pos trivial] | rw [if_pos rfl] | rw [if_neg (by omega)])
 ·simp only [g,World.size_alloc];repeat (first | rw [if_pos trivial] | rw [if_pos rfl] | rw [if_neg (by omega)])
 ·simp only [g,World.size_alloc];repeat (first | rw [if_pos trivial] | rw [if_pos rfl] | rw [if_neg (by omega)])
 ·unfold KindsAt;simp only [g,World.size_alloc];repeat (first | rw [if_pos trivial] | rw [if_pos rfl] | rw [if_neg (by omega)])
 ·simp only [g,World.size_alloc];repeat (first | rw [if_pos trivial] | rw [if_pos rfl] | rw [if_neg (by omega)])
 ·exact (((((Below.refl _ _).alloc (Nat.le_refl _) _).alloc (by simp) _).alloc (by simp;omega) _).alloc (by simp;omega) _).alloc (by simp;omega) _

theorem MadeRel.kept {w wr w2:World} {l:List Tr} {next:Int} {j:Nat} {lv v':Value} {r q:Option Nat} {xs:List Int} {ls:List Lin} {nx:Int} (R:MadeRel w wr l next j lv v' r q xs ls nx) (hb:Below wr.heap.size wr w2):MadeRel w w2 l next j lv v' r q xs ls nx:=by
 have hs:=hb.size
 have hb0:=R.below.size
 have g:∀ k o,wr.heap[k]?=some o->w2.heap[k]?=some o:=fun k o h=>(hb.block k (gS h).1).trans h
 exact ⟨R.le,R.eq,R.lo,R.hi,R.nlen,R.nlin,g _ _ R.c4,g _ _ R.c5,g _ _ R.c6,g _ _ R.kinds,(R.maker.below hb).mono (fun k hk=>⟨hk.1,by omega,hk.2.2⟩) (fun k hk=>hk.2.1),R.lits.below hb,R.low,R.below.trans (hb.mono hb0)⟩

theorem MadeRel.behind {w w3 w4:World} {l:List Tr} {next:Int} {j:Nat} {lv v':Value} {r q:Option Nat} {xs:List Int} {ls:List Lin} {nx:Int} (R:MadeRel w w3 l next j lv v' r q xs ls nx) (hm:Chalk.Mod (fun k=>k=w.heap.size+1+1+1+1∨r=some k) w3.drew w4) :
  Chalk.Own w4 (fun _=>False) 3 1 lv q (dints xs)/\(∀ k o,k<w.heap.size+4->w3.heap[k]?=some o->w4.heap[k]?=some o):=by
 have hb:Below w3.heap.size w3 w3.drew:=below_undrewX (Below.refl _ _)
 have hq:∀ k,q=some k->¬ (k=w.heap.size+1+1+1+1∨r=some k):=fun k hk h=>by
  have:=R.low k hk
  rcases h with h | h
  ·omega
  ·exact (R.maker.row k h).1.2.2 hk
 refine ⟨(R.lits.below hb).kept hm (fun _ h=>h.elim) hq,fun k o hk h=>?_⟩
 rw [hm.block k (gS h).1 (fun h=>?_)]
 ·exact h
 ·rcases h with h | h
  ·omega
  ·have:=(R.maker.row k h).1.1;omega

theorem MadeRel.step {w w3 w4 w5:World} {l:List Tr} {next:Int} {j:Nat} {lv v' x:Value} {r q:Option Nat} {xs:List Int} {ls new:List Lin} {nx nx' y:Int} {e:Ending} {g cap:Nat} (R:MadeRel w w3 l next j lv v' r q xs ls nx) (hj:j<l.length)
  (hp:LitPost w3.drew (fun k=>w.heap.size+4<k/\k<w3.heap.size/\q ≠ some k) (w.heap.size+1+1+1+1) 210 139 [.map (some (w.heap.size+1+1+1))] ls r x new nx' e w4)
  (hg:gatesF l[j] nx=(y,new,nx',0)) (hnx:nx<=nx') (hnx':nx'<=65537) (hnew:new.length<=2*(l[j]).size) (hy : -9223372036854775808<=y/\y<=9223372036854775807)
  (ho:w5.ownsRow 0 3 1 (.slice (some ⟨g,0,none⟩) (xs.length+1) cap) (xs.length+1) (xs.map (Value.int .i64)++[.int .i64 y])) (hgr:(w4.alloc (.cells #[.int .i64 y] 3)).grownBy w5 lv.ownBlock) (hat:lv.ownBlock=some g∨g=w4.heap.size+1) :
  (w5.cell? ⟨w.heap.size,0,none⟩=some lv/\w5.frozen? ⟨w.heap.size,0,none⟩=false)/\∃ v'' r'',MadeRel w (w5.setCell ⟨w.heap.size,0,none⟩ (.slice (some ⟨g,0,none⟩) (xs.length+1) cap)) l next (j+1) (.slice (some ⟨g,0,none⟩) (xs.length+1) cap) v'' r'' (some g) (xs++[y]) (ls++new) nx':=by
 obtain ⟨_,v'',r'',m1,f1,md1⟩:=hp
 obtain ⟨o4,keep4⟩:=R.behind md1
 have hs1:w3.heap.size<=w4.heap.size:=md1.size
 have hs2:=hgr.size
 simp only [World.size_alloc] at hs2
 have hs0:=R.below.size
 have hmb:w.heap.size+1+1+1+1<w3.heap.size:=R.maker.lt
 have hrow:lv.ownBlock=q:=R.lits.row
 have hqlt:∀ k,q=some k->k<w3.heap.size:=fun k hk=>R.lits.row_lt hk
 obtain ⟨o5,md2,at2⟩:=(o4.alloc (.cells #[.int .i64 y] 3)).int_appended (ys:=[y]) (fun x hx=>by simp at hx;subst hx;exact hy) (by simpa using ho) hgr (by rcases hat with h | h;exact .inl h.symm;exact .inr (by simp [Value.ownBlock,h]))
 have hgq:q=some g∨g=w4.heap.size+1:=by rw [<- hrow];exact hat
 have hglow:w.heap.size+4<g:=by
  rcases hgq with h | h
  ·exact R.low g h
  ·omega
 have md2':Chalk.Mod (fun k=>q=some k) w4 w5:=((Chalk.Mod.refl _ w4).alloc _).trans md2 (fun _ _ h=>h)
 have keep5:∀ k o,k<w.heap.size+4->w3.heap[k]?=some o->w5.heap[k]?=some o:=fun k o hk h=>by
  have h4:=keep4 k o hk h
  rw [md2'.block k (gS h4).1 (fun e=>by have:=R.low k e;omega)];exact h4
 have c4:=keep5 _ _ (by omega) R.c4
 refine ⟨⟨cH c4 rfl,fH c4⟩,v'',r'',?_⟩
 have hset:∀ k,k ≠ w.heap.size->(w5.setCell ⟨w.heap.size,0,none⟩ (.slice (some ⟨g,0,none⟩) (xs.length+1) cap)).heap[k]?=w5.heap[k]?:=fun k hk=>Below.heap_setCell _ _ _ _ hk
 have hssz:(w5.setCell ⟨w.heap.size,0,none⟩ (.slice (some ⟨g,0,none⟩) (xs.length+1) cap)).heap.size=w5.heap.size:=by simp [World.setCell]
 have mdS:Chalk.Mod (fun k=>k=w.heap.size) w5 (w5.setCell ⟨w.heap.size,0,none⟩ (.slice (some ⟨g,0,none⟩) (xs.length+1) cap)):=(Chalk.Mod.refl (fun k=>k=w.heap.size) w5).setCell (p:=⟨w.heap.size,0,none⟩) (fun _=>rfl) _
 have hG1:∀ k,((w.heap.size+4<k/\k<w3.heap.size/\q ≠ some k)∨(w3.drew.heap.size<=k/\k<w4.heap.size))->q ≠ some k/\w.heap.size+4<k/\k<w4.heap.size:=fun k hk=>by
  rcases hk with h | h
  ·exact ⟨h.2.2,h.1,by omega⟩
  ·have h1:w3.heap.size<=k:=h.1
   exact ⟨fun e=>by have:=hqlt k e;omega,by omega,h.2⟩
 have m2:=(m1.kept md2' (fun h=>by have:=R.low _ h;omega) (fun k hk=>(hG1 k hk).1)).kept mdS (by omega) (fun k hk=>by have:=(hG1 k hk).2.1;omega)
 have hst:sizes (l.take (j+1))=sizes (l.take j)+(l[j]).size:=sizes_take_succ l j hj
 have hn1:=R.nlen
 have hn2:=R.nlin
 refine ⟨by omega,R.eq.trans (allGo_next hj hg rfl),by have:=R.lo;omega,hnx',by simp;omega,by simp;omega,?_,?_,?_,?_,?_,?_,?_,?_⟩
 ·rw [box_store _ c4];rfl
 ·rw [hset _ (by omega)];exact keep5 _ _ (by omega) R.c5
 ·rw [hset _ (by omega)];exact keep5 _ _ (by omega) R.c6
 ·unfold KindsAt;rw [hset _ (by omega)];exact keep5 _ _ (by omega) R.kinds
 ·refine m2.mono (fun k hk=>?_) (fun k hk=>hk.2.1)
  have h1:=hG1 k hk
  refine ⟨h1.2.1,by rw [hssz];omega,?_⟩
  rcases hgq with e | e
  ·rw [<- e];exact h1.1
  ·simp;omega
 ·exact (by simpa [Value.ownBlock] using o5:Chalk.Own w5 (fun _=>False) 3 1 (.slice (some ⟨g,0,none⟩) (xs.length+1) cap) (some g) (dints (xs++[y]))).store _ id (by simp;omega)
 ·intro k hk;simp at hk;omega
 ·have b1:Below w.heap.size w3 w4:=by
   have:=md1.below (B:=w.heap.size) (by show _<=w3.heap.size;omega) (fun k hk=>by
    rcases hk with h | h
    ·omega
    ·have:=(R.maker.row k h).1.1;omega)
   exact ⟨this.os,this.tape,this.output,this.size,this.block⟩
  have b2:Below w.heap.size w4 w5:=md2'.below (by omega) (fun k hk=>by have:=R.low k hk;omega)
  exact ((R.below.trans b1).trans b2).trans (mdS.below (by omega) (fun k hk=>by omega))

theorem made_stop {w w4:World} {tmps:Array Value} {code:Int} {res:List Int×List Lin×Int×Int} {a4:Option Addr} {n4 k4:Nat} (hres:res=([],[],0,code)) (hb:Below w.heap.size w w4)
  (h4:w4.heap[w.heap.size]?=some (.cells #[.slice a4 n4 k4] 90 (0,0))) (h5:w4.heap[w.heap.size+1]?=some (.cells #[.slice none 0 0,.int .i64 0] 142 (0,0))) (h6:w4.heap[w.heap.size+1+1]?=some (.cells #[.int .i64 0] 40 (0,0)))
  (t4:tmps[4]?=some (.pointer (some ⟨w.heap.size,0,none⟩))) (t5:tmps[5]?=some (.pointer (some ⟨w.heap.size+1,0,none⟩))) (t6:tmps[6]?=some (.pointer (some ⟨w.heap.size+1+1,0,none⟩))) :
  bodyPostD Tryz.prog Tryz.f77 (MadePost w res) (.panic [{ v:=.iface 212 (.agg #[.int .i64 code]),recovered:=false }])
   { tmps:=tmps,defers:=[{ target:=.fn (.func 143) #[.pointer (some ⟨w.heap.size,0,none⟩),.pointer (some ⟨w.heap.size+1,0,none⟩),.pointer (some ⟨w.heap.size+1+1,0,none⟩)],args:=#[] }] } w4:=by
 refine leaves_cons (f:=143) (args:=#[.pointer (some ⟨w.heap.size,0,none⟩),.pointer (some ⟨w.heap.size+1,0,none⟩),.pointer (some ⟨w.heap.size+1+1,0,none⟩)]) (by simp) (by simp [go_sem]) ?_
 refine (catch_panicking _ _ _ code _ _ _ _ _ _ _ _ w4 h4 h5 h6 (by omega) (by omega) (by omega)).mono ?_
 rintro e u' w5 ⟨rfl,rfl,hc⟩
 have c4:w5.cell? ⟨w.heap.size,0,none⟩=some (.slice none 0 0):=cH hc.c4 rfl
 have c5:w5.cell? ⟨w.heap.size+1,0,none⟩=some (.slice none 0 0):=cH hc.c5 rfl
 have c5':w5.cell? ⟨w.heap.size+1,1,none⟩=some (.int .i64 0):=cH hc.c5 rfl
 have c6:w5.cell? ⟨w.heap.size+1+1,0,none⟩=some (.int .i64 code):=cH hc.c6 rfl
 have hbb:Below w.heap.size w w5:=hb.trans (hc.mod.below hb.size (fun k hk=>by omega))
 subst hres
 have hR:MadePost w ([],[],0,code) (.returned (.tuple #[.slice none 0 0,.agg #[.slice none 0 0,.int .i64 0],.int .i64 code])) w5:=⟨_,_,rfl,new_nil _ _,new_nil _ _,hbb⟩
 simp only [Leaves,settle]
 refine ⟨_,?_,hR⟩
 simp [results,Tryz.results77,go_sem,t4,t5,t6,c4,c5,c5',c6]

theorem maker_read {w w':World} {G:Nat->Prop} {mb:Nat} {tm tl:TypeId} {ex:List Value} {v:Value} {nx:Int} {ls:List Lin} {r:Option Nat} (h:MkAt w' G mb tm tl ex v nx ls r) (hG:∀ k,G k->w.heap.size<=k):NewAt w w' (.sl (ls.map Lin.toD)) [v]:=by
 obtain ⟨h1,⟨F,h2,h3⟩,h4,h5⟩:=h
 exact h2.read (fun k hk=>⟨hG k (h3 k hk).1,h5 k (h3 k hk).1⟩) (fun k hk=>⟨hG k (h4 k hk).1,h5 k (h4 k hk).1⟩) (by rw [lins_widths,List.length_map])

theorem made_done {w wr:World} {l:List Tr} {next:Int} {la a3:Option Addr} {n4 lcap n3 cap3:Nat} {r q:Option Nat} {xs:List Int} {ls:List Lin} {nx:Int} {tmps:Array Value} (R:MadeRel w wr l next l.length (.slice la n4 lcap) (.slice a3 n3 cap3) r q xs ls nx) (heq:allGo l next [] []=(xs,ls,nx,0))
  (t4:tmps[4]?=some (.pointer (some ⟨w.heap.size,0,none⟩))) (t5:tmps[5]?=some (.pointer (some ⟨w.heap.size+1,0,none⟩))) (t6:tmps[6]?=some (.pointer (some ⟨w.heap.size+1+1,0,none⟩))) :
  bodyPostD Tryz.prog Tryz.f77 (MadePost w (allGo l next [] [])) .ret
   { tmps:=tmps,defers:=[{ target:=.fn (.func 143) #[.pointer (some ⟨w.heap.size,0,none⟩),.pointer (some ⟨w.heap.size+1,0,none⟩),.pointer (some ⟨w.heap.size+1+1,0,none⟩)],args:=#[] }] }
   ((((wr.setCell ⟨w.heap.size,0,none⟩ (.slice la n4 lcap)).setCell ⟨w.heap.size+1,0,none⟩ (.slice a3 n3 cap3)).setCell ⟨w.heap.size+1,1,none⟩ (.int .i64 nx)).setCell ⟨w.heap.size+1+1,0,none⟩ (.int .i64 0)).drew:=by
 have hm:Chalk.Mod (fun k=>k=w.heap.size∨k=w.heap.size+1∨k=w.heap.size+1+1) wr ((((wr.setCell ⟨w.heap.size,0,none⟩ (.slice la n4 lcap)).setCell ⟨w.heap.size+1,0,none⟩ (.slice a3 n3 cap3)).setCell ⟨w.heap.size+1,1,none⟩ (.int .i64 nx)).setCell ⟨w.heap.size+1+1,0,none⟩ (.int .i64 0)).drew :=
  ((((((Chalk.Mod.refl _ wr).setCell (p:=⟨w.heap.size,0,none⟩) (fun _=>.inl rfl) _).setCell (p:=⟨w.heap.size+1,0,none⟩) (fun _=>.inr (.inl rfl)) _).setCell (p:=⟨w.heap.size+1,1,none⟩) (fun _=>.inr (.inl rfl)) _).setCell (p:=⟨w.heap.size+1+1,0,none⟩) (fun _=>.inr (.inr rfl)) _)).drew
 have k4:((((wr.setCell ⟨w.heap.size,0,none⟩ (.slice la n4 lcap)).setCell ⟨w.heap.size+1,0,none⟩ (.slice a3 n3 cap3)).setCell ⟨w.heap.size+1,1,none⟩ (.int .i64 nx)).setCell ⟨w.heap.size+1+1,0,none⟩ (.int .i64 0)).heap[w.heap.size]?=some (.cells #[.slice la n4 lcap] 90 (0,0)):=by
  rw [Below.heap_setCell _ _ _ _ (by show w.heap.size ≠ w.heap.size+1+1;omega),Below.heap_setCell _ _ _ _ (by show w.heap.size ≠ w.heap.size+1;omega),Below.heap_setCell _ _ _ _ (by show w.heap.size ≠ w.heap.size+1;omega),box_store _ R.c4];rfl
 have k5:((((wr.setCell ⟨w.heap.size,0,none⟩ (.slice la n4 lcap)).setCell ⟨w.heap.size+1,0,none⟩ (.slice a3 n3 cap3)).setCell ⟨w.heap.size+1,1,none⟩ (.int .i64 nx)).setCell ⟨w.heap.size+1+1,0,none⟩ (.int .i64 0)).heap[w.heap.size+1]?=some (.cells #[.slice a3 n3 cap3,.int .i64 nx] 142 (0,0)):=by
  have h5:(wr.setCell ⟨w.heap.size,0,none⟩ (.slice la n4 lcap)).heap[w.heap.size+1]?=some (.cells #[.slice none 0 0,.int .i64 0] 142 (0,0)):=by rw [Below.heap_setCell _ _ _ _ (by show w.heap.size+1 ≠ w.heap.size;omega)];exact R.c5
  rw [Below.heap_setCell _ _ _ _ (by show w.heap.size+1 ≠ w.heap.size+1+1;omega),box_store _ (box_store _ h5)];rfl
 have k6:((((wr.setCell ⟨w.heap.size,0,none⟩ (.slice la n4 lcap)).setCell ⟨w.heap.size+1,0,none⟩ (.slice a3 n3 cap3)).setCell ⟨w.heap.size+1,1,none⟩ (.int .i64 nx)).setCell ⟨w.heap.size+1+1,0,none⟩ (.int .i64 0)).heap[w.heap.size+1+1]?=some (.cells #[.int .i64 0] 40 (0,0)):=by
  have h6:(((wr.setCell ⟨w.heap.size,0,none⟩ (.slice la n4 lcap)).setCell ⟨w.heap.size+1,0,none⟩ (.slice a3 n3 cap3)).setCell ⟨w.heap.size+1,1,none⟩ (.int .i64 nx)).heap[w.heap.size+1+1]?=some (.cells #[.int .i64 0] 40 (0,0)):=by
   rw [Below.heap_setCell _ _ _ _ (by show w.heap.size+1+1 ≠ w.heap.size+1;omega),Below.heap_setCell _ _ _ _ (by show w.heap.size+1+1 ≠ w.heap.size+1;omega),Below.heap_setCell _ _ _ _ (by show w.heap.size+1+1 ≠ w.heap.size;omega)];exact R.c6
  rw [box_store _ h6];rfl
 generalize hW:((((wr.setCell ⟨w.heap.size,0,none⟩ (.slice la n4 lcap)).setCell ⟨w.heap.size+1,0,none⟩ (.slice a3 n3 cap3)).setCell ⟨w.heap.size+1,1,none⟩ (.int .i64 nx)).setCell ⟨w.heap.size+1+1,0,none⟩ (.int .i64 0))=W at *
 clear hW
 have hb0:=R.below.size
 have hmb:w.heap.size+1+1+1+1<wr.heap.size:=R.maker.lt
 refine leaves_cons (f:=143) (args:=#[.pointer (some ⟨w.heap.size,0,none⟩),.pointer (some ⟨w.heap.size+1,0,none⟩),.pointer (some ⟨w.heap.size+1+1,0,none⟩)]) (by simp) (by simp [go_sem]) ?_
 refine (catch_idle _ _ _ W.drew).mono ?_
 rintro e u' w5 ⟨rfl,rfl,rfl⟩
 have c4:W.drew.cell? ⟨w.heap.size,0,none⟩=some (.slice la n4 lcap):=cH (w:=W.drew) k4 rfl
 have c5:W.drew.cell? ⟨w.heap.size+1,0,none⟩=some (.slice a3 n3 cap3):=cH (w:=W.drew) k5 rfl
 have c5':W.drew.cell? ⟨w.heap.size+1,1,none⟩=some (.int .i64 nx):=cH (w:=W.drew) k5 rfl
 have c6:W.drew.cell? ⟨w.heap.size+1+1,0,none⟩=some (.int .i64 0):=cH (w:=W.drew) k6 rfl
 have hbb:Below w.heap.size w W.drew:=R.below.trans (hm.below hb0 (fun k hk=>by omega))
 have hM:=R.maker.kept hm (by omega) (fun k hk=>by omega)
 have hO:=R.lits.kept hm (fun _ h=>h.elim) (fun k hk=>by have:=R.low k hk;omega)
 have hR:MadePost w (allGo l next [] []) (.returned (.tuple #[.slice la n4 lcap,.agg #[.slice a3 n3 cap3,.int .i64 nx],.int .i64 0])) W.drew:=by
  rw [heq]
  exact ⟨_,_,rfl,hO.read (fun _ h=>h.elim) (fun k hk=>⟨by have:=R.low k hk;omega,hO.row_lt hk⟩) (by rw [dints_widths];simp),maker_read hM (fun k hk=>by omega),hbb⟩
 generalize W.drew=W' at *
 simp only [Leaves,settle]
 refine ⟨_,?_,hR⟩
 simp [results,Tryz.results77,go_sem,t4,t5,t6,c4,c5,c5',c6]

theorem slot_is {ts:Array Value} {ds:List Deferred} {a0:Act} {t:Nat} {p:Addr} (h:slot ⟨ts,ds⟩ t=slot a0 t) (h0:slot a0 t=.pointer (some p)):ts[t]?=some (.pointer (some p)):=by
 rw [h0] at h
 unfold slot at h
 simp only [Array.getD_eq_getD_getElem?] at h
 cases hx:ts[t]? with
 | none=>rw [hx] at h;simp [undef] at h
 | some v=>rw [hx] at h;simp at h;rw [h]

theorem made_lit {w w3:World} {l:List Tr} {next:Int} {j:Nat} {lv v' x:Value} {r q:Option Nat} {xs:List Int} {ls:List Lin} {nx:Int} (R:MadeRel w w3 l next j lv v' r q xs ls nx) (hj:j<l.length) (ht:TreeV w (·<w.heap.size) l[j] x) (hsz:sizes l<=200000) (hce:checkE l[j] (nx - 1)=0) :
  Calls Tryz.prog 146 #[.pointer (some ⟨w.heap.size+1+1+1+1,0,none⟩),x] w3.drew (LitOut w3.drew (fun k=>w.heap.size+4<k/\k<w3.heap.size/\q ≠ some k) (w.heap.size+1+1+1+1) [.map (some (w.heap.size+1+1+1))] ls r (.int .i64 (litF l[j] nx).1) (litF l[j] nx).2.1 (litF l[j] nx).2.2):=by
 have hb:Below w3.heap.size w3 w3.drew:=below_undrewX (Below.refl _ _)
 obtain ⟨c1,c2,c3,c4⟩:=checkE_ok hce
 have h1:=R.lo
 have h2:=R.hi
 have h3:=R.nlin
 have h4:=sizes_take_succ l j hj
 have h5:=sizes_take_le l (j+1)
 have hbb:=R.below.size
 refine lit_own _ l[j] x (nx - 1) nx v' ls r w3.drew w.heap.size (w.heap.size+1+1+1+1) (w.heap.size+1+1+1) _ (Nat.le_refl _) c3 c2 h1 h2 (by omega) (by omega) (ht.agree ?_) (by exact hbb) (by omega) (fun k hk=>by omega) R.kinds (by omega) (fun h=>by omega) (R.maker.below hb)
 exact agree_of_below (R.below.trans (hb.mono hbb))
theorem made_lit_stop {w w3:World} {l:List Tr} {next:Int} {j:Nat} {lv v' x:Value} {r q:Option Nat} {xs:List Int} {ls:List Lin} {nx:Int} (R:MadeRel w w3 l next j lv v' r q xs ls nx) (hj:j<l.length) (ht:TreeV w (·<w.heap.size) l[j] x) (hsz:sizes l<=200000) (hce:checkE l[j] (nx - 1)=0) (hov:65537<(litF l[j] nx).2.2) :
  Calls Tryz.prog 146 #[.pointer (some ⟨w.heap.size+1+1+1+1,0,none⟩),x] w3.drew (Stops (fun k=>k=w.heap.size+1+1+1+1∨r=some k) w3.drew) :=
 (made_lit R hj ht hsz hce).mono (fun e w' h=>by rcases h with h | h;exact h.2;omega)
theorem made_lit_ok {w w3:World} {l:List Tr} {next:Int} {j:Nat} {lv v' x:Value} {r q:Option Nat} {xs:List Int} {ls:List Lin} {nx:Int} (R:MadeRel w w3 l next j lv v' r q xs ls nx) (hj:j<l.length) (ht:TreeV w (·<w.heap.size) l[j] x) (hsz:sizes l<=200000) (hce:checkE l[j] (nx - 1)=0) (hov:(litF l[j] nx).2.2<=65537) :
  Calls Tryz.prog 146 #[.pointer (some ⟨w.heap.size+1+1+1+1,0,none⟩),x] w3.drew (LitPost w3.drew (fun k=>w.heap.size+4<k/\k<w3.heap.size/\q ≠ some k) (w.heap.size+1+1+1+1) 210 139 [.map (some (w.heap.size+1+1+1))] ls r (.int .i64 (litF l[j] nx).1) (litF l[j] nx).2.1 (litF l[j] nx).2.2) :=
 (made_lit R hj ht hsz hce).mono (fun e w' h=>by rcases h with h | h;omega;exact h.2)

theorem made_loop (l:List Tr) (next:Int) (a:Option Addr) (b o cap:Nat) (w:World) (hl:TreesIn w (·<w.heap.size) l b o) (hsl:SlAt (·<w.heap.size) a b o l.length) (hsz:sizes l<=200000) (h1:1<=next) (h2:next<=65537) :
  Calls Tryz.prog 77 #[.slice a l.length cap,.int .i64 next] w (MadePost w (allGo l next [] [])):=by
 have hll:=length_le_sizes l
 have HL:=Lh hl
 clear hl
 have hmf:∀ (fn:Fn) (first cap:Array Value) (w:World),(Instr.makeFunc fn first cap).run Tryz.prog w=.ok (.func fn first cap) w:=fun _ _ _ _=>rfl
 go_enter_defers Tryz.func77,Tryz.ntmps77
 go_wp2_with fail
 refine (kinds_any _).mono ?_
 rintro e w1 ⟨rfl,rfl⟩
 go_wp2_with fail
 go_loopw [26,9,10] (fun i _ _ wr=>∃ (j:Nat) (lv v':Value) (r q:Option Nat) (xs:List Int) (ls:List Lin) (nx:Int),i=.int .i64 j/\MadeRel w wr l next j lv v' r q xs ls nx) (fun i _ _ _=>l.length - (intOf i).toNat)
 case atStart=>exact ⟨0,_,_,_,_,_,_,_,rfl,MadeRel.start w l next h1 h2⟩
 case round =>
  obtain ⟨j,lv,v',r,q,xs,ls,nx,rfl,R⟩:=hrel
  have hj:=R.le
  have hnx1:=R.lo
  have hnx2:=R.hi
  have hbs:=R.below.size
  obtain ⟨la,lcap,hlv⟩:=R.lits.form
  rw [dints_length] at hlv
  subst hlv
  have hm4:w.heap.size+1+1+1+1<wr.heap.size:=R.maker.lt
  by_cases hlt:j<l.length
  ·obtain ⟨rfl,hbl⟩:=hsl (by omega)
   obtain ⟨k0,k1,k2,a1,n1,cap1,e0,e1,e2,e3,htj⟩:=TreesIn.at HL.out R.below hbl j hlt
   have hts:(l[j]).size<=200000:=by have:=size_le_sizes l j hlt;omega
   have HTV:Hid (∀ W,Below w.heap.size w W->TreeV W (·<W.heap.size) l[j] (.agg #[.int .i64 k0,.int .i64 k1,.int .i64 k2,.slice a1 n1 cap1])):=fun W hb=>htj.later hb hb.size
   have HTJ:=Lh htj
   obtain ⟨p0,p1,p2,p3⟩:=R.maker.cells
   have HR:=Lh R
   have HG:=Lh (gatesF_cases l[j] nx hnx1 hnx2)
   have HS1:Hid (w.heap.size<=wr.heap.size):=hbs
   have HS2:Hid ((l[j]).size<=2000000):=by show _<=_;omega
   clear R htj
   generalize hce:checkE l[j] (nx - 1)=ce at *
   have HCE:=Lh hce
   clear hce
   go_upto_region 8 with (fail)
   have hwr:IntKind.i64.wrap (nx - 1)=nx - 1:=IntWalk.i64_in _ (by omega)
   refine wp_region_noPanic ?_
   go_region_law (go_simp;go_at_call 144;(with_reducible refine (check_any l[j] _ (nx - 1) _ HS2.out (HTV.out _ (below_undrewX (HR.out.below.alloc HS1.out _)))).mono ?_);rintro e w2 ⟨rfl,hb2⟩;have HB2:=Lh hb2;clear hb2;rw [HCE.out])
   all_goals
    refine NoPanic.normal ?_
    clear hwr
    obtain ⟨z0,z1,z2,z3⟩:=boxed4 (below_drew HB2.out) (by simp)
    have HBW:=Lh (Below.ahead (below_drew HB2.out) (by simp))
    have HR2:=Lh (HR.out.kept HBW.out)
    have hs2:wr.heap.size<w2.heap.size:=by have:=(below_drew HB2.out).size;simp at this;omega
    clear HB2 p0 p1 p2 p3 e0 e1 e2 e3
    rcases HG.out with ⟨hc,hg⟩ | ⟨hc,hw,hg⟩ | ⟨hc,hw,hov,hg⟩ | ⟨hc,hw,hov,hg⟩
    ·have hne:(ce != 0)=true:=by simpa using hc
     have HRES:Hid (allGo l next [] []=([],[],0,ce)):=HR2.out.eq.trans (allGo_stop hlt hg hc)
     clear hg hc
     go_wp2_with fail
     exact made_stop HRES.out HR2.out.below HR2.out.c4 HR2.out.c5 HR2.out.c6 rfl rfl rfl
    ·subst hc
     have HRES:Hid (allGo l next [] []=([],[],0,2)):=HR2.out.eq.trans (allGo_stop hlt hg (by simp))
     have HW:=Lh hw
     clear hg hw
     go_wp2_with fail
     refine (wide_any _ l[j] _ _ (Nat.le_refl _) HS2.out (HTV.out _ HR2.out.below)).mono ?_
     rintro e w3 ⟨rfl,hb3⟩
     rw [HW.out]
     have HR3:=Lh (HR2.out.kept hb3)
     clear hb3
     go_wp2_with fail
     exact made_stop HRES.out HR3.out.below HR3.out.c4 HR3.out.c5 HR3.out.c6 rfl rfl rfl
    ·subst hc
     have HRES:Hid (allGo l next [] []=([],[],0,2)):=HR2.out.eq.trans (allGo_stop hlt hg (by simp))
     have HW:=Lh hw
     have HOV:=Lh hov
     clear hg hw hov
     go_wp2_with fail
     refine (wide_any _ l[j] _ _ (Nat.le_refl _) HS2.out (HTV.out _ HR2.out.below)).mono ?_
     rintro e w3 ⟨rfl,hb3⟩
     rw [HW.out]
     have HR3:=Lh (HR2.out.kept hb3)
     have y0:=(hb3.cell (p:=⟨wr.heap.size,0,none⟩) hs2).trans z0
     have y1:=(hb3.cell (p:=⟨wr.heap.size,1,none⟩) hs2).trans z1
     have y2:=(hb3.cell (p:=⟨wr.heap.size,2,none⟩) hs2).trans z2
     have y3:=(hb3.cell (p:=⟨wr.heap.size,3,none⟩) hs2).trans z3
     clear hb3 z0 z1 z2 z3
     have HLC:Hid (Calls Tryz.prog 146 #[.pointer (some ⟨w.heap.size+1+1+1+1,0,none⟩),.agg #[.int .i64 k0,.int .i64 k1,.int .i64 k2,.slice a1 n1 cap1]] w3.drew (Stops (fun k=>k=w.heap.size+1+1+1+1∨r=some k) w3.drew)):=made_lit_stop HR3.out hlt HTJ.out hsz HCE.out HOV.out
     go_upto_region 13 with (fail)
     refine stop_region (mb:=w.heap.size+1+1+1+1) (b4:=w.heap.size) (b9:=wr.heap.size) rfl ⟨_,rfl⟩ ⟨_,rfl⟩ ⟨_,rfl⟩ ⟨_,rfl⟩ ⟨_,_,rfl⟩ ⟨_,_,rfl⟩ ⟨_,_,rfl⟩ (by show 52<59;omega) rfl rfl rfl (cH HR3.out.c4 rfl) y0 y1 y2 y3 HLC.out ?_
     intro a' w' hdf hfar hm
     obtain ⟨_,keep⟩:=HR3.out.behind hm
     have b1:Below w.heap.size w3 w':=by
      have:=hm.below (B:=w.heap.size) (by have:=HR3.out.below.size;exact this) (fun k hk=>by
       rcases hk with h | h
       ·omega
       ·have:=(HR3.out.maker.row k h).1.1;omega)
      exact ⟨this.os,this.tape,this.output,this.size,this.block⟩
     obtain ⟨ts,ds⟩:=a'
     simp only at hdf
     subst hdf
     exact made_stop HRES.out (HR3.out.below.trans b1) (keep _ _ (by omega) HR3.out.c4) (keep _ _ (by omega) HR3.out.c5) (keep _ _ (by omega) HR3.out.c6) (slot_is (hfar 4 (by omega)) rfl) (slot_is (hfar 5 (by omega)) rfl) (slot_is (hfar 6 (by omega)) rfl)
    ·subst hc
     have HW:=Lh hw
     have HOV:=Lh hov
     have HGT:=Lh hg
     clear hg hw hov
     go_wp2_with fail
     refine (wide_any _ l[j] _ _ (Nat.le_refl _) HS2.out (HTV.out _ HR2.out.below)).mono ?_
     rintro e w3 ⟨rfl,hb3⟩
     rw [HW.out]
     have HR3:=Lh (HR2.out.kept hb3)
     have y0:=(hb3.cell (p:=⟨wr.heap.size,0,none⟩) hs2).trans z0
     have y1:=(hb3.cell (p:=⟨wr.heap.size,1,none⟩) hs2).trans z1
     have y2:=(hb3.cell (p:=⟨wr.heap.size,2,none⟩) hs2).trans z2
     have y3:=(hb3.cell (p:=⟨wr.heap.size,3,none⟩) hs2).trans z3
     have y4:w3.cell? ⟨w.heap.size,0,none⟩=some (.slice la xs.length lcap):=cH HR3.out.c4 rfl
     clear hb3 z0 z1 z2 z3
     obtain ⟨m1,m2,m3,m4⟩:=checkE_ok HCE.out
     have hbd:=litF_bound l[j] nx (nx - 1) m3 hnx1
     have hyb : -9223372036854775808<=(litF l[j] nx).1/\(litF l[j] nx).1<=9223372036854775807:=by have:=HOV.out;omega
     have HBD:=Lh hbd
     have HXL:=Lh HR3.out.nlen
     have hxl:xs.length<=200000:=by have:=HR3.out.nlen;omega
     have HLC:=Lh (made_lit_ok HR3.out hlt HTJ.out hsz HCE.out HOV.out)
     obtain ⟨i0,hi,hz0,hz1,hz2⟩:=info_parts sums_info
     generalize hy:(litF l[j] nx).1=y at *
     clear hy hbd m1 m2 m3 m4
     go_upto_region 13 with (fail)
     refine wp_region_noPanic ?_
     go_region_law (first | (refine step_append_lies _ (by rfl) _ _ _ (by rfl) 0 3 i0 _ 1 8 Tryz.underlying90 hi hz0 hz1 hz2 rfl (by omega) (.slice la xs.length lcap) xs.length (xs.map (Value.int .i64)) (by rfl) (HO4.out.1.alloc _).int_cells.1 ⟨w4.heap.size,0,none⟩ 1 1 [.int .i64 y] (by rfl) (by rfl) (cell_one_new _ _ _) (by simp [Value.oneCell']) (by omega) (by unfold maxLen;omega) (by omega) (Nat.zero_le _) (w4.heap.size+1) (by simp) ?_;intro g cp w5 hown hgrow hat hglt;obtain ⟨⟨hcz,hfz⟩,hst⟩:=HR3.out.step hlt HP.out HGT.out HBD.out.1 HOV.out (litF_lins l[j] nx) hyb hown hgrow hat;have HST:=Lh hst;clear hst hown hgrow hat) | (go_simp;go_at_call 146;(with_reducible refine HLC.out.mono ?_);intro e w4 hp;have HP:=Lh hp;obtain ⟨rfl,_,_,_,_,hmd⟩:=hp;have HO4:=Lh (HR3.out.behind hmd);have x4:w4.cell? ⟨w.heap.size,0,none⟩=some (.slice la xs.length lcap):=cH (HO4.out.2 _ _ (by omega) HR3.out.c4) rfl;have x5:w.heap.size<w4.heap.size:=(gS (HO4.out.2 _ _ (by omega) HR3.out.c4)).1;clear hmd))
     all_goals
      refine NoPanic.normal ?_
      obtain ⟨v2,r2,R2⟩:=HST.out
      have HRN:=Lh R2
      clear R2
      go_wp2_with fail
      go_roundw
      case rel=>exact ⟨j+1,_,v2,r2,_,_,_,_,by go_num,HRN.out⟩
      case measure=>simp [intOf];omega
  ·obtain rfl:j=l.length:=by omega
   have heq:=R.eq
   rw [List.drop_of_length_le (Nat.le_refl _),allGo] at heq
   obtain ⟨p0,p1,p2,p3⟩:=R.maker.cells
   have x4:wr.cell? ⟨w.heap.size,0,none⟩=some (.slice la xs.length lcap):=cH R.c4 rfl
   have x5:wr.cell? ⟨w.heap.size+1,0,none⟩=some (.slice none 0 0):=cH R.c5 rfl
   have x5':wr.cell? ⟨w.heap.size+1,1,none⟩=some (.int .i64 0):=cH R.c5 rfl
   have x6:wr.cell? ⟨w.heap.size+1+1,0,none⟩=some (.int .i64 0):=cH R.c6 rfl
   have f4:wr.frozen? ⟨w.heap.size,0,none⟩=false:=fH R.c4
   have f5:wr.frozen? ⟨w.heap.size+1,0,none⟩=false:=fH R.c5
   have f5':wr.frozen? ⟨w.heap.size+1,1,none⟩=false:=fH R.c5
   have f6:wr.frozen? ⟨w.heap.size+1+1,0,none⟩=false:=fH R.c6
   obtain ⟨a3,n3,cap3,hv3⟩:∃ a n cap,v'=.slice a n cap:=by
    obtain ⟨_,⟨F,o,_⟩,_,_⟩:=R.maker
    obtain ⟨a,cap,h⟩:=o.form;exact ⟨a,_,cap,h⟩
   subst hv3
   have HEQ:=Lh heq
   have HR:=Lh R
   clear heq R
   go_wp2_with fail
   refine wp_region_noPanic ?_
   go_region
   all_goals
    refine NoPanic.normal ?_
    go_wp2_with fail
    exact made_done HR.out HEQ.out rfl rfl rfl

theorem made_any (l:List Tr) (next:Int) (x:Value) (w:World) (hd:DAt w (·<w.heap.size) (.sl (l.map Tr.toD)) [x]) (hsz:sizes l<=200000) :
  Calls Tryz.prog 77 #[x,.int .i64 next] w (MadePost w (allF l next)):=by
 obtain ⟨a,b,o,cap,he,h1,h2,h3,h4⟩:=Tr.open_slice hd
 simp only [List.cons.injEq,and_true] at he
 subst he
 unfold allF
 by_cases h0:next<1∨65537<next
 ·rw [if_pos h0];exact made_arg l next a cap w h0
 ·rw [if_neg h0];exact made_loop l next a b o cap w h4 h1 hsz (by omega) (by omega)

end Go.Proofs.YtjjkfgjnadaheaaGreatDoor
/- gate's Gates. -/
namespace Go.Proofs.YtjjkfgjnadaheaaGreatDoor
open Go.RowKit Go.Chalk
theorem one_tree {w:World} {t:Tr} {c0 c1 c2 c3:Value} (h:DAt w (·<w.heap.size) t.toD [c0,c1,c2,c3]) (e:TypeId) {H:Nat} (hH:w.heap.size=H) :
  DAt (w.alloc (.cells #[c0,c1,c2,c3] e)) (·<(w.alloc (.cells #[c0,c1,c2,c3] e)).heap.size) (.sl ([t].map Tr.toD)) [.slice (some ⟨H,0,none⟩) 1 1]:=by
 subst hH
 have h1:DsAt w (·<w.heap.size) [t.toD] [c0,c1,c2,c3]:=by rw [DsAt];exact ⟨_,[],(List.append_nil _).symm,h,by rw [DsAt]⟩
 have h2:=Chalk.Own.lit (w:=w) (e:=e) (sz:=4) (n:=1) (xs:=[t.toD]) (cs:=[c0,c1,c2,c3]) rfl (by decide) rfl h1 (fun k hk=>hk)
 exact h2.read (fun k hk=>by simp;omega) (fun k hk=>by simp at hk ⊢;omega) (by simp [widths,Tr.width])

theorem new_behind {w w1 w2:World} {x:D} {cs:List Value} (h:NewAt w1 w2 x cs) (hs:w.heap.size<=w1.heap.size):NewAt w w2 x cs:=DAt.mono (fun k hk=>⟨by omega,hk.2⟩) _ _ h
theorem new_later {w w2 w3:World} {x:D} {cs:List Value} (h:NewAt w w2 x cs) (hb:Below w2.heap.size w2 w3):NewAt w w3 x cs :=
 DAt.mono (fun k hk=>⟨hk.1,Nat.lt_of_lt_of_le hk.2 hb.size⟩) _ _ (DAt.agree (fun k hk=>hb.block k hk.2) _ _ h)

theorem gates_any (t:Tr) (x:Value) (next:Int) (w:World) (hs:t.size<=200000) (ht:TreeV w (·<w.heap.size) t x) :
  Calls Tryz.prog 29 #[x,.int .i64 next] w (GatesPost w (gatesF t next)):=by
 have HT:=Lh ht
 obtain ⟨c0,c1,c2,c3,rfl,h⟩:=ht
 obtain ⟨k0,k1,k2,a1,n1,cap1,rfl,rfl,rfl,rfl⟩:=TreeV.shape h
 have hb1:Below w.heap.size w (w.alloc (.cells #[.int .i64 k0,.int .i64 k1,.int .i64 k2,.slice a1 n1 cap1] 39)):=(Below.refl _ _).alloc (Nat.le_refl _) _
 have h1:DAt (w.alloc (.cells #[.int .i64 k0,.int .i64 k1,.int .i64 k2,.slice a1 n1 cap1] 39)) (·<(w.alloc (.cells #[.int .i64 k0,.int .i64 k1,.int .i64 k2,.slice a1 n1 cap1] 39)).heap.size) t.toD [.int .i64 k0,.int .i64 k1,.int .i64 k2,.slice a1 n1 cap1] :=
  DAt.mono (fun k hk=>by simp;omega) _ _ (DAt.agree (agree_of_below hb1) _ _ h)
 have h2:=one_tree h1 39 (H:=w.heap.size+1) (by simp)
 have HD:=Lh h2
 clear h h1 h2 hb1
 go_enter Tryz.func29,Tryz.ntmps29
 go_wp2_with fail
 refine (made_any [t] next _ _ HD.out (by simp [sizes];omega)).mono ?_
 rintro e w2 ⟨vL,vS,rfl,hL,hS,hb⟩
 have hbw:Below w.heap.size w w2:=(((Below.refl _ _).alloc (Nat.le_refl _) _).alloc (by simp) _).trans (hb.mono (by simp;omega))
 have HBW:=Lh hbw
 rw [allF_one] at hL hS ⊢
 by_cases he:(gatesF t next).2.2.2=0
 ·rw [if_neg (by simpa using he)] at hL hS ⊢
  have hL':=new_behind (w:=w) hL (by simp;omega)
  have hS':=new_behind (w:=w) hS (by simp;omega)
  obtain ⟨la,lb,lo,lcap,hl,hl1,hl2,hl3,hl4,hl5⟩:=DAt.open_ints hL'
  simp only [List.cons.injEq,and_true,List.length_singleton] at hl
  subst hl
  obtain ⟨rfl,hlb⟩:=hl1 (by simp)
  have hlc:=hl5 0 (by simp)
  simp only [Nat.add_zero,List.getElem_cons_zero] at hlc
  obtain ⟨sa,sn,scap,hsv⟩:∃ a n cap,vS=.slice a n cap:=by
   rw [NewAt,DAt] at hS'
   obtain ⟨a,_,_,cap,h,_⟩:=hS'
   simp at h
   exact ⟨a,_,cap,h⟩
  subst hsv
  have HS:=Lh hS'
  generalize hg:gatesF t next=g at *
  obtain ⟨g1,g2,g3,g4⟩:=g
  simp only at he hlc HS ⊢
  subst he
  have hlt2:lb<w2.heap.size:=hlb.2
  clear hL hS hL' hS' hl1 hl2 hl3 hl4 hl5 hb hbw hg hlb
  go_wp2_with fail
  go_quiet (fail)
  go_wp2_with fail
  refine bodyPost_ret (v:=.tuple #[.int .i64 g1,.slice sa sn scap,.int .i64 g3,.int .i64 0]) (by simp [results,Tryz.results29,go_sem]) rfl ?_
  have hb3:Below w2.heap.size w2 (w2.alloc (.cells #[.slice sa sn scap,.int .i64 g3] 142)):=(Below.refl _ _).alloc (Nat.le_refl _) _
  exact ⟨_,rfl,new_later (w3:=(w2.alloc _).drewN _) (new_later HS.out hb3) ⟨rfl,rfl,rfl,Nat.le_refl _,fun _ _=>rfl⟩,(HBW.out.trans (hb3.mono HBW.out.size)).os,(HBW.out.trans (hb3.mono HBW.out.size)).tape,(HBW.out.trans (hb3.mono HBW.out.size)).output,(HBW.out.trans (hb3.mono HBW.out.size)).size,(HBW.out.trans (hb3.mono HBW.out.size)).block⟩
 ·rw [if_pos (by simpa using he)]
  have HG:=Lh (gatesF_err t next he)
  have hne:((gatesF t next).2.2.2 != 0)=true:=by simpa using he
  obtain ⟨sa,sn,scap,hsv⟩:∃ a n cap,vS=.slice a n cap:=by
   rw [NewAt,DAt] at hS
   obtain ⟨a,_,_,cap,h,_⟩:=hS
   simp at h
   exact ⟨a,_,cap,h⟩
  subst hsv
  obtain ⟨la,ln,lcap,hlv⟩:∃ a n cap,vL=.slice a n cap:=by
   rw [NewAt,DAt] at hL
   obtain ⟨a,_,_,cap,h,_⟩:=hL
   simp at h
   exact ⟨a,_,cap,h⟩
  subst hlv
  clear hL hS hb hbw he
  generalize hx:(gatesF t next).2.2.2=ec at *
  have HX:=Lh hx
  clear hx
  go_wp2_with fail
  refine bodyPost_ret (v:=.tuple #[.int .i64 0,.slice none 0 0,.int .i64 0,.int .i64 ec]) (by simp [results,Tryz.results29,go_sem]) rfl ?_
  rw [HG.out]
  exact GatesPost.err (HBW.out.alloc HBW.out.size _)

end Go.Proofs.YtjjkfgjnadaheaaGreatDoor
/- The law's v and live: the sanity check. -/
namespace Go.Chalk
open Go.RowKit
theorem DAt.alloc {w:World} {x:D} {cs:List Value} (h:DAt w (·<w.heap.size) x cs) (o:Obj):DAt (w.alloc o) (·<(w.alloc o).heap.size) x cs :=
 DAt.mono (fun k hk=>by simp;omega) _ _ (DAt.agree (fun k hk=>Below.heap_alloc _ _ _ hk) _ _ h)
theorem DAt.below {w w':World} {x:D} {cs:List Value} (h:DAt w (·<w.heap.size) x cs) (hb:Below w.heap.size w w'):DAt w' (·<w'.heap.size) x cs :=
 DAt.mono (fun _ hk=>Nat.lt_of_lt_of_le hk hb.size) _ _ (DAt.agree (agree_of_below hb) _ _ h)
theorem DAt.lit {w:World} {xs:List D} {cs:List Value} {e:TypeId} {n sz H:Nat} (h:DsAt w (·<w.heap.size) xs cs) (hn:xs.length=n) (hm:n<=maxLen) (hw:widths xs=n*sz) (hH:w.heap.size=H) :
  DAt (w.alloc (.cells cs.toArray e)) (·<(w.alloc (.cells cs.toArray e)).heap.size) (.sl xs) [.slice (some ⟨H,0,none⟩) n n]:=by
 subst hH
 have h2:=Own.lit (e:=e) (sz:=sz) hn hm (by rw [DsAt.length _ _ h,hw]) h (fun k hk=>hk)
 exact h2.read (fun k hk=>by simp;omega) (fun k hk=>by simp at hk ⊢;omega) (by rw [hw,hn])
theorem Tr.at {w:World} {F:Nat->Prop} {kind v k:Int} {l:List Tr} {sv:Value} (h:DAt w F (.sl (l.map Tr.toD)) [sv]) (h1:I64 kind) (h2:I64 v) (h3:I64 k):DAt w F (Tr.mk kind v k l).toD [.int .i64 kind,.int .i64 v,.int .i64 k,sv]:=by
 rw [Tr.toD,DAt,Tr.toDs_eq]
 rw [DsAt];refine ⟨[.int .i64 kind],_,rfl,by rw [DAt];exact ⟨rfl,WalkArith.wf_i64 h1⟩,?_⟩
 rw [DsAt];refine ⟨[.int .i64 v],_,rfl,by rw [DAt];exact ⟨rfl,WalkArith.wf_i64 h2⟩,?_⟩
 rw [DsAt];refine ⟨[.int .i64 k],_,rfl,by rw [DAt];exact ⟨rfl,WalkArith.wf_i64 h3⟩,?_⟩
 rw [DsAt];exact ⟨[sv],[],rfl,h,by rw [DsAt]⟩
theorem DAt.nil {w:World} {F:Nat->Prop}:DAt w F (.sl []) [.slice none 0 0] :=
 DAt.slice (xs:=[]) (b:=0) (o:=0) (a:=none) (fun h=>by simp at h) (Nat.le_refl _) (Nat.zero_le _) (by rw [RowAt];trivial)
theorem DsAt.one_of {w:World} {F:Nat->Prop} {x:D} {cs:List Value} (h:DAt w F x cs):DsAt w F [x] cs:=by rw [DsAt];exact ⟨cs,[],(List.append_nil _).symm,h,by rw [DsAt]⟩

def liveT:Tr:=.mk 4 0 0 [.mk 2 1 0 [],.mk 3 0 0 [.mk 2 2 0 []]]
def liveL:List Lin:=[⟨[2,1,1],[-3,1,-2],2⟩,⟨[1,1,1],[3,-1,2],1⟩]
theorem live_3:gatesF liveT 3=(3,liveL,4,0):=by rfl
theorem live_2:gatesF liveT 2=(0,[],0,1):=by rfl
end Go.Chalk
namespace Go.Proofs.YtjjkfgjnadaheaaGreatDoor
open Go.RowKit Go.Chalk
theorem v_any (n:Int) (w:World):Calls Tryz.prog 75 #[.int .i64 n] w fun e w'=>e=.returned (.agg #[.int .i64 2,.int .i64 n,.int .i64 0,.slice none 0 0])/\Below w.heap.size w w':=by
 go_enter Tryz.func75,Tryz.ntmps75
 go_wp2_with fail
 refine bodyPost_ret (v:=.agg #[.int .i64 2,.int .i64 n,.int .i64 0,.slice none 0 0]) (by simp [results,Tryz.results75,go_sem]) rfl ?_
 exact ⟨rfl,(Below.refl _ _).alloc (Nat.le_refl _) _⟩

theorem liveT_at {w:World} {e e':TypeId} :
  DAt ((w.alloc (.cells #[.int .i64 2,.int .i64 2,.int .i64 0,.slice none 0 0] e)).alloc (.cells #[.int .i64 2,.int .i64 1,.int .i64 0,.slice none 0 0,.int .i64 3,.int .i64 0,.int .i64 0,.slice (some ⟨w.heap.size,0,none⟩) 1 1] e'))
   (·<((w.alloc (.cells #[.int .i64 2,.int .i64 2,.int .i64 0,.slice none 0 0] e)).alloc (.cells #[.int .i64 2,.int .i64 1,.int .i64 0,.slice none 0 0,.int .i64 3,.int .i64 0,.int .i64 0,.slice (some ⟨w.heap.size,0,none⟩) 1 1] e')).heap.size)
   liveT.toD [.int .i64 4,.int .i64 0,.int .i64 0,.slice (some ⟨w.heap.size+1,0,none⟩) 2 2]:=by
 have i0:I64 0:=by unfold I64;omega
 have i1:I64 1:=by unfold I64;omega
 have i2:I64 2:=by unfold I64;omega
 have i3:I64 3:=by unfold I64;omega
 have i4:I64 4:=by unfold I64;omega
 have n1:DAt w (·<w.heap.size) (Tr.mk 2 2 0 []).toD _:=Tr.at (l:=[]) DAt.nil i2 i2 i0
 have n2:=DAt.lit (e:=e) (n:=1) (sz:=4) (xs:=[Tr.mk 2 2 0 []].map Tr.toD) (DsAt.one_of n1) rfl (by decide) (by simp [widths,Tr.width]) rfl
 have n3:=Tr.at n2 i3 i0 i0
 have n4:DAt (w.alloc (.cells #[.int .i64 2,.int .i64 2,.int .i64 0,.slice none 0 0] e)) (·<(w.alloc (.cells #[.int .i64 2,.int .i64 2,.int .i64 0,.slice none 0 0] e)).heap.size) (Tr.mk 2 1 0 []).toD _:=Tr.at (l:=[]) DAt.nil i2 i1 i0
 have n5:=DAt.lit (e:=e') (n:=2) (sz:=4) (xs:=[Tr.mk 2 1 0 [],.mk 3 0 0 [.mk 2 2 0 []]].map Tr.toD) (H:=w.heap.size+1) ((DsAt.one_of n4).append (DsAt.one_of n3)) rfl (by decide) (by simp [widths,Tr.width]) (by simp)
 exact Tr.at n5 i4 i0 i0

theorem liveL_at {w:World} {ei el:TypeId} :
  DAt (((((w.alloc (.cells #[.int .i64 2,.int .i64 1,.int .i64 1] ei)).alloc (.cells #[.int .i64 (-3),.int .i64 1,.int .i64 (-2)] ei)).alloc (.cells #[.int .i64 1,.int .i64 1,.int .i64 1] ei)).alloc (.cells #[.int .i64 3,.int .i64 (-1),.int .i64 2] ei)).alloc (.cells #[.slice (some ⟨w.heap.size,0,none⟩) 3 3,.slice (some ⟨w.heap.size+1,0,none⟩) 3 3,.int .i64 2,.slice (some ⟨w.heap.size+1+1,0,none⟩) 3 3,.slice (some ⟨w.heap.size+1+1+1,0,none⟩) 3 3,.int .i64 1] el)) (·<(((((w.alloc (.cells #[.int .i64 2,.int .i64 1,.int .i64 1] ei)).alloc (.cells #[.int .i64 (-3),.int .i64 1,.int .i64 (-2)] ei)).alloc (.cells #[.int .i64 1,.int .i64 1,.int .i64 1] ei)).alloc (.cells #[.int .i64 3,.int .i64 (-1),.int .i64 2] ei)).alloc (.cells #[.slice (some ⟨w.heap.size,0,none⟩) 3 3,.slice (some ⟨w.heap.size+1,0,none⟩) 3 3,.int .i64 2,.slice (some ⟨w.heap.size+1+1,0,none⟩) 3 3,.slice (some ⟨w.heap.size+1+1+1,0,none⟩) 3 3,.int .i64 1] el)).heap.size) (.sl (liveL.map Lin.toD)) [.slice (some ⟨w.heap.size+1+1+1+1,0,none⟩) 2 2]:=by
 have ints:∀ (u:World) (H:Nat) (xs:List Int),xs.length=3->AllI64 xs->u.heap.size=H->DAt (u.alloc (.cells (xs.map (Value.int .i64)).toArray ei)) (·<(u.alloc (.cells (xs.map (Value.int .i64)).toArray ei)).heap.size) (.sl (dints xs)) [.slice (some ⟨H,0,none⟩) 3 3] :=
  fun u H xs h1 h2 h3=>DAt.lit (sz:=1) (DsAt.ints h2) (by simpa using h1) (by decide) (by rw [dints_widths,h1]) h3
 have a1:AllI64 [2,1,1]:=fun x hx=>by simp at hx;omega
 have a2:AllI64 [-3,1,-2]:=fun x hx=>by simp at hx;omega
 have a3:AllI64 [1,1,1]:=fun x hx=>by simp at hx;omega
 have a4:AllI64 [3,-1,2]:=fun x hx=>by simp at hx;omega
 have n1:=((ints w w.heap.size [2,1,1] rfl a1 rfl).alloc (.cells #[.int .i64 (-3),.int .i64 1,.int .i64 (-2)] ei)).alloc (.cells #[.int .i64 1,.int .i64 1,.int .i64 1] ei) |>.alloc (.cells #[.int .i64 3,.int .i64 (-1),.int .i64 2] ei)
 have n2:=((ints (w.alloc (.cells #[.int .i64 2,.int .i64 1,.int .i64 1] ei)) (w.heap.size+1) [-3,1,-2] rfl a2 (by simp)).alloc (.cells #[.int .i64 1,.int .i64 1,.int .i64 1] ei)).alloc (.cells #[.int .i64 3,.int .i64 (-1),.int .i64 2] ei)
 have n3:=(ints ((w.alloc (.cells #[.int .i64 2,.int .i64 1,.int .i64 1] ei)).alloc (.cells #[.int .i64 (-3),.int .i64 1,.int .i64 (-2)] ei)) (w.heap.size+1+1) [1,1,1] rfl a3 (by simp)).alloc (.cells #[.int .i64 3,.int .i64 (-1),.int .i64 2] ei)
 have n4:=ints (((w.alloc (.cells #[.int .i64 2,.int .i64 1,.int .i64 1] ei)).alloc (.cells #[.int .i64 (-3),.int .i64 1,.int .i64 (-2)] ei)).alloc (.cells #[.int .i64 1,.int .i64 1,.int .i64 1] ei)) (w.heap.size+1+1+1) [3,-1,2] rfl a4 (by simp)
 exact DAt.lit (xs:=liveL.map Lin.toD) (n:=2) (sz:=3) ((Lin.at n1 n2 (by omega)).append (Lin.at n3 n4 (by omega))) rfl (by decide) (by simp [liveL,widths,Lin.width]) (by simp)

theorem live_any (w:World):Calls Tryz.prog 26 #[] w fun e w'=>e=.returned (.bool true)/\Below w.heap.size w w':=by
 go_enter Tryz.func26,Tryz.ntmps26
 go_wp2_with fail
 refine (v_any 1 _).mono ?_
 rintro e w1 ⟨rfl,hb1⟩
 go_wp2_with fail
 refine (v_any 2 _).mono ?_
 rintro e w2 ⟨rfl,hb2⟩
 have HB2:=Lh (hb1.trans (hb2.mono hb1.size))
 clear hb1 hb2
 have HT:=Lh (liveT_at (w:=w2) (e:=39) (e':=39))
 have hba:∀ (u:World) (o1 o2 o3:Obj),Below u.heap.size u (((u.alloc o1).alloc o2).alloc o3):=fun u o1 o2 o3=>(((Below.refl _ _).alloc (Nat.le_refl _) _).alloc (by simp) _).alloc (by simp;omega) _
 have hba5:∀ (u:World) (o1 o2 o3 o4 o5:Obj),Below u.heap.size u (((((u.alloc o1).alloc o2).alloc o3).alloc o4).alloc o5):=fun u o1 o2 o3 o4 o5=>(((((Below.refl _ _).alloc (Nat.le_refl _) _).alloc (by simp) _).alloc (by simp;omega) _).alloc (by simp;omega) _).alloc (by simp;omega) _
 have HBA:=Lh hba
 have HBA5:=Lh hba5
 clear hba hba5
 have HTA:=Lh (HT.out.alloc (.cells #[.int .i64 4,.int .i64 0,.int .i64 0,.slice (some ⟨w2.heap.size+1,0,none⟩) 2 2] 39))
 have HG3:=Lh (gates_any liveT _ 3 _ (by decide) ⟨_,_,_,_,rfl,HTA.out⟩)
 rw [live_3] at HG3
 go_wp2_with fail
 refine HG3.out.mono ?_
 rintro e w3 ⟨v3,rfl,hN,hb3⟩
 have HN:=Lh hN
 obtain ⟨q0,q1,q2,q3⟩:=boxed4 hb3 (by simp)
 simp only [World.size_alloc] at q0 q1 q2 q3
 have HB3:=Lh hb3
 have hsz3:w2.heap.size+1+1<w3.heap.size:=by have:=hb3.size;simp at this;omega
 clear hN hb3 HG3
 have r0:=((HBA5.out w3 (.cells #[.int .i64 2,.int .i64 1,.int .i64 1] 3) (.cells #[.int .i64 (-3),.int .i64 1,.int .i64 (-2)] 3) (.cells #[.int .i64 1,.int .i64 1,.int .i64 1] 3) (.cells #[.int .i64 3,.int .i64 (-1),.int .i64 2] 3) (.cells #[.slice (some ⟨w3.heap.size,0,none⟩) 3 3,.slice (some ⟨w3.heap.size+1,0,none⟩) 3 3,.int .i64 2,.slice (some ⟨w3.heap.size+1+1,0,none⟩) 3 3,.slice (some ⟨w3.heap.size+1+1+1,0,none⟩) 3 3,.int .i64 1] 139)).cell (p:=⟨w2.heap.size+1+1,0,none⟩) hsz3).trans q0
 have r1:=((HBA5.out w3 (.cells #[.int .i64 2,.int .i64 1,.int .i64 1] 3) (.cells #[.int .i64 (-3),.int .i64 1,.int .i64 (-2)] 3) (.cells #[.int .i64 1,.int .i64 1,.int .i64 1] 3) (.cells #[.int .i64 3,.int .i64 (-1),.int .i64 2] 3) (.cells #[.slice (some ⟨w3.heap.size,0,none⟩) 3 3,.slice (some ⟨w3.heap.size+1,0,none⟩) 3 3,.int .i64 2,.slice (some ⟨w3.heap.size+1+1,0,none⟩) 3 3,.slice (some ⟨w3.heap.size+1+1+1,0,none⟩) 3 3,.int .i64 1] 139)).cell (p:=⟨w2.heap.size+1+1,1,none⟩) hsz3).trans q1
 have r2:=((HBA5.out w3 (.cells #[.int .i64 2,.int .i64 1,.int .i64 1] 3) (.cells #[.int .i64 (-3),.int .i64 1,.int .i64 (-2)] 3) (.cells #[.int .i64 1,.int .i64 1,.int .i64 1] 3) (.cells #[.int .i64 3,.int .i64 (-1),.int .i64 2] 3) (.cells #[.slice (some ⟨w3.heap.size,0,none⟩) 3 3,.slice (some ⟨w3.heap.size+1,0,none⟩) 3 3,.int .i64 2,.slice (some ⟨w3.heap.size+1+1,0,none⟩) 3 3,.slice (some ⟨w3.heap.size+1+1+1,0,none⟩) 3 3,.int .i64 1] 139)).cell (p:=⟨w2.heap.size+1+1,2,none⟩) hsz3).trans q2
 have r3:=((HBA5.out w3 (.cells #[.int .i64 2,.int .i64 1,.int .i64 1] 3) (.cells #[.int .i64 (-3),.int .i64 1,.int .i64 (-2)] 3) (.cells #[.int .i64 1,.int .i64 1,.int .i64 1] 3) (.cells #[.int .i64 3,.int .i64 (-1),.int .i64 2] 3) (.cells #[.slice (some ⟨w3.heap.size,0,none⟩) 3 3,.slice (some ⟨w3.heap.size+1,0,none⟩) 3 3,.int .i64 2,.slice (some ⟨w3.heap.size+1+1,0,none⟩) 3 3,.slice (some ⟨w3.heap.size+1+1+1,0,none⟩) 3 3,.int .i64 1] 139)).cell (p:=⟨w2.heap.size+1+1,3,none⟩) hsz3).trans q3
 have HL:=Lh (liveL_at (w:=w3) (ei:=3) (el:=139))
 go_wp2_with fail
 have HG2:=Lh (gates_any liveT _ 2 _ (by decide) ⟨_,_,_,_,rfl,(HTA.out.below HB3.out).below (HBA5.out _ (.cells #[.int .i64 2,.int .i64 1,.int .i64 1] 3) (.cells #[.int .i64 (-3),.int .i64 1,.int .i64 (-2)] 3) (.cells #[.int .i64 1,.int .i64 1,.int .i64 1] 3) (.cells #[.int .i64 3,.int .i64 (-1),.int .i64 2] 3) (.cells #[.slice (some ⟨w3.heap.size,0,none⟩) 3 3,.slice (some ⟨w3.heap.size+1,0,none⟩) 3 3,.int .i64 2,.slice (some ⟨w3.heap.size+1+1,0,none⟩) 3 3,.slice (some ⟨w3.heap.size+1+1+1,0,none⟩) 3 3,.int .i64 1] 139))⟩)
 rw [live_2] at HG2
 refine HG2.out.mono ?_
 rintro e w4 ⟨v4,rfl,_,hb4⟩
 have HL4:=Lh (HL.out.below hb4)
 have hb34:Below w3.heap.size w3 w4:=(HBA5.out w3 _ _ _ _ _).trans (hb4.mono (by simp;omega))
 have HN4:Hid (DAt w4 (·<w4.heap.size) (.sl (liveL.map Lin.toD)) [v3]):=DAt.below (DAt.mono (fun k hk=>hk.2) _ _ HN.out) hb34
 have HB4:Hid (Below w.heap.size w w4):=(HB2.out.trans ((HBA.out w2 _ _ _).mono HB2.out.size)).trans ((HB3.out.trans (hb34.mono HB3.out.size)).mono (by have:=HB2.out.size;simp;omega))
 clear hb4 hb34 HG2 q0 q1 q2 q3 r0 r1 r2 r3
 go_wp2_with fail
 refine (sameall_eq liveL _ _ _ HN4.out HL4.out).mono ?_
 rintro e w5 ⟨rfl,hb5⟩
 have HB5:=Lh hb5
 clear hb5
 go_wp2_with fail
 go_ret
 exact ⟨rfl,HB4.out.trans (HB5.out.mono HB4.out.size)⟩

end Go.Proofs.YtjjkfgjnadaheaaGreatDoor
/- lin.Value of a well-formed constraint; the law's holds. -/
namespace Go.Proofs.YtjjkfgjnadaheaaGreatDoor
open Go.RowKit Go.Chalk
theorem of_any (l:Int) (w:World) (hl : -1000000000<=l/\l<=1000000000):Calls Tryz.prog 150 #[.int .i64 l] w fun e w'=>e=.returned (.int .i64 (l.natAbs:Int))/\w=w':=by
 have e:(l.natAbs:Int)=if l<0 then -l else l:=by split <;> omega
 rw [e]
 clear e
 go_enter Tryz.func150,Tryz.ntmps150
 go_wp2_with fail
 all_goals
  go_ret
  exact ⟨rfl,rfl⟩

theorem truthF_abs (l:Int) (a:List Bool) (h:l ≠ 0):truthF l a=(valB a l.natAbs==decide (0<l)):=by
 unfold truthF
 by_cases h0:l<0
 ·rw [if_pos h0,show (-l).toNat=l.natAbs from by omega,show decide (0<l)=false from by simp;omega];cases valB a l.natAbs <;> rfl
 ·rw [if_neg h0,show l.toNat=l.natAbs from by omega,show decide (0<l)=true from by simp;omega];cases valB a l.natAbs <;> rfl

theorem term_any (acc c l:Int) (xs:List Bool) (cb:Nat) (v:Value) (w:World) (hacc : -1000000000000000000<=acc/\acc<=1000000000000000000) (hc : -1099511627776<=c/\c<=1099511627776) (hl : -1000000000<=l/\l<=1000000000) (h0:l ≠ 0) (hcb:w.cell? ⟨cb,0,none⟩=some v) (hd:DAt w (·<w.heap.size) (.sl (dbools xs)) [v]) :
  Calls Tryz.prog 149 #[.int .i64 acc,.int .i64 c,.int .i64 l,.pointer (some ⟨cb,0,none⟩)] w fun e w'=>e=.returned (.int .i64 (acc+if truthF l xs then c else 0))/\w=w':=by
 rw [truthF_abs l xs h0]
 obtain ⟨a,b,o,cap,he,hs,hln,hm,hcells⟩:=hd.open_bools
 simp only [List.cons.injEq,and_true] at he
 subst he
 unfold maxLen at hm
 generalize hn:l.natAbs=n at *
 have HN:=Lh hn
 clear hn hd
 by_cases hlt:n<xs.length
 ·obtain ⟨rfl,hbl⟩:=hs (by omega)
  rw [valB_lt hlt]
  have e0:=hcells n hlt
  have e1:decide ((n:Int)<(xs.length:Int))=true:=by simp;omega
  have e2:decide (n<xs.length)=true:=by simp;omega
  generalize xs[n]=bx at *
  clear hcells hs
  by_cases hp:0<l
  ·have e3:decide (0<l)=true:=by simpa using hp
   rw [e3]
   cases bx
   ·have hb:(false==true)=false:=rfl
    rw [hb]
    go_enter Tryz.func149,Tryz.ntmps149
    go_wp2_with fail
    refine (of_any l _ hl).mono ?_
    rintro e w' ⟨rfl,rfl⟩
    rw [HN.out]
    go_wp2_with fail
    go_ret
    exact ⟨by simp,rfl⟩
   ·have hb:(true==true)=true:=rfl
    rw [hb]
    go_enter Tryz.func149,Tryz.ntmps149
    go_wp2_with fail
    refine (of_any l _ hl).mono ?_
    rintro e w' ⟨rfl,rfl⟩
    rw [HN.out]
    go_wp2_with fail
    go_ret
    exact ⟨by simp,rfl⟩
  ·have e3:decide (0<l)=false:=by simp;omega
   rw [e3]
   cases bx
   ·have hb:(false==false)=true:=rfl
    rw [hb]
    go_enter Tryz.func149,Tryz.ntmps149
    go_wp2_with fail
    refine (of_any l _ hl).mono ?_
    rintro e w' ⟨rfl,rfl⟩
    rw [HN.out]
    go_wp2_with fail
    go_ret
    exact ⟨by simp,rfl⟩
   ·have hb:(true==false)=false:=rfl
    rw [hb]
    go_enter Tryz.func149,Tryz.ntmps149
    go_wp2_with fail
    refine (of_any l _ hl).mono ?_
    rintro e w' ⟨rfl,rfl⟩
    rw [HN.out]
    go_wp2_with fail
    go_ret
    exact ⟨by simp,rfl⟩
 ·rw [valB_ge hlt]
  have e1:decide ((n:Int)<(xs.length:Int))=false:=by simp;omega
  have e2:decide (n<xs.length)=false:=by simp;omega
  clear hcells hs
  by_cases hp:0<l
  ·have e3:decide (0<l)=true:=by simpa using hp
   rw [e3]
   have hb:(false==true)=false:=rfl
   rw [hb]
   go_enter Tryz.func149,Tryz.ntmps149
   go_wp2_with fail
   refine (of_any l _ hl).mono ?_
   rintro e w' ⟨rfl,rfl⟩
   rw [HN.out]
   go_wp2_with fail
   go_ret
   exact ⟨by simp,rfl⟩
  ·have e3:decide (0<l)=false:=by simp;omega
   rw [e3]
   have hb:(false==false)=true:=rfl
   rw [hb]
   go_enter Tryz.func149,Tryz.ntmps149
   go_wp2_with fail
   refine (of_any l _ hl).mono ?_
   rintro e w' ⟨rfl,rfl⟩
   rw [HN.out]
   go_wp2_with fail
   go_ret
   exact ⟨by simp,rfl⟩

def FoldAt (f:FuncId) (lb:Array Value) (g:Nat->Int) (s:Lin) (w:World):Prop :=
 ∀ (j:Nat) (h1:j<s.c.length) (h2:j<s.l.length) (W:World),Below w.heap.size w W->Calls Tryz.prog f (#[.int .i64 (g j),.int .i64 s.c[j],.int .i64 s.l[j]]++lb) W fun e w'=>e=.returned (.int .i64 (g (j+1)))/\Below W.heap.size W w'

theorem fold_int (f:FuncId) (lb:Array Value) (g:Nat->Int) (s:Lin) (u1 u2 u3:Value) (w:World) (hlen:s.c.length=s.l.length) (hmax:s.l.length<=4096) (hd:DAt w (·<w.heap.size) s.toD [u1,u2,u3]) (hf:FoldAt f lb g s w)
  (hent:∀ (args:Array Value) (w:World),(callFunc f args).run Tryz.prog w=.ok (.enter f args) w) :
  Calls Tryz.prog 148 #[.agg #[u1,u2,u3],.int .i64 (g 0),.func (.func f) #[] lb] w fun e w'=>e=.returned (.int .i64 (g s.l.length))/\Below w.heap.size w w':=by
 obtain ⟨a1,b1,o1,cap1,a2,b2,o2,cap2,he,s1,s2,_,_,c1,c2⟩:=lin_open hd
 simp only [List.cons.injEq,and_true] at he
 obtain ⟨rfl,rfl,rfl⟩:=he
 have HC1:=Lh c1
 have HC2:=Lh c2
 have HS1:=Lh s1
 have HS2:=Lh s2
 have HF:=Lh hf
 have HLEN:=Lh hlen
 clear c1 c2 s1 s2 hd hf hlen
 go_enter Tryz.func148,Tryz.ntmps148
 go_wp2_with fail
 go_loopw [12,1,7,8] (fun i n _ _ wr=>∃ j:Nat,i=.int .i64 j/\n=.int .i64 (g j)/\j<=s.l.length/\Below w.heap.size w wr/\w.heap.size<wr.heap.size/\wr.cell? ⟨w.heap.size,0,none⟩=some (.slice a1 s.c.length cap1)) (fun i _ _ _ _=>s.l.length - (intOf i).toNat)
 case atStart=>exact ⟨0,rfl,rfl,Nat.zero_le _,(Below.refl _ _).alloc (Nat.le_refl _) _,by simp,by simp [go_sem]⟩
 case round =>
  obtain ⟨j,rfl,rfl,hj,hb,hz,hc⟩:=hrel
  by_cases hlt:j<s.l.length
  ·have hlt1:j<s.c.length:=by have:=HLEN.out;omega
   obtain ⟨rfl,g1⟩:=HS1.out (by omega)
   obtain ⟨rfl,g2⟩:=HS2.out (by omega)
   have e1:=(hb.cell (p:=⟨b1,o1+j,none⟩) g1).trans (HC1.out j hlt1)
   have e2:=(hb.cell (p:=⟨b2,o2+j,none⟩) g2).trans (HC2.out j hlt)
   have HCL:=Lh (HF.out j hlt1 hlt wr hb)
   have HB:=Lh hb
   have hbs:=hb.size
   have hln:s.c.length<=4096:=by have:=HLEN.out;omega
   clear hb
   go_wp2_with fail
   refine HCL.out.mono ?_
   rintro e w' ⟨rfl,hb'⟩
   have hc':=(hb'.cell (p:=⟨w.heap.size,0,none⟩) hz).trans hc
   have hz':w.heap.size<w'.heap.size:=by have:=hb'.size;omega
   have HBB:=Lh (HB.out.trans (hb'.mono hbs))
   clear hb' hc
   go_wp2_with fail
   exact ⟨⟨j+1,by go_num,rfl,by omega,HBB.out,hz',hc'⟩,by simp [intOf];omega⟩
  ·obtain rfl:j=s.l.length:=by omega
   go_wp2_with fail
   go_ret
   exact ⟨rfl,hb⟩

theorem right_ok (s:Lin) (u1 u2 u3:Value) (w:World) (h:LinOk s 65536) (hd:DAt w (·<w.heap.size) s.toD [u1,u2,u3]) :
  Calls Tryz.prog 147 #[.agg #[u1,u2,u3]] w fun e w'=>e=.returned (.int .i64 0)/\Below w.heap.size w w':=by
 obtain ⟨a1,b1,o1,cap1,a2,b2,o2,cap2,he,_⟩:=lin_open hd
 simp only [List.cons.injEq,and_true] at he
 obtain ⟨rfl,rfl,rfl⟩:=he
 have HD:=Lh (hd.alloc (.cells #[.slice a1 s.c.length cap1,.slice a2 s.l.length cap2,.int .i64 s.least] 139))
 clear hd
 go_enter Tryz.func147,Tryz.ntmps147
 go_wp2_with fail
 refine (lincheck_ok s _ _ _ 65536 _ (by omega) h HD.out).mono ?_
 rintro e w1 ⟨rfl,hb⟩
 have HB:=Lh (Below.ahead hb (by simp))
 clear hb
 go_wp2_with fail
 go_ret
 exact ⟨rfl,HB.out⟩

def sumTo (a:List Bool) (s:Lin) (j:Nat):Int:=sumB a (s.c.take j) (s.l.take j)
theorem sumTo_succ (a:List Bool) (s:Lin) (j:Nat) (h1:j<s.c.length) (h2:j<s.l.length):sumTo a s (j+1)=sumTo a s j+if truthF s.l[j] a then s.c[j] else 0:=by
 unfold sumTo
 rw [List.take_succ_eq_append_getElem h1,List.take_succ_eq_append_getElem h2,sumB_snoc _ _ _ _ _ (by simp;omega)]
theorem sumTo_bound (a:List Bool) (s:Lin) (j:Nat) (hc:∀ c∈s.c,-1099511627776<=c/\c<=1099511627776) (hl:s.c.length<=4096) : -10000000000000000<=sumTo a s j/\sumTo a s j<=10000000000000000:=by
 have h:=sumB_bound a (s.c.take j) (s.l.take j) (fun c hc'=>hc c (List.mem_of_mem_take hc'))
 have:(s.c.take j).length<=4096:=by simp;omega
 unfold sumTo
 omega

theorem linvalue_any (s:Lin) (u1 u2 u3:Value) (xs:List Bool) (v:Value) (w:World) (h:LinOk s 65536) (hd:DAt w (·<w.heap.size) s.toD [u1,u2,u3]) (hx:DAt w (·<w.heap.size) (.sl (dbools xs)) [v]) :
  Calls Tryz.prog 78 #[.agg #[u1,u2,u3],v] w fun e w'=>e=.returned (.bool (linV s xs))/\Below w.heap.size w w':=by
 have HD:=Lh hd
 obtain ⟨a1,b1,o1,cap1,a2,b2,o2,cap2,he,_⟩:=lin_open hd
 simp only [List.cons.injEq,and_true] at he
 obtain ⟨rfl,rfl,rfl⟩:=he
 have HX:=Lh hx
 obtain ⟨xa,xb,xo,xcap,hev,_⟩:=hx.open_bools
 simp only [List.cons.injEq,and_true] at hev
 subst hev
 have HOK:=Lh h
 have hlv:linV s xs=decide (s.least<=sumTo xs s s.l.length):=by
  unfold linV sumTo
  rw [List.take_of_length_le (Nat.le_of_eq h.len),List.take_of_length_le (Nat.le_refl _)]
 rw [hlv]
 have hmf:∀ (fn:Fn) (first cap:Array Value) (w:World),(Instr.makeFunc fn first cap).run Tryz.prog w=.ok (.func fn first cap) w:=fun _ _ _ _=>rfl
 have HBW:Hid (Below w.heap.size w ((w.alloc (.cells #[.slice a1 s.c.length cap1,.slice a2 s.l.length cap2,.int .i64 s.least] 139)).alloc (.cells #[.slice xa xs.length xcap] 51))):=((Below.refl _ _).alloc (Nat.le_refl _) _).alloc (by simp) _
 have HTW:=Lh (twob_start w (.cells #[.slice a1 s.c.length cap1,.slice a2 s.l.length cap2,.int .i64 s.least] 139) (.cells #[.slice xa xs.length xcap] 51))
 clear hd hx h hlv
 go_enter Tryz.func78,Tryz.ntmps78
 go_wp2_with fail
 refine (right_ok s _ _ _ _ HOK.out (HD.out.below HBW.out)).mono ?_
 rintro e w1 ⟨rfl,hb1⟩
 have HB1:=Lh (HBW.out.trans (hb1.mono (by simp;omega)))
 have t1:w1.heap[w.heap.size]?=some (.cells #[.slice a1 s.c.length cap1,.slice a2 s.l.length cap2,.int .i64 s.least] 139):=(hb1.block _ (by simp;omega)).trans HTW.out.t1
 have t2:w1.heap[w.heap.size+1]?=some (.cells #[.slice xa xs.length xcap] 51):=(hb1.block _ (by simp)).trans HTW.out.t2
 have q0:w1.cell? ⟨w.heap.size,0,none⟩=some (.slice a1 s.c.length cap1):=cH t1 rfl
 have q1:w1.cell? ⟨w.heap.size,1,none⟩=some (.slice a2 s.l.length cap2):=cH t1 rfl
 have q2:w1.cell? ⟨w.heap.size,2,none⟩=some (.int .i64 s.least):=cH t1 rfl
 have HT1:=Lh t1
 have HT2:=Lh t2
 clear t1 t2 hb1
 have HFO:Hid (FoldAt 149 #[.pointer (some ⟨w.heap.size+1,0,none⟩)] (sumTo xs s) s w1.drew):=fun j h1 h2 W hb=>by
  have hb':Below w1.heap.size w1 W:=⟨hb.os,hb.tape,hb.output,hb.size,hb.block⟩
  have hcell:W.cell? ⟨w.heap.size+1,0,none⟩=some (.slice xa xs.length xcap):=cH ((hb'.block _ (gS HT2.out).1).trans HT2.out) rfl
  have hbd:=sumTo_bound xs s j HOK.out.cs (by have:=HOK.out.len;have:=HOK.out.most;omega)
  have hls:=HOK.out.ls _ (List.getElem_mem h2)
  rw [sumTo_succ xs s j h1 h2]
  exact (term_any _ _ _ xs _ _ W (by omega) (HOK.out.cs _ (List.getElem_mem h1)) (by omega) hls.1 hcell ((HX.out.below HB1.out).below hb')).mono (fun e w' ⟨he,hw⟩=>⟨he,hw ▸ Below.refl _ _⟩)
 have HDD:Hid (DAt w1.drew (·<w1.drew.heap.size) s.toD [.slice a1 s.c.length cap1,.slice a2 s.l.length cap2,.int .i64 s.least]):=(HD.out.below HB1.out).below (w':=w1.drew) ⟨rfl,rfl,rfl,Nat.le_refl _,fun _ _=>rfl⟩
 have HFI:=Lh (fold_int 149 #[.pointer (some ⟨w.heap.size+1,0,none⟩)] (sumTo xs s) s _ _ _ w1.drew HOK.out.len HOK.out.most HDD.out HFO.out (fun _ _=>by rfl))
 have hg0:sumTo xs s 0=0:=by simp [sumTo,sumB]
 rw [hg0] at HFI
 clear hg0
 go_wp2_with fail
 go_region_law (go_simp;go_at_call 148;(with_reducible refine HFI.out.mono ?_);rintro e w2 ⟨rfl,hb2⟩;have HB2:=Lh (show Below w1.heap.size w1 w2 from ⟨hb2.os,hb2.tape,hb2.output,hb2.size,hb2.block⟩);have r2:w2.cell? ⟨w.heap.size,2,none⟩=some (.int .i64 s.least):=cH ((HB2.out.block _ (gS HT1.out).1).trans HT1.out) rfl;clear hb2)
 all_goals
  go_wp2_with fail
  go_ret
  exact ⟨rfl,HB1.out.trans (HB2.out.mono HB1.out.size)⟩

end Go.Proofs.YtjjkfgjnadaheaaGreatDoor
/- The law's holds. -/
namespace Go.Proofs.YtjjkfgjnadaheaaGreatDoor
open Go.RowKit Go.Chalk
theorem holds_anyX (ls:List Lin) (v:Value) (xs:List Bool) (u:Value) (w:World) (hok:∀ s∈ls,LinOk s 65536) (hmax:ls.length<=1000000) (hd:DAt w (·<w.heap.size) (.sl (ls.map Lin.toD)) [v]) (hx:DAt w (·<w.heap.size) (.sl (dbools xs)) [u]) :
  Calls Tryz.prog 31 #[v,u] w fun e w'=>e=.returned (.bool (linsV ls xs))/\Below w.heap.size w w':=by
 obtain ⟨a,b,o,cap,he,hsl,_,hcells⟩:=lins_open hd
 simp only [List.cons.injEq,and_true] at he
 subst he
 have HX:=Lh hx
 have HSL:=Lh hsl
 have HCL:=Lh hcells
 have HOK:=Lh hok
 clear hsl hcells hok hd hx
 go_enter Tryz.func31,Tryz.ntmps31
 go_wp2_with fail
 go_loopw [9,6] (fun i _ wr=>∃ j:Nat,i=.int .i64 j/\j<=ls.length/\Hid (linsV (ls.take j) xs=true)/\Below w.heap.size w wr) (fun i _ _=>ls.length - (intOf i).toNat)
 case atStart=>exact ⟨0,rfl,Nat.zero_le _,by simp [Hid,linsV],Below.refl _ _⟩
 case round =>
  obtain ⟨j,rfl,hj,HP,hb⟩:=hrel
  have hbs:=hb.size
  by_cases hlt:j<ls.length
  ·obtain ⟨rfl,g1⟩:=HSL.out (by omega)
   obtain ⟨a2,n2,k2,a3,n3,k3,z,f1,f2,f3,f4⟩:=HCL.out j hlt
   have e1:=(hb.cell (p:=⟨b,o+j*3,none⟩) g1).trans f1
   have e2:=(hb.cell (p:=⟨b,o+j*3+1,none⟩) g1).trans f2
   have e3:=(hb.cell (p:=⟨b,o+j*3+2,none⟩) g1).trans f3
   have HDJ:=Lh ((DAt.below f4 hb).alloc (.cells #[.slice a2 n2 k2,.slice a3 n3 k3,.int .i64 z] 139))
   have HXJ:=Lh ((HX.out.below hb).alloc (.cells #[.slice a2 n2 k2,.slice a3 n3 k3,.int .i64 z] 139))
   have HLO:=Lh (HOK.out ls[j] (List.getElem_mem hlt))
   have HB:=Lh hb
   have hstep:linsV (ls.take (j+1)) xs=linV ls[j] xs:=by
    have:=HP.out
    unfold linsV at this ⊢
    rw [List.take_succ_eq_append_getElem hlt,List.all_append,this];simp
   have hfalse:linV ls[j] xs=false->linsV ls xs=false:=fun h=>by
    unfold linsV
    exact List.all_eq_false.2 ⟨ls[j],List.getElem_mem hlt,by simp [h]⟩
   have HST:=Lh (aI hstep hfalse)
   clear f1 f2 f3 f4 hb hstep hfalse
   go_wp2_with fail
   refine (linvalue_any ls[j] _ _ _ xs _ _ HLO.out HDJ.out HXJ.out).mono ?_
   rintro e w2 ⟨rfl,hb2⟩
   have HB2:=Lh (HB.out.trans ((Below.ahead hb2 (by simp)).mono hbs))
   clear hb2
   have hST:=HST.out
   generalize linV ls[j] xs=r at hST ⊢
   have HST2:=Lh hST
   clear hST HST
   cases r
   ·go_wp2_with fail
    go_ret
    exact ⟨ret_bool (HST2.out.2 (by first | rfl | trivial)).symm,HB2.out⟩
   ·go_wp2_with fail
    exact ⟨⟨j+1,by go_num,by omega,HST2.out.1,HB2.out⟩,by simp [intOf];omega⟩
  ·go_wp2_with fail
   go_ret
   have h0:=HP.out
   rw [List.take_of_length_le (by omega)] at h0
   exact ⟨ret_bool h0.symm,hb⟩

end Go.Proofs.YtjjkfgjnadaheaaGreatDoor
/- flat.kept over trees: how many it keeps. flat.Value. -/
namespace Go.Chalk
open Go.RowKit
mutual
/-- The value of a tree. -/
def valT:Tr->List Bool->Bool
 | .mk kind v k l,a =>
  if kind=1 then v==1
  else if kind=2 then decide (0<v)&&valB a v.toNat
  else if kind=3 then decide (cntT l a=0)
  else if kind=4 then decide (cntT l a=l.length)
  else if kind=5 then decide (0<cntT l a)
  else if kind=6 then decide (k<=(cntT l a:Int))
  else false
/-- How many of the trees are true. -/
def cntT:List Tr->List Bool->Nat
 | [],_=>0
 | t :: r,a=>(if valT t a then 1 else 0)+cntT r a
end
theorem cntT_eq (a:List Bool):∀ l:List Tr,cntT l a=(l.filter (valT · a)).length
 | []=>rfl
 | t :: r=>by rw [cntT,cntT_eq a r,List.filter_cons];split <;> simp <;> omega
theorem cntT_le (a:List Bool) (l:List Tr):cntT l a<=l.length:=by rw [cntT_eq];exact List.length_filter_le _ _
end Go.Chalk
namespace Go.Proofs.YtjjkfgjnadaheaaGreatDoor
open Go.RowKit Go.Chalk
theorem valT_1 (v k:Int) (l:List Tr) (a:List Bool):valT (.mk 1 v k l) a=(v==1):=by rw [valT,if_pos rfl]
theorem valT_4 (v k:Int) (l:List Tr) (a:List Bool):valT (.mk 4 v k l) a=decide (cntT l a=l.length):=by rw [valT,if_neg (by omega),if_neg (by omega),if_neg (by omega),if_pos rfl]
theorem valT_5 (v k:Int) (l:List Tr) (a:List Bool):valT (.mk 5 v k l) a=decide (0<cntT l a):=by rw [valT,if_neg (by omega),if_neg (by omega),if_neg (by omega),if_neg (by omega),if_pos rfl]
theorem valT_6 (v k:Int) (l:List Tr) (a:List Bool):valT (.mk 6 v k l) a=decide (k<=(cntT l a:Int)):=by rw [valT,if_neg (by omega),if_neg (by omega),if_neg (by omega),if_neg (by omega),if_neg (by omega),if_pos rfl]

end Go.Proofs.YtjjkfgjnadaheaaGreatDoor
/- What the constraints of an encoding say: each assignment of the old variables has just one extension, and the literal has the tree's value. -/
namespace Go.Chalk
open Go.RowKit
def cntL (b:List Bool):List Int->Nat
 | []=>0
 | y :: r=>(if truthF y b then 1 else 0)+cntL b r
theorem cntL_le (b:List Bool):∀ ls:List Int,cntL b ls<=ls.length
 | []=>Nat.le_refl _
 | y :: r=>by have:=cntL_le b r;rw [cntL,List.length_cons];split <;> omega
theorem sumB_ones (b:List Bool):∀ ls:List Int,sumB b (ls.map (fun _=>1)) ls=cntL b ls
 | []=>rfl
 | y :: r=>by
  rw [List.map_cons,sumB,sumB_ones b r,cntL]
  split <;> simp
theorem truthF_not (y:Int) (h:y ≠ 0) (b:List Bool):truthF (-y) b = !truthF y b:=by
 by_cases h0:0<y
 ·exact truthF_neg y h0 b
 ·have:=truthF_neg (-y) (by omega) b
  rw [Int.neg_neg] at this
  rw [this,Bool.not_not]
theorem sumB_nots (b:List Bool):∀ ls:List Int,(∀ y∈ls,y ≠ 0)->sumB b (ls.map (fun _=>1)) (ls.map (- ·))=(ls.length:Int) - cntL b ls
 | [],_=>rfl
 | y :: r,h=>by
  rw [List.map_cons,List.map_cons,sumB,sumB_nots b r (fun z hz=>h z (by simp [hz])),cntL,truthF_not y (h y (by simp)),List.length_cons]
  cases truthF y b <;> simp <;> omega

theorem sumsF_iff (b:List Bool) (x k:Int) (ls:List Int) (hx:1<=x) (hl:∀ y∈ls,y ≠ 0):linsV (sumsF x k ls) b=(truthF x b==decide (k<=(cntL b ls:Int))):=by
 have hn:=truthF_not x (by omega) b
 have hc:=cntL_le b ls
 unfold sumsF
 by_cases h1:k<=0
 ·rw [if_pos h1]
  have e:decide (k<=(cntL b ls:Int))=true:=by simp;omega
  rw [e]
  cases hx':truthF x b <;> simp [linsV,linV,sumB,hx']
 ·rw [if_neg h1]
  by_cases h2:(ls.length:Int)<k
  ·rw [if_pos h2]
   have e:decide (k<=(cntL b ls:Int))=false:=by simp;omega
   rw [e]
   cases hx':truthF x b <;> simp [linsV,linV,sumB,hx',hn]
  ·rw [if_neg h2]
   simp only [linsV,List.all_cons,List.all_nil,Bool.and_true,linV,sumB,sumB_ones,sumB_nots b ls hl,hn]
   cases hx':truthF x b
   ·by_cases h3:k<=(cntL b ls:Int)
    ·simp [h3] <;> omega
    ·simp [h3] <;> omega
   ·by_cases h3:k<=(cntL b ls:Int)
    ·simp [h3] <;> omega
    ·simp [h3] <;> omega

mutual
/-- The values of the new variables. -/
def newsV:Tr->List Bool->List Bool
 | .mk kind v k l,a=>if kind=2 then [] else if kind=3 then newsVs l a else newsVs l a++[valT (.mk kind v k l) a]
def newsVs:List Tr->List Bool->List Bool
 | [],_=>[]
 | t :: r,a=>newsV t a++newsVs r a
end
theorem valB_append {a e:List Bool} {n:Nat} (h:n<a.length):valB (a++e) n=valB a n:=by
 unfold valB
 rw [List.getD_eq_getElem?_getD,List.getD_eq_getElem?_getD,List.getElem?_append_left h]
mutual
theorem valT_append:∀ (t:Tr) (N:Int) (a e:List Bool),mayB t N=true->N<a.length->valT t (a++e)=valT t a
 | .mk kind v k l,N,a,e,h,hN=>by
  rw [mayB,Bool.and_eq_true] at h
  have hc:=cntT_append l N a e h.2 hN
  rw [valT,valT,hc]
  by_cases h2:kind=2
  ·have:=nodeOk_true h.1
   have hv:1<=v/\v<=N:=by
    rcases this with hc | hc | hc | hc | hc | hc | hc <;> omega
   rw [valB_append (by omega)]
  ·simp [h2]
theorem cntT_append:∀ (l:List Tr) (N:Int) (a e:List Bool),mayAll l N=true->N<a.length->cntT l (a++e)=cntT l a
 | [],_,_,_,_,_=>rfl
 | t :: r,N,a,e,h,hN=>by
  rw [mayAll,Bool.and_eq_true] at h
  rw [cntT,cntT,valT_append t N a e h.1 hN,cntT_append r N a e h.2 hN]
end
mutual
theorem newsV_append:∀ (t:Tr) (N:Int) (a e:List Bool),mayB t N=true->N<a.length->newsV t (a++e)=newsV t a
 | .mk kind v k l,N,a,e,h,hN=>by
  have hv:=valT_append (.mk kind v k l) N a e h hN
  rw [mayB,Bool.and_eq_true] at h
  rw [newsV,newsV,newsVs_append l N a e h.2 hN,hv]
theorem newsVs_append:∀ (l:List Tr) (N:Int) (a e:List Bool),mayAll l N=true->N<a.length->newsVs l (a++e)=newsVs l a
 | [],_,_,_,_,_=>rfl
 | t :: r,N,a,e,h,hN=>by
  rw [mayAll,Bool.and_eq_true] at h
  rw [newsVs,newsVs,newsV_append t N a e h.1 hN,newsVs_append r N a e h.2 hN]
end
mutual
theorem newsV_length:∀ (t:Tr) (a:List Bool) (nx N:Int),mayB t N=true->((newsV t a).length:Int)=(litF t nx).2.2 - nx
 | .mk kind v k l,a,nx,N,h=>by
  rw [mayB,Bool.and_eq_true] at h
  have:=newsVs_length l a nx N h.2
  rw [newsV,litF]
  by_cases h2:kind=2
  ·rw [if_pos h2,if_pos h2];simp
  ·rw [if_neg h2,if_neg h2]
   by_cases h3:kind=3
   ·rw [if_pos h3,if_pos h3];exact this
   ·rw [if_neg h3,if_neg h3,List.length_append];simp only [List.length_cons,List.length_nil];omega
theorem newsVs_length:∀ (l:List Tr) (a:List Bool) (nx N:Int),mayAll l N=true->((newsVs l a).length:Int)=(litsF l nx).2.2 - nx
 | [],_,_,_,_=>by simp [newsVs,litsF]
 | t :: r,a,nx,N,h=>by
  rw [mayAll,Bool.and_eq_true] at h
  have h1:=newsV_length t a nx N h.1
  have h2:=newsVs_length r a (litF t nx).2.2 N h.2
  rw [newsVs,litsF,List.length_append];simp only;omega
end
theorem linsV_append (x y:List Lin) (b:List Bool):linsV (x++y) b=(linsV x b&&linsV y b):=by unfold linsV;rw [List.all_append]

theorem truthF_append {x:Int} {a e:List Bool} (h:x<a.length) (h2 : -x<a.length):truthF x (a++e)=truthF x a:=by
 unfold truthF
 split
 ·rw [valB_append (by omega)]
 ·rw [valB_append (by omega)]
theorem split_eq {c1 c2 n1 n2:List Bool} (h:c1.length=n1.length):((c1++c2:List Bool)==n1++n2)=((c1==n1)&&(c2==n2)):=by
 rw [Bool.eq_iff_iff]
 simp only [beq_iff_eq,Bool.and_eq_true]
 exact ⟨fun e=>List.append_inj e h,fun ⟨e1,e2⟩=>by rw [e1,e2]⟩
theorem ite_inj {p q:Bool} (h:(if p=true then 1 else 0:Nat)=if q=true then 1 else 0):p=q:=by cases p <;> cases q <;> simp at h ⊢
theorem not_ite (q:Bool):(!q)=decide ((if q=true then 1 else 0:Nat)=0):=by cases q <;> rfl

mutual
/-- The constraints of a tree, behind the assignment a: c is their one solution. -/
theorem litF_main:∀ (t:Tr) (N:Int) (a c d:List Bool),mayB t N=true->N<a.length->1<=a.length->c.length=(newsV t a).length ->
  linsV (litF t a.length).2.1 (a++(c++d))=(c==newsV t a)/\truthF (litF t a.length).1 (a++(newsV t a++d))=valT t a
 | .mk kind v k l,N,a,c,d,h,hN,ha,hc=>by
  have hm:=h
  rw [mayB,Bool.and_eq_true] at h
  have hnode:=nodeOk_true h.1
  have hlb:=litsF_bound l a.length N h.2 (by omega)
  have hlen:=newsVs_length l a a.length N h.2
  have hll:=litsF_length l a.length
  by_cases h2:kind=2
  ·rw [newsV,if_pos h2] at hc ⊢
   rw [litF,if_pos h2]
   have hc0:c=[]:=List.length_eq_zero_iff.1 hc
   subst hc0 h2
   have hv:1<=v/\v<=N:=by rcases hnode with hc | hc | hc | hc | hc | hc | hc <;> omega
   refine ⟨by simp [linsV],?_⟩
   rw [valT,if_neg (by omega),if_pos rfl,truthF_append (by omega) (by omega)]
   unfold truthF
   rw [if_neg (by omega),decide_eq_true (by omega),Bool.true_and]
  ·by_cases h3:kind=3
   ·have hl1:l.length=1:=by
     rcases hnode with hc | hc | hc | hc | hc | hc | hc <;> first | omega | (have:=hc.2.2.2;simp at this;omega)
    rw [newsV,if_neg h2,if_pos h3] at hc ⊢
    rw [litF,if_neg h2,if_pos h3]
    subst h3
    have ih:=litsF_main l N a c d h.2 hN ha hc
    refine ⟨ih.1,?_⟩
    match l,hl1 with
    | [t0],_ =>
     have h0:=hlb.2.2 _ (by simp [litsF]:(litF t0 a.length).1∈(litsF [t0] a.length).1)
     have ih2:=ih.2
     simp only [litsF,cntL,Nat.add_zero,cntT] at ih2 ⊢
     simp only [List.headD_cons]
     rw [truthF_not _ h0.1,valT,if_neg (by omega),if_neg (by omega),if_pos rfl]
     simp only [cntT,Nat.add_zero]
     rw [ite_inj ih2];exact not_ite _
   ·rw [newsV,if_neg h2,if_neg h3] at hc ⊢
    rw [litF,if_neg h2,if_neg h3]
    simp only [List.length_append,List.length_cons,List.length_nil] at hc
    obtain ⟨c1,z,rfl⟩:∃ c1 z,c=c1++[z]:=by
     have hne:c ≠ []:=fun e=>by subst e;simp at hc
     exact ⟨c.dropLast,c.getLast hne,(List.dropLast_concat_getLast hne).symm⟩
    have hc1:c1.length=(newsVs l a).length:=by simp at hc;omega
    have ih:=litsF_main l N a c1 ([z]++d) h.2 hN ha hc1
    -- the new variable
    have hxn:((litsF l a.length).2.2).toNat=a.length+(newsVs l a).length:=by omega
    have hx1:1<=(litsF l a.length).2.2:=by omega
    have hval:∀ (c1:List Bool) (z:Bool) (d:List Bool),c1.length=(newsVs l a).length->truthF (litsF l a.length).2.2 (a++(c1++[z]++d))=z:=fun c1 z d hc1=>by
     unfold truthF
     rw [if_neg (by omega),hxn]
     unfold valB
     rw [List.getD_eq_getElem?_getD,List.getElem?_append_right (by omega),List.append_assoc,List.getElem?_append_right (by omega)]
     simp [hc1]
    have hthr:∀ (b:List Bool),cntL b (litsF l a.length).1=cntT l a->decide (thrF kind v k l.length<=(cntL b (litsF l a.length).1:Int))=valT (.mk kind v k l) a:=fun b hb=>by
     rw [hb]
     have hcl:=cntT_le a l
     rcases hnode with ⟨rfl,rfl,rfl,h4⟩ | ⟨rfl,rfl,rfl,h4⟩ | ⟨rfl,_⟩ | ⟨rfl,_⟩ | ⟨rfl,rfl,rfl⟩ | ⟨rfl,rfl,rfl⟩ | ⟨rfl,rfl,_,_⟩
     ·have hl0:l.length=0:=by simp at h4;simp [h4]
      rw [thrF_10,valT,if_pos rfl];simp;omega
     ·rw [thrF_11,valT,if_pos rfl];simp
     ·exact absurd rfl h2
     ·exact absurd rfl h3
     ·rw [thrF_4,valT,if_neg (by omega),if_neg (by omega),if_neg (by omega),if_pos rfl]
      by_cases he:cntT l a=l.length
      ·rw [decide_eq_true he];simp;omega
      ·rw [decide_eq_false he];simp;omega
     ·rw [thrF_5,valT,if_neg (by omega),if_neg (by omega),if_neg (by omega),if_neg (by omega),if_pos rfl]
      by_cases he:0<cntT l a
      ·rw [decide_eq_true he];simp;omega
      ·rw [decide_eq_false he];simp;omega
     ·rw [thrF_6,valT,if_neg (by omega),if_neg (by omega),if_neg (by omega),if_neg (by omega),if_neg (by omega),if_pos rfl]
    refine ⟨?_,?_⟩
    ·rw [linsV_append,split_eq hc1]
     have e1:a++(c1++[z]++d)=a++(c1++([z]++d)):=by simp
     rw [e1,ih.1,<- e1]
     cases hcc:(c1==newsVs l a) with
     | false=>simp
     | true =>
      have hceq:c1=newsVs l a:=by simpa using hcc
      subst hceq
      rw [sumsF_iff _ _ _ _ hx1 (fun y hy=>(hlb.2.2 y hy).1),hval _ _ _ hc1]
      have hcl:=litsF_cnt l N a ([z]++d) h.2 hN ha
      rw [hthr _ (by rw [e1];exact hcl)]
      simp only [Bool.true_and]
      cases z <;> cases valT (.mk kind v k l) a <;> rfl
    ·exact hval _ _ _ rfl
/-- For a list of trees: the literals' values, counted. -/
theorem litsF_main:∀ (l:List Tr) (N:Int) (a c d:List Bool),mayAll l N=true->N<a.length->1<=a.length->c.length=(newsVs l a).length ->
  linsV (litsF l a.length).2.1 (a++(c++d))=(c==newsVs l a)/\cntL (a++(newsVs l a++d)) (litsF l a.length).1=cntT l a
 | [],_,a,c,d,_,_,_,hc=>by
  have hc0:c=[]:=List.length_eq_zero_iff.1 (by simpa [newsVs] using hc)
  subst hc0
  simp [litsF,linsV,newsVs,cntL,cntT]
 | t :: r,N,a,c,d,h,hN,ha,hc=>by
  rw [mayAll,Bool.and_eq_true] at h
  rw [newsVs] at hc ⊢
  rw [List.length_append] at hc
  have hl1:=newsV_length t a a.length N h.1
  have hb1:=litF_bound t a.length N h.1 (by omega)
  have hlen:((a++newsV t a).length:Int)=(litF t a.length).2.2:=by rw [List.length_append];omega
  have hN2:N<((a++newsV t a).length:Int):=by rw [List.length_append];omega
  have e2:=newsVs_append r N a (newsV t a) h.2 hN
  have e3:=cntT_append r N a (newsV t a) h.2 hN
  -- c in two
  obtain ⟨c1,c2,rfl,hc1⟩:∃ c1 c2,c=c1++c2/\c1.length=(newsV t a).length:=⟨c.take (newsV t a).length,c.drop (newsV t a).length,(List.take_append_drop _ _).symm,by rw [List.length_take];omega⟩
  have hc2:c2.length=(newsVs r a).length:=by rw [List.length_append] at hc;omega
  have ih1:=litF_main t N a c1 (c2++d) h.1 hN ha hc1
  have ih1':=litF_main t N a (newsV t a) (newsVs r a++d) h.1 hN ha rfl
  have ih2:=litsF_main r N (a++newsV t a) c2 d h.2 hN2 (by rw [List.length_append];omega) (by rw [e2];exact hc2)
  rw [hlen,e2,e3] at ih2
  rw [litsF]
  refine ⟨?_,?_⟩
  ·rw [linsV_append,split_eq hc1]
   have e1:a++(c1++c2++d)=a++(c1++(c2++d)):=by simp
   rw [e1,ih1.1]
   cases hcc:(c1==newsV t a) with
   | false=>simp
   | true =>
    have hceq:c1=newsV t a:=by simpa using hcc
    subst hceq
    have e4:a++(newsV t a++(c2++d))=a++newsV t a++(c2++d):=by simp
    rw [e4,ih2.1]
  ·have e4:a++(newsV t a++newsVs r a++d)=a++(newsV t a++(newsVs r a++d)):=by simp
   have e5:a++(newsV t a++(newsVs r a++d))=a++newsV t a++(newsVs r a++d):=by simp
   rw [cntL,cntT,e4,ih1'.2,e5,ih2.2]
theorem litsF_cnt:∀ (l:List Tr) (N:Int) (a d:List Bool),mayAll l N=true->N<a.length->1<=a.length->cntL (a++(newsVs l a++d)) (litsF l a.length).1=cntT l a
 | l,N,a,d,h,hN,ha=>(litsF_main l N a (newsVs l a) d h hN ha rfl).2
end
end Go.Chalk
/- The laws' (*Reader).literal: the bottom-up extension. -/
namespace Go.Chalk
open Go.RowKit
theorem newsVs_snoc (a:List Bool):∀ (l:List Tr) (t:Tr),newsVs (l++[t]) a=newsVs l a++newsV t a
 | [],t=>by simp [newsVs]
 | x :: r,t=>by rw [List.cons_append,newsVs,newsVs,newsVs_snoc a r t,List.append_assoc]
theorem cntT_snoc (a:List Bool):∀ (l:List Tr) (t:Tr),cntT (l++[t]) a=cntT l a+if valT t a then 1 else 0
 | [],t=>by simp [cntT]
 | x :: r,t=>by rw [List.cons_append,cntT,cntT,cntT_snoc a r t];omega

structure RdAt (w:World) (rb:Nat) (tr tb:TypeId) (av:Value) (q:Option Nat) (A:List Bool):Prop where
 box:w.heap[rb]?=some (.cells #[av] tr (0,0))
 own:Own w (fun _=>False) tb 1 av q (dbools A)
 ne:q ≠ some rb
theorem RdAt.kept {w w':World} {rb:Nat} {tr tb:TypeId} {av:Value} {q:Option Nat} {A:List Bool} (h:RdAt w rb tr tb av q A) {S:Nat->Prop} (hm:Mod S w w') (h1:¬ S rb) (h2:∀ k,q=some k->¬ S k):RdAt w' rb tr tb av q A :=
 ⟨(hm.block rb (gS h.box).1 h1).trans h.box,h.own.kept hm (fun _ e=>e.elim) h2,h.ne⟩
theorem RdAt.below {w w':World} {rb:Nat} {tr tb:TypeId} {av:Value} {q:Option Nat} {A:List Bool} (h:RdAt w rb tr tb av q A) (hb:Below w.heap.size w w'):RdAt w' rb tr tb av q A :=
 h.kept (S:=fun _=>False) (Mod.of_below hb) id (fun _ _=>id)
theorem RdAt.lt {w:World} {rb:Nat} {tr tb:TypeId} {av:Value} {q:Option Nat} {A:List Bool} (h:RdAt w rb tr tb av q A):rb<w.heap.size:=(gS h.box).1
def RdPost (w:World) (rb:Nat) (tr tb:TypeId) (q:Option Nat) (x:Value) (A:List Bool) (e:Ending) (w':World):Prop :=
 e=.returned x/\∃ av' q',RdAt w' rb tr tb av' q' A/\(q'=q∨∃ k,q'=some k/\w.heap.size<=k)/\Mod (fun k=>k=rb∨q=some k) w w'
theorem RdPost.same {w w':World} {rb:Nat} {tr tb:TypeId} {av x:Value} {q:Option Nat} {A:List Bool} (h:RdAt w rb tr tb av q A) (hb:Below w.heap.size w w'):RdPost w rb tr tb q x A (.returned x) w' :=
 ⟨rfl,av,q,h.below hb,.inl rfl,Mod.of_below hb⟩
theorem RdPost.ahead {w wa w':World} {rb:Nat} {tr tb:TypeId} {x y:Value} {q:Option Nat} {A:List Bool} {e:Ending} (hb:Below w.heap.size w wa) (h:RdPost wa rb tr tb q x A e w'):RdPost w rb tr tb q y A (.returned y) w':=by
 obtain ⟨_,av,q',h1,h2,h3⟩:=h
 have hs:=hb.size
 refine ⟨rfl,av,q',h1,?_,(Mod.of_below hb).trans h3 (fun _ _ h=>h)⟩
 rcases h2 with h | ⟨k,h,hk⟩
 ·exact .inl h
 ·exact .inr ⟨k,h,by omega⟩
end Go.Chalk
namespace Go.Proofs.YtjjkfgjnadaheaaGreatDoor
open Go.RowKit Go.Chalk
structure RdRel (w wr:World) (rb:Nat) (q:Option Nat) (bx:Obj) (l:List Tr) (A:List Bool) (j:Nat) (av':Value) (q':Option Nat):Prop where
 le:j<=l.length
 size:w.heap.size<wr.heap.size
 box:wr.heap[w.heap.size]?=some bx
 mod:Chalk.Mod (fun k=>k=rb∨q=some k) w wr
 rd:RdAt wr rb 72 4 av' q' (A++newsVs (l.take j) A)
 fresh:q'=q∨∃ k,q'=some k/\w.heap.size<k

theorem RdRel.start {w:World} {rb:Nat} {q:Option Nat} {av:Value} {A:List Bool} (bx:Obj) (l:List Tr) (h:RdAt w rb 72 4 av q A):RdRel w (w.alloc bx) rb q bx l A 0 av q :=
 ⟨Nat.zero_le _,by simp,boxed (B:=w.heap.size+1) (Below.refl _ _) (by omega),(Chalk.Mod.refl _ _).alloc _,by simpa [newsVs] using h.below ((Below.refl _ _).alloc (Nat.le_refl _) bx),.inl rfl⟩

theorem RdRel.step {w wr w2:World} {rb:Nat} {q q':Option Nat} {bx b1:Obj} {l:List Tr} {A:List Bool} {j:Nat} {av' x:Value} {e:Ending} (hrb:rb<w.heap.size) (hq:∀ k,q=some k->k<w.heap.size) (R:RdRel w wr rb q bx l A j av' q') (hj:j<l.length)
  (hp:RdPost (wr.alloc b1) rb 72 4 q' x (A++newsVs (l.take (j+1)) A) e w2):∃ av2 q2,RdRel w w2 rb q bx l A (j+1) av2 q2:=by
 obtain ⟨le,size,box,mod,rd,fresh⟩:=R
 obtain ⟨_,av2,q2,h1,h2,h3⟩:=hp
 have hs:=h3.size
 simp only [World.size_alloc] at hs
 have hq':q' ≠ some w.heap.size:=by
  rcases fresh with f | ⟨k,f,hk⟩
  ·rw [f];intro e;have:=hq _ e;omega
  ·rw [f];simp;omega
 have M1:Chalk.Mod (fun k=>k=rb∨q'=some k) wr w2:=((Chalk.Mod.refl _ wr).alloc b1).trans h3 (fun _ _ h=>h)
 refine ⟨av2,q2,by omega,by omega,?_,?_,h1,?_⟩
 ·rw [M1.block _ size (fun h=>by rcases h with h | h;omega;exact hq' h)];exact box
 ·refine mod.trans M1 (fun i hi h=>?_)
  rcases h with h | h
  ·exact .inl h
  ·rcases fresh with f | ⟨k,f,hk⟩
   ·exact .inr (f ▸ h)
   ·rw [f] at h;simp at h;omega
 ·rcases h2 with h | ⟨k,h,hk⟩
  ·rw [h];exact fresh
  ·exact .inr ⟨k,h,by simp at hk;omega⟩

theorem bools_inv {w:World} {F:Nat->Prop}:∀ {xs:List Bool} {cs:List Value},DsAt w F (dbools xs) cs->cs=xs.map Value.bool
 | [],_,h=>by rw [dbools,List.map_nil,DsAt] at h;exact h
 | x :: r,cs,h=>by
  rw [dbools,List.map_cons,DsAt] at h
  obtain ⟨c1,c2,rfl,h1,h2⟩:=h
  rw [DAt] at h1
  subst h1
  rw [bools_inv (xs:=r) h2];rfl
theorem rd_info:(Tryz.prog.info? 4).map (fun i=>(i.zero,i.size,i.bytes))=some (some (.bool false),1,1):=by kernel_rfl

theorem reader_any (n:Nat):∀ (t:Tr) (x:Value) (N:Int) (A:List Bool) (av:Value) (q:Option Nat) (w:World) (B0 rb:Nat),t.size<=n->mayB t N=true->N<A.length->1<=A.length->A.length+t.size<=1000000 ->
  TreeV w (·<B0) t x->B0<=w.heap.size->B0<=rb->(∀ k,q=some k->B0<=k)->RdAt w rb 72 4 av q A ->
  Calls Tryz.prog 30 #[.pointer (some ⟨rb,0,none⟩),x] w (RdPost w rb 72 4 q (.int .i64 (litF t A.length).1) (A++newsV t A)):=by
 induction n with
 | zero=>intro t _ _ _ _ _ _ _ _ h;have:=size_pos t;omega
 | succ n ih =>
  intro t x N A av q w B0 rb hn hmay hN hA hsz ht hB0 hrb hqB hR
  obtain ⟨kind,tv,k,l⟩:=t
  obtain ⟨a,b,o,cap,rfl,hsl,_,_,_,_,_,hl⟩:=ht.open
  have hbd:=litF_bound _ (A.length:Int) N hmay (by omega)
  have hmay0:=hmay
  rw [mayB,Bool.and_eq_true] at hmay
  obtain ⟨hnode,hall⟩:=hmay
  have hcs:=nodeOk_true hnode
  rw [Tr.size] at hn hsz
  have hll:=length_le_sizes l
  have IH:=Lh ih
  have HL:=Lh hl
  have HR:=Lh hR
  have HA:=Lh hall
  have HMAY:=Lh hmay0
  have HQB:=Lh hqB
  clear ih hl ht hR hnode hall hbd hmay0 hqB
  by_cases h2:kind=2
  ·subst h2
   have e1:litF (.mk 2 tv k l) A.length=(tv,[],(A.length:Int)):=by rw [litF,if_pos rfl]
   have e2:newsV (.mk 2 tv k l) A=[]:=by rw [newsV,if_pos rfl]
   rw [e1,e2,List.append_nil]
   clear hcs e1 e2
   go_enter Tryz.func30,Tryz.ntmps30
   go_wp2_with fail
   go_ret
   exact RdPost.same HR.out ((Below.refl _ _).alloc (Nat.le_refl _) _)
  ·by_cases h3:kind=3
   ·subst h3
    have hl1:l.length=1:=by
     rcases hcs with hc | hc | hc | hc | hc | hc | hc <;> first | omega | (have:=hc.2.2.2;simp at this;omega)
    clear hcs
    match l,hl1 with
    | [t0],_ =>
     obtain ⟨rfl,hbl⟩:=hsl (by simp)
     obtain ⟨k0,k1,k2,a1,n1,cap1,e0,e1,e2,e3,htj⟩:=TreesIn.at HL.out (Below.refl B0 w) hbl 0 (by simp)
     simp only [Nat.zero_mul,Nat.add_zero] at e0 e1 e2 e3
     have hblt:b<w.heap.size:=by omega
     have ha:=HA.out
     simp only [mayAll,Bool.and_true] at ha
     have HA1:=Lh ha
     have hb0:=litF_bound t0 (A.length:Int) N ha (by omega)
     simp only [sizes,List.length_singleton] at hn hsz hll
     have hb1 : -9223372036854775807<=(litF t0 A.length).1/\(litF t0 A.length).1<=9223372036854775807:=by omega
     have HBW:Hid (Below w.heap.size w (w.alloc (.cells #[.int .i64 3,.int .i64 tv,.int .i64 k,.slice (some ⟨b,o,none⟩) 1 cap] 39))):=(Below.refl _ _).alloc (Nat.le_refl _) _
     clear ha hb0
     have el:(litF (.mk 3 tv k [t0]) A.length).1 = -(litF t0 A.length).1:=by rw [litF,if_neg (by omega),if_pos rfl];simp [litsF]
     have en:newsV (.mk 3 tv k [t0]) A=newsV t0 A:=by rw [newsV,if_neg (by omega),if_pos rfl];simp [newsVs]
     rw [el,en]
     generalize hy:(litF t0 A.length).1=y at hb1 ⊢
     have HY:=Lh hy
     clear hy el en
     go_enter Tryz.func30,Tryz.ntmps30
     go_wp2_with fail
     refine (IH.out t0 _ N A av q _ B0 rb (by omega) HA1.out hN hA (by omega) (htj.agree (agree_of_below (HBW.out.mono hB0))) (by simp;omega) hrb HQB.out (HR.out.below HBW.out)).mono ?_
     intro e w' hp
     have hp':=hp
     obtain ⟨rfl,_⟩:=hp'
     rw [HY.out]
     have HP:=Lh hp
     clear hp
     go_wp2_with fail
     go_ret
     exact RdPost.ahead HBW.out HP.out
   ·have hk2:(kind==2)=false:=by simpa using h2
    have hk3:(kind==3)=false:=by simpa using h3
    have el:(litF (.mk kind tv k l) A.length).1=(litsF l A.length).2.2:=by rw [litF,if_neg h2,if_neg h3]
    have en:newsV (.mk kind tv k l) A=newsVs l A++[valT (.mk kind tv k l) A]:=by rw [newsV,if_neg h2,if_neg h3]
    rw [el,en]
    clear el en h2 h3
    have HCS:=Lh hcs
    clear hcs
    obtain ⟨i0,hi,hz0,hz1,hz2⟩:=info_parts rd_info
    go_enter Tryz.func30,Tryz.ntmps30
    go_wp2_with fail
    go_loopw [28,5,7,8] (fun i c _ _ wr=>∃ (j:Nat) (av':Value) (q':Option Nat),i=.int .i64 j/\c=.int .i64 (cntT (l.take j) A)/\RdRel w wr rb q (.cells #[.int .i64 kind,.int .i64 tv,.int .i64 k,.slice a l.length cap] 39) l A j av' q') (fun i _ _ _ _=>l.length - (intOf i).toNat)
    case atStart=>exact ⟨0,av,q,rfl,by simp [cntT],RdRel.start _ l HR.out⟩
    case round =>
     obtain ⟨j,av',q',rfl,rfl,R⟩:=hrel
     have hj:=R.le
     have hb:Below B0 w wr:=R.mod.below hB0 (fun k hk=>by rcases hk with rfl | hk;exact hrb;exact HQB.out k hk)
     have hsize:=R.size
     have hcl:cntT (l.take j) A<=l.length:=by have:=cntT_le A (l.take j);simp at this;omega
     have hAn:(newsVs (l.take j) A).length<=sizes l:=by
      have h1:=newsVs_length (l.take j) A (A.length:Int) N (mayAll_take HA.out j)
      have h2:=litsF_bound (l.take j) (A.length:Int) N (mayAll_take HA.out j) (by omega)
      have h3:=sizes_take_le l j
      omega
     by_cases hlt:j<l.length
     ·obtain ⟨rfl,hbl⟩:=hsl (by omega)
      obtain ⟨k0,k1,k2,a1,n1,cap1,e0,e1,e2,e3,htj⟩:=TreesIn.at HL.out hb hbl j hlt
      have hma:=mayAll_at HA.out j hlt
      have hs1:=sizes_take_succ l j hlt
      have hs2:=sizes_take_le l (j+1)
      have hs4:=size_le_sizes l j hlt
      have hAj:(A++newsVs (l.take j) A).length<=A.length+sizes (l.take j):=by
       have h1:=newsVs_length (l.take j) A (A.length:Int) N (mayAll_take HA.out j)
       have h2:=litsF_bound (l.take j) (A.length:Int) N (mayAll_take HA.out j) (by omega)
       rw [List.length_append];omega
      have hNj:N<((A++newsVs (l.take j) A).length:Int):=by rw [List.length_append];omega
      have hAj1:1<=(A++newsVs (l.take j) A).length:=by rw [List.length_append];omega
      have hIH:=IH.out l[j] _ N (A++newsVs (l.take j) A) av' q' (wr.alloc (.cells #[.int .i64 k0,.int .i64 k1,.int .i64 k2,.slice a1 n1 cap1] 39)) B0 rb (by omega) hma.1 hNj hAj1 (by omega)
       (htj.agree (agree_of_below (hb.alloc (by omega) _))) (by simp;omega) hrb (fun k hk=>by rcases R.fresh with f | ⟨k',f,hk'⟩;exact HQB.out k (f ▸ hk);rw [f] at hk;simp at hk;omega) (R.rd.below ((Below.refl _ _).alloc (Nat.le_refl _) _))
      have hnn:A++newsVs (l.take j) A++newsV l[j] (A++newsVs (l.take j) A)=A++newsVs (l.take (j+1)) A:=by
       rw [newsV_append l[j] N A _ hma.1 (by omega),List.take_succ_eq_append_getElem hlt,newsVs_snoc,List.append_assoc]
      have hval:truthF (litF l[j] (A++newsVs (l.take j) A).length).1 (A++newsVs (l.take (j+1)) A)=valT l[j] A:=by
       have h:=(litF_main l[j] N (A++newsVs (l.take j) A) (newsV l[j] (A++newsVs (l.take j) A)) [] hma.1 hNj hAj1 rfl).2
       rw [List.append_nil,hnn,valT_append l[j] N A _ hma.1 (by omega)] at h
       exact h
      have hcnt:cntT (l.take (j+1)) A=cntT (l.take j) A+if valT l[j] A then 1 else 0:=by rw [List.take_succ_eq_append_getElem hlt,cntT_snoc]
      have hyb:=litF_bound l[j] ((A++newsVs (l.take j) A).length:Int) N hma.1 (by omega)
      have hyr : -1000000000<=(litF l[j] (A++newsVs (l.take j) A).length).1/\(litF l[j] (A++newsVs (l.take j) A).length).1<=1000000000:=by omega
      rw [hnn] at hIH
      have HI:=Lh hIH
      have HRR:=Lh R
      have HV:=Lh (aI hval hcnt)
      clear hIH R hma hs1 hs2 hs4 hAj hNj hAj1 hnn hval hcnt hyb hAn
      generalize hy:(litF l[j] (A++newsVs (l.take j) A).length).1=y at *
      clear hy
      go_wp2_with fail
      refine HI.out.mono ?_
      intro e w2 hp
      have HP:=Lh hp
      obtain ⟨rfl,av2,q2,hrd,_,_⟩:=hp
      have c2:w2.cell? ⟨rb,0,none⟩=some av2:=cH hrd.box rfl
      obtain ⟨aa,acap,hav⟩:=hrd.own.form
      rw [dbools_length] at hav
      generalize hal:(A++newsVs (l.take (j+1)) A).length=al at hav
      subst hav
      have HRD:Hid (DAt w2 (·<w2.heap.size) (.sl (dbools (A++newsVs (l.take (j+1)) A))) [.slice aa al acap]):=hrd.own.read (fun _ h=>h.elim) (fun k hk=>hrd.own.row_lt hk) (by rw [dbools_widths];simp)
      clear hrd hal
      go_wp2_with fail
      refine (truth_any y (A++newsVs (l.take (j+1)) A) _ _ hyr HRD.out).mono ?_
      rintro e w3 ⟨rfl,rfl⟩
      rw [HV.out.1]
      obtain ⟨av3,q3,R3⟩:=HRR.out.step HR.out.lt (fun k hk=>HR.out.own.row_lt hk) hlt HP.out
      have HR3:=Lh R3
      have hcnt:=HV.out.2
      clear R3
      generalize valT l[j] A=r at hcnt ⊢
      have HCN:=Lh hcnt
      clear hcnt
      cases r
      ·go_wp2_with fail
       refine ⟨⟨j+1,av3,q3,by go_num,?_,HR3.out⟩,by simp [intOf];omega⟩
       have:=HCN.out
       simp at this
       rw [this]
      ·go_wp2_with fail
       refine ⟨⟨j+1,av3,q3,by go_num,?_,HR3.out⟩,by simp [intOf];omega⟩
       have:=HCN.out
       simp at this
       rw [this];go_num
     ·have hjl:j=l.length:=by omega
      have htk:l.take j=l:=List.take_of_length_le (by omega)
      have hrd:=R.rd
      rw [htk] at hrd hcl hAn
      rw [htk]
      have hnl:=newsVs_length l A (A.length:Int) N HA.out
      obtain ⟨q0,q1,q2,q3⟩:=(show wr.cell? ⟨w.heap.size,0,none⟩=some (.int .i64 kind)/\wr.cell? ⟨w.heap.size,1,none⟩=some (.int .i64 tv)/\wr.cell? ⟨w.heap.size,2,none⟩=some (.int .i64 k)/\wr.cell? ⟨w.heap.size,3,none⟩=some (.slice a l.length cap) from ⟨cH R.box rfl,cH R.box rfl,cH R.box rfl,cH R.box rfl⟩)
      obtain ⟨aa,acap,hav⟩:=hrd.own.form
      rw [dbools_length] at hav
      have hal:(A++newsVs l A).length<=2000000:=by rw [List.length_append];omega
      have hlit:(litsF l A.length).2.2=((A++newsVs l A).length:Int):=by rw [List.length_append];omega
      generalize hAL:(A++newsVs l A).length=al at *
      subst hav
      have c0:wr.cell? ⟨rb,0,none⟩=some (.slice aa al acap):=cH hrd.box rfl
      have f0:wr.frozen? ⟨rb,0,none⟩=false:=fH hrd.box
      have HAL:=Lh hAL
      have HLIT:=Lh hlit
      have HRD:=Lh hrd
      have HRR:=Lh R
      have hrbl:rb<wr.heap.size:=hrd.lt
      clear hAL hrd R hnl hlit htk hb hAn hjl
      -- the node's value
      have HFIN:Hid (∀ (vb:Bool) (g cp:Nat) (w3:World),w3.ownsRow 0 4 1 (.slice (some ⟨g,0,none⟩) (al+1) cp) (al+1) ((A++newsVs l A).map Value.bool++[.bool vb])->(wr.alloc (.cells #[.bool vb] 4)).grownBy w3 (Value.slice aa al acap).ownBlock->((Value.slice aa al acap).ownBlock=some g∨g=wr.heap.size+1) ->
        (w3.cell? ⟨rb,0,none⟩=some (.slice aa al acap)/\w3.frozen? ⟨rb,0,none⟩=false)/\RdPost w rb 72 4 q (.int .i64 (al:Int)) (A++(newsVs l A++[vb])) (.returned (.int .i64 (al:Int))) (w3.setCell ⟨rb,0,none⟩ (.slice (some ⟨g,0,none⟩) (al+1) cp))):=fun vb g cp w3 hown hgrow hat=>by
       have o1:=HRD.out.own.alloc (.cells #[.bool vb] 4)
       have hds:DsAt (wr.alloc (.cells #[.bool vb] 4)) (fun _=>False) (dbools (A++newsVs l A)) ((A++newsVs l A).map Value.bool):=DsAt.bools
       obtain ⟨g1,g2,g3⟩:=o1.appended (ys:=dbools [vb]) hds (by rw [dbools_length,HAL.out];simpa using hown) hgrow (by rcases hat with h | h;exact .inl h.symm;exact .inr (by simp [Value.ownBlock,h])) (DsAt.bools (xs:=[vb]))
       have hqr:=HRD.out.own.row
       have M1:Chalk.Mod (fun k=>q'=some k) wr w3:=((Chalk.Mod.refl _ wr).alloc _).trans g2 (fun _ _ h=>h)
       have hbox:w3.heap[rb]?=some (.cells #[.slice aa al acap] 72 (0,0)):=(M1.block rb hrbl (fun e=>HRD.out.ne e)).trans HRD.out.box
       have hgr:g ≠ rb:=by
        rcases hat with h | h
        ·rw [hqr] at h;intro e;subst e;exact HRD.out.ne h
        ·omega
       have hsz3:=M1.size
       have hrsz:=HRR.out.size
       refine ⟨⟨cH hbox rfl,fH hbox⟩,rfl,_,some g,⟨by rw [box_store _ hbox];rfl,?_,by simpa using hgr⟩,?_,?_⟩
       ·have g1':Chalk.Own w3 (fun _=>False) 4 1 (.slice (some ⟨g,0,none⟩) (al+1) cp) (some g) (dbools (A++(newsVs l A++[vb]))):=by
         rw [<- List.append_assoc,dbools_append];exact (by simpa [Value.ownBlock] using g1)
        exact g1'.store _ id (by simpa using hgr)
       ·rcases hat with h | h
        ·rw [hqr] at h
         rcases HRR.out.fresh with f | ⟨k',f,hk'⟩
         ·exact .inl (by rw [<- h,f])
         ·exact .inr ⟨g,rfl,by rw [f] at h;simp at h;omega⟩
        ·exact .inr ⟨g,rfl,by omega⟩
       ·refine (HRR.out.mod.trans M1 (fun i hi h=>?_)).setCell (p:=⟨rb,0,none⟩) (fun _=>.inl rfl) _
        rcases HRR.out.fresh with f | ⟨k',f,hk'⟩
        ·exact .inr (f ▸ h)
        ·rw [f] at h;simp at h;omega
      have HROW:Hid (∀ vb:Bool,(wr.alloc (.cells #[.bool vb] 4)).ownsRow 0 4 1 (.slice aa al acap) al ((A++newsVs l A).map Value.bool)):=fun vb=>by
       obtain ⟨cs,h1,h2⟩:=(HRD.out.own.alloc (.cells #[.bool vb] 4)).cells
       rw [dbools_length,HAL.out] at h1
       have hcs':=bools_inv h2
       rw [hcs'] at h1;exact h1
      generalize hc0:cntT l A=cn at *
      have HC0:=Lh hc0
      clear hc0
      rcases HCS.out with ⟨rfl,rfl,rfl,_⟩ | ⟨rfl,rfl,rfl,_⟩ | ⟨rfl,_⟩ | ⟨rfl,_⟩ | ⟨rfl,rfl,rfl⟩ | ⟨rfl,rfl,rfl⟩ | ⟨rfl,rfl,hk1,hk4⟩
      case inr.inr.inl=>cases hk2
      case inr.inr.inr.inl=>cases hk3
      ·have HVT:=Lh (show valT (.mk 1 0 0 l) A=false from by rw [valT_1];rfl)
       go_wp2_with (at_builtin;go_must (refine wpList_append_lies _ rfl _ _ 51 rfl 0 4 i0 _ 1 1 Tryz.underlying51 hi hz0 hz1 hz2 rfl (by decide) (.slice aa al acap) _ _ rfl (HROW.out false) ⟨wr.heap.size,0,none⟩ 1 1 [.bool false] rfl rfl (World.news_of_block (heap_alloc_new wr _)) (by simp [Value.oneCell']) (by omega) (by unfold maxLen;omega) (by omega) (Nat.zero_le _) (wr.heap.size+1) (by simp) ?_);intro g cp w3 hown hgrow hat hglt;obtain ⟨⟨hcz,hfz⟩,hpost⟩:=HFIN.out false g cp w3 hown hgrow hat;have HPO:=Lh hpost;clear hpost hown hgrow hat)
       go_ret
       rw [HLIT.out,HVT.out]
       exact HPO.out
      ·have HVT:=Lh (show valT (.mk 1 1 0 l) A=true from by rw [valT_1];rfl)
       go_wp2_with (at_builtin;go_must (refine wpList_append_lies _ rfl _ _ 51 rfl 0 4 i0 _ 1 1 Tryz.underlying51 hi hz0 hz1 hz2 rfl (by decide) (.slice aa al acap) _ _ rfl (HROW.out true) ⟨wr.heap.size,0,none⟩ 1 1 [.bool true] rfl rfl (World.news_of_block (heap_alloc_new wr _)) (by simp [Value.oneCell']) (by omega) (by unfold maxLen;omega) (by omega) (Nat.zero_le _) (wr.heap.size+1) (by simp) ?_);intro g cp w3 hown hgrow hat hglt;obtain ⟨⟨hcz,hfz⟩,hpost⟩:=HFIN.out true g cp w3 hown hgrow hat;have HPO:=Lh hpost;clear hpost hown hgrow hat)
       go_ret
       rw [HLIT.out,HVT.out]
       exact HPO.out
      ·have hv:valT (.mk 4 0 0 l) A=((cn:Int)==(l.length:Int)):=by
        rw [valT_4,HC0.out]
        by_cases h0:cn=l.length
        ·rw [decide_eq_true h0];exact (beq_iff_eq.2 (by omega)).symm
        ·rw [decide_eq_false h0];exact (beq_eq_false_iff_ne.2 (by omega)).symm
       generalize hvb:((cn:Int)==(l.length:Int))=vb at *
       have HVT:=Lh hv
       clear hv
       go_wp2_with (at_builtin;go_must (refine wpList_append_lies _ rfl _ _ 51 rfl 0 4 i0 _ 1 1 Tryz.underlying51 hi hz0 hz1 hz2 rfl (by decide) (.slice aa al acap) _ _ rfl (HROW.out vb) ⟨wr.heap.size,0,none⟩ 1 1 [.bool vb] rfl rfl (World.news_of_block (heap_alloc_new wr _)) (by simp [Value.oneCell']) (by omega) (by unfold maxLen;omega) (by omega) (Nat.zero_le _) (wr.heap.size+1) (by simp) ?_);intro g cp w3 hown hgrow hat hglt;obtain ⟨⟨hcz,hfz⟩,hpost⟩:=HFIN.out vb g cp w3 hown hgrow hat;have HPO:=Lh hpost;clear hpost hown hgrow hat)
       go_ret
       rw [HLIT.out,HVT.out]
       exact HPO.out
      ·have hv:valT (.mk 5 0 0 l) A=decide (0<cn):=by rw [valT_5,HC0.out]
       have hvb0:decide ((0:Int)<(cn:Int))=decide (0<cn):=by simp
       generalize hvb:decide (0<cn)=vb at *
       have HVT:=Lh hv
       clear hv
       go_wp2_with (at_builtin;go_must (refine wpList_append_lies _ rfl _ _ 51 rfl 0 4 i0 _ 1 1 Tryz.underlying51 hi hz0 hz1 hz2 rfl (by decide) (.slice aa al acap) _ _ rfl (HROW.out vb) ⟨wr.heap.size,0,none⟩ 1 1 [.bool vb] rfl rfl (World.news_of_block (heap_alloc_new wr _)) (by simp [Value.oneCell']) (by omega) (by unfold maxLen;omega) (by omega) (Nat.zero_le _) (wr.heap.size+1) (by simp) ?_);intro g cp w3 hown hgrow hat hglt;obtain ⟨⟨hcz,hfz⟩,hpost⟩:=HFIN.out vb g cp w3 hown hgrow hat;have HPO:=Lh hpost;clear hpost hown hgrow hat)
       go_ret
       rw [HLIT.out,HVT.out]
       exact HPO.out
      ·have hv:valT (.mk 6 0 k l) A=decide (k<=(cn:Int)):=by rw [valT_6,HC0.out]
       generalize hvb:decide (k<=(cn:Int))=vb at *
       have HVT:=Lh hv
       clear hv
       go_wp2_with (at_builtin;go_must (refine wpList_append_lies _ rfl _ _ 51 rfl 0 4 i0 _ 1 1 Tryz.underlying51 hi hz0 hz1 hz2 rfl (by decide) (.slice aa al acap) _ _ rfl (HROW.out vb) ⟨wr.heap.size,0,none⟩ 1 1 [.bool vb] rfl rfl (World.news_of_block (heap_alloc_new wr _)) (by simp [Value.oneCell']) (by omega) (by unfold maxLen;omega) (by omega) (Nat.zero_le _) (wr.heap.size+1) (by simp) ?_);intro g cp w3 hown hgrow hat hglt;obtain ⟨⟨hcz,hfz⟩,hpost⟩:=HFIN.out vb g cp w3 hown hgrow hat;have HPO:=Lh hpost;clear hpost hown hgrow hat)
       go_ret
       rw [HLIT.out,HVT.out]
       exact HPO.out

end Go.Proofs.YtjjkfgjnadaheaaGreatDoor
