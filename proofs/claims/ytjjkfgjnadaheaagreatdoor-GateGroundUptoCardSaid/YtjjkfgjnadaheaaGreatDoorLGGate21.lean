/- Joined texts: EvO, EvP, EvQ, GTreeA, GTreeB. -/
import Derived.Test.YtjjkfgjnadaheaaGreatDoorLGGate20
import Derived.Test.YtjjkfgjnadaheaaGreatDoorLGGate19
import Derived.Test.YtjjkfgjnadaheaaGreatDoorLGGate13
import Derived.Test.YtjjkfgjnadaheaaGreatDoorLGGate18
set_option maxHeartbeats 4000000
set_option maxRecDepth 100000
set_option linter.unusedVariables false
set_option linter.unusedSimpArgs false
/- eval.holds: quantifiers. -/
namespace Go.Proofs.YtjjkfgjnadaheaaGreatDoor
open Go.RowKit Go.Chalk
attribute [local go_sem] Oper.semAt_some
theorem holds_quant (s:Schl) (x:SchA) (l:List Plc) (y:SlA) (env:List Ev) (z:SlA) (kind:Int) (name:Bs) (n:Int) (binds:List Bnd) (g:Frm) (fa:FrmA) (w:World) (hk:14<=kind/\kind<=17) (hg:GG w) (hI:ItoaAt) (hs:SchIn w (·<w.heap.size) s x) (hf:SchSmall s)
  (hx:FrmIn w (·<w.heap.size) (.mk kind name n [] binds [g]) fa) (hz:SlIn w (·<w.heap.size) (env.map Ev.toD) z) (hlen:env.length+binds.length<=2000000) (hmany:(tuplesF (sizesF s binds)).length<=1048576)
  (ih:∀ (t:List Nat) (ht:t∈tuplesF (sizesF s binds)) (y1:FrmA) (z1:SlA) (W:World),Below w.heap.size w W->FrmIn w (·<w.heap.size) g y1->SlIn W (·<W.heap.size) ((withF env binds t).map Ev.toD) z1->Calls Tryz.prog 56 #[stV s x l y,.slice z1.a (withF env binds t).length z1.cap,ndV (g,y1)] W fun e w'=>e=.returned (.bool (holdsF s l (withF env binds t) g))/\Below W.heap.size W w') :
  Calls Tryz.prog 56 #[stV s x l y,.slice z.a env.length z.cap,ndV (.mk kind name n [] binds [g],fa)] w fun e w'=>e=.returned (.bool (holdsF s l env (.mk kind name n [] binds [g])))/\Below w.heap.size w w':=by
 have hb:=hdW_below w s x l y env z (.mk kind name n [] binds [g]) fa
 have hr:holdsF s l env (.mk kind name n [] binds [g])=quantHolds kind n ((tuplesF (sizesF s binds)).countP (fun t=>holdsF s l (withF env binds t) g)) (tuplesF (sizesF s binds)).length:=by
  rw [holdsF_nil,if_neg (by omega),if_neg (by omega),if_neg (by omega),if_neg (by omega),if_neg (by omega),if_neg (by omega)]
  simp only [holdsAt]
 rw [hr]
 obtain ⟨y1,h1,h2⟩:=hx.l.frm 0 (by simp [Frm.l])
 obtain ⟨hla,hlb⟩:=hx.l.at_ (by simp [Frm.l])
 obtain ⟨mb,mo,q1,q2,q3⟩:=hg.atoms
 have hm0:=(hb.cell (World.block_lt_of_cell? w _ q1)).trans q1
 have hl:=q3 (hdW w s x l y env z (.mk kind name n [] binds [g]) fa) ((hb.block _ (gS q2).1).trans q2) (.int .i64 kind) ⟨_,(show I64 kind by unfold I64;omega),rfl⟩
 have hkd:(decide (3<=kind)&&decide (kind<=8))=false:=by simp;omega
 have hat:atomFn kind=.nilFunc:=by unfold atomFn;rw [if_neg (by omega),if_neg (by omega),if_neg (by omega),if_neg (by omega),if_neg (by omega),if_neg (by omega)]
 replace hl:=hl.trans (show Result.ok (Value.tuple #[atomFn kind,.bool (decide (3<=kind)&&decide (kind<=8))]) _=Result.ok (Value.tuple #[.nilFunc,.bool false]) _ by rw [hat,hkd])
 have k1:(kind==1)=false:=by simp;omega
 have k2:(kind==2)=false:=by simp;omega
 have k9:(kind==9)=false:=by simp;omega
 have k10:(kind==10)=false:=by simp;omega
 have k11:(kind==11)=false:=by simp;omega
 have k12:(kind==12)=false:=by simp;omega
 have k13:(kind==13)=false:=by simp;omega
 have HB:=Lh hb
 have hmf:∀ (fn:Fn) (first cap:Array Value) (w:World),(Instr.makeFunc fn first cap).run Tryz.prog w=.ok (.func fn first cap) w:=fun _ _ _ _=>rfl
 have HET:=Lh (fun (W:World) (hW:Below w.heap.size w W)=>etuples_any s x binds fa.b W hI (hs.later hW hW.size) hf (hx.binds.later hW hW.size) (by omega))
 unfold stV at ih ⊢
 have HIH:=Lh ih
 have HX:=Lh hx
 have HZ:=Lh hz
 have HK:=Lh hk
 have HL:=Lh hlen
 clear hg hx hs hf hz hk hkd hat ih hr q1 q2 q3 hI
 simp only [hdW,ndV,FrmA.cells,SlA.val,Frm.kind,Frm.name,Frm.n,Frm.terms,Frm.binds,Frm.l,List.length_cons,List.length_nil,Nat.zero_add,Nat.reduceAdd,SchA.cells,hla] at HB hl hm0 HET ⊢
 have HLB:=Lh (aI h2 hlb)
 clear hlb h2 hla
 refine (callsIn_wide (n:=0)).1 (callsIn_of_wp_marks Tryz.func56 rfl trivial ?_)
 simp only [Tryz.ntmps56,List.size_toArray,List.length_cons,List.length_nil,Nat.reduceAdd,Nat.reduceSub,Array.replicate_succ,Array.replicate_zero,List.push_toArray,List.append_toArray,List.nil_append,List.cons_append]
 gi_wp2_with fail
 refine ⟨trivial,rfl,?_⟩
 generalize hW5:(((((w.alloc _).alloc _).alloc _).alloc _).alloc _)=W5
 have hsz:W5.heap.size=w.heap.size+5:=by rw [<- hW5];simp
 have hb5:Below w.heap.size w W5:=by rw [<- hW5];exact (((((Below.refl _ _).alloc (Nat.le_refl _) _).alloc (by simp) _).alloc (by simp;omega) _).alloc (by simp;omega) _).alloc (by simp;omega) _
 have g0:W5.heap[w.heap.size]?=some (.cells #[.slice x.slots.a s.slots.length x.slots.cap,.slice x.rooms.a s.rooms.length x.rooms.cap,.slice x.people.a s.people.length x.people.cap,.slice x.groups.a s.groups.length x.groups.cap,.slice x.lessons.a s.lessons.length x.lessons.cap,.slice y.a l.length y.cap] 105 (0,0)):=by rw [<- hW5];simp only [heap_get,World.size_alloc];repeat (first | rw [if_pos trivial] | rw [if_pos (by omega)] | rw [if_neg (by omega)])
 have g1:W5.heap[w.heap.size+1]?=some (.cells #[.slice z.a env.length z.cap] 29 (0,0)):=by rw [<- hW5];simp only [heap_get,World.size_alloc];repeat (first | rw [if_pos trivial] | rw [if_pos (by omega)] | rw [if_neg (by omega)])
 have g2:W5.heap[w.heap.size+1+1]?=some (.cells #[.int .i64 kind,.string ⟨name.toArray⟩,.int .i64 n,.slice fa.t.a 0 fa.t.cap,.slice fa.b.a binds.length fa.b.cap,.slice (some ⟨fa.l.b,fa.l.o,none⟩) 1 fa.l.cap] 34 (0,0)):=by rw [<- hW5];simp only [heap_get,World.size_alloc];repeat (first | rw [if_pos trivial] | rw [if_pos (by omega)] | rw [if_neg (by omega)])
 have g3:W5.heap[w.heap.size+1+1+1]?=some (.cells #[.int .i64 0] 3 (0,0)):=by rw [<- hW5];simp only [heap_get,World.size_alloc];repeat (first | rw [if_pos trivial] | rw [if_pos (by omega)] | rw [if_neg (by omega)])
 have g4:W5.heap[w.heap.size+1+1+1+1]?=some (.cells #[.int .i64 0] 3 (0,0)):=by rw [<- hW5];simp only [heap_get,World.size_alloc];repeat (first | rw [if_pos trivial] | rw [if_pos (by omega)] | rw [if_neg (by omega)])
 refine (callsIn_wide.2 (HET.out W5 hb5)).mono ?_
 rintro e w6 ⟨sb,lb,rfl,hit,hb6⟩
 have k0:∀ {k:Nat} {o:Obj},W5.heap[k]?=some o->w6.heap[k]?=some o:=fun h=>(hb6.block _ (gS h).1).trans h
 have G:Hid (W5.heap.size=w.heap.size+5/\W5.heap.size<=w6.heap.size/\Below w.heap.size w w6/\w6.heap[w.heap.size]?=some _/\w6.heap[w.heap.size+1]?=some _/\w6.heap[w.heap.size+1+1]?=some _/\w6.heap[w.heap.size+1+1+1]?=some _/\w6.heap[w.heap.size+1+1+1+1]?=some _):=Lh ⟨hsz,hb6.size,hb5.trans (hb6.mono hb5.size),k0 g0,k0 g1,k0 g2,k0 g3,k0 g4⟩
 have HIT:=Lh hit
 clear hsz hb5 g0 g1 g2 g3 g4 k0 hit hb6 hW5 HET hb hl hm0
 gi_wp2_with fail
 -- THE RANGE
 refine wp_rangeV_fx (gf:=181) (lb:=#[.pointer (some ⟨sb,0,none⟩),.pointer (some ⟨lb,0,none⟩)]) rfl (enters_of Tryz.func181 (by kernel_rfl) rfl)
  HIT.out rfl (fun k=>k=w.heap.size+1+1+1∨k=w.heap.size+1+1+1+1) (fun k hk=>by have:=G.out.1;omega) (fun k hk=>by have:=G.out.1;have:=G.out.2.1;omega)
  (fun i W=>W.heap[w.heap.size+1+1+1]?=some (.cells #[.int .i64 (((tuplesF (sizesF s binds)).take i).countP (fun t=>holdsF s l (withF env binds t) g))] 3 (0,0))/\W.heap[w.heap.size+1+1+1+1]?=some (.cells #[.int .i64 i] 3 (0,0)))
  (fun c i W=>False)
  ?hI ?hIx ⟨G.out.2.2.2.2.2.2.1,G.out.2.2.2.2.2.2.2⟩ (fun lp i a' W=>∃ (z1:SlA) (S:Nat->Prop),(∀ k,S k->k ≠ lp/\k<W.heap.size/\¬ (k=w.heap.size+1+1+1∨k=w.heap.size+1+1+1+1))/\SlIn W S (dints (nats ((tuplesF (sizesF s binds))[i]?.getD []))) z1/\a' = { tmps:=#[Value.agg #[Value.slice x.slots.a s.slots.length x.slots.cap,Value.slice x.rooms.a s.rooms.length x.rooms.cap,Value.slice x.people.a s.people.length x.people.cap,Value.slice x.groups.a s.groups.length x.groups.cap,Value.slice x.lessons.a s.lessons.length x.lessons.cap,Value.slice y.a l.length y.cap],Value.slice z.a env.length z.cap,Value.agg #[Value.int IntKind.i64 kind,Value.string { data:=List.toArray name },Value.int IntKind.i64 n,Value.slice fa.t.a 0 fa.t.cap,Value.slice fa.b.a binds.length fa.b.cap,Value.slice (some { block:=fa.l.b,off:=fa.l.o }) 1 fa.l.cap],Value.pointer (some { block:=w.heap.size,off:=0 }),Value.pointer (some { block:=w.heap.size+1,off:=0 }),Value.pointer (some { block:=w.heap.size+1+1,off:=0 }),Value.bool false,Value.func (Fn.func 105) #[] #[Value.pointer (some { block:=w.heap.size,off:=0 }),Value.pointer (some { block:=w.heap.size+1,off:=0 }),Value.pointer (some { block:=w.heap.size+1+1,off:=0 })],Value.nilFunc,Value.bool false,Value.pointer (some { block:=w.heap.size+1+1+1,off:=0 }),Value.pointer (some { block:=w.heap.size+1+1+1+1,off:=0 }),.slice z1.a binds.length z1.cap,Value.func (Fn.func 105) #[] #[Value.pointer (some { block:=w.heap.size,off:=0 }),Value.pointer (some { block:=w.heap.size+1,off:=0 }),Value.pointer (some { block:=w.heap.size+1+1,off:=0 })],Value.pointer (some { block:=w.heap.size+1+1,off:=0 }),Value.int IntKind.i64 kind,Value.bool false,Value.bool false,Value.bool false,undef,undef,undef,Value.bool false,Value.bool false,undef,undef,undef,undef,undef,undef,undef,undef,undef,undef,undef,undef,undef,undef,undef,undef,undef,undef,undef,undef,Value.bool false,Value.bool false,undef,undef,undef,Value.bool false,Value.bool false,undef,undef,undef,undef,undef,undef,Value.bool false,Value.bool false,undef,undef,undef,undef,undef,undef,Value.bool false,Value.bool false,undef,undef,undef,undef,undef,undef,undef,Value.tuple #[Value.nilFunc,Value.bool false],Value.map (some mb),Value.pointer (some { block:=w.heap.size+1+1,off:=0 }),Value.int IntKind.i64 kind,Value.tuple #[Value.nilFunc,Value.bool false],Value.nilFunc,Value.bool false,Value.bool false,undef,undef,undef,undef,undef,undef,undef,undef,undef,undef,undef,undef,undef,undef,undef,Value.pointer (some { block:=w.heap.size,off:=0 }),Value.agg #[Value.slice x.slots.a s.slots.length x.slots.cap,Value.slice x.rooms.a s.rooms.length x.rooms.cap,Value.slice x.people.a s.people.length x.people.cap,Value.slice x.groups.a s.groups.length x.groups.cap,Value.slice x.lessons.a s.lessons.length x.lessons.cap],Value.pointer (some { block:=w.heap.size+1+1,off:=4 }),Value.slice fa.b.a binds.length fa.b.cap,Value.func (Fn.func 181) #[] #[Value.pointer (some { block:=sb,off:=0 }),Value.pointer (some { block:=lb,off:=0 })],.slice z1.a binds.length z1.cap,undef,undef,undef,undef,undef,undef,undef,undef,undef,undef,undef,undef,undef,undef,undef,undef,undef,undef,undef,undef,undef,undef,undef,undef,undef,undef,undef,undef,undef,undef,undef,undef,undef,undef,undef,undef],defers:=[] }) ?hAx ?assign ?body ?done ?stop
 case hI=>exact (FixStab.box (T:=fun k=>k=w.heap.size+1+1+1∨k=w.heap.size+1+1+1+1) (B:=w.heap.size+1+1+1) (o:=fun i=>.cells #[.int .i64 (((tuplesF (sizesF s binds)).take i).countP (fun t=>holdsF s l (withF env binds t) g))] 3 (0,0)) (.inl rfl)).and (FixStab.box (T:=fun k=>k=w.heap.size+1+1+1∨k=w.heap.size+1+1+1+1) (B:=w.heap.size+1+1+1+1) (o:=fun i=>.cells #[.int .i64 i] 3 (0,0)) (.inr rfl))
 case hIx=>exact fun c i A B S h hm hS=>h
 case hAx=>exact fun lp i a' A B ⟨z1,S,h1,h2,h3⟩ hm=>⟨z1,S,fun k hk=>⟨(h1 k hk).1,Nat.lt_of_lt_of_le (h1 k hk).2.1 hm.size,(h1 k hk).2.2⟩,h2.agree (hm.agree (fun k hk=>⟨(h1 k hk).2.1,(h1 k hk).1⟩)),h3⟩
 case assign =>
  rintro lp i v S W K hi ⟨z1,rfl,hz1⟩ hv hS hm hI hlt hK
  have HA:=Lh (aI hI (aI hz1 hS))
  have HKK:=Lh hK
  have hsl:(sizesF s binds).length=binds.length:=by simp [sizesF]
  rw [hsl]
  clear hK hI hz1 hS hv hsl
  simp only [SlA.val]
  gi_wp2_with fail
  exact HKK.out _ _ (Chalk.Mod.refl _ _) HA.out.1 ⟨z1,S,fun k hk=>⟨(HA.out.2.2 k hk).2.2.2,(HA.out.2.2 k hk).2.1,(HA.out.2.2 k hk).2.2.1⟩,HA.out.2.1,rfl⟩
 case body =>
  rintro lp i a' W hi hm ⟨hn,ha⟩ ⟨z1,S,hS,hz1,rfl⟩ hT hwl hnl
  have hbW:Below w.heap.size w W:=G.out.2.2.1.trans (hm.below (by have:=G.out.1;have:=G.out.2.1;omega) (fun k hk=>by omega))
  have f0:=heap_kept G.out.2.2.2.1 hm (by omega)
  have f1:=heap_kept G.out.2.2.2.2.1 hm (by omega)
  have f2:=heap_kept G.out.2.2.2.2.2.1 hm (by omega)
  have q0:W.cell? ⟨w.heap.size+1+1+1+1,0,none⟩=some (.int .i64 i):=cH ha rfl
  have q1:W.frozen? ⟨w.heap.size+1+1+1+1,0,none⟩=false:=fH ha
  have hib:(i:Int)<1048576:=by omega
  have HM:=Lh (aI hm (aI hbW (aI hn (aI ha (aI f0 (aI f1 f2))))))
  have HS1:=Lh (aI hS hz1)
  have HI0:=Lh hi
  clear hm hn ha hS hz1 hbW f0 f1 f2 hi hT hwl hnl
  gi_wp2_with fail
  obtain ⟨W1,hW1⟩:∃ W1,W1=W.setCell ⟨w.heap.size+1+1+1+1,0,none⟩ (.int .i64 ((i:Int)+1)):=⟨_,rfl⟩
  rw [<- hW1]
  have m1:Chalk.Mod (fun k=>k=w.heap.size+1+1+1∨k=w.heap.size+1+1+1+1) W W1:=by rw [hW1];exact (Chalk.Mod.refl (fun k=>k=w.heap.size+1+1+1∨k=w.heap.size+1+1+1+1) _).setCell (p:=⟨w.heap.size+1+1+1+1,0,none⟩) (fun _=>.inr rfl) _
  have m2:Chalk.Mod (fun k=>k=w.heap.size+1+1+1+1) W W1:=by rw [hW1];exact (Chalk.Mod.refl (fun k=>k=w.heap.size+1+1+1+1) _).setCell (p:=⟨w.heap.size+1+1+1+1,0,none⟩) (fun _=>rfl) _
  have a1:W1.heap[w.heap.size+1+1+1+1]?=some (.cells #[.int .i64 ((i+1:Nat):Int)] 3 (0,0)):=by rw [hW1,box_store _ HM.out.2.2.2.1];rfl
  have n1:=heap_kept HM.out.2.2.1 m2 (by omega)
  have e0:=heap_kept HM.out.2.2.2.2.1 m1 (by omega)
  have e1:=heap_kept HM.out.2.2.2.2.2.1 m1 (by omega)
  have e2:=heap_kept HM.out.2.2.2.2.2.2 m1 (by omega)
  have hbW1:Below w.heap.size w W1:=HM.out.2.1.trans (m1.below (by have:=HM.out.2.1.size;omega) (fun k hk=>by omega))
  have hzz:SlIn W1 (·<W1.heap.size) (dints (nats ((tuplesF (sizesF s binds))[i]?.getD []))) z1:=(HS1.out.2.agree (m1.agree (fun k hk=>⟨(HS1.out.1 k hk).2.1,(HS1.out.1 k hk).2.2⟩))).mono (fun k hk=>Nat.lt_of_lt_of_le (HS1.out.1 k hk).2.1 m1.size)
  have hgt:(tuplesF (sizesF s binds))[i]?.getD []=(tuplesF (sizesF s binds))[i]'HI0.out:=by rw [List.getElem?_eq_getElem HI0.out];rfl
  have hmem:(tuplesF (sizesF s binds))[i]'HI0.out∈tuplesF (sizesF s binds):=List.getElem_mem _
  have hcn:((((tuplesF (sizesF s binds)).take (i+1)).countP (fun t=>holdsF s l (withF env binds t) g):Nat):Int)=(((tuplesF (sizesF s binds)).take i).countP (fun t=>holdsF s l (withF env binds t) g):Nat)+(if holdsF s l (withF env binds ((tuplesF (sizesF s binds))[i]'HI0.out)) g=true then 1 else 0):=by
   rw [List.take_succ_eq_append_getElem HI0.out,List.countP_append,List.countP_singleton];split <;> simp
  have hcl:((((tuplesF (sizesF s binds)).take i).countP (fun t=>holdsF s l (withF env binds t) g):Nat):Int)<1048576:=by
   have h:=List.countP_le_length (p:=fun t=>holdsF s l (withF env binds t) g) (l:=(tuplesF (sizesF s binds)).take i)
   have h2:=List.length_take_le i (tuplesF (sizesF s binds))
   have:=HI0.out
   omega
  rw [hgt] at hzz
  generalize (tuplesF (sizesF s binds))[i]'HI0.out=t at hzz hmem hcn
  have htl:t.length=binds.length:=((tuples_mem _ _).1 hmem).1.trans (by simp [sizesF])
  have HIV:=Lh (fun (x0:SlA) (W2:World) (hb2:Below W1.heap.size W1 W2) (hx0:SlIn W2 (·<W2.heap.size) ((withF env binds t).map Ev.toD) x0)=>HIH.out t hmem y1 x0 W2 (hbW1.trans (hb2.mono hbW1.size)) h1 hx0)
  have hwt:=with_any env z binds fa.b t z1 W1.drew (HZ.out.later hbW1.drew hbW1.drew.size) (HX.out.binds.later hbW1.drew hbW1.drew.size) (hzz.later (Below.refl _ _).drew (Nat.le_refl _)) HL.out htl
  rw [htl] at hwt
  have HWT:Hid (Calls Tryz.prog 110 #[.slice z.a env.length z.cap,.slice fa.b.a binds.length fa.b.cap,.slice z1.a binds.length z1.cap] W1.drew fun e w'=>∃ x0:SlA,e=.returned (.slice x0.a (withF env binds t).length x0.cap)/\SlIn w' (·<w'.heap.size) ((withF env binds t).map Ev.toD) x0/\Below W1.drew.heap.size W1.drew w'):=Lh (hwt.mono (by
   rintro e w' ⟨v,rfl,hon,hb⟩
   obtain ⟨x0,rfl,hx0⟩:=hon.onto.sl (by rw [widths_map Ev.flatT,List.length_map])
   exact ⟨x0,by rw [List.length_map],hx0,hb⟩))
  have HKS:Hid (∀ W',Below W1.heap.size W1 W'->W'.cell? ⟨w.heap.size,0,none⟩=some (.slice x.slots.a s.slots.length x.slots.cap)/\W'.cell? ⟨w.heap.size,1,none⟩=some (.slice x.rooms.a s.rooms.length x.rooms.cap)/\W'.cell? ⟨w.heap.size,2,none⟩=some (.slice x.people.a s.people.length x.people.cap)/\W'.cell? ⟨w.heap.size,3,none⟩=some (.slice x.groups.a s.groups.length x.groups.cap)/\W'.cell? ⟨w.heap.size,4,none⟩=some (.slice x.lessons.a s.lessons.length x.lessons.cap)/\W'.cell? ⟨w.heap.size,5,none⟩=some (.slice y.a l.length y.cap)/\W'.cell? ⟨w.heap.size+1,0,none⟩=some (.slice z.a env.length z.cap)/\W'.cell? ⟨w.heap.size+1+1,4,none⟩=some (.slice fa.b.a binds.length fa.b.cap)/\W'.cell? ⟨w.heap.size+1+1,5,none⟩=some (.slice (some ⟨fa.l.b,fa.l.o,none⟩) 1 fa.l.cap)/\W'.cell? ⟨fa.l.b,fa.l.o,none⟩=some (.int .i64 g.kind)/\W'.cell? ⟨fa.l.b,fa.l.o+1,none⟩=some (.string ⟨g.name.toArray⟩)/\W'.cell? ⟨fa.l.b,fa.l.o+2,none⟩=some (.int .i64 g.n)/\W'.cell? ⟨fa.l.b,fa.l.o+3,none⟩=some (.slice y1.t.a g.terms.length y1.t.cap)/\W'.cell? ⟨fa.l.b,fa.l.o+4,none⟩=some (.slice y1.b.a g.binds.length y1.b.cap)/\W'.cell? ⟨fa.l.b,fa.l.o+5,none⟩=some (.slice y1.l.a g.l.length y1.l.cap)) :=
   Lh (fun W' hW=>by
    have hw:Below w.heap.size w W':=hbW1.trans (hW.mono hbW1.size)
    have c1:=(hW.block w.heap.size (gS e0).1).trans e0
    have c2:=(hW.block (w.heap.size+1) (gS e1).1).trans e1
    have c3:=(hW.block (w.heap.size+1+1) (gS e2).1).trans e2
    obtain ⟨d0,d1,d2,d3,d4,d5⟩:=(HLB.out.1).six
    simp only [Nat.zero_mul,Nat.add_zero,Frm.l,List.getElem_cons_zero,SlA.val] at d0 d1 d2 d3 d4 d5
    have hlb:=HLB.out.2
    refine ⟨cH c1 rfl,cH c1 rfl,cH c1 rfl,cH c1 rfl,cH c1 rfl,cH c1 rfl,cH c2 rfl,cH c3 rfl,cH c3 rfl,?_,?_,?_,?_,?_,?_⟩
    ·exact (hw.cell (p:=⟨fa.l.b,fa.l.o,none⟩) hlb).trans d0
    ·exact (hw.cell (p:=⟨fa.l.b,fa.l.o+1,none⟩) hlb).trans d1
    ·exact (hw.cell (p:=⟨fa.l.b,fa.l.o+2,none⟩) hlb).trans d2
    ·exact (hw.cell (p:=⟨fa.l.b,fa.l.o+3,none⟩) hlb).trans d3
    ·exact (hw.cell (p:=⟨fa.l.b,fa.l.o+4,none⟩) hlb).trans d4
    ·exact (hw.cell (p:=⟨fa.l.b,fa.l.o+5,none⟩) hlb).trans d5)
  have HN:=Lh (aI hcn (aI hcl (aI n1 (aI a1 m1))))
  clear hgt hmem hcn hcl n1 a1 m1 m2 e0 e1 e2 hbW1 hzz hwt hW1 q0 q1 hib HIH HM HS1
  generalize holdsF s l (withF env binds t) g=pv at HIV HN
  simp only [ndV,FrmA.cells,SlA.val] at HIV
  refine wpIn_round_held (S:=(fun w':World=>w'.cell? ⟨w.heap.size,0,none⟩=some (.slice x.slots.a s.slots.length x.slots.cap)/\w'.cell? ⟨w.heap.size,1,none⟩=some (.slice x.rooms.a s.rooms.length x.rooms.cap)/\w'.cell? ⟨w.heap.size,2,none⟩=some (.slice x.people.a s.people.length x.people.cap)/\w'.cell? ⟨w.heap.size,3,none⟩=some (.slice x.groups.a s.groups.length x.groups.cap)/\w'.cell? ⟨w.heap.size,4,none⟩=some (.slice x.lessons.a s.lessons.length x.lessons.cap)/\w'.cell? ⟨w.heap.size,5,none⟩=some (.slice y.a l.length y.cap)/\w'.cell? ⟨w.heap.size+1,0,none⟩=some (.slice z.a env.length z.cap)/\w'.cell? ⟨w.heap.size+1+1,4,none⟩=some (.slice fa.b.a binds.length fa.b.cap)/\w'.cell? ⟨w.heap.size+1+1,5,none⟩=some (.slice (some ⟨fa.l.b,fa.l.o,none⟩) 1 fa.l.cap)/\w'.cell? ⟨fa.l.b,fa.l.o,none⟩=some (.int .i64 g.kind)/\w'.cell? ⟨fa.l.b,fa.l.o+1,none⟩=some (.string ⟨g.name.toArray⟩)/\w'.cell? ⟨fa.l.b,fa.l.o+2,none⟩=some (.int .i64 g.n)/\w'.cell? ⟨fa.l.b,fa.l.o+3,none⟩=some (.slice y1.t.a g.terms.length y1.t.cap)/\w'.cell? ⟨fa.l.b,fa.l.o+4,none⟩=some (.slice y1.b.a g.binds.length y1.b.cap)/\w'.cell? ⟨fa.l.b,fa.l.o+5,none⟩=some (.slice y1.l.a g.l.length y1.l.cap))) (by kernel_rfl) (by kernel_rfl) (HKS.out _ (Below.refl _ _).drew) (fun qH=>?_)
  refine tkA (i:=0) rfl qH ?_ (hQ:=plain_put)
  try simp only [Act.put,ub1,ub2,ub3]
  refine tkA (i:=1) rfl qH ?_ (hQ:=plain_put)
  try simp only [Act.put,ub1,ub2,ub3]
  refine tkA (i:=2) rfl qH ?_ (hQ:=plain_put)
  try simp only [Act.put,ub1,ub2,ub3]
  refine tkA (i:=3) rfl qH ?_ (hQ:=plain_put)
  try simp only [Act.put,ub1,ub2,ub3]
  refine tkA (i:=4) rfl qH ?_ (hQ:=plain_put)
  try simp only [Act.put,ub1,ub2,ub3]
  refine tkA (i:=6) rfl qH ?_ (hQ:=plain_put)
  try simp only [Act.put,ub1,ub2,ub3]
  refine tkA (i:=7) rfl qH ?_ (hQ:=plain_put)
  try simp only [Act.put,ub1,ub2,ub3]
  refine tkA (i:=8) rfl qH ?_ (hQ:=plain_put)
  try simp only [Act.put,ub1,ub2,ub3]
  refine tkA (i:=9) rfl qH ?_ (hQ:=plain_put)
  try simp only [Act.put,ub1,ub2,ub3]
  refine wpAnyH_ready (rs:=[5]) (by kernel_rfl) (by simp) ?_
  refine cons_at rfl (fun K hK=>?_) AllReadyH.nil
  go_simp
  go_at_call 110
  refine (HWT.out).mono ?_
  rintro e w2 ⟨x0,rfl,hx0,hb2⟩
  have HB2:=Lh (aI hx0 (Below.trans (Below.drew (Below.refl _ _)) hb2))
  clear hx0 hb2
  go_simp
  refine hK.out _ _ ?_ (fun qI=>?_)
  ·exact HKS.out _ HB2.out.2
  clear hK K qH
  have qH:=qI
  clear qI
  try simp only [Act.put,ub1,ub2,ub3]
  have HIW:=Lh (HIV.out x0 w2 HB2.out.2 HB2.out.1)
  refine wpAnyH_ready (rs:=[10]) (by kernel_rfl) (by simp) ?_
  refine cons_at rfl (fun K hK=>?_) AllReadyH.nil
  go_simp
  go_at_call 56
  refine HIW.out.mono ?_
  rintro e w3 ⟨rfl,hb3⟩
  have HB3:=Lh (HB2.out.2.trans (hb3.mono HB2.out.2.size))
  clear hb3
  go_simp
  refine hK.out _ _ ?_ (fun qI=>?_)
  ·exact HKS.out _ HB3.out
  clear hK K qH
  have qH:=qI
  clear qI
  try simp only [Act.put,ub1,ub2,ub3]
  refine wpAnyH_done (by kernel_rfl) ?_ _
  refine ⟨rfl,?_⟩
  have n3:=(HB3.out.block _ (gS HN.out.2.2.1).1).trans HN.out.2.2.1
  have a3:=(HB3.out.block _ (gS HN.out.2.2.2.1).1).trans HN.out.2.2.2.1
  have m3:Chalk.Mod (fun k=>k=w.heap.size+1+1+1∨k=w.heap.size+1+1+1+1) W w3:=HN.out.2.2.2.2.trans (Chalk.Mod.of_below (S:=fun k=>k=w.heap.size+1+1+1∨k=w.heap.size+1+1+1+1) HB3.out) (fun _ _ h=>h)
  have hcn:=HN.out.1
  have hcl:=HN.out.2.1
  generalize List.countP (fun t=>holdsF s l (withF env binds t) g) (List.take i (tuplesF (sizesF s binds)))=cn at n3 hcn hcl
  have q2:w3.cell? ⟨w.heap.size+1+1+1,0,none⟩=some (.int .i64 cn):=cH n3 rfl
  have q3:w3.frozen? ⟨w.heap.size+1+1+1,0,none⟩=false:=fH n3
  have HE:=Lh (aI hcn (aI n3 (aI a3 m3)))
  clear n3 a3 m3 hcn qH
  cases pv
  ·gi_wp2_with fail
   refine ⟨HE.out.2.2.2,?_,HE.out.2.2.1⟩
   show w3.heap[w.heap.size+1+1+1]?=_
   rw [HE.out.1,HE.out.2.1];simp
  ·gi_wp2_with fail
   refine ⟨HE.out.2.2.2.setCell (p:=⟨w.heap.size+1+1+1,0,none⟩) (fun _=>.inl rfl) _,?_,?_⟩
   ·show (w3.setCell ⟨w.heap.size+1+1+1,0,none⟩ _).heap[w.heap.size+1+1+1]?=_
    rw [HE.out.1,box_store _ HE.out.2.1];rfl
   ·exact heap_kept HE.out.2.2.1 ((Chalk.Mod.refl (fun k=>k=w.heap.size+1+1+1) _).setCell (p:=⟨w.heap.size+1+1+1,0,none⟩) (fun _=>rfl) _) (by omega)
 case stop=>exact fun _ _ _ _ _ _ _ _ _ _ h _=>h.elim
 case done =>
  rintro D0 W hD0 hDlt hnD hm ⟨hn,ha⟩ hdd
  have f2:=heap_kept G.out.2.2.2.2.2.1 hm (by omega)
  have hbW:Below w.heap.size w W:=G.out.2.2.1.trans (hm.below (by have:=G.out.1;have:=G.out.2.1;omega) (fun k hk=>by omega))
  rw [List.take_length] at hn
  have HH:=Lh (aI hbW (aI hdd (by have:=G.out.1;have:=G.out.2.1;omega:w.heap.size<=D0)))
  obtain ⟨yes,hyes⟩:∃ yes,yes=(tuplesF (sizesF s binds)).countP (fun t=>holdsF s l (withF env binds t) g):=⟨_,rfl⟩
  obtain ⟨all,hall⟩:∃ all,all=(tuplesF (sizesF s binds)).length:=⟨_,rfl⟩
  have HRR:Hid (quantHolds kind n ((tuplesF (sizesF s binds)).countP (fun t=>holdsF s l (withF env binds t) g)) (tuplesF (sizesF s binds)).length=quantHolds kind n yes all):=Lh (by rw [hyes,hall])
  rw [<- hyes] at hn
  rw [<- hall] at ha
  clear hyes hall
  have r0:W.cell? ⟨w.heap.size+1+1+1,0,none⟩=some (.int .i64 yes):=cH hn rfl
  have r1:W.cell? ⟨w.heap.size+1+1+1+1,0,none⟩=some (.int .i64 all):=cH ha rfl
  have r2:W.cell? ⟨w.heap.size+1+1,0,none⟩=some (.int .i64 kind):=cH f2 rfl
  have r3:W.cell? ⟨w.heap.size+1+1,2,none⟩=some (.int .i64 n):=cH f2 rfl
  clear hn ha f2 hbW hm hdd hD0 hDlt hnD
  have hkk:kind=14∨kind=15∨kind=16∨kind=17:=by have:=HK.out;omega
  have fin:∀ (v:Bool) (tm:Array Value) (hv:v=quantHolds kind n yes all),(∀ w,(results Tryz.f56 tm).run Tryz.prog w=.ok (.bool v) w)->LeavesInM Fence.wide 0 Tryz.prog Tryz.f56 tm (fun e w'=>e=.returned (.bool (quantHolds kind n ((tuplesF (sizesF s binds)).countP (fun t=>holdsF s l (withF env binds t) g)) (tuplesF (sizesF s binds)).length))/\Below w.heap.size w w') [{ target:=.collected D0,args:=#[] }] .returning W:=fun v tm hv hres=>by
   subst hv
   rw [HRR.out]
   exact leaves_marks (v:=.bool (quantHolds kind n yes all)) [D0] W hres (by simp) (fun d hd=>by simp at hd;subst hd;exact HH.out.2.1) (fun W' hm'=>⟨rfl,HH.out.1.trans (hm'.below HH.out.1.size (fun k hk=>by have:=HH.out.2.2;simp at hk;omega))⟩)
  have FIN:=Lh fin
  clear fin
  rcases hkk with rfl | rfl | rfl | rfl
  ·gi_wp2_with fail
   refine FIN.out ((yes:Int)==(all:Int)) _ ?_ (fun w=>by simp [results,Tryz.results56,go_sem])
   unfold quantHolds
   rw [Bool.eq_iff_iff]
   simp
   try omega
  ·gi_wp2_with fail
   refine FIN.out (decide ((0:Int)<(yes:Int))) _ ?_ (fun w=>by simp [results,Tryz.results56,go_sem])
   unfold quantHolds
   rw [Bool.eq_iff_iff]
   simp
   try omega
  ·gi_wp2_with fail
   refine FIN.out (decide (n<=(yes:Int))) _ ?_ (fun w=>by simp [results,Tryz.results56,go_sem])
   unfold quantHolds
   rw [Bool.eq_iff_iff]
   simp
   try omega
  ·gi_wp2_with fail
   refine FIN.out (decide ((yes:Int)<=n)) _ ?_ (fun w=>by simp [results,Tryz.results56,go_sem])
   unfold quantHolds
   rw [Bool.eq_iff_iff]
   simp
   try omega
end Go.Proofs.YtjjkfgjnadaheaaGreatDoor
/- eval.holds: whole. -/
namespace Go.Chalk
open Go.RowKit
theorem cmpWalk_zero {a:List Bnd} {name:Bs} {t u:Trm} (h:cmpWalk a name t u=0):(sortF a t).2=0/\(sortF a u).2=0:=by
 unfold cmpWalk at h
 by_cases h1:(sortF a t).2=0
 ·by_cases h2:(sortF a u).2=0
  ·exact ⟨h1,h2⟩
  ·rw [if_neg (by simpa using h1),if_pos h2] at h;exact absurd h h2
 ·rw [if_pos h1] at h;exact absurd h h1
theorem atomWalk_zero {a:List Bnd} {kind:Int} {t u:Trm} (h:atomWalk a kind t u=0):(sortF a t).2=0/\(sortF a t).1=(asksF kind).1/\(sortF a u).2=0:=by
 unfold atomWalk at h
 by_cases h1:(sortF a t).2=0
 ·rw [if_neg (by simpa using h1)] at h
  by_cases h2:(sortF a t).1=(asksF kind).1
  ·rw [if_neg (by simpa using h2)] at h
   by_cases h3:(sortF a u).2=0
   ·exact ⟨h1,h2,h3⟩
   ·rw [if_pos h3] at h;exact absurd h h3
  ·rw [if_pos h2] at h;cases h
 ·rw [if_pos h1] at h;exact absurd h h1
theorem formed_atom_var {kind:Int} {name:Bs} {n:Int} {terms:List Trm} {binds:List Bnd} {l:List Frm} (h:formedF (.mk kind name n terms binds l)=true) (hk:3<=kind/\kind<=8):∀ x∈terms,x.kind=2:=by
 rw [formedF_mk,Bool.and_eq_true] at h
 have h2:=h.2
 rw [if_neg (by omega),if_pos (by unfold atomK;simp;omega),Bool.and_eq_true] at h2
 intro x hx
 have:=List.all_eq_true.1 h2.2 x hx
 simp only [Bool.and_eq_true,Bool.or_eq_true,decide_eq_true_eq] at this
 omega
theorem formed_binds {kind:Int} {name:Bs} {n:Int} {terms:List Trm} {binds:List Bnd} {l:List Frm} (h:formedF (.mk kind name n terms binds l)=true) (hk:14<=kind/\kind<=17):binds.all bndOk=true/\binds.length<=6:=by
 rw [formedF_mk,Bool.and_eq_true] at h
 have h2:=h.2
 rw [if_neg (by omega),if_neg (by unfold atomK;simp;omega),if_pos (by unfold quantK;simp;omega)] at h2
 simp only [Bool.and_eq_true,decide_eq_true_eq] at h2
 exact ⟨h2.1.2,h2.1.1.2⟩
theorem withF_length (env:List Ev) (binds:List Bnd) (t:List Nat):(withF env binds t).length<=env.length+binds.length:=by
 unfold withF;simp;omega
theorem week_len {s:Schl} {l:List Plc} (h:weekCheck s l=0):l.length=s.lessons.length:=by
 unfold weekCheck at h
 split at h
 ·rename_i h1;exact absurd h h1
 ·split at h
  ·cases h
  ·rename_i h2;exact Decidable.byContradiction (fun e=>h2 (.inl e))
end Go.Chalk
namespace Go.Proofs.YtjjkfgjnadaheaaGreatDoor
open Go.RowKit Go.Chalk
theorem holds_any (s:Schl) (x:SchA) (l:List Plc) (y:SlA) (hI:ItoaAt) (hf:SchFit s) (hgs:∀ q∈s.groups,0<=q.size/\q.size<=1000) (hsl:∀ q∈s.slots,0<=q.day/\q.day<=6/\0<=q.hour/\q.hour<=11) :
  ∀ (N:Nat) (f:Frm) (fa:FrmA) (env:List Ev) (z:SlA) (w:World),f.size<=N->HoldsOk s l env f->env.length+6*f.depth<=1900000->GG w->SchIn w (·<w.heap.size) s x->SlIn w (·<w.heap.size) (l.map Plc.toD) y->SlIn w (·<w.heap.size) (env.map Ev.toD) z->FrmIn w (·<w.heap.size) f fa ->
   Calls Tryz.prog 56 #[stV s x l y,.slice z.a env.length z.cap,ndV (f,fa)] w fun e w'=>e=.returned (.bool (holdsF s l env f))/\Below w.heap.size w w'
 | 0,f,_,_,_,_,hN,_,_,_,_,_,_,_=>by cases f;rw [Frm.size] at hN;omega
 | N+1,.mk kind name n terms binds fl,fa,env,z,w,hN,ho,hd,hg,hs,hy,hz,hx=>by
  rw [Frm.size] at hN
  rw [Frm.depth] at hd
  have hfm:formedF (.mk kind name n terms binds fl)=true:=by
   have h1:=ho.formed
   rw [nodesF,List.all_cons,Bool.and_eq_true] at h1
   exact h1.1
  obtain ⟨har,hat,hab⟩:=formed_len hfm
  have hk1:1<=kind/\kind<=17:=by
   unfold arityF at har
   split at har
   ·cases har
   ·omega
  by_cases hka:3<=kind/\kind<=9
  ·obtain ⟨t,u,rfl,htk⟩:=formed_atom2 hfm (by unfold atomK;simp;omega)
   have hw:=ho.walk
   rw [walkF_two] at hw
   by_cases h9:kind=9
   ·subst h9
    rw [if_pos rfl] at hw
    obtain ⟨w1,w2⟩:=cmpWalk_zero hw
    obtain ⟨hc,_⟩:=formed_cmp hfm
    refine holds_cmp s x l y env z name n t u binds fl fa w hg hx.terms hc (fun c hc W hW=>?_)
    have hcs:(sortF (evBinds env) c).2=0:=by
     simp only [List.mem_cons,List.not_mem_nil,or_false] at hc
     rcases hc with rfl | rfl
     ·exact w1
     ·exact w2
    have hck:=htk c hc
    refine value_any s x l y env z c W (hs.later hW hW.size) hf hgs hsl (hz.later hW hW.size) (by omega) hck (fun h1=>(term_found ho.may h1 hcs).1) ⟨fun h=>?_,fun h=>?_⟩
    ·obtain ⟨_,p1,p2,p3,p4⟩:=term_found ho.may (by omega) hcs
     refine ⟨p1,?_⟩
     have hsrt:(evOf env c.name).sort=2:=by
      rcases h with h | h | ⟨_,h⟩
      ·rw [<- p4 (by omega),h];rfl
      ·rw [<- p4 (by omega),h];rfl
      ·exact h
     rw [hsrt,schCount_eq] at p2
     simpa using p2
    ·obtain ⟨_,p1,p2,p3,p4⟩:=term_found ho.may (by omega) hcs
     refine ⟨p1,?_⟩
     have hsrt:(evOf env c.name).sort=3:=by
      rcases h with h | h
      ·rw [<- p4 (by omega),h];rfl
      ·rw [<- p4 (by omega),h];rfl
     rw [hsrt,schCount_eq] at p2
     simpa using p2
   ·have hk8:3<=kind/\kind<=8:=by omega
    rw [if_neg h9] at hw
    obtain ⟨w1,w2,w3⟩:=atomWalk_zero hw
    have hv2:=formed_atom_var hfm hk8
    have ht2:=hv2 t (by simp)
    have hu2:=hv2 u (by simp)
    obtain ⟨t1,t2,t3,t4,_⟩:=term_found ho.may (by omega:t.kind ≠ 1) w1
    obtain ⟨u1,_⟩:=term_found ho.may (by omega:u.kind ≠ 1) w3
    refine holds_atom s x l y env z kind name n t u binds fl fa w hk8 hg hx.terms hs hf hy (fun h=>⟨t2,?_⟩) (fun c hc W hW=>?_)
    ·have hsrt:(evOf env t.name).sort=1:=by
      rw [<- t4 ht2,w2]
      rcases h with rfl | rfl <;> rfl
     rw [hsrt,schCount_eq] at t3
     rw [week_len ho.week]
     simpa using t3
    ·refine element_any env z c W (hz.later hW hW.size) (by omega) ?_
     simp only [List.mem_cons,List.not_mem_nil,or_false] at hc
     rcases hc with rfl | rfl
     ·exact t1
     ·exact u1
  ·have hnk:atomK kind=false:=by unfold atomK;simp;omega
   obtain ⟨rfl,_⟩:=formed_plain hfm hnk
   by_cases h2:kind<=2
   ·exact holds_const s x l y env z kind name n binds fl fa w (by omega)
   ·by_cases h13:kind<=13
    ·have hb0:binds=[]:=hab.resolve_right (by unfold quantK;simp;omega)
     subst hb0
     refine holds_conn s x l y env z kind name n fl fa w (by omega) hfm hx (fun j hj y1 W hW hy1=>?_)
     have hmem:fl[j]∈fl:=List.getElem_mem hj
     have hm:=fsizes_mem fl fl[j] hmem
     exact holds_any s x l y hI hf hgs hsl N fl[j] y1 env z W (by omega) (ho.kid hmem) (by omega) (hg.below hW) (hs.later hW hW.size) (hy.later hW hW.size) (hz.later hW hW.size) (hy1.later hW hW.size)
    ·obtain ⟨g,rfl⟩:∃ g,fl=[g]:=by
      have h1:fl.length=1:=by
       unfold arityF at har
       rw [if_neg (by omega),if_neg (by omega),if_neg (by omega),if_neg (by omega)] at har
       simpa using har.symm
      exact List.length_eq_one_iff.1 h1
     obtain ⟨hbk,hb6⟩:=formed_binds hfm (by omega)
     obtain ⟨hmn,hin⟩:=ho.inst hbk
     have hm:=fsizes_mem [g] g (by simp)
     refine holds_quant s x l y env z kind name n binds g fa w (by omega) hg hI hs hf.toSchSmall hx hz (by omega) (by rw [manyF_tuples hmn];exact hmn) (fun t ht y1 z1 W hW hy1 hz1=>?_)
     have hwl:=withF_length env binds t
     exact holds_any s x l y hI hf hgs hsl N g y1 (withF env binds t) z1 W (by omega) (hin t ht) (by omega) (hg.below hW) (hs.later hW hW.size) (hy.later hW hW.size) hz1 (hy1.later hW hW.size)
end Go.Proofs.YtjjkfgjnadaheaaGreatDoor
/- eval.Holds. -/
namespace Go.Chalk
open Go.RowKit
theorem goTimes_all:∀ (l:List Slt) (met:List (Int×Int)),goTimes met l=true->∀ q∈l,0<=q.day/\q.day<=6/\0<=q.hour/\q.hour<=11
 | x :: r,met,h,q,hq=>by
  rw [goTimes] at h
  simp only [Bool.and_eq_true,withinB,decide_eq_true_eq] at h
  rcases List.mem_cons.1 hq with rfl | hq
  ·omega
  ·exact goTimes_all r _ h.2 q hq
theorem school_valid {s:Schl} (h:schCheck s=0):(∀ q∈s.groups,0<=q.size/\q.size<=1000)/\(∀ q∈s.slots,0<=q.day/\q.day<=6/\0<=q.hour/\q.hour<=11):=by
 unfold schCheck at h
 split at h
 ·cases h
 split at h
 ·cases h
 rename_i h2
 split at h
 ·cases h
 split at h
 ·cases h
 rename_i h4
 simp only [Bool.or_eq_true,not_or,List.any_eq_true,not_exists,not_and] at h4
 refine ⟨fun q hq=>?_,goTimes_all s.slots [] (by simpa using h2)⟩
 have:=h4.1.2 q hq
 unfold badGroup withinB at this
 simp at this
 exact this
theorem holds_ok {s:Schl} {l:List Plc} {env:List Ev} {f:Frm} (h1:weekCheck s l=0) (h2:evMay s env=true) (h3:typForm (evBinds env) f=0) (h4:broadF s f<=1048576):HoldsOk s l env f:=by
 unfold typForm at h3
 rw [if_neg (by rw [evMay_mayA h2];simp)] at h3
 by_cases hc:frmCheck f=0
 ·rw [if_neg (by simpa using hc)] at h3
  obtain ⟨c1,c2,c3⟩:=frmCheck_zero.1 hc
  exact ⟨h1,h2,c1,c2,c3,h3,h4⟩
 ·rw [if_pos hc] at h3;exact absurd h3 hc
end Go.Chalk
namespace Go.Proofs.YtjjkfgjnadaheaaGreatDoor
open Go.RowKit Go.Chalk
theorem eholds_any (s:Schl) (x:SchA) (l:List Plc) (y:SlA) (env:List Ev) (z:SlA) (f:Frm) (fa:FrmA) (w:World) (hI:ItoaAt) (hf:SchFit s) (hff:FrmFit f) (hg:GG w) (hs:SchIn w (·<w.heap.size) s x) (hy:SlIn w (·<w.heap.size) (l.map Plc.toD) y) (hl:l.length<=2000000)
  (hz:SlIn w (·<w.heap.size) (env.map Ev.toD) z) (hel:env.length<=1500000) (hmax:∀ e∈env,e.name.length<=4000000) (hx:FrmIn w (·<w.heap.size) f fa) :
  Calls Tryz.prog 20 #[.agg (x.cells s).toArray,.agg #[.slice y.a l.length y.cap],.slice z.a env.length z.cap,ndV (f,fa)] w fun e w'=>e=.returned (.tuple #[.bool (evHolds s l env f).1,.int .i64 (evHolds s l env f).2])/\Below w.heap.size w w':=by
 have HWC:=Lh (fun (W:World) (hW:Below w.heap.size w W)=>wcheck_any s x l y W hI (hs.later hW hW.size) hf (hy.later hW hW.size) hl (hg.below hW))
 have HMY:=Lh (fun (W:World) (hW:Below w.heap.size w W)=>emay_any s x env z W hI hf.toSchSmall (hs.later hW hW.size) (hz.later hW hW.size) hel hmax (hg.below hW))
 have HBN:Hid (∀ W,Below w.heap.size w W->Calls Tryz.prog 54 #[.slice z.a env.length z.cap] W fun e w'=>∃ x0:SlA,e=.returned (.slice x0.a env.length x0.cap)/\SlIn w' (·<w'.heap.size) ((evBinds env).map Bnd.toD) x0/\Below W.heap.size W w') :=
  Lh (fun W hW=>(ebinds_any env z W (hz.later hW hW.size) (by omega)).mono (by
   rintro e w' ⟨v,rfl,hon,hb⟩
   obtain ⟨x0,rfl,hx0⟩:=hon.sl (by rw [widths_map Bnd.flatT,List.length_map])
   exact ⟨x0,by rw [List.length_map];unfold evBinds;rw [List.length_map],hx0,hb⟩))
 have hbl:(evBinds env).length=env.length:=by simp [evBinds]
 have HTF:Hid (∀ (W:World) (x0:SlA),Below w.heap.size w W->SlIn W (·<W.heap.size) ((evBinds env).map Bnd.toD) x0->Calls Tryz.prog 53 #[.slice x0.a env.length x0.cap,ndV (f,fa)] W fun e w'=>e=.returned (.int .i64 (typForm (evBinds env) f))/\Below W.heap.size W w') :=
  Lh (fun W x0 hW h0=>by
   have h:=tform_any (evBinds env) x0 f fa W h0 (hx.later hW hW.size) (by omega) (fun b hb=>by
    unfold evBinds at hb
    obtain ⟨e,he,rfl⟩:=List.mem_map.1 hb
    exact hmax e he) hff (hg.below hW)
   rwa [hbl] at h)
 have HBR:=Lh (fun (W:World) (hW:Below w.heap.size w W)=>broad_any s x hI hf.toSchSmall f.size f fa W (Nat.le_refl _) hff.size (fun g hg=>(hff.nodes g hg).2.1) (hs.later hW hW.size) (hx.later hW hW.size))
 have HHO:=Lh (fun (h1:weekCheck s l=0) (h2:evMay s env=true) (h3:typForm (evBinds env) f=0) (h4:broadF s f<=1048576) (W:World) (hW:Below w.heap.size w W) =>
  holds_any s x l y hI hf (school_valid (week_school h1)).1 (school_valid (week_school h1)).2 f.size f fa env z W (Nat.le_refl _) (holds_ok h1 h2 h3 h4) (by have:=(holds_ok h1 h2 h3 h4).depth;omega) (hg.below hW) (hs.later hW hW.size) (hy.later hW hW.size) (hz.later hW hW.size) (hx.later hW hW.size))
 have HR:Hid (evHolds s l env f=if weekCheck s l ≠ 0 then (false,weekCheck s l) else if evMay s env=false then (false,1) else if typForm (evBinds env) f ≠ 0 then (false,typForm (evBinds env) f) else if 1048576<broadF s f then (false,2) else (holdsF s l env f,0)):=Lh rfl
 clear hbl hx hz hy hs hg hff hf hI hl hel hmax
 generalize evHolds s l env f=res at HR ⊢
 generalize weekCheck s l=wc at HWC HHO HR
 generalize evMay s env=my at HMY HHO HR
 generalize typForm (evBinds env) f=tf at HTF HHO HR
 generalize broadF s f=bf at HBR HHO HR
 generalize holdsF s l env f=hv at HHO HR
 generalize hE:evBinds env=eb at HBN HTF
 clear hE
 obtain ⟨kind,name,n,terms,binds,fl⟩:=f
 unfold stV at HHO
 simp only [ndV,FrmA.cells,SlA.val,SchA.cells,Frm.kind,Frm.name,Frm.n,Frm.terms,Frm.binds,Frm.l] at HWC HMY HTF HBR HHO ⊢
 have HB:Hid (Below w.heap.size w (((w.alloc (.cells #[.slice x.slots.a s.slots.length x.slots.cap,.slice x.rooms.a s.rooms.length x.rooms.cap,.slice x.people.a s.people.length x.people.cap,.slice x.groups.a s.groups.length x.groups.cap,.slice x.lessons.a s.lessons.length x.lessons.cap] 28)).alloc (.cells #[.slice y.a l.length y.cap] 50)).alloc (.cells #[.int .i64 kind,.string ⟨name.toArray⟩,.int .i64 n,.slice fa.t.a terms.length fa.t.cap,.slice fa.b.a binds.length fa.b.cap,.slice fa.l.a fl.length fa.l.cap] 34))):=Lh ((((Below.refl _ _).alloc (Nat.le_refl _) _).alloc (by simp) _).alloc (by simp;omega) _)
 have HK:Hid (∀ W',Below (((w.alloc (.cells #[.slice x.slots.a s.slots.length x.slots.cap,.slice x.rooms.a s.rooms.length x.rooms.cap,.slice x.people.a s.people.length x.people.cap,.slice x.groups.a s.groups.length x.groups.cap,.slice x.lessons.a s.lessons.length x.lessons.cap] 28)).alloc (.cells #[.slice y.a l.length y.cap] 50)).alloc (.cells #[.int .i64 kind,.string ⟨name.toArray⟩,.int .i64 n,.slice fa.t.a terms.length fa.t.cap,.slice fa.b.a binds.length fa.b.cap,.slice fa.l.a fl.length fa.l.cap] 34)).heap.size (((w.alloc (.cells #[.slice x.slots.a s.slots.length x.slots.cap,.slice x.rooms.a s.rooms.length x.rooms.cap,.slice x.people.a s.people.length x.people.cap,.slice x.groups.a s.groups.length x.groups.cap,.slice x.lessons.a s.lessons.length x.lessons.cap] 28)).alloc (.cells #[.slice y.a l.length y.cap] 50)).alloc (.cells #[.int .i64 kind,.string ⟨name.toArray⟩,.int .i64 n,.slice fa.t.a terms.length fa.t.cap,.slice fa.b.a binds.length fa.b.cap,.slice fa.l.a fl.length fa.l.cap] 34)) W'->(W'.cell? ⟨w.heap.size,0,none⟩=some (.slice x.slots.a s.slots.length x.slots.cap)/\W'.cell? ⟨w.heap.size,1,none⟩=some (.slice x.rooms.a s.rooms.length x.rooms.cap)/\W'.cell? ⟨w.heap.size,2,none⟩=some (.slice x.people.a s.people.length x.people.cap)/\W'.cell? ⟨w.heap.size,3,none⟩=some (.slice x.groups.a s.groups.length x.groups.cap)/\W'.cell? ⟨w.heap.size,4,none⟩=some (.slice x.lessons.a s.lessons.length x.lessons.cap)/\W'.cell? ⟨w.heap.size+1,0,none⟩=some (.slice y.a l.length y.cap))/\(W'.cell? ⟨w.heap.size+1+1,0,none⟩=some (.int .i64 kind)/\W'.cell? ⟨w.heap.size+1+1,1,none⟩=some (.string ⟨name.toArray⟩)/\W'.cell? ⟨w.heap.size+1+1,2,none⟩=some (.int .i64 n)/\W'.cell? ⟨w.heap.size+1+1,3,none⟩=some (.slice fa.t.a terms.length fa.t.cap)/\W'.cell? ⟨w.heap.size+1+1,4,none⟩=some (.slice fa.b.a binds.length fa.b.cap)/\W'.cell? ⟨w.heap.size+1+1,5,none⟩=some (.slice fa.l.a fl.length fa.l.cap))):=Lh (fun W' hW=>by
  have g0:(((w.alloc (.cells #[.slice x.slots.a s.slots.length x.slots.cap,.slice x.rooms.a s.rooms.length x.rooms.cap,.slice x.people.a s.people.length x.people.cap,.slice x.groups.a s.groups.length x.groups.cap,.slice x.lessons.a s.lessons.length x.lessons.cap] 28)).alloc (.cells #[.slice y.a l.length y.cap] 50)).alloc (.cells #[.int .i64 kind,.string ⟨name.toArray⟩,.int .i64 n,.slice fa.t.a terms.length fa.t.cap,.slice fa.b.a binds.length fa.b.cap,.slice fa.l.a fl.length fa.l.cap] 34)).heap[w.heap.size]?=some (.cells #[.slice x.slots.a s.slots.length x.slots.cap,.slice x.rooms.a s.rooms.length x.rooms.cap,.slice x.people.a s.people.length x.people.cap,.slice x.groups.a s.groups.length x.groups.cap,.slice x.lessons.a s.lessons.length x.lessons.cap] 28 (0,0)):=by simp only [heap_get,World.size_alloc];rw [if_neg (by omega),if_neg (by omega),if_pos trivial]
  have g1:(((w.alloc (.cells #[.slice x.slots.a s.slots.length x.slots.cap,.slice x.rooms.a s.rooms.length x.rooms.cap,.slice x.people.a s.people.length x.people.cap,.slice x.groups.a s.groups.length x.groups.cap,.slice x.lessons.a s.lessons.length x.lessons.cap] 28)).alloc (.cells #[.slice y.a l.length y.cap] 50)).alloc (.cells #[.int .i64 kind,.string ⟨name.toArray⟩,.int .i64 n,.slice fa.t.a terms.length fa.t.cap,.slice fa.b.a binds.length fa.b.cap,.slice fa.l.a fl.length fa.l.cap] 34)).heap[w.heap.size+1]?=some (.cells #[.slice y.a l.length y.cap] 50 (0,0)):=by simp only [heap_get,World.size_alloc];rw [if_neg (by omega),if_pos trivial]
  have g2:(((w.alloc (.cells #[.slice x.slots.a s.slots.length x.slots.cap,.slice x.rooms.a s.rooms.length x.rooms.cap,.slice x.people.a s.people.length x.people.cap,.slice x.groups.a s.groups.length x.groups.cap,.slice x.lessons.a s.lessons.length x.lessons.cap] 28)).alloc (.cells #[.slice y.a l.length y.cap] 50)).alloc (.cells #[.int .i64 kind,.string ⟨name.toArray⟩,.int .i64 n,.slice fa.t.a terms.length fa.t.cap,.slice fa.b.a binds.length fa.b.cap,.slice fa.l.a fl.length fa.l.cap] 34)).heap[w.heap.size+1+1]?=some (.cells #[.int .i64 kind,.string ⟨name.toArray⟩,.int .i64 n,.slice fa.t.a terms.length fa.t.cap,.slice fa.b.a binds.length fa.b.cap,.slice fa.l.a fl.length fa.l.cap] 34 (0,0)):=by simp only [heap_get,World.size_alloc];rw [if_pos trivial]
  have c0:=(hW.block _ (gS g0).1).trans g0
  have c1:=(hW.block _ (gS g1).1).trans g1
  have c2:=(hW.block _ (gS g2).1).trans g2
  exact ⟨⟨cH c0 rfl,cH c0 rfl,cH c0 rfl,cH c0 rfl,cH c0 rfl,cH c1 rfl⟩,cH c2 rfl,cH c2 rfl,cH c2 rfl,cH c2 rfl,cH c2 rfl,cH c2 rfl⟩)
 go_enter Tryz.func20,Tryz.ntmps20
 go_wp2_with fail
 refine (HWC.out _ HB.out).mono ?_
 rintro e w1 ⟨rfl,hb1⟩
 have HC1:=Lh (aI hb1 (HB.out.trans (hb1.mono HB.out.size)))
 clear hb1
 by_cases h1:wc ≠ 0
 ·have d1:(wc != 0)=true:=by simpa using h1
  have HD:=Lh h1
  clear h1
  go_wp2_with fail
  go_ret2
  exact ⟨by rw [HR.out];simp [HD.out],HC1.out.2⟩
 obtain rfl:wc=0:=by omega
 clear h1
 obtain ⟨⟨a0,a1,a2,a3,a4,a5⟩,_⟩:=HK.out w1 HC1.out.1
 go_wp2_with fail
 refine (HMY.out _ HC1.out.2).mono ?_
 rintro e w2 ⟨rfl,hb2⟩
 have HC2:=Lh (aI (HC1.out.1.trans (hb2.mono HC1.out.1.size)) (HC1.out.2.trans (hb2.mono HC1.out.2.size)))
 clear hb2 a0 a1 a2 a3 a4 a5
 cases my
 ·go_wp2_with fail
  go_ret2
  exact ⟨by rw [HR.out];simp,HC2.out.2⟩
 go_wp2_with fail
 go_region_held3 (fun w'=>w'.cell? ⟨w.heap.size+1+1,0,none⟩=some (.int .i64 kind)/\w'.cell? ⟨w.heap.size+1+1,1,none⟩=some (.string ⟨name.toArray⟩)/\w'.cell? ⟨w.heap.size+1+1,2,none⟩=some (.int .i64 n)/\w'.cell? ⟨w.heap.size+1+1,3,none⟩=some (.slice fa.t.a terms.length fa.t.cap)/\w'.cell? ⟨w.heap.size+1+1,4,none⟩=some (.slice fa.b.a binds.length fa.b.cap)/\w'.cell? ⟨w.heap.size+1+1,5,none⟩=some (.slice fa.l.a fl.length fa.l.cap)) ((refine (HK.out _ ?_).2;first | exact HC4.out.1 | exact HC3.out.1 | exact HC2.out.1.drew | fail)) (first
  | (go_at_call 53;refine (HTF.out _ x0 HC3.out.2.1 HC3.out.2.2).mono ?_;rintro e w4 ⟨rfl,hbb⟩;have HC4:=Lh (aI (HC3.out.1.trans (hbb.mono HC3.out.1.size)) (HC3.out.2.1.trans (hbb.mono HC3.out.2.1.size)));clear hbb)
  | (go_at_call 54;refine (HBN.out _ HC2.out.2.drew).mono ?_;rintro e w3 ⟨x0,rfl,hx0,hbb⟩;have HC3:=Lh (aI (HC2.out.1.drew.trans (hbb.mono HC2.out.1.drew.size)) (aI (HC2.out.2.drew.trans (hbb.mono HC2.out.2.drew.size)) hx0));clear hbb hx0))
 all_goals
  by_cases h1:tf ≠ 0
  ·have d1:(tf != 0)=true:=by simpa using h1
   have HD:=Lh h1
   clear h1
   go_wp2_with fail
   go_ret2
   exact ⟨by rw [HR.out];simp [HD.out],HC4.out.2⟩
  obtain rfl:tf=0:=by omega
  clear h1
  obtain ⟨⟨a0,a1,a2,a3,a4,a5⟩,b0,b1,b2,b3,b4,b5⟩:=HK.out w4 HC4.out.1
  go_wp2_with fail
  refine (HBR.out _ HC4.out.2).mono ?_
  rintro e w5 ⟨rfl,hb5⟩
  have HC5:=Lh (aI (HC4.out.1.trans (hb5.mono HC4.out.1.size)) (HC4.out.2.trans (hb5.mono HC4.out.2.size)))
  clear hb5 a0 a1 a2 a3 a4 a5 b0 b1 b2 b3 b4 b5
  by_cases h1:(1048576:Int)<(bf:Int)
  ·have HD:=Lh (by omega:1048576<bf)
   go_wp2_with fail
   go_ret2
   exact ⟨by rw [HR.out];simp [HD.out],HC5.out.2⟩
  have h1':decide ((1048576:Int)<(bf:Int))=false:=by simpa using h1
  have HD:=Lh (by omega:¬ 1048576<bf)
  have HHW:=Lh (HHO.out (by first | rfl | trivial) (by first | rfl | trivial) (by first | rfl | trivial) (by omega) w5 HC5.out.2)
  clear h1
  obtain ⟨⟨a0,a1,a2,a3,a4,a5⟩,b0,b1,b2,b3,b4,b5⟩:=HK.out w5 HC5.out.1
  go_wp2_with fail
  refine HHW.out.mono ?_
  rintro e w6 ⟨rfl,hb6⟩
  have HC6:=Lh (HC5.out.2.trans (hb6.mono HC5.out.2.size))
  clear hb6
  go_wp2_with fail
  go_ret2
  exact ⟨by rw [HR.out];simp [HD.out],HC6.out⟩
end Go.Proofs.YtjjkfgjnadaheaaGreatDoor
/- ground's maker.tree: a quantifier. (written by tools/gen_gtree.py) -/
namespace Go.Chalk
open Go.RowKit
theorem Tr.size_mk (kind v k:Int) (ts:List Tr):(Tr.mk kind v k ts).size=1+sizes ts:=by rw [Tr.size]
theorem sizes_one (t:Tr):sizes [t]=t.size:=by simp [sizes]
theorem DsAt.oneT {w:World} {F:Nat->Prop} {x:D} {cs:List Value} (h:DAt w F x cs):DsAt w F [x] cs:=by rw [DsAt];exact ⟨cs,[],(List.append_nil _).symm,h,by rw [DsAt]⟩
theorem put4_heap {W:World} {H:Nat} {z0 z1 z2 z3:Value} {T:TypeId} (h:W.heap[H]?=some (.cells #[z0,z1,z2,z3] T (0,0))) (c0 c1 c2 c3:Value):(put4 W H 0 c0 c1 c2 c3).heap[H]?=some (.cells #[c0,c1,c2,c3] T (0,0)) :=
 box_store (i:=3) c3 (box_store (i:=2) c2 (box_store (i:=1) c1 (box_store (i:=0) c0 h)))
end Go.Chalk
namespace Go.Proofs.YtjjkfgjnadaheaaGreatDoor
open Go.RowKit Go.Chalk
attribute [local go_sem] Oper.semAt_some
theorem gall_any (n:Int) (name:Bs) (terms:List Trm) (binds:List Bnd) (l:List Frm) (fa:FrmA) (env:List Ev) (z:SlA) (s:Schl) (x:SchA) (w:World) (mb left:Nat) (ts:List Tr) (hn:0<=n/\n<=1099511627776) (hm:MkB w mb s x left) (hl:left<=65536)
  (hE:∀ W,Below w.heap.size w W->Calls Tryz.prog 80 #[.pointer (some ⟨mb,0,none⟩),.slice z.a env.length z.cap,ndV (.mk 14 name n terms binds l,fa)] W (EachP s x mb left W ts)) :
  Calls Tryz.prog 38 #[.pointer (some ⟨mb,0,none⟩),.slice z.a env.length z.cap,ndV (.mk 14 name n terms binds l,fa)] w (TreeP s x mb left w (.mk 4 0 0 ts)):=by
 have hmlt:=hm.lt
 obtain ⟨W0,hW0⟩:∃ W0,W0=(w.alloc (.cells (fa.cells (.mk 14 name n terms binds l)).toArray 34)).alloc (.cells #[.int .i64 0,.int .i64 0,.int .i64 0,.slice none 0 0] 39):=⟨_,rfl⟩
 have hb0:Below w.heap.size w W0:=by rw [hW0];exact ((Below.refl _ _).alloc (Nat.le_refl _) _).alloc (by simp) _
 have hz0:W0.heap.size=w.heap.size+2:=by rw [hW0];simp
 have hq0:FrmBox W0 w.heap.size (.mk 14 name n terms binds l) fa:=by rw [hW0];unfold FrmBox;rw [heap_get,if_neg (by simp),heap_get,if_pos rfl]
 have hq1:W0.heap[w.heap.size+1]?=some (.cells #[.int .i64 0,.int .i64 0,.int .i64 0,.slice none 0 0] 39 (0,0)):=by rw [hW0,heap_get,if_pos (by simp)]
 have HE:=Lh (hE W0 hb0)
 have HB:=Lh (aI hb0 (aI hq0 (aI hq1 hz0)))
 have HW0:=Lh hW0
 have HN:=Lh hn
 have HM:=Lh (aI hm hl)
 obtain ⟨c0,c1,c2,c3,c4,c5⟩:=hq0.cells
 clear hb0 hq0 hq1 hW0 hE hn hm hl hz0
 simp only [ndV,FrmA.cells,SlA.val,Frm.kind,Frm.name,Frm.n,Frm.terms,Frm.binds,Frm.l] at HE HW0 c0 c1 c2 c3 c4 c5 ⊢
 go_enter Tryz.func38,Tryz.ntmps38
 go_wp2_with fail
 rw [<- HW0.out]
 go_wp2_with fail
 refine HE.out.mono ?_
 rintro e w1 ⟨hm1,⟨hle,⟨u,rfl,hu⟩,hmk⟩ | ⟨hlt,rfl,l',hmk⟩⟩
 rotate_left
 ·refine ⟨rfl,(Chalk.Mod.of_below (S:=fun k=>k=mb) HB.out.1).trans hm1 (fun _ _ h=>h),.inr ⟨?_,rfl,l',hmk⟩⟩
  simp only [Tr.size_mk,sizes_one];omega
 clear c0 c1 c2 c3 c4 c5
 have hmw:=hm1.size
 have q0:FrmBox w1 w.heap.size (.mk 14 name n terms binds l) fa:=heap_kept HB.out.2.1 hm1 (by omega)
 have q1:=heap_kept HB.out.2.2.1 hm1 (by omega)
 obtain ⟨c0,_,c2,_,_,_⟩:=q0.cells
 simp only [Frm.kind,Frm.n] at c0 c2
 have hlw:w.heap.size+1<w1.heap.size:=(gS q1).1
 obtain ⟨l1,hl1⟩:∃ l1,left - sizes ts=l1:=⟨_,rfl⟩
 have hmk1:MkB w1 mb s x (l1:Nat):=by rw [show ((l1:Nat):Int)=(left:Int) - sizes ts by omega];exact hmk
 have HFN:Hid (∀ W',Chalk.Mod (fun k=>k=mb∨k=w.heap.size+1∨w1.heap.size<=k) w1 W'->Chalk.Mod (fun k=>k=mb) w W'/\SlIn W' (fun k=>w.heap.size<=k/\k<W'.heap.size) (ts.map Tr.toD) u):=Lh (fun W' h=>by
  have hz:=h.size
  have hz0:=HB.out.2.2.2
  refine ⟨((Chalk.Mod.of_below (S:=fun k=>k=mb) HB.out.1).trans hm1 (fun _ _ h=>h)).trans h (fun k hk h=>?_),(hu.agree (h.agree (fun k hk=>⟨hk.2,?_⟩))).mono (fun k hk=>⟨by have:=hk.1;omega,by have:=hk.2;omega⟩)⟩
  ·rcases h with h | h | h
   ·exact h
   ·omega
   ·omega
  ·rintro (h | h | h)
   ·have:=hk.1;omega
   ·have:=hk.1;omega
   ·have:=hk.2;omega)
 have HL1:=Lh (aI hle hl1)
 have HQ1:=Lh (aI q0 q1)
 have HMW:=Lh hmw
 clear hm1 hle hu hmk q0 q1 hl1 hmw
 go_wp2_with fail
 refine (part_any 4 u.a ts.length u.cap s x l1 mb w1 hmk1 (by have:=HM.out.2;have:=HL1.out.2;omega)).mono ?_
 rintro e w2 ⟨hm2,⟨hp,rfl,hmk2⟩ | ⟨hp,rfl,hmk2⟩⟩
 rotate_left
 ·refine ⟨rfl,(HFN.out _ (hm2.mono (fun _ h=>.inl h))).1,.inr ⟨?_,rfl,_,hmk2⟩⟩
  simp only [Tr.size_mk,sizes_one];have:=HL1.out;omega
 have q2:=heap_kept HQ1.out.2 hm2 (by omega)
 have hlw2:w.heap.size+1<w2.heap.size:=(gS q2).1
 have x0:w2.cell? ⟨w.heap.size+1,0,none⟩=some (.int .i64 0):=cH q2 rfl
 have f0:w2.frozen? ⟨w.heap.size+1,0,none⟩=false:=fH q2
 have x1:w2.cell? ⟨w.heap.size+1,1,none⟩=some (.int .i64 0):=cH q2 rfl
 have f1:w2.frozen? ⟨w.heap.size+1,1,none⟩=false:=fH q2
 have x2:w2.cell? ⟨w.heap.size+1,2,none⟩=some (.int .i64 0):=cH q2 rfl
 have f2:w2.frozen? ⟨w.heap.size+1,2,none⟩=false:=fH q2
 have x3:w2.cell? ⟨w.heap.size+1,3,none⟩=some (.slice none 0 0):=cH q2 rfl
 have f3:w2.frozen? ⟨w.heap.size+1,3,none⟩=false:=fH q2
 have HP:=Lh (aI hm2 (aI hp hmk2))
 have HQ2:=Lh q2
 clear hm2 hp hmk2 q2 hmk1
 go_wp2_with fail
 have hq3:=put4_heap HQ2.out (.int .i64 4) (.int .i64 0) (.int .i64 0) (.slice u.a ts.length u.cap)
 have hm3:=put4_mod w2 (w.heap.size+1) 0 (.int .i64 4) (.int .i64 0) (.int .i64 0) (.slice u.a ts.length u.cap)
 unfold put4 at hq3 hm3
 simp only [Nat.zero_add] at hq3 hm3
 generalize (((w2.setCell _ _).setCell _ _).setCell _ _).setCell _ _=W3 at hq3 hm3 ⊢
 have HY:=Lh (aI hq3 hm3)
 have y0:W3.cell? ⟨w.heap.size+1,0,none⟩=some (.int .i64 4):=cH hq3 rfl
 have y1:W3.cell? ⟨w.heap.size+1,1,none⟩=some (.int .i64 0):=cH hq3 rfl
 have y2:W3.cell? ⟨w.heap.size+1,2,none⟩=some (.int .i64 0):=cH hq3 rfl
 have y3:W3.cell? ⟨w.heap.size+1,3,none⟩=some (.slice u.a ts.length u.cap):=cH hq3 rfl
 clear hq3 hm3
 refine bodyPost_ret (v:=.agg #[.int .i64 4,.int .i64 0,.int .i64 0,.slice u.a ts.length u.cap]) (by simp [results,Tryz.results38,go_sem,y0,y1,y2,y3]) rfl ?_
 obtain ⟨g1,g2⟩:=HFN.out W3 ((HP.out.1.mono (fun _ h=>.inl h)).trans HY.out.2 (fun _ _ h=>.inr (.inl h)))
 have hsz:(Tr.mk 4 0 0 ts).size=1+sizes ts:=Tr.size_mk _ _ _ _
 have hq:=HL1.out
 have hp:=HP.out.2.1
 refine ⟨g1,.inl ⟨by omega,⟨_,rfl,Tr.close (i64_small (by decide) (by decide)) (i64_small (by decide) (by decide)) (i64_small (by decide) (by decide)) g2⟩,?_⟩⟩
 rw [hsz,show ((left:Int) - ((1+sizes ts:Nat):Int))=(l1:Int) - 1 by push_cast;omega]
 exact HP.out.2.2.kept HY.out.2 (by omega)

theorem gsome_any (n:Int) (name:Bs) (terms:List Trm) (binds:List Bnd) (l:List Frm) (fa:FrmA) (env:List Ev) (z:SlA) (s:Schl) (x:SchA) (w:World) (mb left:Nat) (ts:List Tr) (hn:0<=n/\n<=1099511627776) (hm:MkB w mb s x left) (hl:left<=65536)
  (hE:∀ W,Below w.heap.size w W->Calls Tryz.prog 80 #[.pointer (some ⟨mb,0,none⟩),.slice z.a env.length z.cap,ndV (.mk 15 name n terms binds l,fa)] W (EachP s x mb left W ts)) :
  Calls Tryz.prog 38 #[.pointer (some ⟨mb,0,none⟩),.slice z.a env.length z.cap,ndV (.mk 15 name n terms binds l,fa)] w (TreeP s x mb left w (.mk 5 0 0 ts)):=by
 have hmlt:=hm.lt
 obtain ⟨W0,hW0⟩:∃ W0,W0=(w.alloc (.cells (fa.cells (.mk 15 name n terms binds l)).toArray 34)).alloc (.cells #[.int .i64 0,.int .i64 0,.int .i64 0,.slice none 0 0] 39):=⟨_,rfl⟩
 have hb0:Below w.heap.size w W0:=by rw [hW0];exact ((Below.refl _ _).alloc (Nat.le_refl _) _).alloc (by simp) _
 have hz0:W0.heap.size=w.heap.size+2:=by rw [hW0];simp
 have hq0:FrmBox W0 w.heap.size (.mk 15 name n terms binds l) fa:=by rw [hW0];unfold FrmBox;rw [heap_get,if_neg (by simp),heap_get,if_pos rfl]
 have hq1:W0.heap[w.heap.size+1]?=some (.cells #[.int .i64 0,.int .i64 0,.int .i64 0,.slice none 0 0] 39 (0,0)):=by rw [hW0,heap_get,if_pos (by simp)]
 have HE:=Lh (hE W0 hb0)
 have HB:=Lh (aI hb0 (aI hq0 (aI hq1 hz0)))
 have HW0:=Lh hW0
 have HN:=Lh hn
 have HM:=Lh (aI hm hl)
 obtain ⟨c0,c1,c2,c3,c4,c5⟩:=hq0.cells
 clear hb0 hq0 hq1 hW0 hE hn hm hl hz0
 simp only [ndV,FrmA.cells,SlA.val,Frm.kind,Frm.name,Frm.n,Frm.terms,Frm.binds,Frm.l] at HE HW0 c0 c1 c2 c3 c4 c5 ⊢
 go_enter Tryz.func38,Tryz.ntmps38
 go_wp2_with fail
 rw [<- HW0.out]
 go_wp2_with fail
 refine HE.out.mono ?_
 rintro e w1 ⟨hm1,⟨hle,⟨u,rfl,hu⟩,hmk⟩ | ⟨hlt,rfl,l',hmk⟩⟩
 rotate_left
 ·refine ⟨rfl,(Chalk.Mod.of_below (S:=fun k=>k=mb) HB.out.1).trans hm1 (fun _ _ h=>h),.inr ⟨?_,rfl,l',hmk⟩⟩
  simp only [Tr.size_mk,sizes_one];omega
 clear c0 c1 c2 c3 c4 c5
 have hmw:=hm1.size
 have q0:FrmBox w1 w.heap.size (.mk 15 name n terms binds l) fa:=heap_kept HB.out.2.1 hm1 (by omega)
 have q1:=heap_kept HB.out.2.2.1 hm1 (by omega)
 obtain ⟨c0,_,c2,_,_,_⟩:=q0.cells
 simp only [Frm.kind,Frm.n] at c0 c2
 have hlw:w.heap.size+1<w1.heap.size:=(gS q1).1
 obtain ⟨l1,hl1⟩:∃ l1,left - sizes ts=l1:=⟨_,rfl⟩
 have hmk1:MkB w1 mb s x (l1:Nat):=by rw [show ((l1:Nat):Int)=(left:Int) - sizes ts by omega];exact hmk
 have HFN:Hid (∀ W',Chalk.Mod (fun k=>k=mb∨k=w.heap.size+1∨w1.heap.size<=k) w1 W'->Chalk.Mod (fun k=>k=mb) w W'/\SlIn W' (fun k=>w.heap.size<=k/\k<W'.heap.size) (ts.map Tr.toD) u):=Lh (fun W' h=>by
  have hz:=h.size
  have hz0:=HB.out.2.2.2
  refine ⟨((Chalk.Mod.of_below (S:=fun k=>k=mb) HB.out.1).trans hm1 (fun _ _ h=>h)).trans h (fun k hk h=>?_),(hu.agree (h.agree (fun k hk=>⟨hk.2,?_⟩))).mono (fun k hk=>⟨by have:=hk.1;omega,by have:=hk.2;omega⟩)⟩
  ·rcases h with h | h | h
   ·exact h
   ·omega
   ·omega
  ·rintro (h | h | h)
   ·have:=hk.1;omega
   ·have:=hk.1;omega
   ·have:=hk.2;omega)
 have HL1:=Lh (aI hle hl1)
 have HQ1:=Lh (aI q0 q1)
 have HMW:=Lh hmw
 clear hm1 hle hu hmk q0 q1 hl1 hmw
 go_wp2_with fail
 refine (part_any 5 u.a ts.length u.cap s x l1 mb w1 hmk1 (by have:=HM.out.2;have:=HL1.out.2;omega)).mono ?_
 rintro e w2 ⟨hm2,⟨hp,rfl,hmk2⟩ | ⟨hp,rfl,hmk2⟩⟩
 rotate_left
 ·refine ⟨rfl,(HFN.out _ (hm2.mono (fun _ h=>.inl h))).1,.inr ⟨?_,rfl,_,hmk2⟩⟩
  simp only [Tr.size_mk,sizes_one];have:=HL1.out;omega
 have q2:=heap_kept HQ1.out.2 hm2 (by omega)
 have hlw2:w.heap.size+1<w2.heap.size:=(gS q2).1
 have x0:w2.cell? ⟨w.heap.size+1,0,none⟩=some (.int .i64 0):=cH q2 rfl
 have f0:w2.frozen? ⟨w.heap.size+1,0,none⟩=false:=fH q2
 have x1:w2.cell? ⟨w.heap.size+1,1,none⟩=some (.int .i64 0):=cH q2 rfl
 have f1:w2.frozen? ⟨w.heap.size+1,1,none⟩=false:=fH q2
 have x2:w2.cell? ⟨w.heap.size+1,2,none⟩=some (.int .i64 0):=cH q2 rfl
 have f2:w2.frozen? ⟨w.heap.size+1,2,none⟩=false:=fH q2
 have x3:w2.cell? ⟨w.heap.size+1,3,none⟩=some (.slice none 0 0):=cH q2 rfl
 have f3:w2.frozen? ⟨w.heap.size+1,3,none⟩=false:=fH q2
 have HP:=Lh (aI hm2 (aI hp hmk2))
 have HQ2:=Lh q2
 clear hm2 hp hmk2 q2 hmk1
 go_wp2_with fail
 have hq3:=put4_heap HQ2.out (.int .i64 5) (.int .i64 0) (.int .i64 0) (.slice u.a ts.length u.cap)
 have hm3:=put4_mod w2 (w.heap.size+1) 0 (.int .i64 5) (.int .i64 0) (.int .i64 0) (.slice u.a ts.length u.cap)
 unfold put4 at hq3 hm3
 simp only [Nat.zero_add] at hq3 hm3
 generalize (((w2.setCell _ _).setCell _ _).setCell _ _).setCell _ _=W3 at hq3 hm3 ⊢
 have HY:=Lh (aI hq3 hm3)
 have y0:W3.cell? ⟨w.heap.size+1,0,none⟩=some (.int .i64 5):=cH hq3 rfl
 have y1:W3.cell? ⟨w.heap.size+1,1,none⟩=some (.int .i64 0):=cH hq3 rfl
 have y2:W3.cell? ⟨w.heap.size+1,2,none⟩=some (.int .i64 0):=cH hq3 rfl
 have y3:W3.cell? ⟨w.heap.size+1,3,none⟩=some (.slice u.a ts.length u.cap):=cH hq3 rfl
 clear hq3 hm3
 refine bodyPost_ret (v:=.agg #[.int .i64 5,.int .i64 0,.int .i64 0,.slice u.a ts.length u.cap]) (by simp [results,Tryz.results38,go_sem,y0,y1,y2,y3]) rfl ?_
 obtain ⟨g1,g2⟩:=HFN.out W3 ((HP.out.1.mono (fun _ h=>.inl h)).trans HY.out.2 (fun _ _ h=>.inr (.inl h)))
 have hsz:(Tr.mk 5 0 0 ts).size=1+sizes ts:=Tr.size_mk _ _ _ _
 have hq:=HL1.out
 have hp:=HP.out.2.1
 refine ⟨g1,.inl ⟨by omega,⟨_,rfl,Tr.close (i64_small (by decide) (by decide)) (i64_small (by decide) (by decide)) (i64_small (by decide) (by decide)) g2⟩,?_⟩⟩
 rw [hsz,show ((left:Int) - ((1+sizes ts:Nat):Int))=(l1:Int) - 1 by push_cast;omega]
 exact HP.out.2.2.kept HY.out.2 (by omega)

theorem gleast_any (n:Int) (name:Bs) (terms:List Trm) (binds:List Bnd) (l:List Frm) (fa:FrmA) (env:List Ev) (z:SlA) (s:Schl) (x:SchA) (w:World) (mb left:Nat) (ts:List Tr) (hn:0<=n/\n<=1099511627776) (hm:MkB w mb s x left) (hl:left<=65536)
  (hE:∀ W,Below w.heap.size w W->Calls Tryz.prog 80 #[.pointer (some ⟨mb,0,none⟩),.slice z.a env.length z.cap,ndV (.mk 16 name n terms binds l,fa)] W (EachP s x mb left W ts)) :
  Calls Tryz.prog 38 #[.pointer (some ⟨mb,0,none⟩),.slice z.a env.length z.cap,ndV (.mk 16 name n terms binds l,fa)] w (TreeP s x mb left w (.mk 6 0 n ts)):=by
 have hmlt:=hm.lt
 obtain ⟨W0,hW0⟩:∃ W0,W0=(w.alloc (.cells (fa.cells (.mk 16 name n terms binds l)).toArray 34)).alloc (.cells #[.int .i64 0,.int .i64 0,.int .i64 0,.slice none 0 0] 39):=⟨_,rfl⟩
 have hb0:Below w.heap.size w W0:=by rw [hW0];exact ((Below.refl _ _).alloc (Nat.le_refl _) _).alloc (by simp) _
 have hz0:W0.heap.size=w.heap.size+2:=by rw [hW0];simp
 have hq0:FrmBox W0 w.heap.size (.mk 16 name n terms binds l) fa:=by rw [hW0];unfold FrmBox;rw [heap_get,if_neg (by simp),heap_get,if_pos rfl]
 have hq1:W0.heap[w.heap.size+1]?=some (.cells #[.int .i64 0,.int .i64 0,.int .i64 0,.slice none 0 0] 39 (0,0)):=by rw [hW0,heap_get,if_pos (by simp)]
 have HE:=Lh (hE W0 hb0)
 have HB:=Lh (aI hb0 (aI hq0 (aI hq1 hz0)))
 have HW0:=Lh hW0
 have HN:=Lh hn
 have HM:=Lh (aI hm hl)
 obtain ⟨c0,c1,c2,c3,c4,c5⟩:=hq0.cells
 clear hb0 hq0 hq1 hW0 hE hn hm hl hz0
 simp only [ndV,FrmA.cells,SlA.val,Frm.kind,Frm.name,Frm.n,Frm.terms,Frm.binds,Frm.l] at HE HW0 c0 c1 c2 c3 c4 c5 ⊢
 go_enter Tryz.func38,Tryz.ntmps38
 go_wp2_with fail
 rw [<- HW0.out]
 go_wp2_with fail
 refine HE.out.mono ?_
 rintro e w1 ⟨hm1,⟨hle,⟨u,rfl,hu⟩,hmk⟩ | ⟨hlt,rfl,l',hmk⟩⟩
 rotate_left
 ·refine ⟨rfl,(Chalk.Mod.of_below (S:=fun k=>k=mb) HB.out.1).trans hm1 (fun _ _ h=>h),.inr ⟨?_,rfl,l',hmk⟩⟩
  simp only [Tr.size_mk,sizes_one];omega
 clear c0 c1 c2 c3 c4 c5
 have hmw:=hm1.size
 have q0:FrmBox w1 w.heap.size (.mk 16 name n terms binds l) fa:=heap_kept HB.out.2.1 hm1 (by omega)
 have q1:=heap_kept HB.out.2.2.1 hm1 (by omega)
 obtain ⟨c0,_,c2,_,_,_⟩:=q0.cells
 simp only [Frm.kind,Frm.n] at c0 c2
 have hlw:w.heap.size+1<w1.heap.size:=(gS q1).1
 obtain ⟨l1,hl1⟩:∃ l1,left - sizes ts=l1:=⟨_,rfl⟩
 have hmk1:MkB w1 mb s x (l1:Nat):=by rw [show ((l1:Nat):Int)=(left:Int) - sizes ts by omega];exact hmk
 have HFN:Hid (∀ W',Chalk.Mod (fun k=>k=mb∨k=w.heap.size+1∨w1.heap.size<=k) w1 W'->Chalk.Mod (fun k=>k=mb) w W'/\SlIn W' (fun k=>w.heap.size<=k/\k<W'.heap.size) (ts.map Tr.toD) u):=Lh (fun W' h=>by
  have hz:=h.size
  have hz0:=HB.out.2.2.2
  refine ⟨((Chalk.Mod.of_below (S:=fun k=>k=mb) HB.out.1).trans hm1 (fun _ _ h=>h)).trans h (fun k hk h=>?_),(hu.agree (h.agree (fun k hk=>⟨hk.2,?_⟩))).mono (fun k hk=>⟨by have:=hk.1;omega,by have:=hk.2;omega⟩)⟩
  ·rcases h with h | h | h
   ·exact h
   ·omega
   ·omega
  ·rintro (h | h | h)
   ·have:=hk.1;omega
   ·have:=hk.1;omega
   ·have:=hk.2;omega)
 have HL1:=Lh (aI hle hl1)
 have HQ1:=Lh (aI q0 q1)
 have HMW:=Lh hmw
 clear hm1 hle hu hmk q0 q1 hl1 hmw
 go_wp2_with fail
 refine (part_any 6 u.a ts.length u.cap s x l1 mb w1 hmk1 (by have:=HM.out.2;have:=HL1.out.2;omega)).mono ?_
 rintro e w2 ⟨hm2,⟨hp,rfl,hmk2⟩ | ⟨hp,rfl,hmk2⟩⟩
 rotate_left
 ·refine ⟨rfl,(HFN.out _ (hm2.mono (fun _ h=>.inl h))).1,.inr ⟨?_,rfl,_,hmk2⟩⟩
  simp only [Tr.size_mk,sizes_one];have:=HL1.out;omega
 have q2:=heap_kept HQ1.out.2 hm2 (by omega)
 have hf2:FrmBox w2 w.heap.size (.mk 16 name n terms binds l) fa:=heap_kept HQ1.out.1 hm2 (by omega)
 obtain ⟨c0,_,c2,_,_,_⟩:=hf2.cells
 simp only [Frm.kind,Frm.n] at c0 c2
 have hlw0:w.heap.size<w2.heap.size:=(gS hf2).1
 have hlw2:w.heap.size+1<w2.heap.size:=(gS q2).1
 have x0:w2.cell? ⟨w.heap.size+1,0,none⟩=some (.int .i64 0):=cH q2 rfl
 have f0:w2.frozen? ⟨w.heap.size+1,0,none⟩=false:=fH q2
 have x1:w2.cell? ⟨w.heap.size+1,1,none⟩=some (.int .i64 0):=cH q2 rfl
 have f1:w2.frozen? ⟨w.heap.size+1,1,none⟩=false:=fH q2
 have x2:w2.cell? ⟨w.heap.size+1,2,none⟩=some (.int .i64 0):=cH q2 rfl
 have f2:w2.frozen? ⟨w.heap.size+1,2,none⟩=false:=fH q2
 have x3:w2.cell? ⟨w.heap.size+1,3,none⟩=some (.slice none 0 0):=cH q2 rfl
 have f3:w2.frozen? ⟨w.heap.size+1,3,none⟩=false:=fH q2
 have HP:=Lh (aI hm2 (aI hp hmk2))
 have HQ2:=Lh q2
 clear hm2 hp hmk2 q2 hmk1 hf2
 go_wp2_with fail
 have hq3:=put4_heap HQ2.out (.int .i64 6) (.int .i64 0) (.int .i64 n) (.slice u.a ts.length u.cap)
 have hm3:=put4_mod w2 (w.heap.size+1) 0 (.int .i64 6) (.int .i64 0) (.int .i64 n) (.slice u.a ts.length u.cap)
 unfold put4 at hq3 hm3
 simp only [Nat.zero_add] at hq3 hm3
 generalize (((w2.setCell _ _).setCell _ _).setCell _ _).setCell _ _=W3a at hq3 hm3 ⊢
 have hq4:=(Below.heap_alloc W3a (.cells #[.int .i64 6,.int .i64 0,.int .i64 n,.slice u.a ts.length u.cap] 39) _ (gS hq3).1).trans hq3
 have hm4:=hm3.alloc (.cells #[.int .i64 6,.int .i64 0,.int .i64 n,.slice u.a ts.length u.cap] 39)
 clear hq3 hm3
 generalize W3a.alloc (.cells #[.int .i64 6,.int .i64 0,.int .i64 n,.slice u.a ts.length u.cap] 39)=W3 at hq4 hm4 ⊢
 have hq3:=hq4
 have hm3:=hm4
 clear hq4 hm4 W3a
 have HY:=Lh (aI hq3 hm3)
 have y0:W3.cell? ⟨w.heap.size+1,0,none⟩=some (.int .i64 6):=cH hq3 rfl
 have y1:W3.cell? ⟨w.heap.size+1,1,none⟩=some (.int .i64 0):=cH hq3 rfl
 have y2:W3.cell? ⟨w.heap.size+1,2,none⟩=some (.int .i64 n):=cH hq3 rfl
 have y3:W3.cell? ⟨w.heap.size+1,3,none⟩=some (.slice u.a ts.length u.cap):=cH hq3 rfl
 clear hq3 hm3
 refine bodyPost_ret (v:=.agg #[.int .i64 6,.int .i64 0,.int .i64 n,.slice u.a ts.length u.cap]) (by simp [results,Tryz.results38,go_sem,y0,y1,y2,y3]) rfl ?_
 obtain ⟨g1,g2⟩:=HFN.out W3 ((HP.out.1.mono (fun _ h=>.inl h)).trans HY.out.2 (fun _ _ h=>.inr (.inl h)))
 have hsz:(Tr.mk 6 0 n ts).size=1+sizes ts:=Tr.size_mk _ _ _ _
 have hq:=HL1.out
 have hp:=HP.out.2.1
 have hn:=HN.out
 refine ⟨g1,.inl ⟨by omega,⟨_,rfl,Tr.close (i64_small (by decide) (by decide)) (i64_small (by decide) (by decide)) (i64_small (by omega) (by omega)) g2⟩,?_⟩⟩
 rw [hsz,show ((left:Int) - ((1+sizes ts:Nat):Int))=(l1:Int) - 1 by push_cast;omega]
 exact HP.out.2.2.kept HY.out.2 (by omega)

theorem gmost_any (n:Int) (name:Bs) (terms:List Trm) (binds:List Bnd) (l:List Frm) (fa:FrmA) (env:List Ev) (z:SlA) (s:Schl) (x:SchA) (w:World) (mb left:Nat) (ts:List Tr) (hn:0<=n/\n<=1099511627776) (hm:MkB w mb s x left) (hl:left<=65536)
  (hE:∀ W,Below w.heap.size w W->Calls Tryz.prog 80 #[.pointer (some ⟨mb,0,none⟩),.slice z.a env.length z.cap,ndV (.mk 17 name n terms binds l,fa)] W (EachP s x mb left W ts)) :
  Calls Tryz.prog 38 #[.pointer (some ⟨mb,0,none⟩),.slice z.a env.length z.cap,ndV (.mk 17 name n terms binds l,fa)] w (TreeP s x mb left w (.mk 3 0 0 [.mk 6 0 (min (n+1) 1099511627776) ts])):=by
 have hmlt:=hm.lt
 obtain ⟨W0,hW0⟩:∃ W0,W0=(w.alloc (.cells (fa.cells (.mk 17 name n terms binds l)).toArray 34)).alloc (.cells #[.int .i64 0,.int .i64 0,.int .i64 0,.slice none 0 0] 39):=⟨_,rfl⟩
 have hb0:Below w.heap.size w W0:=by rw [hW0];exact ((Below.refl _ _).alloc (Nat.le_refl _) _).alloc (by simp) _
 have hz0:W0.heap.size=w.heap.size+2:=by rw [hW0];simp
 have hq0:FrmBox W0 w.heap.size (.mk 17 name n terms binds l) fa:=by rw [hW0];unfold FrmBox;rw [heap_get,if_neg (by simp),heap_get,if_pos rfl]
 have hq1:W0.heap[w.heap.size+1]?=some (.cells #[.int .i64 0,.int .i64 0,.int .i64 0,.slice none 0 0] 39 (0,0)):=by rw [hW0,heap_get,if_pos (by simp)]
 have HE:=Lh (hE W0 hb0)
 have HB:=Lh (aI hb0 (aI hq0 (aI hq1 hz0)))
 have HW0:=Lh hW0
 have HN:=Lh hn
 have HM:=Lh (aI hm hl)
 obtain ⟨c0,c1,c2,c3,c4,c5⟩:=hq0.cells
 clear hb0 hq0 hq1 hW0 hE hn hm hl hz0
 simp only [ndV,FrmA.cells,SlA.val,Frm.kind,Frm.name,Frm.n,Frm.terms,Frm.binds,Frm.l] at HE HW0 c0 c1 c2 c3 c4 c5 ⊢
 go_enter Tryz.func38,Tryz.ntmps38
 go_wp2_with fail
 rw [<- HW0.out]
 go_wp2_with fail
 refine HE.out.mono ?_
 rintro e w1 ⟨hm1,⟨hle,⟨u,rfl,hu⟩,hmk⟩ | ⟨hlt,rfl,l',hmk⟩⟩
 rotate_left
 ·refine ⟨rfl,(Chalk.Mod.of_below (S:=fun k=>k=mb) HB.out.1).trans hm1 (fun _ _ h=>h),.inr ⟨?_,rfl,l',hmk⟩⟩
  simp only [Tr.size_mk,sizes_one];omega
 clear c0 c1 c2 c3 c4 c5
 have hmw:=hm1.size
 have q0:FrmBox w1 w.heap.size (.mk 17 name n terms binds l) fa:=heap_kept HB.out.2.1 hm1 (by omega)
 have q1:=heap_kept HB.out.2.2.1 hm1 (by omega)
 obtain ⟨c0,_,c2,_,_,_⟩:=q0.cells
 simp only [Frm.kind,Frm.n] at c0 c2
 have hlw:w.heap.size+1<w1.heap.size:=(gS q1).1
 obtain ⟨l1,hl1⟩:∃ l1,left - sizes ts=l1:=⟨_,rfl⟩
 have hmk1:MkB w1 mb s x (l1:Nat):=by rw [show ((l1:Nat):Int)=(left:Int) - sizes ts by omega];exact hmk
 have HFN:Hid (∀ W',Chalk.Mod (fun k=>k=mb∨k=w.heap.size+1∨w1.heap.size<=k) w1 W'->Chalk.Mod (fun k=>k=mb) w W'/\SlIn W' (fun k=>w.heap.size<=k/\k<W'.heap.size) (ts.map Tr.toD) u):=Lh (fun W' h=>by
  have hz:=h.size
  have hz0:=HB.out.2.2.2
  refine ⟨((Chalk.Mod.of_below (S:=fun k=>k=mb) HB.out.1).trans hm1 (fun _ _ h=>h)).trans h (fun k hk h=>?_),(hu.agree (h.agree (fun k hk=>⟨hk.2,?_⟩))).mono (fun k hk=>⟨by have:=hk.1;omega,by have:=hk.2;omega⟩)⟩
  ·rcases h with h | h | h
   ·exact h
   ·omega
   ·omega
  ·rintro (h | h | h)
   ·have:=hk.1;omega
   ·have:=hk.1;omega
   ·have:=hk.2;omega)
 have HL1:=Lh (aI hle hl1)
 have HQ1:=Lh (aI q0 q1)
 have HMW:=Lh hmw
 clear hm1 hle hu hmk q0 q1 hl1 hmw
 go_wp2_with fail
 refine (part_any 6 u.a ts.length u.cap s x l1 mb w1 hmk1 (by have:=HM.out.2;have:=HL1.out.2;omega)).mono ?_
 rintro e w2 ⟨hm2,⟨hp,rfl,hmk2⟩ | ⟨hp,rfl,hmk2⟩⟩
 rotate_left
 ·refine ⟨rfl,(HFN.out _ (hm2.mono (fun _ h=>.inl h))).1,.inr ⟨?_,rfl,_,hmk2⟩⟩
  simp only [Tr.size_mk,sizes_one];have:=HL1.out;omega
 have q2:=heap_kept HQ1.out.2 hm2 (by omega)
 have hf2:FrmBox w2 w.heap.size (.mk 17 name n terms binds l) fa:=heap_kept HQ1.out.1 hm2 (by omega)
 obtain ⟨c0,_,c2,_,_,_⟩:=hf2.cells
 simp only [Frm.kind,Frm.n] at c0 c2
 have hlw0:w.heap.size<w2.heap.size:=(gS hf2).1
 have hlw2:w.heap.size+1<w2.heap.size:=(gS q2).1
 have x0:w2.cell? ⟨w.heap.size+1,0,none⟩=some (.int .i64 0):=cH q2 rfl
 have f0:w2.frozen? ⟨w.heap.size+1,0,none⟩=false:=fH q2
 have x1:w2.cell? ⟨w.heap.size+1,1,none⟩=some (.int .i64 0):=cH q2 rfl
 have f1:w2.frozen? ⟨w.heap.size+1,1,none⟩=false:=fH q2
 have x2:w2.cell? ⟨w.heap.size+1,2,none⟩=some (.int .i64 0):=cH q2 rfl
 have f2:w2.frozen? ⟨w.heap.size+1,2,none⟩=false:=fH q2
 have x3:w2.cell? ⟨w.heap.size+1,3,none⟩=some (.slice none 0 0):=cH q2 rfl
 have f3:w2.frozen? ⟨w.heap.size+1,3,none⟩=false:=fH q2
 have HP:=Lh (aI hm2 (aI hp hmk2))
 have HQ2:=Lh q2
 clear hm2 hp hmk2 q2 hmk1 hf2
 have hn0:=HN.out.1
 have hn1:=HN.out.2
 go_wp2_with fail
 obtain ⟨WA,hWA⟩:∃ WA,WA=(w2.alloc (.cells #[.int .i64 6,.int .i64 0,.int .i64 (min (n+1) 1099511627776),.slice u.a ts.length u.cap] 39)).alloc (.cells #[.int .i64 6,.int .i64 0,.int .i64 (min (n+1) 1099511627776),.slice u.a ts.length u.cap] 39):=⟨_,rfl⟩
 have hbA:Below w2.heap.size w2 WA:=by rw [hWA];exact ((Below.refl _ _).alloc (Nat.le_refl _) _).alloc (by simp) _
 have hzA:WA.heap.size=w2.heap.size+2:=by rw [hWA];simp
 have hkA:WA.heap[w2.heap.size+1]?=some (.cells #[.int .i64 6,.int .i64 0,.int .i64 (min (n+1) 1099511627776),.slice u.a ts.length u.cap] 39 (0,0)):=by rw [hWA,heap_get,if_pos (by simp)]
 obtain ⟨l2,hl2⟩:∃ l2,l1 - 1=l2:=⟨_,rfl⟩
 have hp1:=HP.out.2.1
 have hmk3:MkB WA mb s x (l2:Nat):=by
  rw [show ((l2:Nat):Int)=(l1:Int) - 1 by omega]
  exact (hbA.block mb HP.out.2.2.lt).trans HP.out.2.2
 have HA:=Lh (aI hbA (aI hzA (aI hkA hl2)))
 rw [<- hWA]
 clear hWA hbA hzA hkA hp1 hl2 x0 x1 x2 x3 f0 f1 f2 f3 c0 c2 hlw0 hlw2
 refine (part_any 3 (some ⟨w2.heap.size+1,0,none⟩) 1 1 s x l2 mb WA hmk3 (by have:=HM.out.2;have:=HL1.out.2;have:=HA.out;omega)).mono ?_
 rintro e w3 ⟨hm3,⟨hp,rfl,hmk4⟩ | ⟨hp,rfl,hmk4⟩⟩
 rotate_left
 ·refine ⟨rfl,(HFN.out _ ((HP.out.1.mono (fun _ h=>.inl h)).trans ((Chalk.Mod.of_below (S:=fun k=>k=mb) HA.out.1).trans hm3 (fun _ _ h=>h)) (fun _ _ h=>.inl h))).1,.inr ⟨?_,rfl,_,hmk4⟩⟩
  simp only [Tr.size_mk,sizes_one];have:=HL1.out;have:=HA.out;have:=HP.out.2.1;omega
 have q3:=heap_kept ((HA.out.1.block _ (gS HQ2.out).1).trans HQ2.out) hm3 (by omega)
 have k3:=heap_kept HA.out.2.2.1 hm3 (by have:=HP.out.2.2.lt;omega)
 have hlw3:w.heap.size+1<w3.heap.size:=(gS q3).1
 have x0:w3.cell? ⟨w.heap.size+1,0,none⟩=some (.int .i64 0):=cH q3 rfl
 have f0:w3.frozen? ⟨w.heap.size+1,0,none⟩=false:=fH q3
 have x1:w3.cell? ⟨w.heap.size+1,1,none⟩=some (.int .i64 0):=cH q3 rfl
 have f1:w3.frozen? ⟨w.heap.size+1,1,none⟩=false:=fH q3
 have x2:w3.cell? ⟨w.heap.size+1,2,none⟩=some (.int .i64 0):=cH q3 rfl
 have f2:w3.frozen? ⟨w.heap.size+1,2,none⟩=false:=fH q3
 have x3:w3.cell? ⟨w.heap.size+1,3,none⟩=some (.slice none 0 0):=cH q3 rfl
 have f3:w3.frozen? ⟨w.heap.size+1,3,none⟩=false:=fH q3
 have HP3:=Lh (aI hm3 (aI hp (aI hmk4 k3)))
 have HQ3:=Lh q3
 clear hm3 hp hmk4 q3 k3 hmk3
 go_wp2_with fail
 have hq3:=put4_heap HQ3.out (.int .i64 3) (.int .i64 0) (.int .i64 0) (.slice (some ⟨w2.heap.size+1,0,none⟩) 1 1)
 have hm3:=put4_mod w3 (w.heap.size+1) 0 (.int .i64 3) (.int .i64 0) (.int .i64 0) (.slice (some ⟨w2.heap.size+1,0,none⟩) 1 1)
 unfold put4 at hq3 hm3
 simp only [Nat.zero_add] at hq3 hm3
 generalize (((w3.setCell _ _).setCell _ _).setCell _ _).setCell _ _=W3 at hq3 hm3 ⊢
 have HY:=Lh (aI hq3 hm3)
 have y0:W3.cell? ⟨w.heap.size+1,0,none⟩=some (.int .i64 3):=cH hq3 rfl
 have y1:W3.cell? ⟨w.heap.size+1,1,none⟩=some (.int .i64 0):=cH hq3 rfl
 have y2:W3.cell? ⟨w.heap.size+1,2,none⟩=some (.int .i64 0):=cH hq3 rfl
 have y3:W3.cell? ⟨w.heap.size+1,3,none⟩=some (.slice (some ⟨w2.heap.size+1,0,none⟩) 1 1):=cH hq3 rfl
 clear hq3 hm3
 refine bodyPost_ret (v:=.agg #[.int .i64 3,.int .i64 0,.int .i64 0,.slice (some ⟨w2.heap.size+1,0,none⟩) 1 1]) (by simp [results,Tryz.results38,go_sem,y0,y1,y2,y3]) rfl ?_
 have hmW:Chalk.Mod (fun k=>k=mb∨k=w.heap.size+1∨w1.heap.size<=k) w1 W3:=((HP.out.1.mono (fun _ h=>.inl h)).trans ((Chalk.Mod.of_below (S:=fun k=>k=mb) HA.out.1).trans HP3.out.1 (fun _ _ h=>h)) (fun _ _ h=>.inl h)).trans HY.out.2 (fun _ _ h=>.inr (.inl h))
 obtain ⟨g1,g2⟩:=HFN.out W3 hmW
 have hsz:(Tr.mk 3 0 0 [.mk 6 0 (min (n+1) 1099511627776) ts]).size=2+sizes ts:=by simp only [Tr.size_mk,sizes_one];omega
 have hq:=HL1.out
 have hp:=HP.out.2.1
 have hp3:=HP3.out.2.1
 have hA:=HA.out
 have hn:=HN.out
 have hw2:w1.heap.size<=w2.heap.size:=HP.out.1.size
 have hk3:=heap_kept HP3.out.2.2.2 HY.out.2 (by have:=HMW.out;have:=HB.out.2.2.2;omega)
 have hin:=Tr.close (kind:=6) (v:=0) (k:=min (n+1) 1099511627776) (i64_small (by decide) (by decide)) (i64_small (by decide) (by decide)) (i64_small (by omega) (by omega)) g2
 have hsl:SlIn W3 (fun k=>w.heap.size<=k/\k<W3.heap.size) ([Tr.mk 6 0 (min (n+1) 1099511627776) ts].map Tr.toD) ⟨some ⟨w2.heap.size+1,0,none⟩,w2.heap.size+1,0,1⟩ :=
  SlIn.lit hk3 (DsAt.oneT hin) ⟨by have:=HMW.out;have:=HB.out.2.2.2;omega,(gS hk3).1⟩ (by simp) (by unfold maxLen;omega)
 refine ⟨g1,.inl ⟨by omega,⟨_,rfl,Tr.close (i64_small (by decide) (by decide)) (i64_small (by decide) (by decide)) (i64_small (by decide) (by decide)) hsl⟩,?_⟩⟩
 rw [hsz,show ((left:Int) - ((2+sizes ts:Nat):Int))=(l2:Int) - 1 by push_cast;omega]
 exact HP3.out.2.2.1.kept HY.out.2 (by omega)
end Go.Proofs.YtjjkfgjnadaheaaGreatDoor
/- ground's maker.tree: a connective. (written by tools/gen_gtreeb.py) -/
namespace Go.Chalk
open Go.RowKit
theorem Mod.behind {S:Nat->Prop} {a b c:World} (h:Mod S a b) (k:Below a.heap.size b c):Mod S a c:=⟨k.os.trans h.os,k.tape.trans h.tape,k.output.trans h.output,Nat.le_trans h.size k.size,fun i hi hS=>(k.block i hi).trans (h.block i hi hS)⟩
end Go.Chalk
namespace Go.Proofs.YtjjkfgjnadaheaaGreatDoor
open Go.RowKit Go.Chalk
attribute [local go_sem] Oper.semAt_some
theorem gnot_any (n:Int) (name:Bs) (terms:List Trm) (binds:List Bnd) (l:List Frm) (fa:FrmA) (env:List Ev) (z:SlA) (s:Schl) (x:SchA) (w0 w:World) (mb left:Nat) (ts:List Tr) (hts:ts.length=l.length) (h0:Below w0.heap.size w0 w) (hmb0:w0.heap.size<=mb) (hx:FrmIn w0 (·<w0.heap.size) (.mk 10 name n terms binds l) fa) (hz:SlIn w (Off mb w) (env.map Ev.toD) z) (hm:MkB w mb s x left) (hl:left<=65536) (hll:l.length<=2000000)
  (hK:∀ (j:Nat) (hj:j<l.length) (t:Tr) (y1:FrmA) (W:World) (lf:Nat),ts[j]?=some t->Below w0.heap.size w0 W->lf<=left->MkB W mb s x lf->FrmIn w0 (·<w0.heap.size) l[j] y1->SlIn W (Off mb W) (env.map Ev.toD) z->Calls Tryz.prog 38 #[.pointer (some ⟨mb,0,none⟩),.slice z.a env.length z.cap,ndV (l[j],y1)] W (TreeP s x mb lf W t)) :
  Calls Tryz.prog 38 #[.pointer (some ⟨mb,0,none⟩),.slice z.a env.length z.cap,ndV (.mk 10 name n terms binds l,fa)] w (TreeP s x mb left w (.mk 3 0 0 ts)):=by
 have hmlt:=hm.lt
 obtain ⟨W0,hW0⟩:∃ W0,W0=(w.alloc (.cells (fa.cells (.mk 10 name n terms binds l)).toArray 34)).alloc (.cells #[.int .i64 0,.int .i64 0,.int .i64 0,.slice none 0 0] 39):=⟨_,rfl⟩
 have hb0:Below w.heap.size w W0:=by rw [hW0];exact ((Below.refl _ _).alloc (Nat.le_refl _) _).alloc (by simp) _
 have hz0:W0.heap.size=w.heap.size+2:=by rw [hW0];simp
 have hq0:FrmBox W0 w.heap.size (.mk 10 name n terms binds l) fa:=by rw [hW0];unfold FrmBox;rw [heap_get,if_neg (by simp),heap_get,if_pos rfl]
 have hq1:W0.heap[w.heap.size+1]?=some (.cells #[.int .i64 0,.int .i64 0,.int .i64 0,.slice none 0 0] 39 (0,0)):=by rw [hW0,heap_get,if_pos (by simp)]
 have HB:=Lh (aI hb0 (aI hq0 (aI hq1 hz0)))
 have HW0:=Lh hW0
 have HM:=Lh (aI hm hl)
 have HX:=Lh (aI h0 (aI hmb0 (aI hx (aI hz hll))))
 have HK:=Lh hK
 have HTS:=Lh hts
 have HFI:Hid (∀ (j:Nat) (hj:j<l.length),∃ y1:FrmA,FrmIn w0 (·<w0.heap.size) l[j] y1/\CellsAt w0 fa.l.b (fa.l.o+j*6) (y1.cells l[j])):=Lh (fun j hj=>hx.l.frm j hj)
 have HFS:Hid (SlAt (·<w0.heap.size) fa.l.a fa.l.b fa.l.o l.length):=Lh (by have:=hx.l.at_;simp only [Frm.l,List.length_map] at this;exact this)
 obtain ⟨c0,c1,c2,c3,c4,c5⟩:=hq0.cells
 obtain ⟨i0,hi0,hz0',hz1',hz2'⟩:=info_parts infoTree
 clear hb0 hq0 hq1 hW0 hm hl hz0 h0 hmb0 hx hz hK hts hll
 simp only [ndV,FrmA.cells,SlA.val,Frm.kind,Frm.name,Frm.n,Frm.terms,Frm.binds,Frm.l] at HW0 c0 c1 c2 c3 c4 c5 ⊢
 go_enter Tryz.func38,Tryz.ntmps38
 go_wp2_with fail
 rw [<- HW0.out]
 go_wp2_with fail
 clear c0 c1 c2 c3 c4 c5
 go_loopw [7,29] (fun v i wr=>∃ j:Nat,j<=l.length/\i=.int .i64 j/\Hid (KidsAt wr W0.heap.size 39 v (ts.take j)/\Chalk.Mod (fun k=>k=mb) W0 wr/\sizes (ts.take j)<=left/\MkB wr mb s x ((left:Int) - sizes (ts.take j)))) (fun _ i _=>l.length - (intOf i).toNat)
 case atStart =>
  refine ⟨0,Nat.zero_le _,rfl,Lh ⟨KidsAt.nil _ _ _,Chalk.Mod.refl _ _,by simp [sizes],?_⟩⟩
  rw [List.take_zero,sizes,show ((left:Int) - ((0:Nat):Int))=left by omega]
  exact (HB.out.1.block mb hmlt).trans HM.out.1
 case round =>
  obtain ⟨j,hj,rfl,HR⟩:=hrel
  obtain ⟨oa,ocap,hv⟩:=HR.out.1.form
  subst hv
  have hlen:(ts.take j).length=j:=by have:=HTS.out;rw [List.length_take];omega
  rw [hlen] at HR ⊢
  by_cases hlt:j<l.length
  ·have hjt:j<ts.length:=by have:=HTS.out;omega
   have htk:=List.take_succ_eq_append_getElem hjt
   have hsz1:=sizes_take_succ ts j hjt
   have hsz2:=sizes_take_le ts (j+1)
   obtain ⟨t,ht⟩:∃ t,ts[j]=t:=⟨_,rfl⟩
   have ht':ts[j]?=some t:=by rw [List.getElem?_eq_getElem hjt,ht]
   rw [ht] at htk hsz1
   obtain ⟨lf,hlf⟩:∃ lf,left - sizes (ts.take j)=lf:=⟨_,rfl⟩
   have hmk1:MkB wr mb s x (lf:Nat):=by rw [show ((lf:Nat):Int)=(left:Int) - sizes (ts.take j) by have:=HR.out.2.2.1;omega];exact HR.out.2.2.2
   have hbw:Below w0.heap.size w0 wr:=(HX.out.1.trans (HB.out.1.mono HX.out.1.size)).trans (HR.out.2.1.below (by have:=HX.out.1.size;have:=HB.out.1.size;omega) (fun k hk=>by have:=HX.out.2.1;omega))
   have hzw:SlIn wr (Off mb wr) (env.map Ev.toD) z:=(HX.out.2.2.2.1.agree (fun k hk=>(HR.out.2.1.block k (by have:=HB.out.2.2.2;have:=hk.1;omega) hk.2).trans (HB.out.1.block k hk.1))).mono (fun k hk=>⟨by have:=HB.out.2.2.2;have:=HR.out.2.1.size;have:=hk.1;omega,hk.2⟩)
   obtain ⟨y1,hy1,hc1⟩:=HFI.out j hlt
   obtain ⟨hla,hlb⟩:=HFS.out (by omega)
   obtain ⟨e0,e1,e2,e3,e4,e5⟩:=(hc1.agree (agree_of_below hbw) hlb).six
   have hcal:Hid (∀ W,Below wr.heap.size wr W->Calls Tryz.prog 38 #[.pointer (some ⟨mb,0,none⟩),.slice z.a env.length z.cap,ndV (l[j],y1)] W (TreeP s x mb lf W t)):=Lh (fun W hW=>HK.out j hlt t y1 W lf ht' (hbw.trans (hW.mono hbw.size)) (by omega) ((hW.block mb hmk1.lt).trans hmk1) hy1 ((hzw.agree (fun k hk=>hW.block k hk.1)).mono (fun k hk=>⟨by have:=hk.1;have:=hW.size;omega,hk.2⟩)))
   have HTK:=Lh (aI htk (aI hsz1 (aI hsz2 hlf)))
   have hblt:fa.l.b<wr.heap.size:=by have:=hbw.size;omega
   have HJ:=Lh hlen
   clear hmk1 hzw hy1 hc1 hbw hlb htk hsz1 hsz2 hlf hlen ht ht' hjt
   generalize l[j]=g at e0 e1 e2 e3 e4 e5 hcal
   obtain ⟨gk,gn,gm,gt,gb,gl⟩:=g
   rw [hla]
   simp only [ndV,FrmA.cells,SlA.val,Frm.kind,Frm.name,Frm.n,Frm.terms,Frm.binds,Frm.l] at hcal e0 e1 e2 e3 e4 e5
   go_wp2_with fail
   refine (hcal.out _ ((Below.refl _ _).alloc (Nat.le_refl _) _)).mono ?_
   rintro e w3 ⟨hm3,⟨hle3,⟨tcs,rfl,ht3⟩,hmk3⟩ | ⟨hlt3,rfl,l',hmk3⟩⟩
   rotate_left
   ·refine ⟨rfl,((Chalk.Mod.of_below (S:=fun k=>k=mb) HB.out.1).trans HR.out.2.1 (fun _ _ h=>h)).trans ((Chalk.Mod.of_below (S:=fun k=>k=mb) ((Below.refl _ _).alloc (Nat.le_refl _) _)).trans hm3 (fun _ _ h=>h)) (fun _ _ h=>h),.inr ⟨?_,rfl,l',hmk3⟩⟩
    have h1:=HTK.out.2.1
    have h2:=HTK.out.2.2.1
    have h3:=HTK.out.2.2.2
    have h4:=HR.out.2.2.1
    rw [Tr.size_mk];omega
   have hl4:=DAt.length _ _ ht3
   rw [Tr.width] at hl4
   obtain ⟨d0,d1,d2,d3,rfl⟩:=len_four hl4
   obtain ⟨tk0,tk1,tk2,ta,tn,tcap,rfl,rfl,rfl,rfl⟩:=TreeV.shape ht3
   have hmt:Chalk.Mod (fun k=>k=mb) wr w3:=(Chalk.Mod.of_below (S:=fun k=>k=mb) ((Below.refl _ _).alloc (Nat.le_refl _) _)).trans hm3 (fun _ _ h=>h)
   obtain ⟨F,ho,hd,hF⟩:=HR.out.1.call (W0:=w3) hmt (by have:=HB.out.2.2.2;omega) HR.out.2.1.size (DAt.mono (fun k hk=>⟨by have:=hk.1;simp at this;omega,hk.2⟩) _ _ ht3)
   have HO:=Lh ho
   have HD:=Lh (aI hd hF)
   have HM3:=Lh (aI hmt (aI hmk3 (aI hle3 (show W0.heap.size<=w3.heap.size by have:=HR.out.2.1.size;have:=hmt.size;omega))))
   have hmw3:wr.heap.size+1<=w3.heap.size:=by have:=hm3.size;simp at this;omega
   have HLT:=Lh (aI hlt HX.out.2.2.2.2)
   clear hm3 ht3 hmk3 hl4 hmt ho hd hF hle3 e0 e1 e2 e3 e4 e5
   have hll2:=HX.out.2.2.2.2
   have HLN:Hid (((ts.take j).map Tr.toD).length=j):=Lh (by rw [List.length_map,HJ.out])
   go_wp2_with (at_builtin;go_must (refine wpList_append_oneO (B:=w3.heap.size) rfl rfl _ _ 37 rfl 39 i0 _ 4 48 Tryz.underlying37 hi0 hz0' hz1' hz2' rfl (by decide) (.slice oa j ocap) ((ts.take j).map Tr.toD) t.toD [.int .i64 tk0,.int .i64 tk1,.int .i64 tk2,.slice ta tn tcap] 39 rfl rfl HO.out HD.out.1 HM3.out.2.2.2 (Tr.width _) (by rw [HLN.out];have:=HLT.out;unfold maxLen;omega) (by rw [HLN.out];have:=HLT.out;omega) ?_);intro ao cap w5 hon hb5;rw [HLN.out] at hon ⊢;have HON:=Lh (aI hon hb5);clear hon hb5)
   go_roundw
   case measure=>have:=HLT.out.1;simp [intOf];omega
   case rel =>
    refine ⟨j+1,by have:=HLT.out.1;omega,by go_num,Lh ⟨?_,?_,?_,?_⟩⟩
    ·rw [HTK.out.1];exact KidsAt.of HON.out.1 HD.out.2
    ·exact (HR.out.2.1.trans HM3.out.1 (fun _ _ h=>h)).behind HON.out.2
    ·have:=HTK.out;have:=HM3.out.2.2.1;have:=HR.out.2.2.1;omega
    ·rw [show ((left:Int) - ((sizes (ts.take (j+1)):Nat):Int))=(lf:Int) - t.size by have:=HTK.out.2.1;have:=HTK.out.2.2.2;have:=HR.out.2.2.1;omega]
     exact (HON.out.2.block mb (by have:=HB.out.2.2.2;omega)).trans HM3.out.2.1
  ·have hjl:j=l.length:=by omega
   subst hjl
   rw [List.take_of_length_le (by have:=HTS.out;omega)] at HR
   obtain ⟨u,hu,hsl⟩:=HR.out.1.sl
   simp only [SlA.val,Value.slice.injEq] at hu
   obtain ⟨rfl,-,rfl⟩:=hu
   have hm1:=HR.out.2.1
   have hmw:=hm1.size
   have q0:FrmBox wr w.heap.size (.mk 10 name n terms binds l) fa:=heap_kept HB.out.2.1 hm1 (by omega)
   have q1:=heap_kept HB.out.2.2.1 hm1 (by omega)
   obtain ⟨c0,_,c2,_,_,_⟩:=q0.cells
   simp only [Frm.kind,Frm.n] at c0 c2
   have hlw:w.heap.size+1<wr.heap.size:=(gS q1).1
   obtain ⟨l1,hl1⟩:∃ l1,left - sizes ts=l1:=⟨_,rfl⟩
   have hmk1:MkB wr mb s x (l1:Nat):=by rw [show ((l1:Nat):Int)=(left:Int) - sizes ts by have:=HR.out.2.2.1;omega];exact HR.out.2.2.2
   have HFN:Hid (∀ W',Chalk.Mod (fun k=>k=mb∨k=w.heap.size+1∨wr.heap.size<=k) wr W'->Chalk.Mod (fun k=>k=mb) w W'/\SlIn W' (fun k=>w.heap.size<=k/\k<W'.heap.size) (ts.map Tr.toD) u):=Lh (fun W' h=>by
    have hz:=h.size
    have hz0:=HB.out.2.2.2
    refine ⟨((Chalk.Mod.of_below (S:=fun k=>k=mb) HB.out.1).trans hm1 (fun _ _ h=>h)).trans h (fun k hk h=>?_),(hsl.agree (h.agree (fun k hk=>⟨hk.2,?_⟩))).mono (fun k hk=>⟨by have:=hk.1;omega,by have:=hk.2;omega⟩)⟩
    ·rcases h with h | h | h
     ·exact h
     ·omega
     ·omega
    ·rintro (h | h | h)
     ·have:=hk.1;omega
     ·have:=hk.1;omega
     ·have:=hk.2;omega)
   have HL1:=Lh (aI HR.out.2.2.1 hl1)
   have HQ1:=Lh (aI q0 q1)
   have HMW:=Lh hmw
   have HSL:=Lh hsl
   have hnl:decide ((l.length:Int)<(l.length:Int))=false:=by simp
   clear hm1 hsl q0 q1 hl1 hmw HR hlen hlt hj HK HFI HFS
   go_wp2_with fail
   refine (part_any 3 u.a l.length u.cap s x l1 mb wr hmk1 (by have:=HM.out.2;have:=HL1.out.2;omega)).mono ?_
   rintro e w2 ⟨hm2,⟨hp,rfl,hmk2⟩ | ⟨hp,rfl,hmk2⟩⟩
   rotate_left
   ·refine ⟨rfl,(HFN.out _ (hm2.mono (fun _ h=>.inl h))).1,.inr ⟨?_,rfl,_,hmk2⟩⟩
    simp only [Tr.size_mk,sizes_one];have:=HL1.out;omega
   have q2:=heap_kept HQ1.out.2 hm2 (by omega)
   have hlw2:w.heap.size+1<w2.heap.size:=(gS q2).1
   have x0:w2.cell? ⟨w.heap.size+1,0,none⟩=some (.int .i64 0):=cH q2 rfl
   have f0:w2.frozen? ⟨w.heap.size+1,0,none⟩=false:=fH q2
   have x1:w2.cell? ⟨w.heap.size+1,1,none⟩=some (.int .i64 0):=cH q2 rfl
   have f1:w2.frozen? ⟨w.heap.size+1,1,none⟩=false:=fH q2
   have x2:w2.cell? ⟨w.heap.size+1,2,none⟩=some (.int .i64 0):=cH q2 rfl
   have f2:w2.frozen? ⟨w.heap.size+1,2,none⟩=false:=fH q2
   have x3:w2.cell? ⟨w.heap.size+1,3,none⟩=some (.slice none 0 0):=cH q2 rfl
   have f3:w2.frozen? ⟨w.heap.size+1,3,none⟩=false:=fH q2
   have HP:=Lh (aI hm2 (aI hp hmk2))
   have HQ2:=Lh q2
   clear hm2 hp hmk2 q2 hmk1
   go_wp2_with fail
   have hq3:=put4_heap HQ2.out (.int .i64 3) (.int .i64 0) (.int .i64 0) (.slice u.a l.length u.cap)
   have hm3:=put4_mod w2 (w.heap.size+1) 0 (.int .i64 3) (.int .i64 0) (.int .i64 0) (.slice u.a l.length u.cap)
   unfold put4 at hq3 hm3
   simp only [Nat.zero_add] at hq3 hm3
   generalize (((w2.setCell _ _).setCell _ _).setCell _ _).setCell _ _=W3 at hq3 hm3 ⊢
   have HY:=Lh (aI hq3 hm3)
   have y0:W3.cell? ⟨w.heap.size+1,0,none⟩=some (.int .i64 3):=cH hq3 rfl
   have y1:W3.cell? ⟨w.heap.size+1,1,none⟩=some (.int .i64 0):=cH hq3 rfl
   have y2:W3.cell? ⟨w.heap.size+1,2,none⟩=some (.int .i64 0):=cH hq3 rfl
   have y3:W3.cell? ⟨w.heap.size+1,3,none⟩=some (.slice u.a l.length u.cap):=cH hq3 rfl
   clear hq3 hm3
   refine bodyPost_ret (v:=.agg #[.int .i64 3,.int .i64 0,.int .i64 0,.slice u.a l.length u.cap]) (by simp [results,Tryz.results38,go_sem,y0,y1,y2,y3]) rfl ?_
   obtain ⟨g1,g2⟩:=HFN.out W3 ((HP.out.1.mono (fun _ h=>.inl h)).trans HY.out.2 (fun _ _ h=>.inr (.inl h)))
   have hsz:(Tr.mk 3 0 0 ts).size=1+sizes ts:=Tr.size_mk _ _ _ _
   have hq:=HL1.out
   have hp:=HP.out.2.1
   have hcl:=Tr.close (kind:=3) (v:=0) (k:=0) (i64_small (by decide) (by decide)) (i64_small (by decide) (by decide)) (i64_small (by decide) (by decide)) g2
   rw [HTS.out] at hcl
   refine ⟨g1,.inl ⟨by omega,⟨_,rfl,hcl⟩,?_⟩⟩
   rw [hsz,show ((left:Int) - ((1+sizes ts:Nat):Int))=(l1:Int) - 1 by push_cast;omega]
   exact HP.out.2.2.kept HY.out.2 (by omega)

theorem gand_any (n:Int) (name:Bs) (terms:List Trm) (binds:List Bnd) (l:List Frm) (fa:FrmA) (env:List Ev) (z:SlA) (s:Schl) (x:SchA) (w0 w:World) (mb left:Nat) (ts:List Tr) (hts:ts.length=l.length) (h0:Below w0.heap.size w0 w) (hmb0:w0.heap.size<=mb) (hx:FrmIn w0 (·<w0.heap.size) (.mk 11 name n terms binds l) fa) (hz:SlIn w (Off mb w) (env.map Ev.toD) z) (hm:MkB w mb s x left) (hl:left<=65536) (hll:l.length<=2000000)
  (hK:∀ (j:Nat) (hj:j<l.length) (t:Tr) (y1:FrmA) (W:World) (lf:Nat),ts[j]?=some t->Below w0.heap.size w0 W->lf<=left->MkB W mb s x lf->FrmIn w0 (·<w0.heap.size) l[j] y1->SlIn W (Off mb W) (env.map Ev.toD) z->Calls Tryz.prog 38 #[.pointer (some ⟨mb,0,none⟩),.slice z.a env.length z.cap,ndV (l[j],y1)] W (TreeP s x mb lf W t)) :
  Calls Tryz.prog 38 #[.pointer (some ⟨mb,0,none⟩),.slice z.a env.length z.cap,ndV (.mk 11 name n terms binds l,fa)] w (TreeP s x mb left w (.mk 4 0 0 ts)):=by
 have hmlt:=hm.lt
 obtain ⟨W0,hW0⟩:∃ W0,W0=(w.alloc (.cells (fa.cells (.mk 11 name n terms binds l)).toArray 34)).alloc (.cells #[.int .i64 0,.int .i64 0,.int .i64 0,.slice none 0 0] 39):=⟨_,rfl⟩
 have hb0:Below w.heap.size w W0:=by rw [hW0];exact ((Below.refl _ _).alloc (Nat.le_refl _) _).alloc (by simp) _
 have hz0:W0.heap.size=w.heap.size+2:=by rw [hW0];simp
 have hq0:FrmBox W0 w.heap.size (.mk 11 name n terms binds l) fa:=by rw [hW0];unfold FrmBox;rw [heap_get,if_neg (by simp),heap_get,if_pos rfl]
 have hq1:W0.heap[w.heap.size+1]?=some (.cells #[.int .i64 0,.int .i64 0,.int .i64 0,.slice none 0 0] 39 (0,0)):=by rw [hW0,heap_get,if_pos (by simp)]
 have HB:=Lh (aI hb0 (aI hq0 (aI hq1 hz0)))
 have HW0:=Lh hW0
 have HM:=Lh (aI hm hl)
 have HX:=Lh (aI h0 (aI hmb0 (aI hx (aI hz hll))))
 have HK:=Lh hK
 have HTS:=Lh hts
 have HFI:Hid (∀ (j:Nat) (hj:j<l.length),∃ y1:FrmA,FrmIn w0 (·<w0.heap.size) l[j] y1/\CellsAt w0 fa.l.b (fa.l.o+j*6) (y1.cells l[j])):=Lh (fun j hj=>hx.l.frm j hj)
 have HFS:Hid (SlAt (·<w0.heap.size) fa.l.a fa.l.b fa.l.o l.length):=Lh (by have:=hx.l.at_;simp only [Frm.l,List.length_map] at this;exact this)
 obtain ⟨c0,c1,c2,c3,c4,c5⟩:=hq0.cells
 obtain ⟨i0,hi0,hz0',hz1',hz2'⟩:=info_parts infoTree
 clear hb0 hq0 hq1 hW0 hm hl hz0 h0 hmb0 hx hz hK hts hll
 simp only [ndV,FrmA.cells,SlA.val,Frm.kind,Frm.name,Frm.n,Frm.terms,Frm.binds,Frm.l] at HW0 c0 c1 c2 c3 c4 c5 ⊢
 go_enter Tryz.func38,Tryz.ntmps38
 go_wp2_with fail
 rw [<- HW0.out]
 go_wp2_with fail
 clear c0 c1 c2 c3 c4 c5
 go_loopw [7,29] (fun v i wr=>∃ j:Nat,j<=l.length/\i=.int .i64 j/\Hid (KidsAt wr W0.heap.size 39 v (ts.take j)/\Chalk.Mod (fun k=>k=mb) W0 wr/\sizes (ts.take j)<=left/\MkB wr mb s x ((left:Int) - sizes (ts.take j)))) (fun _ i _=>l.length - (intOf i).toNat)
 case atStart =>
  refine ⟨0,Nat.zero_le _,rfl,Lh ⟨KidsAt.nil _ _ _,Chalk.Mod.refl _ _,by simp [sizes],?_⟩⟩
  rw [List.take_zero,sizes,show ((left:Int) - ((0:Nat):Int))=left by omega]
  exact (HB.out.1.block mb hmlt).trans HM.out.1
 case round =>
  obtain ⟨j,hj,rfl,HR⟩:=hrel
  obtain ⟨oa,ocap,hv⟩:=HR.out.1.form
  subst hv
  have hlen:(ts.take j).length=j:=by have:=HTS.out;rw [List.length_take];omega
  rw [hlen] at HR ⊢
  by_cases hlt:j<l.length
  ·have hjt:j<ts.length:=by have:=HTS.out;omega
   have htk:=List.take_succ_eq_append_getElem hjt
   have hsz1:=sizes_take_succ ts j hjt
   have hsz2:=sizes_take_le ts (j+1)
   obtain ⟨t,ht⟩:∃ t,ts[j]=t:=⟨_,rfl⟩
   have ht':ts[j]?=some t:=by rw [List.getElem?_eq_getElem hjt,ht]
   rw [ht] at htk hsz1
   obtain ⟨lf,hlf⟩:∃ lf,left - sizes (ts.take j)=lf:=⟨_,rfl⟩
   have hmk1:MkB wr mb s x (lf:Nat):=by rw [show ((lf:Nat):Int)=(left:Int) - sizes (ts.take j) by have:=HR.out.2.2.1;omega];exact HR.out.2.2.2
   have hbw:Below w0.heap.size w0 wr:=(HX.out.1.trans (HB.out.1.mono HX.out.1.size)).trans (HR.out.2.1.below (by have:=HX.out.1.size;have:=HB.out.1.size;omega) (fun k hk=>by have:=HX.out.2.1;omega))
   have hzw:SlIn wr (Off mb wr) (env.map Ev.toD) z:=(HX.out.2.2.2.1.agree (fun k hk=>(HR.out.2.1.block k (by have:=HB.out.2.2.2;have:=hk.1;omega) hk.2).trans (HB.out.1.block k hk.1))).mono (fun k hk=>⟨by have:=HB.out.2.2.2;have:=HR.out.2.1.size;have:=hk.1;omega,hk.2⟩)
   obtain ⟨y1,hy1,hc1⟩:=HFI.out j hlt
   obtain ⟨hla,hlb⟩:=HFS.out (by omega)
   obtain ⟨e0,e1,e2,e3,e4,e5⟩:=(hc1.agree (agree_of_below hbw) hlb).six
   have hcal:Hid (∀ W,Below wr.heap.size wr W->Calls Tryz.prog 38 #[.pointer (some ⟨mb,0,none⟩),.slice z.a env.length z.cap,ndV (l[j],y1)] W (TreeP s x mb lf W t)):=Lh (fun W hW=>HK.out j hlt t y1 W lf ht' (hbw.trans (hW.mono hbw.size)) (by omega) ((hW.block mb hmk1.lt).trans hmk1) hy1 ((hzw.agree (fun k hk=>hW.block k hk.1)).mono (fun k hk=>⟨by have:=hk.1;have:=hW.size;omega,hk.2⟩)))
   have HTK:=Lh (aI htk (aI hsz1 (aI hsz2 hlf)))
   have hblt:fa.l.b<wr.heap.size:=by have:=hbw.size;omega
   have HJ:=Lh hlen
   clear hmk1 hzw hy1 hc1 hbw hlb htk hsz1 hsz2 hlf hlen ht ht' hjt
   generalize l[j]=g at e0 e1 e2 e3 e4 e5 hcal
   obtain ⟨gk,gn,gm,gt,gb,gl⟩:=g
   rw [hla]
   simp only [ndV,FrmA.cells,SlA.val,Frm.kind,Frm.name,Frm.n,Frm.terms,Frm.binds,Frm.l] at hcal e0 e1 e2 e3 e4 e5
   go_wp2_with fail
   refine (hcal.out _ ((Below.refl _ _).alloc (Nat.le_refl _) _)).mono ?_
   rintro e w3 ⟨hm3,⟨hle3,⟨tcs,rfl,ht3⟩,hmk3⟩ | ⟨hlt3,rfl,l',hmk3⟩⟩
   rotate_left
   ·refine ⟨rfl,((Chalk.Mod.of_below (S:=fun k=>k=mb) HB.out.1).trans HR.out.2.1 (fun _ _ h=>h)).trans ((Chalk.Mod.of_below (S:=fun k=>k=mb) ((Below.refl _ _).alloc (Nat.le_refl _) _)).trans hm3 (fun _ _ h=>h)) (fun _ _ h=>h),.inr ⟨?_,rfl,l',hmk3⟩⟩
    have h1:=HTK.out.2.1
    have h2:=HTK.out.2.2.1
    have h3:=HTK.out.2.2.2
    have h4:=HR.out.2.2.1
    rw [Tr.size_mk];omega
   have hl4:=DAt.length _ _ ht3
   rw [Tr.width] at hl4
   obtain ⟨d0,d1,d2,d3,rfl⟩:=len_four hl4
   obtain ⟨tk0,tk1,tk2,ta,tn,tcap,rfl,rfl,rfl,rfl⟩:=TreeV.shape ht3
   have hmt:Chalk.Mod (fun k=>k=mb) wr w3:=(Chalk.Mod.of_below (S:=fun k=>k=mb) ((Below.refl _ _).alloc (Nat.le_refl _) _)).trans hm3 (fun _ _ h=>h)
   obtain ⟨F,ho,hd,hF⟩:=HR.out.1.call (W0:=w3) hmt (by have:=HB.out.2.2.2;omega) HR.out.2.1.size (DAt.mono (fun k hk=>⟨by have:=hk.1;simp at this;omega,hk.2⟩) _ _ ht3)
   have HO:=Lh ho
   have HD:=Lh (aI hd hF)
   have HM3:=Lh (aI hmt (aI hmk3 (aI hle3 (show W0.heap.size<=w3.heap.size by have:=HR.out.2.1.size;have:=hmt.size;omega))))
   have hmw3:wr.heap.size+1<=w3.heap.size:=by have:=hm3.size;simp at this;omega
   have HLT:=Lh (aI hlt HX.out.2.2.2.2)
   clear hm3 ht3 hmk3 hl4 hmt ho hd hF hle3 e0 e1 e2 e3 e4 e5
   have hll2:=HX.out.2.2.2.2
   have HLN:Hid (((ts.take j).map Tr.toD).length=j):=Lh (by rw [List.length_map,HJ.out])
   go_wp2_with (at_builtin;go_must (refine wpList_append_oneO (B:=w3.heap.size) rfl rfl _ _ 37 rfl 39 i0 _ 4 48 Tryz.underlying37 hi0 hz0' hz1' hz2' rfl (by decide) (.slice oa j ocap) ((ts.take j).map Tr.toD) t.toD [.int .i64 tk0,.int .i64 tk1,.int .i64 tk2,.slice ta tn tcap] 39 rfl rfl HO.out HD.out.1 HM3.out.2.2.2 (Tr.width _) (by rw [HLN.out];have:=HLT.out;unfold maxLen;omega) (by rw [HLN.out];have:=HLT.out;omega) ?_);intro ao cap w5 hon hb5;rw [HLN.out] at hon ⊢;have HON:=Lh (aI hon hb5);clear hon hb5)
   go_roundw
   case measure=>have:=HLT.out.1;simp [intOf];omega
   case rel =>
    refine ⟨j+1,by have:=HLT.out.1;omega,by go_num,Lh ⟨?_,?_,?_,?_⟩⟩
    ·rw [HTK.out.1];exact KidsAt.of HON.out.1 HD.out.2
    ·exact (HR.out.2.1.trans HM3.out.1 (fun _ _ h=>h)).behind HON.out.2
    ·have:=HTK.out;have:=HM3.out.2.2.1;have:=HR.out.2.2.1;omega
    ·rw [show ((left:Int) - ((sizes (ts.take (j+1)):Nat):Int))=(lf:Int) - t.size by have:=HTK.out.2.1;have:=HTK.out.2.2.2;have:=HR.out.2.2.1;omega]
     exact (HON.out.2.block mb (by have:=HB.out.2.2.2;omega)).trans HM3.out.2.1
  ·have hjl:j=l.length:=by omega
   subst hjl
   rw [List.take_of_length_le (by have:=HTS.out;omega)] at HR
   obtain ⟨u,hu,hsl⟩:=HR.out.1.sl
   simp only [SlA.val,Value.slice.injEq] at hu
   obtain ⟨rfl,-,rfl⟩:=hu
   have hm1:=HR.out.2.1
   have hmw:=hm1.size
   have q0:FrmBox wr w.heap.size (.mk 11 name n terms binds l) fa:=heap_kept HB.out.2.1 hm1 (by omega)
   have q1:=heap_kept HB.out.2.2.1 hm1 (by omega)
   obtain ⟨c0,_,c2,_,_,_⟩:=q0.cells
   simp only [Frm.kind,Frm.n] at c0 c2
   have hlw:w.heap.size+1<wr.heap.size:=(gS q1).1
   obtain ⟨l1,hl1⟩:∃ l1,left - sizes ts=l1:=⟨_,rfl⟩
   have hmk1:MkB wr mb s x (l1:Nat):=by rw [show ((l1:Nat):Int)=(left:Int) - sizes ts by have:=HR.out.2.2.1;omega];exact HR.out.2.2.2
   have HFN:Hid (∀ W',Chalk.Mod (fun k=>k=mb∨k=w.heap.size+1∨wr.heap.size<=k) wr W'->Chalk.Mod (fun k=>k=mb) w W'/\SlIn W' (fun k=>w.heap.size<=k/\k<W'.heap.size) (ts.map Tr.toD) u):=Lh (fun W' h=>by
    have hz:=h.size
    have hz0:=HB.out.2.2.2
    refine ⟨((Chalk.Mod.of_below (S:=fun k=>k=mb) HB.out.1).trans hm1 (fun _ _ h=>h)).trans h (fun k hk h=>?_),(hsl.agree (h.agree (fun k hk=>⟨hk.2,?_⟩))).mono (fun k hk=>⟨by have:=hk.1;omega,by have:=hk.2;omega⟩)⟩
    ·rcases h with h | h | h
     ·exact h
     ·omega
     ·omega
    ·rintro (h | h | h)
     ·have:=hk.1;omega
     ·have:=hk.1;omega
     ·have:=hk.2;omega)
   have HL1:=Lh (aI HR.out.2.2.1 hl1)
   have HQ1:=Lh (aI q0 q1)
   have HMW:=Lh hmw
   have HSL:=Lh hsl
   have hnl:decide ((l.length:Int)<(l.length:Int))=false:=by simp
   clear hm1 hsl q0 q1 hl1 hmw HR hlen hlt hj HK HFI HFS
   go_wp2_with fail
   refine (part_any 4 u.a l.length u.cap s x l1 mb wr hmk1 (by have:=HM.out.2;have:=HL1.out.2;omega)).mono ?_
   rintro e w2 ⟨hm2,⟨hp,rfl,hmk2⟩ | ⟨hp,rfl,hmk2⟩⟩
   rotate_left
   ·refine ⟨rfl,(HFN.out _ (hm2.mono (fun _ h=>.inl h))).1,.inr ⟨?_,rfl,_,hmk2⟩⟩
    simp only [Tr.size_mk,sizes_one];have:=HL1.out;omega
   have q2:=heap_kept HQ1.out.2 hm2 (by omega)
   have hlw2:w.heap.size+1<w2.heap.size:=(gS q2).1
   have x0:w2.cell? ⟨w.heap.size+1,0,none⟩=some (.int .i64 0):=cH q2 rfl
   have f0:w2.frozen? ⟨w.heap.size+1,0,none⟩=false:=fH q2
   have x1:w2.cell? ⟨w.heap.size+1,1,none⟩=some (.int .i64 0):=cH q2 rfl
   have f1:w2.frozen? ⟨w.heap.size+1,1,none⟩=false:=fH q2
   have x2:w2.cell? ⟨w.heap.size+1,2,none⟩=some (.int .i64 0):=cH q2 rfl
   have f2:w2.frozen? ⟨w.heap.size+1,2,none⟩=false:=fH q2
   have x3:w2.cell? ⟨w.heap.size+1,3,none⟩=some (.slice none 0 0):=cH q2 rfl
   have f3:w2.frozen? ⟨w.heap.size+1,3,none⟩=false:=fH q2
   have HP:=Lh (aI hm2 (aI hp hmk2))
   have HQ2:=Lh q2
   clear hm2 hp hmk2 q2 hmk1
   go_wp2_with fail
   have hq3:=put4_heap HQ2.out (.int .i64 4) (.int .i64 0) (.int .i64 0) (.slice u.a l.length u.cap)
   have hm3:=put4_mod w2 (w.heap.size+1) 0 (.int .i64 4) (.int .i64 0) (.int .i64 0) (.slice u.a l.length u.cap)
   unfold put4 at hq3 hm3
   simp only [Nat.zero_add] at hq3 hm3
   generalize (((w2.setCell _ _).setCell _ _).setCell _ _).setCell _ _=W3 at hq3 hm3 ⊢
   have HY:=Lh (aI hq3 hm3)
   have y0:W3.cell? ⟨w.heap.size+1,0,none⟩=some (.int .i64 4):=cH hq3 rfl
   have y1:W3.cell? ⟨w.heap.size+1,1,none⟩=some (.int .i64 0):=cH hq3 rfl
   have y2:W3.cell? ⟨w.heap.size+1,2,none⟩=some (.int .i64 0):=cH hq3 rfl
   have y3:W3.cell? ⟨w.heap.size+1,3,none⟩=some (.slice u.a l.length u.cap):=cH hq3 rfl
   clear hq3 hm3
   refine bodyPost_ret (v:=.agg #[.int .i64 4,.int .i64 0,.int .i64 0,.slice u.a l.length u.cap]) (by simp [results,Tryz.results38,go_sem,y0,y1,y2,y3]) rfl ?_
   obtain ⟨g1,g2⟩:=HFN.out W3 ((HP.out.1.mono (fun _ h=>.inl h)).trans HY.out.2 (fun _ _ h=>.inr (.inl h)))
   have hsz:(Tr.mk 4 0 0 ts).size=1+sizes ts:=Tr.size_mk _ _ _ _
   have hq:=HL1.out
   have hp:=HP.out.2.1
   have hcl:=Tr.close (kind:=4) (v:=0) (k:=0) (i64_small (by decide) (by decide)) (i64_small (by decide) (by decide)) (i64_small (by decide) (by decide)) g2
   rw [HTS.out] at hcl
   refine ⟨g1,.inl ⟨by omega,⟨_,rfl,hcl⟩,?_⟩⟩
   rw [hsz,show ((left:Int) - ((1+sizes ts:Nat):Int))=(l1:Int) - 1 by push_cast;omega]
   exact HP.out.2.2.kept HY.out.2 (by omega)

theorem gor_any (n:Int) (name:Bs) (terms:List Trm) (binds:List Bnd) (l:List Frm) (fa:FrmA) (env:List Ev) (z:SlA) (s:Schl) (x:SchA) (w0 w:World) (mb left:Nat) (ts:List Tr) (hts:ts.length=l.length) (h0:Below w0.heap.size w0 w) (hmb0:w0.heap.size<=mb) (hx:FrmIn w0 (·<w0.heap.size) (.mk 12 name n terms binds l) fa) (hz:SlIn w (Off mb w) (env.map Ev.toD) z) (hm:MkB w mb s x left) (hl:left<=65536) (hll:l.length<=2000000)
  (hK:∀ (j:Nat) (hj:j<l.length) (t:Tr) (y1:FrmA) (W:World) (lf:Nat),ts[j]?=some t->Below w0.heap.size w0 W->lf<=left->MkB W mb s x lf->FrmIn w0 (·<w0.heap.size) l[j] y1->SlIn W (Off mb W) (env.map Ev.toD) z->Calls Tryz.prog 38 #[.pointer (some ⟨mb,0,none⟩),.slice z.a env.length z.cap,ndV (l[j],y1)] W (TreeP s x mb lf W t)) :
  Calls Tryz.prog 38 #[.pointer (some ⟨mb,0,none⟩),.slice z.a env.length z.cap,ndV (.mk 12 name n terms binds l,fa)] w (TreeP s x mb left w (.mk 5 0 0 ts)):=by
 have hmlt:=hm.lt
 obtain ⟨W0,hW0⟩:∃ W0,W0=(w.alloc (.cells (fa.cells (.mk 12 name n terms binds l)).toArray 34)).alloc (.cells #[.int .i64 0,.int .i64 0,.int .i64 0,.slice none 0 0] 39):=⟨_,rfl⟩
 have hb0:Below w.heap.size w W0:=by rw [hW0];exact ((Below.refl _ _).alloc (Nat.le_refl _) _).alloc (by simp) _
 have hz0:W0.heap.size=w.heap.size+2:=by rw [hW0];simp
 have hq0:FrmBox W0 w.heap.size (.mk 12 name n terms binds l) fa:=by rw [hW0];unfold FrmBox;rw [heap_get,if_neg (by simp),heap_get,if_pos rfl]
 have hq1:W0.heap[w.heap.size+1]?=some (.cells #[.int .i64 0,.int .i64 0,.int .i64 0,.slice none 0 0] 39 (0,0)):=by rw [hW0,heap_get,if_pos (by simp)]
 have HB:=Lh (aI hb0 (aI hq0 (aI hq1 hz0)))
 have HW0:=Lh hW0
 have HM:=Lh (aI hm hl)
 have HX:=Lh (aI h0 (aI hmb0 (aI hx (aI hz hll))))
 have HK:=Lh hK
 have HTS:=Lh hts
 have HFI:Hid (∀ (j:Nat) (hj:j<l.length),∃ y1:FrmA,FrmIn w0 (·<w0.heap.size) l[j] y1/\CellsAt w0 fa.l.b (fa.l.o+j*6) (y1.cells l[j])):=Lh (fun j hj=>hx.l.frm j hj)
 have HFS:Hid (SlAt (·<w0.heap.size) fa.l.a fa.l.b fa.l.o l.length):=Lh (by have:=hx.l.at_;simp only [Frm.l,List.length_map] at this;exact this)
 obtain ⟨c0,c1,c2,c3,c4,c5⟩:=hq0.cells
 obtain ⟨i0,hi0,hz0',hz1',hz2'⟩:=info_parts infoTree
 clear hb0 hq0 hq1 hW0 hm hl hz0 h0 hmb0 hx hz hK hts hll
 simp only [ndV,FrmA.cells,SlA.val,Frm.kind,Frm.name,Frm.n,Frm.terms,Frm.binds,Frm.l] at HW0 c0 c1 c2 c3 c4 c5 ⊢
 go_enter Tryz.func38,Tryz.ntmps38
 go_wp2_with fail
 rw [<- HW0.out]
 go_wp2_with fail
 clear c0 c1 c2 c3 c4 c5
 go_loopw [7,29] (fun v i wr=>∃ j:Nat,j<=l.length/\i=.int .i64 j/\Hid (KidsAt wr W0.heap.size 39 v (ts.take j)/\Chalk.Mod (fun k=>k=mb) W0 wr/\sizes (ts.take j)<=left/\MkB wr mb s x ((left:Int) - sizes (ts.take j)))) (fun _ i _=>l.length - (intOf i).toNat)
 case atStart =>
  refine ⟨0,Nat.zero_le _,rfl,Lh ⟨KidsAt.nil _ _ _,Chalk.Mod.refl _ _,by simp [sizes],?_⟩⟩
  rw [List.take_zero,sizes,show ((left:Int) - ((0:Nat):Int))=left by omega]
  exact (HB.out.1.block mb hmlt).trans HM.out.1
 case round =>
  obtain ⟨j,hj,rfl,HR⟩:=hrel
  obtain ⟨oa,ocap,hv⟩:=HR.out.1.form
  subst hv
  have hlen:(ts.take j).length=j:=by have:=HTS.out;rw [List.length_take];omega
  rw [hlen] at HR ⊢
  by_cases hlt:j<l.length
  ·have hjt:j<ts.length:=by have:=HTS.out;omega
   have htk:=List.take_succ_eq_append_getElem hjt
   have hsz1:=sizes_take_succ ts j hjt
   have hsz2:=sizes_take_le ts (j+1)
   obtain ⟨t,ht⟩:∃ t,ts[j]=t:=⟨_,rfl⟩
   have ht':ts[j]?=some t:=by rw [List.getElem?_eq_getElem hjt,ht]
   rw [ht] at htk hsz1
   obtain ⟨lf,hlf⟩:∃ lf,left - sizes (ts.take j)=lf:=⟨_,rfl⟩
   have hmk1:MkB wr mb s x (lf:Nat):=by rw [show ((lf:Nat):Int)=(left:Int) - sizes (ts.take j) by have:=HR.out.2.2.1;omega];exact HR.out.2.2.2
   have hbw:Below w0.heap.size w0 wr:=(HX.out.1.trans (HB.out.1.mono HX.out.1.size)).trans (HR.out.2.1.below (by have:=HX.out.1.size;have:=HB.out.1.size;omega) (fun k hk=>by have:=HX.out.2.1;omega))
   have hzw:SlIn wr (Off mb wr) (env.map Ev.toD) z:=(HX.out.2.2.2.1.agree (fun k hk=>(HR.out.2.1.block k (by have:=HB.out.2.2.2;have:=hk.1;omega) hk.2).trans (HB.out.1.block k hk.1))).mono (fun k hk=>⟨by have:=HB.out.2.2.2;have:=HR.out.2.1.size;have:=hk.1;omega,hk.2⟩)
   obtain ⟨y1,hy1,hc1⟩:=HFI.out j hlt
   obtain ⟨hla,hlb⟩:=HFS.out (by omega)
   obtain ⟨e0,e1,e2,e3,e4,e5⟩:=(hc1.agree (agree_of_below hbw) hlb).six
   have hcal:Hid (∀ W,Below wr.heap.size wr W->Calls Tryz.prog 38 #[.pointer (some ⟨mb,0,none⟩),.slice z.a env.length z.cap,ndV (l[j],y1)] W (TreeP s x mb lf W t)):=Lh (fun W hW=>HK.out j hlt t y1 W lf ht' (hbw.trans (hW.mono hbw.size)) (by omega) ((hW.block mb hmk1.lt).trans hmk1) hy1 ((hzw.agree (fun k hk=>hW.block k hk.1)).mono (fun k hk=>⟨by have:=hk.1;have:=hW.size;omega,hk.2⟩)))
   have HTK:=Lh (aI htk (aI hsz1 (aI hsz2 hlf)))
   have hblt:fa.l.b<wr.heap.size:=by have:=hbw.size;omega
   have HJ:=Lh hlen
   clear hmk1 hzw hy1 hc1 hbw hlb htk hsz1 hsz2 hlf hlen ht ht' hjt
   generalize l[j]=g at e0 e1 e2 e3 e4 e5 hcal
   obtain ⟨gk,gn,gm,gt,gb,gl⟩:=g
   rw [hla]
   simp only [ndV,FrmA.cells,SlA.val,Frm.kind,Frm.name,Frm.n,Frm.terms,Frm.binds,Frm.l] at hcal e0 e1 e2 e3 e4 e5
   go_wp2_with fail
   refine (hcal.out _ ((Below.refl _ _).alloc (Nat.le_refl _) _)).mono ?_
   rintro e w3 ⟨hm3,⟨hle3,⟨tcs,rfl,ht3⟩,hmk3⟩ | ⟨hlt3,rfl,l',hmk3⟩⟩
   rotate_left
   ·refine ⟨rfl,((Chalk.Mod.of_below (S:=fun k=>k=mb) HB.out.1).trans HR.out.2.1 (fun _ _ h=>h)).trans ((Chalk.Mod.of_below (S:=fun k=>k=mb) ((Below.refl _ _).alloc (Nat.le_refl _) _)).trans hm3 (fun _ _ h=>h)) (fun _ _ h=>h),.inr ⟨?_,rfl,l',hmk3⟩⟩
    have h1:=HTK.out.2.1
    have h2:=HTK.out.2.2.1
    have h3:=HTK.out.2.2.2
    have h4:=HR.out.2.2.1
    rw [Tr.size_mk];omega
   have hl4:=DAt.length _ _ ht3
   rw [Tr.width] at hl4
   obtain ⟨d0,d1,d2,d3,rfl⟩:=len_four hl4
   obtain ⟨tk0,tk1,tk2,ta,tn,tcap,rfl,rfl,rfl,rfl⟩:=TreeV.shape ht3
   have hmt:Chalk.Mod (fun k=>k=mb) wr w3:=(Chalk.Mod.of_below (S:=fun k=>k=mb) ((Below.refl _ _).alloc (Nat.le_refl _) _)).trans hm3 (fun _ _ h=>h)
   obtain ⟨F,ho,hd,hF⟩:=HR.out.1.call (W0:=w3) hmt (by have:=HB.out.2.2.2;omega) HR.out.2.1.size (DAt.mono (fun k hk=>⟨by have:=hk.1;simp at this;omega,hk.2⟩) _ _ ht3)
   have HO:=Lh ho
   have HD:=Lh (aI hd hF)
   have HM3:=Lh (aI hmt (aI hmk3 (aI hle3 (show W0.heap.size<=w3.heap.size by have:=HR.out.2.1.size;have:=hmt.size;omega))))
   have hmw3:wr.heap.size+1<=w3.heap.size:=by have:=hm3.size;simp at this;omega
   have HLT:=Lh (aI hlt HX.out.2.2.2.2)
   clear hm3 ht3 hmk3 hl4 hmt ho hd hF hle3 e0 e1 e2 e3 e4 e5
   have hll2:=HX.out.2.2.2.2
   have HLN:Hid (((ts.take j).map Tr.toD).length=j):=Lh (by rw [List.length_map,HJ.out])
   go_wp2_with (at_builtin;go_must (refine wpList_append_oneO (B:=w3.heap.size) rfl rfl _ _ 37 rfl 39 i0 _ 4 48 Tryz.underlying37 hi0 hz0' hz1' hz2' rfl (by decide) (.slice oa j ocap) ((ts.take j).map Tr.toD) t.toD [.int .i64 tk0,.int .i64 tk1,.int .i64 tk2,.slice ta tn tcap] 39 rfl rfl HO.out HD.out.1 HM3.out.2.2.2 (Tr.width _) (by rw [HLN.out];have:=HLT.out;unfold maxLen;omega) (by rw [HLN.out];have:=HLT.out;omega) ?_);intro ao cap w5 hon hb5;rw [HLN.out] at hon ⊢;have HON:=Lh (aI hon hb5);clear hon hb5)
   go_roundw
   case measure=>have:=HLT.out.1;simp [intOf];omega
   case rel =>
    refine ⟨j+1,by have:=HLT.out.1;omega,by go_num,Lh ⟨?_,?_,?_,?_⟩⟩
    ·rw [HTK.out.1];exact KidsAt.of HON.out.1 HD.out.2
    ·exact (HR.out.2.1.trans HM3.out.1 (fun _ _ h=>h)).behind HON.out.2
    ·have:=HTK.out;have:=HM3.out.2.2.1;have:=HR.out.2.2.1;omega
    ·rw [show ((left:Int) - ((sizes (ts.take (j+1)):Nat):Int))=(lf:Int) - t.size by have:=HTK.out.2.1;have:=HTK.out.2.2.2;have:=HR.out.2.2.1;omega]
     exact (HON.out.2.block mb (by have:=HB.out.2.2.2;omega)).trans HM3.out.2.1
  ·have hjl:j=l.length:=by omega
   subst hjl
   rw [List.take_of_length_le (by have:=HTS.out;omega)] at HR
   obtain ⟨u,hu,hsl⟩:=HR.out.1.sl
   simp only [SlA.val,Value.slice.injEq] at hu
   obtain ⟨rfl,-,rfl⟩:=hu
   have hm1:=HR.out.2.1
   have hmw:=hm1.size
   have q0:FrmBox wr w.heap.size (.mk 12 name n terms binds l) fa:=heap_kept HB.out.2.1 hm1 (by omega)
   have q1:=heap_kept HB.out.2.2.1 hm1 (by omega)
   obtain ⟨c0,_,c2,_,_,_⟩:=q0.cells
   simp only [Frm.kind,Frm.n] at c0 c2
   have hlw:w.heap.size+1<wr.heap.size:=(gS q1).1
   obtain ⟨l1,hl1⟩:∃ l1,left - sizes ts=l1:=⟨_,rfl⟩
   have hmk1:MkB wr mb s x (l1:Nat):=by rw [show ((l1:Nat):Int)=(left:Int) - sizes ts by have:=HR.out.2.2.1;omega];exact HR.out.2.2.2
   have HFN:Hid (∀ W',Chalk.Mod (fun k=>k=mb∨k=w.heap.size+1∨wr.heap.size<=k) wr W'->Chalk.Mod (fun k=>k=mb) w W'/\SlIn W' (fun k=>w.heap.size<=k/\k<W'.heap.size) (ts.map Tr.toD) u):=Lh (fun W' h=>by
    have hz:=h.size
    have hz0:=HB.out.2.2.2
    refine ⟨((Chalk.Mod.of_below (S:=fun k=>k=mb) HB.out.1).trans hm1 (fun _ _ h=>h)).trans h (fun k hk h=>?_),(hsl.agree (h.agree (fun k hk=>⟨hk.2,?_⟩))).mono (fun k hk=>⟨by have:=hk.1;omega,by have:=hk.2;omega⟩)⟩
    ·rcases h with h | h | h
     ·exact h
     ·omega
     ·omega
    ·rintro (h | h | h)
     ·have:=hk.1;omega
     ·have:=hk.1;omega
     ·have:=hk.2;omega)
   have HL1:=Lh (aI HR.out.2.2.1 hl1)
   have HQ1:=Lh (aI q0 q1)
   have HMW:=Lh hmw
   have HSL:=Lh hsl
   have hnl:decide ((l.length:Int)<(l.length:Int))=false:=by simp
   clear hm1 hsl q0 q1 hl1 hmw HR hlen hlt hj HK HFI HFS
   go_wp2_with fail
   refine (part_any 5 u.a l.length u.cap s x l1 mb wr hmk1 (by have:=HM.out.2;have:=HL1.out.2;omega)).mono ?_
   rintro e w2 ⟨hm2,⟨hp,rfl,hmk2⟩ | ⟨hp,rfl,hmk2⟩⟩
   rotate_left
   ·refine ⟨rfl,(HFN.out _ (hm2.mono (fun _ h=>.inl h))).1,.inr ⟨?_,rfl,_,hmk2⟩⟩
    simp only [Tr.size_mk,sizes_one];have:=HL1.out;omega
   have q2:=heap_kept HQ1.out.2 hm2 (by omega)
   have hlw2:w.heap.size+1<w2.heap.size:=(gS q2).1
   have x0:w2.cell? ⟨w.heap.size+1,0,none⟩=some (.int .i64 0):=cH q2 rfl
   have f0:w2.frozen? ⟨w.heap.size+1,0,none⟩=false:=fH q2
   have x1:w2.cell? ⟨w.heap.size+1,1,none⟩=some (.int .i64 0):=cH q2 rfl
   have f1:w2.frozen? ⟨w.heap.size+1,1,none⟩=false:=fH q2
   have x2:w2.cell? ⟨w.heap.size+1,2,none⟩=some (.int .i64 0):=cH q2 rfl
   have f2:w2.frozen? ⟨w.heap.size+1,2,none⟩=false:=fH q2
   have x3:w2.cell? ⟨w.heap.size+1,3,none⟩=some (.slice none 0 0):=cH q2 rfl
   have f3:w2.frozen? ⟨w.heap.size+1,3,none⟩=false:=fH q2
   have HP:=Lh (aI hm2 (aI hp hmk2))
   have HQ2:=Lh q2
   clear hm2 hp hmk2 q2 hmk1
   go_wp2_with fail
   have hq3:=put4_heap HQ2.out (.int .i64 5) (.int .i64 0) (.int .i64 0) (.slice u.a l.length u.cap)
   have hm3:=put4_mod w2 (w.heap.size+1) 0 (.int .i64 5) (.int .i64 0) (.int .i64 0) (.slice u.a l.length u.cap)
   unfold put4 at hq3 hm3
   simp only [Nat.zero_add] at hq3 hm3
   generalize (((w2.setCell _ _).setCell _ _).setCell _ _).setCell _ _=W3 at hq3 hm3 ⊢
   have HY:=Lh (aI hq3 hm3)
   have y0:W3.cell? ⟨w.heap.size+1,0,none⟩=some (.int .i64 5):=cH hq3 rfl
   have y1:W3.cell? ⟨w.heap.size+1,1,none⟩=some (.int .i64 0):=cH hq3 rfl
   have y2:W3.cell? ⟨w.heap.size+1,2,none⟩=some (.int .i64 0):=cH hq3 rfl
   have y3:W3.cell? ⟨w.heap.size+1,3,none⟩=some (.slice u.a l.length u.cap):=cH hq3 rfl
   clear hq3 hm3
   refine bodyPost_ret (v:=.agg #[.int .i64 5,.int .i64 0,.int .i64 0,.slice u.a l.length u.cap]) (by simp [results,Tryz.results38,go_sem,y0,y1,y2,y3]) rfl ?_
   obtain ⟨g1,g2⟩:=HFN.out W3 ((HP.out.1.mono (fun _ h=>.inl h)).trans HY.out.2 (fun _ _ h=>.inr (.inl h)))
   have hsz:(Tr.mk 5 0 0 ts).size=1+sizes ts:=Tr.size_mk _ _ _ _
   have hq:=HL1.out
   have hp:=HP.out.2.1
   have hcl:=Tr.close (kind:=5) (v:=0) (k:=0) (i64_small (by decide) (by decide)) (i64_small (by decide) (by decide)) (i64_small (by decide) (by decide)) g2
   rw [HTS.out] at hcl
   refine ⟨g1,.inl ⟨by omega,⟨_,rfl,hcl⟩,?_⟩⟩
   rw [hsz,show ((left:Int) - ((1+sizes ts:Nat):Int))=(l1:Int) - 1 by push_cast;omega]
   exact HP.out.2.2.kept HY.out.2 (by omega)

theorem gimp_any (n:Int) (name:Bs) (terms:List Trm) (binds:List Bnd) (l:List Frm) (fa:FrmA) (env:List Ev) (z:SlA) (s:Schl) (x:SchA) (w0 w:World) (mb left:Nat) (ts:List Tr) (hts:ts.length=l.length) (t0 t1:Tr) (hte:ts=[t0,t1]) (h0:Below w0.heap.size w0 w) (hmb0:w0.heap.size<=mb) (hx:FrmIn w0 (·<w0.heap.size) (.mk 13 name n terms binds l) fa) (hz:SlIn w (Off mb w) (env.map Ev.toD) z) (hm:MkB w mb s x left) (hl:left<=65536) (hll:l.length<=2000000)
  (hK:∀ (j:Nat) (hj:j<l.length) (t:Tr) (y1:FrmA) (W:World) (lf:Nat),ts[j]?=some t->Below w0.heap.size w0 W->lf<=left->MkB W mb s x lf->FrmIn w0 (·<w0.heap.size) l[j] y1->SlIn W (Off mb W) (env.map Ev.toD) z->Calls Tryz.prog 38 #[.pointer (some ⟨mb,0,none⟩),.slice z.a env.length z.cap,ndV (l[j],y1)] W (TreeP s x mb lf W t)) :
  Calls Tryz.prog 38 #[.pointer (some ⟨mb,0,none⟩),.slice z.a env.length z.cap,ndV (.mk 13 name n terms binds l,fa)] w (TreeP s x mb left w (.mk 5 0 0 [.mk 3 0 0 [t0],t1])):=by
 have hmlt:=hm.lt
 have HTE:=Lh hte
 obtain ⟨W0,hW0⟩:∃ W0,W0=(w.alloc (.cells (fa.cells (.mk 13 name n terms binds l)).toArray 34)).alloc (.cells #[.int .i64 0,.int .i64 0,.int .i64 0,.slice none 0 0] 39):=⟨_,rfl⟩
 have hb0:Below w.heap.size w W0:=by rw [hW0];exact ((Below.refl _ _).alloc (Nat.le_refl _) _).alloc (by simp) _
 have hz0:W0.heap.size=w.heap.size+2:=by rw [hW0];simp
 have hq0:FrmBox W0 w.heap.size (.mk 13 name n terms binds l) fa:=by rw [hW0];unfold FrmBox;rw [heap_get,if_neg (by simp),heap_get,if_pos rfl]
 have hq1:W0.heap[w.heap.size+1]?=some (.cells #[.int .i64 0,.int .i64 0,.int .i64 0,.slice none 0 0] 39 (0,0)):=by rw [hW0,heap_get,if_pos (by simp)]
 have HB:=Lh (aI hb0 (aI hq0 (aI hq1 hz0)))
 have HW0:=Lh hW0
 have HM:=Lh (aI hm hl)
 have HX:=Lh (aI h0 (aI hmb0 (aI hx (aI hz hll))))
 have HK:=Lh hK
 have HTS:=Lh hts
 have HFI:Hid (∀ (j:Nat) (hj:j<l.length),∃ y1:FrmA,FrmIn w0 (·<w0.heap.size) l[j] y1/\CellsAt w0 fa.l.b (fa.l.o+j*6) (y1.cells l[j])):=Lh (fun j hj=>hx.l.frm j hj)
 have HFS:Hid (SlAt (·<w0.heap.size) fa.l.a fa.l.b fa.l.o l.length):=Lh (by have:=hx.l.at_;simp only [Frm.l,List.length_map] at this;exact this)
 obtain ⟨c0,c1,c2,c3,c4,c5⟩:=hq0.cells
 obtain ⟨i0,hi0,hz0',hz1',hz2'⟩:=info_parts infoTree
 clear hb0 hq0 hq1 hW0 hm hl hz0 h0 hmb0 hx hz hK hts hll hte
 simp only [ndV,FrmA.cells,SlA.val,Frm.kind,Frm.name,Frm.n,Frm.terms,Frm.binds,Frm.l] at HW0 c0 c1 c2 c3 c4 c5 ⊢
 go_enter Tryz.func38,Tryz.ntmps38
 go_wp2_with fail
 rw [<- HW0.out]
 go_wp2_with fail
 clear c0 c1 c2 c3 c4 c5
 go_loopw [7,29] (fun v i wr=>∃ j:Nat,j<=l.length/\i=.int .i64 j/\Hid (KidsAt wr W0.heap.size 39 v (ts.take j)/\Chalk.Mod (fun k=>k=mb) W0 wr/\sizes (ts.take j)<=left/\MkB wr mb s x ((left:Int) - sizes (ts.take j)))) (fun _ i _=>l.length - (intOf i).toNat)
 case atStart =>
  refine ⟨0,Nat.zero_le _,rfl,Lh ⟨KidsAt.nil _ _ _,Chalk.Mod.refl _ _,by simp [sizes],?_⟩⟩
  rw [List.take_zero,sizes,show ((left:Int) - ((0:Nat):Int))=left by omega]
  exact (HB.out.1.block mb hmlt).trans HM.out.1
 case round =>
  obtain ⟨j,hj,rfl,HR⟩:=hrel
  obtain ⟨oa,ocap,hv⟩:=HR.out.1.form
  subst hv
  have hlen:(ts.take j).length=j:=by have:=HTS.out;rw [List.length_take];omega
  rw [hlen] at HR ⊢
  by_cases hlt:j<l.length
  ·have hjt:j<ts.length:=by have:=HTS.out;omega
   have htk:=List.take_succ_eq_append_getElem hjt
   have hsz1:=sizes_take_succ ts j hjt
   have hsz2:=sizes_take_le ts (j+1)
   obtain ⟨t,ht⟩:∃ t,ts[j]=t:=⟨_,rfl⟩
   have ht':ts[j]?=some t:=by rw [List.getElem?_eq_getElem hjt,ht]
   rw [ht] at htk hsz1
   obtain ⟨lf,hlf⟩:∃ lf,left - sizes (ts.take j)=lf:=⟨_,rfl⟩
   have hmk1:MkB wr mb s x (lf:Nat):=by rw [show ((lf:Nat):Int)=(left:Int) - sizes (ts.take j) by have:=HR.out.2.2.1;omega];exact HR.out.2.2.2
   have hbw:Below w0.heap.size w0 wr:=(HX.out.1.trans (HB.out.1.mono HX.out.1.size)).trans (HR.out.2.1.below (by have:=HX.out.1.size;have:=HB.out.1.size;omega) (fun k hk=>by have:=HX.out.2.1;omega))
   have hzw:SlIn wr (Off mb wr) (env.map Ev.toD) z:=(HX.out.2.2.2.1.agree (fun k hk=>(HR.out.2.1.block k (by have:=HB.out.2.2.2;have:=hk.1;omega) hk.2).trans (HB.out.1.block k hk.1))).mono (fun k hk=>⟨by have:=HB.out.2.2.2;have:=HR.out.2.1.size;have:=hk.1;omega,hk.2⟩)
   obtain ⟨y1,hy1,hc1⟩:=HFI.out j hlt
   obtain ⟨hla,hlb⟩:=HFS.out (by omega)
   obtain ⟨e0,e1,e2,e3,e4,e5⟩:=(hc1.agree (agree_of_below hbw) hlb).six
   have hcal:Hid (∀ W,Below wr.heap.size wr W->Calls Tryz.prog 38 #[.pointer (some ⟨mb,0,none⟩),.slice z.a env.length z.cap,ndV (l[j],y1)] W (TreeP s x mb lf W t)):=Lh (fun W hW=>HK.out j hlt t y1 W lf ht' (hbw.trans (hW.mono hbw.size)) (by omega) ((hW.block mb hmk1.lt).trans hmk1) hy1 ((hzw.agree (fun k hk=>hW.block k hk.1)).mono (fun k hk=>⟨by have:=hk.1;have:=hW.size;omega,hk.2⟩)))
   have HTK:=Lh (aI htk (aI hsz1 (aI hsz2 hlf)))
   have hblt:fa.l.b<wr.heap.size:=by have:=hbw.size;omega
   have HJ:=Lh hlen
   clear hmk1 hzw hy1 hc1 hbw hlb htk hsz1 hsz2 hlf hlen ht ht' hjt
   generalize l[j]=g at e0 e1 e2 e3 e4 e5 hcal
   obtain ⟨gk,gn,gm,gt,gb,gl⟩:=g
   rw [hla]
   simp only [ndV,FrmA.cells,SlA.val,Frm.kind,Frm.name,Frm.n,Frm.terms,Frm.binds,Frm.l] at hcal e0 e1 e2 e3 e4 e5
   go_wp2_with fail
   refine (hcal.out _ ((Below.refl _ _).alloc (Nat.le_refl _) _)).mono ?_
   rintro e w3 ⟨hm3,⟨hle3,⟨tcs,rfl,ht3⟩,hmk3⟩ | ⟨hlt3,rfl,l',hmk3⟩⟩
   rotate_left
   ·refine ⟨rfl,((Chalk.Mod.of_below (S:=fun k=>k=mb) HB.out.1).trans HR.out.2.1 (fun _ _ h=>h)).trans ((Chalk.Mod.of_below (S:=fun k=>k=mb) ((Below.refl _ _).alloc (Nat.le_refl _) _)).trans hm3 (fun _ _ h=>h)) (fun _ _ h=>h),.inr ⟨?_,rfl,l',hmk3⟩⟩
    have h1:=HTK.out.2.1
    have h2:=HTK.out.2.2.1
    have h3:=HTK.out.2.2.2
    have h4:=HR.out.2.2.1
    rw [HTE.out] at h2
    simp only [sizes] at h2
    simp only [Tr.size_mk,sizes];rw [HTE.out] at *;omega
   have hl4:=DAt.length _ _ ht3
   rw [Tr.width] at hl4
   obtain ⟨d0,d1,d2,d3,rfl⟩:=len_four hl4
   obtain ⟨tk0,tk1,tk2,ta,tn,tcap,rfl,rfl,rfl,rfl⟩:=TreeV.shape ht3
   have hmt:Chalk.Mod (fun k=>k=mb) wr w3:=(Chalk.Mod.of_below (S:=fun k=>k=mb) ((Below.refl _ _).alloc (Nat.le_refl _) _)).trans hm3 (fun _ _ h=>h)
   obtain ⟨F,ho,hd,hF⟩:=HR.out.1.call (W0:=w3) hmt (by have:=HB.out.2.2.2;omega) HR.out.2.1.size (DAt.mono (fun k hk=>⟨by have:=hk.1;simp at this;omega,hk.2⟩) _ _ ht3)
   have HO:=Lh ho
   have HD:=Lh (aI hd hF)
   have HM3:=Lh (aI hmt (aI hmk3 (aI hle3 (show W0.heap.size<=w3.heap.size by have:=HR.out.2.1.size;have:=hmt.size;omega))))
   have hmw3:wr.heap.size+1<=w3.heap.size:=by have:=hm3.size;simp at this;omega
   have HLT:=Lh (aI hlt HX.out.2.2.2.2)
   clear hm3 ht3 hmk3 hl4 hmt ho hd hF hle3 e0 e1 e2 e3 e4 e5
   have hll2:=HX.out.2.2.2.2
   have HLN:Hid (((ts.take j).map Tr.toD).length=j):=Lh (by rw [List.length_map,HJ.out])
   go_wp2_with (at_builtin;go_must (refine wpList_append_oneO (B:=w3.heap.size) rfl rfl _ _ 37 rfl 39 i0 _ 4 48 Tryz.underlying37 hi0 hz0' hz1' hz2' rfl (by decide) (.slice oa j ocap) ((ts.take j).map Tr.toD) t.toD [.int .i64 tk0,.int .i64 tk1,.int .i64 tk2,.slice ta tn tcap] 39 rfl rfl HO.out HD.out.1 HM3.out.2.2.2 (Tr.width _) (by rw [HLN.out];have:=HLT.out;unfold maxLen;omega) (by rw [HLN.out];have:=HLT.out;omega) ?_);intro ao cap w5 hon hb5;rw [HLN.out] at hon ⊢;have HON:=Lh (aI hon hb5);clear hon hb5)
   go_roundw
   case measure=>have:=HLT.out.1;simp [intOf];omega
   case rel =>
    refine ⟨j+1,by have:=HLT.out.1;omega,by go_num,Lh ⟨?_,?_,?_,?_⟩⟩
    ·rw [HTK.out.1];exact KidsAt.of HON.out.1 HD.out.2
    ·exact (HR.out.2.1.trans HM3.out.1 (fun _ _ h=>h)).behind HON.out.2
    ·have:=HTK.out;have:=HM3.out.2.2.1;have:=HR.out.2.2.1;omega
    ·rw [show ((left:Int) - ((sizes (ts.take (j+1)):Nat):Int))=(lf:Int) - t.size by have:=HTK.out.2.1;have:=HTK.out.2.2.2;have:=HR.out.2.2.1;omega]
     exact (HON.out.2.block mb (by have:=HB.out.2.2.2;omega)).trans HM3.out.2.1
  ·have hjl:j=l.length:=by omega
   subst hjl
   rw [List.take_of_length_le (by have:=HTS.out;omega)] at HR
   obtain ⟨u,hu,hsl⟩:=HR.out.1.sl
   simp only [SlA.val,Value.slice.injEq] at hu
   obtain ⟨rfl,-,rfl⟩:=hu
   have hm1:=HR.out.2.1
   have hmw:=hm1.size
   have q0:FrmBox wr w.heap.size (.mk 13 name n terms binds l) fa:=heap_kept HB.out.2.1 hm1 (by omega)
   have q1:=heap_kept HB.out.2.2.1 hm1 (by omega)
   obtain ⟨c0,_,c2,_,_,_⟩:=q0.cells
   simp only [Frm.kind,Frm.n] at c0 c2
   have hlw:w.heap.size+1<wr.heap.size:=(gS q1).1
   obtain ⟨l1,hl1⟩:∃ l1,left - sizes ts=l1:=⟨_,rfl⟩
   have hmk1:MkB wr mb s x (l1:Nat):=by rw [show ((l1:Nat):Int)=(left:Int) - sizes ts by have:=HR.out.2.2.1;omega];exact HR.out.2.2.2
   have HFN:Hid (∀ W',Chalk.Mod (fun k=>k=mb∨k=w.heap.size+1∨wr.heap.size<=k) wr W'->Chalk.Mod (fun k=>k=mb) w W'/\SlIn W' (fun k=>w.heap.size<=k/\k<W'.heap.size) (ts.map Tr.toD) u):=Lh (fun W' h=>by
    have hz:=h.size
    have hz0:=HB.out.2.2.2
    refine ⟨((Chalk.Mod.of_below (S:=fun k=>k=mb) HB.out.1).trans hm1 (fun _ _ h=>h)).trans h (fun k hk h=>?_),(hsl.agree (h.agree (fun k hk=>⟨hk.2,?_⟩))).mono (fun k hk=>⟨by have:=hk.1;omega,by have:=hk.2;omega⟩)⟩
    ·rcases h with h | h | h
     ·exact h
     ·omega
     ·omega
    ·rintro (h | h | h)
     ·have:=hk.1;omega
     ·have:=hk.1;omega
     ·have:=hk.2;omega)
   have HL1:=Lh (aI HR.out.2.2.1 hl1)
   have HQ1:=Lh (aI q0 q1)
   have HMW:=Lh hmw
   have HSL:=Lh hsl
   have hnl:decide ((l.length:Int)<(l.length:Int))=false:=by simp
   clear hm1 hsl q0 q1 hl1 hmw HR hlen hlt hj HK HFI HFS
   have hsl2:=HSL.out
   have hte:=HTE.out
   rw [hte] at hsl2
   obtain ⟨k00,k01,k02,ka0,kn0,kc0,hc0,hd0⟩:=hsl2.tre 0 (by simp)
   obtain ⟨k10,k11,k12,ka1,kn1,kc1,hc1,hd1⟩:=hsl2.tre 1 (by simp)
   obtain ⟨hua,hub⟩:=hsl2.at_ (by simp)
   simp only [List.getElem_cons_zero,List.getElem_cons_succ,Nat.zero_mul,Nat.add_zero,Nat.one_mul] at hc0 hc1 hd0 hd1
   have HD01:=Lh (aI hd0 (aI hd1 hub))
   have hl2:l.length=2:=by rw [<- HTS.out,hte];rfl
   rw [hl2,hua]
   have HL2:=Lh hl2
   have HKS:Hid (∀ w',Chalk.Mod (fun k=>k=mb) wr w'->w'.cell? ⟨u.b,u.o,none⟩=some (.int .i64 k00)/\w'.cell? ⟨u.b,u.o+1,none⟩=some (.int .i64 k01)/\w'.cell? ⟨u.b,u.o+2,none⟩=some (.int .i64 k02)/\w'.cell? ⟨u.b,u.o+3,none⟩=some (.slice ka0 kn0 kc0)/\w'.cell? ⟨u.b,u.o+4,none⟩=some (.int .i64 k10)/\w'.cell? ⟨u.b,u.o+5,none⟩=some (.int .i64 k11)/\w'.cell? ⟨u.b,u.o+6,none⟩=some (.int .i64 k12)/\w'.cell? ⟨u.b,u.o+7,none⟩=some (.slice ka1 kn1 kc1)):=Lh (fun w' hW=>by
    have ha:Agree (fun k=>k=u.b) wr w':=hW.agree (fun k hk=>⟨by have:=hub.2;omega,by have:=hub.1;have:=HB.out.2.2.2;omega⟩)
    obtain ⟨a0,a1,a2,a3⟩:=(hc0.agree ha rfl).four
    obtain ⟨b0,b1,b2,b3⟩:=(hc1.agree ha rfl).four
    exact ⟨a0,a1,a2,a3,b0,b1,b2,b3⟩)
   clear hsl2 hte hc0 hc1 hd0 hd1 hub hua hl2 hnl
   go_wp2_with fail
   refine wp_region_U 12 (S:=fun w'=>w'.cell? ⟨u.b,u.o,none⟩=some (.int .i64 k00)/\w'.cell? ⟨u.b,u.o+1,none⟩=some (.int .i64 k01)/\w'.cell? ⟨u.b,u.o+2,none⟩=some (.int .i64 k02)/\w'.cell? ⟨u.b,u.o+3,none⟩=some (.slice ka0 kn0 kc0)/\w'.cell? ⟨u.b,u.o+4,none⟩=some (.int .i64 k10)/\w'.cell? ⟨u.b,u.o+5,none⟩=some (.int .i64 k11)/\w'.cell? ⟨u.b,u.o+6,none⟩=some (.int .i64 k12)/\w'.cell? ⟨u.b,u.o+7,none⟩=some (.slice ka1 kn1 kc1)) (by kernel_rfl) (HKS.out _ (Chalk.Mod.refl _ _).drew) (fun qH=>?_)
   refine tkU (i:=0) rfl qH ?_
   try simp only [Act.put,ub1,ub2,ub3]
   refine tkU (i:=1) rfl qH ?_
   try simp only [Act.put,ub1,ub2,ub3]
   refine tkU (i:=2) rfl qH ?_
   try simp only [Act.put,ub1,ub2,ub3]
   refine tkU (i:=3) rfl qH ?_
   try simp only [Act.put,ub1,ub2,ub3]
   refine tkU (i:=4) rfl qH ?_
   try simp only [Act.put,ub1,ub2,ub3]
   refine tkU (i:=7) rfl qH ?_
   try simp only [Act.put,ub1,ub2,ub3]
   refine tkU (i:=8) rfl qH ?_
   try simp only [Act.put,ub1,ub2,ub3]
   refine tkU (i:=9) rfl qH ?_
   try simp only [Act.put,ub1,ub2,ub3]
   refine ready_U (rs:=[5]) (by kernel_rfl) (by simp) ?_
   refine cons_U rfl (fun K hK=>?_) nil_U
   go_simp
   refine hK.out _ _ ?_ (fun qI=>?_)
   ·exact HKS.out _ ((Chalk.Mod.refl _ _).drew.alloc _)
   clear hK K qH
   have qH:=qI
   clear qI
   try simp only [Act.put,ub1,ub2,ub3]
   obtain ⟨WA,hWA⟩:∃ WA,WA=(wr.alloc (.cells #[.int .i64 k00,.int .i64 k01,.int .i64 k02,.slice ka0 kn0 kc0] 39)).drew:=⟨_,rfl⟩
   have hbA:Below wr.heap.size wr WA:=by rw [hWA];exact ((Below.refl _ _).alloc (Nat.le_refl _) _).drew
   have hzA:WA.heap.size=wr.heap.size+1:=by rw [hWA];show (wr.alloc _).heap.size=_;simp
   have hkA:WA.heap[wr.heap.size]?=some (.cells #[.int .i64 k00,.int .i64 k01,.int .i64 k02,.slice ka0 kn0 kc0] 39 (0,0)):=by rw [hWA];show (wr.alloc _).heap[wr.heap.size]?=_;rw [heap_get,if_pos rfl]
   have hmkA:MkB WA mb s x (l1:Nat):=(hbA.block mb hmk1.lt).trans hmk1
   have HA:=Lh (aI hbA (aI hzA hkA))
   rw [<- hWA] at qH ⊢
   clear hWA hbA hzA hkA
   refine ready_U (rs:=[6]) (by kernel_rfl) (by simp) ?_
   refine cons_U rfl (fun K hK=>?_) nil_U
   go_simp
   go_at_call 81
   refine (part_any 3 (some ⟨wr.heap.size,0,none⟩) 1 1 s x l1 mb WA hmkA (by have:=HM.out.2;have:=HL1.out.2;omega)).mono ?_
   rintro e w2 ⟨hm2,⟨hp,rfl,hmk2⟩ | ⟨hp,rfl,hmk2⟩⟩
   rotate_left
   ·refine ⟨rfl,(HFN.out _ (((Chalk.Mod.of_below (S:=fun k=>k=mb) HA.out.1).trans hm2 (fun _ _ h=>h)).mono (fun _ h=>.inl h))).1,.inr ⟨?_,rfl,_,hmk2⟩⟩
    have h1:=HL1.out
    rw [HTE.out] at h1
    simp only [sizes] at h1
    simp only [Tr.size_mk,sizes]
    omega
   have hmt:=(Chalk.Mod.of_below (S:=fun k=>k=mb) HA.out.1).trans hm2 (fun _ _ h=>h)
   have hkB:=heap_kept HA.out.2.2 hm2 (by have:=hmk1.lt;omega)
   have HP:=Lh (aI hmt (aI hp (aI hmk2 (aI hkB (show wr.heap.size+1<=w2.heap.size by have:=hm2.size;have:=HA.out.2.1;omega)))))
   clear hm2 hp hmk2 hkB
   go_simp
   refine hK.out _ _ ?_ (fun qI=>?_)
   ·exact HKS.out _ hmt
   clear hK K qH
   have qH:=qI
   clear qI
   try simp only [Act.put,ub1,ub2,ub3]
   clear hmt
   refine ready_U (rs:=[10]) (by kernel_rfl) (by simp) ?_
   refine cons_U rfl (fun K hK=>?_) nil_U
   go_simp
   refine hK.out _ _ ?_ (fun qI=>?_)
   ·exact HKS.out _ (HP.out.1.alloc _)
   clear hK K qH
   have qH:=qI
   clear qI
   try simp only [Act.put,ub1,ub2,ub3]
   obtain ⟨l2,hl2⟩:∃ l2,l1 - 1=l2:=⟨_,rfl⟩
   obtain ⟨WB,hWB⟩:∃ WB,WB=w2.alloc (.cells #[.int .i64 3,.int .i64 0,.int .i64 0,.slice (some ⟨wr.heap.size,0,none⟩) 1 1,.int .i64 k10,.int .i64 k11,.int .i64 k12,.slice ka1 kn1 kc1] 39):=⟨_,rfl⟩
   have hbB:Below w2.heap.size w2 WB:=by rw [hWB];exact (Below.refl _ _).alloc (Nat.le_refl _) _
   have hkB:WB.heap[w2.heap.size]?=some (.cells #[.int .i64 3,.int .i64 0,.int .i64 0,.slice (some ⟨wr.heap.size,0,none⟩) 1 1,.int .i64 k10,.int .i64 k11,.int .i64 k12,.slice ka1 kn1 kc1] 39 (0,0)):=by rw [hWB,heap_get,if_pos rfl]
   have hzB:WB.heap.size=w2.heap.size+1:=by rw [hWB];simp
   have hmkB:MkB WB mb s x (l2:Nat):=by
    rw [show ((l2:Nat):Int)=(l1:Int) - 1 by have:=HP.out.2.1;omega]
    exact (hbB.block mb HP.out.2.2.1.lt).trans HP.out.2.2.1
   have HBB:=Lh (aI hbB (aI hkB (aI hzB hl2)))
   rw [<- hWB] at qH ⊢
   clear hWB hbB hkB hzB hl2
   refine ready_U (rs:=[11]) (by kernel_rfl) (by simp) ?_
   refine cons_U rfl (fun K hK=>?_) nil_U
   go_simp
   go_at_call 81
   refine (part_any 5 (some ⟨w2.heap.size,0,none⟩) 2 2 s x l2 mb WB hmkB (by have:=HM.out.2;have:=HL1.out.2;have:=HBB.out.2.2.2;omega)).mono ?_
   rintro e w3 ⟨hm2,⟨hp,rfl,hmk2⟩ | ⟨hp,rfl,hmk2⟩⟩
   rotate_left
   ·refine ⟨rfl,(HFN.out _ ((HP.out.1.trans ((Chalk.Mod.of_below (S:=fun k=>k=mb) HBB.out.1).trans hm2 (fun _ _ h=>h)) (fun _ _ h=>h)).mono (fun _ h=>.inl h))).1,.inr ⟨?_,rfl,_,hmk2⟩⟩
    have h1:=HL1.out
    rw [HTE.out] at h1
    simp only [sizes] at h1
    simp only [Tr.size_mk,sizes]
    have h2:=HBB.out.2.2.2
    have h3:=HP.out.2.1
    omega
   have hmt:=HP.out.1.trans ((Chalk.Mod.of_below (S:=fun k=>k=mb) HBB.out.1).trans hm2 (fun _ _ h=>h)) (fun _ _ h=>h)
   have hmwr:=hmk1.lt
   have q3:=heap_kept HQ1.out.2 hmt (by omega)
   have hlw3:w.heap.size+1<w3.heap.size:=(gS q3).1
   have HP3:=Lh (aI hmt (aI hp (aI hmk2 (aI (heap_kept ((HBB.out.1.block _ (by have:=HP.out.2.2.2.2;omega)).trans HP.out.2.2.2.1) hm2 (by omega)) (aI (heap_kept HBB.out.2.1 hm2 (by have:=HP.out.2.2.2.2;omega)) (show w2.heap.size+1<=w3.heap.size by have:=hm2.size;have:=HBB.out.2.2.1;omega))))))
   have x0:w3.cell? ⟨w.heap.size+1,0,none⟩=some (.int .i64 0):=cH q3 rfl
   have f0:w3.frozen? ⟨w.heap.size+1,0,none⟩=false:=fH q3
   have x1:w3.cell? ⟨w.heap.size+1,1,none⟩=some (.int .i64 0):=cH q3 rfl
   have f1:w3.frozen? ⟨w.heap.size+1,1,none⟩=false:=fH q3
   have x2:w3.cell? ⟨w.heap.size+1,2,none⟩=some (.int .i64 0):=cH q3 rfl
   have f2:w3.frozen? ⟨w.heap.size+1,2,none⟩=false:=fH q3
   have x3:w3.cell? ⟨w.heap.size+1,3,none⟩=some (.slice none 0 0):=cH q3 rfl
   have f3:w3.frozen? ⟨w.heap.size+1,3,none⟩=false:=fH q3
   have HQ3:=Lh q3
   clear hm2 hp hmk2 q3
   go_simp
   refine hK.out _ _ ?_ (fun qI=>?_)
   ·exact HKS.out _ hmt
   clear hK K qH
   have qH:=qI
   clear qI
   try simp only [Act.put,ub1,ub2,ub3]
   clear hmt
   refine ready_U (rs:=[12]) (by kernel_rfl) (by simp) ?_
   refine cons_V rfl (by kernel_rfl) (fun K hK=>?_) nil_U
   go_simp
   refine hK.out _ _ ?_
   clear hK K
   try simp only [Act.put,ub1,ub2,ub3]
   refine done_U (by kernel_rfl) ?_ _
   clear qH hmk1 hmkA hmkB
   go_wp2_with fail
   have hq3:=put4_heap HQ3.out (.int .i64 5) (.int .i64 0) (.int .i64 0) (.slice (some ⟨w2.heap.size,0,none⟩) 2 2)
   have hm3:=put4_mod w3 (w.heap.size+1) 0 (.int .i64 5) (.int .i64 0) (.int .i64 0) (.slice (some ⟨w2.heap.size,0,none⟩) 2 2)
   unfold put4 at hq3 hm3
   simp only [Nat.zero_add] at hq3 hm3
   generalize (((w3.setCell _ _).setCell _ _).setCell _ _).setCell _ _=W3 at hq3 hm3 ⊢
   have HY:=Lh (aI hq3 hm3)
   have y0:W3.cell? ⟨w.heap.size+1,0,none⟩=some (.int .i64 5):=cH hq3 rfl
   have y1:W3.cell? ⟨w.heap.size+1,1,none⟩=some (.int .i64 0):=cH hq3 rfl
   have y2:W3.cell? ⟨w.heap.size+1,2,none⟩=some (.int .i64 0):=cH hq3 rfl
   have y3:W3.cell? ⟨w.heap.size+1,3,none⟩=some (.slice (some ⟨w2.heap.size,0,none⟩) 2 2):=cH hq3 rfl
   clear hq3 hm3
   refine bodyPost_ret (v:=.agg #[.int .i64 5,.int .i64 0,.int .i64 0,.slice (some ⟨w2.heap.size,0,none⟩) 2 2]) (by simp [results,Tryz.results38,go_sem,y0,y1,y2,y3]) rfl ?_
   have hmW:Chalk.Mod (fun k=>k=mb∨k=w.heap.size+1∨wr.heap.size<=k) wr W3:=(HP3.out.1.mono (fun _ h=>.inl h)).trans HY.out.2 (fun _ _ h=>.inr (.inl h))
   have g1:=(HFN.out W3 hmW).1
   have hwz:=HMW.out
   have hz0:=HB.out.2.2.2
   have hzw:=hmW.size
   have hk0:=heap_kept HP3.out.2.2.2.1 HY.out.2 (by omega)
   have hk1:=heap_kept HP3.out.2.2.2.2.1 HY.out.2 (by have:=HP.out.2.2.2.2;omega)
   have hag:∀ k,(W0.heap.size<=k/\k<wr.heap.size)->W3.heap[k]?=wr.heap[k]?:=fun k hk=>hmW.block k hk.2 (by rintro (h | h | h) <;> omega)
   have hd0:DAt W3 (fun k=>w.heap.size<=k/\k<W3.heap.size) t0.toD [.int .i64 k00,.int .i64 k01,.int .i64 k02,.slice ka0 kn0 kc0]:=DAt.mono (fun k hk=>⟨by omega,by omega⟩) _ _ (DAt.agree hag _ _ HD01.out.1)
   have hd1:DAt W3 (fun k=>w.heap.size<=k/\k<W3.heap.size) t1.toD [.int .i64 k10,.int .i64 k11,.int .i64 k12,.slice ka1 kn1 kc1]:=DAt.mono (fun k hk=>⟨by omega,by omega⟩) _ _ (DAt.agree hag _ _ HD01.out.2.1)
   have hs0:SlIn W3 (fun k=>w.heap.size<=k/\k<W3.heap.size) ([t0].map Tr.toD) ⟨some ⟨wr.heap.size,0,none⟩,wr.heap.size,0,1⟩:=SlIn.lit hk0 (DsAt.oneT hd0) ⟨by omega,(gS hk0).1⟩ (by simp) (by unfold maxLen;omega)
   have hn0:=Tr.close (kind:=3) (v:=0) (k:=0) (i64_small (by decide) (by decide)) (i64_small (by decide) (by decide)) (i64_small (by decide) (by decide)) hs0
   have hs1:SlIn W3 (fun k=>w.heap.size<=k/\k<W3.heap.size) ([Tr.mk 3 0 0 [t0],t1].map Tr.toD) ⟨some ⟨w2.heap.size,0,none⟩,w2.heap.size,0,2⟩:=SlIn.lit hk1 (by
    simp only [List.map_cons,List.map_nil]
    rw [DsAt]
    exact ⟨_,_,rfl,hn0,DsAt.oneT hd1⟩) ⟨by have:=HP.out.2.2.2.2;omega,(gS hk1).1⟩ (by simp) (by unfold maxLen;omega)
   have hcl:=Tr.close (kind:=5) (v:=0) (k:=0) (i64_small (by decide) (by decide)) (i64_small (by decide) (by decide)) (i64_small (by decide) (by decide)) hs1
   have hsz:(Tr.mk 5 0 0 [.mk 3 0 0 [t0],t1]).size=2+sizes ts:=by rw [HTE.out];simp only [Tr.size_mk,sizes];omega
   have hq:=HL1.out
   have hp:=HP.out.2.1
   have hp3:=HP3.out.2.1
   have hl2:=HBB.out.2.2.2
   refine ⟨g1,.inl ⟨by omega,⟨_,rfl,hcl⟩,?_⟩⟩
   rw [hsz,show ((left:Int) - ((2+sizes ts:Nat):Int))=(l2:Int) - 1 by push_cast;omega]
   exact HP3.out.2.2.1.kept HY.out.2 (by omega)
end Go.Proofs.YtjjkfgjnadaheaaGreatDoor
