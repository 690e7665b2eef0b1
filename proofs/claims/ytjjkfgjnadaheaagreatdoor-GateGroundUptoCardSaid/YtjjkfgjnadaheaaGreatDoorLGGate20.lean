/- Joined texts: GEach, EvG, EvH, EvI, EvJ, EvK, EvL, EvM, EvN. -/
import Derived.Test.YtjjkfgjnadaheaaGreatDoorLGGate19
import Derived.Test.YtjjkfgjnadaheaaGreatDoorLGGate13
import Derived.Test.YtjjkfgjnadaheaaGreatDoorLGGate9
import Derived.Test.YtjjkfgjnadaheaaGreatDoorLGGate3
import Derived.Deep.RegionHeld3
set_option maxHeartbeats 8000000
set_option maxRecDepth 100000
set_option linter.unusedVariables false
set_option linter.unusedSimpArgs false
/- ground's maker: the operands of a quantifier. (written by tools/gen_geach.py) -/
namespace Go.Proofs.YtjjkfgjnadaheaaGreatDoor
open Go.RowKit Go.Chalk
attribute [local go_sem] Oper.semAt_some
def Off (mb:Nat) (W:World) (k:Nat):Prop:=k<W.heap.size/\k ≠ mb
def TreeP (s:Schl) (x:SchA) (mb left:Nat) (W:World) (t:Tr) (e:Ending) (W':World):Prop :=
 Chalk.Mod (fun k=>k=mb) W W'/\((t.size<=left/\(∃ cs,e=.returned (.agg cs.toArray)/\DAt W' (fun k=>W.heap.size<=k/\k<W'.heap.size) t.toD cs)/\MkB W' mb s x ((left:Int) - t.size))∨(left<t.size/\e=.panicked (fullP 151)/\∃ l',MkB W' mb s x l'))
def EachP (s:Schl) (x:SchA) (mb left:Nat) (W:World) (l:List Tr) (e:Ending) (W':World):Prop :=
 Chalk.Mod (fun k=>k=mb) W W'/\((sizes l<=left/\(∃ u:SlA,e=.returned (.slice u.a l.length u.cap)/\SlIn W' (fun k=>W.heap.size<=k/\k<W'.heap.size) (l.map Tr.toD) u)/\MkB W' mb s x ((left:Int) - sizes l))∨(left<sizes l/\e=.panicked (fullP 151)/\∃ l',MkB W' mb s x l'))

theorem infoTree:(Tryz.prog.info? 39).map (fun i=>(i.zero,i.size,i.bytes))=some (some (.agg #[.int .i64 0,.int .i64 0,.int .i64 0,.slice none 0 0]),4,48):=by kernel_rfl
theorem len_four {α:Type} {l:List α} (h:l.length=4):∃ a b c d,l=[a,b,c,d]:=by
 match l,h with
 | [a,b,c,d],_=>exact ⟨a,b,c,d,rfl⟩
theorem geach_any (w0:World) (s:Schl) (x:SchA) (env:List Ev) (z:SlA) (kind n:Int) (name:Bs) (terms:List Trm) (binds:List Bnd) (g:Frm) (fa:FrmA) (w:World) (mb left:Nat) (hI:ItoaAt) (hsm:SchSmall s) (hs:SchIn w0 (·<w0.heap.size) s x) (h0:Below w0.heap.size w0 w) (hmb0:w0.heap.size<=mb) (hm:MkB w mb s x left)
  (hx:FrmIn w0 (·<w0.heap.size) (.mk kind name n terms binds [g]) fa) (hz:SlIn w (Off mb w) (env.map Ev.toD) z) (hlen:env.length+binds.length<=2000000) (hmany:(tuplesF (sizesF s binds)).length<=1048576)
  (G:List Nat->Tr) (ih:∀ (t:List Nat) (ht:t∈tuplesF (sizesF s binds)) (y1:FrmA) (z1:SlA) (W:World) (lf:Nat),Below w0.heap.size w0 W->lf<=left->MkB W mb s x lf->FrmIn w0 (·<w0.heap.size) g y1->SlIn W (Off mb W) ((withF env binds t).map Ev.toD) z1 ->
   Calls Tryz.prog 38 #[.pointer (some ⟨mb,0,none⟩),.slice z1.a (withF env binds t).length z1.cap,ndV (g,y1)] W (TreeP s x mb lf W (G t))) :
  Calls Tryz.prog 80 #[.pointer (some ⟨mb,0,none⟩),.slice z.a env.length z.cap,ndV (.mk kind name n terms binds [g],fa)] w (EachP s x mb left w ((tuplesF (sizesF s binds)).map G)):=by
 have hmlt:=hm.lt
 have HH:=Lh (aI h0 (aI hmb0 (aI hm (aI hs (aI hx hz)))))
 have HB:=Lh (aI hI (aI hsm (aI hlen hmany)))
 have HIH:=Lh ih
 have HRW:=Lh (fun W=>rows_any mb fa.b.a binds.length fa.b.cap W)
 clear hI hsm hs h0 hmb0 hm hx hz hlen hmany ih
 simp only [ndV,FrmA.cells,SlA.val,Frm.kind,Frm.name,Frm.n,Frm.terms,Frm.binds,Frm.l,List.length_cons,List.length_nil,Nat.zero_add]
 refine calls_fix Tryz.func80 rfl ?_
 simp only [Tryz.ntmps80,List.size_toArray,List.length_cons,List.length_nil,Nat.reduceAdd,Nat.reduceSub,Array.replicate_succ,Array.replicate_zero,List.push_toArray,List.append_toArray,List.nil_append,List.cons_append]
 refine fix_seq (WpFix.of ?_)
 gi_wp2_with fail
 refine fix_seq (fix_seq (WpFix.of ?_))
 gi_wp2_with fail
 refine ⟨trivial,rfl,(callsIn_wide.2 (HRW.out _)).mono ?_⟩
 rintro e w' ⟨rfl,rfl⟩
 gi_wp2_with fail
 refine fix_block ?_
 generalize hW6:((((((w.alloc _).alloc _).alloc _).alloc _).alloc _).alloc _)=W6
 have hsz:W6.heap.size=w.heap.size+6:=by rw [<- hW6];simp
 have hb6:Below w.heap.size w W6:=by rw [<- hW6];exact ((((((Below.refl _ _).alloc (Nat.le_refl _) _).alloc (by simp) _).alloc (by simp;omega) _).alloc (by simp;omega) _).alloc (by simp;omega) _).alloc (by simp;omega) _
 have g0:W6.heap[w.heap.size]?=some (.cells #[.pointer (some ⟨mb,0,none⟩)] 83 (0,0)):=by rw [<- hW6];simp only [heap_get,World.size_alloc];repeat (first | rw [if_pos trivial] | rw [if_pos (by omega)] | rw [if_neg (by omega)])
 have g1:W6.heap[w.heap.size+1]?=some (.cells #[.slice z.a env.length z.cap] 29 (0,0)):=by rw [<- hW6];simp only [heap_get,World.size_alloc];repeat (first | rw [if_pos trivial] | rw [if_pos (by omega)] | rw [if_neg (by omega)])
 have g2:W6.heap[w.heap.size+1+1]?=some (.cells #[.int .i64 kind,.string ⟨name.toArray⟩,.int .i64 n,.slice fa.t.a terms.length fa.t.cap,.slice fa.b.a binds.length fa.b.cap,.slice fa.l.a 1 fa.l.cap] 34 (0,0)):=by rw [<- hW6];simp only [heap_get,World.size_alloc];repeat (first | rw [if_pos trivial] | rw [if_pos (by omega)] | rw [if_neg (by omega)])
 have g3:W6.heap[w.heap.size+1+1+1]?=some (.cells #[.slice none 0 0] 37 (0,0)):=by rw [<- hW6];simp only [heap_get,World.size_alloc];repeat (first | rw [if_pos trivial] | rw [if_pos (by omega)] | rw [if_neg (by omega)])
 have g4:W6.heap[w.heap.size+1+1+1+1]?=some (.cells #[.pointer (some ⟨mb,0,none⟩)] 83 (0,0)):=by rw [<- hW6];simp only [heap_get,World.size_alloc];repeat (first | rw [if_pos trivial] | rw [if_pos (by omega)] | rw [if_neg (by omega)])
 have g5:W6.heap[w.heap.size+1+1+1+1+1]?=some (.cells #[.slice fa.b.a binds.length fa.b.cap] 31 (0,0)):=by rw [<- hW6];simp only [heap_get,World.size_alloc];repeat (first | rw [if_pos trivial] | rw [if_pos (by omega)] | rw [if_neg (by omega)])
 have hw06:Below w0.heap.size w0 W6:=HH.out.1.trans (hb6.mono HH.out.1.size)
 have hrow:RowsIn s x binds fa.b (·<w0.heap.size) (w.heap.size+1+1+1+1+1) (w.heap.size+1+1+1+1) mb W6:=⟨HH.out.2.2.2.1.agree (agree_of_below hw06),HH.out.2.2.2.2.1.binds.agree (agree_of_below hw06),g5,g4⟩
 have hit:=rows1_iter s x binds fa.b W6 (w.heap.size+1+1+1+1+1) (w.heap.size+1+1+1+1) mb (·<w0.heap.size) HB.out.1 HB.out.2.1 hrow (by have:=HB.out.2.2.1;omega)
 have hmk6:MkB W6 mb s x left:=(hb6.block mb hmlt).trans HH.out.2.2.1
 have h0w:=HH.out.1.size
 have hw0m:=HH.out.2.1
 have G6:=Lh (aI hsz (aI hb6 (aI g0 (aI g1 (aI g2 (aI g3 (aI hmk6 hw06)))))))
 have HIT:=Lh hit
 have HSL:Hid ((sizesF s binds).length=binds.length):=Lh (by simp [sizesF])
 clear hW6 hsz hb6 g0 g1 g2 g3 g4 g5 hw06 hrow hit hmk6 HRW
 refine fix_rangeP (fnc:=Tryz.f80) Tryz.func80 (gf:=207) (lb:=#[.pointer (some ⟨w.heap.size+1+1+1+1+1,0,none⟩),.pointer (some ⟨w.heap.size+1+1+1+1,0,none⟩)]) rfl (enters_of Tryz.func207 (by kernel_rfl) rfl)
  HIT.out rfl (fun k=>k=mb∨k=(w.heap.size+1+1+1)) (fun k hk=>by have:=G6.out.1;rcases hk with h | h | h <;> constructor <;> omega) (fun k hk=>by have:=G6.out.1;omega)
  (fun i T1 W=>BoxMb W mb (w.heap.size+1+1+1) 37 39 ((((tuplesF (sizesF s binds)).map G).take i).map Tr.toD) T1/\sizes (((tuplesF (sizesF s binds)).map G).take i)<=left/\MkB W mb s x ((left:Int) - sizes (((tuplesF (sizesF s binds)).map G).take i)))
  (fun _ _ _ _=>False) (fun ch T1 W=>ch=fullP 151/\left<sizes ((tuplesF (sizesF s binds)).map G)/\∃ l',MkB W mb s x l') (fun i T1 W h=>⟨_,h.2.2⟩)
  (fun i T' A B S h hm hS=>⟨h.1.kept hm (fun k hk=>(hS k hk).2),h.2.1,h.2.2.kept hm (fun hk=>(hS _ hk).2 h.1.mb)⟩) (fun _=>false_stab) ?h0
  (fun l i a' T1 W=>∃ (z1:SlA) (S:Nat->Prop),(∀ k,S k->¬ T1 k/\k ≠ l/\k<W.heap.size)/\SlIn W S (dints (nats ((tuplesF (sizesF s binds))[i]?.getD []))) z1/\a' = { tmps:=#[.pointer (some ⟨mb,0,none⟩),.slice z.a env.length z.cap,.agg #[.int .i64 kind,.string ⟨name.toArray⟩,.int .i64 n,.slice fa.t.a terms.length fa.t.cap,.slice fa.b.a binds.length fa.b.cap,.slice fa.l.a 1 fa.l.cap],.pointer (some ⟨w.heap.size,0,none⟩),.pointer (some ⟨w.heap.size+1,0,none⟩),.pointer (some ⟨w.heap.size+1+1,0,none⟩),.pointer (some ⟨w.heap.size+1+1+1,0,none⟩),.slice z1.a binds.length z1.cap,.pointer (some ⟨mb,0,none⟩),.pointer (some ⟨w.heap.size+1+1,4,none⟩),.slice fa.b.a binds.length fa.b.cap,.func (.func 207) #[] #[.pointer (some ⟨w.heap.size+1+1+1+1+1,0,none⟩),.pointer (some ⟨w.heap.size+1+1+1+1,0,none⟩)],.slice z1.a binds.length z1.cap,undef,undef,undef,undef,undef,undef,undef,undef,undef,undef,undef,undef,undef,undef,undef,undef,undef],defers:=[] })
  ?hAx ?assign ?body ?done ?stop ?panic
 case h0=>exact ⟨⟨fun k=>k=(w.heap.size+1+1+1),fun k=>⟨fun h=>h.symm,fun h=>h.symm⟩,.slice none 0 0,none,G6.out.2.2.2.2.2.1,rfl,(fun _ h=>by cases h),(fun k hk=>by have:=G6.out.1;have hk':k=(w.heap.size+1+1+1):=hk;omega),Chalk.Own.nil _ _ _ _ (fun k hk=>absurd hk.1 hk.2.1)⟩,by simp [sizes],by simpa [sizes] using G6.out.2.2.2.2.2.2.1⟩
 case hAx =>
  rintro l i a' T1 A B ⟨z1,S,h1,h2,h3⟩ hm
  exact ⟨z1,S,fun k hk=>⟨(h1 k hk).1,(h1 k hk).2.1,Nat.lt_of_lt_of_le (h1 k hk).2.2 hm.size⟩,h2.agree (hm.agree (fun k hk=>⟨(h1 k hk).2.2,(h1 k hk).2.1⟩)),h3⟩
 case assign =>
  rintro l i v S T1 W K hi ⟨z1,rfl,hz1⟩ hv hS hext hm hI hT1 hlt hK
  have HA:=Lh (aI hI (aI hz1 hS))
  have HKK:=Lh hK
  clear hK hI hz1 hS hv hext hm hT1
  simp only [SlA.val]
  rw [HSL.out]
  gi_wp2_with fail
  exact HKK.out _ T1 _ (fun k hk=>.inl (.inl hk)) (Chalk.Mod.refl _ _) HA.out.1 ⟨z1,S,fun k hk=>⟨(HA.out.2.2 k hk).2.2.1,(HA.out.2.2 k hk).2.2.2,(HA.out.2.2 k hk).2.1⟩,HA.out.2.1,rfl⟩
 case stop=>intro _ _ _ _ _ _ _ _ _ _ _ _ h;exact h.elim
 case body =>
  rintro l i T1 a' W hi hext hm hI ⟨z1,S,hS,hz1,rfl⟩ hT1 hwl hnl hlp
  have hd:=G6.out
  have hW6:W6.heap.size<=W.heap.size:=hm.size
  have hH0:∀ k,(k=mb∨k=w.heap.size+1+1+1)->k=mb∨k=w.heap.size+1+1+1:=fun _ h=>h
  have f0:=heap_kept hd.2.2.1 hm (by rintro (h | h) <;> omega)
  have f1:=heap_kept hd.2.2.2.1 hm (by rintro (h | h) <;> omega)
  have f2:=heap_kept hd.2.2.2.2.1 hm (by rintro (h | h) <;> omega)
  have hbW0:Below w0.heap.size w0 W:=hd.2.2.2.2.2.2.2.trans (hm.below hd.2.2.2.2.2.2.2.size (by rintro k (h | h) <;> omega))
  obtain ⟨TS,hTS⟩:∃ TS,(tuplesF (sizesF s binds)).map G=TS:=⟨_,rfl⟩
  have hgt:(tuplesF (sizesF s binds))[i]?.getD []=(tuplesF (sizesF s binds))[i]:=by rw [List.getElem?_eq_getElem hi];rfl
  have hmem:(tuplesF (sizesF s binds))[i]∈tuplesF (sizesF s binds):=List.getElem_mem _
  have hil:i<TS.length:=by rw [<- hTS,List.length_map];exact hi
  have hTSi:TS[i]=G (tuplesF (sizesF s binds))[i]:=by simp only [<- hTS,List.getElem_map]
  have hsz1:=sizes_take_succ TS i hil
  have hsz2:=sizes_take_le TS (i+1)
  have htk:(TS.take (i+1)).map Tr.toD=(TS.take i).map Tr.toD++[(G (tuplesF (sizesF s binds))[i]).toD]:=by rw [List.take_succ_eq_append_getElem hil,List.map_append,hTSi];rfl
  rw [hTSi] at hsz1
  have hmany:=HB.out.2.2.2
  have hil2:i<=1048576:=by omega
  rw [hTS] at hI
  obtain ⟨⟨T',hTT,v,r,b1,b2,b3,b4,b5⟩,hle,hmkW⟩:=hI
  have hxn:((TS.take i).map Tr.toD).length=i:=by rw [List.length_map,List.length_take];omega
  obtain ⟨oa,ocap,hv⟩:=b5.form
  subst hv
  rw [hxn] at b1 b5
  rw [hgt] at hz1
  generalize (tuplesF (sizesF s binds))[i]=t at hz1 hmem hsz1 htk
  have htl:t.length=binds.length:=((tuples_mem _ _).1 hmem).1.trans (by simp [sizesF])
  obtain ⟨lf,hlf⟩:∃ lf,left - sizes (TS.take i)=lf:=⟨_,rfl⟩
  have hmk1:MkB W mb s x (lf:Nat):=by rw [show ((lf:Nat):Int)=(left:Int) - sizes (TS.take i) by omega];exact hmkW
  obtain ⟨y1,hy1,hc1⟩:=HH.out.2.2.2.2.1.l.frm 0 (by simp [Frm.l])
  have hla:=(HH.out.2.2.2.2.1.l.at_ (by simp [Frm.l]))
  simp only [Frm.l,List.getElem_cons_zero,Nat.zero_mul,Nat.add_zero] at hy1 hc1 hla
  obtain ⟨hla,hlb⟩:=hla
  have hzW:SlIn W (Off mb W) (env.map Ev.toD) z:=(HH.out.2.2.2.2.2.agree (fun k hk=>(hm.block k (by have:=hd.2.1.size;have:=hk.1;omega) (by rintro (h | h);exact hk.2 h;have:=hk.1;omega)).trans (hd.2.1.block k hk.1))).mono (fun k hk=>⟨by have:=hk.1;omega,hk.2⟩)
  have hzt:SlIn W (·<W.heap.size) (dints (nats t)) z1:=hz1.mono (fun k hk=>(hS k hk).2.2)
  have hbb:SlIn W (·<W.heap.size) (binds.map Bnd.toD) fa.b:=(HH.out.2.2.2.2.1.binds.agree (agree_of_below hbW0)).mono (fun k hk=>by have:=hbW0.size;omega)
  have hmW:mb<W.heap.size:=by omega
  have HWT:Hid (∀ W':World,Below W.heap.size W W'->Calls Tryz.prog 152 #[.slice z.a env.length z.cap,.slice fa.b.a binds.length fa.b.cap,.slice z1.a binds.length z1.cap] W' fun e w'=>∃ x0:SlA,e=.returned (.slice x0.a (withF env binds t).length x0.cap)/\SlIn w' (Off mb w') ((withF env binds t).map Ev.toD) x0/\Below W'.heap.size W' w'):=Lh (fun W' hW'=>by
   have h:=gwith_any env z binds fa.b t z1 W' ((hzW.mono (fun k hk=>hk.1)).later hW' hW'.size) (hbb.later hW' hW'.size) (hzt.later hW' hW'.size) HB.out.2.2.1 htl
   rw [htl] at h
   refine h.mono ?_
   rintro e w' ⟨v,rfl,⟨r',h1,h2⟩,hb⟩
   have h3:=h1.read (G:=Off mb w') (fun _ h=>h.elim) (fun k hk=>⟨h1.row_lt hk,by have:=h2 k hk;have:=hW'.size;omega⟩) (by rw [widths_map Ev.flatT,List.length_map])
   obtain ⟨x0,hx0,hs0⟩:=DAt.sl_iff.1 h3
   simp only [List.cons.injEq,and_true] at hx0
   exact ⟨x0,by rw [hx0,List.length_map],hs0,hb⟩)
  have HTR:Hid (∀ (w2 W':World) (x0:SlA),Below W.heap.size W w2->SlIn w2 (Off mb w2) ((withF env binds t).map Ev.toD) x0->Below w2.heap.size w2 W'->Calls Tryz.prog 38 #[.pointer (some ⟨mb,0,none⟩),.slice x0.a (withF env binds t).length x0.cap,ndV (g,y1)] W' (TreeP s x mb lf W' (G t))):=Lh (fun w2 W' x0 h1 h2 h3=>by
   have h13:=h1.trans (h3.mono h1.size)
   exact HIH.out t hmem y1 x0 W' lf (hbW0.trans (h13.mono hbW0.size)) (by omega) ((h13.block mb hmW).trans hmk1) hy1 ((h2.agree (fun k hk=>h3.block k hk.1)).mono (fun k hk=>⟨by have:=h3.size;have:=hk.1;omega,hk.2⟩)))
  have HPN:Hid (∀ Wt w3:World,Chalk.Mod (fun k=>k=mb) W Wt->Chalk.Mod (fun k=>k=mb) Wt w3->lf<(G t).size->(∃ l',MkB w3 mb s x l')->∃ T'',Ext T1 T'' W w3/\Chalk.Mod T1 W w3/\fullP 151=fullP 151/\left<sizes ((tuplesF (sizesF s binds)).map G)/\∃ l',MkB w3 mb s x l') :=
   Lh (fun Wt w3 h1 h2 h3 h4=>⟨T1,Ext.refl _ _ _,(h1.trans h2 (fun _ _ h=>h)).mono (fun k hk=>(hTT k).2 (.inr hk)),rfl,by rw [hTS];omega,h4⟩)
  rw [hla] at f2 ⊢
  have HKS:Hid (∀ w',Chalk.Mod (fun k=>k=mb) W w'->w'.cell? ⟨w.heap.size+1+1+1,0,none⟩=some (.slice oa i ocap)/\w'.cell? ⟨w.heap.size,0,none⟩=some (.pointer (some ⟨mb,0,none⟩))/\w'.cell? ⟨w.heap.size+1,0,none⟩=some (.slice z.a env.length z.cap)/\w'.cell? ⟨w.heap.size+1+1,4,none⟩=some (.slice fa.b.a binds.length fa.b.cap)/\w'.cell? ⟨w.heap.size+1+1,5,none⟩=some (.slice (some ⟨fa.l.b,fa.l.o,none⟩) 1 fa.l.cap)/\w'.cell? ⟨fa.l.b,fa.l.o,none⟩=some (.int .i64 g.kind)/\w'.cell? ⟨fa.l.b,fa.l.o+1,none⟩=some (.string ⟨g.name.toArray⟩)/\w'.cell? ⟨fa.l.b,fa.l.o+2,none⟩=some (.int .i64 g.n)/\w'.cell? ⟨fa.l.b,fa.l.o+3,none⟩=some (.slice y1.t.a g.terms.length y1.t.cap)/\w'.cell? ⟨fa.l.b,fa.l.o+4,none⟩=some (.slice y1.b.a g.binds.length y1.b.cap)/\w'.cell? ⟨fa.l.b,fa.l.o+5,none⟩=some (.slice y1.l.a g.l.length y1.l.cap)):=Lh (fun w' hW=>by
   obtain ⟨e0,e1,e2,e3,e4,e5⟩:=((hc1.agree (agree_of_below hbW0) hlb).agree (F:=fun k=>k<w0.heap.size) (fun k hk=>hW.block k (by have:=hbW0.size;omega) (by omega)) hlb).six
   have g0:=heap_kept f0 hW (by omega)
   have g1:=heap_kept f1 hW (by omega)
   have g2:=heap_kept f2 hW (by omega)
   have gH:=heap_kept b1 hW (by omega)
   exact ⟨cH gH rfl,cH g0 rfl,cH g1 rfl,cH g2 rfl,cH g2 rfl,e0,e1,e2,e3,e4,e5⟩)
  have HFN:Hid (∀ (wc w7 wf:World) (g' cap:Nat) (cs:List Value) (z0 z1 z2 z3 c0 c1 c2 c3:Value),Chalk.Mod (fun k=>k=mb) W wc->DAt wc (fun k=>W.heap.size<=k/\k<wc.heap.size) (G t).toD [c0,c1,c2,c3]->MkB wc mb s x ((lf:Int) - (G t).size)->(G t).size<=lf ->
    DsAt wc (fun k=>T' k/\k ≠ w.heap.size+1+1+1/\r ≠ some k) ((TS.take i).map Tr.toD) cs->w7.ownsRow 0 39 4 (.slice (some ⟨g',0,none⟩) (i+1) cap) (i+1) (cs++[z0,z1,z2,z3])->Chalk.Mod (fun k=>r=some k) wc w7->(r=some g'∨g'=wc.heap.size)->g'<w7.heap.size ->
    (wf=(put4 w7 g' (i*4) c0 c1 c2 c3).setCell ⟨w.heap.size+1+1+1,0,none⟩ (.slice (some ⟨g',0,none⟩) (i+1) cap)∨wf=put4 (w7.setCell ⟨w.heap.size+1+1+1,0,none⟩ (.slice (some ⟨g',0,none⟩) (i+1) cap)) g' (i*4) c0 c1 c2 c3) ->
    ∃ T2,Ext T1 T2 W wf/\Chalk.Mod T1 W wf/\BoxMb wf mb (w.heap.size+1+1+1) 37 39 ((((tuplesF (sizesF s binds)).map G).take (i+1)).map Tr.toD) T2/\sizes (((tuplesF (sizesF s binds)).map G).take (i+1))<=left/\MkB wf mb s x ((left:Int) - sizes (((tuplesF (sizesF s binds)).map G).take (i+1)))) :=
   Lh (fun wc w7 wf g' cap cs z0 z1 z2 z3 c0 c1 c2 c3 h1 h2 h3 h4 h5 h6 h7 h8 h9 h10=>by
    obtain ⟨⟨T2,k1,k2,k3⟩,k4⟩:=each_end hTT (by omega) b1 b2 b3 b4 b5 h5 h1 h2 h6 h7 h8 h9 hxn h10
    rw [hTS,hsz1,htk]
    refine ⟨T2,k1,k2,k3,by omega,?_⟩
    rw [show ((left:Int) - ((sizes (TS.take i)+(G t).size:Nat):Int))=(lf:Int) - (G t).size by push_cast;omega]
    exact k4.trans h3)
  have HOW:Hid (∀ wc,Chalk.Mod (fun k=>k=mb) W wc->Chalk.Own wc (fun k=>T' k/\k ≠ w.heap.size+1+1+1/\r ≠ some k) 39 4 (.slice oa i ocap) r ((TS.take i).map Tr.toD)):=Lh (fun wc hwc=>b5.kept hwc (fun k hk h=>by have:=(b4 k hk.1).1;omega) (fun k hk h=>by have:=(b4 k (b3 k hk).1).1;omega))
  have HH7:Hid (∀ wc w7,Chalk.Mod (fun k=>k=mb) W wc->Chalk.Mod (fun k=>r=some k) wc w7->w7.heap[w.heap.size+1+1+1]?=some (.cells #[.slice oa i ocap] 37 (0,0))):=Lh (fun wc w7 h1 h2=>heap_kept (heap_kept b1 h1 (by omega)) h2 (fun h=>(b3 _ h).2 rfl))
  have HGH:Hid (∀ (wc:World) (g':Nat),Chalk.Mod (fun k=>k=mb) W wc->(r=some g'∨g'=wc.heap.size)->g' ≠ w.heap.size+1+1+1):=Lh (fun wc g' h1 h2=>by
   rcases h2 with h | h
   ·exact (b3 _ h).2
   ·have:=h1.size;omega)
  have HXN:=Lh hxn
  have HIL:=Lh hil2
  have HTW:Hid ((G t).toD.width=4):=Lh (Tr.width _)
  have hmWd:Hid (mb<W.heap.size):=Lh hmW
  obtain ⟨i0,hi0,hz0,hz1',hz2⟩:=info_parts infoTree
  clear hd hW6 hH0 f0 f1 f2 hbW0 hgt hmem hil hTSi hsz1 hsz2 htk hmany hil2 hTT b1 b2 b3 b4 b5 hle hmkW hxn hz1 htl hlf hmk1 hy1 hc1 hla hlb hzW hzt hbb hmW hTS hext hm hT1 hwl hnl hlp hS hi
  simp only [ndV,FrmA.cells,SlA.val] at HTR
  refine wpIn_block ?_
  refine wpIn_round_U 14 (S:=fun w'=>w'.cell? ⟨w.heap.size+1+1+1,0,none⟩=some (.slice oa i ocap)/\w'.cell? ⟨w.heap.size,0,none⟩=some (.pointer (some ⟨mb,0,none⟩))/\w'.cell? ⟨w.heap.size+1,0,none⟩=some (.slice z.a env.length z.cap)/\w'.cell? ⟨w.heap.size+1+1,4,none⟩=some (.slice fa.b.a binds.length fa.b.cap)/\w'.cell? ⟨w.heap.size+1+1,5,none⟩=some (.slice (some ⟨fa.l.b,fa.l.o,none⟩) 1 fa.l.cap)/\w'.cell? ⟨fa.l.b,fa.l.o,none⟩=some (.int .i64 g.kind)/\w'.cell? ⟨fa.l.b,fa.l.o+1,none⟩=some (.string ⟨g.name.toArray⟩)/\w'.cell? ⟨fa.l.b,fa.l.o+2,none⟩=some (.int .i64 g.n)/\w'.cell? ⟨fa.l.b,fa.l.o+3,none⟩=some (.slice y1.t.a g.terms.length y1.t.cap)/\w'.cell? ⟨fa.l.b,fa.l.o+4,none⟩=some (.slice y1.b.a g.binds.length y1.b.cap)/\w'.cell? ⟨fa.l.b,fa.l.o+5,none⟩=some (.slice y1.l.a g.l.length y1.l.cap)) (by kernel_rfl) (by kernel_rfl) (HKS.out _ (Chalk.Mod.refl _ _).drew) (fun qH=>?_)
  refine tkU (i:=0) rfl qH ?_ (hQ:=tame_putB)
  try simp only [Act.put,ub1,ub2,ub3]
  refine tkU (i:=1) rfl qH ?_ (hQ:=tame_putB)
  try simp only [Act.put,ub1,ub2,ub3]
  refine tkU (i:=2) rfl qH ?_ (hQ:=tame_putB)
  try simp only [Act.put,ub1,ub2,ub3]
  refine tkU (i:=3) rfl qH ?_ (hQ:=tame_putB)
  try simp only [Act.put,ub1,ub2,ub3]
  refine tkU (i:=4) rfl qH ?_ (hQ:=tame_putB)
  try simp only [Act.put,ub1,ub2,ub3]
  refine tkU (i:=5) rfl qH ?_ (hQ:=tame_putB)
  try simp only [Act.put,ub1,ub2,ub3]
  refine tkU (i:=7) rfl qH ?_ (hQ:=tame_putB)
  try simp only [Act.put,ub1,ub2,ub3]
  refine tkU (i:=8) rfl qH ?_ (hQ:=tame_putB)
  try simp only [Act.put,ub1,ub2,ub3]
  refine tkU (i:=9) rfl qH ?_ (hQ:=tame_putB)
  try simp only [Act.put,ub1,ub2,ub3]
  refine tkU (i:=10) rfl qH ?_ (hQ:=tame_putB)
  try simp only [Act.put,ub1,ub2,ub3]
  refine tkU (i:=12) rfl qH ?_ (hQ:=tame_putB)
  try simp only [Act.put,ub1,ub2,ub3]
  refine ready_U (rs:=[6,13]) (by kernel_rfl) (by simp) ?_
  refine cons_U rfl (fun K hK=>?_) (cons_U rfl (fun K hK=>?_) nil_U)
  ·go_simp
   go_at_call 152
   refine (HWT.out _ (Below.refl W.heap.size W).drew).mono ?_
   rintro e w2 ⟨x0,rfl,hx0,hb2⟩
   have K2:=Lh (aI hx0 (Below.trans (Below.refl W.heap.size W).drew (hb2.mono (Nat.le_refl _))))
   clear hx0 hb2
   go_simp
   refine hK.out _ _ ?_ (fun qI=>?_)
   ·exact HKS.out _ (Chalk.Mod.of_below K2.out.2)
   clear hK K qH
   have qH:=qI
   clear qI
   try simp only [Act.put,ub1,ub2,ub3]
   refine ready_U (rs:=[11,13]) (by kernel_rfl) (by simp) ?_
   refine cons_U rfl (fun K hK=>?_) (cons_U rfl (fun K hK=>?_) nil_U)
   ·go_simp
    go_at_call 38
    refine (HTR.out w2 w2 x0 K2.out.2 K2.out.1 (Below.refl w2.heap.size w2)).mono ?_
    rintro e w3 ⟨hm3,⟨hle3,⟨tcs,rfl,ht3⟩,hmk3⟩ | ⟨hlt3,rfl,hmk3⟩⟩
    rotate_left
    ·exact tame_panicB rfl (HPN.out w2 w3 (Chalk.Mod.of_below (K2.out.2.trans ((Below.refl w2.heap.size w2).mono K2.out.2.size))) hm3 hlt3 hmk3)
    have hl4:=DAt.length _ _ ht3
    rw [HTW.out] at hl4
    obtain ⟨c0,c1,c2,c3,rfl⟩:=len_four hl4
    obtain ⟨tk0,tk1,tk2,ta,tn,tcap,rfl,rfl,rfl,rfl⟩:=TreeV.shape ht3
    have hmt:Chalk.Mod (fun k=>k=mb) W w3:=(Chalk.Mod.of_below (S:=fun k=>k=mb) (K2.out.2.trans ((Below.refl w2.heap.size w2).mono K2.out.2.size))).trans hm3 (fun _ _ h=>h)
    have hnew:DAt w3 (fun k=>W.heap.size<=k/\k<w3.heap.size) (G t).toD [.int .i64 tk0,.int .i64 tk1,.int .i64 tk2,.slice ta tn tcap]:=DAt.mono (fun k hk=>⟨by have:=K2.out.2.size;have h:=hk.1;(try simp only [World.size_alloc] at h);omega,hk.2⟩) _ _ ht3
    have K3:=Lh (aI hmt (aI hnew (aI hmk3 hle3)))
    clear hm3 hle3 ht3 hmk3 hl4 hmt hnew
    go_simp
    refine hK.out _ _ ?_ (fun qI=>?_)
    ·exact HKS.out _ K3.out.1
    clear hK K qH
    have qH:=qI
    clear qI
    try simp only [Act.put,ub1,ub2,ub3]
    refine ready_U (rs:=[13]) (by kernel_rfl) (by simp) ?_
    refine cons_U rfl (fun K hK=>?_) nil_U
    go_simp
    refine hK.out _ _ ?_ (fun qI=>?_)
    ·exact HKS.out _ (K3.out.1.alloc _)
    clear hK K qH
    have qH:=qI
    clear qI
    try simp only [Act.put,ub1,ub2,ub3]
    refine ready_U (rs:=[14]) (by kernel_rfl) (by simp) ?_
    refine cons_V rfl (by kernel_rfl) (fun K hK=>?_) nil_U
    refine step_append_zero (W0:=(w3.alloc (.cells #[.int .i64 0,.int .i64 0,.int .i64 0,.slice none 0 0] 39))) (by rfl) _ _ 37 (by rfl) 39 i0 _ 48 Tryz.underlying37 hi0 hz0 hz1' hz2 rfl oa ocap i _ r w3.heap.size (.int .i64 0) (.int .i64 0) (.int .i64 0) (.slice none 0 0) 39 (by rfl) (by rfl) (HOW.out _ (K3.out.1.alloc _)) HXN.out (by rw [heap_get,if_pos rfl]) (by simp [Value.oneCell']) (by have:=HIL.out;unfold maxLen;omega) (by have:=HIL.out;omega) ?_
    intro g' cap cs w7 q1 q2 q3 q4 q5
    obtain ⟨⟨x0',x1',x2',x3'⟩,xf,xl,xc⟩:=row_cells q2
    have hgH:=HGH.out _ g' (K3.out.1.alloc _) q4
    have hb7:=HH7.out _ _ (K3.out.1.alloc _) q3
    have xH:w7.cell? ⟨w.heap.size+1+1+1,0,none⟩=some (.slice oa i ocap):=cH hb7 rfl
    have xHf:w7.frozen? ⟨w.heap.size+1+1+1,0,none⟩=false:=fH hb7
    have xHl:=(gS hb7).1
    have hb7:=Lh hb7
    have HF:=Lh (fun wf h=>HFN.out (w3.alloc (.cells #[.int .i64 0,.int .i64 0,.int .i64 0,.slice none 0 0] 39)) w7 wf g' cap cs _ _ _ _ (.int .i64 tk0) (.int .i64 tk1) (.int .i64 tk2) (.slice ta tn tcap) (K3.out.1.alloc _) (DAt.mono (fun k hk=>⟨hk.1,by have:=hk.2;simp only [World.size_alloc];omega⟩) _ _ (DAt.agree ((agree_of_below ((Below.refl w3.heap.size w3).alloc (Nat.le_refl _) _)).mono (fun k hk=>hk.2)) _ _ K3.out.2.1)) (K3.out.2.2.1.alloc _) K3.out.2.2.2 q1 q2 q3 q4 q5 h)
    have xf0:=xf (i*4)
    have xf1:=xf (i*4+1)
    have xf2:=xf (i*4+2)
    have xf3:=xf (i*4+3)
    have HXF:=Lh xf
    have HXL:=Lh (aI q4 (aI xl hgH))
    have hii:(i:Int)<(i:Int)+1:=by omega
    clear q1 q2 q3 q4 xf
    refine hK.out _ _ ?_
    clear hK K
    try simp only [Act.put,ub1,ub2,ub3]
    refine take_V (i:=15) (v:=?_) rfl (by kernel_rfl) (by kernel_rfl) (by kernel_rfl) (by kernel_rfl) tame_putB (by rfl) ?_ ?_
    rotate_left
    ·intro w;go_simp;all_goals (with_reducible rfl)
    try simp only [Act.put,ub1,ub2,ub3]
    refine ready_U (rs:=[16,17]) (by kernel_rfl) (by simp) ?_
    refine cons_V rfl (by kernel_rfl) (fun K hK=>?_) (cons_V rfl (by kernel_rfl) (fun K hK=>?_) nil_U)
    ·go_simp
     refine hK.out _ _ ?_
     clear hK K
     try simp only [Act.put,ub1,ub2,ub3]
     generalize hw8:(((w7.setCell _ _).setCell _ _).setCell _ _).setCell _ _=w8
     have hm8:Chalk.Mod (fun k=>k=g') w7 w8:=by rw [<- hw8];exact put4_mod _ _ _ _ _ _ _
     have yb:=hm8.block _ xHl (Ne.symm hgH)
     have yH:w8.cell? ⟨w.heap.size+1+1+1,0,none⟩=some (.slice oa i ocap):=(World.cell?_of_block yb).trans xH
     have yHf:w8.frozen? ⟨w.heap.size+1+1+1,0,none⟩=false:=fH (yb.trans hb7.out)
     have HW8:=Lh hw8
     clear hw8 hm8 yb
     refine ready_U (rs:=[17]) (by kernel_rfl) (by simp) ?_
     refine cons_V rfl (by kernel_rfl) (fun K hK=>?_) nil_U
     go_simp
     refine hK.out _ _ ?_
     clear hK K
     try simp only [Act.put,ub1,ub2,ub3]
     refine done_U (by kernel_rfl) ?_ _
     exact tame_normalB (HF.out _ (.inl (by rw [<- HW8.out];rfl)))
    ·go_simp
     refine hK.out _ _ ?_
     clear hK K
     try simp only [Act.put,ub1,ub2,ub3]
     generalize hw8:w7.setCell _ _=w8
     have hm8:Chalk.Mod (fun k=>k=w.heap.size+1+1+1) w7 w8:=by rw [<- hw8];exact (Chalk.Mod.refl (fun k=>k=w.heap.size+1+1+1) w7).setCell (p:=⟨w.heap.size+1+1+1,0,none⟩) (fun _=>rfl) _
     have yb:=hm8.block g' xl hgH
     have y0:=(World.cell?_of_block (a:=⟨g',i*4,none⟩) yb).trans x0'
     have y1':=(World.cell?_of_block (a:=⟨g',i*4+1,none⟩) yb).trans x1'
     have y2:=(World.cell?_of_block (a:=⟨g',i*4+2,none⟩) yb).trans x2'
     have y3:=(World.cell?_of_block (a:=⟨g',i*4+3,none⟩) yb).trans x3'
     have yf0:=(World.frozen?_of_block (a:=⟨g',i*4,none⟩) yb).trans xf0
     have yf1:=(World.frozen?_of_block (a:=⟨g',i*4+1,none⟩) yb).trans xf1
     have yf2:=(World.frozen?_of_block (a:=⟨g',i*4+2,none⟩) yb).trans xf2
     have yf3:=(World.frozen?_of_block (a:=⟨g',i*4+3,none⟩) yb).trans xf3
     have HW8:=Lh hw8
     clear hw8 hm8 yb
     refine ready_U (rs:=[16]) (by kernel_rfl) (by simp) ?_
     refine cons_V rfl (by kernel_rfl) (fun K hK=>?_) nil_U
     go_simp
     refine hK.out _ _ ?_
     clear hK K
     try simp only [Act.put,ub1,ub2,ub3]
     refine done_U (by kernel_rfl) ?_ _
     exact tame_normalB (HF.out _ (.inr (by rw [<- HW8.out];rfl)))
   ·go_simp
    refine hK.out _ _ ?_ (fun qI=>?_)
    ·exact HKS.out _ ((Chalk.Mod.of_below (K2.out.2.alloc K2.out.2.size _)))
    clear hK K qH
    have qH:=qI
    clear qI
    try simp only [Act.put,ub1,ub2,ub3]
    refine ready_U (rs:=[11]) (by kernel_rfl) (by simp) ?_
    refine cons_U rfl (fun K hK=>?_) nil_U
    go_simp
    go_at_call 38
    refine (HTR.out w2 (w2.alloc (.cells #[.int .i64 0,.int .i64 0,.int .i64 0,.slice none 0 0] 39)) x0 K2.out.2 K2.out.1 ((Below.refl w2.heap.size w2).alloc (Nat.le_refl _) _)).mono ?_
    rintro e w3 ⟨hm3,⟨hle3,⟨tcs,rfl,ht3⟩,hmk3⟩ | ⟨hlt3,rfl,hmk3⟩⟩
    rotate_left
    ·exact tame_panicB rfl (HPN.out (w2.alloc (.cells #[.int .i64 0,.int .i64 0,.int .i64 0,.slice none 0 0] 39)) w3 (Chalk.Mod.of_below (K2.out.2.trans (((Below.refl w2.heap.size w2).alloc (Nat.le_refl _) _).mono K2.out.2.size))) hm3 hlt3 hmk3)
    have hl4:=DAt.length _ _ ht3
    rw [HTW.out] at hl4
    obtain ⟨c0,c1,c2,c3,rfl⟩:=len_four hl4
    obtain ⟨tk0,tk1,tk2,ta,tn,tcap,rfl,rfl,rfl,rfl⟩:=TreeV.shape ht3
    have hmt:Chalk.Mod (fun k=>k=mb) W w3:=(Chalk.Mod.of_below (S:=fun k=>k=mb) (K2.out.2.trans (((Below.refl w2.heap.size w2).alloc (Nat.le_refl _) _).mono K2.out.2.size))).trans hm3 (fun _ _ h=>h)
    have hnew:DAt w3 (fun k=>W.heap.size<=k/\k<w3.heap.size) (G t).toD [.int .i64 tk0,.int .i64 tk1,.int .i64 tk2,.slice ta tn tcap]:=DAt.mono (fun k hk=>⟨by have:=K2.out.2.size;have h:=hk.1;(try simp only [World.size_alloc] at h);omega,hk.2⟩) _ _ ht3
    have HZ3:Hid (w3.heap[w2.heap.size]?=some (.cells #[.int .i64 0,.int .i64 0,.int .i64 0,.slice none 0 0] 39 (0,0))):=Lh (heap_kept (S:=fun k=>k=mb) (by rw [heap_get,if_pos rfl]) hm3 (by have:=hmWd.out;have:=K2.out.2.size;omega))
    have K3:=Lh (aI hmt (aI hnew (aI hmk3 hle3)))
    clear hm3 hle3 ht3 hmk3 hl4 hmt hnew
    go_simp
    refine hK.out _ _ ?_ (fun qI=>?_)
    ·exact HKS.out _ K3.out.1
    clear hK K qH
    have qH:=qI
    clear qI
    try simp only [Act.put,ub1,ub2,ub3]
    refine ready_U (rs:=[14]) (by kernel_rfl) (by simp) ?_
    refine cons_V rfl (by kernel_rfl) (fun K hK=>?_) nil_U
    refine step_append_zero (W0:=w3) (by rfl) _ _ 37 (by rfl) 39 i0 _ 48 Tryz.underlying37 hi0 hz0 hz1' hz2 rfl oa ocap i _ r w2.heap.size (.int .i64 0) (.int .i64 0) (.int .i64 0) (.slice none 0 0) 39 (by rfl) (by rfl) (HOW.out _ (K3.out.1)) HXN.out (HZ3.out) (by simp [Value.oneCell']) (by have:=HIL.out;unfold maxLen;omega) (by have:=HIL.out;omega) ?_
    intro g' cap cs w7 q1 q2 q3 q4 q5
    obtain ⟨⟨x0',x1',x2',x3'⟩,xf,xl,xc⟩:=row_cells q2
    have hgH:=HGH.out _ g' (K3.out.1) q4
    have hb7:=HH7.out _ _ (K3.out.1) q3
    have xH:w7.cell? ⟨w.heap.size+1+1+1,0,none⟩=some (.slice oa i ocap):=cH hb7 rfl
    have xHf:w7.frozen? ⟨w.heap.size+1+1+1,0,none⟩=false:=fH hb7
    have xHl:=(gS hb7).1
    have hb7:=Lh hb7
    have HF:=Lh (fun wf h=>HFN.out w3 w7 wf g' cap cs _ _ _ _ (.int .i64 tk0) (.int .i64 tk1) (.int .i64 tk2) (.slice ta tn tcap) (K3.out.1) (K3.out.2.1) (K3.out.2.2.1) K3.out.2.2.2 q1 q2 q3 q4 q5 h)
    have xf0:=xf (i*4)
    have xf1:=xf (i*4+1)
    have xf2:=xf (i*4+2)
    have xf3:=xf (i*4+3)
    have HXF:=Lh xf
    have HXL:=Lh (aI q4 (aI xl hgH))
    have hii:(i:Int)<(i:Int)+1:=by omega
    clear q1 q2 q3 q4 xf
    refine hK.out _ _ ?_
    clear hK K
    try simp only [Act.put,ub1,ub2,ub3]
    refine take_V (i:=15) (v:=?_) rfl (by kernel_rfl) (by kernel_rfl) (by kernel_rfl) (by kernel_rfl) tame_putB (by rfl) ?_ ?_
    rotate_left
    ·intro w;go_simp;all_goals (with_reducible rfl)
    try simp only [Act.put,ub1,ub2,ub3]
    refine ready_U (rs:=[16,17]) (by kernel_rfl) (by simp) ?_
    refine cons_V rfl (by kernel_rfl) (fun K hK=>?_) (cons_V rfl (by kernel_rfl) (fun K hK=>?_) nil_U)
    ·go_simp
     refine hK.out _ _ ?_
     clear hK K
     try simp only [Act.put,ub1,ub2,ub3]
     generalize hw8:(((w7.setCell _ _).setCell _ _).setCell _ _).setCell _ _=w8
     have hm8:Chalk.Mod (fun k=>k=g') w7 w8:=by rw [<- hw8];exact put4_mod _ _ _ _ _ _ _
     have yb:=hm8.block _ xHl (Ne.symm hgH)
     have yH:w8.cell? ⟨w.heap.size+1+1+1,0,none⟩=some (.slice oa i ocap):=(World.cell?_of_block yb).trans xH
     have yHf:w8.frozen? ⟨w.heap.size+1+1+1,0,none⟩=false:=fH (yb.trans hb7.out)
     have HW8:=Lh hw8
     clear hw8 hm8 yb
     refine ready_U (rs:=[17]) (by kernel_rfl) (by simp) ?_
     refine cons_V rfl (by kernel_rfl) (fun K hK=>?_) nil_U
     go_simp
     refine hK.out _ _ ?_
     clear hK K
     try simp only [Act.put,ub1,ub2,ub3]
     refine done_U (by kernel_rfl) ?_ _
     exact tame_normalB (HF.out _ (.inl (by rw [<- HW8.out];rfl)))
    ·go_simp
     refine hK.out _ _ ?_
     clear hK K
     try simp only [Act.put,ub1,ub2,ub3]
     generalize hw8:w7.setCell _ _=w8
     have hm8:Chalk.Mod (fun k=>k=w.heap.size+1+1+1) w7 w8:=by rw [<- hw8];exact (Chalk.Mod.refl (fun k=>k=w.heap.size+1+1+1) w7).setCell (p:=⟨w.heap.size+1+1+1,0,none⟩) (fun _=>rfl) _
     have yb:=hm8.block g' xl hgH
     have y0:=(World.cell?_of_block (a:=⟨g',i*4,none⟩) yb).trans x0'
     have y1':=(World.cell?_of_block (a:=⟨g',i*4+1,none⟩) yb).trans x1'
     have y2:=(World.cell?_of_block (a:=⟨g',i*4+2,none⟩) yb).trans x2'
     have y3:=(World.cell?_of_block (a:=⟨g',i*4+3,none⟩) yb).trans x3'
     have yf0:=(World.frozen?_of_block (a:=⟨g',i*4,none⟩) yb).trans xf0
     have yf1:=(World.frozen?_of_block (a:=⟨g',i*4+1,none⟩) yb).trans xf1
     have yf2:=(World.frozen?_of_block (a:=⟨g',i*4+2,none⟩) yb).trans xf2
     have yf3:=(World.frozen?_of_block (a:=⟨g',i*4+3,none⟩) yb).trans xf3
     have HW8:=Lh hw8
     clear hw8 hm8 yb
     refine ready_U (rs:=[16]) (by kernel_rfl) (by simp) ?_
     refine cons_V rfl (by kernel_rfl) (fun K hK=>?_) nil_U
     go_simp
     refine hK.out _ _ ?_
     clear hK K
     try simp only [Act.put,ub1,ub2,ub3]
     refine done_U (by kernel_rfl) ?_ _
     exact tame_normalB (HF.out _ (.inr (by rw [<- HW8.out];rfl)))
  ·go_simp
   refine hK.out _ _ ?_ (fun qI=>?_)
   ·exact HKS.out _ ((Chalk.Mod.of_below ((Below.refl W.heap.size W).drew.alloc (Nat.le_refl _) _)))
   clear hK K qH
   have qH:=qI
   clear qI
   try simp only [Act.put,ub1,ub2,ub3]
   refine ready_U (rs:=[6]) (by kernel_rfl) (by simp) ?_
   refine cons_U rfl (fun K hK=>?_) nil_U
   go_simp
   go_at_call 152
   refine (HWT.out _ ((Below.refl W.heap.size W).drew.alloc (Nat.le_refl _) _)).mono ?_
   rintro e w2 ⟨x0,rfl,hx0,hb2⟩
   have Z2:w2.heap[W.heap.size]?=some (.cells #[.int .i64 0,.int .i64 0,.int .i64 0,.slice none 0 0] 39 (0,0)):=(hb2.block _ (by simp)).trans (by rw [heap_get,if_pos (show W.heap.size=W.drew.heap.size from rfl)])
   have HZ2:=Lh Z2
   clear Z2
   have K2:=Lh (aI hx0 (Below.trans ((Below.refl W.heap.size W).drew.alloc (Nat.le_refl _) _) (hb2.mono (by simp))))
   clear hx0 hb2
   go_simp
   refine hK.out _ _ ?_ (fun qI=>?_)
   ·exact HKS.out _ (Chalk.Mod.of_below K2.out.2)
   clear hK K qH
   have qH:=qI
   clear qI
   try simp only [Act.put,ub1,ub2,ub3]
   refine ready_U (rs:=[11]) (by kernel_rfl) (by simp) ?_
   refine cons_U rfl (fun K hK=>?_) nil_U
   go_simp
   go_at_call 38
   refine (HTR.out w2 w2 x0 K2.out.2 K2.out.1 (Below.refl w2.heap.size w2)).mono ?_
   rintro e w3 ⟨hm3,⟨hle3,⟨tcs,rfl,ht3⟩,hmk3⟩ | ⟨hlt3,rfl,hmk3⟩⟩
   rotate_left
   ·exact tame_panicB rfl (HPN.out w2 w3 (Chalk.Mod.of_below (K2.out.2.trans ((Below.refl w2.heap.size w2).mono K2.out.2.size))) hm3 hlt3 hmk3)
   have hl4:=DAt.length _ _ ht3
   rw [HTW.out] at hl4
   obtain ⟨c0,c1,c2,c3,rfl⟩:=len_four hl4
   obtain ⟨tk0,tk1,tk2,ta,tn,tcap,rfl,rfl,rfl,rfl⟩:=TreeV.shape ht3
   have hmt:Chalk.Mod (fun k=>k=mb) W w3:=(Chalk.Mod.of_below (S:=fun k=>k=mb) (K2.out.2.trans ((Below.refl w2.heap.size w2).mono K2.out.2.size))).trans hm3 (fun _ _ h=>h)
   have hnew:DAt w3 (fun k=>W.heap.size<=k/\k<w3.heap.size) (G t).toD [.int .i64 tk0,.int .i64 tk1,.int .i64 tk2,.slice ta tn tcap]:=DAt.mono (fun k hk=>⟨by have:=K2.out.2.size;have h:=hk.1;(try simp only [World.size_alloc] at h);omega,hk.2⟩) _ _ ht3
   have HZ3:Hid (w3.heap[W.heap.size]?=some (.cells #[.int .i64 0,.int .i64 0,.int .i64 0,.slice none 0 0] 39 (0,0))):=Lh (heap_kept (S:=fun k=>k=mb) (HZ2.out) hm3 (by have:=hmWd.out;have:=K2.out.2.size;omega))
   have K3:=Lh (aI hmt (aI hnew (aI hmk3 hle3)))
   clear hm3 hle3 ht3 hmk3 hl4 hmt hnew
   go_simp
   refine hK.out _ _ ?_ (fun qI=>?_)
   ·exact HKS.out _ K3.out.1
   clear hK K qH
   have qH:=qI
   clear qI
   try simp only [Act.put,ub1,ub2,ub3]
   refine ready_U (rs:=[14]) (by kernel_rfl) (by simp) ?_
   refine cons_V rfl (by kernel_rfl) (fun K hK=>?_) nil_U
   refine step_append_zero (W0:=w3) (by rfl) _ _ 37 (by rfl) 39 i0 _ 48 Tryz.underlying37 hi0 hz0 hz1' hz2 rfl oa ocap i _ r W.heap.size (.int .i64 0) (.int .i64 0) (.int .i64 0) (.slice none 0 0) 39 (by rfl) (by rfl) (HOW.out _ (K3.out.1)) HXN.out (HZ3.out) (by simp [Value.oneCell']) (by have:=HIL.out;unfold maxLen;omega) (by have:=HIL.out;omega) ?_
   intro g' cap cs w7 q1 q2 q3 q4 q5
   obtain ⟨⟨x0',x1',x2',x3'⟩,xf,xl,xc⟩:=row_cells q2
   have hgH:=HGH.out _ g' (K3.out.1) q4
   have hb7:=HH7.out _ _ (K3.out.1) q3
   have xH:w7.cell? ⟨w.heap.size+1+1+1,0,none⟩=some (.slice oa i ocap):=cH hb7 rfl
   have xHf:w7.frozen? ⟨w.heap.size+1+1+1,0,none⟩=false:=fH hb7
   have xHl:=(gS hb7).1
   have hb7:=Lh hb7
   have HF:=Lh (fun wf h=>HFN.out w3 w7 wf g' cap cs _ _ _ _ (.int .i64 tk0) (.int .i64 tk1) (.int .i64 tk2) (.slice ta tn tcap) (K3.out.1) (K3.out.2.1) (K3.out.2.2.1) K3.out.2.2.2 q1 q2 q3 q4 q5 h)
   have xf0:=xf (i*4)
   have xf1:=xf (i*4+1)
   have xf2:=xf (i*4+2)
   have xf3:=xf (i*4+3)
   have HXF:=Lh xf
   have HXL:=Lh (aI q4 (aI xl hgH))
   have hii:(i:Int)<(i:Int)+1:=by omega
   clear q1 q2 q3 q4 xf
   refine hK.out _ _ ?_
   clear hK K
   try simp only [Act.put,ub1,ub2,ub3]
   refine take_V (i:=15) (v:=?_) rfl (by kernel_rfl) (by kernel_rfl) (by kernel_rfl) (by kernel_rfl) tame_putB (by rfl) ?_ ?_
   rotate_left
   ·intro w;go_simp;all_goals (with_reducible rfl)
   try simp only [Act.put,ub1,ub2,ub3]
   refine ready_U (rs:=[16,17]) (by kernel_rfl) (by simp) ?_
   refine cons_V rfl (by kernel_rfl) (fun K hK=>?_) (cons_V rfl (by kernel_rfl) (fun K hK=>?_) nil_U)
   ·go_simp
    refine hK.out _ _ ?_
    clear hK K
    try simp only [Act.put,ub1,ub2,ub3]
    generalize hw8:(((w7.setCell _ _).setCell _ _).setCell _ _).setCell _ _=w8
    have hm8:Chalk.Mod (fun k=>k=g') w7 w8:=by rw [<- hw8];exact put4_mod _ _ _ _ _ _ _
    have yb:=hm8.block _ xHl (Ne.symm hgH)
    have yH:w8.cell? ⟨w.heap.size+1+1+1,0,none⟩=some (.slice oa i ocap):=(World.cell?_of_block yb).trans xH
    have yHf:w8.frozen? ⟨w.heap.size+1+1+1,0,none⟩=false:=fH (yb.trans hb7.out)
    have HW8:=Lh hw8
    clear hw8 hm8 yb
    refine ready_U (rs:=[17]) (by kernel_rfl) (by simp) ?_
    refine cons_V rfl (by kernel_rfl) (fun K hK=>?_) nil_U
    go_simp
    refine hK.out _ _ ?_
    clear hK K
    try simp only [Act.put,ub1,ub2,ub3]
    refine done_U (by kernel_rfl) ?_ _
    exact tame_normalB (HF.out _ (.inl (by rw [<- HW8.out];rfl)))
   ·go_simp
    refine hK.out _ _ ?_
    clear hK K
    try simp only [Act.put,ub1,ub2,ub3]
    generalize hw8:w7.setCell _ _=w8
    have hm8:Chalk.Mod (fun k=>k=w.heap.size+1+1+1) w7 w8:=by rw [<- hw8];exact (Chalk.Mod.refl (fun k=>k=w.heap.size+1+1+1) w7).setCell (p:=⟨w.heap.size+1+1+1,0,none⟩) (fun _=>rfl) _
    have yb:=hm8.block g' xl hgH
    have y0:=(World.cell?_of_block (a:=⟨g',i*4,none⟩) yb).trans x0'
    have y1':=(World.cell?_of_block (a:=⟨g',i*4+1,none⟩) yb).trans x1'
    have y2:=(World.cell?_of_block (a:=⟨g',i*4+2,none⟩) yb).trans x2'
    have y3:=(World.cell?_of_block (a:=⟨g',i*4+3,none⟩) yb).trans x3'
    have yf0:=(World.frozen?_of_block (a:=⟨g',i*4,none⟩) yb).trans xf0
    have yf1:=(World.frozen?_of_block (a:=⟨g',i*4+1,none⟩) yb).trans xf1
    have yf2:=(World.frozen?_of_block (a:=⟨g',i*4+2,none⟩) yb).trans xf2
    have yf3:=(World.frozen?_of_block (a:=⟨g',i*4+3,none⟩) yb).trans xf3
    have HW8:=Lh hw8
    clear hw8 hm8 yb
    refine ready_U (rs:=[16]) (by kernel_rfl) (by simp) ?_
    refine cons_V rfl (by kernel_rfl) (fun K hK=>?_) nil_U
    go_simp
    refine hK.out _ _ ?_
    clear hK K
    try simp only [Act.put,ub1,ub2,ub3]
    refine done_U (by kernel_rfl) ?_ _
    exact tame_normalB (HF.out _ (.inr (by rw [<- HW8.out];rfl)))
 case done =>
  intro D0 T' W hD0 hDlt hnD hext hm hI hdd
  have hd:=G6.out
  have htk:((tuplesF (sizesF s binds)).map G).take (tuplesF (sizesF s binds)).length=(tuplesF (sizesF s binds)).map G:=List.take_of_length_le (by rw [List.length_map];exact Nat.le_refl _)
  rw [htk] at hI
  generalize (tuplesF (sizesF s binds)).map G=TS at hI ⊢
  obtain ⟨⟨T1,hTT,v,r,b1,b2,b3,b4,b5⟩,hle,hmk⟩:=hI
  obtain ⟨u,hu,hsl⟩:=DAt.sl_iff.1 (b5.read (G:=fun k=>T1 k/\k ≠ w.heap.size+1+1+1) (fun k hk=>⟨hk.1,hk.2.1⟩) b3 (by rw [Tr.widths,List.length_map]))
  simp only [List.cons.injEq,and_true] at hu
  subst hu
  rw [List.length_map] at b1
  have hmw:Chalk.Mod (fun k=>k=mb) w W:=(Chalk.Mod.of_below (S:=fun k=>k=mb) hd.2.1).trans hm (fun k hk h=>by
   rcases h with h | h
   ·exact h
   ·omega)
  have HF:=Lh (aI b1 (aI hsl (aI hle (aI hmk (aI hmw (aI hdd (aI b4 (aI hnD (aI hTT hmlt)))))))))
  have x0:W.cell? ⟨w.heap.size+1+1+1,0,none⟩=some (.slice u.a TS.length u.cap):=cH b1 rfl
  have xf:W.frozen? ⟨w.heap.size+1+1+1,0,none⟩=false:=fH b1
  have xl:=(gS b1).1
  clear b1 b2 b3 b4 b5 hsl hle hmk hTT hext hm hdd htk hmw hd
  show WpFix _ _ _ _ _ _
  refine WpFix.of ?_
  gi_wp2_with fail
  have hHD:w.heap.size+1+1+1 ≠ D0:=by have:=G6.out.1;omega
  have h6s:=G6.out.1
  refine leaves_marks_at (v:=.slice u.a TS.length u.cap) [D0] _ (by simp) (fun d h=>by simp at h;subst h;exact (set_heap_other (fun h=>hHD h.symm)).trans HF.out.2.2.2.2.2.1) (fun W' hm'=>?_)
  have hb':W'.heap[w.heap.size+1+1+1]?=some (.cells #[.slice u.a TS.length u.cap] 37 (0,0)):=heap_kept (box_store (i:=0) (.slice u.a TS.length u.cap) HF.out.1) hm' (fun h=>by simp at h;exact hHD h)
  have hc':W'.cell? ⟨w.heap.size+1+1+1,0,none⟩=some (.slice u.a TS.length u.cap):=cH hb' rfl
  refine ⟨by simp [results,Tryz.results80,go_sem,hc'],?_⟩
  have hz1:(W.setCell ⟨w.heap.size+1+1+1,0,none⟩ (.slice u.a TS.length u.cap)).heap.size=W.heap.size:=by simp
  have hz2:=hm'.size
  have hz3:=HF.out.2.2.2.2.1.size
  refine ⟨(HF.out.2.2.2.2.1.setCell (p:=⟨w.heap.size+1+1+1,0,none⟩) (fun h=>by simp at h;omega) _).trans hm' (fun k hk h=>by simp at h;omega),.inl ⟨HF.out.2.2.1,⟨u,rfl,?_⟩,?_⟩⟩
  ·refine (HF.out.2.1.agree (fun k hk=>(hm'.block k (by have:=(HF.out.2.2.2.2.2.2.1 k hk.1).2;omega) (fun h=>?_)).trans (set_heap_other hk.2))).mono (fun k hk=>?_)
   ·simp at h;subst h;exact HF.out.2.2.2.2.2.2.2.1 ((HF.out.2.2.2.2.2.2.2.2.1 _).2 (.inl hk.1))
   ·have:=HF.out.2.2.2.2.2.2.1 k hk.1;omega
  ·have hmb':=HF.out.2.2.2.2.2.2.2.2.2
   exact (hm'.block mb (by omega) (fun h=>by simp at h;omega)).trans ((set_heap_other (by show mb ≠ w.heap.size+1+1+1;omega)).trans HF.out.2.2.2.1)
 case panic =>
  intro D0 ch T' W hD0 hDlt hnD hext hm hI hdd
  obtain ⟨rfl,hlt,l',hmk⟩:=hI
  have hd:=G6.out
  have hmw:Chalk.Mod (fun k=>k=mb) w W:=(Chalk.Mod.of_below (S:=fun k=>k=mb) hd.2.1).trans hm (fun k hk h=>by
   rcases h with h | h
   ·exact h
   ·omega)
  have h0:=hd.2.1.size
  refine leaves_marks_panic [D0] W (by simp) (fun d h=>by simp at h;subst h;exact hdd) (fun W' hm'=>⟨hmw.trans hm' (fun k hk h=>by simp at h;omega),.inr ⟨hlt,rfl,l',heap_kept hmk hm' (fun h=>by simp at h;omega)⟩⟩)
end Go.Proofs.YtjjkfgjnadaheaaGreatDoor
/- school.has and its callers. Printed by gen_has.py. -/
namespace Go.Chalk
open Go.RowKit
theorem hasF_out {l:List (List Int)} {at_ n:Int} (h:¬ (0<=at_/\at_<l.length)):hasF l at_ n=false:=by
 unfold hasF
 by_cases h1:0<=at_
 ·have h2:¬ at_<l.length:=fun h2=>h ⟨h1,h2⟩
  simp [h2]
 ·simp [h1]
theorem hasF_in {l:List (List Int)} {k:Nat} {n:Int} (h:k<l.length):hasF l (k:Int) n=(l[k]).contains n:=by
 unfold hasF
 rw [Int.toNat_natCast,List.getElem?_eq_getElem h]
 have h1:(0:Int)<=(k:Int):=by omega
 have h2:(k:Int)<(l.length:Int):=by omega
 simp only [h1,h2,decide_true,Bool.true_and,Option.getD_some]
end Go.Chalk
namespace Go.Proofs.YtjjkfgjnadaheaaGreatDoor
open Go.RowKit Go.Chalk
theorem teaches1_any (x:Lsn) (y z:SlA) (w:World):Calls Tryz.prog 323 #[.agg #[.string ⟨x.name.toArray⟩,.slice y.a x.who.length y.cap,.slice z.a x.groups.length z.cap]] w fun e w'=>e=.returned (.slice y.a x.who.length y.cap)/\Below w.heap.size w w':=by
 go_enter Tryz.func323,Tryz.ntmps323
 go_wp2_with fail
 go_ret
 exact ⟨rfl,(Below.refl _ _).alloc (Nat.le_refl _) _⟩
theorem has_teaches (l:List Lsn) (x:SlA) (at_ n:Int) (w:World) (hx:SlIn w (·<w.heap.size) (l.map Lsn.toD) x) (hl:l.length<=2000000) (hm:∀ q∈l,q.who.length<=2000000) :
  Calls Tryz.prog 322 #[.slice x.a l.length x.cap,.int .i64 at_,.func (.func 323) #[] #[],.int .i64 n] w fun e w'=>e=.returned (.bool (hasF (l.map Lsn.who) at_ n))/\Below w.heap.size w w':=by
 by_cases h1:0<=at_
 ·by_cases h2:at_<(l.length:Int)
  ·obtain ⟨k,rfl⟩:∃ k:Nat,at_=(k:Int):=⟨at_.toNat,by omega⟩
   have hk:k<l.length:=by omega
   obtain ⟨y,z,hy,hz,_,hc⟩:=hx.lsn k hk
   obtain ⟨e0,e1,e2⟩:=hc.three
   obtain ⟨hxa,_⟩:=hx.at_ (by rw [List.length_map];omega)
   have hr:hasF (l.map Lsn.who) (k:Int) n=(l[k].who).contains n:=by rw [hasF_in (by simpa using hk)];simp
   rw [hr]
   have HL:=Lh (fun W=>teaches1_any l[k] y z W)
   have HC:=Lh (fun (W:World) (hW:Below w.heap.size w W)=>contains_ints l[k].who y n W (hy.later hW hW.size) (hm _ (List.getElem_mem hk)))
   rw [hxa]
   clear hx hm hr hc hy hz
   generalize (l[k].who).contains n=res at HC ⊢
   generalize l[k]=q at HL HC e0 e1 e2
   go_enter Tryz.func322,Tryz.ntmps322
   go_wp2_with fail
   refine (HL.out _).mono ?_
   rintro e w1 ⟨rfl,hb⟩
   have HB:=Lh hb
   clear hb
   go_wp2_with fail
   refine (HC.out _ HB.out).mono ?_
   rintro e w2 ⟨rfl,rfl⟩
   go_wp2_with fail
   go_ret
   exact ⟨rfl,HB.out⟩
  ·rw [hasF_out (by simp;omega)]
   have h2':decide (at_<(l.length:Int))=false:=by simpa using h2
   clear hx h2
   go_enter Tryz.func322,Tryz.ntmps322
   go_wp2_with fail
   go_ret
   exact ⟨rfl,Below.refl _ _⟩
 ·rw [hasF_out (by omega)]
  have h1':decide (0<=at_)=false:=by simpa using h1
  clear hx h1
  go_enter Tryz.func322,Tryz.ntmps322
  go_wp2_with fail
  go_ret
  exact ⟨rfl,Below.refl _ _⟩

theorem teaches_any (s:Schl) (x:SchA) (p q:Int) (w:World) (hs:SchIn w (·<w.heap.size) s x) (hf:SchFit s) :
  Calls Tryz.prog 315 #[.agg (x.cells s).toArray,.int .i64 p,.int .i64 q] w fun e w'=>e=.returned (.bool (hasF (s.lessons.map Lsn.who) q p))/\Below w.heap.size w w':=by
 have hba:Below w.heap.size w (w.alloc (.cells (x.cells s).toArray 28)):=(Below.refl _ _).alloc (Nat.le_refl _) _
 have HH:=Lh (has_teaches s.lessons x.lessons q p _ (hs.later hba hba.size).lessons hf.lessons hf.who)
 have HB:=Lh hba
 clear hs hba
 simp only [SchA.cells,SlA.val] at HH HB ⊢
 go_enter Tryz.func315,Tryz.ntmps315
 go_wp2_with fail
 refine HH.out.mono ?_
 rintro e w1 ⟨rfl,hb⟩
 have HB1:=Lh (HB.out.trans (hb.mono HB.out.size))
 clear hb
 go_wp2_with fail
 go_ret
 exact ⟨rfl,HB1.out⟩

theorem attends1_any (x:Lsn) (y z:SlA) (w:World):Calls Tryz.prog 324 #[.agg #[.string ⟨x.name.toArray⟩,.slice y.a x.who.length y.cap,.slice z.a x.groups.length z.cap]] w fun e w'=>e=.returned (.slice z.a x.groups.length z.cap)/\Below w.heap.size w w':=by
 go_enter Tryz.func324,Tryz.ntmps324
 go_wp2_with fail
 go_ret
 exact ⟨rfl,(Below.refl _ _).alloc (Nat.le_refl _) _⟩
theorem has_attends (l:List Lsn) (x:SlA) (at_ n:Int) (w:World) (hx:SlIn w (·<w.heap.size) (l.map Lsn.toD) x) (hl:l.length<=2000000) (hm:∀ q∈l,q.groups.length<=2000000) :
  Calls Tryz.prog 322 #[.slice x.a l.length x.cap,.int .i64 at_,.func (.func 324) #[] #[],.int .i64 n] w fun e w'=>e=.returned (.bool (hasF (l.map Lsn.groups) at_ n))/\Below w.heap.size w w':=by
 by_cases h1:0<=at_
 ·by_cases h2:at_<(l.length:Int)
  ·obtain ⟨k,rfl⟩:∃ k:Nat,at_=(k:Int):=⟨at_.toNat,by omega⟩
   have hk:k<l.length:=by omega
   obtain ⟨y,z,hy,hz,_,hc⟩:=hx.lsn k hk
   obtain ⟨e0,e1,e2⟩:=hc.three
   obtain ⟨hxa,_⟩:=hx.at_ (by rw [List.length_map];omega)
   have hr:hasF (l.map Lsn.groups) (k:Int) n=(l[k].groups).contains n:=by rw [hasF_in (by simpa using hk)];simp
   rw [hr]
   have HL:=Lh (fun W=>attends1_any l[k] y z W)
   have HC:=Lh (fun (W:World) (hW:Below w.heap.size w W)=>contains_ints l[k].groups z n W (hz.later hW hW.size) (hm _ (List.getElem_mem hk)))
   rw [hxa]
   clear hx hm hr hc hy hz
   generalize (l[k].groups).contains n=res at HC ⊢
   generalize l[k]=q at HL HC e0 e1 e2
   go_enter Tryz.func322,Tryz.ntmps322
   go_wp2_with fail
   refine (HL.out _).mono ?_
   rintro e w1 ⟨rfl,hb⟩
   have HB:=Lh hb
   clear hb
   go_wp2_with fail
   refine (HC.out _ HB.out).mono ?_
   rintro e w2 ⟨rfl,rfl⟩
   go_wp2_with fail
   go_ret
   exact ⟨rfl,HB.out⟩
  ·rw [hasF_out (by simp;omega)]
   have h2':decide (at_<(l.length:Int))=false:=by simpa using h2
   clear hx h2
   go_enter Tryz.func322,Tryz.ntmps322
   go_wp2_with fail
   go_ret
   exact ⟨rfl,Below.refl _ _⟩
 ·rw [hasF_out (by omega)]
  have h1':decide (0<=at_)=false:=by simpa using h1
  clear hx h1
  go_enter Tryz.func322,Tryz.ntmps322
  go_wp2_with fail
  go_ret
  exact ⟨rfl,Below.refl _ _⟩

theorem attends_any (s:Schl) (x:SchA) (p q:Int) (w:World) (hs:SchIn w (·<w.heap.size) s x) (hf:SchFit s) :
  Calls Tryz.prog 317 #[.agg (x.cells s).toArray,.int .i64 p,.int .i64 q] w fun e w'=>e=.returned (.bool (hasF (s.lessons.map Lsn.groups) q p))/\Below w.heap.size w w':=by
 have hba:Below w.heap.size w (w.alloc (.cells (x.cells s).toArray 28)):=(Below.refl _ _).alloc (Nat.le_refl _) _
 have HH:=Lh (has_attends s.lessons x.lessons q p _ (hs.later hba hba.size).lessons hf.lessons hf.grps)
 have HB:=Lh hba
 clear hs hba
 simp only [SchA.cells,SlA.val] at HH HB ⊢
 go_enter Tryz.func317,Tryz.ntmps317
 go_wp2_with fail
 refine HH.out.mono ?_
 rintro e w1 ⟨rfl,hb⟩
 have HB1:=Lh (HB.out.trans (hb.mono HB.out.size))
 clear hb
 go_wp2_with fail
 go_ret
 exact ⟨rfl,HB1.out⟩

theorem away1_any (x:Psn) (y:SlA) (w:World):Calls Tryz.prog 326 #[.agg #[.string ⟨x.name.toArray⟩,.slice y.a x.away.length y.cap]] w fun e w'=>e=.returned (.slice y.a x.away.length y.cap)/\Below w.heap.size w w':=by
 go_enter Tryz.func326,Tryz.ntmps326
 go_wp2_with fail
 go_ret
 exact ⟨rfl,(Below.refl _ _).alloc (Nat.le_refl _) _⟩
theorem has_away (l:List Psn) (x:SlA) (at_ n:Int) (w:World) (hx:SlIn w (·<w.heap.size) (l.map Psn.toD) x) (hl:l.length<=2000000) (hm:∀ q∈l,q.away.length<=2000000) :
  Calls Tryz.prog 325 #[.slice x.a l.length x.cap,.int .i64 at_,.func (.func 326) #[] #[],.int .i64 n] w fun e w'=>e=.returned (.bool (hasF (l.map Psn.away) at_ n))/\Below w.heap.size w w':=by
 by_cases h1:0<=at_
 ·by_cases h2:at_<(l.length:Int)
  ·obtain ⟨k,rfl⟩:∃ k:Nat,at_=(k:Int):=⟨at_.toNat,by omega⟩
   have hk:k<l.length:=by omega
   obtain ⟨y,hy,_,hc⟩:=hx.psn k hk
   obtain ⟨e0,e1⟩:=hc.two
   obtain ⟨hxa,_⟩:=hx.at_ (by rw [List.length_map];omega)
   have hr:hasF (l.map Psn.away) (k:Int) n=(l[k].away).contains n:=by rw [hasF_in (by simpa using hk)];simp
   rw [hr]
   have HL:=Lh (fun W=>away1_any l[k] y W)
   have HC:=Lh (fun (W:World) (hW:Below w.heap.size w W)=>contains_ints l[k].away y n W (hy.later hW hW.size) (hm _ (List.getElem_mem hk)))
   rw [hxa]
   clear hx hm hr hc hy
   generalize (l[k].away).contains n=res at HC ⊢
   generalize l[k]=q at HL HC e0 e1
   go_enter Tryz.func325,Tryz.ntmps325
   go_wp2_with fail
   refine (HL.out _).mono ?_
   rintro e w1 ⟨rfl,hb⟩
   have HB:=Lh hb
   clear hb
   go_wp2_with fail
   refine (HC.out _ HB.out).mono ?_
   rintro e w2 ⟨rfl,rfl⟩
   go_wp2_with fail
   go_ret
   exact ⟨rfl,HB.out⟩
  ·rw [hasF_out (by simp;omega)]
   have h2':decide (at_<(l.length:Int))=false:=by simpa using h2
   clear hx h2
   go_enter Tryz.func325,Tryz.ntmps325
   go_wp2_with fail
   go_ret
   exact ⟨rfl,Below.refl _ _⟩
 ·rw [hasF_out (by omega)]
  have h1':decide (0<=at_)=false:=by simpa using h1
  clear hx h1
  go_enter Tryz.func325,Tryz.ntmps325
  go_wp2_with fail
  go_ret
  exact ⟨rfl,Below.refl _ _⟩

theorem away_any (s:Schl) (x:SchA) (p q:Int) (w:World) (hs:SchIn w (·<w.heap.size) s x) (hf:SchFit s) :
  Calls Tryz.prog 319 #[.agg (x.cells s).toArray,.int .i64 p,.int .i64 q] w fun e w'=>e=.returned (.bool (hasF (s.people.map Psn.away) p q))/\Below w.heap.size w w':=by
 have hba:Below w.heap.size w (w.alloc (.cells (x.cells s).toArray 28)):=(Below.refl _ _).alloc (Nat.le_refl _) _
 have HH:=Lh (has_away s.people x.people p q _ (hs.later hba hba.size).people hf.people hf.away)
 have HB:=Lh hba
 clear hs hba
 simp only [SchA.cells,SlA.val] at HH HB ⊢
 go_enter Tryz.func319,Tryz.ntmps319
 go_wp2_with fail
 refine HH.out.mono ?_
 rintro e w1 ⟨rfl,hb⟩
 have HB1:=Lh (HB.out.trans (hb.mono HB.out.size))
 clear hb
 go_wp2_with fail
 go_ret
 exact ⟨rfl,HB1.out⟩

theorem shut1_any (x:Rom) (y:SlA) (w:World):Calls Tryz.prog 328 #[.agg #[.string ⟨x.name.toArray⟩,.int .i64 x.house,.int .i64 x.seats,.slice y.a x.shut.length y.cap]] w fun e w'=>e=.returned (.slice y.a x.shut.length y.cap)/\Below w.heap.size w w':=by
 go_enter Tryz.func328,Tryz.ntmps328
 go_wp2_with fail
 go_ret
 exact ⟨rfl,(Below.refl _ _).alloc (Nat.le_refl _) _⟩
theorem has_shut (l:List Rom) (x:SlA) (at_ n:Int) (w:World) (hx:SlIn w (·<w.heap.size) (l.map Rom.toD) x) (hl:l.length<=2000000) (hm:∀ q∈l,q.shut.length<=2000000) :
  Calls Tryz.prog 327 #[.slice x.a l.length x.cap,.int .i64 at_,.func (.func 328) #[] #[],.int .i64 n] w fun e w'=>e=.returned (.bool (hasF (l.map Rom.shut) at_ n))/\Below w.heap.size w w':=by
 by_cases h1:0<=at_
 ·by_cases h2:at_<(l.length:Int)
  ·obtain ⟨k,rfl⟩:∃ k:Nat,at_=(k:Int):=⟨at_.toNat,by omega⟩
   have hk:k<l.length:=by omega
   obtain ⟨y,hy,_,_,_,hc⟩:=hx.rom k hk
   obtain ⟨e0,e1,e2,e3⟩:=hc.four
   obtain ⟨hxa,_⟩:=hx.at_ (by rw [List.length_map];omega)
   have hr:hasF (l.map Rom.shut) (k:Int) n=(l[k].shut).contains n:=by rw [hasF_in (by simpa using hk)];simp
   rw [hr]
   have HL:=Lh (fun W=>shut1_any l[k] y W)
   have HC:=Lh (fun (W:World) (hW:Below w.heap.size w W)=>contains_ints l[k].shut y n W (hy.later hW hW.size) (hm _ (List.getElem_mem hk)))
   rw [hxa]
   clear hx hm hr hc hy
   generalize (l[k].shut).contains n=res at HC ⊢
   generalize l[k]=q at HL HC e0 e1 e2 e3
   go_enter Tryz.func327,Tryz.ntmps327
   go_wp2_with fail
   refine (HL.out _).mono ?_
   rintro e w1 ⟨rfl,hb⟩
   have HB:=Lh hb
   clear hb
   go_wp2_with fail
   refine (HC.out _ HB.out).mono ?_
   rintro e w2 ⟨rfl,rfl⟩
   go_wp2_with fail
   go_ret
   exact ⟨rfl,HB.out⟩
  ·rw [hasF_out (by simp;omega)]
   have h2':decide (at_<(l.length:Int))=false:=by simpa using h2
   clear hx h2
   go_enter Tryz.func327,Tryz.ntmps327
   go_wp2_with fail
   go_ret
   exact ⟨rfl,Below.refl _ _⟩
 ·rw [hasF_out (by omega)]
  have h1':decide (0<=at_)=false:=by simpa using h1
  clear hx h1
  go_enter Tryz.func327,Tryz.ntmps327
  go_wp2_with fail
  go_ret
  exact ⟨rfl,Below.refl _ _⟩

theorem shut_any (s:Schl) (x:SchA) (p q:Int) (w:World) (hs:SchIn w (·<w.heap.size) s x) (hf:SchFit s) :
  Calls Tryz.prog 321 #[.agg (x.cells s).toArray,.int .i64 p,.int .i64 q] w fun e w'=>e=.returned (.bool (hasF (s.rooms.map Rom.shut) p q))/\Below w.heap.size w w':=by
 have hba:Below w.heap.size w (w.alloc (.cells (x.cells s).toArray 28)):=(Below.refl _ _).alloc (Nat.le_refl _) _
 have HH:=Lh (has_shut s.rooms x.rooms p q _ (hs.later hba hba.size).rooms hf.rooms hf.shut)
 have HB:=Lh hba
 clear hs hba
 simp only [SchA.cells,SlA.val] at HH HB ⊢
 go_enter Tryz.func321,Tryz.ntmps321
 go_wp2_with fail
 refine HH.out.mono ?_
 rintro e w1 ⟨rfl,hb⟩
 have HB1:=Lh (HB.out.trans (hb.mono HB.out.size))
 clear hb
 go_wp2_with fail
 go_ret
 exact ⟨rfl,HB1.out⟩

end Go.Proofs.YtjjkfgjnadaheaaGreatDoor
/- eval: signs, atoms, element. -/
namespace Go.Chalk
open Go.RowKit
theorem evOf_at {env:List Ev} {name:Bs} {i:Nat} (h:env.findIdx? (fun x=>x.name==name)=some i):∃ hi:i<env.length,evOf env name=env[i]/\findN (fun j=>(env[j]?.map (fun x=>x.name==name)).getD false) env.length=(i:Int):=by
 rw [List.findIdx?_eq_some_iff_getElem] at h
 obtain ⟨hi,h1,h2⟩:=h
 refine ⟨hi,?_,findN_some hi (by rw [List.getElem?_eq_getElem hi];simpa using h1) (fun j hj=>by rw [List.getElem?_eq_getElem (by omega)];simpa using h2 j hj)⟩
 unfold evOf
 have:env.find? (fun x=>x.name==name)=some env[i]:=by
  rw [List.find?_eq_some_iff_getElem]
  exact ⟨h1,i,hi,rfl,fun j hj=>by simpa using h2 j hj⟩
 rw [this];rfl
end Go.Chalk
namespace Go.Proofs.YtjjkfgjnadaheaaGreatDoor
open Go.RowKit Go.Chalk
theorem sign1_any (a b:Int) (w:World):Calls Tryz.prog 306 #[.int .i64 (cmpInt a b)] w fun e w'=>e=.returned (.bool (decide (a=b)))/\w=w':=by
 have h:(cmpInt a b==0)=decide (a=b):=by unfold cmpInt;split <;> (try split) <;> (rw [Bool.eq_iff_iff];simp;omega)
 have HH:=Lh h
 clear h
 generalize cmpInt a b=c at HH ⊢
 go_enter Tryz.func306,Tryz.ntmps306
 go_wp2_with fail
 go_ret
 exact ⟨ret_bool HH.out,rfl⟩
theorem sign2_any (a b:Int) (w:World):Calls Tryz.prog 307 #[.int .i64 (cmpInt a b)] w fun e w'=>e=.returned (.bool (decide (a ≠ b)))/\w=w':=by
 have h:(cmpInt a b != 0)=decide (a ≠ b):=by unfold cmpInt;split <;> (try split) <;> (rw [Bool.eq_iff_iff];simp;omega)
 have HH:=Lh h
 clear h
 generalize cmpInt a b=c at HH ⊢
 go_enter Tryz.func307,Tryz.ntmps307
 go_wp2_with fail
 go_ret
 exact ⟨ret_bool HH.out,rfl⟩
theorem sign3_any (a b:Int) (w:World):Calls Tryz.prog 308 #[.int .i64 (cmpInt a b)] w fun e w'=>e=.returned (.bool (decide (a<b)))/\w=w':=by
 have h:decide (cmpInt a b<0)=decide (a<b):=by unfold cmpInt;split <;> (try split) <;> (rw [Bool.eq_iff_iff];simp;omega)
 have HH:=Lh h
 clear h
 generalize cmpInt a b=c at HH ⊢
 go_enter Tryz.func308,Tryz.ntmps308
 go_wp2_with fail
 go_ret
 exact ⟨ret_bool HH.out,rfl⟩
theorem sign4_any (a b:Int) (w:World):Calls Tryz.prog 309 #[.int .i64 (cmpInt a b)] w fun e w'=>e=.returned (.bool (decide (a<=b)))/\w=w':=by
 have h:decide (cmpInt a b<=0)=decide (a<=b):=by unfold cmpInt;split <;> (try split) <;> (rw [Bool.eq_iff_iff];simp;omega)
 have HH:=Lh h
 clear h
 generalize cmpInt a b=c at HH ⊢
 go_enter Tryz.func309,Tryz.ntmps309
 go_wp2_with fail
 go_ret
 exact ⟨ret_bool HH.out,rfl⟩
theorem sign5_any (a b:Int) (w:World):Calls Tryz.prog 310 #[.int .i64 (cmpInt a b)] w fun e w'=>e=.returned (.bool (decide (b<a)))/\w=w':=by
 have h:decide (0<cmpInt a b)=decide (b<a):=by unfold cmpInt;split <;> (try split) <;> (rw [Bool.eq_iff_iff];simp;omega)
 have HH:=Lh h
 clear h
 generalize cmpInt a b=c at HH ⊢
 go_enter Tryz.func310,Tryz.ntmps310
 go_wp2_with fail
 go_ret
 exact ⟨ret_bool HH.out,rfl⟩
theorem sign6_any (a b:Int) (w:World):Calls Tryz.prog 311 #[.int .i64 (cmpInt a b)] w fun e w'=>e=.returned (.bool (decide (b<=a)))/\w=w':=by
 have h:decide (0<=cmpInt a b)=decide (b<=a):=by unfold cmpInt;split <;> (try split) <;> (rw [Bool.eq_iff_iff];simp;omega)
 have HH:=Lh h
 clear h
 generalize cmpInt a b=c at HH ⊢
 go_enter Tryz.func311,Tryz.ntmps311
 go_wp2_with fail
 go_ret
 exact ⟨ret_bool HH.out,rfl⟩
theorem sign_call (name:Bs) (h:cmpL.contains name=true):∃ g,signFn name=.func (.func g) #[] #[]/\(∀ (args:Array Value) (w:World),(callFunc g args).run Tryz.prog w=.ok (.enter g args) w)/\∀ (a b:Int) (w:World),Calls Tryz.prog g #[.int .i64 (cmpInt a b)] w fun e w'=>e=.returned (.bool (cmpHolds name a b))/\w=w':=by
 unfold cmpL at h
 simp only [List.contains_iff_mem,List.mem_cons,List.not_mem_nil,or_false] at h
 rcases h with rfl | rfl | rfl | rfl | rfl | rfl
 ·exact ⟨306,rfl,fun _ _=>enters_of Tryz.func306 (by kernel_rfl) rfl _ _,fun a b w=>sign1_any a b w⟩
 ·exact ⟨307,rfl,fun _ _=>enters_of Tryz.func307 (by kernel_rfl) rfl _ _,fun a b w=>sign2_any a b w⟩
 ·exact ⟨308,rfl,fun _ _=>enters_of Tryz.func308 (by kernel_rfl) rfl _ _,fun a b w=>sign3_any a b w⟩
 ·exact ⟨309,rfl,fun _ _=>enters_of Tryz.func309 (by kernel_rfl) rfl _ _,fun a b w=>sign4_any a b w⟩
 ·exact ⟨310,rfl,fun _ _=>enters_of Tryz.func310 (by kernel_rfl) rfl _ _,fun a b w=>sign5_any a b w⟩
 ·exact ⟨311,rfl,fun _ _=>enters_of Tryz.func311 (by kernel_rfl) rfl _ _,fun a b w=>sign6_any a b w⟩

def stV (s:Schl) (x:SchA) (l:List Plc) (y:SlA):Value:=.agg #[.slice x.slots.a s.slots.length x.slots.cap,.slice x.rooms.a s.rooms.length x.rooms.cap,.slice x.people.a s.people.length x.people.cap,.slice x.groups.a s.groups.length x.groups.cap,.slice x.lessons.a s.lessons.length x.lessons.cap,.slice y.a l.length y.cap]
theorem atom1_any (s:Schl) (x:SchA) (l:List Plc) (y:SlA) (a b:Int) (w:World) (hy:SlIn w (·<w.heap.size) (l.map Plc.toD) y) (h:0<=a/\a<l.length) :
  Calls Tryz.prog 312 #[stV s x l y,.int .i64 a,.int .i64 b] w fun e w'=>e=.returned (.bool ((plcAt l a).slot==b))/\Below w.heap.size w w':=by
 obtain ⟨k,rfl⟩:∃ k:Nat,a=(k:Int):=⟨a.toNat,by omega⟩
 have hk:k<l.length:=by omega
 obtain ⟨g1,_,_,g4,_⟩:=hy.flat Plc.flatT
 obtain ⟨e0,e1⟩:=g4.two k hk rfl
 obtain ⟨hxa,_⟩:=g1 (by omega)
 have hp:plcAt l (k:Int)=l[k]:=by unfold plcAt;rw [Int.toNat_natCast,List.getElem?_eq_getElem hk];rfl
 rw [hp]
 unfold stV
 rw [hxa]
 have hkl:(k:Int)<(l.length:Int):=by omega
 clear hy g1 g4 hp h hxa
 generalize l[k]=p at e0 e1 ⊢
 generalize l.length=ll at hk hkl ⊢
 go_enter Tryz.func312,Tryz.ntmps312
 go_wp2_with fail
 go_ret
 exact ⟨rfl,(Below.refl _ _).alloc (Nat.le_refl _) _⟩
theorem atom2_any (s:Schl) (x:SchA) (l:List Plc) (y:SlA) (a b:Int) (w:World) (hy:SlIn w (·<w.heap.size) (l.map Plc.toD) y) (h:0<=a/\a<l.length) :
  Calls Tryz.prog 313 #[stV s x l y,.int .i64 a,.int .i64 b] w fun e w'=>e=.returned (.bool ((plcAt l a).room==b))/\Below w.heap.size w w':=by
 obtain ⟨k,rfl⟩:∃ k:Nat,a=(k:Int):=⟨a.toNat,by omega⟩
 have hk:k<l.length:=by omega
 obtain ⟨g1,_,_,g4,_⟩:=hy.flat Plc.flatT
 obtain ⟨e0,e1⟩:=g4.two k hk rfl
 obtain ⟨hxa,_⟩:=g1 (by omega)
 have hp:plcAt l (k:Int)=l[k]:=by unfold plcAt;rw [Int.toNat_natCast,List.getElem?_eq_getElem hk];rfl
 rw [hp]
 unfold stV
 rw [hxa]
 have hkl:(k:Int)<(l.length:Int):=by omega
 clear hy g1 g4 hp h hxa
 generalize l[k]=p at e0 e1 ⊢
 generalize l.length=ll at hk hkl ⊢
 go_enter Tryz.func313,Tryz.ntmps313
 go_wp2_with fail
 go_ret
 exact ⟨rfl,(Below.refl _ _).alloc (Nat.le_refl _) _⟩
theorem atom3_any (s:Schl) (x:SchA) (l:List Plc) (y:SlA) (a b:Int) (w:World) (hs:SchIn w (·<w.heap.size) s x) (hf:SchFit s) :
  Calls Tryz.prog 314 #[stV s x l y,.int .i64 a,.int .i64 b] w fun e w'=>e=.returned (.bool (hasF (s.lessons.map Lsn.who) b a))/\Below w.heap.size w w':=by
 have hba:Below w.heap.size w (w.alloc (.cells #[.slice x.slots.a s.slots.length x.slots.cap,.slice x.rooms.a s.rooms.length x.rooms.cap,.slice x.people.a s.people.length x.people.cap,.slice x.groups.a s.groups.length x.groups.cap,.slice x.lessons.a s.lessons.length x.lessons.cap,.slice y.a l.length y.cap] 105)):=(Below.refl _ _).alloc (Nat.le_refl _) _
 have HH:=Lh (teaches_any s x a b _ (hs.later hba hba.size) hf)
 have HB:=Lh hba
 clear hs hba
 unfold stV
 simp only [SchA.cells,SlA.val] at HH
 generalize hasF (s.lessons.map Lsn.who) b a=res at HH ⊢
 go_enter Tryz.func314,Tryz.ntmps314
 go_wp2_with fail
 refine HH.out.mono ?_
 rintro e w1 ⟨rfl,hb⟩
 have HB1:=Lh (HB.out.trans (hb.mono HB.out.size))
 clear hb
 go_wp2_with fail
 go_ret
 exact ⟨rfl,HB1.out⟩
theorem atom4_any (s:Schl) (x:SchA) (l:List Plc) (y:SlA) (a b:Int) (w:World) (hs:SchIn w (·<w.heap.size) s x) (hf:SchFit s) :
  Calls Tryz.prog 316 #[stV s x l y,.int .i64 a,.int .i64 b] w fun e w'=>e=.returned (.bool (hasF (s.lessons.map Lsn.groups) b a))/\Below w.heap.size w w':=by
 have hba:Below w.heap.size w (w.alloc (.cells #[.slice x.slots.a s.slots.length x.slots.cap,.slice x.rooms.a s.rooms.length x.rooms.cap,.slice x.people.a s.people.length x.people.cap,.slice x.groups.a s.groups.length x.groups.cap,.slice x.lessons.a s.lessons.length x.lessons.cap,.slice y.a l.length y.cap] 105)):=(Below.refl _ _).alloc (Nat.le_refl _) _
 have HH:=Lh (attends_any s x a b _ (hs.later hba hba.size) hf)
 have HB:=Lh hba
 clear hs hba
 unfold stV
 simp only [SchA.cells,SlA.val] at HH
 generalize hasF (s.lessons.map Lsn.groups) b a=res at HH ⊢
 go_enter Tryz.func316,Tryz.ntmps316
 go_wp2_with fail
 refine HH.out.mono ?_
 rintro e w1 ⟨rfl,hb⟩
 have HB1:=Lh (HB.out.trans (hb.mono HB.out.size))
 clear hb
 go_wp2_with fail
 go_ret
 exact ⟨rfl,HB1.out⟩
theorem atom5_any (s:Schl) (x:SchA) (l:List Plc) (y:SlA) (a b:Int) (w:World) (hs:SchIn w (·<w.heap.size) s x) (hf:SchFit s) :
  Calls Tryz.prog 318 #[stV s x l y,.int .i64 a,.int .i64 b] w fun e w'=>e=.returned (.bool (hasF (s.people.map Psn.away) a b))/\Below w.heap.size w w':=by
 have hba:Below w.heap.size w (w.alloc (.cells #[.slice x.slots.a s.slots.length x.slots.cap,.slice x.rooms.a s.rooms.length x.rooms.cap,.slice x.people.a s.people.length x.people.cap,.slice x.groups.a s.groups.length x.groups.cap,.slice x.lessons.a s.lessons.length x.lessons.cap,.slice y.a l.length y.cap] 105)):=(Below.refl _ _).alloc (Nat.le_refl _) _
 have HH:=Lh (away_any s x a b _ (hs.later hba hba.size) hf)
 have HB:=Lh hba
 clear hs hba
 unfold stV
 simp only [SchA.cells,SlA.val] at HH
 generalize hasF (s.people.map Psn.away) a b=res at HH ⊢
 go_enter Tryz.func318,Tryz.ntmps318
 go_wp2_with fail
 refine HH.out.mono ?_
 rintro e w1 ⟨rfl,hb⟩
 have HB1:=Lh (HB.out.trans (hb.mono HB.out.size))
 clear hb
 go_wp2_with fail
 go_ret
 exact ⟨rfl,HB1.out⟩
theorem atom6_any (s:Schl) (x:SchA) (l:List Plc) (y:SlA) (a b:Int) (w:World) (hs:SchIn w (·<w.heap.size) s x) (hf:SchFit s) :
  Calls Tryz.prog 320 #[stV s x l y,.int .i64 a,.int .i64 b] w fun e w'=>e=.returned (.bool (hasF (s.rooms.map Rom.shut) a b))/\Below w.heap.size w w':=by
 have hba:Below w.heap.size w (w.alloc (.cells #[.slice x.slots.a s.slots.length x.slots.cap,.slice x.rooms.a s.rooms.length x.rooms.cap,.slice x.people.a s.people.length x.people.cap,.slice x.groups.a s.groups.length x.groups.cap,.slice x.lessons.a s.lessons.length x.lessons.cap,.slice y.a l.length y.cap] 105)):=(Below.refl _ _).alloc (Nat.le_refl _) _
 have HH:=Lh (shut_any s x a b _ (hs.later hba hba.size) hf)
 have HB:=Lh hba
 clear hs hba
 unfold stV
 simp only [SchA.cells,SlA.val] at HH
 generalize hasF (s.rooms.map Rom.shut) a b=res at HH ⊢
 go_enter Tryz.func320,Tryz.ntmps320
 go_wp2_with fail
 refine HH.out.mono ?_
 rintro e w1 ⟨rfl,hb⟩
 have HB1:=Lh (HB.out.trans (hb.mono HB.out.size))
 clear hb
 go_wp2_with fail
 go_ret
 exact ⟨rfl,HB1.out⟩
theorem atom_call (k:Int) (hk:3<=k/\k<=8):∃ g,atomFn k=.func (.func g) #[] #[]/\(∀ (args:Array Value) (w:World),(callFunc g args).run Tryz.prog w=.ok (.enter g args) w) /\
  ∀ (s:Schl) (x:SchA) (l:List Plc) (y:SlA) (a b:Int) (w:World),SchIn w (·<w.heap.size) s x->SchFit s->SlIn w (·<w.heap.size) (l.map Plc.toD) y->(k=3∨k=4->0<=a/\a<l.length) ->
   Calls Tryz.prog g #[stV s x l y,.int .i64 a,.int .i64 b] w fun e w'=>e=.returned (.bool (atomHolds s l k a b))/\Below w.heap.size w w':=by
 have:k=3∨k=4∨k=5∨k=6∨k=7∨k=8:=by omega
 rcases this with rfl | rfl | rfl | rfl | rfl | rfl
 ·exact ⟨312,rfl,fun _ _=>enters_of Tryz.func312 (by kernel_rfl) rfl _ _,fun s x l y a b w hs hf hy h=>atom1_any s x l y a b w hy (h (.inl rfl))⟩
 ·exact ⟨313,rfl,fun _ _=>enters_of Tryz.func313 (by kernel_rfl) rfl _ _,fun s x l y a b w hs hf hy h=>atom2_any s x l y a b w hy (h (.inr rfl))⟩
 ·exact ⟨314,rfl,fun _ _=>enters_of Tryz.func314 (by kernel_rfl) rfl _ _,fun s x l y a b w hs hf hy h=>atom3_any s x l y a b w hs hf⟩
 ·exact ⟨316,rfl,fun _ _=>enters_of Tryz.func316 (by kernel_rfl) rfl _ _,fun s x l y a b w hs hf hy h=>atom4_any s x l y a b w hs hf⟩
 ·exact ⟨318,rfl,fun _ _=>enters_of Tryz.func318 (by kernel_rfl) rfl _ _,fun s x l y a b w hs hf hy h=>atom5_any s x l y a b w hs hf⟩
 ·exact ⟨320,rfl,fun _ _=>enters_of Tryz.func320 (by kernel_rfl) rfl _ _,fun s x l y a b w hs hf hy h=>atom6_any s x l y a b w hs hf⟩

theorem find_env (f:Nat) (hf:∀ (ev:Ev) (name:Bs) (p:Nat) (W:World),W.cell? ⟨p,1,none⟩=some (.string ⟨name.toArray⟩)->Calls Tryz.prog f #[.agg #[.string ⟨ev.name.toArray⟩,.int .i64 ev.sort,.int .i64 ev.at_],.pointer (some ⟨p,0,none⟩)] W (Answers W (ev.name==name)))
  (hent:∀ (args:Array Value) (w:World),(callFunc f args).run Tryz.prog w=.ok (.enter f args) w) (env:List Ev) (x:SlA) (name:Bs) (p:Nat) (w:World) (hx:SlIn w (·<w.heap.size) (env.map Ev.toD) x) (hl:env.length<=2000000) (hp:w.cell? ⟨p,1,none⟩=some (.string ⟨name.toArray⟩)) :
  Calls Tryz.prog 170 #[.slice x.a env.length x.cap,.func (.func f) #[] #[.pointer (some ⟨p,0,none⟩)]] w fun e w'=>e=.returned (.int .i64 (findN (fun j=>(env[j]?.map (fun x=>x.name==name)).getD false) env.length))/\Below w.heap.size w w':=by
 obtain ⟨g1,_,_,g4,_⟩:=hx.flat Ev.flatT
 refine indexFunc_Ev f #[.pointer (some ⟨p,0,none⟩)] (fun j=>(env[j]?.map (fun x=>x.name==name)).getD false) env.length (fun j=>.string ⟨(env[j]?.map (·.name.toArray)).getD #[]⟩) (fun j=>.int .i64 ((env[j]?.map (·.sort)).getD 0)) (fun j=>.int .i64 ((env[j]?.map (·.at_)).getD 0)) x.a x.b x.o x.cap w g1 ?_ ?_ hent hl
 ·intro j hj
  have h:=g4.three j hj rfl
  rw [List.getElem?_eq_getElem hj]
  exact h
 ·intro j hj W hW
  rw [List.getElem?_eq_getElem hj]
  exact hf env[j] name p W ((hW.cell (World.block_lt_of_cell? _ _ hp)).trans hp)
theorem elem1_any (ev:Ev) (name:Bs) (p:Nat) (w:World) (hp:w.cell? ⟨p,1,none⟩=some (.string ⟨name.toArray⟩)):Calls Tryz.prog 180 #[.agg #[.string ⟨ev.name.toArray⟩,.int .i64 ev.sort,.int .i64 ev.at_],.pointer (some ⟨p,0,none⟩)] w (Answers w (ev.name==name)):=by
 obtain ⟨nm,sort,at_⟩:=ev
 simp only
 have hp':=cell_alloc (x:=.cells #[.string ⟨nm.toArray⟩,.int .i64 sort,.int .i64 at_] 76) hp
 clear hp
 go_enter Tryz.func180,Tryz.ntmps180
 go_wp2_with fail
 go_ret
 exact ⟨rfl,(Below.refl _ _).alloc (Nat.le_refl _) _⟩
theorem val1_any (ev:Ev) (name:Bs) (p:Nat) (w:World) (hp:w.cell? ⟨p,1,none⟩=some (.string ⟨name.toArray⟩)):Calls Tryz.prog 178 #[.agg #[.string ⟨ev.name.toArray⟩,.int .i64 ev.sort,.int .i64 ev.at_],.pointer (some ⟨p,0,none⟩)] w (Answers w (ev.name==name)):=by
 obtain ⟨nm,sort,at_⟩:=ev
 simp only
 have hp':=cell_alloc (x:=.cells #[.string ⟨nm.toArray⟩,.int .i64 sort,.int .i64 at_] 76) hp
 clear hp
 go_enter Tryz.func178,Tryz.ntmps178
 go_wp2_with fail
 go_ret
 exact ⟨rfl,(Below.refl _ _).alloc (Nat.le_refl _) _⟩
theorem element_any (env:List Ev) (x:SlA) (t:Trm) (w:World) (hx:SlIn w (·<w.heap.size) (env.map Ev.toD) x) (hl:env.length<=2000000) (hfi:(env.findIdx? (fun x=>x.name==t.name)).isSome=true) :
  Calls Tryz.prog 108 #[.slice x.a env.length x.cap,.agg #[.int .i64 t.kind,.string ⟨t.name.toArray⟩,.int .i64 t.n]] w fun e w'=>e=.returned (.int .i64 (evOf env t.name).at_)/\Below w.heap.size w w':=by
 obtain ⟨i,hi⟩:=Option.isSome_iff_exists.1 hfi
 obtain ⟨hil,he,hfn⟩:=evOf_at hi
 obtain ⟨kind,name,n⟩:=t
 simp only at *
 have hba:Below w.heap.size w (w.alloc (.cells #[.int .i64 kind,.string ⟨name.toArray⟩,.int .i64 n] 147)):=(Below.refl _ _).alloc (Nat.le_refl _) _
 have hcl:=find_env 180 elem1_any (fun _ _=>enters_of Tryz.func180 (by kernel_rfl) rfl _ _) env x name w.heap.size _ (hx.later hba hba.size) hl (cH (boxed (B:=w.heap.size+1) (Below.refl _ _) (by omega)) rfl)
 rw [hfn] at hcl
 obtain ⟨g1,_,_,g4,_⟩:=hx.flat Ev.flatT
 obtain ⟨_,_,q2⟩:=g4.three i hil rfl
 obtain ⟨hxa,hbl⟩:=g1 (by omega)
 have HQ:=Lh (fun (W:World) (hb:Below w.heap.size w W)=>(hb.cell (p:=⟨x.b,x.o+i*3+2,none⟩) hbl).trans q2)
 rw [he]
 rw [hxa] at hcl ⊢
 have HCL:=Lh hcl
 have HB:=Lh hba
 have hmf:∀ (fn:Fn) (first cap:Array Value) (w:World),(Instr.makeFunc fn first cap).run Tryz.prog w=.ok (.func fn first cap) w:=fun _ _ _ _=>rfl
 have hie:(i:Int)<(env.length:Int):=by omega
 clear hx g1 g4 q2 hxa hbl hcl hba he hfn hi hfi
 generalize env[i]=ev at HQ ⊢
 go_enter Tryz.func108,Tryz.ntmps108
 go_wp2_with fail
 refine HCL.out.mono ?_
 rintro e w1 ⟨rfl,hb⟩
 have HB1:=Lh (HB.out.trans (hb.mono HB.out.size))
 have q:=HQ.out w1 HB1.out
 clear hb
 go_wp2_with fail
 go_ret
 exact ⟨rfl,HB1.out⟩
end Go.Proofs.YtjjkfgjnadaheaaGreatDoor
/- school.Size, eval.value. -/
namespace Go.Chalk
open Go.RowKit
def grpSz (s:Schl) (g:Int):Int:=if 0<=g/\g<(s.groups.length:Int) then (s.groups[g.toNat]?.getD ⟨[],0⟩).size else 0
theorem schSize_out {s:Schl} {n:Int} (h:n<0∨(s.lessons.length:Int)<=n):schSize s n=0:=by unfold schSize;rw [if_pos h]
theorem schSize_in {s:Schl} {k:Nat} (h:k<s.lessons.length):schSize s (k:Int)=((s.lessons[k].groups).map (grpSz s)).sum:=by
 unfold schSize
 rw [if_neg (by omega),Int.toNat_natCast,List.getElem?_eq_getElem h]
 rfl
theorem grpSz_le {s:Schl} (h:∀ q∈s.groups,0<=q.size/\q.size<=1000) (g:Int):0<=grpSz s g/\grpSz s g<=1000:=by
 unfold grpSz
 split
 ·rename_i hg
  rw [List.getElem?_eq_getElem (by omega)]
  exact h _ (List.getElem_mem _)
 ·omega
theorem sum_le {f:Int->Int} (h:∀ g,0<=f g/\f g<=1000):∀ l:List Int,0<=(l.map f).sum/\(l.map f).sum<=1000*l.length
 | []=>by simp
 | x :: r=>by
  have h1:=sum_le h r
  have h2:=h x
  rw [List.map_cons,List.sum_cons,List.length_cons]
  omega
theorem sum_take {f:Int->Int} {l:List Int} {j:Nat} (hj:j<l.length):((l.take (j+1)).map f).sum=((l.take j).map f).sum+f l[j]:=by
 rw [List.take_succ_eq_append_getElem hj,List.map_append,List.sum_append];simp
end Go.Chalk
namespace Go.Proofs.YtjjkfgjnadaheaaGreatDoor
open Go.RowKit Go.Chalk
theorem size_any (s:Schl) (x:SchA) (n:Int) (w:World) (hs:SchIn w (·<w.heap.size) s x) (hf:SchFit s) (hgs:∀ q∈s.groups,0<=q.size/\q.size<=1000) :
  Calls Tryz.prog 179 #[.agg (x.cells s).toArray,.int .i64 n] w fun e w'=>e=.returned (.int .i64 (schSize s n))/\Below w.heap.size w w':=by
 have hba:Below w.heap.size w (w.alloc (.cells (x.cells s).toArray 28)):=(Below.refl _ _).alloc (Nat.le_refl _) _
 have HB:=Lh hba
 simp only [SchA.cells,SlA.val] at HB ⊢
 by_cases h1:n<0
 ·rw [schSize_out (.inl h1)]
  clear hs hba
  go_enter Tryz.func179,Tryz.ntmps179
  go_wp2_with fail
  go_ret
  exact ⟨rfl,HB.out⟩
 ·have h1':decide (n<0)=false:=by simpa using h1
  by_cases h2:(s.lessons.length:Int)<=n
  ·rw [schSize_out (.inr h2)]
   clear hs hba h1
   go_enter Tryz.func179,Tryz.ntmps179
   go_wp2_with fail
   go_ret
   exact ⟨rfl,HB.out⟩
  ·have h2':decide ((s.lessons.length:Int)<=n)=false:=by simpa using h2
   obtain ⟨k,rfl⟩:∃ k:Nat,n=(k:Int):=⟨n.toNat,by omega⟩
   have hk:k<s.lessons.length:=by omega
   rw [schSize_in hk]
   have hbx:SchBox (w.alloc (.cells (x.cells s).toArray 28)) w.heap.size s x:=by unfold SchBox;rw [heap_get,if_pos rfl]
   obtain ⟨y,z,hy,hz,_,hc⟩:=hs.lessons.lsn k hk
   obtain ⟨hxa,hlb⟩:=hs.lessons.at_ (by rw [List.length_map];omega)
   obtain ⟨e0,e1,e2⟩:=(hc.agree (agree_of_below hba) hlb).three
   obtain ⟨z1,_,_,_,z5⟩:=(hz.later hba hba.size).ints
   obtain ⟨g1,_,_,g4,_⟩:=(hs.groups.later hba hba.size).flat Grp.flatT
   have hgl:(s.lessons[k].groups).length<=2000000:=hf.grps _ (List.getElem_mem hk)
   have hgr:=hf.groups
   have HZ:=Lh z5
   have HG:=Lh g4
   have HS:=Lh (fun (l:List Int)=>sum_le (fun g=>grpSz_le hgs g) l)
   have HL:=Lh (fun g=>grpSz_le hgs g)
   obtain ⟨c0,c1,c2,c3,c4⟩:=hbx.cells
   rw [hxa] at c4
   obtain ⟨W1,hW1⟩:∃ W1,w.alloc (.cells (x.cells s).toArray 28)=W1:=⟨_,rfl⟩
   rw [hW1] at c0 c1 c2 c3 c4 e0 e1 e2 HZ HG z1 g1
   simp only [SchA.cells,SlA.val] at hW1
   have hkl:(k:Int)<(s.lessons.length:Int):=by omega
   clear hs hba hbx hy hz hc z5 g4 hgs h1 h2 hlb hxa
   generalize s.lessons[k]=q at *
   obtain ⟨nm,who,gl⟩:=q
   simp only [SlA.val] at HZ z1 hgl e0 e1 e2 ⊢
   obtain ⟨res,hres⟩:∃ res,res=(gl.map (grpSz s)).sum:=⟨_,rfl⟩
   rw [<- hres]
   have HR:=Lh hres
   clear hres
   have HW1:=Lh hW1
   clear hW1
   go_enter Tryz.func179,Tryz.ntmps179
   go_upto_region 1 with fail
   rw [HW1.out]
   rw [HW1.out] at HB
   go_wp2_with fail
   go_loop [5,24] (fun nn i=>∃ j:Nat,j<=gl.length/\i=.int .i64 j/\nn=.int .i64 ((gl.take j).map (grpSz s)).sum) (fun _ i=>gl.length - (intOf i).toNat)
   case atStart=>exact ⟨0,Nat.zero_le _,rfl,rfl⟩
   case round =>
    obtain ⟨j,hj,rfl,rfl⟩:=hrel
    by_cases hlt:j<gl.length
    ·obtain ⟨hza,_⟩:=z1 (by omega)
     have q0:=HZ.out j hlt
     have hsb:=HS.out (gl.take j)
     have hsl:(gl.take j).length<=2000000:=by simp;omega
     have HT:=Lh (sum_take (f:=grpSz s) hlt)
     have hgb:=HL.out gl[j]
     rw [hza]
     generalize ((gl.take j).map (grpSz s)).sum=nn at hsb HT
     generalize (gl.take j).length=tl at hsb hsl
     generalize gl[j]=g at q0 HT hgb
     by_cases a1:0<=g
     ·by_cases a2:g<(s.groups.length:Int)
      ·obtain ⟨m,rfl⟩:∃ m:Nat,g=(m:Int):=⟨g.toNat,by omega⟩
       have hm:m<s.groups.length:=by omega
       obtain ⟨hga,_⟩:=g1 (by simpa using Nat.lt_of_le_of_lt (Nat.zero_le _) hm)
       obtain ⟨_,f1⟩:=HG.out.two m hm rfl
       have hsz:grpSz s (m:Int)=s.groups[m].size:=by unfold grpSz;rw [if_pos ⟨by omega,by omega⟩,Int.toNat_natCast,List.getElem?_eq_getElem hm];rfl
       rw [hsz] at HT hgb
       rw [hga] at c3
       generalize s.groups[m].size=gz at HT hgb f1
       clear hga hza hsz
       go_wp2_with fail
       go_round
       case rel=>exact ⟨j+1,by omega,by go_num,by rw [HT.out]⟩
       case measure=>simp [intOf];omega
      ·have a2':decide (g<(s.groups.length:Int))=false:=by simpa using a2
       have HZ0:Hid (grpSz s g=0):=Lh (by unfold grpSz;rw [if_neg (by omega)])
       clear a2 hza
       go_wp2_with fail
       go_round
       case rel=>exact ⟨j+1,by omega,by go_num,by rw [HT.out,HZ0.out,Int.add_zero]⟩
       case measure=>simp [intOf];omega
     ·have a1':decide (0<=g)=false:=by simpa using a1
      have HZ0:Hid (grpSz s g=0):=Lh (by unfold grpSz;rw [if_neg (by omega)])
      clear a1 hza
      go_wp2_with fail
      go_round
      case rel=>exact ⟨j+1,by omega,by go_num,by rw [HT.out,HZ0.out,Int.add_zero]⟩
      case measure=>simp [intOf];omega
    ·have HE:Hid (gl.take j=gl):=Lh (List.take_of_length_le (by omega))
     go_wp2_with fail
     go_ret
     exact ⟨ret_int (by rw [HR.out];first | rw [HE.out] | rw [List.take_of_length_le (by simp;omega)]),HB.out⟩
end Go.Proofs.YtjjkfgjnadaheaaGreatDoor
/- eval.value. -/
namespace Go.Chalk
open Go.RowKit
theorem value_one {s:Schl} {env:List Ev} {name:Bs} {n:Int}:valueF s env ⟨1,name,n⟩=n:=by unfold valueF;rw [if_pos rfl]
end Go.Chalk
namespace Go.Proofs.YtjjkfgjnadaheaaGreatDoor
open Go.RowKit Go.Chalk
structure ValOk (s:Schl) (kind:Int) (ev:Ev):Prop where
 slot:kind=3∨kind=4∨(kind=2/\ev.sort=2)->0<=ev.at_/\ev.at_<(s.slots.length:Int)
 room:kind=5∨kind=6->0<=ev.at_/\ev.at_<(s.rooms.length:Int)

theorem value_any (s:Schl) (x:SchA) (l:List Plc) (y:SlA) (env:List Ev) (z:SlA) (t:Trm) (w:World) (hs:SchIn w (·<w.heap.size) s x) (hf:SchFit s) (hgs:∀ q∈s.groups,0<=q.size/\q.size<=1000) (hsl:∀ q∈s.slots,0<=q.day/\q.day<=6/\0<=q.hour/\q.hour<=11)
  (hz:SlIn w (·<w.heap.size) (env.map Ev.toD) z) (hl:env.length<=2000000) (hk:1<=t.kind/\t.kind<=7) (hfi:t.kind ≠ 1->(env.findIdx? (fun x=>x.name==t.name)).isSome=true) (hv:ValOk s t.kind (evOf env t.name)) :
  Calls Tryz.prog 107 #[stV s x l y,.slice z.a env.length z.cap,.agg #[.int .i64 t.kind,.string ⟨t.name.toArray⟩,.int .i64 t.n]] w fun e w'=>e=.returned (.int .i64 (valueF s env t))/\Below w.heap.size w w':=by
 obtain ⟨kind,name,n⟩:=t
 simp only at hk hfi hv ⊢
 have hba:Below w.heap.size w ((w.alloc (.cells #[.slice x.slots.a s.slots.length x.slots.cap,.slice x.rooms.a s.rooms.length x.rooms.cap,.slice x.people.a s.people.length x.people.cap,.slice x.groups.a s.groups.length x.groups.cap,.slice x.lessons.a s.lessons.length x.lessons.cap,.slice y.a l.length y.cap] 105)).alloc (.cells #[.int .i64 kind,.string ⟨name.toArray⟩,.int .i64 n] 147)):=((Below.refl _ _).alloc (Nat.le_refl _) _).alloc (by simp) _
 unfold stV
 by_cases h1:kind=1
 ·subst h1
  rw [value_one]
  have HB:=Lh hba
  clear hs hz hfi hv hba
  go_enter Tryz.func107,Tryz.ntmps107
  go_wp2_with fail
  go_ret
  exact ⟨rfl,HB.out⟩
 obtain ⟨i,hi⟩:=Option.isSome_iff_exists.1 (hfi h1)
 obtain ⟨hil,he,hfn⟩:=evOf_at hi
 rw [he] at hv
 have hst:((w.alloc (.cells #[.slice x.slots.a s.slots.length x.slots.cap,.slice x.rooms.a s.rooms.length x.rooms.cap,.slice x.people.a s.people.length x.people.cap,.slice x.groups.a s.groups.length x.groups.cap,.slice x.lessons.a s.lessons.length x.lessons.cap,.slice y.a l.length y.cap] 105)).alloc (.cells #[.int .i64 kind,.string ⟨name.toArray⟩,.int .i64 n] 147)).heap[w.heap.size]?=some (.cells #[.slice x.slots.a s.slots.length x.slots.cap,.slice x.rooms.a s.rooms.length x.rooms.cap,.slice x.people.a s.people.length x.people.cap,.slice x.groups.a s.groups.length x.groups.cap,.slice x.lessons.a s.lessons.length x.lessons.cap,.slice y.a l.length y.cap] 105 (0,0)):=by rw [heap_get,if_neg (by simp),heap_get,if_pos rfl]
 have htb:((w.alloc (.cells #[.slice x.slots.a s.slots.length x.slots.cap,.slice x.rooms.a s.rooms.length x.rooms.cap,.slice x.people.a s.people.length x.people.cap,.slice x.groups.a s.groups.length x.groups.cap,.slice x.lessons.a s.lessons.length x.lessons.cap,.slice y.a l.length y.cap] 105)).alloc (.cells #[.int .i64 kind,.string ⟨name.toArray⟩,.int .i64 n] 147)).heap[w.heap.size+1]?=some (.cells #[.int .i64 kind,.string ⟨name.toArray⟩,.int .i64 n] 147 (0,0)):=by rw [heap_get,if_pos (by simp)]
 have hcl:=find_env 178 val1_any (fun _ _=>enters_of Tryz.func178 (by kernel_rfl) rfl _ _) env z name (w.heap.size+1) _ (hz.later hba hba.size) hl (cH htb rfl)
 rw [hfn] at hcl
 obtain ⟨g1,_,_,g4,_⟩:=hz.flat Ev.flatT
 have hev:=g4.three i hil rfl
 obtain ⟨hza,hzb⟩:=g1 (by omega)
 have HEV:=Lh (fun (W:World) (hb:Below w.heap.size w W)=>(⟨(hb.cell (p:=⟨z.b,z.o+i*3,none⟩) hzb).trans hev.1,(hb.cell (p:=⟨z.b,z.o+i*3+1,none⟩) hzb).trans hev.2.1,(hb.cell (p:=⟨z.b,z.o+i*3+2,none⟩) hzb).trans hev.2.2⟩:W.cell? ⟨z.b,z.o+i*3,none⟩=_/\W.cell? ⟨z.b,z.o+i*3+1,none⟩=_/\W.cell? ⟨z.b,z.o+i*3+2,none⟩=_))
 have HSC:=Lh (fun (W:World) (hW:Below w.heap.size w W)=>size_any s x (env[i]).at_ W (hs.later hW hW.size) hf hgs)
 have HSL:Hid (∀ (m:Nat) (hm:m<s.slots.length) (W:World),Below w.heap.size w W->x.slots.a=some ⟨x.slots.b,x.slots.o,none⟩/\W.cell? ⟨x.slots.b,x.slots.o+m*3,none⟩=some (.string ⟨s.slots[m].name.toArray⟩)/\W.cell? ⟨x.slots.b,x.slots.o+m*3+1,none⟩=some (.int .i64 s.slots[m].day)/\W.cell? ⟨x.slots.b,x.slots.o+m*3+2,none⟩=some (.int .i64 s.slots[m].hour)):=Lh (fun m hm W hW=>by
  obtain ⟨k1,_,_,k4,_⟩:=hs.slots.flat Slt.flatT
  obtain ⟨ka,kb⟩:=k1 (by omega)
  have h:=k4.three m hm rfl
  exact ⟨ka,(hW.cell (p:=⟨x.slots.b,x.slots.o+m*3,none⟩) kb).trans h.1,(hW.cell (p:=⟨x.slots.b,x.slots.o+m*3+1,none⟩) kb).trans h.2.1,(hW.cell (p:=⟨x.slots.b,x.slots.o+m*3+2,none⟩) kb).trans h.2.2⟩)
 have HRM:Hid (∀ (m:Nat) (hm:m<s.rooms.length) (W:World),Below w.heap.size w W->x.rooms.a=some ⟨x.rooms.b,x.rooms.o,none⟩/\W.cell? ⟨x.rooms.b,x.rooms.o+m*4+1,none⟩=some (.int .i64 s.rooms[m].house)/\W.cell? ⟨x.rooms.b,x.rooms.o+m*4+2,none⟩=some (.int .i64 s.rooms[m].seats)):=Lh (fun m hm W hW=>by
  obtain ⟨y1,_,_,_,_,hc⟩:=hs.rooms.rom m hm
  obtain ⟨ka,kb⟩:=hs.rooms.at_ (by rw [List.length_map];omega)
  obtain ⟨_,c1,c2,_⟩:=hc.four
  exact ⟨ka,(hW.cell (p:=⟨x.rooms.b,x.rooms.o+m*4+1,none⟩) kb).trans c1,(hW.cell (p:=⟨x.rooms.b,x.rooms.o+m*4+2,none⟩) kb).trans c2⟩)
 have hie:(i:Int)<(env.length:Int):=by omega
 have HVF:Hid (valueF s env ⟨kind,name,n⟩=if kind=3 then (sltAt s (env[i]).at_).day
   else if kind=4 then (sltAt s (env[i]).at_).hour
   else if kind=5 then (romAt s (env[i]).at_).house
   else if kind=6 then (romAt s (env[i]).at_).seats
   else if kind=7 then schSize s (env[i]).at_
   else if (env[i]).sort=2 then (sltAt s (env[i]).at_).day*12+(sltAt s (env[i]).at_).hour
   else (env[i]).at_):=Lh (by unfold valueF;rw [if_neg h1,he])
 have HDY:=Lh (fun (m:Nat) (hm:m<s.slots.length)=>hsl _ (List.getElem_mem hm))
 have HV:=Lh hv
 have HB:=Lh (aI hba (aI hst htb))
 rw [hza] at hcl ⊢
 have HCL:=Lh hcl
 have hmf:∀ (fn:Fn) (first cap:Array Value) (w:World),(Instr.makeFunc fn first cap).run Tryz.prog w=.ok (.func fn first cap) w:=fun _ _ _ _=>rfl
 clear hs hz hfi hv hba hst htb hcl g1 g4 hev hza hzb hsl hgs hf he hfn hi
 generalize valueF s env ⟨kind,name,n⟩=res at HVF ⊢
 generalize env[i]=ev at *
 clear hil hl
 obtain ⟨en,es,ea⟩:=ev
 simp only at HEV HSC HVF HV
 have hkk:kind=2∨kind=3∨kind=4∨kind=5∨kind=6∨kind=7:=by omega
 clear h1 hk
 rcases hkk with rfl | rfl | rfl | rfl | rfl | rfl
 ·-- kind 2
  by_cases hs2:es=2
  ·subst hs2
   obtain ⟨v1,v2⟩:0<=ea/\ea<(s.slots.length:Int):=HV.out.slot (by simp)
   obtain ⟨m,rfl⟩:∃ m:Nat,ea=(m:Int):=⟨ea.toNat,by omega⟩
   have hm:m<s.slots.length:=by omega
   have HRR:Hid (res=s.slots[m].day*12+s.slots[m].hour):=Lh (by rw [HVF.out];simp [sltAt,hm])
   obtain ⟨d1,d2,d3,d4⟩:=HDY.out m hm
   go_enter Tryz.func107,Tryz.ntmps107
   go_wp2_with fail
   refine HCL.out.mono ?_
   rintro e w1 ⟨rfl,hb⟩
   have hb1:=HB.out.1.trans (hb.mono HB.out.1.size)
   obtain ⟨e0,e1,e2⟩:=HEV.out w1 hb1
   have hst1:=(hb.block w.heap.size (gS HB.out.2.1).1).trans HB.out.2.1
   have htb1:=(hb.block (w.heap.size+1) (gS HB.out.2.2).1).trans HB.out.2.2
   have t0:=cell_alloc (x:=.cells #[.string ⟨en.toArray⟩,.int .i64 2,.int .i64 (m:Int)] 76) (cH (i:=0) htb1 rfl)
   have HB1:=Lh (hb1.alloc hb1.size (.cells #[.string ⟨en.toArray⟩,.int .i64 2,.int .i64 (m:Int)] 76))
   obtain ⟨ka,k0,k1,k2⟩:=HSL.out m hm w1 hb1
   have s0:=cell_alloc (x:=.cells #[.string ⟨en.toArray⟩,.int .i64 2,.int .i64 (m:Int)] 76) (cH (i:=0) hst1 rfl)
   rw [ka] at s0
   have k0':=cell_alloc (x:=.cells #[.string ⟨en.toArray⟩,.int .i64 2,.int .i64 (m:Int)] 76) k0
   have k1':=cell_alloc (x:=.cells #[.string ⟨en.toArray⟩,.int .i64 2,.int .i64 (m:Int)] 76) k1
   have k2':=cell_alloc (x:=.cells #[.string ⟨en.toArray⟩,.int .i64 2,.int .i64 (m:Int)] 76) k2
   have HB2:=Lh (HB1.out.alloc HB1.out.size (.cells #[.string ⟨s.slots[m].name.toArray⟩,.int .i64 s.slots[m].day,.int .i64 s.slots[m].hour] 114))
   clear hb hb1 hst1 htb1 ka k0 k1 k2
   generalize s.slots[m]=q at *
   obtain ⟨qn,qd,qh⟩:=q
   simp only at *
   go_wp2_with fail
   go_ret
   exact ⟨by rw [HRR.out];first | rfl | go_num,HB2.out⟩
  ·have hs2':(es==2)=false:=by simpa using hs2
   have HRR:Hid (res=ea):=Lh (by rw [HVF.out];simp [hs2])
   clear hs2
   go_enter Tryz.func107,Tryz.ntmps107
   go_wp2_with fail
   refine HCL.out.mono ?_
   rintro e w1 ⟨rfl,hb⟩
   have hb1:=HB.out.1.trans (hb.mono HB.out.1.size)
   obtain ⟨e0,e1,e2⟩:=HEV.out w1 hb1
   have hst1:=(hb.block w.heap.size (gS HB.out.2.1).1).trans HB.out.2.1
   have htb1:=(hb.block (w.heap.size+1) (gS HB.out.2.2).1).trans HB.out.2.2
   have t0:=cell_alloc (x:=.cells #[.string ⟨en.toArray⟩,.int .i64 es,.int .i64 ea] 76) (cH (i:=0) htb1 rfl)
   have HB1:=Lh (hb1.alloc hb1.size (.cells #[.string ⟨en.toArray⟩,.int .i64 es,.int .i64 ea] 76))
   clear hb hb1 hst1 htb1
   go_wp2_with fail
   go_ret
   exact ⟨ret_int HRR.out.symm,HB1.out⟩
 ·-- kind 3
  obtain ⟨v1,v2⟩:0<=ea/\ea<(s.slots.length:Int):=HV.out.slot (by simp)
  obtain ⟨m,rfl⟩:∃ m:Nat,ea=(m:Int):=⟨ea.toNat,by omega⟩
  have hm:m<s.slots.length:=by omega
  have HRR:Hid (res=s.slots[m].day):=Lh (by rw [HVF.out];simp [sltAt,hm])
  go_enter Tryz.func107,Tryz.ntmps107
  go_wp2_with fail
  refine HCL.out.mono ?_
  rintro e w1 ⟨rfl,hb⟩
  have hb1:=HB.out.1.trans (hb.mono HB.out.1.size)
  obtain ⟨e0,e1,e2⟩:=HEV.out w1 hb1
  have hst1:=(hb.block w.heap.size (gS HB.out.2.1).1).trans HB.out.2.1
  have htb1:=(hb.block (w.heap.size+1) (gS HB.out.2.2).1).trans HB.out.2.2
  have t0:=cell_alloc (x:=.cells #[.string ⟨en.toArray⟩,.int .i64 es,.int .i64 (m:Int)] 76) (cH (i:=0) htb1 rfl)
  have HB1:=Lh (hb1.alloc hb1.size (.cells #[.string ⟨en.toArray⟩,.int .i64 es,.int .i64 (m:Int)] 76))
  obtain ⟨ka,k0,k1,k2⟩:=HSL.out m hm w1 hb1
  have s0:=cell_alloc (x:=.cells #[.string ⟨en.toArray⟩,.int .i64 es,.int .i64 (m:Int)] 76) (cH (i:=0) hst1 rfl)
  rw [ka] at s0
  have k1':=cell_alloc (x:=.cells #[.string ⟨en.toArray⟩,.int .i64 es,.int .i64 (m:Int)] 76) k1
  clear hb hb1 hst1 htb1 ka k0 k1 k2
  generalize s.slots[m].day=dv at *
  go_wp2_with fail
  go_ret
  exact ⟨ret_int HRR.out.symm,HB1.out⟩
 ·-- kind 4
  obtain ⟨v1,v2⟩:0<=ea/\ea<(s.slots.length:Int):=HV.out.slot (by simp)
  obtain ⟨m,rfl⟩:∃ m:Nat,ea=(m:Int):=⟨ea.toNat,by omega⟩
  have hm:m<s.slots.length:=by omega
  have HRR:Hid (res=s.slots[m].hour):=Lh (by rw [HVF.out];simp [sltAt,hm])
  go_enter Tryz.func107,Tryz.ntmps107
  go_wp2_with fail
  refine HCL.out.mono ?_
  rintro e w1 ⟨rfl,hb⟩
  have hb1:=HB.out.1.trans (hb.mono HB.out.1.size)
  obtain ⟨e0,e1,e2⟩:=HEV.out w1 hb1
  have hst1:=(hb.block w.heap.size (gS HB.out.2.1).1).trans HB.out.2.1
  have htb1:=(hb.block (w.heap.size+1) (gS HB.out.2.2).1).trans HB.out.2.2
  have t0:=cell_alloc (x:=.cells #[.string ⟨en.toArray⟩,.int .i64 es,.int .i64 (m:Int)] 76) (cH (i:=0) htb1 rfl)
  have HB1:=Lh (hb1.alloc hb1.size (.cells #[.string ⟨en.toArray⟩,.int .i64 es,.int .i64 (m:Int)] 76))
  obtain ⟨ka,k0,k1,k2⟩:=HSL.out m hm w1 hb1
  have s0:=cell_alloc (x:=.cells #[.string ⟨en.toArray⟩,.int .i64 es,.int .i64 (m:Int)] 76) (cH (i:=0) hst1 rfl)
  rw [ka] at s0
  have k2':=cell_alloc (x:=.cells #[.string ⟨en.toArray⟩,.int .i64 es,.int .i64 (m:Int)] 76) k2
  clear hb hb1 hst1 htb1 ka k0 k1 k2
  generalize s.slots[m].hour=dv at *
  go_wp2_with fail
  go_ret
  exact ⟨ret_int HRR.out.symm,HB1.out⟩
 ·-- kind 5
  obtain ⟨v1,v2⟩:0<=ea/\ea<(s.rooms.length:Int):=HV.out.room (by simp)
  obtain ⟨m,rfl⟩:∃ m:Nat,ea=(m:Int):=⟨ea.toNat,by omega⟩
  have hm:m<s.rooms.length:=by omega
  have HRR:Hid (res=s.rooms[m].house):=Lh (by rw [HVF.out];simp [romAt,hm])
  go_enter Tryz.func107,Tryz.ntmps107
  go_wp2_with fail
  refine HCL.out.mono ?_
  rintro e w1 ⟨rfl,hb⟩
  have hb1:=HB.out.1.trans (hb.mono HB.out.1.size)
  obtain ⟨e0,e1,e2⟩:=HEV.out w1 hb1
  have hst1:=(hb.block w.heap.size (gS HB.out.2.1).1).trans HB.out.2.1
  have htb1:=(hb.block (w.heap.size+1) (gS HB.out.2.2).1).trans HB.out.2.2
  have t0:=cell_alloc (x:=.cells #[.string ⟨en.toArray⟩,.int .i64 es,.int .i64 (m:Int)] 76) (cH (i:=0) htb1 rfl)
  have HB1:=Lh (hb1.alloc hb1.size (.cells #[.string ⟨en.toArray⟩,.int .i64 es,.int .i64 (m:Int)] 76))
  obtain ⟨ka,k1,k2⟩:=HRM.out m hm w1 hb1
  have s0:=cell_alloc (x:=.cells #[.string ⟨en.toArray⟩,.int .i64 es,.int .i64 (m:Int)] 76) (cH (i:=1) hst1 rfl)
  rw [ka] at s0
  have k1':=cell_alloc (x:=.cells #[.string ⟨en.toArray⟩,.int .i64 es,.int .i64 (m:Int)] 76) k1
  clear hb hb1 hst1 htb1 ka k1 k2
  generalize s.rooms[m].house=dv at *
  go_wp2_with fail
  go_ret
  exact ⟨ret_int HRR.out.symm,HB1.out⟩
 ·-- kind 6
  obtain ⟨v1,v2⟩:0<=ea/\ea<(s.rooms.length:Int):=HV.out.room (by simp)
  obtain ⟨m,rfl⟩:∃ m:Nat,ea=(m:Int):=⟨ea.toNat,by omega⟩
  have hm:m<s.rooms.length:=by omega
  have HRR:Hid (res=s.rooms[m].seats):=Lh (by rw [HVF.out];simp [romAt,hm])
  go_enter Tryz.func107,Tryz.ntmps107
  go_wp2_with fail
  refine HCL.out.mono ?_
  rintro e w1 ⟨rfl,hb⟩
  have hb1:=HB.out.1.trans (hb.mono HB.out.1.size)
  obtain ⟨e0,e1,e2⟩:=HEV.out w1 hb1
  have hst1:=(hb.block w.heap.size (gS HB.out.2.1).1).trans HB.out.2.1
  have htb1:=(hb.block (w.heap.size+1) (gS HB.out.2.2).1).trans HB.out.2.2
  have t0:=cell_alloc (x:=.cells #[.string ⟨en.toArray⟩,.int .i64 es,.int .i64 (m:Int)] 76) (cH (i:=0) htb1 rfl)
  have HB1:=Lh (hb1.alloc hb1.size (.cells #[.string ⟨en.toArray⟩,.int .i64 es,.int .i64 (m:Int)] 76))
  obtain ⟨ka,k1,k2⟩:=HRM.out m hm w1 hb1
  have s0:=cell_alloc (x:=.cells #[.string ⟨en.toArray⟩,.int .i64 es,.int .i64 (m:Int)] 76) (cH (i:=1) hst1 rfl)
  rw [ka] at s0
  have k2':=cell_alloc (x:=.cells #[.string ⟨en.toArray⟩,.int .i64 es,.int .i64 (m:Int)] 76) k2
  clear hb hb1 hst1 htb1 ka k1 k2
  generalize s.rooms[m].seats=dv at *
  go_wp2_with fail
  go_ret
  exact ⟨ret_int HRR.out.symm,HB1.out⟩
 ·-- kind 7
  have HRR:Hid (res=schSize s ea):=Lh (by rw [HVF.out];simp)
  generalize schSize s ea=sz at HSC HRR
  go_enter Tryz.func107,Tryz.ntmps107
  go_wp2_with fail
  refine HCL.out.mono ?_
  rintro e w1 ⟨rfl,hb⟩
  have hb1:=HB.out.1.trans (hb.mono HB.out.1.size)
  obtain ⟨e0,e1,e2⟩:=HEV.out w1 hb1
  have hst1:=(hb.block w.heap.size (gS HB.out.2.1).1).trans HB.out.2.1
  have htb1:=(hb.block (w.heap.size+1) (gS HB.out.2.2).1).trans HB.out.2.2
  have t0:=cell_alloc (x:=.cells #[.string ⟨en.toArray⟩,.int .i64 es,.int .i64 ea] 76) (cH (i:=0) htb1 rfl)
  have HB1:=Lh (hb1.alloc hb1.size (.cells #[.string ⟨en.toArray⟩,.int .i64 es,.int .i64 ea] 76))
  have s0:=cell_alloc (x:=.cells #[.string ⟨en.toArray⟩,.int .i64 es,.int .i64 ea] 76) (cH (i:=0) hst1 rfl)
  have s1:=cell_alloc (x:=.cells #[.string ⟨en.toArray⟩,.int .i64 es,.int .i64 ea] 76) (cH (i:=1) hst1 rfl)
  have s2:=cell_alloc (x:=.cells #[.string ⟨en.toArray⟩,.int .i64 es,.int .i64 ea] 76) (cH (i:=2) hst1 rfl)
  have s3:=cell_alloc (x:=.cells #[.string ⟨en.toArray⟩,.int .i64 es,.int .i64 ea] 76) (cH (i:=3) hst1 rfl)
  have s4:=cell_alloc (x:=.cells #[.string ⟨en.toArray⟩,.int .i64 es,.int .i64 ea] 76) (cH (i:=4) hst1 rfl)
  have HSW:=Lh (HSC.out _ HB1.out)
  simp only [SchA.cells,SlA.val] at HSW
  clear hb hb1 hst1 htb1
  go_wp2_with fail
  refine HSW.out.mono ?_
  rintro e w2 ⟨rfl,hb2⟩
  have HB2:=Lh (HB1.out.trans (hb2.mono HB1.out.size))
  clear hb2
  go_wp2_with fail
  go_ret
  exact ⟨ret_int HRR.out.symm,HB2.out⟩
end Go.Proofs.YtjjkfgjnadaheaaGreatDoor
/- eval.holds: the parts. -/
namespace Go.Proofs.YtjjkfgjnadaheaaGreatDoor
open Go.RowKit Go.Chalk
structure HdBox (W:World) (ps:Nat) (s:Schl) (x:SchA) (l:List Plc) (y:SlA) (env:List Ev) (z:SlA) (f:Frm) (fa:FrmA):Prop where
 st:W.heap[ps]?=some (.cells #[.slice x.slots.a s.slots.length x.slots.cap,.slice x.rooms.a s.rooms.length x.rooms.cap,.slice x.people.a s.people.length x.people.cap,.slice x.groups.a s.groups.length x.groups.cap,.slice x.lessons.a s.lessons.length x.lessons.cap,.slice y.a l.length y.cap] 105 (0,0))
 env:W.heap[ps+1]?=some (.cells #[.slice z.a env.length z.cap] 29 (0,0))
 frm:W.heap[ps+1+1]?=some (.cells (fa.cells f).toArray 34 (0,0))
theorem HdBox.below {W W':World} {ps:Nat} {s:Schl} {x:SchA} {l:List Plc} {y:SlA} {env:List Ev} {z:SlA} {f:Frm} {fa:FrmA} (h:HdBox W ps s x l y env z f fa) (hb:Below W.heap.size W W'):HdBox W' ps s x l y env z f fa :=
 ⟨(hb.block _ (gS h.st).1).trans h.st,(hb.block _ (gS h.env).1).trans h.env,(hb.block _ (gS h.frm).1).trans h.frm⟩

theorem holds1_any (s:Schl) (x:SchA) (l:List Plc) (y:SlA) (env:List Ev) (z:SlA) (kind:Int) (name:Bs) (n:Int) (terms:List Trm) (binds:List Bnd) (fl:List Frm) (fa:FrmA) (i:Nat) (hi:i<fl.length) (W:World) (ps:Nat)
  (hB:HdBox W ps s x l y env z (.mk kind name n terms binds fl) fa) (y1:FrmA) (hc:CellsAt W fa.l.b (fa.l.o+i*6) (y1.cells fl[i])) (hla:fa.l.a=some ⟨fa.l.b,fa.l.o,none⟩) (v:Bool)
  (hcall:∀ W',Below W.heap.size W W'->Calls Tryz.prog 56 #[stV s x l y,.slice z.a env.length z.cap,ndV (fl[i],y1)] W' fun e w'=>e=.returned (.bool v)/\Below W'.heap.size W' w') :
  Calls Tryz.prog 105 #[.int .i64 i,.pointer (some ⟨ps,0,none⟩),.pointer (some ⟨ps+1,0,none⟩),.pointer (some ⟨ps+1+1,0,none⟩)] W fun e w'=>e=.returned (.bool v)/\Below W.heap.size W w':=by
 have hst:=hB.st
 have hen:=hB.env
 have hfr:=hB.frm
 simp only [FrmA.cells,SlA.val,Frm.kind,Frm.name,Frm.n,Frm.terms,Frm.binds,Frm.l] at hfr
 have s0:W.cell? ⟨ps,0,none⟩=_:=cH hst rfl
 have s1:W.cell? ⟨ps,1,none⟩=_:=cH hst rfl
 have s2:W.cell? ⟨ps,2,none⟩=_:=cH hst rfl
 have s3:W.cell? ⟨ps,3,none⟩=_:=cH hst rfl
 have s4:W.cell? ⟨ps,4,none⟩=_:=cH hst rfl
 have s5:W.cell? ⟨ps,5,none⟩=_:=cH hst rfl
 have v0:W.cell? ⟨ps+1,0,none⟩=_:=cH hen rfl
 have f5:W.cell? ⟨ps+1+1,5,none⟩=some (.slice fa.l.a fl.length fa.l.cap):=cH hfr rfl
 rw [hla] at f5
 obtain ⟨e0,e1,e2,e3,e4,e5⟩:=hc.six
 have HCL:=Lh (hcall W.drew (Below.refl _ _).drew)
 have hil:(i:Int)<(fl.length:Int):=by omega
 clear hst hen hfr hc hcall hB
 generalize fl[i]=fe at *
 obtain ⟨kind1,name1,n1,terms1,binds1,fl1⟩:=fe
 unfold stV at HCL
 simp only [ndV,FrmA.cells,SlA.val,Frm.kind,Frm.name,Frm.n,Frm.terms,Frm.binds,Frm.l] at HCL e0 e1 e2 e3 e4 e5
 generalize fl.length=fln at *
 go_enter Tryz.func105,Tryz.ntmps105
 go_wp2_with fail
 go_region_with (go_at_call 56;refine HCL.out.mono ?_;rintro e w' ⟨rfl,hb⟩;have HW:=Lh hb;clear hb)
 all_goals
  go_wp2_with fail
  go_ret
  exact ⟨rfl,((Below.refl _ _).drew).trans HW.out⟩
end Go.Proofs.YtjjkfgjnadaheaaGreatDoor
/- eval.holds: constants and connectives. -/
namespace Go.Chalk
open Go.RowKit
theorem formed_len {kind:Int} {name:Bs} {n:Int} {terms:List Trm} {binds:List Bnd} {l:List Frm} (h:formedF (.mk kind name n terms binds l)=true):arityF kind=some l.length/\(terms=[]∨atomK kind=true)/\(binds=[]∨quantK kind=true):=by
 rw [formedF_mk,Bool.and_eq_true,partsOk_mk] at h
 have h1:=h.1
 simp only [Bool.and_eq_true,Bool.or_eq_true,beq_iff_eq,List.isEmpty_iff] at h1
 exact ⟨h1.1.1.1.1,h1.1.1.1.2,h1.1.1.2⟩
end Go.Chalk
namespace Go.Proofs.YtjjkfgjnadaheaaGreatDoor
open Go.RowKit Go.Chalk
abbrev hdW (w:World) (s:Schl) (x:SchA) (l:List Plc) (y:SlA) (env:List Ev) (z:SlA) (f:Frm) (fa:FrmA):World :=
 ((w.alloc (.cells #[.slice x.slots.a s.slots.length x.slots.cap,.slice x.rooms.a s.rooms.length x.rooms.cap,.slice x.people.a s.people.length x.people.cap,.slice x.groups.a s.groups.length x.groups.cap,.slice x.lessons.a s.lessons.length x.lessons.cap,.slice y.a l.length y.cap] 105)).alloc (.cells #[.slice z.a env.length z.cap] 29)).alloc (.cells (fa.cells f).toArray 34)
theorem hdW_box (w:World) (s:Schl) (x:SchA) (l:List Plc) (y:SlA) (env:List Ev) (z:SlA) (f:Frm) (fa:FrmA):HdBox (hdW w s x l y env z f fa) w.heap.size s x l y env z f fa :=
 ⟨by rw [heap_get,if_neg (by simp;omega),heap_get,if_neg (by simp),heap_get,if_pos rfl],by rw [heap_get,if_neg (by simp),heap_get,if_pos (by simp)],by rw [heap_get,if_pos (by simp)]⟩
theorem hdW_below (w:World) (s:Schl) (x:SchA) (l:List Plc) (y:SlA) (env:List Ev) (z:SlA) (f:Frm) (fa:FrmA):Below w.heap.size w (hdW w s x l y env z f fa) :=
 (((Below.refl _ _).alloc (Nat.le_refl _) _).alloc (by simp) _).alloc (by simp;omega) _

theorem holds_const (s:Schl) (x:SchA) (l:List Plc) (y:SlA) (env:List Ev) (z:SlA) (kind:Int) (name:Bs) (n:Int) (binds:List Bnd) (fl:List Frm) (fa:FrmA) (w:World) (hk:kind=1∨kind=2) :
  Calls Tryz.prog 56 #[stV s x l y,.slice z.a env.length z.cap,ndV (.mk kind name n [] binds fl,fa)] w fun e w'=>e=.returned (.bool (holdsF s l env (.mk kind name n [] binds fl)))/\Below w.heap.size w w':=by
 have hb:=hdW_below w s x l y env z (.mk kind name n [] binds fl) fa
 have hr:holdsF s l env (.mk kind name n [] binds fl)=(kind==1):=by
  rw [holdsF_nil]
  rcases hk with rfl | rfl
  ·rfl
  ·rfl
 have hmf:∀ (fn:Fn) (first cap:Array Value) (w:World),(Instr.makeFunc fn first cap).run Tryz.prog w=.ok (.func fn first cap) w:=fun _ _ _ _=>rfl
 rw [hr]
 have HB:=Lh hb
 clear hb hr
 unfold stV
 simp only [hdW,ndV,FrmA.cells,SlA.val,Frm.kind,Frm.name,Frm.n,Frm.terms,Frm.binds,Frm.l] at HB ⊢
 rcases hk with rfl | rfl
 ·go_enter Tryz.func56,Tryz.ntmps56
  go_wp2_with fail
  go_ret
  exact ⟨rfl,HB.out⟩
 ·go_enter Tryz.func56,Tryz.ntmps56
  go_wp2_with fail
  go_ret
  exact ⟨rfl,HB.out⟩

theorem holds_conn (s:Schl) (x:SchA) (l:List Plc) (y:SlA) (env:List Ev) (z:SlA) (kind:Int) (name:Bs) (n:Int) (fl:List Frm) (fa:FrmA) (w:World) (hk:10<=kind/\kind<=13) (hf:formedF (.mk kind name n [] [] fl)=true) (hx:FrmIn w (·<w.heap.size) (.mk kind name n [] [] fl) fa)
  (ih:∀ (j:Nat) (hj:j<fl.length) (y1:FrmA) (W:World),Below w.heap.size w W->FrmIn w (·<w.heap.size) fl[j] y1->Calls Tryz.prog 56 #[stV s x l y,.slice z.a env.length z.cap,ndV (fl[j],y1)] W fun e w'=>e=.returned (.bool (holdsF s l env fl[j]))/\Below W.heap.size W w') :
  Calls Tryz.prog 56 #[stV s x l y,.slice z.a env.length z.cap,ndV (.mk kind name n [] [] fl,fa)] w fun e w'=>e=.returned (.bool (holdsF s l env (.mk kind name n [] [] fl)))/\Below w.heap.size w w':=by
 have hb:=hdW_below w s x l y env z (.mk kind name n [] [] fl) fa
 have hbx:=hdW_box w s x l y env z (.mk kind name n [] [] fl) fa
 have hpt:∀ (j:Nat) (hj:j<fl.length) (W:World),Below w.heap.size w W->HdBox W w.heap.size s x l y env z (.mk kind name n [] [] fl) fa->Calls Tryz.prog 105 #[.int .i64 j,.pointer (some ⟨w.heap.size,0,none⟩),.pointer (some ⟨w.heap.size+1,0,none⟩),.pointer (some ⟨w.heap.size+1+1,0,none⟩)] W fun e w'=>e=.returned (.bool (holdsF s l env fl[j]))/\Below W.heap.size W w':=by
  intro j hj W hW hB
  obtain ⟨y1,h1,h2⟩:=hx.l.frm j hj
  obtain ⟨hla,hlb⟩:=hx.l.at_ (by rw [List.length_map];exact Nat.lt_of_le_of_lt (Nat.zero_le _) hj)
  exact holds1_any s x l y env z kind name n [] [] fl fa j hj W w.heap.size hB y1 (h2.agree (agree_of_below hW) hlb) hla _ (fun W' hW'=>ih j hj y1 W' (hW.trans (hW'.mono hW.size)) h1)
 obtain ⟨har,_,_⟩:=formed_len hf
 have hmf:∀ (fn:Fn) (first cap:Array Value) (w:World),(Instr.makeFunc fn first cap).run Tryz.prog w=.ok (.func fn first cap) w:=fun _ _ _ _=>rfl
 have hkk:kind=10∨kind=11∨kind=12∨kind=13:=by omega
 clear hx ih hk hf
 unfold stV at hpt ⊢
 rcases hkk with rfl | rfl | rfl | rfl
 ·obtain ⟨g,rfl⟩:∃ g,fl=[g]:=by
   have h1:fl.length=1:=by simpa [arityF] using har.symm
   exact List.length_eq_one_iff.1 h1
  ·have HB:=Lh (aI hb hbx)
   have hr:holdsF s l env (.mk 10 name n [] [] [g]) = !(holdsF s l env g):=by rw [holdsF_nil,if_neg (by decide),if_neg (by decide),if_pos rfl,holdsAt]
   rw [hr]
   have h0:Calls Tryz.prog 105 #[.int .i64 0,.pointer (some ⟨w.heap.size,0,none⟩),.pointer (some ⟨w.heap.size+1,0,none⟩),.pointer (some ⟨w.heap.size+1+1,0,none⟩)] (hdW w s x l y env z (.mk 10 name n [] [] [g]) fa) fun e w'=>e=.returned (.bool (holdsF s l env g))/\Below (hdW w s x l y env z (.mk 10 name n [] [] [g]) fa).heap.size (hdW w s x l y env z (.mk 10 name n [] [] [g]) fa) w':=hpt 0 (Nat.zero_lt_one) _ hb hbx
   generalize holdsF s l env g=v at h0 ⊢
   clear hpt hb hbx hr
   have HC:=Lh h0
   simp only [hdW,ndV,FrmA.cells,SlA.val,Frm.kind,Frm.name,Frm.n,Frm.terms,Frm.binds,Frm.l] at HB HC ⊢
   clear h0
   go_enter Tryz.func56,Tryz.ntmps56
   go_wp2_with fail
   refine HC.out.mono ?_
   rintro e w1 ⟨rfl,hb1⟩
   have HB1:=Lh (HB.out.1.trans (hb1.mono HB.out.1.size))
   clear hb1
   go_wp2_with fail
   go_ret
   exact ⟨rfl,HB1.out⟩
 ·obtain ⟨g,h,rfl⟩:∃ g h,fl=[g,h]:=by
   have h1:fl.length=2:=by simpa [arityF] using har.symm
   match fl,h1 with
   | [g,h],_=>exact ⟨g,h,rfl⟩
  ·have HB:=Lh (aI hb hbx)
   have hr:holdsF s l env (.mk 11 name n [] [] [g,h])=(holdsF s l env g&&holdsF s l env h):=by rw [holdsF_nil,if_neg (by decide),if_neg (by decide),if_neg (by decide),if_pos rfl,holdsAt,holdsAt,holdsAt]
   rw [hr]
   have h0:Calls Tryz.prog 105 #[.int .i64 0,.pointer (some ⟨w.heap.size,0,none⟩),.pointer (some ⟨w.heap.size+1,0,none⟩),.pointer (some ⟨w.heap.size+1+1,0,none⟩)] (hdW w s x l y env z (.mk 11 name n [] [] [g,h]) fa) fun e w'=>e=.returned (.bool (holdsF s l env g))/\Below (hdW w s x l y env z (.mk 11 name n [] [] [g,h]) fa).heap.size (hdW w s x l y env z (.mk 11 name n [] [] [g,h]) fa) w':=hpt 0 (by show 0<2;decide) _ hb hbx
   have h1:∀ W,Below w.heap.size w W->HdBox W w.heap.size s x l y env z (.mk 11 name n [] [] [g,h]) fa->Calls Tryz.prog 105 #[.int .i64 1,.pointer (some ⟨w.heap.size,0,none⟩),.pointer (some ⟨w.heap.size+1,0,none⟩),.pointer (some ⟨w.heap.size+1+1,0,none⟩)] W fun e w'=>e=.returned (.bool (holdsF s l env h))/\Below W.heap.size W w':=hpt 1 (by show 1<2;decide)
   generalize holdsF s l env g=v0 at h0 ⊢
   generalize holdsF s l env h=v1 at h1 ⊢
   clear hpt hb hbx hr
   have HC:=Lh h0
   have HC2:=Lh h1
   clear h0 h1
   simp only [hdW,ndV,FrmA.cells,SlA.val,Frm.kind,Frm.name,Frm.n,Frm.terms,Frm.binds,Frm.l] at HB HC ⊢
   go_enter Tryz.func56,Tryz.ntmps56
   go_wp2_with fail
   refine HC.out.mono ?_
   rintro e w1 ⟨rfl,hb1⟩
   have HB1:=Lh (aI (HB.out.1.trans (hb1.mono HB.out.1.size)) (HB.out.2.below hb1))
   clear hb1
   cases v0
   ·go_wp2_with fail
    go_ret
    exact ⟨by simp,HB1.out.1⟩
   ·have HCW:=Lh (HC2.out w1 HB1.out.1 HB1.out.2)
    go_wp2_with fail
    refine HCW.out.mono ?_
    rintro e w2 ⟨rfl,hb2⟩
    have HB2:=Lh (HB1.out.1.trans (hb2.mono HB1.out.1.size))
    clear hb2
    go_wp2_with fail
    go_ret
    exact ⟨by simp,HB2.out⟩
 ·obtain ⟨g,h,rfl⟩:∃ g h,fl=[g,h]:=by
   have h1:fl.length=2:=by simpa [arityF] using har.symm
   match fl,h1 with
   | [g,h],_=>exact ⟨g,h,rfl⟩
  ·have HB:=Lh (aI hb hbx)
   have hr:holdsF s l env (.mk 12 name n [] [] [g,h])=(holdsF s l env g||holdsF s l env h):=by rw [holdsF_nil,if_neg (by decide),if_neg (by decide),if_neg (by decide),if_neg (by decide),if_pos rfl,holdsAt,holdsAt,holdsAt]
   rw [hr]
   have h0:Calls Tryz.prog 105 #[.int .i64 0,.pointer (some ⟨w.heap.size,0,none⟩),.pointer (some ⟨w.heap.size+1,0,none⟩),.pointer (some ⟨w.heap.size+1+1,0,none⟩)] (hdW w s x l y env z (.mk 12 name n [] [] [g,h]) fa) fun e w'=>e=.returned (.bool (holdsF s l env g))/\Below (hdW w s x l y env z (.mk 12 name n [] [] [g,h]) fa).heap.size (hdW w s x l y env z (.mk 12 name n [] [] [g,h]) fa) w':=hpt 0 (by show 0<2;decide) _ hb hbx
   have h1:∀ W,Below w.heap.size w W->HdBox W w.heap.size s x l y env z (.mk 12 name n [] [] [g,h]) fa->Calls Tryz.prog 105 #[.int .i64 1,.pointer (some ⟨w.heap.size,0,none⟩),.pointer (some ⟨w.heap.size+1,0,none⟩),.pointer (some ⟨w.heap.size+1+1,0,none⟩)] W fun e w'=>e=.returned (.bool (holdsF s l env h))/\Below W.heap.size W w':=hpt 1 (by show 1<2;decide)
   generalize holdsF s l env g=v0 at h0 ⊢
   generalize holdsF s l env h=v1 at h1 ⊢
   clear hpt hb hbx hr
   have HC:=Lh h0
   have HC2:=Lh h1
   clear h0 h1
   simp only [hdW,ndV,FrmA.cells,SlA.val,Frm.kind,Frm.name,Frm.n,Frm.terms,Frm.binds,Frm.l] at HB HC ⊢
   go_enter Tryz.func56,Tryz.ntmps56
   go_wp2_with fail
   refine HC.out.mono ?_
   rintro e w1 ⟨rfl,hb1⟩
   have HB1:=Lh (aI (HB.out.1.trans (hb1.mono HB.out.1.size)) (HB.out.2.below hb1))
   clear hb1
   cases v0
   ·have HCW:=Lh (HC2.out w1 HB1.out.1 HB1.out.2)
    go_wp2_with fail
    refine HCW.out.mono ?_
    rintro e w2 ⟨rfl,hb2⟩
    have HB2:=Lh (HB1.out.1.trans (hb2.mono HB1.out.1.size))
    clear hb2
    go_wp2_with fail
    go_ret
    exact ⟨by simp,HB2.out⟩
   ·go_wp2_with fail
    go_ret
    exact ⟨by simp,HB1.out.1⟩
 ·obtain ⟨g,h,rfl⟩:∃ g h,fl=[g,h]:=by
   have h1:fl.length=2:=by simpa [arityF] using har.symm
   match fl,h1 with
   | [g,h],_=>exact ⟨g,h,rfl⟩
  ·have HB:=Lh (aI hb hbx)
   have hr:holdsF s l env (.mk 13 name n [] [] [g,h])=(!(holdsF s l env g)||holdsF s l env h):=by rw [holdsF_nil,if_neg (by decide),if_neg (by decide),if_neg (by decide),if_neg (by decide),if_neg (by decide),if_pos rfl,holdsAt,holdsAt,holdsAt]
   rw [hr]
   have h0:Calls Tryz.prog 105 #[.int .i64 0,.pointer (some ⟨w.heap.size,0,none⟩),.pointer (some ⟨w.heap.size+1,0,none⟩),.pointer (some ⟨w.heap.size+1+1,0,none⟩)] (hdW w s x l y env z (.mk 13 name n [] [] [g,h]) fa) fun e w'=>e=.returned (.bool (holdsF s l env g))/\Below (hdW w s x l y env z (.mk 13 name n [] [] [g,h]) fa).heap.size (hdW w s x l y env z (.mk 13 name n [] [] [g,h]) fa) w':=hpt 0 (by show 0<2;decide) _ hb hbx
   have h1:∀ W,Below w.heap.size w W->HdBox W w.heap.size s x l y env z (.mk 13 name n [] [] [g,h]) fa->Calls Tryz.prog 105 #[.int .i64 1,.pointer (some ⟨w.heap.size,0,none⟩),.pointer (some ⟨w.heap.size+1,0,none⟩),.pointer (some ⟨w.heap.size+1+1,0,none⟩)] W fun e w'=>e=.returned (.bool (holdsF s l env h))/\Below W.heap.size W w':=hpt 1 (by show 1<2;decide)
   generalize holdsF s l env g=v0 at h0 ⊢
   generalize holdsF s l env h=v1 at h1 ⊢
   clear hpt hb hbx hr
   have HC:=Lh h0
   have HC2:=Lh h1
   clear h0 h1
   simp only [hdW,ndV,FrmA.cells,SlA.val,Frm.kind,Frm.name,Frm.n,Frm.terms,Frm.binds,Frm.l] at HB HC ⊢
   go_enter Tryz.func56,Tryz.ntmps56
   go_wp2_with fail
   refine HC.out.mono ?_
   rintro e w1 ⟨rfl,hb1⟩
   have HB1:=Lh (aI (HB.out.1.trans (hb1.mono HB.out.1.size)) (HB.out.2.below hb1))
   clear hb1
   cases v0
   ·go_wp2_with fail
    go_ret
    exact ⟨by simp,HB1.out.1⟩
   ·have HCW:=Lh (HC2.out w1 HB1.out.1 HB1.out.2)
    go_wp2_with fail
    refine HCW.out.mono ?_
    rintro e w2 ⟨rfl,hb2⟩
    have HB2:=Lh (HB1.out.1.trans (hb2.mono HB1.out.1.size))
    clear hb2
    go_wp2_with fail
    go_ret
    exact ⟨by simp,HB2.out⟩
end Go.Proofs.YtjjkfgjnadaheaaGreatDoor
/- eval.holds: comparisons. -/
namespace Go.Proofs.YtjjkfgjnadaheaaGreatDoor
open Go.RowKit Go.Chalk
theorem holds_cmp (s:Schl) (x:SchA) (l:List Plc) (y:SlA) (env:List Ev) (z:SlA) (name:Bs) (n:Int) (t u:Trm) (binds:List Bnd) (fl:List Frm) (fa:FrmA) (w:World) (hg:GG w) (hx:SlIn w (·<w.heap.size) ([t,u].map Trm.toD) fa.t) (hc:cmpL.contains name=true)
  (hv:∀ c∈[t,u],∀ W,Below w.heap.size w W->Calls Tryz.prog 107 #[stV s x l y,.slice z.a env.length z.cap,.agg #[.int .i64 c.kind,.string ⟨c.name.toArray⟩,.int .i64 c.n]] W fun e w'=>e=.returned (.int .i64 (valueF s env c))/\Below W.heap.size W w') :
  Calls Tryz.prog 56 #[stV s x l y,.slice z.a env.length z.cap,ndV (.mk 9 name n [t,u] binds fl,fa)] w fun e w'=>e=.returned (.bool (holdsF s l env (.mk 9 name n [t,u] binds fl)))/\Below w.heap.size w w':=by
 have hb:=hdW_below w s x l y env z (.mk 9 name n [t,u] binds fl) fa
 obtain ⟨hb1,hb2,hb3⟩:=hdW_box w s x l y env z (.mk 9 name n [t,u] binds fl) fa
 have hr:holdsF s l env (.mk 9 name n [t,u] binds fl)=cmpHolds name (valueF s env t) (valueF s env u):=by rw [holdsF_two,if_neg (by decide),if_neg (by decide),if_pos rfl]
 rw [hr]
 obtain ⟨gs,hgs,hen,hca⟩:=sign_call name hc
 have hnl:name.length<=maxLen:=by
  unfold cmpL at hc
  simp only [List.contains_iff_mem,List.mem_cons,List.not_mem_nil,or_false] at hc
  rcases hc with rfl | rfl | rfl | rfl | rfl | rfl <;> decide
 obtain ⟨g1,_,_,g4,_⟩:=hx.flat Trm.flatT
 obtain ⟨ta,tb⟩:=g1 (by simp)
 obtain ⟨t0,t1,t2⟩:=g4.three 0 (by simp) rfl
 obtain ⟨u0,u1,u2⟩:=g4.three 1 (by simp) rfl
 obtain ⟨mb,mo,q1,q2,q3⟩:=hg.signs
 have HV1:=Lh (hv t (by simp))
 have HV2:=Lh (hv u (by simp))
 have HCA:=Lh (hca (valueF s env t) (valueF s env u))
 simp only [List.getElem_cons_zero,List.getElem_cons_succ,Nat.zero_mul,Nat.add_zero,Nat.one_mul] at t0 t1 t2 u0 u1 u2
 have HK:Hid (∀ W',Below (hdW w s x l y env z (.mk 9 name n [t,u] binds fl) fa).heap.size (hdW w s x l y env z (.mk 9 name n [t,u] binds fl) fa) W'->W'.cell? ⟨0,0,none⟩=some (.map (some mb))/\(Instr.lookup 168 (.map (some mb)) (.string ⟨name.toArray⟩) false).run Tryz.prog W'=.ok (.func (.func gs) #[] #[]) W' /\
   W'.cell? ⟨w.heap.size,0,none⟩=some (.slice x.slots.a s.slots.length x.slots.cap)/\W'.cell? ⟨w.heap.size,1,none⟩=some (.slice x.rooms.a s.rooms.length x.rooms.cap)/\W'.cell? ⟨w.heap.size,2,none⟩=some (.slice x.people.a s.people.length x.people.cap)/\W'.cell? ⟨w.heap.size,3,none⟩=some (.slice x.groups.a s.groups.length x.groups.cap)/\W'.cell? ⟨w.heap.size,4,none⟩=some (.slice x.lessons.a s.lessons.length x.lessons.cap)/\W'.cell? ⟨w.heap.size,5,none⟩=some (.slice y.a l.length y.cap) /\
   W'.cell? ⟨w.heap.size+1,0,none⟩=some (.slice z.a env.length z.cap)/\W'.cell? ⟨w.heap.size+1+1,1,none⟩=some (.string ⟨name.toArray⟩)/\W'.cell? ⟨w.heap.size+1+1,3,none⟩=some (.slice fa.t.a 2 fa.t.cap) /\
   W'.cell? ⟨fa.t.b,fa.t.o,none⟩=some (.int .i64 t.kind)/\W'.cell? ⟨fa.t.b,fa.t.o+1,none⟩=some (.string ⟨t.name.toArray⟩)/\W'.cell? ⟨fa.t.b,fa.t.o+2,none⟩=some (.int .i64 t.n) /\
   W'.cell? ⟨fa.t.b,fa.t.o+3,none⟩=some (.int .i64 u.kind)/\W'.cell? ⟨fa.t.b,fa.t.o+3+1,none⟩=some (.string ⟨u.name.toArray⟩)/\W'.cell? ⟨fa.t.b,fa.t.o+3+2,none⟩=some (.int .i64 u.n)) :=
  Lh (fun W' hW=>by
   have hw:Below w.heap.size w W':=hb.trans (hW.mono hb.size)
   have c1:=(hW.block w.heap.size (gS hb1).1).trans hb1
   have c2:=(hW.block (w.heap.size+1) (gS hb2).1).trans hb2
   have c3:=(hW.block (w.heap.size+1+1) (gS hb3).1).trans hb3
   have hl:=q3 W' ((hw.block _ (gS q2).1).trans q2) (.string ⟨name.toArray⟩) ⟨_,hnl,rfl⟩
   simp only [keyBs_str,hgs] at hl
   refine ⟨(hw.cell (World.block_lt_of_cell? w _ q1)).trans q1,hl,cH c1 rfl,cH c1 rfl,cH c1 rfl,cH c1 rfl,cH c1 rfl,cH c1 rfl,cH c2 rfl,cH c3 rfl,cH c3 rfl,?_,?_,?_,?_,?_,?_⟩
   ·exact (hw.cell (p:=⟨fa.t.b,fa.t.o,none⟩) tb).trans t0
   ·exact (hw.cell (p:=⟨fa.t.b,fa.t.o+1,none⟩) tb).trans t1
   ·exact (hw.cell (p:=⟨fa.t.b,fa.t.o+2,none⟩) tb).trans t2
   ·exact (hw.cell (p:=⟨fa.t.b,fa.t.o+3,none⟩) tb).trans u0
   ·exact (hw.cell (p:=⟨fa.t.b,fa.t.o+3+1,none⟩) tb).trans u1
   ·exact (hw.cell (p:=⟨fa.t.b,fa.t.o+3+2,none⟩) tb).trans u2)
 have HB:=Lh hb
 have hmf:∀ (fn:Fn) (first cap:Array Value) (w:World),(Instr.makeFunc fn first cap).run Tryz.prog w=.ok (.func fn first cap) w:=fun _ _ _ _=>rfl
 clear hg hx hc hv hb hb1 hb2 hb3 hr hgs hca g1 g4 tb t0 t1 t2 u0 u1 u2 q1 q2 q3
 unfold stV at HV1 HV2 ⊢
 generalize valueF s env t=va at HV1 HCA ⊢
 generalize valueF s env u=vb at HV2 HCA ⊢
 generalize cmpHolds name va vb=res at HCA ⊢
 simp only [hdW,ndV,FrmA.cells,SlA.val,Frm.kind,Frm.name,Frm.n,Frm.terms,Frm.binds,Frm.l,List.length_cons,List.length_nil,Nat.zero_add,Nat.reduceAdd,ta] at HB HK ⊢
 go_enter Tryz.func56,Tryz.ntmps56
 go_wp2_with fail
 go_region_held3 (fun w'=>w'.cell? ⟨0,0,none⟩=some (.map (some mb))/\(Instr.lookup 168 (.map (some mb)) (.string ⟨name.toArray⟩) false).run Tryz.prog w'=.ok (.func (.func gs) #[] #[]) w'/\w'.cell? ⟨w.heap.size,0,none⟩=some (.slice x.slots.a s.slots.length x.slots.cap)/\w'.cell? ⟨w.heap.size,1,none⟩=some (.slice x.rooms.a s.rooms.length x.rooms.cap)/\w'.cell? ⟨w.heap.size,2,none⟩=some (.slice x.people.a s.people.length x.people.cap)/\w'.cell? ⟨w.heap.size,3,none⟩=some (.slice x.groups.a s.groups.length x.groups.cap)/\w'.cell? ⟨w.heap.size,4,none⟩=some (.slice x.lessons.a s.lessons.length x.lessons.cap)/\w'.cell? ⟨w.heap.size,5,none⟩=some (.slice y.a l.length y.cap)/\w'.cell? ⟨w.heap.size+1,0,none⟩=some (.slice z.a env.length z.cap)/\w'.cell? ⟨w.heap.size+1+1,1,none⟩=some (.string ⟨name.toArray⟩)/\w'.cell? ⟨w.heap.size+1+1,3,none⟩=some (.slice (some ⟨fa.t.b,fa.t.o,none⟩) 2 fa.t.cap)/\w'.cell? ⟨fa.t.b,fa.t.o,none⟩=some (.int .i64 t.kind)/\w'.cell? ⟨fa.t.b,fa.t.o+1,none⟩=some (.string ⟨t.name.toArray⟩)/\w'.cell? ⟨fa.t.b,fa.t.o+2,none⟩=some (.int .i64 t.n)/\w'.cell? ⟨fa.t.b,fa.t.o+3,none⟩=some (.int .i64 u.kind)/\w'.cell? ⟨fa.t.b,fa.t.o+3+1,none⟩=some (.string ⟨u.name.toArray⟩)/\w'.cell? ⟨fa.t.b,fa.t.o+3+2,none⟩=some (.int .i64 u.n)) ((refine HK.out _ ?_;first | exact HN2.out | exact HN1.out | exact (Below.refl _ _).drew | fail)) (first
  | (go_at_call 107;refine (HV2.out _ (HB.out.trans (HN1.out.mono HB.out.size))).mono ?_;rintro e w2 ⟨rfl,hbb⟩;have HN2:=Lh (HN1.out.trans (hbb.mono HN1.out.size));clear hbb)
  | (go_at_call 107;refine (HV1.out _ HB.out.drew).mono ?_;rintro e w1 ⟨rfl,hbb⟩;have HN1:=Lh (Below.trans (Below.drew (Below.refl _ _)) hbb);clear hbb)
  | (go_at_call 106;refine (compare_any va vb _).mono ?_;rintro e w3 ⟨rfl,rfl⟩)
  | (refine (HCA.out _).mono ?_;rintro e w3 ⟨rfl,rfl⟩))
 all_goals
  go_wp2_with fail
  go_ret
  exact ⟨rfl,HB.out.trans (HN2.out.mono HB.out.size)⟩
end Go.Proofs.YtjjkfgjnadaheaaGreatDoor
/- eval.holds: atoms. -/
namespace Go.Proofs.YtjjkfgjnadaheaaGreatDoor
open Go.RowKit Go.Chalk
theorem holds_atom (s:Schl) (x:SchA) (l:List Plc) (y:SlA) (env:List Ev) (z:SlA) (kind:Int) (name:Bs) (n:Int) (t u:Trm) (binds:List Bnd) (fl:List Frm) (fa:FrmA) (w:World) (hk:3<=kind/\kind<=8) (hg:GG w) (hx:SlIn w (·<w.heap.size) ([t,u].map Trm.toD) fa.t)
  (hs:SchIn w (·<w.heap.size) s x) (hf:SchFit s) (hy:SlIn w (·<w.heap.size) (l.map Plc.toD) y) (ha:kind=3∨kind=4->0<=(evOf env t.name).at_/\(evOf env t.name).at_<l.length)
  (hv:∀ c∈[t,u],∀ W,Below w.heap.size w W->Calls Tryz.prog 108 #[.slice z.a env.length z.cap,.agg #[.int .i64 c.kind,.string ⟨c.name.toArray⟩,.int .i64 c.n]] W fun e w'=>e=.returned (.int .i64 (evOf env c.name).at_)/\Below W.heap.size W w') :
  Calls Tryz.prog 56 #[stV s x l y,.slice z.a env.length z.cap,ndV (.mk kind name n [t,u] binds fl,fa)] w fun e w'=>e=.returned (.bool (holdsF s l env (.mk kind name n [t,u] binds fl)))/\Below w.heap.size w w':=by
 have hb:=hdW_below w s x l y env z (.mk kind name n [t,u] binds fl) fa
 obtain ⟨hb1,hb2,hb3⟩:=hdW_box w s x l y env z (.mk kind name n [t,u] binds fl) fa
 have hr:holdsF s l env (.mk kind name n [t,u] binds fl)=atomHolds s l kind (evOf env t.name).at_ (evOf env u.name).at_:=by rw [holdsF_two,if_neg (by omega),if_neg (by omega),if_neg (by omega)]
 rw [hr]
 obtain ⟨gs,hgs,hen,hca⟩:=atom_call kind hk
 obtain ⟨g1,_,_,g4,_⟩:=hx.flat Trm.flatT
 obtain ⟨ta,tb⟩:=g1 (by simp)
 obtain ⟨t0,t1,t2⟩:=g4.three 0 (by simp) rfl
 obtain ⟨u0,u1,u2⟩:=g4.three 1 (by simp) rfl
 obtain ⟨mb,mo,q1,q2,q3⟩:=hg.atoms
 have HV1:=Lh (hv t (by simp))
 have HV2:=Lh (hv u (by simp))
 have HCA:=Lh (fun (W:World) (hW:Below w.heap.size w W)=>hca s x l y (evOf env t.name).at_ (evOf env u.name).at_ W (hs.later hW hW.size) hf (hy.later hW hW.size) ha)
 simp only [List.getElem_cons_zero,List.getElem_cons_succ,Nat.zero_mul,Nat.add_zero,Nat.one_mul] at t0 t1 t2 u0 u1 u2
 have HK:Hid (∀ W',Below (hdW w s x l y env z (.mk kind name n [t,u] binds fl) fa).heap.size (hdW w s x l y env z (.mk kind name n [t,u] binds fl) fa) W' ->       W'.cell? ⟨w.heap.size,0,none⟩=some (.slice x.slots.a s.slots.length x.slots.cap)/\W'.cell? ⟨w.heap.size,1,none⟩=some (.slice x.rooms.a s.rooms.length x.rooms.cap)/\W'.cell? ⟨w.heap.size,2,none⟩=some (.slice x.people.a s.people.length x.people.cap)/\W'.cell? ⟨w.heap.size,3,none⟩=some (.slice x.groups.a s.groups.length x.groups.cap)/\W'.cell? ⟨w.heap.size,4,none⟩=some (.slice x.lessons.a s.lessons.length x.lessons.cap)/\W'.cell? ⟨w.heap.size,5,none⟩=some (.slice y.a l.length y.cap) /\
   W'.cell? ⟨w.heap.size+1,0,none⟩=some (.slice z.a env.length z.cap)/\W'.cell? ⟨w.heap.size+1+1,3,none⟩=some (.slice fa.t.a 2 fa.t.cap) /\
   W'.cell? ⟨fa.t.b,fa.t.o,none⟩=some (.int .i64 t.kind)/\W'.cell? ⟨fa.t.b,fa.t.o+1,none⟩=some (.string ⟨t.name.toArray⟩)/\W'.cell? ⟨fa.t.b,fa.t.o+2,none⟩=some (.int .i64 t.n) /\
   W'.cell? ⟨fa.t.b,fa.t.o+3,none⟩=some (.int .i64 u.kind)/\W'.cell? ⟨fa.t.b,fa.t.o+3+1,none⟩=some (.string ⟨u.name.toArray⟩)/\W'.cell? ⟨fa.t.b,fa.t.o+3+2,none⟩=some (.int .i64 u.n)) :=
  Lh (fun W' hW=>by
   have hw:Below w.heap.size w W':=hb.trans (hW.mono hb.size)
   have c1:=(hW.block w.heap.size (gS hb1).1).trans hb1
   have c2:=(hW.block (w.heap.size+1) (gS hb2).1).trans hb2
   have c3:=(hW.block (w.heap.size+1+1) (gS hb3).1).trans hb3
   refine ⟨cH c1 rfl,cH c1 rfl,cH c1 rfl,cH c1 rfl,cH c1 rfl,cH c1 rfl,cH c2 rfl,cH c3 rfl,?_,?_,?_,?_,?_,?_⟩
   ·exact (hw.cell (p:=⟨fa.t.b,fa.t.o,none⟩) tb).trans t0
   ·exact (hw.cell (p:=⟨fa.t.b,fa.t.o+1,none⟩) tb).trans t1
   ·exact (hw.cell (p:=⟨fa.t.b,fa.t.o+2,none⟩) tb).trans t2
   ·exact (hw.cell (p:=⟨fa.t.b,fa.t.o+3,none⟩) tb).trans u0
   ·exact (hw.cell (p:=⟨fa.t.b,fa.t.o+3+1,none⟩) tb).trans u1
   ·exact (hw.cell (p:=⟨fa.t.b,fa.t.o+3+2,none⟩) tb).trans u2)
 have HB:=Lh hb
 have hm0:=(hb.cell (World.block_lt_of_cell? w _ q1)).trans q1
 have hl:=q3 (hdW w s x l y env z (.mk kind name n [t,u] binds fl) fa) ((hb.block _ (gS q2).1).trans q2) (.int .i64 kind) ⟨_,(show I64 kind by unfold I64;omega),rfl⟩
 have hkd:(decide (3<=kind)&&decide (kind<=8))=true:=by simp;omega
 replace hl:=hl.trans (show Result.ok (Value.tuple #[atomFn kind,.bool (decide (3<=kind)&&decide (kind<=8))]) _=Result.ok (Value.tuple #[.func (.func gs) #[] #[],.bool true]) _ by rw [hgs,hkd])
 have k1:(kind==1)=false:=by simp;omega
 have k2:(kind==2)=false:=by simp;omega
 have k9:(kind==9)=false:=by simp;omega
 have k10:(kind==10)=false:=by simp;omega
 have k11:(kind==11)=false:=by simp;omega
 have k12:(kind==12)=false:=by simp;omega
 have k13:(kind==13)=false:=by simp;omega
 have hmf:∀ (fn:Fn) (first cap:Array Value) (w:World),(Instr.makeFunc fn first cap).run Tryz.prog w=.ok (.func fn first cap) w:=fun _ _ _ _=>rfl
 clear hg hx hs hf hy ha hk hkd hv hb hb1 hb2 hb3 hr hgs hca g1 g4 tb t0 t1 t2 u0 u1 u2 q1 q2 q3
 unfold stV at HCA ⊢
 generalize (evOf env t.name).at_=va at HV1 HCA ⊢
 generalize (evOf env u.name).at_=vb at HV2 HCA ⊢
 generalize atomHolds s l kind va vb=res at HCA ⊢
 simp only [hdW,ndV,FrmA.cells,SlA.val,Frm.kind,Frm.name,Frm.n,Frm.terms,Frm.binds,Frm.l,List.length_cons,List.length_nil,Nat.zero_add,Nat.reduceAdd,ta] at HB HK hl hm0 ⊢
 go_enter Tryz.func56,Tryz.ntmps56
 go_wp2_with fail
 go_region_held3 (fun w'=>w'.cell? ⟨w.heap.size,0,none⟩=some (.slice x.slots.a s.slots.length x.slots.cap)/\w'.cell? ⟨w.heap.size,1,none⟩=some (.slice x.rooms.a s.rooms.length x.rooms.cap)/\w'.cell? ⟨w.heap.size,2,none⟩=some (.slice x.people.a s.people.length x.people.cap)/\w'.cell? ⟨w.heap.size,3,none⟩=some (.slice x.groups.a s.groups.length x.groups.cap)/\w'.cell? ⟨w.heap.size,4,none⟩=some (.slice x.lessons.a s.lessons.length x.lessons.cap)/\w'.cell? ⟨w.heap.size,5,none⟩=some (.slice y.a l.length y.cap)/\w'.cell? ⟨w.heap.size+1,0,none⟩=some (.slice z.a env.length z.cap)/\w'.cell? ⟨w.heap.size+1+1,3,none⟩=some (.slice (some ⟨fa.t.b,fa.t.o,none⟩) 2 fa.t.cap)/\w'.cell? ⟨fa.t.b,fa.t.o,none⟩=some (.int .i64 t.kind)/\w'.cell? ⟨fa.t.b,fa.t.o+1,none⟩=some (.string ⟨t.name.toArray⟩)/\w'.cell? ⟨fa.t.b,fa.t.o+2,none⟩=some (.int .i64 t.n)/\w'.cell? ⟨fa.t.b,fa.t.o+3,none⟩=some (.int .i64 u.kind)/\w'.cell? ⟨fa.t.b,fa.t.o+3+1,none⟩=some (.string ⟨u.name.toArray⟩)/\w'.cell? ⟨fa.t.b,fa.t.o+3+2,none⟩=some (.int .i64 u.n)) ((refine HK.out _ ?_;first | exact HN3.out | exact HN2.out | exact HN1.out | exact (Below.refl _ _).drew | fail)) (first
  | (go_at_call 108;refine (HV2.out _ (HB.out.trans (HN1.out.mono HB.out.size))).mono ?_;rintro e w2 ⟨rfl,hbb⟩;have HN2:=Lh (HN1.out.trans (hbb.mono HN1.out.size));clear hbb)
  | (go_at_call 108;refine (HV1.out _ HB.out.drew).mono ?_;rintro e w1 ⟨rfl,hbb⟩;have HN1:=Lh (Below.trans (Below.drew (Below.refl _ _)) hbb);clear hbb)
  | (refine (HCA.out _ (HB.out.trans (HN2.out.mono HB.out.size))).mono ?_;rintro e w3 ⟨rfl,hbb⟩;have HN3:=Lh (HN2.out.trans (hbb.mono HN2.out.size));clear hbb))
 all_goals
  go_wp2_with fail
  go_ret
  exact ⟨rfl,HB.out.trans (HN3.out.mono HB.out.size)⟩
end Go.Proofs.YtjjkfgjnadaheaaGreatDoor
