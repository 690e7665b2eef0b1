/- Joined texts: PWrH. -/
import Derived.Test.YtpmalchlecnjbaaGreatDoorB35
set_option maxHeartbeats 2000000
set_option maxRecDepth 100000
set_option linter.unusedVariables false
set_option linter.unusedSimpArgs false
/- The writer of layer syntax: form whole, rule. (written by tools/gen_pwr4.py) -/
namespace Go.Proofs.YtpmalchlecnjbaaGreatDoor
open Go.RowKit Go.Chalk
attribute [local go_sem] Oper.semAt_some
theorem beq_no {a b:Int} (h:a ≠ b):(a==b)=false:=by simpa using h
theorem form_any (w0:World) (hg:GS w0) (P:Nat) (hP:w0.heap.size<=P):∀ g,wf g->FormOk w0 P g:=by
 refine wf_ind ?_ ?_ ?_ ?_ ?_ ?_
 ·rintro k (rfl | rfl)
  ·intro y l w hb h hy hlen
   have e:txtF (.mk 1 [] 0 [] [] [])=[116,114,117,101]:=by rw [txtF_nil];rfl
   rw [e] at hlen ⊢
   exact wform_1 w0 hg P hP y l w hb h hy hlen
  ·intro y l w hb h hy hlen
   have e:txtF (.mk 2 [] 0 [] [] [])=[102,97,108,115,101]:=by rw [txtF_nil];rfl
   rw [e] at hlen ⊢
   exact wform_2 w0 hg P hP y l w hb h hy hlen
 ·intro k a b h1 h2 ha hb' y l w hb h hy hlen
  have e:txtF (.mk k [] 0 [⟨2,a,0⟩,⟨2,b,0⟩] [] [])=kwOf kwAtom k++([40]++(txtTerm ⟨2,a,0⟩++([44,32]++(txtTerm ⟨2,b,0⟩++[41])))):=by
   rw [txtF_two,if_neg (by omega),if_neg (by omega),if_neg (by omega),if_neg (by omega),if_neg (by omega),if_neg (by omega),if_neg (by omega),if_neg (by omega)]
  rw [e] at hlen ⊢
  exact wform_atom w0 hg P hP k (beq_no (by omega)) (beq_no (by omega)) (beq_no (by omega)) (beq_no (by omega)) (beq_no (by omega)) (beq_no (by omega)) (beq_no (by omega)) (beq_no (by omega)) (beq_no (by omega)) (beq_no (by omega)) (beq_no (by omega)) ⟨2,a,0⟩ ⟨2,b,0⟩ (by simp [termedF,ha]) (by simp [termedF,hb']) y l w hb h hy hlen
 ·intro s t u hs ht hu y l w hb h hy hlen
  have e:txtF (.mk 9 s 0 [t,u] [] [])=txtTerm t++([32]++(s++([32]++txtTerm u))):=by rw [txtF_two];rfl
  rw [e] at hlen ⊢
  exact wform_cmp w0 hg P hP s t u ht hu y l w hb h hy hlen
 ·intro g _ ih y l w hb h hy hlen
  have e:txtF (.mk 10 [] 0 [] [] [g])=[33]++txtIn g 4:=by rw [txtF_nil];simp [txtAt,txtIn]
  rw [e] at hlen ⊢
  exact wform_not w0 hg P hP g ih y l w hb h hy hlen
 ·intro k g g' h1 h2 _ _ ih1 ih2
  have:k=11∨k=12∨k=13:=by omega
  rcases this with rfl | rfl | rfl
  ·intro y l w hb h hy hlen
   have e:txtF (.mk 11 [] 0 [] [] [g,g'])=txtIn g 3++([32,38,32]++txtIn g' 4):=by rw [txtF_nil];simp [txtAt,txtIn]
   rw [e] at hlen ⊢
   exact wform_11 w0 hg P hP g g' ih1 ih2 y l w hb h hy hlen
  ·intro y l w hb h hy hlen
   have e:txtF (.mk 12 [] 0 [] [] [g,g'])=txtIn g 2++([32,124,32]++txtIn g' 3):=by rw [txtF_nil];simp [txtAt,txtIn]
   rw [e] at hlen ⊢
   exact wform_12 w0 hg P hP g g' ih1 ih2 y l w hb h hy hlen
  ·intro y l w hb h hy hlen
   have e:txtF (.mk 13 [] 0 [] [] [g,g'])=txtIn g 2++([32,45,62,32]++txtIn g' 1):=by rw [txtF_nil];simp [txtAt,txtIn]
   rw [e] at hlen ⊢
   exact wform_13 w0 hg P hP g g' ih1 ih2 y l w hb h hy hlen
 ·intro k n b bs g h1 h2 hn hm hz hl hbo hbs _ ih
  have hat:txtAt [g] 0 0=txtF g:=by rw [txtAt_get [g] 0 0 (by simp)];simp [txtIn]
  by_cases h16:16<=k
  ·intro y l w hb h hy hlen
   have e:txtF (.mk k [] n [] (b :: bs) [g])=kwOf kwAll k++([32]++(decI n++([32]++(txtBinds (b :: bs)++([32,40]++(txtF g++[41])))))):=by
    rw [txtF_nil,if_neg (by omega),if_neg (by omega),if_neg (by omega),if_neg (by omega),if_neg (by omega),if_neg (by omega),if_neg (by omega),if_pos h1,if_pos h16,hat]
    simp [List.append_assoc]
   rw [e] at hlen ⊢
   exact wform_qhi w0 hg P hP k (by omega) n hn (by omega) (b :: bs) (by simp only [List.length_cons];omega) g ih y l w hb h hy hlen
  ·intro y l w hb h hy hlen
   have e:txtF (.mk k [] n [] (b :: bs) [g])=kwOf kwAll k++([32]++(txtBinds (b :: bs)++([32,40]++(txtF g++[41])))):=by
    rw [txtF_nil,if_neg (by omega),if_neg (by omega),if_neg (by omega),if_neg (by omega),if_neg (by omega),if_neg (by omega),if_neg (by omega),if_pos h1,if_neg h16,hat]
    simp [List.append_assoc]
   rw [e] at hlen ⊢
   exact wform_qlo w0 hg P hP k (by omega) n hn (by omega) (b :: bs) (by simp only [List.length_cons];omega) g ih y l w hb h hy hlen
theorem wrule_te (w0:World) (hg:GS w0) (P:Nat) (hP:w0.heap.size<=P) (name:Bs) (weight:Int) (h0:0<=weight) (h1:weight<=9223372036854775807) (each:List Bnd) (body:Frm) (he:decide (0<each.length)=true) (hel:each.length<=1000000) (hB:FormOk w0 P body) (x:RulA) (l:Bs) (w:World) (hb:Below w0.heap.size w0 w) (h:WAt w P l) (hze:SlIn w (·<P) (each.map Bnd.toD) x.each) (hzb:FrmIn w (·<P) body x.body) (hlen:l.length+(([104,97,114,100,32]++name)++(([32,101,97,99,104,32]++txtBinds each)++([58,32]++(txtF body++[59,10])))).length<=maxTx) :
  Calls Tryz.prog 51 #[.pointer (some ⟨P,0,none⟩),.agg #[.string ⟨name.toArray⟩,.bool true,.int .i64 weight,.slice x.each.a each.length x.each.cap,.int .i64 body.kind,.string ⟨body.name.toArray⟩,.int .i64 body.n,.slice x.body.t.a body.terms.length x.body.t.cap,.slice x.body.b.a body.binds.length x.body.b.cap,.slice x.body.l.a body.l.length x.body.l.cap]] w (WPost w P l (([104,97,114,100,32]++name)++(([32,101,97,99,104,32]++txtBinds each)++([58,32]++(txtF body++[59,10]))))):=by
 obtain ⟨W0,hW0⟩:∃ W0,W0=w.alloc (.cells #[.string ⟨name.toArray⟩,.bool true,.int .i64 weight,.slice x.each.a each.length x.each.cap,.int .i64 body.kind,.string ⟨body.name.toArray⟩,.int .i64 body.n,.slice x.body.t.a body.terms.length x.body.t.cap,.slice x.body.b.a body.binds.length x.body.b.cap,.slice x.body.l.a body.l.length x.body.l.cap] 64):=⟨_,rfl⟩
 have hb0:Below w.heap.size w W0:=by rw [hW0];exact below_new _ _
 have hbx:W0.heap[w.heap.size]?=some (.cells #[.string ⟨name.toArray⟩,.bool true,.int .i64 weight,.slice x.each.a each.length x.each.cap,.int .i64 body.kind,.string ⟨body.name.toArray⟩,.int .i64 body.n,.slice x.body.t.a body.terms.length x.body.t.cap,.slice x.body.b.a body.binds.length x.body.b.cap,.slice x.body.l.a body.l.length x.body.l.cap] 64 (0,0)):=by rw [hW0];exact heap_alloc_new _ _
 have hPl:=h.lt
 have HE:Hid (∀ w',Wr P 5 W0 w'->w'.cell? ⟨w.heap.size,0,none⟩=some (.string ⟨name.toArray⟩)/\w'.cell? ⟨w.heap.size,1,none⟩=some (.bool true)/\w'.cell? ⟨w.heap.size,2,none⟩=some (.int .i64 weight)/\w'.cell? ⟨w.heap.size,3,none⟩=some (.slice x.each.a each.length x.each.cap)/\w'.cell? ⟨w.heap.size,4,none⟩=some (.int .i64 body.kind)/\w'.cell? ⟨w.heap.size,5,none⟩=some (.string ⟨body.name.toArray⟩)/\w'.cell? ⟨w.heap.size,6,none⟩=some (.int .i64 body.n)/\w'.cell? ⟨w.heap.size,7,none⟩=some (.slice x.body.t.a body.terms.length x.body.t.cap)/\w'.cell? ⟨w.heap.size,8,none⟩=some (.slice x.body.b.a body.binds.length x.body.b.cap)/\w'.cell? ⟨w.heap.size,9,none⟩=some (.slice x.body.l.a body.l.length x.body.l.cap)):=Lh (fun w' hW=>by
  have e0:=hW.kept hbx (by decide) (by omega)
  exact ⟨cH e0 rfl,cH e0 rfl,cH e0 rfl,cH e0 rfl,cH e0 rfl,cH e0 rfl,cH e0 rfl,cH e0 rfl,cH e0 rfl,cH e0 rfl⟩)
 have H0:=Lh (aI (WPost.start (h.below hb0)) (aI (Wr.refl P 5 W0) (Wr.of_below (u:=5) hb0 (Nat.le_of_lt hPl))))
 have HGF:=Lh (fun (l':Bs) (W:World) (hW:Wr P 5 w W) (hA:WAt W P l') (hl:l'.length+(txtF body).length<=maxTx)=>hB x.body l' W (hb.trans (hW.below.mono hP)) hA (hzb.agree (agree_of_below hW.below)) hl)
 have HBI:=Lh (fun (l':Bs) (W:World) (hW:Wr P 5 w W) (hA:WAt W P l') (hl:l'.length+(txtBinds each).length<=maxTx)=>wbinds_any P each x.each l' W hA (hze.agree (agree_of_below hW.below)) hel hl)
 have HIT:=Lh (itoa_any weight w0 W0.drew hg (hb.trans ((Wr.of_below (u:=5) hb0 (Nat.le_of_lt hPl)).below.mono hP)).drew h0 h1)
 have HPW:=Lh (Nat.le_of_lt (h.below hb0).lt)
 have HW0:=Lh hW0
 have HL:=Lh hlen
 clear hb h hze hzb hlen hb0 hbx hW0 hP hg hB h0 h1 hel
 go_enter Tryz.func51,Tryz.ntmps51
 go_wp2_with fail
 rw [<- HW0.out]
 refine (put2 P [104,97,114,100,32] name _ W0 (by rw [HW0.out];simp) H0.out.1.2.1 (by have h:=HL.out;simp only [List.length_append,List.length_cons,List.length_nil] at h ⊢;omega)).mono ?_
 rintro e w1 hp
 have H1:=Lh (aI (H0.out.1.then hp) (aI (H0.out.2.1.trans hp.2.2) (H0.out.2.2.trans hp.2.2)))
 obtain ⟨rfl,_,_⟩:=hp
 obtain ⟨c0,c1,c2,c3,c4,c5,c6,c7,c8,c9⟩:=HE.out w1 H1.out.2.1
 go_wp2_with fail
 refine (put1 P [32,101,97,99,104,32] _ w1 rfl H1.out.1.2.1 (by have h:=HL.out;simp only [List.length_append,List.length_cons,List.length_nil] at h ⊢;omega)).mono ?_
 rintro e w2 hp
 have H2:=Lh (aI (H1.out.1.then hp) (aI (H1.out.2.1.trans hp.2.2) (H1.out.2.2.trans hp.2.2)))
 obtain ⟨rfl,_,_⟩:=hp
 clear c0 c1 c2 c3 c4 c5 c6 c7 c8 c9
 obtain ⟨c0,c1,c2,c3,c4,c5,c6,c7,c8,c9⟩:=HE.out w2 H2.out.2.1
 go_wp2_with fail
 refine (HBI.out _ w2 H2.out.2.2 H2.out.1.2.1 (by have h:=HL.out;simp only [List.length_append,List.length_cons,List.length_nil] at h ⊢;omega)).mono ?_
 rintro e w3 hp
 have H3:=Lh (aI (H2.out.1.then hp) (aI (H2.out.2.1.trans hp.2.2) (H2.out.2.2.trans hp.2.2)))
 obtain ⟨rfl,_,_⟩:=hp
 clear c0 c1 c2 c3 c4 c5 c6 c7 c8 c9
 obtain ⟨c0,c1,c2,c3,c4,c5,c6,c7,c8,c9⟩:=HE.out w3 H3.out.2.1
 go_wp2_with fail
 refine (put1 P [58,32] _ w3 rfl H3.out.1.2.1 (by have h:=HL.out;simp only [List.length_append,List.length_cons,List.length_nil] at h ⊢;omega)).mono ?_
 rintro e w4 hp
 have H4:=Lh (aI (H3.out.1.then hp) (aI (H3.out.2.1.trans hp.2.2) (H3.out.2.2.trans hp.2.2)))
 obtain ⟨rfl,_,_⟩:=hp
 clear c0 c1 c2 c3 c4 c5 c6 c7 c8 c9
 obtain ⟨c0,c1,c2,c3,c4,c5,c6,c7,c8,c9⟩:=HE.out w4 H4.out.2.1
 go_wp2_with fail
 refine (HGF.out _ w4 H4.out.2.2 H4.out.1.2.1 (by have h:=HL.out;simp only [List.length_append,List.length_cons,List.length_nil] at h ⊢;omega)).mono ?_
 rintro e w5 hp
 have H5:=Lh (aI (H4.out.1.then hp) (aI (H4.out.2.1.trans hp.2.2) (H4.out.2.2.trans hp.2.2)))
 obtain ⟨rfl,_,_⟩:=hp
 clear c0 c1 c2 c3 c4 c5 c6 c7 c8 c9
 obtain ⟨c0,c1,c2,c3,c4,c5,c6,c7,c8,c9⟩:=HE.out w5 H5.out.2.1
 go_wp2_with fail
 refine (put1 P [59,10] _ w5 rfl H5.out.1.2.1 (by have h:=HL.out;simp only [List.length_append,List.length_cons,List.length_nil] at h ⊢;omega)).mono ?_
 rintro e w6 hp
 have H6:=Lh (aI (H5.out.1.then hp) (aI (H5.out.2.1.trans hp.2.2) (H5.out.2.2.trans hp.2.2)))
 obtain ⟨rfl,_,_⟩:=hp
 clear c0 c1 c2 c3 c4 c5 c6 c7 c8 c9
 go_wp2_with fail
 go_end0
 exact (H6.out.1.lead H0.out.2.2).eq (by first | rfl | simp [txtIn,tightK])
theorem wrule_tn (w0:World) (hg:GS w0) (P:Nat) (hP:w0.heap.size<=P) (name:Bs) (weight:Int) (h0:0<=weight) (h1:weight<=9223372036854775807) (each:List Bnd) (body:Frm) (he:decide (0<each.length)=false) (hel:each.length<=1000000) (hB:FormOk w0 P body) (x:RulA) (l:Bs) (w:World) (hb:Below w0.heap.size w0 w) (h:WAt w P l) (hze:SlIn w (·<P) (each.map Bnd.toD) x.each) (hzb:FrmIn w (·<P) body x.body) (hlen:l.length+(([104,97,114,100,32]++name)++([]++([58,32]++(txtF body++[59,10])))).length<=maxTx) :
  Calls Tryz.prog 51 #[.pointer (some ⟨P,0,none⟩),.agg #[.string ⟨name.toArray⟩,.bool true,.int .i64 weight,.slice x.each.a each.length x.each.cap,.int .i64 body.kind,.string ⟨body.name.toArray⟩,.int .i64 body.n,.slice x.body.t.a body.terms.length x.body.t.cap,.slice x.body.b.a body.binds.length x.body.b.cap,.slice x.body.l.a body.l.length x.body.l.cap]] w (WPost w P l (([104,97,114,100,32]++name)++([]++([58,32]++(txtF body++[59,10]))))):=by
 obtain ⟨W0,hW0⟩:∃ W0,W0=w.alloc (.cells #[.string ⟨name.toArray⟩,.bool true,.int .i64 weight,.slice x.each.a each.length x.each.cap,.int .i64 body.kind,.string ⟨body.name.toArray⟩,.int .i64 body.n,.slice x.body.t.a body.terms.length x.body.t.cap,.slice x.body.b.a body.binds.length x.body.b.cap,.slice x.body.l.a body.l.length x.body.l.cap] 64):=⟨_,rfl⟩
 have hb0:Below w.heap.size w W0:=by rw [hW0];exact below_new _ _
 have hbx:W0.heap[w.heap.size]?=some (.cells #[.string ⟨name.toArray⟩,.bool true,.int .i64 weight,.slice x.each.a each.length x.each.cap,.int .i64 body.kind,.string ⟨body.name.toArray⟩,.int .i64 body.n,.slice x.body.t.a body.terms.length x.body.t.cap,.slice x.body.b.a body.binds.length x.body.b.cap,.slice x.body.l.a body.l.length x.body.l.cap] 64 (0,0)):=by rw [hW0];exact heap_alloc_new _ _
 have hPl:=h.lt
 have HE:Hid (∀ w',Wr P 5 W0 w'->w'.cell? ⟨w.heap.size,0,none⟩=some (.string ⟨name.toArray⟩)/\w'.cell? ⟨w.heap.size,1,none⟩=some (.bool true)/\w'.cell? ⟨w.heap.size,2,none⟩=some (.int .i64 weight)/\w'.cell? ⟨w.heap.size,3,none⟩=some (.slice x.each.a each.length x.each.cap)/\w'.cell? ⟨w.heap.size,4,none⟩=some (.int .i64 body.kind)/\w'.cell? ⟨w.heap.size,5,none⟩=some (.string ⟨body.name.toArray⟩)/\w'.cell? ⟨w.heap.size,6,none⟩=some (.int .i64 body.n)/\w'.cell? ⟨w.heap.size,7,none⟩=some (.slice x.body.t.a body.terms.length x.body.t.cap)/\w'.cell? ⟨w.heap.size,8,none⟩=some (.slice x.body.b.a body.binds.length x.body.b.cap)/\w'.cell? ⟨w.heap.size,9,none⟩=some (.slice x.body.l.a body.l.length x.body.l.cap)):=Lh (fun w' hW=>by
  have e0:=hW.kept hbx (by decide) (by omega)
  exact ⟨cH e0 rfl,cH e0 rfl,cH e0 rfl,cH e0 rfl,cH e0 rfl,cH e0 rfl,cH e0 rfl,cH e0 rfl,cH e0 rfl,cH e0 rfl⟩)
 have H0:=Lh (aI (WPost.start (h.below hb0)) (aI (Wr.refl P 5 W0) (Wr.of_below (u:=5) hb0 (Nat.le_of_lt hPl))))
 have HGF:=Lh (fun (l':Bs) (W:World) (hW:Wr P 5 w W) (hA:WAt W P l') (hl:l'.length+(txtF body).length<=maxTx)=>hB x.body l' W (hb.trans (hW.below.mono hP)) hA (hzb.agree (agree_of_below hW.below)) hl)
 have HBI:=Lh (fun (l':Bs) (W:World) (hW:Wr P 5 w W) (hA:WAt W P l') (hl:l'.length+(txtBinds each).length<=maxTx)=>wbinds_any P each x.each l' W hA (hze.agree (agree_of_below hW.below)) hel hl)
 have HIT:=Lh (itoa_any weight w0 W0.drew hg (hb.trans ((Wr.of_below (u:=5) hb0 (Nat.le_of_lt hPl)).below.mono hP)).drew h0 h1)
 have HPW:=Lh (Nat.le_of_lt (h.below hb0).lt)
 have HW0:=Lh hW0
 have HL:=Lh hlen
 clear hb h hze hzb hlen hb0 hbx hW0 hP hg hB h0 h1 hel
 go_enter Tryz.func51,Tryz.ntmps51
 go_wp2_with fail
 rw [<- HW0.out]
 refine (put2 P [104,97,114,100,32] name _ W0 (by rw [HW0.out];simp) H0.out.1.2.1 (by have h:=HL.out;simp only [List.length_append,List.length_cons,List.length_nil] at h ⊢;omega)).mono ?_
 rintro e w1 hp
 have H1:=Lh (aI (H0.out.1.then hp) (aI (H0.out.2.1.trans hp.2.2) (H0.out.2.2.trans hp.2.2)))
 obtain ⟨rfl,_,_⟩:=hp
 obtain ⟨c0,c1,c2,c3,c4,c5,c6,c7,c8,c9⟩:=HE.out w1 H1.out.2.1
 go_wp2_with fail
 refine (put1 P [58,32] _ w1 rfl H1.out.1.2.1 (by have h:=HL.out;simp only [List.length_append,List.length_cons,List.length_nil] at h ⊢;omega)).mono ?_
 rintro e w2 hp
 have H2:=Lh (aI (H1.out.1.then hp) (aI (H1.out.2.1.trans hp.2.2) (H1.out.2.2.trans hp.2.2)))
 obtain ⟨rfl,_,_⟩:=hp
 clear c0 c1 c2 c3 c4 c5 c6 c7 c8 c9
 obtain ⟨c0,c1,c2,c3,c4,c5,c6,c7,c8,c9⟩:=HE.out w2 H2.out.2.1
 go_wp2_with fail
 refine (HGF.out _ w2 H2.out.2.2 H2.out.1.2.1 (by have h:=HL.out;simp only [List.length_append,List.length_cons,List.length_nil] at h ⊢;omega)).mono ?_
 rintro e w3 hp
 have H3:=Lh (aI (H2.out.1.then hp) (aI (H2.out.2.1.trans hp.2.2) (H2.out.2.2.trans hp.2.2)))
 obtain ⟨rfl,_,_⟩:=hp
 clear c0 c1 c2 c3 c4 c5 c6 c7 c8 c9
 obtain ⟨c0,c1,c2,c3,c4,c5,c6,c7,c8,c9⟩:=HE.out w3 H3.out.2.1
 go_wp2_with fail
 refine (put1 P [59,10] _ w3 rfl H3.out.1.2.1 (by have h:=HL.out;simp only [List.length_append,List.length_cons,List.length_nil] at h ⊢;omega)).mono ?_
 rintro e w4 hp
 have H4:=Lh (aI (H3.out.1.then hp) (aI (H3.out.2.1.trans hp.2.2) (H3.out.2.2.trans hp.2.2)))
 obtain ⟨rfl,_,_⟩:=hp
 clear c0 c1 c2 c3 c4 c5 c6 c7 c8 c9
 go_wp2_with fail
 go_end0
 exact (H4.out.1.lead H0.out.2.2).eq (by first | rfl | simp [txtIn,tightK])
theorem wrule_fe (w0:World) (hg:GS w0) (P:Nat) (hP:w0.heap.size<=P) (name:Bs) (weight:Int) (h0:0<=weight) (h1:weight<=9223372036854775807) (each:List Bnd) (body:Frm) (he:decide (0<each.length)=true) (hel:each.length<=1000000) (hB:FormOk w0 P body) (x:RulA) (l:Bs) (w:World) (hb:Below w0.heap.size w0 w) (h:WAt w P l) (hze:SlIn w (·<P) (each.map Bnd.toD) x.each) (hzb:FrmIn w (·<P) body x.body) (hlen:l.length+(([115,111,102,116,32]++(name++([32]++decI weight)))++(([32,101,97,99,104,32]++txtBinds each)++([58,32]++(txtF body++[59,10])))).length<=maxTx) :
  Calls Tryz.prog 51 #[.pointer (some ⟨P,0,none⟩),.agg #[.string ⟨name.toArray⟩,.bool false,.int .i64 weight,.slice x.each.a each.length x.each.cap,.int .i64 body.kind,.string ⟨body.name.toArray⟩,.int .i64 body.n,.slice x.body.t.a body.terms.length x.body.t.cap,.slice x.body.b.a body.binds.length x.body.b.cap,.slice x.body.l.a body.l.length x.body.l.cap]] w (WPost w P l (([115,111,102,116,32]++(name++([32]++decI weight)))++(([32,101,97,99,104,32]++txtBinds each)++([58,32]++(txtF body++[59,10]))))):=by
 obtain ⟨W0,hW0⟩:∃ W0,W0=w.alloc (.cells #[.string ⟨name.toArray⟩,.bool false,.int .i64 weight,.slice x.each.a each.length x.each.cap,.int .i64 body.kind,.string ⟨body.name.toArray⟩,.int .i64 body.n,.slice x.body.t.a body.terms.length x.body.t.cap,.slice x.body.b.a body.binds.length x.body.b.cap,.slice x.body.l.a body.l.length x.body.l.cap] 64):=⟨_,rfl⟩
 have hb0:Below w.heap.size w W0:=by rw [hW0];exact below_new _ _
 have hbx:W0.heap[w.heap.size]?=some (.cells #[.string ⟨name.toArray⟩,.bool false,.int .i64 weight,.slice x.each.a each.length x.each.cap,.int .i64 body.kind,.string ⟨body.name.toArray⟩,.int .i64 body.n,.slice x.body.t.a body.terms.length x.body.t.cap,.slice x.body.b.a body.binds.length x.body.b.cap,.slice x.body.l.a body.l.length x.body.l.cap] 64 (0,0)):=by rw [hW0];exact heap_alloc_new _ _
 have hPl:=h.lt
 have HE:Hid (∀ w',Wr P 5 W0 w'->w'.cell? ⟨w.heap.size,0,none⟩=some (.string ⟨name.toArray⟩)/\w'.cell? ⟨w.heap.size,1,none⟩=some (.bool false)/\w'.cell? ⟨w.heap.size,2,none⟩=some (.int .i64 weight)/\w'.cell? ⟨w.heap.size,3,none⟩=some (.slice x.each.a each.length x.each.cap)/\w'.cell? ⟨w.heap.size,4,none⟩=some (.int .i64 body.kind)/\w'.cell? ⟨w.heap.size,5,none⟩=some (.string ⟨body.name.toArray⟩)/\w'.cell? ⟨w.heap.size,6,none⟩=some (.int .i64 body.n)/\w'.cell? ⟨w.heap.size,7,none⟩=some (.slice x.body.t.a body.terms.length x.body.t.cap)/\w'.cell? ⟨w.heap.size,8,none⟩=some (.slice x.body.b.a body.binds.length x.body.b.cap)/\w'.cell? ⟨w.heap.size,9,none⟩=some (.slice x.body.l.a body.l.length x.body.l.cap)):=Lh (fun w' hW=>by
  have e0:=hW.kept hbx (by decide) (by omega)
  exact ⟨cH e0 rfl,cH e0 rfl,cH e0 rfl,cH e0 rfl,cH e0 rfl,cH e0 rfl,cH e0 rfl,cH e0 rfl,cH e0 rfl,cH e0 rfl⟩)
 have H0:=Lh (aI (WPost.start (h.below hb0)) (aI (Wr.refl P 5 W0) (Wr.of_below (u:=5) hb0 (Nat.le_of_lt hPl))))
 have HGF:=Lh (fun (l':Bs) (W:World) (hW:Wr P 5 w W) (hA:WAt W P l') (hl:l'.length+(txtF body).length<=maxTx)=>hB x.body l' W (hb.trans (hW.below.mono hP)) hA (hzb.agree (agree_of_below hW.below)) hl)
 have HBI:=Lh (fun (l':Bs) (W:World) (hW:Wr P 5 w W) (hA:WAt W P l') (hl:l'.length+(txtBinds each).length<=maxTx)=>wbinds_any P each x.each l' W hA (hze.agree (agree_of_below hW.below)) hel hl)
 have HIT:=Lh (itoa_any weight w0 W0.drew hg (hb.trans ((Wr.of_below (u:=5) hb0 (Nat.le_of_lt hPl)).below.mono hP)).drew h0 h1)
 have HPW:=Lh (Nat.le_of_lt (h.below hb0).lt)
 have HW0:=Lh hW0
 have HL:=Lh hlen
 clear hb h hze hzb hlen hb0 hbx hW0 hP hg hB h0 h1 hel
 go_enter Tryz.func51,Tryz.ntmps51
 go_wp2_with fail
 rw [<- HW0.out]
 refine wp_region_noPanic ?_
 refine wp_region_held_drew (S:=fun w'=>w'.cell? ⟨w.heap.size,0,none⟩=some (.string ⟨name.toArray⟩)/\w'.cell? ⟨w.heap.size,1,none⟩=some (.bool false)/\w'.cell? ⟨w.heap.size,2,none⟩=some (.int .i64 weight)/\w'.cell? ⟨w.heap.size,3,none⟩=some (.slice x.each.a each.length x.each.cap)/\w'.cell? ⟨w.heap.size,4,none⟩=some (.int .i64 body.kind)/\w'.cell? ⟨w.heap.size,5,none⟩=some (.string ⟨body.name.toArray⟩)/\w'.cell? ⟨w.heap.size,6,none⟩=some (.int .i64 body.n)/\w'.cell? ⟨w.heap.size,7,none⟩=some (.slice x.body.t.a body.terms.length x.body.t.cap)/\w'.cell? ⟨w.heap.size,8,none⟩=some (.slice x.body.b.a body.binds.length x.body.b.cap)/\w'.cell? ⟨w.heap.size,9,none⟩=some (.slice x.body.l.a body.l.length x.body.l.cap)) (by kernel_rfl) (HE.out _ (Wr.of_below (Below.refl _ _).drew HPW.out)) (fun hHeld=>?_)
 refine tkA (i:=0) rfl hHeld ?_
 try simp only [Act.put,List.setIfInBounds_toArray,List.set_cons_zero,List.set_cons_succ]
 refine tkA (i:=1) rfl hHeld ?_
 try simp only [Act.put,List.setIfInBounds_toArray,List.set_cons_zero,List.set_cons_succ]
 refine tkA (i:=2) rfl hHeld ?_
 try simp only [Act.put,List.setIfInBounds_toArray,List.set_cons_zero,List.set_cons_succ]
 refine tkA (i:=3) rfl hHeld ?_
 try simp only [Act.put,List.setIfInBounds_toArray,List.set_cons_zero,List.set_cons_succ]
 refine tkA (i:=4) rfl hHeld ?_
 try simp only [Act.put,List.setIfInBounds_toArray,List.set_cons_zero,List.set_cons_succ]
 refine wpAnyH_ready (rs:=[5]) (by kernel_rfl) (by simp) ?_
 refine cons_at rfl (fun K hK=>?_) AllReadyH.nil
 go_simp
 go_at_call 86
 refine HIT.out.mono ?_
 rintro e w3 ⟨rfl,hb3⟩
 have H3:=Lh ((Below.refl W0.heap.size W0).drew.trans (hb3.mono (Nat.le_refl _)))
 clear hb3
 go_simp
 refine hK.out _ _ ?_ (fun hHeld2=>?_)
 ·exact HE.out _ (Wr.of_below H3.out HPW.out)
 clear hK K hHeld
 have hHeld:=hHeld2
 clear hHeld2
 try simp only [Act.put,List.setIfInBounds_toArray,List.set_cons_zero,List.set_cons_succ]
 refine wpAnyH_ready (rs:=[6]) (by kernel_rfl) (by simp) ?_
 refine cons_at rfl (fun K hK=>?_) AllReadyH.nil
 go_simp
 refine hK.out _ _ ?_ (fun hHeld2=>?_)
 ·exact HE.out _ (Wr.of_below (H3.out.alloc H3.out.size _) HPW.out)
 clear hK K hHeld
 have hHeld:=hHeld2
 clear hHeld2
 try simp only [Act.put,List.setIfInBounds_toArray,List.set_cons_zero,List.set_cons_succ]
 refine wpAnyH_ready (rs:=[7]) (by kernel_rfl) (by simp) ?_
 refine cons_at rfl (fun K hK=>?_) AllReadyH.nil
 go_simp
 go_at_call 80
 refine (put4 P [115,111,102,116,32] name [32] (decI weight) _ w3 rfl (H0.out.1.2.1.below H3.out) (by have h:=HL.out;simp only [List.length_append,List.length_cons,List.length_nil] at h ⊢;omega)).mono ?_
 rintro e w4 hp
 have HP:=Lh (hp.before H3.out HPW.out)
 obtain ⟨rfl,_,_⟩:=hp
 go_simp
 refine hK.out _ _ ?_ (fun hHeld2=>?_)
 ·exact HE.out _ HP.out.2.2
 clear hK K hHeld
 have hHeld:=hHeld2
 clear hHeld2
 try simp only [Act.put,List.setIfInBounds_toArray,List.set_cons_zero,List.set_cons_succ]
 refine wpAnyH_done (by kernel_rfl) ?_ _
 refine NoPanic.normal ?_
 have H1:=Lh (aI (H0.out.1.then HP.out) (aI (H0.out.2.1.trans HP.out.2.2) (H0.out.2.2.trans HP.out.2.2)))
 clear HP H3 hHeld HIT
 obtain ⟨w1,hw1⟩:∃ w1,w1=w4:=⟨_,rfl⟩
 subst hw1
 obtain ⟨c0,c1,c2,c3,c4,c5,c6,c7,c8,c9⟩:=HE.out w1 H1.out.2.1
 go_wp2_with fail
 refine (put1 P [32,101,97,99,104,32] _ w1 rfl H1.out.1.2.1 (by have h:=HL.out;simp only [List.length_append,List.length_cons,List.length_nil] at h ⊢;omega)).mono ?_
 rintro e w2 hp
 have H2:=Lh (aI (H1.out.1.then hp) (aI (H1.out.2.1.trans hp.2.2) (H1.out.2.2.trans hp.2.2)))
 obtain ⟨rfl,_,_⟩:=hp
 clear c0 c1 c2 c3 c4 c5 c6 c7 c8 c9
 obtain ⟨c0,c1,c2,c3,c4,c5,c6,c7,c8,c9⟩:=HE.out w2 H2.out.2.1
 go_wp2_with fail
 refine (HBI.out _ w2 H2.out.2.2 H2.out.1.2.1 (by have h:=HL.out;simp only [List.length_append,List.length_cons,List.length_nil] at h ⊢;omega)).mono ?_
 rintro e w3 hp
 have H3:=Lh (aI (H2.out.1.then hp) (aI (H2.out.2.1.trans hp.2.2) (H2.out.2.2.trans hp.2.2)))
 obtain ⟨rfl,_,_⟩:=hp
 clear c0 c1 c2 c3 c4 c5 c6 c7 c8 c9
 obtain ⟨c0,c1,c2,c3,c4,c5,c6,c7,c8,c9⟩:=HE.out w3 H3.out.2.1
 go_wp2_with fail
 refine (put1 P [58,32] _ w3 rfl H3.out.1.2.1 (by have h:=HL.out;simp only [List.length_append,List.length_cons,List.length_nil] at h ⊢;omega)).mono ?_
 rintro e w4 hp
 have H4:=Lh (aI (H3.out.1.then hp) (aI (H3.out.2.1.trans hp.2.2) (H3.out.2.2.trans hp.2.2)))
 obtain ⟨rfl,_,_⟩:=hp
 clear c0 c1 c2 c3 c4 c5 c6 c7 c8 c9
 obtain ⟨c0,c1,c2,c3,c4,c5,c6,c7,c8,c9⟩:=HE.out w4 H4.out.2.1
 go_wp2_with fail
 refine (HGF.out _ w4 H4.out.2.2 H4.out.1.2.1 (by have h:=HL.out;simp only [List.length_append,List.length_cons,List.length_nil] at h ⊢;omega)).mono ?_
 rintro e w5 hp
 have H5:=Lh (aI (H4.out.1.then hp) (aI (H4.out.2.1.trans hp.2.2) (H4.out.2.2.trans hp.2.2)))
 obtain ⟨rfl,_,_⟩:=hp
 clear c0 c1 c2 c3 c4 c5 c6 c7 c8 c9
 obtain ⟨c0,c1,c2,c3,c4,c5,c6,c7,c8,c9⟩:=HE.out w5 H5.out.2.1
 go_wp2_with fail
 refine (put1 P [59,10] _ w5 rfl H5.out.1.2.1 (by have h:=HL.out;simp only [List.length_append,List.length_cons,List.length_nil] at h ⊢;omega)).mono ?_
 rintro e w6 hp
 have H6:=Lh (aI (H5.out.1.then hp) (aI (H5.out.2.1.trans hp.2.2) (H5.out.2.2.trans hp.2.2)))
 obtain ⟨rfl,_,_⟩:=hp
 clear c0 c1 c2 c3 c4 c5 c6 c7 c8 c9
 go_wp2_with fail
 go_end0
 exact (H6.out.1.lead H0.out.2.2).eq (by first | rfl | simp [txtIn,tightK])
theorem wrule_fn (w0:World) (hg:GS w0) (P:Nat) (hP:w0.heap.size<=P) (name:Bs) (weight:Int) (h0:0<=weight) (h1:weight<=9223372036854775807) (each:List Bnd) (body:Frm) (he:decide (0<each.length)=false) (hel:each.length<=1000000) (hB:FormOk w0 P body) (x:RulA) (l:Bs) (w:World) (hb:Below w0.heap.size w0 w) (h:WAt w P l) (hze:SlIn w (·<P) (each.map Bnd.toD) x.each) (hzb:FrmIn w (·<P) body x.body) (hlen:l.length+(([115,111,102,116,32]++(name++([32]++decI weight)))++([]++([58,32]++(txtF body++[59,10])))).length<=maxTx) :
  Calls Tryz.prog 51 #[.pointer (some ⟨P,0,none⟩),.agg #[.string ⟨name.toArray⟩,.bool false,.int .i64 weight,.slice x.each.a each.length x.each.cap,.int .i64 body.kind,.string ⟨body.name.toArray⟩,.int .i64 body.n,.slice x.body.t.a body.terms.length x.body.t.cap,.slice x.body.b.a body.binds.length x.body.b.cap,.slice x.body.l.a body.l.length x.body.l.cap]] w (WPost w P l (([115,111,102,116,32]++(name++([32]++decI weight)))++([]++([58,32]++(txtF body++[59,10]))))):=by
 obtain ⟨W0,hW0⟩:∃ W0,W0=w.alloc (.cells #[.string ⟨name.toArray⟩,.bool false,.int .i64 weight,.slice x.each.a each.length x.each.cap,.int .i64 body.kind,.string ⟨body.name.toArray⟩,.int .i64 body.n,.slice x.body.t.a body.terms.length x.body.t.cap,.slice x.body.b.a body.binds.length x.body.b.cap,.slice x.body.l.a body.l.length x.body.l.cap] 64):=⟨_,rfl⟩
 have hb0:Below w.heap.size w W0:=by rw [hW0];exact below_new _ _
 have hbx:W0.heap[w.heap.size]?=some (.cells #[.string ⟨name.toArray⟩,.bool false,.int .i64 weight,.slice x.each.a each.length x.each.cap,.int .i64 body.kind,.string ⟨body.name.toArray⟩,.int .i64 body.n,.slice x.body.t.a body.terms.length x.body.t.cap,.slice x.body.b.a body.binds.length x.body.b.cap,.slice x.body.l.a body.l.length x.body.l.cap] 64 (0,0)):=by rw [hW0];exact heap_alloc_new _ _
 have hPl:=h.lt
 have HE:Hid (∀ w',Wr P 5 W0 w'->w'.cell? ⟨w.heap.size,0,none⟩=some (.string ⟨name.toArray⟩)/\w'.cell? ⟨w.heap.size,1,none⟩=some (.bool false)/\w'.cell? ⟨w.heap.size,2,none⟩=some (.int .i64 weight)/\w'.cell? ⟨w.heap.size,3,none⟩=some (.slice x.each.a each.length x.each.cap)/\w'.cell? ⟨w.heap.size,4,none⟩=some (.int .i64 body.kind)/\w'.cell? ⟨w.heap.size,5,none⟩=some (.string ⟨body.name.toArray⟩)/\w'.cell? ⟨w.heap.size,6,none⟩=some (.int .i64 body.n)/\w'.cell? ⟨w.heap.size,7,none⟩=some (.slice x.body.t.a body.terms.length x.body.t.cap)/\w'.cell? ⟨w.heap.size,8,none⟩=some (.slice x.body.b.a body.binds.length x.body.b.cap)/\w'.cell? ⟨w.heap.size,9,none⟩=some (.slice x.body.l.a body.l.length x.body.l.cap)):=Lh (fun w' hW=>by
  have e0:=hW.kept hbx (by decide) (by omega)
  exact ⟨cH e0 rfl,cH e0 rfl,cH e0 rfl,cH e0 rfl,cH e0 rfl,cH e0 rfl,cH e0 rfl,cH e0 rfl,cH e0 rfl,cH e0 rfl⟩)
 have H0:=Lh (aI (WPost.start (h.below hb0)) (aI (Wr.refl P 5 W0) (Wr.of_below (u:=5) hb0 (Nat.le_of_lt hPl))))
 have HGF:=Lh (fun (l':Bs) (W:World) (hW:Wr P 5 w W) (hA:WAt W P l') (hl:l'.length+(txtF body).length<=maxTx)=>hB x.body l' W (hb.trans (hW.below.mono hP)) hA (hzb.agree (agree_of_below hW.below)) hl)
 have HBI:=Lh (fun (l':Bs) (W:World) (hW:Wr P 5 w W) (hA:WAt W P l') (hl:l'.length+(txtBinds each).length<=maxTx)=>wbinds_any P each x.each l' W hA (hze.agree (agree_of_below hW.below)) hel hl)
 have HIT:=Lh (itoa_any weight w0 W0.drew hg (hb.trans ((Wr.of_below (u:=5) hb0 (Nat.le_of_lt hPl)).below.mono hP)).drew h0 h1)
 have HPW:=Lh (Nat.le_of_lt (h.below hb0).lt)
 have HW0:=Lh hW0
 have HL:=Lh hlen
 clear hb h hze hzb hlen hb0 hbx hW0 hP hg hB h0 h1 hel
 go_enter Tryz.func51,Tryz.ntmps51
 go_wp2_with fail
 rw [<- HW0.out]
 refine wp_region_noPanic ?_
 refine wp_region_held_drew (S:=fun w'=>w'.cell? ⟨w.heap.size,0,none⟩=some (.string ⟨name.toArray⟩)/\w'.cell? ⟨w.heap.size,1,none⟩=some (.bool false)/\w'.cell? ⟨w.heap.size,2,none⟩=some (.int .i64 weight)/\w'.cell? ⟨w.heap.size,3,none⟩=some (.slice x.each.a each.length x.each.cap)/\w'.cell? ⟨w.heap.size,4,none⟩=some (.int .i64 body.kind)/\w'.cell? ⟨w.heap.size,5,none⟩=some (.string ⟨body.name.toArray⟩)/\w'.cell? ⟨w.heap.size,6,none⟩=some (.int .i64 body.n)/\w'.cell? ⟨w.heap.size,7,none⟩=some (.slice x.body.t.a body.terms.length x.body.t.cap)/\w'.cell? ⟨w.heap.size,8,none⟩=some (.slice x.body.b.a body.binds.length x.body.b.cap)/\w'.cell? ⟨w.heap.size,9,none⟩=some (.slice x.body.l.a body.l.length x.body.l.cap)) (by kernel_rfl) (HE.out _ (Wr.of_below (Below.refl _ _).drew HPW.out)) (fun hHeld=>?_)
 refine tkA (i:=0) rfl hHeld ?_
 try simp only [Act.put,List.setIfInBounds_toArray,List.set_cons_zero,List.set_cons_succ]
 refine tkA (i:=1) rfl hHeld ?_
 try simp only [Act.put,List.setIfInBounds_toArray,List.set_cons_zero,List.set_cons_succ]
 refine tkA (i:=2) rfl hHeld ?_
 try simp only [Act.put,List.setIfInBounds_toArray,List.set_cons_zero,List.set_cons_succ]
 refine tkA (i:=3) rfl hHeld ?_
 try simp only [Act.put,List.setIfInBounds_toArray,List.set_cons_zero,List.set_cons_succ]
 refine tkA (i:=4) rfl hHeld ?_
 try simp only [Act.put,List.setIfInBounds_toArray,List.set_cons_zero,List.set_cons_succ]
 refine wpAnyH_ready (rs:=[5]) (by kernel_rfl) (by simp) ?_
 refine cons_at rfl (fun K hK=>?_) AllReadyH.nil
 go_simp
 go_at_call 86
 refine HIT.out.mono ?_
 rintro e w3 ⟨rfl,hb3⟩
 have H3:=Lh ((Below.refl W0.heap.size W0).drew.trans (hb3.mono (Nat.le_refl _)))
 clear hb3
 go_simp
 refine hK.out _ _ ?_ (fun hHeld2=>?_)
 ·exact HE.out _ (Wr.of_below H3.out HPW.out)
 clear hK K hHeld
 have hHeld:=hHeld2
 clear hHeld2
 try simp only [Act.put,List.setIfInBounds_toArray,List.set_cons_zero,List.set_cons_succ]
 refine wpAnyH_ready (rs:=[6]) (by kernel_rfl) (by simp) ?_
 refine cons_at rfl (fun K hK=>?_) AllReadyH.nil
 go_simp
 refine hK.out _ _ ?_ (fun hHeld2=>?_)
 ·exact HE.out _ (Wr.of_below (H3.out.alloc H3.out.size _) HPW.out)
 clear hK K hHeld
 have hHeld:=hHeld2
 clear hHeld2
 try simp only [Act.put,List.setIfInBounds_toArray,List.set_cons_zero,List.set_cons_succ]
 refine wpAnyH_ready (rs:=[7]) (by kernel_rfl) (by simp) ?_
 refine cons_at rfl (fun K hK=>?_) AllReadyH.nil
 go_simp
 go_at_call 80
 refine (put4 P [115,111,102,116,32] name [32] (decI weight) _ w3 rfl (H0.out.1.2.1.below H3.out) (by have h:=HL.out;simp only [List.length_append,List.length_cons,List.length_nil] at h ⊢;omega)).mono ?_
 rintro e w4 hp
 have HP:=Lh (hp.before H3.out HPW.out)
 obtain ⟨rfl,_,_⟩:=hp
 go_simp
 refine hK.out _ _ ?_ (fun hHeld2=>?_)
 ·exact HE.out _ HP.out.2.2
 clear hK K hHeld
 have hHeld:=hHeld2
 clear hHeld2
 try simp only [Act.put,List.setIfInBounds_toArray,List.set_cons_zero,List.set_cons_succ]
 refine wpAnyH_done (by kernel_rfl) ?_ _
 refine NoPanic.normal ?_
 have H1:=Lh (aI (H0.out.1.then HP.out) (aI (H0.out.2.1.trans HP.out.2.2) (H0.out.2.2.trans HP.out.2.2)))
 clear HP H3 hHeld HIT
 obtain ⟨w1,hw1⟩:∃ w1,w1=w4:=⟨_,rfl⟩
 subst hw1
 obtain ⟨c0,c1,c2,c3,c4,c5,c6,c7,c8,c9⟩:=HE.out w1 H1.out.2.1
 go_wp2_with fail
 refine (put1 P [58,32] _ w1 rfl H1.out.1.2.1 (by have h:=HL.out;simp only [List.length_append,List.length_cons,List.length_nil] at h ⊢;omega)).mono ?_
 rintro e w2 hp
 have H2:=Lh (aI (H1.out.1.then hp) (aI (H1.out.2.1.trans hp.2.2) (H1.out.2.2.trans hp.2.2)))
 obtain ⟨rfl,_,_⟩:=hp
 clear c0 c1 c2 c3 c4 c5 c6 c7 c8 c9
 obtain ⟨c0,c1,c2,c3,c4,c5,c6,c7,c8,c9⟩:=HE.out w2 H2.out.2.1
 go_wp2_with fail
 refine (HGF.out _ w2 H2.out.2.2 H2.out.1.2.1 (by have h:=HL.out;simp only [List.length_append,List.length_cons,List.length_nil] at h ⊢;omega)).mono ?_
 rintro e w3 hp
 have H3:=Lh (aI (H2.out.1.then hp) (aI (H2.out.2.1.trans hp.2.2) (H2.out.2.2.trans hp.2.2)))
 obtain ⟨rfl,_,_⟩:=hp
 clear c0 c1 c2 c3 c4 c5 c6 c7 c8 c9
 obtain ⟨c0,c1,c2,c3,c4,c5,c6,c7,c8,c9⟩:=HE.out w3 H3.out.2.1
 go_wp2_with fail
 refine (put1 P [59,10] _ w3 rfl H3.out.1.2.1 (by have h:=HL.out;simp only [List.length_append,List.length_cons,List.length_nil] at h ⊢;omega)).mono ?_
 rintro e w4 hp
 have H4:=Lh (aI (H3.out.1.then hp) (aI (H3.out.2.1.trans hp.2.2) (H3.out.2.2.trans hp.2.2)))
 obtain ⟨rfl,_,_⟩:=hp
 clear c0 c1 c2 c3 c4 c5 c6 c7 c8 c9
 go_wp2_with fail
 go_end0
 exact (H4.out.1.lead H0.out.2.2).eq (by first | rfl | simp [txtIn,tightK])
theorem wrule_any (w0:World) (hg:GS w0) (P:Nat) (hP:w0.heap.size<=P) (r:Rul) (x:RulA) (l:Bs) (w:World) (hr:0<=r.weight/\r.weight<=9223372036854775807) (hel:r.each.length<=1000000) (hw:wf r.body) (hb:Below w0.heap.size w0 w) (h:WAt w P l) (hx:RulIn w (·<P) r x) (hlen:l.length+(txtRule r).length<=maxTx) :
  Calls Tryz.prog 51 #[.pointer (some ⟨P,0,none⟩),.agg (x.cells r).toArray] w (WPost w P l (txtRule r)):=by
 obtain ⟨name,hard,weight,each,body⟩:=r
 simp only at hr hel hw
 have hF:=form_any w0 hg P hP body hw
 have e:txtRule ⟨name,hard,weight,each,body⟩=(if hard then [104,97,114,100,32]++name else [115,111,102,116,32]++(name++([32]++decI weight)))++((if each.isEmpty then [] else [32,101,97,99,104,32]++txtBinds each)++([58,32]++(txtF body++[59,10]))):=rfl
 cases hard <;> cases each with
 | nil =>
  rw [e] at hlen ⊢
  first
   | exact wrule_fn w0 hg P hP name weight hr.1 hr.2 [] body (by simp) (by simp) hF x l w hb h hx.each hx.body hlen
   | exact wrule_tn w0 hg P hP name weight hr.1 hr.2 [] body (by simp) (by simp) hF x l w hb h hx.each hx.body hlen
 | cons b bs =>
  rw [e] at hlen ⊢
  first
   | exact wrule_fe w0 hg P hP name weight hr.1 hr.2 (b :: bs) body (by simp) hel hF x l w hb h hx.each hx.body hlen
   | exact wrule_te w0 hg P hP name weight hr.1 hr.2 (b :: bs) body (by simp) hel hF x l w hb h hx.each hx.body hlen
end Go.Proofs.YtpmalchlecnjbaaGreatDoor
