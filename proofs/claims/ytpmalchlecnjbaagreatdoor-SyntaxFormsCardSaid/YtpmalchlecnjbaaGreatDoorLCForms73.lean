/- Joined texts: RYa, RYb, RXh, RXi, RYc, RYd, RYe, RYf. -/
import Derived.Test.YtpmalchlecnjbaaGreatDoorLCForms71
import Derived.Test.YtpmalchlecnjbaaGreatDoorV38
import Derived.Test.YtpmalchlecnjbaaGreatDoorV14
import Derived.Test.YtpmalchlecnjbaaGreatDoorV29
import Derived.Test.YtpmalchlecnjbaaGreatDoorV35
import Derived.Test.YtpmalchlecnjbaaGreatDoorV36
import Derived.Test.YtpmalchlecnjbaaGreatDoorV37
set_option maxHeartbeats 8000000
set_option maxRecDepth 100000
set_option linter.unusedVariables false
set_option linter.unusedSimpArgs false
/- The reference's reader: its state; is, took, want. (written by tools/gen_rya.py) -/
namespace Go.Chalk
open Go.RowKit
theorem EndL.next:∀ {L:List Tok} {n:Nat} (_:EndL L) (hn:n<L.length),(L[n]).kind ≠ 4->n+1<L.length
 | [t],0,h,_,hk=>absurd h hk
 | t :: u :: r,0,_,_,_=>by simp
 | t :: u :: r,n+1,h,hn,hk=>by
  have:=EndL.next (L:=u :: r) (n:=n) h (by simpa using hn) (by simpa using hk)
  simp at this ⊢;omega
end Go.Chalk
namespace Go.Proofs.YtpmalchlecnjbaaGreatDoor
open Go.RowKit Go.Chalk
attribute [local go_sem] Oper.semAt_some
def RdAt (w:World) (P:Nat) (L:List Tok) (n:Nat) (bad:Bool):Prop :=
 EndL L/\(∀ t∈L,TokOk t)/\RToks L/\L.length<=281474976710656/\n<L.length/\∃ b o cap,w.heap[P]?=some (.cells #[.slice (some ⟨b,o,none⟩) L.length cap,.int .i64 (n:Int),.bool bad] 72 (0,0))/\b<P/\L.length<=cap/\cap<=maxLen /\
  ∀ i (h:i<L.length),w.cell? ⟨b,o+i*3,none⟩=some (.int .i64 L[i].kind)/\w.cell? ⟨b,o+i*3+1,none⟩=some (.string ⟨L[i].text.toArray⟩)/\w.cell? ⟨b,o+i*3+2,none⟩=some (.int .i64 (L[i].at_:Int))
theorem RdAt.lt {w:World} {P:Nat} {L:List Tok} {n:Nat} {bad:Bool} (h:RdAt w P L n bad):P<w.heap.size:=by obtain ⟨_,_,_,_,_,_,_,_,h,_⟩:=h;exact (gS h).1
theorem RdAt.place {w:World} {P:Nat} {L:List Tok} {n:Nat} {bad:Bool} (h:RdAt w P L n bad):n<L.length:=h.2.2.2.2.1
theorem RdAt.toks {w:World} {P:Nat} {L:List Tok} {n:Nat} {bad:Bool} (h:RdAt w P L n bad):RToks L:=h.2.2.1
theorem RdAt.far {w w':World} {P:Nat} {L:List Tok} {n:Nat} {bad:Bool} {S:Nat->Prop} (h:RdAt w P L n bad) (hm:Chalk.Mod S w w') (hS:∀ k,S k->P<k):RdAt w' P L n bad:=by
 have hlt:=h.lt
 obtain ⟨h1,h2,h2',h2a,h2b,b,o,cap,h3,h4,h5,h6,h7⟩:=h
 have hk:∀ k,k<=P->w'.heap[k]?=w.heap[k]?:=fun k hk=>hm.block k (by omega) (fun hs=>by have:=hS k hs;omega)
 have hc:∀ (q:Nat) (v:Value),w.cell? ⟨b,q,none⟩=some v->w'.cell? ⟨b,q,none⟩=some v:=fun q v e=>(World.cell?_of_block (a:=⟨b,q,none⟩) (hk b (by omega))).trans e
 exact ⟨h1,h2,h2',h2a,h2b,b,o,cap,(hk P (Nat.le_refl _)).trans h3,h4,h5,h6,fun i hi=>⟨hc _ _ (h7 i hi).1,hc _ _ (h7 i hi).2.1,hc _ _ (h7 i hi).2.2⟩⟩
theorem RdAt.below {w w':World} {P:Nat} {L:List Tok} {n:Nat} {bad:Bool} (h:RdAt w P L n bad) (hb:Below w.heap.size w w'):RdAt w' P L n bad:=h.far (Chalk.Mod.of_below (S:=fun _=>False) hb) (fun _ h=>h.elim)
theorem RdAt.step {w w':World} {P:Nat} {L:List Tok} {n n':Nat} {bad bad':Bool} {b o cap:Nat} (h:RdAt w P L n bad) (h3:w.heap[P]?=some (.cells #[.slice (some ⟨b,o,none⟩) L.length cap,.int .i64 (n:Int),.bool bad] 72 (0,0))) (hn:n'<L.length) (hm:Chalk.Mod (fun k=>k=P) w w')
  (h':w'.heap[P]?=some (.cells #[.slice (some ⟨b,o,none⟩) L.length cap,.int .i64 (n':Int),.bool bad'] 72 (0,0))):RdAt w' P L n' bad':=by
 have hlt:=h.lt
 obtain ⟨h1,h2,h2',h2a,h2b,b',o',cap',h3',h4,h5,h6,h7⟩:=h
 rw [h3] at h3'
 simp only [Option.some.injEq,Obj.cells.injEq,Array.mk.injEq,List.cons.injEq,Value.slice.injEq,Addr.mk.injEq,and_true,true_and] at h3'
 obtain ⟨⟨rfl,rfl⟩,rfl⟩:=h3'
 have hc:∀ (q:Nat) (v:Value),w.cell? ⟨b,q,none⟩=some v->w'.cell? ⟨b,q,none⟩=some v:=fun q v e=>(World.cell?_of_block (a:=⟨b,q,none⟩) (hm.block b (by omega) (by omega))).trans e
 exact ⟨h1,h2,h2',h2a,hn,b,o,cap,h',h4,h5,h6,fun i hi=>⟨hc _ _ (h7 i hi).1,hc _ _ (h7 i hi).2.1,hc _ _ (h7 i hi).2.2⟩⟩
theorem RdAt.sees {w:World} {P:Nat} {L:List Tok} {n:Nat} {bad:Bool} (h:RdAt w P L n bad):∃ b o cap len t r,L.drop n=t :: r/\t∈L/\L[n]?=some t/\TokOk t/\RTok t/\len=L.length/\n<len/\len<=cap/\cap<=maxLen/\b<P/\P<w.heap.size/\w.heap[P]?=some (.cells #[.slice (some ⟨b,o,none⟩) len cap,.int .i64 (n:Int),.bool bad] 72 (0,0)) /\
  w.cell? ⟨b,o+n*3,none⟩=some (.int .i64 t.kind)/\w.cell? ⟨b,o+n*3+1,none⟩=some (.string ⟨t.text.toArray⟩)/\w.cell? ⟨b,o+n*3+2,none⟩=some (.int .i64 (t.at_:Int)):=by
 have hlt:=h.lt
 obtain ⟨h1,h2,h2',h2a,h2b,b,o,cap,h3,h4,h5,h6,h7⟩:=h
 obtain ⟨a0,a1,a2⟩:=h7 n h2b
 exact ⟨b,o,cap,L.length,L[n],L.drop (n+1),List.drop_eq_getElem_cons h2b,List.getElem_mem h2b,List.getElem?_eq_getElem h2b,h2 _ (List.getElem_mem h2b),h2' _ (List.getElem_mem h2b),rfl,h2b,h5,h6,h4,hlt,h3,a0,a1,a2⟩
theorem RdAt.cells {w:World} {P b o cap len n:Nat} {bad:Bool} {t:Tok} (hbP:b<P) (hx:w.heap[P]?=some (.cells #[.slice (some ⟨b,o,none⟩) len cap,.int .i64 (n:Int),.bool bad] 72 (0,0))) (c0:w.cell? ⟨b,o+n*3,none⟩=some (.int .i64 t.kind)) (c1:w.cell? ⟨b,o+n*3+1,none⟩=some (.string ⟨t.text.toArray⟩)) (c2:w.cell? ⟨b,o+n*3+2,none⟩=some (.int .i64 (t.at_:Int))) (W:World) (hW:Below w.heap.size w W) :
  W.cell? ⟨P,0,none⟩=some (.slice (some ⟨b,o,none⟩) len cap)/\W.cell? ⟨P,1,none⟩=some (.int .i64 (n:Int))/\W.cell? ⟨P,2,none⟩=some (.bool bad)/\W.cell? ⟨b,o+n*3,none⟩=some (.int .i64 t.kind)/\W.cell? ⟨b,o+n*3+1,none⟩=some (.string ⟨t.text.toArray⟩)/\W.cell? ⟨b,o+n*3+2,none⟩=some (.int .i64 (t.at_:Int)):=by
 have hlt:=(gS hx).1
 have hk:=(hW.block P hlt).trans hx
 exact ⟨cH hk rfl,cH hk rfl,cH hk rfl,(hW.cell (p:=⟨b,o+n*3,none⟩) (by show b<_;omega)).trans c0,(hW.cell (p:=⟨b,o+n*3+1,none⟩) (by show b<_;omega)).trans c1,(hW.cell (p:=⟨b,o+n*3+2,none⟩) (by show b<_;omega)).trans c2⟩
theorem ris_any (P:Nat) (L:List Tok) (n:Nat) (bad:Bool) (s:Bs) (w:World) (h:RdAt w P L n bad):Calls Tryz.prog 139 #[.pointer (some ⟨P,0,none⟩),.string ⟨s.toArray⟩] w fun e w'=>e=.returned (.bool (!bad&&isT s (L.drop n)))/\Below w.heap.size w w':=by
 obtain ⟨R,hR⟩:∃ R,R=(!bad&&isT s (L.drop n)):=⟨_,rfl⟩
 rw [<- hR]
 obtain ⟨b,o,cap,len,t,r,hd,htm,hgt,htk,hrt,hlen,hnl,hc1,hc2,hbP,hlt,hx,c0,c1,c2⟩:=h.sees
 have HC:=Lh (RdAt.cells hbP hx c0 c1 c2)
 have H0:=Lh h
 have HX:=Lh hx
 have HL:=Lh hlen
 rw [hd,isT_kind3] at hR
 have HR:=Lh hR
 obtain ⟨W1,hW1⟩:∃ W1,W1=(w.alloc (.cells #[.int .i64 t.kind,.string ⟨t.text.toArray⟩,.int .i64 (t.at_:Int)] 51)).drew:=⟨_,rfl⟩
 have HW1:=Lh hW1
 have hb1:Below w.heap.size w W1:=by rw [hW1];exact (Below.alloc (Below.refl _ _) (Nat.le_refl _) _).drew
 have hk1:W1.heap[w.heap.size]?=some (.cells #[.int .i64 t.kind,.string ⟨t.text.toArray⟩,.int .i64 (t.at_:Int)] 51 (0,0)):=by rw [hW1];exact heap_alloc_new w _
 have HB1:=Lh hb1
 have HK1:=Lh hk1
 clear hR hd htm hgt htk hrt h hx c0 c1 c2 hlen hW1 hb1 hk1
 go_enter Tryz.func139,Tryz.ntmps139
 go_wp2_with fail
 refine wp_region_U 11 (S:=fun W=>Below w.heap.size w W) (by kernel_rfl) (Below.refl _ _).drew (fun hHeld=>?_)
 refine take_U (i:=0) (v:=?_) rfl (by kernel_rfl) (by kernel_rfl) (by kernel_rfl) (by kernel_rfl) (fun _ _ _ h=>h) (by rfl) ?_ hHeld ?_
 rotate_left
 ·intro w hSw;obtain ⟨cp0,cp1,cp2,c0,c1,c2⟩:=HC.out w hSw;go_simp;all_goals (with_reducible rfl)
 try simp only [Act.put,ub1,ub2,ub3]
 refine take_U (i:=1) (v:=?_) rfl (by kernel_rfl) (by kernel_rfl) (by kernel_rfl) (by kernel_rfl) (fun _ _ _ h=>h) (by rfl) ?_ hHeld ?_
 rotate_left
 ·intro w hSw;obtain ⟨cp0,cp1,cp2,c0,c1,c2⟩:=HC.out w hSw;go_simp;all_goals (with_reducible rfl)
 try simp only [Act.put,ub1,ub2,ub3]
 refine take_U (i:=2) (v:=?_) rfl (by kernel_rfl) (by kernel_rfl) (by kernel_rfl) (by kernel_rfl) (fun _ _ _ h=>h) (by rfl) ?_ hHeld ?_
 rotate_left
 ·intro w hSw;obtain ⟨cp0,cp1,cp2,c0,c1,c2⟩:=HC.out w hSw;go_simp;all_goals (with_reducible rfl)
 try simp only [Act.put,ub1,ub2,ub3]
 refine take_U (i:=3) (v:=?_) rfl (by kernel_rfl) (by kernel_rfl) (by kernel_rfl) (by kernel_rfl) (fun _ _ _ h=>h) (by rfl) ?_ hHeld ?_
 rotate_left
 ·intro w hSw;obtain ⟨cp0,cp1,cp2,c0,c1,c2⟩:=HC.out w hSw;go_simp;all_goals (with_reducible rfl)
 try simp only [Act.put,ub1,ub2,ub3]
 refine take_U (i:=4) (v:=?_) rfl (by kernel_rfl) (by kernel_rfl) (by kernel_rfl) (by kernel_rfl) (fun _ _ _ h=>h) (by rfl) ?_ hHeld ?_
 rotate_left
 ·intro w hSw;obtain ⟨cp0,cp1,cp2,c0,c1,c2⟩:=HC.out w hSw;go_simp;all_goals (with_reducible rfl)
 try simp only [Act.put,ub1,ub2,ub3]
 refine take_U (i:=5) (v:=?_) rfl (by kernel_rfl) (by kernel_rfl) (by kernel_rfl) (by kernel_rfl) (fun _ _ _ h=>h) (by rfl) ?_ hHeld ?_
 rotate_left
 ·intro w hSw;obtain ⟨cp0,cp1,cp2,c0,c1,c2⟩:=HC.out w hSw;go_simp;all_goals (with_reducible rfl)
 try simp only [Act.put,ub1,ub2,ub3]
 refine take_U (i:=6) (v:=?_) rfl (by kernel_rfl) (by kernel_rfl) (by kernel_rfl) (by kernel_rfl) (fun _ _ _ h=>h) (by rfl) ?_ hHeld ?_
 rotate_left
 ·intro w hSw;obtain ⟨cp0,cp1,cp2,c0,c1,c2⟩:=HC.out w hSw;go_simp;all_goals (with_reducible rfl)
 try simp only [Act.put,ub1,ub2,ub3]
 refine take_U (i:=7) (v:=?_) rfl (by kernel_rfl) (by kernel_rfl) (by kernel_rfl) (by kernel_rfl) (fun _ _ _ h=>h) (by rfl) ?_ hHeld ?_
 rotate_left
 ·intro w hSw;obtain ⟨cp0,cp1,cp2,c0,c1,c2⟩:=HC.out w hSw;go_simp;all_goals (with_reducible rfl)
 try simp only [Act.put,ub1,ub2,ub3]
 refine take_U (i:=8) (v:=?_) rfl (by kernel_rfl) (by kernel_rfl) (by kernel_rfl) (by kernel_rfl) (fun _ _ _ h=>h) (by rfl) ?_ hHeld ?_
 rotate_left
 ·intro w hSw;obtain ⟨cp0,cp1,cp2,c0,c1,c2⟩:=HC.out w hSw;go_simp;all_goals (with_reducible rfl)
 try simp only [Act.put,ub1,ub2,ub3]
 refine take_U (i:=9) (v:=?_) rfl (by kernel_rfl) (by kernel_rfl) (by kernel_rfl) (by kernel_rfl) (fun _ _ _ h=>h) (by rfl) ?_ hHeld ?_
 rotate_left
 ·intro w hSw;obtain ⟨cp0,cp1,cp2,c0,c1,c2⟩:=HC.out w hSw;go_simp;all_goals (with_reducible rfl)
 try simp only [Act.put,ub1,ub2,ub3]
 refine ready_U (rs:=[10]) (by kernel_rfl) (by simp) ?_
 refine cons_U rfl (fun K hK=>?_) nil_U
 go_simp
 refine hK.out _ _ ?_ (fun hHeld2=>?_)
 ·exact Below.alloc hHeld (Below.size hHeld) _
 clear hK K hHeld
 have hHeld:=hHeld2
 clear hHeld2
 try simp only [Act.put,ub1,ub2,ub3]
 refine ready_U (rs:=[11]) (by kernel_rfl) (by simp) ?_
 refine cons_V rfl (by kernel_rfl) (fun K hK=>?_) nil_U
 go_simp
 refine hK.out _ _ ?_
 clear hK K
 try simp only [Act.put,ub1,ub2,ub3]
 refine done_U (by kernel_rfl) ?_ _
 rw [<- HW1.out]
 obtain ⟨cp0,cp1,cp2,-,-,-⟩:=HC.out W1 HB1.out
 have k0:W1.cell? ⟨w.heap.size,0,none⟩=some (.int .i64 t.kind):=cH HK1.out rfl
 have k1:W1.cell? ⟨w.heap.size,1,none⟩=some (.string ⟨t.text.toArray⟩):=cH HK1.out rfl
 have hR:=HR.out
 cases bad
 rotate_left
 ·rw [Bool.not_true,Bool.false_and] at hR
  subst hR
  clear HR
  go_wp2_with fail
  go_ret
  exact ⟨rfl,HB1.out⟩
 rw [Bool.not_false,Bool.true_and] at hR
 obtain ⟨tk,tx,ta⟩:=t
 simp only at hR k0 k1
 by_cases h1:tk=1
 ·subst h1
  rw [show ((1:Int)==1)=true from rfl,Bool.true_or,Bool.and_true] at hR
  have HR2:=Lh hR
  clear HR hR
  go_wp2_with fail
  go_ret
  exact ⟨ret_bool HR2.out.symm,HB1.out⟩
 by_cases h3:tk=3
 ·subst h3
  rw [show ((3:Int)==1)=false from rfl,show ((3:Int)==3)=true from rfl,Bool.or_true,Bool.and_true] at hR
  have HR2:=Lh hR
  clear HR h1 hR
  go_wp2_with fail
  go_ret
  exact ⟨ret_bool HR2.out.symm,HB1.out⟩
 have e1:(tk==1)=false:=by simpa using h1
 have e3:(tk==3)=false:=by simpa using h3
 rw [e1,e3,Bool.or_false,Bool.and_false] at hR
 subst hR
 clear HR h1 h3
 go_wp2_with fail
 go_ret
 exact ⟨rfl,HB1.out⟩
def TookP (P:Nat) (L:List Tok) (s:Bs) (n:Nat) (bad:Bool) (w:World) (e:Ending) (w':World):Prop:=∃ c n',e=.returned (.bool c)/\RTook L s n bad c n'/\RdAt w' P L n' bad/\Chalk.Mod (fun k=>k=P) w w'
def WantP (P:Nat) (L:List Tok) (s:Bs) (n:Nat) (bad:Bool) (w:World) (e:Ending) (w':World):Prop:=∃ n' bad',e=.returned (.tuple #[])/\ROut L (pWant s) n bad () n' bad'/\RdAt w' P L n' bad'/\Chalk.Mod (fun k=>k=P) w w'
theorem rd_set1 {w w':World} {P b o cap n n':Nat} {L:List Tok} {bad:Bool} (h:RdAt w P L n bad) (hx:w.heap[P]?=some (.cells #[.slice (some ⟨b,o,none⟩) L.length cap,.int .i64 (n:Int),.bool bad] 72 (0,0))) (hb:Below w.heap.size w w') (hn:n'<L.length):RdAt (w'.setCell ⟨P,1,none⟩ (.int .i64 (n':Int))) P L n' bad/\Chalk.Mod (fun k=>k=P) w (w'.setCell ⟨P,1,none⟩ (.int .i64 (n':Int))):=by
 have hlt:=h.lt
 have hx':=(hb.block P hlt).trans hx
 have hm:Chalk.Mod (fun k=>k=P) w' (w'.setCell ⟨P,1,none⟩ (.int .i64 (n':Int))):=(Chalk.Mod.refl (fun k=>k=P) w').setCell (p:=⟨P,1,none⟩) (fun _=>rfl) _
 exact ⟨(h.below hb).step hx' hn hm (box_store (i:=1) (.int .i64 (n':Int)) hx'),(Chalk.Mod.of_below (S:=fun k=>k=P) hb).trans hm (fun _ _ h=>h)⟩
theorem rd_set2 {w w':World} {P b o cap n:Nat} {L:List Tok} {bad bad':Bool} (h:RdAt w P L n bad) (hx:w.heap[P]?=some (.cells #[.slice (some ⟨b,o,none⟩) L.length cap,.int .i64 (n:Int),.bool bad] 72 (0,0))) (hb:Below w.heap.size w w'):RdAt (w'.setCell ⟨P,2,none⟩ (.bool bad')) P L n bad'/\Chalk.Mod (fun k=>k=P) w (w'.setCell ⟨P,2,none⟩ (.bool bad')):=by
 have hlt:=h.lt
 have hx':=(hb.block P hlt).trans hx
 have hm:Chalk.Mod (fun k=>k=P) w' (w'.setCell ⟨P,2,none⟩ (.bool bad')):=(Chalk.Mod.refl (fun k=>k=P) w').setCell (p:=⟨P,2,none⟩) (fun _=>rfl) _
 exact ⟨(h.below hb).step hx' h.place hm (box_store (i:=2) (.bool bad') hx'),(Chalk.Mod.of_below (S:=fun k=>k=P) hb).trans hm (fun _ _ h=>h)⟩
theorem RdAt.open_ {w:World} {P:Nat} {L:List Tok} {n:Nat} {bad:Bool} (h:RdAt w P L n bad):∃ b o cap,w.heap[P]?=some (.cells #[.slice (some ⟨b,o,none⟩) L.length cap,.int .i64 (n:Int),.bool bad] 72 (0,0)):=by
 obtain ⟨_,_,_,_,_,b,o,cap,h3,_⟩:=h;exact ⟨b,o,cap,h3⟩
theorem RdAt.more {w:World} {P:Nat} {L:List Tok} {n:Nat} {bad:Bool} (h:RdAt w P L n bad) (hk:∀ t,L[n]?=some t->t.kind ≠ 4):n+1<L.length:=EndL.next h.1 h.place (hk _ (List.getElem?_eq_getElem h.place))
theorem RdAt.isNext {w:World} {P:Nat} {L:List Tok} {n:Nat} {bad:Bool} {s:Bs} (h:RdAt w P L n bad) (hs:isT s (L.drop n)=true):n+1<L.length:=h.more (fun t ht=>by
 rw [List.drop_eq_getElem_cons h.place] at hs
 rw [List.getElem?_eq_getElem h.place] at ht
 cases ht
 exact isT_kind hs)
theorem rtook_any (P:Nat) (L:List Tok) (n:Nat) (bad:Bool) (s:Bs) (w:World) (h:RdAt w P L n bad):Calls Tryz.prog 77 #[.pointer (some ⟨P,0,none⟩),.string ⟨s.toArray⟩] w (TookP P L s n bad w):=by
 have hi:=ris_any P L n bad s w h
 obtain ⟨c,hc⟩:∃ c,c=(!bad&&isT s (L.drop n)):=⟨_,rfl⟩
 rw [<- hc] at hi
 have HI:=Lh hi
 obtain ⟨b,o,cap,hx⟩:=h.open_
 have H0:=Lh h
 have HX:=Lh hx
 cases c
 ·have hT:RTook L s n bad false n:=⟨hc,by simp⟩
  have HT:=Lh hT
  clear hT hc hi h hx
  go_enter Tryz.func77,Tryz.ntmps77
  go_wp2_with fail
  refine HI.out.mono ?_
  rintro e w1 ⟨rfl,hb⟩
  have HB:=Lh hb
  clear hb
  go_wp2_with fail
  go_ret
  exact ⟨false,n,rfl,HT.out,H0.out.below HB.out,Chalk.Mod.of_below HB.out⟩
 ·have hT:RTook L s n bad true (n+1):=⟨hc,by simp⟩
  have HT:=Lh hT
  have HN:=Lh (h.isNext hT.yes.2.1)
  have hnb:n<281474976710656:=Nat.lt_of_lt_of_le h.place h.2.2.2.1
  clear hT hc hi h hx
  go_enter Tryz.func77,Tryz.ntmps77
  go_wp2_with fail
  refine HI.out.mono ?_
  rintro e w1 ⟨rfl,hb⟩
  have HB:=Lh hb
  have hx1:=(hb.block P H0.out.lt).trans HX.out
  have cp1:w1.cell? ⟨P,1,none⟩=some (.int .i64 (n:Int)):=cH hx1 rfl
  have fp1:w1.frozen? ⟨P,1,none⟩=false:=fH hx1
  clear hb hx1
  go_wp2_with fail
  go_ret
  obtain ⟨g1,g2⟩:=rd_set1 H0.out HX.out HB.out HN.out
  exact ⟨true,n+1,rfl,HT.out,g1,g2⟩
theorem rwant_any (P:Nat) (L:List Tok) (n:Nat) (bad:Bool) (s:Bs) (w:World) (h:RdAt w P L n bad):Calls Tryz.prog 104 #[.pointer (some ⟨P,0,none⟩),.string ⟨s.toArray⟩] w (WantP P L s n bad w):=by
 have HT:=Lh (rtook_any P L n bad s w h)
 have H0:=Lh h
 clear h
 go_enter Tryz.func104,Tryz.ntmps104
 go_wp2_with fail
 refine HT.out.mono ?_
 rintro e w1 ⟨c,n1,rfl,ht,hr,hm⟩
 have H1:=Lh (aI ht (aI hr hm))
 clear ht hr hm HT
 cases c
 ·obtain ⟨b,o,cap,hx⟩:=H1.out.2.1.open_
  have HX:=Lh hx
  have fp2:w1.frozen? ⟨P,2,none⟩=false:=fH hx
  have cp2:w1.cell? ⟨P,2,none⟩=some (.bool bad):=cH hx rfl
  clear hx
  go_wp2_with fail
  go_end0
  obtain ⟨g1,g2⟩:=rd_set2 (bad':=true) H1.out.2.1 HX.out (Below.refl _ _)
  exact ⟨n1,true,rfl,by have:=H1.out.1.want;rwa [Bool.not_false,Bool.or_true] at this,g1,H1.out.2.2.trans g2 (fun _ _ h=>h)⟩
 ·go_wp2_with fail
  go_end0
  exact ⟨n1,bad,rfl,by have:=H1.out.1.want;rwa [Bool.not_true,Bool.or_false] at this,H1.out.2.1,H1.out.2.2⟩
end Go.Proofs.YtpmalchlecnjbaaGreatDoor
/- The reference's reader: place, among, name, number. (written by tools/gen_ryb.py) -/
namespace Go.Chalk
open Go.RowKit
def StrsAt (W:World) (ks:List Bs) (b:Nat):Prop:=b<W.heap.size/\∀ j (h:j<ks.length),W.cell? ⟨b,j,none⟩=some (.string ⟨ks[j].toArray⟩)
theorem StrsAt.below {w w':World} {ks:List Bs} {b:Nat} (h:StrsAt w ks b) (hb:Below w.heap.size w w'):StrsAt w' ks b:=⟨Nat.lt_of_lt_of_le h.1 hb.size,fun j hj=>(hb.cell (p:=⟨b,j,none⟩) h.1).trans (h.2 j hj)⟩
theorem ixFrom_step {ks:List Bs} {s:Bs} {j:Nat} (h:j<ks.length):ixFrom (j:Int) (ks.drop j) s=if ks[j]=s then (j:Int) else ixFrom ((j+1:Nat):Int) (ks.drop (j+1)) s:=by rw [List.drop_eq_getElem_cons h,ixFrom];rfl
theorem valD_take {l:Bs} {j:Nat} (h:j<l.length):valD (l.take (j+1))=10*valD (l.take j)+(l[j].toNat - 48):=by
 unfold valD
 rw [List.take_succ_eq_append_getElem h,List.foldl_append];rfl
theorem valD_mono {l:Bs}:∀ {j:Nat},j<=l.length->valD (l.take j)<=valD l:=by
 intro j hj
 obtain ⟨d,hd⟩:∃ d,d=l.length - j:=⟨_,rfl⟩
 induction d generalizing j with
 | zero => have : j = l.length := by omega
           subst this;rw [List.take_length];exact Nat.le_refl _
 | succ d ih =>
  have h:=ih (j:=j+1) (by omega) (by omega)
  rw [valD_take (by omega)] at h
  omega
end Go.Chalk
namespace Go.Proofs.YtpmalchlecnjbaaGreatDoor
open Go.RowKit Go.Chalk
attribute [local go_sem] Oper.semAt_some
theorem rplace_any (ks:List Bs) (kb len cap:Nat) (s:Bs) (w:World) (hk:StrsAt w ks kb) (hl:ks.length=len) (hc:len<=cap) (hlm:len<=1000000):Calls Tryz.prog 153 #[.slice (some ⟨kb,0,none⟩) len cap,.string ⟨s.toArray⟩] w fun e w'=>e=.returned (.int .i64 (ixFrom 0 ks s))/\Below w.heap.size w w':=by
 obtain ⟨R,hR⟩:∃ R,R=ixFrom 0 ks s:=⟨_,rfl⟩
 rw [<- hR]
 have HR:=Lh hR
 have HK:=Lh hk
 have HST:=Lh (fun (j:Nat) (h:j<ks.length)=>ixFrom_step (s:=s) h)
 have hz:(ks.drop 0)=ks:=rfl
 have HL:=Lh hl
 clear hR hk hz hl
 go_enter Tryz.func153,Tryz.ntmps153
 go_wp2_with fail
 go_loopw [9] (fun i wr=>∃ j:Nat,j<=len/\i=.int .i64 j/\Hid (R=ixFrom (j:Int) (ks.drop j) s)/\Hid (Below w.heap.size w wr)) (fun i _=>len - (intOf i).toNat)
 case atStart=>exact ⟨0,Nat.zero_le _,rfl,HR,Lh (Below.refl _ _)⟩
 case round =>
  obtain ⟨j,hj,rfl,HA,HB⟩:=hrel
  by_cases hlt:j<len
  ·have hjl:j<ks.length:=by have:=HL.out;omega
   have x0:=(HB.out.cell (p:=⟨kb,j,none⟩) HK.out.1).trans (HK.out.2 j hjl)
   have hst:=HST.out j hjl
   rw [<- HA.out] at hst
   generalize ks[j]=xt at *
   by_cases hx:xt=s
   ·rw [if_pos hx] at hst
    have hx2:(xt==s)=true:=by simpa using hx
    subst hst
    clear hx HA HR
    go_wp2_with fail
    go_ret
    exact ⟨rfl,HB.out⟩
   ·rw [if_neg hx] at hst
    have hx2:(xt==s)=false:=by simpa using hx
    have HA2:=Lh hst
    clear hst
    go_wp2_with fail
    exact ⟨⟨j+1,by omega,by go_num,HA2,HB⟩,by simp [intOf];omega⟩
  ·have hjn:j=ks.length:=by have:=HL.out;omega
   have ha:=HA.out
   rw [hjn,List.drop_length,ixFrom] at ha
   subst ha
   clear HA hjn HR
   go_wp2_with fail
   go_ret
   exact ⟨rfl,HB.out⟩
def AmongP (P:Nat) (L:List Tok) (ks:List Bs) (n:Nat) (bad:Bool) (w:World) (e:Ending) (w':World):Prop:=∃ i n',e=.returned (.int .i64 i)/\RAmong L ks n bad i n'/\RdAt w' P L n' bad/\Chalk.Mod (fun k=>k=P) w w'
theorem ramong_any (P:Nat) (L:List Tok) (n:Nat) (bad:Bool) (ks:List Bs) (kb len cap:Nat) (w:World) (h:RdAt w P L n bad) (hks:StrsAt w ks kb) (hkl:ks.length=len) (hkc:len<=cap) (hkm:len<=1000000):Calls Tryz.prog 100 #[.pointer (some ⟨P,0,none⟩),.slice (some ⟨kb,0,none⟩) len cap] w (AmongP P L ks n bad w):=by
 obtain ⟨b,o,cap2,len2,t,r,hd,htm,hgt,htk,hrt,hlen,hnl,hc1,hc2,hbP,hlt,hx,c0,c1,c2⟩:=h.sees
 have HC:=Lh (RdAt.cells hbP hx c0 c1 c2)
 have H0:=Lh h
 have HX:=Lh hx
 have hnb:n<281474976710656:=Nat.lt_of_lt_of_le h.place h.2.2.2.1
 have hix:=ixFrom_ge ks 0 t.text (Int.le_refl _)
 have HP:=Lh (fun (W:World) (hW:Below w.heap.size w W)=>rplace_any ks kb len cap t.text W (hks.below hW) hkl hkc hkm)
 have ham:amongF ks (L.drop n)=if (t.kind=1∨t.kind=3)/\t.text ≠ [] then ixFrom 0 ks t.text else -1:=by rw [hd];rfl
 obtain ⟨am,hamd⟩:∃ am,am=amongF ks (L.drop n):=⟨_,rfl⟩
 rw [<- hamd] at ham
 have HAM:=Lh (fun i n' (h1:i=(if bad then -1 else am)) (h2:n'=if 0<=i then n+1 else n)=>(⟨by rw [h1,hamd],h2⟩:RAmong L ks n bad i n'))
 have HMORE:=Lh (fun (hk4:t.kind ≠ 4)=>h.more (fun u hu=>by rw [hgt] at hu;cases hu;exact hk4))
 have HL2:=Lh hlen
 obtain ⟨W1,hW1⟩:∃ W1,W1=(w.alloc (.cells #[.int .i64 t.kind,.string ⟨t.text.toArray⟩,.int .i64 (t.at_:Int)] 51)).drew:=⟨_,rfl⟩
 have HW1:=Lh hW1
 have hb1:Below w.heap.size w W1:=by rw [hW1];exact (Below.alloc (Below.refl _ _) (Nat.le_refl _) _).drew
 have hk1:W1.heap[w.heap.size]?=some (.cells #[.int .i64 t.kind,.string ⟨t.text.toArray⟩,.int .i64 (t.at_:Int)] 51 (0,0)):=by rw [hW1];exact heap_alloc_new w _
 have HB1:=Lh hb1
 have HK1:=Lh hk1
 generalize ixFrom 0 ks t.text=ix at HP hix ham
 have HIX:=Lh hix
 have HAE:=Lh ham
 clear hd htm hgt htk hrt h hx c0 c1 c2 hlen hW1 hb1 hk1 hamd ham hix hks hkl
 go_enter Tryz.func100,Tryz.ntmps100
 go_wp2_with fail
 refine wp_region_U 11 (S:=fun W=>Below w.heap.size w W) (by kernel_rfl) (Below.refl _ _).drew (fun hHeld=>?_)
 refine take_U (i:=0) (v:=?_) rfl (by kernel_rfl) (by kernel_rfl) (by kernel_rfl) (by kernel_rfl) (fun _ _ _ h=>h) (by rfl) ?_ hHeld ?_
 rotate_left
 ·intro w hSw;obtain ⟨cp0,cp1,cp2,c0,c1,c2⟩:=HC.out w hSw;go_simp;all_goals (with_reducible rfl)
 try simp only [Act.put,ub1,ub2,ub3]
 refine take_U (i:=1) (v:=?_) rfl (by kernel_rfl) (by kernel_rfl) (by kernel_rfl) (by kernel_rfl) (fun _ _ _ h=>h) (by rfl) ?_ hHeld ?_
 rotate_left
 ·intro w hSw;obtain ⟨cp0,cp1,cp2,c0,c1,c2⟩:=HC.out w hSw;go_simp;all_goals (with_reducible rfl)
 try simp only [Act.put,ub1,ub2,ub3]
 refine take_U (i:=2) (v:=?_) rfl (by kernel_rfl) (by kernel_rfl) (by kernel_rfl) (by kernel_rfl) (fun _ _ _ h=>h) (by rfl) ?_ hHeld ?_
 rotate_left
 ·intro w hSw;obtain ⟨cp0,cp1,cp2,c0,c1,c2⟩:=HC.out w hSw;go_simp;all_goals (with_reducible rfl)
 try simp only [Act.put,ub1,ub2,ub3]
 refine take_U (i:=3) (v:=?_) rfl (by kernel_rfl) (by kernel_rfl) (by kernel_rfl) (by kernel_rfl) (fun _ _ _ h=>h) (by rfl) ?_ hHeld ?_
 rotate_left
 ·intro w hSw;obtain ⟨cp0,cp1,cp2,c0,c1,c2⟩:=HC.out w hSw;go_simp;all_goals (with_reducible rfl)
 try simp only [Act.put,ub1,ub2,ub3]
 refine take_U (i:=4) (v:=?_) rfl (by kernel_rfl) (by kernel_rfl) (by kernel_rfl) (by kernel_rfl) (fun _ _ _ h=>h) (by rfl) ?_ hHeld ?_
 rotate_left
 ·intro w hSw;obtain ⟨cp0,cp1,cp2,c0,c1,c2⟩:=HC.out w hSw;go_simp;all_goals (with_reducible rfl)
 try simp only [Act.put,ub1,ub2,ub3]
 refine take_U (i:=5) (v:=?_) rfl (by kernel_rfl) (by kernel_rfl) (by kernel_rfl) (by kernel_rfl) (fun _ _ _ h=>h) (by rfl) ?_ hHeld ?_
 rotate_left
 ·intro w hSw;obtain ⟨cp0,cp1,cp2,c0,c1,c2⟩:=HC.out w hSw;go_simp;all_goals (with_reducible rfl)
 try simp only [Act.put,ub1,ub2,ub3]
 refine take_U (i:=6) (v:=?_) rfl (by kernel_rfl) (by kernel_rfl) (by kernel_rfl) (by kernel_rfl) (fun _ _ _ h=>h) (by rfl) ?_ hHeld ?_
 rotate_left
 ·intro w hSw;obtain ⟨cp0,cp1,cp2,c0,c1,c2⟩:=HC.out w hSw;go_simp;all_goals (with_reducible rfl)
 try simp only [Act.put,ub1,ub2,ub3]
 refine take_U (i:=7) (v:=?_) rfl (by kernel_rfl) (by kernel_rfl) (by kernel_rfl) (by kernel_rfl) (fun _ _ _ h=>h) (by rfl) ?_ hHeld ?_
 rotate_left
 ·intro w hSw;obtain ⟨cp0,cp1,cp2,c0,c1,c2⟩:=HC.out w hSw;go_simp;all_goals (with_reducible rfl)
 try simp only [Act.put,ub1,ub2,ub3]
 refine take_U (i:=8) (v:=?_) rfl (by kernel_rfl) (by kernel_rfl) (by kernel_rfl) (by kernel_rfl) (fun _ _ _ h=>h) (by rfl) ?_ hHeld ?_
 rotate_left
 ·intro w hSw;obtain ⟨cp0,cp1,cp2,c0,c1,c2⟩:=HC.out w hSw;go_simp;all_goals (with_reducible rfl)
 try simp only [Act.put,ub1,ub2,ub3]
 refine take_U (i:=9) (v:=?_) rfl (by kernel_rfl) (by kernel_rfl) (by kernel_rfl) (by kernel_rfl) (fun _ _ _ h=>h) (by rfl) ?_ hHeld ?_
 rotate_left
 ·intro w hSw;obtain ⟨cp0,cp1,cp2,c0,c1,c2⟩:=HC.out w hSw;go_simp;all_goals (with_reducible rfl)
 try simp only [Act.put,ub1,ub2,ub3]
 refine ready_U (rs:=[10]) (by kernel_rfl) (by simp) ?_
 refine cons_U rfl (fun K hK=>?_) nil_U
 go_simp
 refine hK.out _ _ ?_ (fun hHeld2=>?_)
 ·exact Below.alloc hHeld (Below.size hHeld) _
 clear hK K hHeld
 have hHeld:=hHeld2
 clear hHeld2
 try simp only [Act.put,ub1,ub2,ub3]
 refine ready_U (rs:=[11]) (by kernel_rfl) (by simp) ?_
 refine cons_V rfl (by kernel_rfl) (fun K hK=>?_) nil_U
 go_simp
 refine hK.out _ _ ?_
 clear hK K
 try simp only [Act.put,ub1,ub2,ub3]
 refine done_U (by kernel_rfl) ?_ _
 rw [<- HW1.out]
 have k1:W1.cell? ⟨w.heap.size,1,none⟩=some (.string ⟨t.text.toArray⟩):=cH HK1.out rfl
 have HP1:=Lh (HP.out W1 HB1.out)
 go_wp2_with fail
 refine HP1.out.mono ?_
 rintro e w2 ⟨rfl,hb2⟩
 have HB2:=Lh (HB1.out.trans (hb2.mono HB1.out.size))
 have hk2:=(hb2.block _ (gS HK1.out).1).trans HK1.out
 clear k1 hb2 HP1
 obtain ⟨cp0,cp1,cp2,-,-,-⟩:=HC.out w2 HB2.out
 have hx2:=(HB2.out.block P hlt).trans HX.out
 have fp1:w2.frozen? ⟨P,1,none⟩=false:=fH hx2
 have k0:w2.cell? ⟨w.heap.size,0,none⟩=some (.int .i64 t.kind):=cH hk2 rfl
 have k1:w2.cell? ⟨w.heap.size,1,none⟩=some (.string ⟨t.text.toArray⟩):=cH hk2 rfl
 clear hk2 hx2
 have HM2:Hid (Chalk.Mod (fun k=>k=P) w w2):=Lh (Chalk.Mod.of_below HB2.out)
 cases bad
 rotate_left
 ·have HF:=Lh (HAM.out (-1) n (by simp) (by simp))
  go_wp2_with fail
  go_ret
  exact ⟨-1,n,rfl,HF.out,H0.out.below HB2.out,HM2.out⟩
 by_cases hi0:ix<0
 ·have hi0':decide (ix<0)=true:=decide_eq_true hi0
  have HF:=Lh (HAM.out (-1) n (by
   rw [HAE.out]
   have:=HIX.out
   simp only [Bool.false_eq_true,if_false]
   split <;> omega) (by simp))
  clear hi0
  go_wp2_with fail
  go_ret
  exact ⟨-1,n,rfl,HF.out,H0.out.below HB2.out,HM2.out⟩
 have hi0':decide (ix<0)=false:=decide_eq_false hi0
 obtain ⟨tk,tx,ta⟩:=t
 simp only at k0 k1 HAE HMORE
 by_cases htx:tx=[]
 ·have HF:=Lh (HAM.out (-1) n (by
   rw [HAE.out]
   simp only [Bool.false_eq_true,if_false]
   rw [if_neg (fun e=>e.2 htx)]) (by simp))
  subst htx
  clear hi0
  go_wp2_with fail
  go_ret
  exact ⟨-1,n,rfl,HF.out,H0.out.below HB2.out,HM2.out⟩
 have htx2:(tx==[])=false:=by simpa using htx
 by_cases hk13:tk=1∨tk=3
 rotate_left
 ·have HF:=Lh (HAM.out (-1) n (by
   rw [HAE.out]
   simp only [Bool.false_eq_true,if_false]
   rw [if_neg (fun e=>hk13 e.1)]) (by simp))
  have n1:(tk != 1)=true:=by simp;omega
  have n3:(tk != 3)=true:=by simp;omega
  have m1:(tk==1)=false:=by simp;omega
  have m3:(tk==3)=false:=by simp;omega
  clear hi0 hk13
  go_wp2_with fail
  go_ret
  exact ⟨-1,n,rfl,HF.out,H0.out.below HB2.out,HM2.out⟩
 have HF:=Lh (HAM.out ix (n+1) (by
  rw [HAE.out]
  simp only [Bool.false_eq_true,if_false]
  rw [if_pos ⟨hk13,htx⟩]) (by rw [if_pos (by omega)]))
 have HN:=Lh (HMORE.out (by omega))
 obtain ⟨g1,g2⟩:=rd_set1 H0.out (by rw [<- HL2.out];exact HX.out) HB2.out HN.out
 have HG:=Lh (aI g1 g2)
 clear hi0 g1 g2
 rcases hk13 with rfl | rfl
 ·go_wp2_with fail
  go_ret
  exact ⟨ix,n+1,rfl,HF.out,HG.out.1,HG.out.2⟩
 ·go_wp2_with fail
  go_ret
  exact ⟨ix,n+1,rfl,HF.out,HG.out.1,HG.out.2⟩
end Go.Proofs.YtpmalchlecnjbaaGreatDoor
/- The reference's Reserved. (written by tools/gen_rxh.py) -/
namespace Go.Chalk
def resL:List Bs:=[[104,97,114,100],[115,111,102,116],[101,97,99,104],[97,108,108],[115,111,109,101],[108,101,97,115,116],[109,111,115,116],[116,114,117,101],[102,97,108,115,101],[97,116],[105,110],[116,101,97,99,104,101,115],[97,116,116,101,110,100,115],[97,119,97,121],[115,104,117,116],[100,97,121],[104,111,117,114],[104,111,117,115,101],[115,101,97,116,115],[115,105,122,101],[108,101,115,115,111,110],[115,108,111,116],[114,111,111,109],[112,101,114,115,111,110],[103,114,111,117,112]]
end Go.Chalk
namespace Go.Proofs.YtpmalchlecnjbaaGreatDoor
open Go.RowKit Go.Chalk
attribute [local go_sem] Oper.semAt_some
theorem reserved5_any (s:Bs) (w:World):Calls Tryz.prog 161 #[.string ⟨s.toArray⟩] w fun e w'=>e=.returned (.bool (resL.any (fun x=>x==s)))/\Below w.heap.size w w':=by
 obtain ⟨W0,hW0⟩:∃ W0,W0=w.alloc (.cells #[.string ⟨#[104,97,114,100]⟩,.string ⟨#[115,111,102,116]⟩,.string ⟨#[101,97,99,104]⟩,.string ⟨#[97,108,108]⟩,.string ⟨#[115,111,109,101]⟩,.string ⟨#[108,101,97,115,116]⟩,.string ⟨#[109,111,115,116]⟩,.string ⟨#[116,114,117,101]⟩,.string ⟨#[102,97,108,115,101]⟩,.string ⟨#[97,116]⟩,.string ⟨#[105,110]⟩,.string ⟨#[116,101,97,99,104,101,115]⟩,.string ⟨#[97,116,116,101,110,100,115]⟩,.string ⟨#[97,119,97,121]⟩,.string ⟨#[115,104,117,116]⟩,.string ⟨#[100,97,121]⟩,.string ⟨#[104,111,117,114]⟩,.string ⟨#[104,111,117,115,101]⟩,.string ⟨#[115,101,97,116,115]⟩,.string ⟨#[115,105,122,101]⟩,.string ⟨#[108,101,115,115,111,110]⟩,.string ⟨#[115,108,111,116]⟩,.string ⟨#[114,111,111,109]⟩,.string ⟨#[112,101,114,115,111,110]⟩,.string ⟨#[103,114,111,117,112]⟩] 9):=⟨_,rfl⟩
 obtain ⟨B,hB⟩:∃ B,B=w.heap.size:=⟨_,rfl⟩
 have hb0:Below w.heap.size w W0:=by rw [hW0];exact below_new _ _
 have hk:=heap_alloc_new w (.cells #[.string ⟨#[104,97,114,100]⟩,.string ⟨#[115,111,102,116]⟩,.string ⟨#[101,97,99,104]⟩,.string ⟨#[97,108,108]⟩,.string ⟨#[115,111,109,101]⟩,.string ⟨#[108,101,97,115,116]⟩,.string ⟨#[109,111,115,116]⟩,.string ⟨#[116,114,117,101]⟩,.string ⟨#[102,97,108,115,101]⟩,.string ⟨#[97,116]⟩,.string ⟨#[105,110]⟩,.string ⟨#[116,101,97,99,104,101,115]⟩,.string ⟨#[97,116,116,101,110,100,115]⟩,.string ⟨#[97,119,97,121]⟩,.string ⟨#[115,104,117,116]⟩,.string ⟨#[100,97,121]⟩,.string ⟨#[104,111,117,114]⟩,.string ⟨#[104,111,117,115,101]⟩,.string ⟨#[115,101,97,116,115]⟩,.string ⟨#[115,105,122,101]⟩,.string ⟨#[108,101,115,115,111,110]⟩,.string ⟨#[115,108,111,116]⟩,.string ⟨#[114,111,111,109]⟩,.string ⟨#[112,101,114,115,111,110]⟩,.string ⟨#[103,114,111,117,112]⟩] 9)
 rw [<- hW0,<- hB] at hk
 have hlt:B<W0.heap.size:=(gS hk).1
 have HCL:Hid (∀ j (h:j<resL.length),W0.cell? ⟨B,j,none⟩=some (.string ⟨resL[j].toArray⟩)):=Lh (fun j h=>by
  have h2:j<25:=h
  have h3:j=0∨j=1∨j=2∨j=3∨j=4∨j=5∨j=6∨j=7∨j=8∨j=9∨j=10∨j=11∨j=12∨j=13∨j=14∨j=15∨j=16∨j=17∨j=18∨j=19∨j=20∨j=21∨j=22∨j=23∨j=24:=by omega
  rcases h3 with rfl | rfl | rfl | rfl | rfl | rfl | rfl | rfl | rfl | rfl | rfl | rfl | rfl | rfl | rfl | rfl | rfl | rfl | rfl | rfl | rfl | rfl | rfl | rfl | rfl <;> exact cH hk rfl)
 have HB0:=Lh hb0
 have HW:=Lh (aI hW0 hB)
 have HLT:=Lh hlt
 have hn:resL.length=25:=rfl
 obtain ⟨R,hR⟩:∃ R,R=resL.any (fun x=>x==s):=⟨_,rfl⟩
 rw [<- hR]
 have HR:=Lh hR
 have HNX:Hid (∀ j (h:j<resL.length),(resL.take (j+1)).any (fun x=>x==s)=((resL.take j).any (fun x=>x==s)||(resL[j]==s))):=Lh (fun j h=>by rw [List.take_succ_eq_append_getElem h,List.any_append];simp)
 have HSUB:Hid (∀ j (h:j<resL.length),(resL[j]==s)=true->R=true):=Lh (fun j h h2=>by rw [hR];exact List.any_eq_true.2 ⟨_,List.getElem_mem h,h2⟩)
 generalize resL=rl at *
 clear hW0 hB hb0 hk hlt hR
 go_enter Tryz.func161,Tryz.ntmps161
 go_wp2_with fail
 rw [<- HW.out.1,<- HW.out.2]
 go_loopw [7] (fun i wr=>∃ j:Nat,j<=25/\i=.int .i64 j/\Hid ((rl.take j).any (fun x=>x==s)=false)/\Hid (Below W0.heap.size W0 wr)) (fun i _=>25 - (intOf i).toNat)
 case atStart=>exact ⟨0,by omega,rfl,Lh rfl,Lh (Below.refl _ _)⟩
 case round =>
  obtain ⟨j,hj,rfl,HA,HB⟩:=hrel
  by_cases hlt:j<25
  ·have hjl:j<rl.length:=by omega
   have x0:=(HB.out.cell (p:=⟨B,j,none⟩) HLT.out).trans (HCL.out j hjl)
   have hnx:=HNX.out j hjl
   have hsub:=HSUB.out j hjl
   rw [HA.out,Bool.false_or] at hnx
   generalize rl[j]=xt at *
   by_cases hx:(xt==s)=true
   ·have hr:=hsub hx
    subst hr
    clear hsub hnx
    go_wp2_with fail
    go_ret
    exact ⟨rfl,HB0.out.trans (HB.out.mono HB0.out.size)⟩
   ·have hx2:(xt==s)=false:=by simpa using hx
    rw [hx2] at hnx
    have HN2:=Lh hnx
    clear hsub hnx hx
    go_wp2_with fail
    exact ⟨⟨j+1,by omega,by go_num,HN2,HB⟩,by simp [intOf];omega⟩
  ·have hjn:j=rl.length:=by omega
   have ha:=HA.out
   rw [hjn,List.take_length,<- HR.out] at ha
   subst ha
   have hbd:=HB0.out.trans (HB.out.mono HB0.out.size)
   clear HA hjn HR
   go_wp2_with fail
   go_ret
   exact ⟨rfl,hbd⟩
end Go.Proofs.YtpmalchlecnjbaaGreatDoor
/- The reference's Name. -/
namespace Go.Chalk
theorem resL_eq (s:Bs):resL.any (fun x=>x==s)=reservedL.contains s:=by
 have h:resL=reservedL:=by decide
 rw [h,Bool.eq_iff_iff,List.any_eq_true,List.contains_iff_mem]
 constructor
 ·rintro ⟨x,hx,he⟩
  rw [<- (beq_iff_eq.1 he)];exact hx
 ·intro hx
  exact ⟨s,hx,by simp⟩
end Go.Chalk
namespace Go.Proofs.YtpmalchlecnjbaaGreatDoor
open Go.RowKit Go.Chalk
attribute [local go_sem] Oper.semAt_some
theorem rname_any (s:Bs) (w:World) (hs:s.length<=281474976710656):Calls Tryz.prog 124 #[.string ⟨s.toArray⟩] w fun e w'=>e=.returned (.bool (nameB s))/\Below w.heap.size w w':=by
 have HWD:=Lh (fun W=>wordR_any ⟨s.toArray⟩ W (by rw [size_mk];exact hs))
 have HRS:=Lh (fun W=>reserved5_any s W)
 rw [resL_eq] at HRS
 obtain ⟨b,hb⟩:∃ b,b=wordB s:=⟨_,rfl⟩
 obtain ⟨c,hc⟩:∃ c,c=reservedL.contains s:=⟨_,rfl⟩
 have hn:nameB s=(b&&!c):=by rw [hb,hc];rfl
 have HWD2:Hid (∀ W,Calls Tryz.prog 134 #[.string ⟨s.toArray⟩] W fun e w'=>e=.returned (.bool b)/\w'=W):=Lh (fun W=>by rw [hb];exact HWD.out W)
 rw [<- hc] at HRS
 rw [hn]
 clear HWD hb hc hn hs
 cases b
 ·go_enter Tryz.func124,Tryz.ntmps124
  go_wp2_with fail
  refine (HWD2.out _).mono ?_
  rintro e w1 ⟨rfl,rfl⟩
  go_wp2_with fail
  go_ret
  exact ⟨rfl,Below.refl _ _⟩
 ·go_enter Tryz.func124,Tryz.ntmps124
  go_wp2_with fail
  refine (HWD2.out _).mono ?_
  rintro e w1 ⟨rfl,rfl⟩
  go_wp2_with fail
  refine (HRS.out _).mono ?_
  rintro e w2 ⟨rfl,hb⟩
  have HB:=Lh hb
  clear hb
  go_wp2_with fail
  go_ret
  exact ⟨rfl,HB.out⟩
end Go.Proofs.YtpmalchlecnjbaaGreatDoor
/- The reference's reader: name, number. (written by tools/gen_ryc.py) -/
namespace Go.Proofs.YtpmalchlecnjbaaGreatDoor
open Go.RowKit Go.Chalk
attribute [local go_sem] Oper.semAt_some
def RNameP (P:Nat) (L:List Tok) (n:Nat) (bad:Bool) (w:World) (e:Ending) (w':World):Prop:=∃ (s:Bs) (n':Nat) (bad':Bool),e=.returned (.string ⟨s.toArray⟩)/\s.length<=281474976710656/\ROut L pName n bad s n' bad'/\RdAt w' P L n' bad'/\Chalk.Mod (fun k=>k=P) w w'
def RNumP (P:Nat) (L:List Tok) (lo hi:Int) (n:Nat) (bad:Bool) (w:World) (e:Ending) (w':World):Prop:=∃ (v:Int) (n':Nat) (bad':Bool),e=.returned (.int .i64 v)/\(0<=v/\v<=1099511627776)/\ROut L (pNumber lo hi) n bad v n' bad'/\RdAt w' P L n' bad'/\Chalk.Mod (fun k=>k=P) w w'
theorem rname7_any (P:Nat) (L:List Tok) (n:Nat) (bad:Bool) (w:World) (h:RdAt w P L n bad):Calls Tryz.prog 101 #[.pointer (some ⟨P,0,none⟩)] w (RNameP P L n bad w):=by
 obtain ⟨b,o,cap2,len2,t,r,hd,htm,hgt,htk,hrt,hlen,hnl,hc1,hc2,hbP,hlt,hx,c0,c1,c2⟩:=h.sees
 have HC:=Lh (RdAt.cells hbP hx c0 c1 c2)
 have H0:=Lh h
 have HX:=Lh hx
 have hnb:n<281474976710656:=Nat.lt_of_lt_of_le h.place h.2.2.2.1
 have HMORE:=Lh (fun (hk4:t.kind ≠ 4)=>h.more (fun u hu=>by rw [hgt] at hu;cases hu;exact hk4))
 have HL2:=Lh hlen
 have HD:=Lh (aI hd (aI htk hrt))
 have htl:=htk.len
 obtain ⟨W1,hW1⟩:∃ W1,W1=(w.alloc (.cells #[.int .i64 t.kind,.string ⟨t.text.toArray⟩,.int .i64 (t.at_:Int)] 51)).drew:=⟨_,rfl⟩
 have HW1:=Lh hW1
 have hb1:Below w.heap.size w W1:=by rw [hW1];exact (Below.alloc (Below.refl _ _) (Nat.le_refl _) _).drew
 have hk1:W1.heap[w.heap.size]?=some (.cells #[.int .i64 t.kind,.string ⟨t.text.toArray⟩,.int .i64 (t.at_:Int)] 51 (0,0)):=by rw [hW1];exact heap_alloc_new w _
 have HB1:=Lh hb1
 have HK1:=Lh hk1
 have fp1:W1.frozen? ⟨P,1,none⟩=false:=fH ((hb1.block P hlt).trans hx)
 have fp2:W1.frozen? ⟨P,2,none⟩=false:=fH ((hb1.block P hlt).trans hx)
 have hne:¬ w.heap.size=P:=by omega
 have HNM:=Lh (fun (W:World)=>rname_any t.text W htl)
 clear hd htm hgt htk hrt h hx c0 c1 c2 hlen hW1 hb1 hk1
 go_enter Tryz.func101,Tryz.ntmps101
 go_wp2_with fail
 refine wp_region_U 11 (S:=fun W=>Below w.heap.size w W) (by kernel_rfl) (Below.refl _ _).drew (fun hHeld=>?_)
 refine take_U (i:=0) (v:=?_) rfl (by kernel_rfl) (by kernel_rfl) (by kernel_rfl) (by kernel_rfl) (fun _ _ _ h=>h) (by rfl) ?_ hHeld ?_
 rotate_left
 ·intro w hSw;obtain ⟨cp0,cp1,cp2,c0,c1,c2⟩:=HC.out w hSw;go_simp;all_goals (with_reducible rfl)
 try simp only [Act.put,ub1,ub2,ub3]
 refine take_U (i:=1) (v:=?_) rfl (by kernel_rfl) (by kernel_rfl) (by kernel_rfl) (by kernel_rfl) (fun _ _ _ h=>h) (by rfl) ?_ hHeld ?_
 rotate_left
 ·intro w hSw;obtain ⟨cp0,cp1,cp2,c0,c1,c2⟩:=HC.out w hSw;go_simp;all_goals (with_reducible rfl)
 try simp only [Act.put,ub1,ub2,ub3]
 refine take_U (i:=2) (v:=?_) rfl (by kernel_rfl) (by kernel_rfl) (by kernel_rfl) (by kernel_rfl) (fun _ _ _ h=>h) (by rfl) ?_ hHeld ?_
 rotate_left
 ·intro w hSw;obtain ⟨cp0,cp1,cp2,c0,c1,c2⟩:=HC.out w hSw;go_simp;all_goals (with_reducible rfl)
 try simp only [Act.put,ub1,ub2,ub3]
 refine take_U (i:=3) (v:=?_) rfl (by kernel_rfl) (by kernel_rfl) (by kernel_rfl) (by kernel_rfl) (fun _ _ _ h=>h) (by rfl) ?_ hHeld ?_
 rotate_left
 ·intro w hSw;obtain ⟨cp0,cp1,cp2,c0,c1,c2⟩:=HC.out w hSw;go_simp;all_goals (with_reducible rfl)
 try simp only [Act.put,ub1,ub2,ub3]
 refine take_U (i:=4) (v:=?_) rfl (by kernel_rfl) (by kernel_rfl) (by kernel_rfl) (by kernel_rfl) (fun _ _ _ h=>h) (by rfl) ?_ hHeld ?_
 rotate_left
 ·intro w hSw;obtain ⟨cp0,cp1,cp2,c0,c1,c2⟩:=HC.out w hSw;go_simp;all_goals (with_reducible rfl)
 try simp only [Act.put,ub1,ub2,ub3]
 refine take_U (i:=5) (v:=?_) rfl (by kernel_rfl) (by kernel_rfl) (by kernel_rfl) (by kernel_rfl) (fun _ _ _ h=>h) (by rfl) ?_ hHeld ?_
 rotate_left
 ·intro w hSw;obtain ⟨cp0,cp1,cp2,c0,c1,c2⟩:=HC.out w hSw;go_simp;all_goals (with_reducible rfl)
 try simp only [Act.put,ub1,ub2,ub3]
 refine take_U (i:=6) (v:=?_) rfl (by kernel_rfl) (by kernel_rfl) (by kernel_rfl) (by kernel_rfl) (fun _ _ _ h=>h) (by rfl) ?_ hHeld ?_
 rotate_left
 ·intro w hSw;obtain ⟨cp0,cp1,cp2,c0,c1,c2⟩:=HC.out w hSw;go_simp;all_goals (with_reducible rfl)
 try simp only [Act.put,ub1,ub2,ub3]
 refine take_U (i:=7) (v:=?_) rfl (by kernel_rfl) (by kernel_rfl) (by kernel_rfl) (by kernel_rfl) (fun _ _ _ h=>h) (by rfl) ?_ hHeld ?_
 rotate_left
 ·intro w hSw;obtain ⟨cp0,cp1,cp2,c0,c1,c2⟩:=HC.out w hSw;go_simp;all_goals (with_reducible rfl)
 try simp only [Act.put,ub1,ub2,ub3]
 refine take_U (i:=8) (v:=?_) rfl (by kernel_rfl) (by kernel_rfl) (by kernel_rfl) (by kernel_rfl) (fun _ _ _ h=>h) (by rfl) ?_ hHeld ?_
 rotate_left
 ·intro w hSw;obtain ⟨cp0,cp1,cp2,c0,c1,c2⟩:=HC.out w hSw;go_simp;all_goals (with_reducible rfl)
 try simp only [Act.put,ub1,ub2,ub3]
 refine take_U (i:=9) (v:=?_) rfl (by kernel_rfl) (by kernel_rfl) (by kernel_rfl) (by kernel_rfl) (fun _ _ _ h=>h) (by rfl) ?_ hHeld ?_
 rotate_left
 ·intro w hSw;obtain ⟨cp0,cp1,cp2,c0,c1,c2⟩:=HC.out w hSw;go_simp;all_goals (with_reducible rfl)
 try simp only [Act.put,ub1,ub2,ub3]
 refine ready_U (rs:=[10]) (by kernel_rfl) (by simp) ?_
 refine cons_U rfl (fun K hK=>?_) nil_U
 go_simp
 refine hK.out _ _ ?_ (fun hHeld2=>?_)
 ·exact Below.alloc hHeld (Below.size hHeld) _
 clear hK K hHeld
 have hHeld:=hHeld2
 clear hHeld2
 try simp only [Act.put,ub1,ub2,ub3]
 refine ready_U (rs:=[11]) (by kernel_rfl) (by simp) ?_
 refine cons_V rfl (by kernel_rfl) (fun K hK=>?_) nil_U
 go_simp
 refine hK.out _ _ ?_
 clear hK K
 try simp only [Act.put,ub1,ub2,ub3]
 refine done_U (by kernel_rfl) ?_ _
 rw [<- HW1.out]
 obtain ⟨cp0,cp1,cp2,-,-,-⟩:=HC.out W1 HB1.out
 have k0:W1.cell? ⟨w.heap.size,0,none⟩=some (.int .i64 t.kind):=cH HK1.out rfl
 have k1:W1.cell? ⟨w.heap.size,1,none⟩=some (.string ⟨t.text.toArray⟩):=cH HK1.out rfl
 cases bad
 rotate_left
 ·obtain ⟨g1,g2⟩:=rd_set2 (bad':=true) H0.out (by rw [<- HL2.out];exact HX.out) HB1.out
  have HG:=Lh (aI g1 g2)
  clear g1 g2
  go_wp2_with fail
  go_ret
  exact ⟨[],n,true,rfl,Nat.zero_le _,ROut.stuck _ _ _,HG.out.1,HG.out.2⟩
 obtain ⟨tk,tx,ta⟩:=t
 simp only at k0 k1 HD HMORE HNM htl
 by_cases htk:tk=1
 rotate_left
 ·obtain ⟨g1,g2⟩:=rd_set2 (bad':=true) H0.out (by rw [<- HL2.out];exact HX.out) HB1.out
  have HF:Hid (ROut L pName n false [] n true):=Lh (ROut.of_bad (by rw [HD.out.1,pName,if_neg (fun e=>htk e.1)];rfl))
  have HG:=Lh (aI g1 g2)
  have n1:(tk != 1)=true:=by simpa using htk
  have m1:(tk==1)=false:=by simpa using htk
  clear g1 g2 htk
  go_wp2_with fail
  go_ret
  exact ⟨[],n,true,rfl,Nat.zero_le _,HF.out,HG.out.1,HG.out.2⟩
 subst htk
 have HNN:Hid (nameB tx = !(reservedL.contains tx)):=Lh (by unfold nameB;rw [HD.out.2.2.word rfl,Bool.true_and])
 obtain ⟨nb,hnb2⟩:∃ nb,nb=nameB tx:=⟨_,rfl⟩
 rw [<- hnb2] at HNM HNN
 have HNM1:=Lh (HNM.out W1)
 clear HNM hnb2
 cases nb
 ·have HF:Hid (ROut L pName n false [] n true):=Lh (ROut.of_bad (by
   have h1:=HNN.out
   rw [HD.out.1,pName,if_neg (fun e=>by rw [e.2] at h1;cases h1)];rfl))
  go_wp2_with fail
  refine HNM1.out.mono ?_
  rintro e w2 ⟨rfl,hb2⟩
  have HB2:=Lh (HB1.out.trans (hb2.mono HB1.out.size))
  clear hb2 fp1 fp2 cp0 cp1 cp2 k0 k1
  have fp2:w2.frozen? ⟨P,2,none⟩=false:=fH ((HB2.out.block P hlt).trans HX.out)
  obtain ⟨cp0,cp1,cp2,-,-,-⟩:=HC.out w2 HB2.out
  obtain ⟨g1,g2⟩:=rd_set2 (bad':=true) H0.out (by rw [<- HL2.out];exact HX.out) HB2.out
  have HG:=Lh (aI g1 g2)
  clear g1 g2
  go_wp2_with fail
  go_ret
  exact ⟨[],n,true,rfl,Nat.zero_le _,HF.out,HG.out.1,HG.out.2⟩
 ·have HF:Hid (ROut L pName n false tx (n+1) false):=Lh (ROut.of_ok (by
   have h1:=HNN.out
   rw [<- drop_tail,HD.out.1,pName,if_pos ⟨rfl,by cases hq:reservedL.contains tx <;> rw [hq] at h1 <;> simp at h1 ⊢⟩];rfl))
  have HN:=Lh (HMORE.out (by decide))
  go_wp2_with fail
  refine HNM1.out.mono ?_
  rintro e w2 ⟨rfl,hb2⟩
  have HB2:=Lh (HB1.out.trans (hb2.mono HB1.out.size))
  have hk2:=(hb2.block _ (gS HK1.out).1).trans HK1.out
  clear hb2 fp1 fp2 cp0 cp1 cp2 k0 k1
  have fp1:w2.frozen? ⟨P,1,none⟩=false:=fH ((HB2.out.block P hlt).trans HX.out)
  obtain ⟨cp0,cp1,cp2,-,-,-⟩:=HC.out w2 HB2.out
  have k1:w2.cell? ⟨w.heap.size,1,none⟩=some (.string ⟨tx.toArray⟩):=cH hk2 rfl
  obtain ⟨g1,g2⟩:=rd_set1 (n':=n+1) H0.out (by rw [<- HL2.out];exact HX.out) HB2.out HN.out
  have HG:=Lh (aI g1 g2)
  clear g1 g2 hk2
  go_wp2_with fail
  go_ret
  exact ⟨tx,n+1,false,rfl,htl,HF.out,HG.out.1,HG.out.2⟩
theorem rnumber_any (P:Nat) (L:List Tok) (lo hi:Int) (hlo:0<=lo) (n:Nat) (bad:Bool) (w:World) (h:RdAt w P L n bad):Calls Tryz.prog 102 #[.pointer (some ⟨P,0,none⟩),.int .i64 lo,.int .i64 hi] w (RNumP P L lo hi n bad w):=by
 obtain ⟨b,o,cap2,len2,t,r,hd,htm,hgt,htk,hrt,hlen,hnl,hc1,hc2,hbP,hlt,hx,c0,c1,c2⟩:=h.sees
 have HC:=Lh (RdAt.cells hbP hx c0 c1 c2)
 have H0:=Lh h
 have HX:=Lh hx
 have hnb:n<281474976710656:=Nat.lt_of_lt_of_le h.place h.2.2.2.1
 have HMORE:=Lh (fun (hk4:t.kind ≠ 4)=>h.more (fun u hu=>by rw [hgt] at hu;cases hu;exact hk4))
 have HL2:=Lh hlen
 have HD:=Lh (aI hd (aI htk hrt))
 have htl:=htk.len
 obtain ⟨W1,hW1⟩:∃ W1,W1=(w.alloc (.cells #[.int .i64 t.kind,.string ⟨t.text.toArray⟩,.int .i64 (t.at_:Int)] 51)).drew:=⟨_,rfl⟩
 have HW1:=Lh hW1
 have hb1:Below w.heap.size w W1:=by rw [hW1];exact (Below.alloc (Below.refl _ _) (Nat.le_refl _) _).drew
 have hk1:W1.heap[w.heap.size]?=some (.cells #[.int .i64 t.kind,.string ⟨t.text.toArray⟩,.int .i64 (t.at_:Int)] 51 (0,0)):=by rw [hW1];exact heap_alloc_new w _
 have HB1:=Lh hb1
 have HK1:=Lh hk1
 have fp1:W1.frozen? ⟨P,1,none⟩=false:=fH ((hb1.block P hlt).trans hx)
 have fp2:W1.frozen? ⟨P,2,none⟩=false:=fH ((hb1.block P hlt).trans hx)
 have hne:¬ w.heap.size=P:=by omega
 clear hd htm hgt htk hrt h hx c0 c1 c2 hlen hW1 hb1 hk1
 go_enter Tryz.func102,Tryz.ntmps102
 go_wp2_with fail
 refine wp_region_U 11 (S:=fun W=>Below w.heap.size w W) (by kernel_rfl) (Below.refl _ _).drew (fun hHeld=>?_)
 refine take_U (i:=0) (v:=?_) rfl (by kernel_rfl) (by kernel_rfl) (by kernel_rfl) (by kernel_rfl) (fun _ _ _ h=>h) (by rfl) ?_ hHeld ?_
 rotate_left
 ·intro w hSw;obtain ⟨cp0,cp1,cp2,c0,c1,c2⟩:=HC.out w hSw;go_simp;all_goals (with_reducible rfl)
 try simp only [Act.put,ub1,ub2,ub3]
 refine take_U (i:=1) (v:=?_) rfl (by kernel_rfl) (by kernel_rfl) (by kernel_rfl) (by kernel_rfl) (fun _ _ _ h=>h) (by rfl) ?_ hHeld ?_
 rotate_left
 ·intro w hSw;obtain ⟨cp0,cp1,cp2,c0,c1,c2⟩:=HC.out w hSw;go_simp;all_goals (with_reducible rfl)
 try simp only [Act.put,ub1,ub2,ub3]
 refine take_U (i:=2) (v:=?_) rfl (by kernel_rfl) (by kernel_rfl) (by kernel_rfl) (by kernel_rfl) (fun _ _ _ h=>h) (by rfl) ?_ hHeld ?_
 rotate_left
 ·intro w hSw;obtain ⟨cp0,cp1,cp2,c0,c1,c2⟩:=HC.out w hSw;go_simp;all_goals (with_reducible rfl)
 try simp only [Act.put,ub1,ub2,ub3]
 refine take_U (i:=3) (v:=?_) rfl (by kernel_rfl) (by kernel_rfl) (by kernel_rfl) (by kernel_rfl) (fun _ _ _ h=>h) (by rfl) ?_ hHeld ?_
 rotate_left
 ·intro w hSw;obtain ⟨cp0,cp1,cp2,c0,c1,c2⟩:=HC.out w hSw;go_simp;all_goals (with_reducible rfl)
 try simp only [Act.put,ub1,ub2,ub3]
 refine take_U (i:=4) (v:=?_) rfl (by kernel_rfl) (by kernel_rfl) (by kernel_rfl) (by kernel_rfl) (fun _ _ _ h=>h) (by rfl) ?_ hHeld ?_
 rotate_left
 ·intro w hSw;obtain ⟨cp0,cp1,cp2,c0,c1,c2⟩:=HC.out w hSw;go_simp;all_goals (with_reducible rfl)
 try simp only [Act.put,ub1,ub2,ub3]
 refine take_U (i:=5) (v:=?_) rfl (by kernel_rfl) (by kernel_rfl) (by kernel_rfl) (by kernel_rfl) (fun _ _ _ h=>h) (by rfl) ?_ hHeld ?_
 rotate_left
 ·intro w hSw;obtain ⟨cp0,cp1,cp2,c0,c1,c2⟩:=HC.out w hSw;go_simp;all_goals (with_reducible rfl)
 try simp only [Act.put,ub1,ub2,ub3]
 refine take_U (i:=6) (v:=?_) rfl (by kernel_rfl) (by kernel_rfl) (by kernel_rfl) (by kernel_rfl) (fun _ _ _ h=>h) (by rfl) ?_ hHeld ?_
 rotate_left
 ·intro w hSw;obtain ⟨cp0,cp1,cp2,c0,c1,c2⟩:=HC.out w hSw;go_simp;all_goals (with_reducible rfl)
 try simp only [Act.put,ub1,ub2,ub3]
 refine take_U (i:=7) (v:=?_) rfl (by kernel_rfl) (by kernel_rfl) (by kernel_rfl) (by kernel_rfl) (fun _ _ _ h=>h) (by rfl) ?_ hHeld ?_
 rotate_left
 ·intro w hSw;obtain ⟨cp0,cp1,cp2,c0,c1,c2⟩:=HC.out w hSw;go_simp;all_goals (with_reducible rfl)
 try simp only [Act.put,ub1,ub2,ub3]
 refine take_U (i:=8) (v:=?_) rfl (by kernel_rfl) (by kernel_rfl) (by kernel_rfl) (by kernel_rfl) (fun _ _ _ h=>h) (by rfl) ?_ hHeld ?_
 rotate_left
 ·intro w hSw;obtain ⟨cp0,cp1,cp2,c0,c1,c2⟩:=HC.out w hSw;go_simp;all_goals (with_reducible rfl)
 try simp only [Act.put,ub1,ub2,ub3]
 refine take_U (i:=9) (v:=?_) rfl (by kernel_rfl) (by kernel_rfl) (by kernel_rfl) (by kernel_rfl) (fun _ _ _ h=>h) (by rfl) ?_ hHeld ?_
 rotate_left
 ·intro w hSw;obtain ⟨cp0,cp1,cp2,c0,c1,c2⟩:=HC.out w hSw;go_simp;all_goals (with_reducible rfl)
 try simp only [Act.put,ub1,ub2,ub3]
 refine ready_U (rs:=[10]) (by kernel_rfl) (by simp) ?_
 refine cons_U rfl (fun K hK=>?_) nil_U
 go_simp
 refine hK.out _ _ ?_ (fun hHeld2=>?_)
 ·exact Below.alloc hHeld (Below.size hHeld) _
 clear hK K hHeld
 have hHeld:=hHeld2
 clear hHeld2
 try simp only [Act.put,ub1,ub2,ub3]
 refine ready_U (rs:=[11]) (by kernel_rfl) (by simp) ?_
 refine cons_V rfl (by kernel_rfl) (fun K hK=>?_) nil_U
 go_simp
 refine hK.out _ _ ?_
 clear hK K
 try simp only [Act.put,ub1,ub2,ub3]
 refine done_U (by kernel_rfl) ?_ _
 rw [<- HW1.out]
 obtain ⟨cp0,cp1,cp2,-,-,-⟩:=HC.out W1 HB1.out
 have k0:W1.cell? ⟨w.heap.size,0,none⟩=some (.int .i64 t.kind):=cH HK1.out rfl
 have k1:W1.cell? ⟨w.heap.size,1,none⟩=some (.string ⟨t.text.toArray⟩):=cH HK1.out rfl
 obtain ⟨g1,g2⟩:=rd_set2 (bad':=true) H0.out (by rw [<- HL2.out];exact HX.out) HB1.out
 have HG:=Lh (aI g1 g2)
 clear g1 g2
 cases bad
 rotate_left
 ·go_wp2_with fail
  go_ret
  exact ⟨0,n,true,rfl,⟨by decide,by decide⟩,ROut.stuck _ _ _,HG.out.1,HG.out.2⟩
 obtain ⟨tk,tx,ta⟩:=t
 simp only at k0 k1 HD HMORE htl
 by_cases htk:tk=2
 rotate_left
 ·have HF:Hid (ROut L (pNumber lo hi) n false 0 n true):=Lh (ROut.of_bad (by rw [HD.out.1,pNumber,if_neg (fun e=>htk e.1)];rfl))
  have n1:(tk != 2)=true:=by simpa using htk
  have m1:(tk==2)=false:=by simpa using htk
  clear htk
  go_wp2_with fail
  go_ret
  exact ⟨0,n,true,rfl,⟨by decide,by decide⟩,HF.out,HG.out.1,HG.out.2⟩
 subst htk
 have hnum:=HD.out.2.2.num rfl
 simp only at hnum
 have HN:=Lh (HMORE.out (by decide))
 obtain ⟨s,hs⟩:∃ s:ByteArray,s=⟨tx.toArray⟩:=⟨_,rfl⟩
 have htx:tx=s.data.toList:=by rw [hs]
 rw [<- hs] at k1
 have HF:Hid ((lo<=(valD tx:Int)/\(valD tx:Int)<=hi->ROut L (pNumber lo hi) n false (valD tx:Int) (n+1) false)/\(¬ (lo<=(valD tx:Int)/\(valD tx:Int)<=hi)->ROut L (pNumber lo hi) n false 0 n true)):=Lh
  ⟨fun hq=>ROut.of_ok (by rw [<- drop_tail,HD.out.1,pNumber,if_pos ⟨rfl,hq.1,hq.2⟩];rfl),fun hq=>ROut.of_bad (by rw [HD.out.1,pNumber,if_neg (fun e=>hq ⟨e.2.1,e.2.2⟩)];rfl)⟩
 rw [htx] at HF hnum
 have hl13:s.size<=13:=by
  rcases Nat.lt_or_ge 13 s.size with h13 | h13
  ·rw [num_long (by rw [size_list];exact h13)] at hnum;cases hnum
  ·exact h13
 have hall:s.data.toList.all digitB=true:=by
  cases hq:s.data.toList.all digitB with
  | true=>rfl
  | false=>rw [num_bad hq] at hnum;cases hnum
 have hmax:valD s.data.toList<=1099511627776:=by
  generalize s.data.toList=q at hnum
  cases q with
  | nil=>cases hnum
  | cons c q =>
   simp only [numB,Bool.and_eq_true,decide_eq_true_eq] at hnum
   exact hnum.2
 have HDG:Hid (∀ k (hk:k<s.size),48<=s[k].toNat/\s[k].toNat<=57):=Lh (fun k hk=>by
  have:=List.all_eq_true.1 hall s[k] (by rw [<- toList_getElem s k hk];exact List.getElem_mem _)
  simpa [digitB] using this)
 have HALL:Hid (∀ k,k<=s.size->valD (s.data.toList.take k)<=valD s.data.toList):=Lh (fun k hk=>valD_mono (by rw [size_list];exact hk))
 have hvm:=Lh hmax
 have HSZ:Hid (s.data.toList.take s.size=s.data.toList):=Lh (by rw [<- size_list,List.take_length])
 clear hnum hall hmax htx hs HD
 go_wp2_with fail
 go_loopw [8,35] (fun nv i wr=>∃ k:Nat,k<=s.size/\i=.int .i64 k/\nv=.int .i64 (valD (s.data.toList.take k):Int)/\wr=W1) (fun _ i _=>s.size - (intOf i).toNat)
 case atStart=>exact ⟨0,Nat.zero_le _,rfl,rfl,rfl⟩
 case round =>
  obtain ⟨k,hk,rfl,rfl,rfl⟩:=hrel
  by_cases hlt2:k<s.size
  ·have hv1:=HALL.out k hk
   have hvq:=hvm.out
   have HT:Hid (valD (s.data.toList.take (k+1))=10*valD (s.data.toList.take k)+(s[k].toNat - 48)):=by
    show _=_
    rw [take_next s k hlt2,val_snoc]
   have hvb2:valD (s.data.toList.take k)<=1099511627776:=by omega
   obtain ⟨i1,i2⟩:=HDG.out k hlt2
   have i1':(48:Int)<=(s[k].toNat:Int):=by omega
   have i2':(s[k].toNat:Int)<=57:=by omega
   clear hv1 hvq
   generalize valD (s.data.toList.take k)=vk at *
   have HE:Hid ((valD (s.data.toList.take (k+1)):Int)=10*(vk:Int)+((s[k].toNat:Int) - 48)):=by
    show _=_
    rw [HT.out];omega
   clear i1 i2
   go_wp2_with fail
   exact ⟨⟨k+1,by omega,by go_num,by rw [HE.out],by first | rfl | trivial⟩,by simp [intOf];omega⟩
  ·obtain rfl:k=s.size:=by omega
   rw [HSZ.out]
   obtain ⟨y1,y2⟩:=HF.out
   have hvb2:=hvm.out
   generalize valD s.data.toList=v at *
   have HY:=Lh (aI y1 y2)
   obtain ⟨gg1,gg2⟩:=rd_set1 (n':=n+1) H0.out (by rw [<- HL2.out];exact HX.out) HB1.out HN.out
   have HGG:=Lh (aI gg1 gg2)
   clear y1 y2 gg1 gg2
   by_cases hl:(v:Int)<lo
   ·have z1:decide ((v:Int)<lo)=true:=decide_eq_true hl
    have HF2:=Lh (HY.out.2 (by omega))
    clear hl
    go_wp2_with fail
    go_ret
    exact ⟨0,n,true,rfl,⟨by decide,by decide⟩,HF2.out,HG.out.1,HG.out.2⟩
   have z1:decide ((v:Int)<lo)=false:=decide_eq_false hl
   by_cases hh:hi<(v:Int)
   ·have z2:decide (hi<(v:Int))=true:=decide_eq_true hh
    have HF2:=Lh (HY.out.2 (by omega))
    clear hl hh
    go_wp2_with fail
    go_ret
    exact ⟨0,n,true,rfl,⟨by decide,by decide⟩,HF2.out,HG.out.1,HG.out.2⟩
   have z2:decide (hi<(v:Int))=false:=decide_eq_false hh
   have HF2:=Lh (HY.out.1 (by omega))
   have HV2:Hid (0<=(v:Int)/\(v:Int)<=1099511627776):=Lh (by omega)
   clear hl hh
   go_wp2_with fail
   go_ret
   exact ⟨v,n+1,false,rfl,HV2.out,HF2.out,HGG.out.1,HGG.out.2⟩
end Go.Proofs.YtpmalchlecnjbaaGreatDoor
/- The reference's reader: kept data, results; term. (written by tools/gen_ryd.py) -/
namespace Go.Chalk
open Go.RowKit
def Fx (A B:Nat) (w:World) (k:Nat):Prop:=A<=k/\k ≠ B/\k<w.heap.size
theorem FrmIn.keep {A B:Nat} {w w':World} {f:Frm} {x:FrmA} {S:Nat->Prop} (h:FrmIn w (Fx A B w) f x) (hm:Mod S w w') (hS:∀ k,S k->k<A∨k=B):FrmIn w' (Fx A B w') f x :=
 (h.agree (hm.agree (fun k hk=>⟨hk.2.2,fun hs=>by have:=hS k hs;have:=hk.1;have:=hk.2.1;omega⟩))).mono (fun k hk=>⟨hk.1,hk.2.1,Nat.lt_of_lt_of_le hk.2.2 hm.size⟩)
theorem SlIn.keep {A B:Nat} {w w':World} {l:List D} {x:SlA} {S:Nat->Prop} (h:SlIn w (Fx A B w) l x) (hm:Mod S w w') (hS:∀ k,S k->k<A∨k=B):SlIn w' (Fx A B w') l x :=
 (h.agree (hm.agree (fun k hk=>⟨hk.2.2,fun hs=>by have:=hS k hs;have:=hk.1;have:=hk.2.1;omega⟩))).mono (fun k hk=>⟨hk.1,hk.2.1,Nat.lt_of_lt_of_le hk.2.2 hm.size⟩)
theorem FrmIn.toX {lo A B:Nat} {w:World} {f:Frm} {x:FrmA} (h:FrmIn w (Fr lo w) f x) (hA:A<=lo) (hB:B<lo):FrmIn w (Fx A B w) f x:=h.mono (fun k hk=>⟨by have:=hk.1;omega,by have:=hk.1;omega,hk.2⟩)
theorem SlIn.toX {lo A B:Nat} {w:World} {l:List D} {x:SlA} (h:SlIn w (Fr lo w) l x) (hA:A<=lo) (hB:B<lo):SlIn w (Fx A B w) l x:=h.mono (fun k hk=>⟨by have:=hk.1;omega,by have:=hk.1;omega,hk.2⟩)
theorem FrmIn.ofX {lo A B:Nat} {w:World} {f:Frm} {x:FrmA} (h:FrmIn w (Fx A B w) f x) (hA:lo<=A):FrmIn w (Fr lo w) f x:=h.mono (fun k hk=>⟨by have:=hk.1;omega,hk.2.2⟩)
theorem rdres3 {w0:World} {RB P:Nat} {T:TypeId} (h:w0.heap[RB]?=some (.cells #[.int .i64 0,.string ⟨#[]⟩,.int .i64 0] T (0,0))) (hPR:P<RB) (W':World) (hW:Mod (fun k=>k=P) w0 W'):W'.cell? ⟨RB,0,none⟩=some (.int .i64 0)/\W'.cell? ⟨RB,1,none⟩=some (.string ⟨#[]⟩)/\W'.cell? ⟨RB,2,none⟩=some (.int .i64 0)/\W'.frozen? ⟨RB,0,none⟩=false/\W'.frozen? ⟨RB,1,none⟩=false/\W'.frozen? ⟨RB,2,none⟩=false/\RB<W'.heap.size:=by
 have e0:=heap_kept h hW (by omega)
 exact ⟨cH e0 rfl,cH e0 rfl,cH e0 rfl,fH e0,fH e0,fH e0,(gS e0).1⟩
theorem rdres6 {w0:World} {RB P:Nat} {T:TypeId} (h:w0.heap[RB]?=some (.cells #[.int .i64 0,.string ⟨#[]⟩,.int .i64 0,.slice none 0 0,.slice none 0 0,.slice none 0 0] T (0,0))) (hPR:P<RB) (W':World) (hW:Mod (fun k=>k=P) w0 W'):W'.cell? ⟨RB,0,none⟩=some (.int .i64 0)/\W'.cell? ⟨RB,1,none⟩=some (.string ⟨#[]⟩)/\W'.cell? ⟨RB,2,none⟩=some (.int .i64 0)/\W'.cell? ⟨RB,3,none⟩=some (.slice none 0 0)/\W'.cell? ⟨RB,4,none⟩=some (.slice none 0 0)/\W'.cell? ⟨RB,5,none⟩=some (.slice none 0 0)/\W'.frozen? ⟨RB,0,none⟩=false/\W'.frozen? ⟨RB,1,none⟩=false/\W'.frozen? ⟨RB,2,none⟩=false/\W'.frozen? ⟨RB,3,none⟩=false/\W'.frozen? ⟨RB,4,none⟩=false/\W'.frozen? ⟨RB,5,none⟩=false/\RB<W'.heap.size:=by
 have e0:=heap_kept h hW (by omega)
 exact ⟨cH e0 rfl,cH e0 rfl,cH e0 rfl,cH e0 rfl,cH e0 rfl,cH e0 rfl,fH e0,fH e0,fH e0,fH e0,fH e0,fH e0,(gS e0).1⟩
theorem trmOk {k n:Int} {s:Bs} (h:s.length<=281474976710656) (h1:0<=k) (h2:k<=20) (h3:0<=n) (h4:n<=1099511627776):TrmOk ⟨k,s,n⟩:=⟨h,h1,h2,h3,h4⟩
theorem termsL_get {j:Nat} (h:j<termsL.length):termsL[j]=kwOf kwTerm ((j:Int)+3):=by
 have h2:j<5:=h
 have:j=0∨j=1∨j=2∨j=3∨j=4:=by omega
 rcases this with rfl | rfl | rfl | rfl | rfl <;> rfl
theorem sortsL_get {j:Nat} (h:j<sortsL.length):sortsL[j]=kwOf kwSort ((j:Int)+0):=by
 have h2:j<8:=h
 have:j=0∨j=1∨j=2∨j=3∨j=4∨j=5∨j=6∨j=7:=by omega
 rcases this with rfl | rfl | rfl | rfl | rfl | rfl | rfl | rfl <;> rfl
theorem predsL_get {j:Nat} (h:j<predsL.length):predsL[j]=kwOf kwAtom ((j:Int)+3):=by
 have h2:j<6:=h
 have:j=0∨j=1∨j=2∨j=3∨j=4∨j=5:=by omega
 rcases this with rfl | rfl | rfl | rfl | rfl | rfl <;> rfl
end Go.Chalk
namespace Go.Proofs.YtpmalchlecnjbaaGreatDoor
open Go.RowKit Go.Chalk
attribute [local go_sem] Oper.semAt_some
theorem rterms7_any (w:World):Calls Tryz.prog 147 #[] w fun e w'=>∃ b:Nat,e=.returned (.slice (some ⟨b,0,none⟩) 5 5)/\(∀ j:Nat,j<5->w'.cell? ⟨b,j,none⟩=some (.string ⟨(kwOf kwTerm ((j:Int)+3)).toArray⟩))/\Below w.heap.size w w':=by
 go_enter Tryz.func147,Tryz.ntmps147
 go_wp2_with fail
 go_ret
 refine ⟨_,rfl,fun j hj=>?_,below_new _ _⟩
 have h:j=0∨j=1∨j=2∨j=3∨j=4:=by omega
 rcases h with rfl | rfl | rfl | rfl | rfl <;> exact cH (heap_alloc_new w _) rfl
theorem rsorts7_any (w:World):Calls Tryz.prog 149 #[] w fun e w'=>∃ b:Nat,e=.returned (.slice (some ⟨b,0,none⟩) 8 8)/\(∀ j:Nat,j<8->w'.cell? ⟨b,j,none⟩=some (.string ⟨(kwOf kwSort ((j:Int)+0)).toArray⟩))/\Below w.heap.size w w':=by
 go_enter Tryz.func149,Tryz.ntmps149
 go_wp2_with fail
 go_ret
 refine ⟨_,rfl,fun j hj=>?_,below_new _ _⟩
 have h:j=0∨j=1∨j=2∨j=3∨j=4∨j=5∨j=6∨j=7:=by omega
 rcases h with rfl | rfl | rfl | rfl | rfl | rfl | rfl | rfl <;> exact cH (heap_alloc_new w _) rfl
theorem rpreds7_any (w:World):Calls Tryz.prog 95 #[] w fun e w'=>∃ b:Nat,e=.returned (.slice (some ⟨b,0,none⟩) 6 6)/\(∀ j:Nat,j<6->w'.cell? ⟨b,j,none⟩=some (.string ⟨(kwOf kwAtom ((j:Int)+3)).toArray⟩))/\Below w.heap.size w w':=by
 go_enter Tryz.func95,Tryz.ntmps95
 go_wp2_with fail
 go_ret
 refine ⟨_,rfl,fun j hj=>?_,below_new _ _⟩
 have h:j=0∨j=1∨j=2∨j=3∨j=4∨j=5:=by omega
 rcases h with rfl | rfl | rfl | rfl | rfl | rfl <;> exact cH (heap_alloc_new w _) rfl
theorem below_drewR (w:World) (m:Nat):Below w.heap.size w (w.drewN m):=⟨rfl,rfl,rfl,Nat.le_refl _,fun _ _=>rfl⟩
theorem rd_tkw_hi {L:List Tok} (hT:RToks L) {n n1:Nat} {b:Bool} {i:Int} (hn:n<L.length) (h1:RAmong L termsL n b i n1) (hi:0<=i):i<=4:=by
 obtain ⟨_,h7,_⟩:=h1.got hi
 obtain ⟨t,r,e,ht⟩:=hT.at_ hn
 rw [e,among_terms ht] at h7
 cases hkk:kwT kwTerm (t :: r) with
 | none=>rw [hkk] at h7;have h7 : -1=i:=h7;omega
 | some k =>
  rw [hkk] at h7
  have h7:k - 3=i:=h7
  have hr:=kwT_range' (a:=3) (b:=7) (by decide) hkk
  omega
def RTrmP (P:Nat) (L:List Tok) (n:Nat) (bad:Bool) (w:World) (e:Ending) (w':World):Prop:=∃ (t:Trm) (n':Nat) (bad':Bool),e=.returned (.agg #[.int .i64 t.kind,.string ⟨t.name.toArray⟩,.int .i64 t.n])/\TrmOk t/\ROut L pTerm n bad t n' bad'/\RdAt w' P L n' bad'/\Chalk.Mod (fun k=>k=P) w w'
theorem RTrmP.last {w w0 W:World} {P RB n n':Nat} {L:List Tok} {bad bad':Bool} {t:Trm} (hRB:RB=w.heap.size) (hPR:P<RB) (hm0:Chalk.Mod (fun k=>k=P) w w0) (g:RdAt W P L n' bad'/\Chalk.Mod (fun k=>k=P) w0 W) (ht:TrmOk t) (ho:ROut L pTerm n bad t n' bad') :
  RTrmP P L n bad w (.returned (.agg #[.int .i64 t.kind,.string ⟨t.name.toArray⟩,.int .i64 t.n])) (st3 W RB (.int .i64 t.kind) (.string ⟨t.name.toArray⟩) (.int .i64 t.n)):=by
 have hst:=st3_mod W RB (.int .i64 t.kind) (.string ⟨t.name.toArray⟩) (.int .i64 t.n)
 exact ⟨t,n',bad',rfl,ht,ho,g.1.far hst (fun k hk=>by omega),mod_one (hm0.trans g.2 (fun _ _ h=>h)) hst (by omega)⟩
theorem rterm7_any (P:Nat) (L:List Tok) (n:Nat) (bad:Bool) (w:World) (h:RdAt w P L n bad):Calls Tryz.prog 209 #[.pointer (some ⟨P,0,none⟩)] w (RTrmP P L n bad w):=by
 obtain ⟨b,o,cap2,len2,t,r,hd,htm,hgt,htk,hrt,hlen,hnl,hc1,hc2,hbP,hlt,hx,c0,c1,c2⟩:=h.sees
 have HC:=Lh (RdAt.cells hbP hx c0 c1 c2)
 have HKN:Hid (kindAt L n bad ↔ (bad=false/\t.kind=2)):=Lh ⟨fun hq=>⟨hq.1,by obtain ⟨_,u,q,e,hq⟩:=hq;rw [hd] at e;cases e;exact hq⟩,fun hq=>⟨hq.1,t,r,hd,hq.2⟩⟩
 have hnlt:n<281474976710656:=Nat.lt_of_lt_of_le h.place h.2.2.2.1
 obtain ⟨RB,hRB⟩:∃ RB,RB=w.heap.size:=⟨_,rfl⟩
 obtain ⟨w0,hw0⟩:∃ w0,w0=w.alloc (.cells #[.int .i64 0,.string ⟨#[]⟩,.int .i64 0] 61):=⟨_,rfl⟩
 have hb0:Below w.heap.size w w0:=by rw [hw0];exact below_new _ _
 have hbx:w0.heap[RB]?=some (.cells #[.int .i64 0,.string ⟨#[]⟩,.int .i64 0] 61 (0,0)):=by rw [hw0,hRB];exact heap_alloc_new _ _
 have hPR:P<RB:=by rw [hRB];exact h.lt
 have hs0:w0.heap.size=RB+1:=by rw [hw0,hRB];simp
 have HE:=Lh (fun (W':World) (hW:Chalk.Mod (fun k=>k=P) w0 W')=>rdres3 hbx hPR W' hW)
 have HM0:Hid (Chalk.Mod (fun k=>k=P) w w0):=Lh (Chalk.Mod.of_below hb0)
 have HS0:=Lh hs0
 have HRB:=Lh hRB
 have HPR:=Lh hPR
 have HNL:=Lh h.place
 have HTK:=Lh h.toks
 have G0:=Lh (aI (h.below hb0) (Chalk.Mod.refl (fun k=>k=P) w0))
 have HW0:=Lh hw0
 have HBW:Hid (Below w.heap.size w w0):=Lh hb0
 have HSW:Hid (w.heap.size<=w0.heap.size):=Lh hb0.size
 clear h hb0 hbx hw0 hRB hs0 hPR hd htm hgt htk hrt hlen hx c0 c1 c2
 go_enter Tryz.func209,Tryz.ntmps209
 go_wp2_with fail
 rw [<- HW0.out,<- HRB.out]
 obtain ⟨cp0,cp1,cp2,c0,-,-⟩:=HC.out w0 HBW.out
 obtain ⟨tk,tx,ta⟩:=t
 simp only at c0 HKN
 by_cases hb1:bad=true
 ·subst hb1
  have HNK:Hid (¬ kindAt L n true):=Lh (fun hq=>by cases hq.1)
  clear HKN
  go_quiet (fail)
  obtain ⟨w1,hw1⟩:∃ w1,w1=w0.drewN nq:=⟨_,rfl⟩
  rw [<- hw1]
  have hb:Below w0.heap.size w0 w1:=by rw [hw1];exact below_drewR _ _
  have hm:Chalk.Mod (fun k=>k=P) w0 w1:=Chalk.Mod.of_below hb
  have G1:=Lh (aI (G0.out.1.below hb) (G0.out.2.trans hm (fun _ _ h=>h)))
  clear hm
  clear hb hw1 cp0 cp1 cp2 c0
  go_wp2_with fail
  refine (rterms7_any _).mono ?_
  rintro e w2 ⟨kb,rfl,hks,hb⟩
  have HST:Hid (StrsAt w2 termsL kb):=Lh ⟨World.block_lt_of_cell? w2 ⟨kb,0,none⟩ (hks 0 (by decide)),fun j hj=>by rw [termsL_get hj];exact hks j hj⟩
  have hm:Chalk.Mod (fun k=>k=P) w1 w2:=Chalk.Mod.of_below hb
  have G2:=Lh (aI (G1.out.1.below hb) (G1.out.2.trans hm (fun _ _ h=>h)))
  clear hm
  clear hks hb
  have HAM:=Lh (ramong_any P L n true termsL kb 5 5 w2 G2.out.1 HST.out rfl (Nat.le_refl _) (by decide))
  go_wp2_with fail
  refine (HAM.out).mono ?_
  rintro e w3 ⟨i,n2,rfl,ho,hr,hm⟩
  have RA:=Lh ho
  clear ho
  have G3:=Lh (aI hr (G2.out.2.trans hm (fun _ _ h=>h)))
  clear hr hm
  clear HST HAM
  by_cases hi:0<=i
  ·exact absurd hi (by have:=RA.out.stuck;omega)
  ·have hi2:decide (0<=i)=false:=decide_eq_false hi
   have hin:=(RA.out.none (by omega)).2
   have HI:Hid (i<0/\n2=n):=Lh ⟨by omega,hin⟩
   clear hi hin
   have HN3:=Lh (rname7_any P L n2 true w3 G3.out.1)
   go_wp2_with fail
   refine HN3.out.mono ?_
   rintro e w4 ⟨s,n4,b4,rfl,hsl,ho,hr,hm⟩
   have RC1:=Lh ho
   have HSL:=Lh hsl
   clear ho hsl HN3
   have G4:=Lh (aI hr (G3.out.2.trans hm (fun _ _ h=>h)))
   clear hr hm
   obtain ⟨x0,x1,x2,fz0,fz1,fz2,hrl⟩:=HE.out w4 G4.out.2
   go_wp2_with fail
   refine bodyPost_ret (v:=.agg #[.int .i64 2,.string ⟨s.toArray⟩,.int .i64 0]) (by simp [results,Tryz.results209,go_sem, *]) rfl ?_
   exact RTrmP.last (t:=⟨2,s,0⟩) HRB.out HPR.out HM0.out G4.out (trmOk HSL.out (by decide) (by decide) (by decide) (by decide)) (rd_tvar HTK.out HNL.out HNK.out RA.out HI.out.1 (by have h1:=RC1.out;rw [HI.out.2] at h1;exact h1))
 have hb2:bad=false:=by simpa using hb1
 subst hb2
 clear hb1
 by_cases hk2:tk=2
 ·subst hk2
  have HNK:Hid (kindAt L n false):=Lh (HKN.out.2 ⟨rfl,rfl⟩)
  clear HKN
  go_quiet (fail)
  obtain ⟨w1,hw1⟩:∃ w1,w1=w0.drewN nq:=⟨_,rfl⟩
  rw [<- hw1]
  have hb:Below w0.heap.size w0 w1:=by rw [hw1];exact below_drewR _ _
  have hm:Chalk.Mod (fun k=>k=P) w0 w1:=Chalk.Mod.of_below hb
  have G1:=Lh (aI (G0.out.1.below hb) (G0.out.2.trans hm (fun _ _ h=>h)))
  clear hm
  clear hb hw1 cp0 cp1 cp2 c0
  go_wp2_with fail
  refine (rnumber_any P L 0 1099511627776 (by decide) n false w1 G1.out.1).mono ?_
  rintro e w2 ⟨v,n2,b2,rfl,hv,ho,hr,hm⟩
  have RA:=Lh ho
  have HV:=Lh hv
  clear ho hv
  have G2:=Lh (aI hr (G1.out.2.trans hm (fun _ _ h=>h)))
  clear hr hm
  obtain ⟨x0,x1,x2,fz0,fz1,fz2,hrl⟩:=HE.out w2 G2.out.2
  go_wp2_with fail
  refine bodyPost_ret (v:=.agg #[.int .i64 1,.string ⟨#[]⟩,.int .i64 v]) (by simp [results,Tryz.results209,go_sem, *]) rfl ?_
  exact RTrmP.last (t:=⟨1,[],v⟩) HRB.out HPR.out HM0.out G2.out (trmOk (Nat.zero_le _) (by decide) (by decide) HV.out.1 HV.out.2) (rd_tnum HNK.out RA.out)
 have hk3:(tk==2)=false:=by simpa using hk2
 have HNK:Hid (¬ kindAt L n false):=Lh (fun hq=>hk2 (HKN.out.1 hq).2)
 clear HKN hk2
 go_quiet (fail)
 obtain ⟨w1,hw1⟩:∃ w1,w1=w0.drewN nq:=⟨_,rfl⟩
 rw [<- hw1]
 have hb:Below w0.heap.size w0 w1:=by rw [hw1];exact below_drewR _ _
 have hm:Chalk.Mod (fun k=>k=P) w0 w1:=Chalk.Mod.of_below hb
 have G1:=Lh (aI (G0.out.1.below hb) (G0.out.2.trans hm (fun _ _ h=>h)))
 clear hm
 clear hb hw1 cp0 cp1 cp2 c0
 go_wp2_with fail
 refine (rterms7_any _).mono ?_
 rintro e w2 ⟨kb,rfl,hks,hb⟩
 have HST:Hid (StrsAt w2 termsL kb):=Lh ⟨World.block_lt_of_cell? w2 ⟨kb,0,none⟩ (hks 0 (by decide)),fun j hj=>by rw [termsL_get hj];exact hks j hj⟩
 have hm:Chalk.Mod (fun k=>k=P) w1 w2:=Chalk.Mod.of_below hb
 have G2:=Lh (aI (G1.out.1.below hb) (G1.out.2.trans hm (fun _ _ h=>h)))
 clear hm
 clear hks hb
 have HAM:=Lh (ramong_any P L n false termsL kb 5 5 w2 G2.out.1 HST.out rfl (Nat.le_refl _) (by decide))
 go_wp2_with fail
 refine (HAM.out).mono ?_
 rintro e w3 ⟨i,n2,rfl,ho,hr,hm⟩
 have RA:=Lh ho
 clear ho
 have G3:=Lh (aI hr (G2.out.2.trans hm (fun _ _ h=>h)))
 clear hr hm
 clear HST HAM
 by_cases hi:0<=i
 ·have hi2:decide (0<=i)=true:=decide_eq_true hi
  have hgd:=(RA.out.got hi).2
  have hi6:i<=4:=rd_tkw_hi HTK.out HNL.out RA.out hi
  have HI:Hid (0<=i/\i<=4/\n2=n+1):=Lh ⟨hi,hi6,hgd.2⟩
  clear hgd
  have HW2:=Lh (rwant_any P L n2 false [40] w3 G3.out.1)
  go_wp2_with fail
  refine (HW2.out).mono ?_
  rintro e w4 ⟨n3,b3,rfl,ho,hr,hm⟩
  have RB1:=Lh ho
  clear ho
  have G4:=Lh (aI hr (G3.out.2.trans hm (fun _ _ h=>h)))
  clear hr hm
  clear HW2
  have HN3:=Lh (rname7_any P L n3 b3 w4 G4.out.1)
  go_wp2_with fail
  refine HN3.out.mono ?_
  rintro e w5 ⟨s,n4,b4,rfl,hsl,ho,hr,hm⟩
  have RC1:=Lh ho
  have HSL:=Lh hsl
  clear ho hsl HN3
  have G5:=Lh (aI hr (G4.out.2.trans hm (fun _ _ h=>h)))
  clear hr hm
  obtain ⟨B5,hB5⟩:∃ B5,B5=w5.heap.size:=⟨_,rfl⟩
  obtain ⟨w6,hw6⟩:∃ w6,w6=w5.alloc (.cells #[.int .i64 (3+i),.string ⟨s.toArray⟩,.int .i64 0] 61):=⟨_,rfl⟩
  have hb:Below w5.heap.size w5 w6:=by rw [hw6];exact below_new _ _
  have hx:w6.heap[B5]?=some (.cells #[.int .i64 (3+i),.string ⟨s.toArray⟩,.int .i64 0] 61 (0,0)):=by rw [hw6,hB5];exact heap_alloc_new _ _
  have HKB5:Hid (RB<B5):=Lh (by have:=G5.out.2.size;have:=HS0.out;omega)
  have hm:Chalk.Mod (fun k=>k=P) w5 w6:=Chalk.Mod.of_below hb
  have G6:=Lh (aI (G5.out.1.below hb) (G5.out.2.trans hm (fun _ _ h=>h)))
  clear hm
  have KB5:=Lh hx
  have HW6:=Lh hw6
  have HQB5:=Lh hB5
  clear hb hx hw6 hB5
  go_wp2_with fail
  rw [<- HW6.out,<- HQB5.out]
  have HKKB5:=HKB5
  have HW5:=Lh (rwant_any P L n4 b4 [41] w6 G6.out.1)
  refine HW5.out.mono ?_
  rintro e w7 ⟨n6,b6,rfl,ho,hr,hm⟩
  have RD1:=Lh ho
  clear ho
  have KB5:=Lh (heap_kept KB5.out hm (by have:=HPR.out;have:=HKKB5.out;omega))
  have G7:=Lh (aI hr (G6.out.2.trans hm (fun _ _ h=>h)))
  clear hr hm
  have y0:w7.cell? ⟨B5,0,none⟩=some (.int .i64 (3+i)):=cH KB5.out rfl
  have y1:w7.cell? ⟨B5,1,none⟩=some (.string ⟨s.toArray⟩):=cH KB5.out rfl
  have y2:w7.cell? ⟨B5,2,none⟩=some (.int .i64 0):=cH KB5.out rfl
  obtain ⟨x0,x1,x2,fz0,fz1,fz2,hrl⟩:=HE.out w7 G7.out.2
  go_wp2_with fail
  refine bodyPost_ret (v:=.agg #[.int .i64 (3+i),.string ⟨s.toArray⟩,.int .i64 0]) (by simp [results,Tryz.results209,go_sem, *]) rfl ?_
  exact RTrmP.last (t:=⟨3+i,s,0⟩) HRB.out HPR.out HM0.out G7.out (trmOk HSL.out (by have:=HI.out.1;omega) (by have:=HI.out.2.1;omega) (by decide) (by decide)) (rd_tkw HTK.out HNL.out HNK.out RA.out HI.out.1 RB1.out RC1.out RD1.out).1
 ·have hi2:decide (0<=i)=false:=decide_eq_false hi
  have hin:=(RA.out.none (by omega)).2
  have HI:Hid (i<0/\n2=n):=Lh ⟨by omega,hin⟩
  clear hi hin
  have HN3:=Lh (rname7_any P L n2 false w3 G3.out.1)
  go_wp2_with fail
  refine HN3.out.mono ?_
  rintro e w4 ⟨s,n4,b4,rfl,hsl,ho,hr,hm⟩
  have RC1:=Lh ho
  have HSL:=Lh hsl
  clear ho hsl HN3
  have G4:=Lh (aI hr (G3.out.2.trans hm (fun _ _ h=>h)))
  clear hr hm
  obtain ⟨x0,x1,x2,fz0,fz1,fz2,hrl⟩:=HE.out w4 G4.out.2
  go_wp2_with fail
  refine bodyPost_ret (v:=.agg #[.int .i64 2,.string ⟨s.toArray⟩,.int .i64 0]) (by simp [results,Tryz.results209,go_sem, *]) rfl ?_
  exact RTrmP.last (t:=⟨2,s,0⟩) HRB.out HPR.out HM0.out G4.out (trmOk HSL.out (by decide) (by decide) (by decide) (by decide)) (rd_tvar HTK.out HNL.out HNK.out RA.out HI.out.1 (by have h1:=RC1.out;rw [HI.out.2] at h1;exact h1))
end Go.Proofs.YtpmalchlecnjbaaGreatDoor
/- The reference's reader: formulas as results; atom. (written by tools/gen_rye.py) -/
namespace Go.Proofs.YtpmalchlecnjbaaGreatDoor
open Go.RowKit Go.Chalk
attribute [local go_sem] Oper.semAt_some
def RFrmP (P:Nat) (L:List Tok) (p:List Tok->Rs Frm) (n:Nat) (bad:Bool) (w:World) (e:Ending) (w':World):Prop:=∃ (f:Frm) (x:FrmA) (n':Nat) (bad':Bool),e=.returned (.agg #[.int .i64 f.kind,.string ⟨f.name.toArray⟩,.int .i64 f.n,.slice x.t.a f.terms.length x.t.cap,.slice x.b.a f.binds.length x.b.cap,.slice x.l.a f.l.length x.l.cap])/\FrmIn w' (Fr w.heap.size w') f x/\ROut L p n bad f n' bad'/\RdAt w' P L n' bad'/\Chalk.Mod (fun k=>k=P) w w'
theorem RFrmP.last {w w0 W:World} {P RB A B n n':Nat} {L:List Tok} {bad bad':Bool} {p:List Tok->Rs Frm} {f:Frm} {x:FrmA} (hRB:RB=w.heap.size) (hPR:P<RB) (hm0:Chalk.Mod (fun k=>k=P) w w0) (g:RdAt W P L n' bad'/\Chalk.Mod (fun k=>k=P) w0 W) (hA:RB<A) (hx:FrmIn W (Fx A B W) f x) (ho:ROut L p n bad f n' bad') :
  RFrmP P L p n bad w (.returned (.agg #[.int .i64 f.kind,.string ⟨f.name.toArray⟩,.int .i64 f.n,.slice x.t.a f.terms.length x.t.cap,.slice x.b.a f.binds.length x.b.cap,.slice x.l.a f.l.length x.l.cap])) (st6 W RB (.int .i64 f.kind) (.string ⟨f.name.toArray⟩) (.int .i64 f.n) (.slice x.t.a f.terms.length x.t.cap) (.slice x.b.a f.binds.length x.b.cap) (.slice x.l.a f.l.length x.l.cap)):=by
 have hst:=st6_mod W RB (.int .i64 f.kind) (.string ⟨f.name.toArray⟩) (.int .i64 f.n) (.slice x.t.a f.terms.length x.t.cap) (.slice x.b.a f.binds.length x.b.cap) (.slice x.l.a f.l.length x.l.cap)
 exact ⟨f,x,n',bad',rfl,(hx.keep hst (fun k hk=>by omega)).ofX (by omega),ho,g.1.far hst (fun k hk=>by omega),mod_one (hm0.trans g.2 (fun _ _ h=>h)) hst (by omega)⟩
theorem rd_pred_hi {L:List Tok} (hT:RToks L) {n n1:Nat} {b:Bool} {i:Int} (hn:n<L.length) (h1:RAmong L predsL n b i n1) (hi:0<=i):i<=5:=by
 obtain ⟨_,h7,_⟩:=h1.got hi
 obtain ⟨t,r,e,ht⟩:=hT.at_ hn
 rw [e,among_preds ht] at h7
 cases hkk:kwT kwAtom (t :: r) with
 | none=>rw [hkk] at h7;have h7 : -1=i:=h7;omega
 | some k =>
  rw [hkk] at h7
  have h7:k - 3=i:=h7
  have hr:=kwT_range' (a:=3) (b:=8) (by decide) hkk
  omega
theorem rd_ops_hi {L:List Tok} (hT:RToks L) {n n1 j:Nat} {b:Bool} (hn:n<L.length) (h1:RAmong L opsL n b (j:Int) n1):j<6/\∃ s,opsL[j]?=some s/\s.length<=2:=by
 obtain ⟨_,h7,_⟩:=h1.got (Int.natCast_nonneg _)
 obtain ⟨t,r,e,ht⟩:=hT.at_ hn
 rw [e] at h7
 have hj:j<6:=by
  simp only [amongF] at h7
  split at h7
  ·rcases ixFrom_ge opsL 0 t.text (Int.le_refl _) with h | ⟨h2,h3,_⟩
   ·omega
   ·have h4:opsL.length=6:=rfl
    omega
  ·omega
 have:j=0∨j=1∨j=2∨j=3∨j=4∨j=5:=by omega
 rcases this with rfl | rfl | rfl | rfl | rfl | rfl <;> exact ⟨by decide,_,rfl,by decide⟩
def ROk (P:Nat) (L:List Tok) (F:FuncId) (p:List Tok->Rs Frm) (n:Nat) (bad:Bool):Prop:=∀ w,RdAt w P L n bad->Calls Tryz.prog F #[.pointer (some ⟨P,0,none⟩)] w (RFrmP P L p n bad w)
theorem rset2_mod {W:World} {P n:Nat} {L:List Tok} {bad:Bool} (h:RdAt W P L n bad):RdAt (W.setCell ⟨P,2,none⟩ (.bool true)) P L n true/\Chalk.Mod (fun k=>k=P) W (W.setCell ⟨P,2,none⟩ (.bool true)):=by
 obtain ⟨b,o,cap,hx⟩:=h.open_
 exact rd_set2 h hx (Below.refl _ _)
theorem RdAt.bad2 {W:World} {P n:Nat} {L:List Tok} {bad:Bool} (h:RdAt W P L n bad):W.cell? ⟨P,2,none⟩=some (.bool bad)/\W.frozen? ⟨P,2,none⟩=false:=by
 obtain ⟨b,o,cap,hx⟩:=h.open_
 exact ⟨cH hx rfl,fH hx⟩
theorem ratom_any (P:Nat) (L:List Tok) (n:Nat) (bad:Bool):ROk P L 191 parAtm n bad:=by
 intro w h
 obtain ⟨RB,hRB⟩:∃ RB,RB=w.heap.size:=⟨_,rfl⟩
 obtain ⟨w0,hw0⟩:∃ w0,w0=w.alloc (.cells #[.int .i64 0,.string ⟨#[]⟩,.int .i64 0,.slice none 0 0,.slice none 0 0,.slice none 0 0] 28):=⟨_,rfl⟩
 have hb0:Below w.heap.size w w0:=by rw [hw0];exact below_new _ _
 have hbx:w0.heap[RB]?=some (.cells #[.int .i64 0,.string ⟨#[]⟩,.int .i64 0,.slice none 0 0,.slice none 0 0,.slice none 0 0] 28 (0,0)):=by rw [hw0,hRB];exact heap_alloc_new _ _
 have hPR:P<RB:=by rw [hRB];exact h.lt
 have hs0:w0.heap.size=RB+1:=by rw [hw0,hRB];simp
 have HE:=Lh (fun (W':World) (hW:Chalk.Mod (fun k=>k=P) w0 W')=>rdres6 hbx hPR W' hW)
 have HM0:Hid (Chalk.Mod (fun k=>k=P) w w0):=Lh (Chalk.Mod.of_below hb0)
 have HS0:=Lh hs0
 have HRB:=Lh hRB
 have HPR:=Lh hPR
 have HNL:=Lh h.place
 have HTK:=Lh h.toks
 have G0:=Lh (aI (h.below hb0) (Chalk.Mod.refl (fun k=>k=P) w0))
 have HW0:=Lh hw0
 clear h hb0 hbx hw0 hRB hs0 hPR
 go_enter Tryz.func191,Tryz.ntmps191
 go_wp2_with fail
 rw [<- HW0.out,<- HRB.out]
 refine (rpreds7_any _).mono ?_
 rintro e w1 ⟨kb,rfl,hks,hb⟩
 have HST:Hid (StrsAt w1 predsL kb):=Lh ⟨World.block_lt_of_cell? w1 ⟨kb,0,none⟩ (hks 0 (by decide)),fun j hj=>by rw [predsL_get hj];exact hks j hj⟩
 have hm:Chalk.Mod (fun k=>k=P) w0 w1:=Chalk.Mod.of_below hb
 have G1:=Lh (aI (G0.out.1.below hb) (G0.out.2.trans hm (fun _ _ h=>h)))
 clear hm
 clear hks hb
 have HAM:=Lh (ramong_any P L n bad predsL kb 6 6 w1 G1.out.1 HST.out rfl (Nat.le_refl _) (by decide))
 go_wp2_with fail
 refine (HAM.out).mono ?_
 rintro e w2 ⟨i,n2,rfl,ho,hr,hm⟩
 have RA:=Lh ho
 clear ho
 have G2:=Lh (aI hr (G1.out.2.trans hm (fun _ _ h=>h)))
 clear hr hm
 clear HST HAM
 by_cases hi:0<=i
 ·have hi2:decide (0<=i)=true:=decide_eq_true hi
  have hgd:=RA.out.got hi
  have hbf:=hgd.1
  subst hbf
  have hi6:i<=5:=rd_pred_hi HTK.out HNL.out RA.out hi
  have HI:Hid (0<=i/\i<=5/\n2=n+1):=Lh ⟨hi,hi6,hgd.2.2⟩
  clear hgd
  have HX:=Lh (rwant_any P L n2 false [40] w2 G2.out.1)
  go_wp2_with fail
  refine (HX.out).mono ?_
  rintro e w3 ⟨n3,b3,rfl,ho,hr,hm⟩
  have RW1:=Lh ho
  clear ho
  have G3:=Lh (aI hr (G2.out.2.trans hm (fun _ _ h=>h)))
  clear hr hm
  clear HX
  have HX:=Lh (rname7_any P L n3 b3 w3 G3.out.1)
  go_wp2_with fail
  refine (HX.out).mono ?_
  rintro e w4 ⟨s1,n4,b4,rfl,hsl,ho,hr,hm⟩
  have RNs1:=Lh ho
  have HLs1:=Lh hsl
  clear ho hsl
  have G4:=Lh (aI hr (G3.out.2.trans hm (fun _ _ h=>h)))
  clear hr hm
  clear HX
  have HX:=Lh (rwant_any P L n4 b4 [44] w4 G4.out.1)
  go_wp2_with fail
  refine (HX.out).mono ?_
  rintro e w5 ⟨n5,b5,rfl,ho,hr,hm⟩
  have RW2:=Lh ho
  clear ho
  have G5:=Lh (aI hr (G4.out.2.trans hm (fun _ _ h=>h)))
  clear hr hm
  clear HX
  have HX:=Lh (rname7_any P L n5 b5 w5 G5.out.1)
  go_wp2_with fail
  refine (HX.out).mono ?_
  rintro e w6 ⟨s2,n6,b6,rfl,hsl,ho,hr,hm⟩
  have RNs2:=Lh ho
  have HLs2:=Lh hsl
  clear ho hsl
  have G6:=Lh (aI hr (G5.out.2.trans hm (fun _ _ h=>h)))
  clear hr hm
  clear HX
  have HX:=Lh (rwant_any P L n6 b6 [41] w6 G6.out.1)
  go_wp2_with fail
  refine (HX.out).mono ?_
  rintro e w7 ⟨n7,b7,rfl,ho,hr,hm⟩
  have RW3:=Lh ho
  clear ho
  have G7:=Lh (aI hr (G6.out.2.trans hm (fun _ _ h=>h)))
  clear hr hm
  clear HX
  go_wp2_with (with_reducible refine wpList_row ?_)
  unfold Hold
  refine wpList_step fun K hK=>?_
  rw [if_pos (by kernel_rfl)]
  go_simp
  refine hK _ _ ?_
  clear hK K
  try simp only [Act.put,ub1,ub2,ub3]
  have hb:Below w7.heap.size w7 (w7.alloc (.cells #[.int .i64 2,.string ⟨s1.toArray⟩,.int .i64 0,.int .i64 2,.string ⟨s2.toArray⟩,.int .i64 0] 61)):=below_new _ _
  have hx:(w7.alloc (.cells #[.int .i64 2,.string ⟨s1.toArray⟩,.int .i64 0,.int .i64 2,.string ⟨s2.toArray⟩,.int .i64 0] 61)).heap[w7.heap.size]?=some (.cells #[.int .i64 2,.string ⟨s1.toArray⟩,.int .i64 0,.int .i64 2,.string ⟨s2.toArray⟩,.int .i64 0] 61 (0,0)):=heap_alloc_new _ _
  obtain ⟨BR,hBR⟩:∃ BR,BR=w7.heap.size:=⟨_,rfl⟩
  have HKBR:Hid (RB<BR):=Lh (by have:=G7.out.2.size;have:=HS0.out;omega)
  rw [<- hBR] at hx ⊢
  generalize w7.alloc (.cells #[.int .i64 2,.string ⟨s1.toArray⟩,.int .i64 0,.int .i64 2,.string ⟨s2.toArray⟩,.int .i64 0] 61)=w8 at hb hx ⊢
  have hm:Chalk.Mod (fun k=>k=P) w7 w8:=Chalk.Mod.of_below hb
  have G8:=Lh (aI (G7.out.1.below hb) (G7.out.2.trans hm (fun _ _ h=>h)))
  clear hm
  have KBR:=Lh hx
  have HEBR:=Lh hBR
  clear hb hx hBR
  have HKKBR:=HKBR
  obtain ⟨x0,x1,x2,x3,x4,x5,fz0,fz1,fz2,fz3,fz4,fz5,hrl⟩:=HE.out w8 G8.out.2
  go_wp2_with fail
  refine bodyPost_ret (v:=.agg #[.int .i64 (3+i),.string ⟨#[]⟩,.int .i64 0,.slice (some ⟨BR,0,none⟩) 2 2,.slice none 0 0,.slice none 0 0]) (by simp [results,Tryz.results191,go_sem, *]) rfl ?_
  exact RFrmP.last (A:=RB+1) (B:=0) (f:=.mk (3+i) [] 0 [⟨2,s1,0⟩,⟨2,s2,0⟩] [] []) (x:=⟨⟨some ⟨BR,0,none⟩,BR,0,2⟩,noS,noS⟩) HRB.out HPR.out HM0.out G8.out (Nat.lt_succ_self _) (node_terms (t:=⟨2,s1,0⟩) (u:=⟨2,s2,0⟩) KBR.out ⟨HKBR.out,by have:=HKBR.out;omega,(gS KBR.out).1⟩ (trmOk HLs1.out (by decide) (by decide) (by decide) (by decide)) (trmOk HLs2.out (by decide) (by decide) (by decide) (by decide)) ⟨by have:=HI.out.1;omega,by have:=HI.out.2.1;omega⟩ (Nat.zero_le _)) (rd_pred HTK.out HNL.out RA.out HI.out.1 RW1.out RNs1.out RW2.out RNs2.out RW3.out).1
 have hi2:decide (0<=i)=false:=decide_eq_false hi
 have HI:Hid (i<0/\n2=n):=Lh ⟨by omega,(RA.out.none (by omega)).2⟩
 clear hi
 have HX:=Lh (rterm7_any P L n2 bad w2 G2.out.1)
 go_wp2_with fail
 refine HX.out.mono ?_
 rintro e w3 ⟨t,n3,b3,rfl,htk,ho,hr,hm⟩
 have RT1:=Lh ho
 have HTt:=Lh htk
 clear ho htk HX
 have G3:=Lh (aI hr (G2.out.2.trans hm (fun _ _ h=>h)))
 clear hr hm
 obtain ⟨B4,hB4⟩:∃ B4,B4=w3.heap.size:=⟨_,rfl⟩
 obtain ⟨w4,hw4⟩:∃ w4,w4=w3.alloc (.cells #[.int .i64 t.kind,.string ⟨t.name.toArray⟩,.int .i64 t.n] 61):=⟨_,rfl⟩
 have hb:Below w3.heap.size w3 w4:=by rw [hw4];exact below_new _ _
 have hx:w4.heap[B4]?=some (.cells #[.int .i64 t.kind,.string ⟨t.name.toArray⟩,.int .i64 t.n] 61 (0,0)):=by rw [hw4,hB4];exact heap_alloc_new _ _
 have HKB4:Hid (RB<B4):=Lh (by have:=G3.out.2.size;have:=HS0.out;omega)
 have hm:Chalk.Mod (fun k=>k=P) w3 w4:=Chalk.Mod.of_below hb
 have G4:=Lh (aI (G3.out.1.below hb) (G3.out.2.trans hm (fun _ _ h=>h)))
 clear hm
 have KB4:=Lh hx
 have HW4:=Lh hw4
 have HQB4:=Lh hB4
 clear hb hx hw4 hB4
 have HKKB4:=HKB4
 go_wp2_with (with_reducible refine wpList_row ?_)
 rw [<- HW4.out,<- HQB4.out]
 unfold Hold
 refine wpList_step fun K hK=>?_
 rw [if_pos (by kernel_rfl)]
 go_simp
 refine hK _ _ ?_
 clear hK K
 try simp only [Act.put,ub1,ub2,ub3]
 have hb:Below w4.heap.size w4 (w4.alloc (.cells #[.string ⟨#[61]⟩,.string ⟨#[33,61]⟩,.string ⟨#[60]⟩,.string ⟨#[60,61]⟩,.string ⟨#[62]⟩,.string ⟨#[62,61]⟩] 9)):=below_new _ _
 have hx:(w4.alloc (.cells #[.string ⟨#[61]⟩,.string ⟨#[33,61]⟩,.string ⟨#[60]⟩,.string ⟨#[60,61]⟩,.string ⟨#[62]⟩,.string ⟨#[62,61]⟩] 9)).heap[w4.heap.size]?=some (.cells #[.string ⟨#[61]⟩,.string ⟨#[33,61]⟩,.string ⟨#[60]⟩,.string ⟨#[60,61]⟩,.string ⟨#[62]⟩,.string ⟨#[62,61]⟩] 9 (0,0)):=heap_alloc_new _ _
 obtain ⟨BO,hBO⟩:∃ BO,BO=w4.heap.size:=⟨_,rfl⟩
 have HKBO:Hid (RB<BO):=Lh (by have:=G4.out.2.size;have:=HS0.out;omega)
 rw [<- hBO] at hx ⊢
 generalize w4.alloc (.cells #[.string ⟨#[61]⟩,.string ⟨#[33,61]⟩,.string ⟨#[60]⟩,.string ⟨#[60,61]⟩,.string ⟨#[62]⟩,.string ⟨#[62,61]⟩] 9)=w5 at hb hx ⊢
 have hm:Chalk.Mod (fun k=>k=P) w4 w5:=Chalk.Mod.of_below hb
 have KB4:=Lh (heap_kept KB4.out hm (by have:=HPR.out;have:=HKKB4.out;omega))
 have G5:=Lh (aI (G4.out.1.below hb) (G4.out.2.trans hm (fun _ _ h=>h)))
 clear hm
 have KBO:=Lh hx
 clear hb hx hBO
 have HKKBO:=HKBO
 have HST:Hid (StrsAt w5 opsL BO):=Lh ⟨(gS KBO.out).1,fun j hj=>by
  have h2:j<6:=hj
  have:j=0∨j=1∨j=2∨j=3∨j=4∨j=5:=by omega
  rcases this with rfl | rfl | rfl | rfl | rfl | rfl <;> exact cH KBO.out rfl⟩
 have HX:=Lh (ramong_any P L n3 b3 opsL BO 6 6 w5 G5.out.1 HST.out rfl (Nat.le_refl _) (by decide))
 go_wp2_with fail
 refine (HX.out).mono ?_
 rintro e w6 ⟨i2,n4,rfl,ho,hr,hm⟩
 have RO:=Lh ho
 clear ho
 have KB4:=Lh (heap_kept KB4.out hm (by have:=HPR.out;have:=HKKB4.out;omega))
 have KBO:=Lh (heap_kept KBO.out hm (by have:=HPR.out;have:=HKKBO.out;omega))
 have G6:=Lh (aI hr (G5.out.2.trans hm (fun _ _ h=>h)))
 clear hr hm
 clear HST HX
 have HN3:=Lh (G3.out.1.place)
 by_cases hi3:i2<0
 ·have hi4:decide (i2<0)=true:=decide_eq_true hi3
  obtain ⟨cp2,fp2⟩:=G6.out.1.bad2
  obtain ⟨g1,g2⟩:=rset2_mod G6.out.1
  have HG:=Lh (aI g1 (G6.out.2.trans g2 (fun _ _ h=>h)))
  clear g1 g2
  have HRO:Hid (i2<0):=Lh hi3
  have hne1:¬ RB=P:=by have:=HPR.out;omega
  have hne2:¬ P=RB:=by have:=HPR.out;omega
  clear hi3
  obtain ⟨x0,x1,x2,x3,x4,x5,fz0,fz1,fz2,fz3,fz4,fz5,hrl⟩:=HE.out w6 G6.out.2
  go_wp2_with fail
  refine bodyPost_ret (v:=.agg #[.int .i64 0,.string ⟨#[]⟩,.int .i64 0,.slice none 0 0,.slice none 0 0,.slice none 0 0]) (by simp [results,Tryz.results191,go_sem, *]) rfl ?_
  exact RFrmP.last (A:=RB+1) (B:=0) (f:=.mk 0 [] 0 [] [] []) (x:=⟨noS,noS,noS⟩) HRB.out HPR.out HM0.out HG.out (Nat.lt_succ_self _) (leaf_in' _ _ (by decide)) (rd_nocmp HTK.out _ HNL.out HN3.out RA.out HI.out.1 (by have h1:=RT1.out;rw [HI.out.2] at h1;exact h1) RO.out HRO.out)
 have hi4:decide (i2<0)=false:=decide_eq_false hi3
 obtain ⟨j,rfl⟩:∃ j:Nat,i2=(j:Int):=⟨i2.toNat,by omega⟩
 have hgd:=RO.out.got (by omega)
 have hbf:=hgd.1
 subst hbf
 obtain ⟨hj6,s,hs,hsl⟩:=rd_ops_hi HTK.out HN3.out RO.out
 have HOJ:Hid (opsL[j]?=some s/\s.length<=2):=Lh ⟨hs,hsl⟩
 have HOC:Hid (∀ W:World,W.heap[BO]?=some (.cells #[.string ⟨#[61]⟩,.string ⟨#[33,61]⟩,.string ⟨#[60]⟩,.string ⟨#[60,61]⟩,.string ⟨#[62]⟩,.string ⟨#[62,61]⟩] 9 (0,0))->W.cell? ⟨BO,j,none⟩=some (.string ⟨s.toArray⟩)):=Lh (fun W e=>by
  have:j=0∨j=1∨j=2∨j=3∨j=4∨j=5:=by omega
  rcases this with rfl | rfl | rfl | rfl | rfl | rfl <;> (cases hs;exact cH e rfl))
 have hj6i:(j:Int)<6:=by omega
 clear hgd hi3 hs hsl
 have HX:=Lh (rterm7_any P L n4 false w6 G6.out.1)
 go_wp2_with fail
 refine HX.out.mono ?_
 rintro e w7 ⟨u,n5,b5,rfl,htk,ho,hr,hm⟩
 have RT2:=Lh ho
 have HTu:=Lh htk
 clear ho htk HX
 have KB4:=Lh (heap_kept KB4.out hm (by have:=HPR.out;have:=HKKB4.out;omega))
 have KBO:=Lh (heap_kept KBO.out hm (by have:=HPR.out;have:=HKKBO.out;omega))
 have G7:=Lh (aI hr (G6.out.2.trans hm (fun _ _ h=>h)))
 clear hr hm
 obtain ⟨B9,hB9⟩:∃ B9,B9=w7.heap.size:=⟨_,rfl⟩
 obtain ⟨w8,hw8⟩:∃ w8,w8=w7.alloc (.cells #[.int .i64 u.kind,.string ⟨u.name.toArray⟩,.int .i64 u.n] 61):=⟨_,rfl⟩
 have hb:Below w7.heap.size w7 w8:=by rw [hw8];exact below_new _ _
 have hx:w8.heap[B9]?=some (.cells #[.int .i64 u.kind,.string ⟨u.name.toArray⟩,.int .i64 u.n] 61 (0,0)):=by rw [hw8,hB9];exact heap_alloc_new _ _
 have HKB9:Hid (RB<B9):=Lh (by have:=G7.out.2.size;have:=HS0.out;omega)
 have hm:Chalk.Mod (fun k=>k=P) w7 w8:=Chalk.Mod.of_below hb
 have KB4:=Lh (heap_kept KB4.out hm (by have:=HPR.out;have:=HKKB4.out;omega))
 have KBO:=Lh (heap_kept KBO.out hm (by have:=HPR.out;have:=HKKBO.out;omega))
 have G8:=Lh (aI (G7.out.1.below hb) (G7.out.2.trans hm (fun _ _ h=>h)))
 clear hm
 have KB9:=Lh hx
 have HW9:=Lh hw8
 have HQB9:=Lh hB9
 clear hb hx hw8 hB9
 have HKK:Hid (∀ w':World,Below w8.heap.size w8 w'->w'.cell? ⟨BO,j,none⟩=some (.string ⟨s.toArray⟩)/\w'.cell? ⟨B4,0,none⟩=some (.int .i64 t.kind)/\w'.cell? ⟨B4,1,none⟩=some (.string ⟨t.name.toArray⟩)/\w'.cell? ⟨B4,2,none⟩=some (.int .i64 t.n)/\w'.cell? ⟨B9,0,none⟩=some (.int .i64 u.kind)/\w'.cell? ⟨B9,1,none⟩=some (.string ⟨u.name.toArray⟩)/\w'.cell? ⟨B9,2,none⟩=some (.int .i64 u.n)):=Lh (fun w' hW=>by
  have e4:=(hW.block _ (gS KB4.out).1).trans KB4.out
  have e9:=(hW.block _ (gS KB9.out).1).trans KB9.out
  exact ⟨HOC.out w' ((hW.block _ (gS KBO.out).1).trans KBO.out),cH e4 rfl,cH e4 rfl,cH e4 rfl,cH e9 rfl,cH e9 rfl,cH e9 rfl⟩)
 go_wp2_with fail
 rw [<- HW9.out,<- HQB9.out]
 refine wp_region_U 8 (S:=fun w'=>Below w8.heap.size w8 w') (by kernel_rfl) (Below.refl _ _).drew (fun hHeld=>?_)
 refine take_U (i:=0) (v:=?_) rfl (by kernel_rfl) (by kernel_rfl) (by kernel_rfl) (by kernel_rfl) (fun _ _ _ h=>h) (by rfl) ?_ hHeld ?_
 rotate_left
 ·intro w hSw;obtain ⟨z0,z1,z2,z3,z4,z5,z6⟩:=HKK.out w hSw;go_simp;all_goals (with_reducible rfl)
 try simp only [Act.put,ub1,ub2,ub3]
 refine take_U (i:=1) (v:=?_) rfl (by kernel_rfl) (by kernel_rfl) (by kernel_rfl) (by kernel_rfl) (fun _ _ _ h=>h) (by rfl) ?_ hHeld ?_
 rotate_left
 ·intro w hSw;obtain ⟨z0,z1,z2,z3,z4,z5,z6⟩:=HKK.out w hSw;go_simp;all_goals (with_reducible rfl)
 try simp only [Act.put,ub1,ub2,ub3]
 refine take_U (i:=2) (v:=?_) rfl (by kernel_rfl) (by kernel_rfl) (by kernel_rfl) (by kernel_rfl) (fun _ _ _ h=>h) (by rfl) ?_ hHeld ?_
 rotate_left
 ·intro w hSw;obtain ⟨z0,z1,z2,z3,z4,z5,z6⟩:=HKK.out w hSw;go_simp;all_goals (with_reducible rfl)
 try simp only [Act.put,ub1,ub2,ub3]
 refine take_U (i:=3) (v:=?_) rfl (by kernel_rfl) (by kernel_rfl) (by kernel_rfl) (by kernel_rfl) (fun _ _ _ h=>h) (by rfl) ?_ hHeld ?_
 rotate_left
 ·intro w hSw;obtain ⟨z0,z1,z2,z3,z4,z5,z6⟩:=HKK.out w hSw;go_simp;all_goals (with_reducible rfl)
 try simp only [Act.put,ub1,ub2,ub3]
 refine take_U (i:=4) (v:=?_) rfl (by kernel_rfl) (by kernel_rfl) (by kernel_rfl) (by kernel_rfl) (fun _ _ _ h=>h) (by rfl) ?_ hHeld ?_
 rotate_left
 ·intro w hSw;obtain ⟨z0,z1,z2,z3,z4,z5,z6⟩:=HKK.out w hSw;go_simp;all_goals (with_reducible rfl)
 try simp only [Act.put,ub1,ub2,ub3]
 refine take_U (i:=5) (v:=?_) rfl (by kernel_rfl) (by kernel_rfl) (by kernel_rfl) (by kernel_rfl) (fun _ _ _ h=>h) (by rfl) ?_ hHeld ?_
 rotate_left
 ·intro w hSw;obtain ⟨z0,z1,z2,z3,z4,z5,z6⟩:=HKK.out w hSw;go_simp;all_goals (with_reducible rfl)
 try simp only [Act.put,ub1,ub2,ub3]
 refine ready_U (rs:=[6]) (by kernel_rfl) (by simp) ?_
 refine cons_U rfl (fun K hK=>?_) nil_U
 go_simp
 have hb:Below w8.heap.size w8 (w8.alloc (.cells #[.int .i64 t.kind,.string ⟨t.name.toArray⟩,.int .i64 t.n,.int .i64 u.kind,.string ⟨u.name.toArray⟩,.int .i64 u.n] 61)).drew:=(Below.alloc (Below.refl _ _) (Nat.le_refl _) _).drew
 have hx:(w8.alloc (.cells #[.int .i64 t.kind,.string ⟨t.name.toArray⟩,.int .i64 t.n,.int .i64 u.kind,.string ⟨u.name.toArray⟩,.int .i64 u.n] 61)).drew.heap[w8.heap.size]?=some (.cells #[.int .i64 t.kind,.string ⟨t.name.toArray⟩,.int .i64 t.n,.int .i64 u.kind,.string ⟨u.name.toArray⟩,.int .i64 u.n] 61 (0,0)):=heap_alloc_new w8 _
 obtain ⟨BR,hBR⟩:∃ BR,BR=w8.heap.size:=⟨_,rfl⟩
 have HKBR:Hid (RB<BR):=Lh (by have:=G8.out.2.size;have:=HS0.out;omega)
 rw [<- hBR] at hx ⊢
 generalize (w8.alloc (.cells #[.int .i64 t.kind,.string ⟨t.name.toArray⟩,.int .i64 t.n,.int .i64 u.kind,.string ⟨u.name.toArray⟩,.int .i64 u.n] 61)).drew=w9 at hb hx ⊢
 have hm:Chalk.Mod (fun k=>k=P) w8 w9:=Chalk.Mod.of_below hb
 have G9:=Lh (aI (G8.out.1.below hb) (G8.out.2.trans hm (fun _ _ h=>h)))
 have KBR:=Lh hx
 have HB16:=Lh hb
 clear hm hx hb hBR
 refine hK.out _ _ ?_ (fun hHeld2=>?_)
 ·exact HB16.out
 clear hK K hHeld
 have hHeld:=hHeld2
 clear hHeld2
 try simp only [Act.put,ub1,ub2,ub3]
 refine tkU (i:=7) rfl hHeld ?_
 try simp only [Act.put,ub1,ub2,ub3]
 refine ready_U (rs:=[8]) (by kernel_rfl) (by simp) ?_
 refine cons_V rfl (by kernel_rfl) (fun K hK=>?_) nil_U
 obtain ⟨x0,x1,x2,x3,x4,x5,fz0,fz1,fz2,fz3,fz4,fz5,hrl⟩:=HE.out w9 G9.out.2
 go_simp
 refine hK.out _ _ ?_
 clear hK K
 try simp only [Act.put,ub1,ub2,ub3]
 refine done_U (by kernel_rfl) ?_ _
 dsimp only [Exit.then]
 refine (‹∀ (a:Act) (w_1:World),Code.wp Tryz.prog Code.ret _ a w_1->_›:_) _ _ ?_
 refine wp_ret ?_
 refine bodyPost_ret (v:=.agg #[.int .i64 9,.string ⟨s.toArray⟩,.int .i64 0,.slice (some ⟨BR,0,none⟩) 2 2,.slice none 0 0,.slice none 0 0]) (by simp [results,Tryz.results191,go_sem, *]) rfl ?_
 exact RFrmP.last (A:=RB+1) (B:=0) (f:=.mk 9 s 0 [t,u] [] []) (x:=⟨⟨some ⟨BR,0,none⟩,BR,0,2⟩,noS,noS⟩) HRB.out HPR.out HM0.out G9.out (Nat.lt_succ_self _) (node_terms KBR.out ⟨HKBR.out,by have:=HKBR.out;omega,(gS KBR.out).1⟩ HTt.out HTu.out (by decide) (by have:=HOJ.out.2;omega)) (rd_cmp HTK.out HNL.out HN3.out RA.out HI.out.1 (by have h1:=RT1.out;rw [HI.out.2] at h1;exact h1) RO.out (Int.natCast_nonneg _) (by rw [Int.toNat_natCast];exact HOJ.out.1) RT2.out)
end Go.Proofs.YtpmalchlecnjbaaGreatDoor
/- The reference's reader: binds. (written by tools/gen_ryf.py) -/
namespace Go.Chalk
open Go.RowKit
theorem bnd_ds' (w:World) (F:Nat->Prop) (b:Bnd) (hn:b.name.length<=281474976710656) (hs : -1<=b.sort/\b.sort<=20):DsAt w F [Bnd.toD b] [.string ⟨b.name.toArray⟩,.int .i64 b.sort]:=by
 refine (DsAt.flat [Bnd.toD b] _ rfl).2 ⟨rfl,?_⟩
 simp only [fines,D.fine,Bnd.toD,and_true]
 exact ⟨by rw [bs_size];unfold maxLen;omega,WalkArith.wf_i64 ⟨by omega,by omega⟩⟩
def BCont (L:List Tok) (n:Nat) (bad:Bool) (acc:List Bnd) (j nj:Nat):Prop:=∀ r n' b',ROut L (pBinds (6 - j)) nj bad r n' b'->ROut L (pBinds 6) n bad (acc++r) n' b'
theorem BCont.start {L:List Tok} {n:Nat} {bad:Bool}:BCont L n bad [] 0 n:=fun _ _ _ h=>h
theorem BCont.stuck {L:List Tok} {n j nj:Nat} {acc:List Bnd} (h:BCont L n true acc j nj):ROut L (pBinds 6) n true acc nj true:=by have:=h [] nj true (ROut.stuck _ _ _);rwa [List.append_nil] at this
theorem BCont.last {L:List Tok} {n j nj n1:Nat} {bad b1:Bool} {acc:List Bnd} {x:Bnd} (h:BCont L n bad acc j nj) (hj:j<=5) (hx:ROut L pBind nj bad x n1 b1) (hk:j=5∨b1=true∨isT [44] (L.drop n1)=false):ROut L (pBinds 6) n bad (acc++[x]) n1 b1:=by
 refine h [x] n1 b1 ?_
 rw [show 6 - j=(5 - j)+1 from by omega]
 exact rd_binds_last hx (by rcases hk with h | h;exact .inl (by omega);exact .inr h)
theorem BCont.more {L:List Tok} {n j nj n1:Nat} {acc:List Bnd} {x:Bnd} (h:BCont L n false acc j nj) (hj:j<5) (hx:ROut L pBind nj false x n1 false) (ht:isT [44] (L.drop n1)=true):BCont L n false (acc++[x]) (j+1) (n1+1):=fun r n' b' hr=>by
 have h1:=h (x :: r) n' b' (by
  rw [show 6 - j=(5 - j)+1 from by omega]
  exact rd_binds_more hx (by omega) ht (by rw [show 5 - j=6 - (j+1) from by omega];exact hr))
 rw [show (acc++[x])++r=acc++(x :: r) from by simp]
 exact h1
theorem rd_sort_hi {L:List Tok} (hT:RToks L) {n n1:Nat} {b:Bool} {i:Int} (hn:n<L.length) (h1:RAmong L sortsL n b i n1) : -1<=i/\i<=7/\(i<1->i = -1):=by
 by_cases hi:0<=i
 ·obtain ⟨_,h7,_⟩:=h1.got hi
  obtain ⟨t,r,e,ht⟩:=hT.at_ hn
  rw [e,among_sorts ht] at h7
  cases hkk:kwT kwSort (t :: r) with
  | none=>rw [hkk] at h7;have h7 : -1=i:=h7;omega
  | some k =>
   rw [hkk] at h7
   have h7:k - 0=i:=h7
   have hr:=kwT_range' (a:=1) (b:=7) (by decide) hkk
   omega
 ·obtain ⟨h2,_⟩:=h1
  have h3:i = -1:=by
   split at h2
   ·exact h2
   ·obtain ⟨t,r,e,ht⟩:=hT.at_ hn
    rw [e,among_sorts ht] at h2
    cases hkk:kwT kwSort (t :: r) with
    | none=>rw [hkk] at h2;exact h2
    | some k =>
     rw [hkk] at h2
     have h2:i=k - 0:=h2
     have hr:=kwT_range' (a:=1) (b:=7) (by decide) hkk
     omega
  omega
end Go.Chalk
namespace Go.Proofs.YtpmalchlecnjbaaGreatDoor
open Go.RowKit Go.Chalk
attribute [local go_sem] Oper.semAt_some
def RBndP (P:Nat) (L:List Tok) (n:Nat) (bad:Bool) (w:World) (e:Ending) (w':World):Prop:=∃ (bs:List Bnd) (v:Value) (n':Nat) (bad':Bool),e=.returned v/\OwnF w' 74 2 w.heap.size v (bs.map Bnd.toD)/\ROut L (pBinds 6) n bad bs n' bad'/\RdAt w' P L n' bad'/\Chalk.Mod (fun k=>k=P) w w'
theorem rbinds_any7 (P:Nat) (L:List Tok) (n:Nat) (bad:Bool) (w:World) (h:RdAt w P L n bad):Calls Tryz.prog 103 #[.pointer (some ⟨P,0,none⟩)] w (RBndP P L n bad w):=by
 have H0:=Lh (aI h h.lt)
 have HTK:=Lh h.toks
 obtain ⟨i0,hi,hz0,hz1,hz2⟩:=info_parts bnd_info
 clear h
 go_enter Tryz.func103,Tryz.ntmps103
 go_wp2_with fail
 go_loopw [3] (fun s3 wr=>∃ (j:Nat) (acc:List Bnd) (a:Option Addr) (cap nj:Nat),j<=5/\s3=.slice a j cap/\Hid (acc.length=j)/\Hid (OwnF wr 74 2 w.heap.size (.slice a j cap) (acc.map Bnd.toD))/\Hid (RdAt wr P L nj bad)/\Hid (Chalk.Mod (fun k=>k=P) w wr)/\Hid (BCont L n bad acc j nj)) (fun s3 _=>6 - sliceN s3)
 case atStart=>exact ⟨0,[],none,0,n,by omega,rfl,Lh rfl,Lh (OwnF.nil _ _ _ _),Lh H0.out.1,Lh (Chalk.Mod.refl _ _),Lh BCont.start⟩
 case round =>
  obtain ⟨j,acc,a,cap,nj,hj,rfl,HL,HO,HP,HM,HCT⟩:=hrel
  obtain ⟨cp2,fp2⟩:=HP.out.bad2
  have hj6:(j:Int)<6:=by omega
  cases bad
  rotate_left
  ·go_wp2_with fail
   go_ret
   exact ⟨acc,_,nj,true,rfl,HO.out,HCT.out.stuck,HP.out,HM.out⟩
  have HN:=Lh (rname7_any P L nj false wr HP.out)
  have HPL:=Lh HP.out.place
  go_wp2_with fail
  refine HN.out.mono ?_
  rintro e w1 ⟨s,n1,b1,rfl,hsl,ho1,hr1,hm1⟩
  obtain ⟨BX,hBX⟩:∃ BX,BX=w1.heap.size:=⟨_,rfl⟩
  obtain ⟨w2,hw2⟩:∃ w2,w2=w1.alloc (.cells #[.string ⟨s.toArray⟩,.int .i64 0] 74):=⟨_,rfl⟩
  have hb1:Below w1.heap.size w1 w2:=by rw [hw2];exact below_new _ _
  have hx1:w2.heap[BX]?=some (.cells #[.string ⟨s.toArray⟩,.int .i64 0] 74 (0,0)):=by rw [hw2,hBX];exact heap_alloc_new _ _
  have hPx:¬ P=BX:=by have:=hr1.lt;omega
  have hq1:∃ q,Chalk.Own w2 (fun _=>False) 74 2 (.slice a j cap) q (acc.map Bnd.toD)/\∀ k,q=some k->w.heap.size<=k/\k ≠ BX:=by
   obtain ⟨q,h1,h2⟩:=(HO.out.kept H0.out.2 hm1).own
   exact ⟨q,h1.below hb1,fun k hk=>⟨h2 k hk,by have:=h1.row_lt hk;omega⟩⟩
  have RS:=Lh ho1
  have HSL:=Lh hsl
  have H1:=Lh (aI (hr1.below hb1) (aI ((HM.out.trans hm1 (fun _ _ h=>h)).trans (Chalk.Mod.of_below (S:=fun k=>k=P) hb1) (fun _ _ h=>h)) (aI hx1 (aI hq1 hPx))))
  have HZ:Hid (w.heap.size<=BX):=Lh (by rw [hBX];exact Nat.le_trans HM.out.size hm1.size)
  have HW2:=Lh (aI hw2 hBX)
  clear ho1 hsl hr1 hm1 HN hb1 hx1 hw2 hPx hq1 hBX cp2 fp2
  go_wp2_with fail
  rw [<- HW2.out.1,<- HW2.out.2]
  refine (rwant_any P L n1 b1 [58] w2 H1.out.1).mono ?_
  rintro e w3 ⟨n2,b2,rfl,ho2,hr2,hm2⟩
  have RW:=Lh ho2
  have H2:=Lh (aI hr2 hm2)
  clear ho2 hr2 hm2
  go_wp2_with fail
  refine (rsorts7_any _).mono ?_
  rintro e w4 ⟨kb,rfl,hks,hb4⟩
  have HST:Hid (StrsAt w4 sortsL kb):=Lh ⟨World.block_lt_of_cell? w4 ⟨kb,0,none⟩ (hks 0 (by decide)),fun j hj=>by rw [sortsL_get hj];exact hks j hj⟩
  have H3:=Lh (aI (H2.out.1.below hb4) (H2.out.2.trans (Chalk.Mod.of_below (S:=fun k=>k=P) hb4) (fun _ _ h=>h)))
  have HAM:=Lh (ramong_any P L n2 b2 sortsL kb 8 8 w4 H3.out.1 HST.out rfl (Nat.le_refl _) (by decide))
  clear hks hb4
  go_wp2_with fail
  refine HAM.out.mono ?_
  rintro e w5 ⟨v,n3,rfl,ho3,hr3,hm3⟩
  have RA:=Lh ho3
  obtain ⟨hv1,hv2,hv3⟩:=rd_sort_hi HTK.out H2.out.1.place ho3
  have hm15:Chalk.Mod (fun k=>k=P) w2 w5:=H3.out.2.trans hm3 (fun _ _ h=>h)
  have hx5:=heap_kept H1.out.2.2.1 hm15 (fun h=>H1.out.2.2.2.2 h.symm)
  have q0:w5.cell? ⟨BX,0,none⟩=some (.string ⟨s.toArray⟩):=cH hx5 rfl
  have q1:w5.cell? ⟨BX,1,none⟩=some (.int .i64 0):=cH hx5 rfl
  have f1:w5.frozen? ⟨BX,1,none⟩=false:=fH hx5
  have hl5:BX<w5.heap.size:=(gS hx5).1
  have hwz:=HZ.out
  have hmB:Chalk.Mod (fun k=>w.heap.size<=k) w5 (w5.setCell ⟨BX,1,none⟩ (.int .i64 v)):=(Chalk.Mod.refl (fun k=>w.heap.size<=k) w5).setCell (p:=⟨BX,1,none⟩) (fun _=>hwz) (.int .i64 v)
  have hO5:OwnF (w5.setCell ⟨BX,1,none⟩ (.int .i64 v)) 74 2 w.heap.size (.slice a j cap) (acc.map Bnd.toD):=by
   obtain ⟨q,h1,h2⟩:=H1.out.2.2.2.1
   refine ⟨q,(h1.kept hm15 (fun _ h=>h.elim) (fun k hk e=>by have:=(h2 k hk).1;have:=H0.out.2;omega)).kept (S:=fun k=>k=BX) ((Chalk.Mod.refl (fun k=>k=BX) w5).setCell (p:=⟨BX,1,none⟩) (fun _=>rfl) _) (fun _ h=>h.elim) (fun k hk e=>(h2 k hk).2 e),fun k hk=>(h2 k hk).1⟩
  have hRD:RdAt (w5.setCell ⟨BX,1,none⟩ (.int .i64 v)) P L n3 b2:=RdAt.far hr3 hmB (fun k hk=>by have:=H0.out.2;omega)
  have hMM:Chalk.Mod (fun k=>k=P) w (w5.setCell ⟨BX,1,none⟩ (.int .i64 v)):=mod_far (H1.out.2.1.trans hm15 (fun _ _ h=>h)) hmB (Nat.le_refl _)
  have H5:=Lh (aI hRD (aI hMM hO5))
  have HAL:Hid ((List.map Bnd.toD acc).length=j):=Lh (by rw [List.length_map];exact HL.out)
  have RBN:=Lh (rd_bind HTK.out RS.out RW.out RA.out H2.out.1.place)
  obtain ⟨cp2,fp2⟩:=hr3.bad2
  have hne1:¬ P=BX:=H1.out.2.2.2.2
  have hne2:¬ BX=P:=fun h=>hne1 h.symm
  clear ho3 hr3 hm3 hm15 hx5 hwz hmB hO5 hRD hMM HAM HST
  by_cases hv:v<1
  ·have hvm:v = -1:=hv3 hv
   subst hvm
   have RB2:Hid (ROut L pBind nj false ⟨s,-1⟩ n3 true):=Lh (by have h:=RBN.out;rwa [show (b2||decide ((-1:Int)<1))=true by simp] at h)
   obtain ⟨g1,g2⟩:=rset2_mod H5.out.1
   have H6:=Lh (aI g1 (aI (H5.out.2.1.trans g2 (fun _ _ h=>h)) (H5.out.2.2.kept H0.out.2 g2)))
   clear g1 g2
   have HDS:=Lh (bnd_ds' ((w5.setCell ⟨BX,1,none⟩ (.int .i64 (-1))).setCell ⟨P,2,none⟩ (.bool true)) (fun _=>False) ⟨s,(-1)⟩ HSL.out ⟨by simp only;omega,by simp only;omega⟩)
   clear hv
   by_cases hj5:j=5
   ·subst hj5
    go_wp2_with (at_builtin;go_must (refine wpList_append_F (W0:=((w5.setCell ⟨BX,1,none⟩ (.int .i64 (-1))).setCell ⟨P,2,none⟩ (.bool true))) (B:=w5.heap.size) (by simp) rfl _ _ 25 rfl 74 i0 _ 2 24 Tryz.underlying25 hi hz0 hz1 hz2 rfl (by decide) (.slice a 5 cap) (acc.map Bnd.toD) 5 HAL.out (Bnd.toD ⟨s,(-1)⟩) [.string ⟨s.toArray⟩,.int .i64 (-1)] _ rfl rfl H6.out.2.2 HDS.out rfl (by simp;have:=HZ.out;omega) (by unfold maxLen;omega) (by omega) ?_);intro ao cap5 w7 hO5 hm5;have H7:=Lh (aI hO5 hm5);clear hO5 hm5)
    go_ret
    have hmf:=mod_far H6.out.2.1 H7.out.2 (Nat.le_refl _)
    have hpf:=H6.out.1.far H7.out.2 (fun k hk=>by have:=H0.out.2;omega)
    have hof:OwnF w7 74 2 w.heap.size (.slice ao (5+1) cap5) ((acc++[(⟨s,(-1)⟩:Bnd)]).map Bnd.toD):=by have:=H7.out.1;rw [List.map_append];exact this
    exact ⟨_,_,n3,true,rfl,hof,HCT.out.last (by decide) RB2.out (.inl rfl),hpf,hmf⟩
   have e6:((j:Int)+1==6)=false:=by simp;omega
   have HJ:Hid (j<5):=Lh (by omega)
   clear hj5
   go_wp2_with (at_builtin;go_must (refine wpList_append_F (W0:=((w5.setCell ⟨BX,1,none⟩ (.int .i64 (-1))).setCell ⟨P,2,none⟩ (.bool true))) (B:=w5.heap.size) (by simp) rfl _ _ 25 rfl 74 i0 _ 2 24 Tryz.underlying25 hi hz0 hz1 hz2 rfl (by decide) (.slice a j cap) (acc.map Bnd.toD) j HAL.out (Bnd.toD ⟨s,(-1)⟩) [.string ⟨s.toArray⟩,.int .i64 (-1)] _ rfl rfl H6.out.2.2 HDS.out rfl (by simp;have:=HZ.out;omega) (by unfold maxLen;omega) (by omega) ?_);intro ao cap5 w7 hO5 hm5;have H7:=Lh (aI hO5 hm5);clear hO5 hm5)
   have hmf:=mod_far H6.out.2.1 H7.out.2 (Nat.le_refl _)
   have hpf:=H6.out.1.far H7.out.2 (fun k hk=>by have:=H0.out.2;omega)
   have hof:OwnF w7 74 2 w.heap.size (.slice ao (j+1) cap5) ((acc++[(⟨s,(-1)⟩:Bnd)]).map Bnd.toD):=by have:=H7.out.1;rw [List.map_append];exact this
   have HFF:=Lh (aI hmf (aI hpf hof))
   clear hmf hpf hof
   refine (rtook_any P L n3 true [44] w7 HFF.out.2.1).mono ?_
   rintro e w8 ⟨c,n4,rfl,ht,hr8,hm8⟩
   have RT:=Lh ht
   have H8:=Lh (aI hr8 hm8)
   clear ht hr8 hm8
   cases c
   ·go_wp2_with fail
    go_ret
    have hn4:=RT.out.no.2
    subst hn4
    exact ⟨_,_,n4,true,rfl,HFF.out.2.2.kept H0.out.2 H8.out.2,HCT.out.last hj RB2.out (.inr (.inl rfl)),H8.out.1,HFF.out.1.trans H8.out.2 (fun _ _ h=>h)⟩
   ·exact absurd RT.out.yes.1 (by decide)
  ·have hvd:decide (v<1)=false:=decide_eq_false hv
   have RB2:Hid (ROut L pBind nj false ⟨s,v⟩ n3 b2):=Lh (by have h:=RBN.out;rwa [hvd,Bool.or_false] at h)
   have H6:=H5
   have HDS:=Lh (bnd_ds' (w5.setCell ⟨BX,1,none⟩ (.int .i64 v)) (fun _=>False) ⟨s,v⟩ HSL.out ⟨by simp only;omega,by simp only;omega⟩)
   clear hv
   by_cases hj5:j=5
   ·subst hj5
    go_wp2_with (at_builtin;go_must (refine wpList_append_F (W0:=(w5.setCell ⟨BX,1,none⟩ (.int .i64 v))) (B:=w5.heap.size) (by simp) rfl _ _ 25 rfl 74 i0 _ 2 24 Tryz.underlying25 hi hz0 hz1 hz2 rfl (by decide) (.slice a 5 cap) (acc.map Bnd.toD) 5 HAL.out (Bnd.toD ⟨s,v⟩) [.string ⟨s.toArray⟩,.int .i64 v] _ rfl rfl H6.out.2.2 HDS.out rfl (by simp;have:=HZ.out;omega) (by unfold maxLen;omega) (by omega) ?_);intro ao cap5 w7 hO5 hm5;have H7:=Lh (aI hO5 hm5);clear hO5 hm5)
    go_ret
    have hmf:=mod_far H6.out.2.1 H7.out.2 (Nat.le_refl _)
    have hpf:=H6.out.1.far H7.out.2 (fun k hk=>by have:=H0.out.2;omega)
    have hof:OwnF w7 74 2 w.heap.size (.slice ao (5+1) cap5) ((acc++[(⟨s,v⟩:Bnd)]).map Bnd.toD):=by have:=H7.out.1;rw [List.map_append];exact this
    exact ⟨_,_,n3,b2,rfl,hof,HCT.out.last (by decide) RB2.out (.inl rfl),hpf,hmf⟩
   have e6:((j:Int)+1==6)=false:=by simp;omega
   have HJ:Hid (j<5):=Lh (by omega)
   clear hj5
   go_wp2_with (at_builtin;go_must (refine wpList_append_F (W0:=(w5.setCell ⟨BX,1,none⟩ (.int .i64 v))) (B:=w5.heap.size) (by simp) rfl _ _ 25 rfl 74 i0 _ 2 24 Tryz.underlying25 hi hz0 hz1 hz2 rfl (by decide) (.slice a j cap) (acc.map Bnd.toD) j HAL.out (Bnd.toD ⟨s,v⟩) [.string ⟨s.toArray⟩,.int .i64 v] _ rfl rfl H6.out.2.2 HDS.out rfl (by simp;have:=HZ.out;omega) (by unfold maxLen;omega) (by omega) ?_);intro ao cap5 w7 hO5 hm5;have H7:=Lh (aI hO5 hm5);clear hO5 hm5)
   have hmf:=mod_far H6.out.2.1 H7.out.2 (Nat.le_refl _)
   have hpf:=H6.out.1.far H7.out.2 (fun k hk=>by have:=H0.out.2;omega)
   have hof:OwnF w7 74 2 w.heap.size (.slice ao (j+1) cap5) ((acc++[(⟨s,v⟩:Bnd)]).map Bnd.toD):=by have:=H7.out.1;rw [List.map_append];exact this
   have HFF:=Lh (aI hmf (aI hpf hof))
   clear hmf hpf hof
   refine (rtook_any P L n3 b2 [44] w7 HFF.out.2.1).mono ?_
   rintro e w8 ⟨c,n4,rfl,ht,hr8,hm8⟩
   have RT:=Lh ht
   have H8:=Lh (aI hr8 hm8)
   clear ht hr8 hm8
   cases c
   ·go_wp2_with fail
    go_ret
    have hn4:=RT.out.no.2
    subst hn4
    exact ⟨_,_,n4,b2,rfl,HFF.out.2.2.kept H0.out.2 H8.out.2,HCT.out.last hj RB2.out (by have h:=RT.out.no.1;cases b2 with | true=>exact .inr (.inl rfl) | false=>exact .inr (.inr (h rfl))),H8.out.1,HFF.out.1.trans H8.out.2 (fun _ _ h=>h)⟩
   ·have hy:=RT.out.yes
    have hb2:=hy.1
    have hn4:=hy.2.2
    subst hb2
    subst hn4
    have HY:=Lh hy.2.1
    clear hy
    go_wp2_with fail
    exact ⟨⟨j+1,_,ao,cap5,n3+1,by have:=HJ.out;omega,rfl,Lh (by rw [List.length_append,HL.out];rfl),Lh (HFF.out.2.2.kept H0.out.2 H8.out.2),Lh H8.out.1,Lh (HFF.out.1.trans H8.out.2 (fun _ _ h=>h)),Lh (HCT.out.more HJ.out RB2.out HY.out)⟩,by have:=HJ.out;simp [sliceN];omega⟩
end Go.Proofs.YtpmalchlecnjbaaGreatDoor
