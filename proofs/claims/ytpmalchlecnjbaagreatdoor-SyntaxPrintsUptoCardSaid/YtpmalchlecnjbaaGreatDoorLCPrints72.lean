/- Joined texts: PSd, RXm. -/
import Derived.Test.YtpmalchlecnjbaaGreatDoorU39
set_option maxHeartbeats 8000000
set_option maxRecDepth 100000
set_option linter.unusedVariables false
set_option linter.unusedSimpArgs false
/- The reference's Same of rules. (written by tools/gen_psd.py) -/
namespace Go.Chalk
open Go.RowKit
def rulEq (r s:Rul):Bool:=decide (r.name=s.name)&&(decide (r.hard=s.hard)&&(decide (r.weight=s.weight)&&(decide (r.each=s.each)&&frmEq r.body s.body)))
theorem rulEq_iff (r s:Rul):rulEq r s=true ↔ r=s:=by
 obtain ⟨a,b,c,d,e⟩:=r
 obtain ⟨a',b',c',d',e'⟩:=s
 simp only [rulEq,Bool.and_eq_true,decide_eq_true_eq,frmEq_iff,Rul.mk.injEq]
def rulsEq:List Rul->List Rul->Bool
 | [],[]=>true
 | f :: r,g :: q=>rulEq f g&&rulsEq r q
 | [],_ :: _=>false
 | _ :: _,[]=>false
theorem rulsEq_iff:∀ l m:List Rul,rulsEq l m=true ↔ l=m
 | [],[]=>by simp [rulsEq]
 | f :: r,g :: q=>by rw [rulsEq];simp only [Bool.and_eq_true,rulEq_iff f g,rulsEq_iff r q,List.cons.injEq]
 | [],_ :: _=>by simp [rulsEq]
 | _ :: _,[]=>by simp [rulsEq]
theorem rulsEq_self (l:List Rul):rulsEq l l=true:=(rulsEq_iff l l).2 rfl
theorem rulsEq_len {l m:List Rul} (h:l.length ≠ m.length):rulsEq l m=false:=by
 cases hh:rulsEq l m with
 | false=>rfl
 | true=>rw [(rulsEq_iff l m).1 hh] at h;exact absurd rfl h
theorem rulsEq_step {l m:List Rul} {j:Nat} (h1:j<l.length) (h2:j<m.length):rulsEq (l.drop j) (m.drop j)=(rulEq l[j] m[j]&&rulsEq (l.drop (j+1)) (m.drop (j+1))):=by rw [List.drop_eq_getElem_cons h1,List.drop_eq_getElem_cons h2,rulsEq]
end Go.Chalk
namespace Go.Proofs.YtpmalchlecnjbaaGreatDoor
open Go.RowKit Go.Chalk
attribute [local go_sem] Oper.semAt_some
theorem r7same_any (l m:List Rul) (x y:SlA) (w:World) (hx:SlIn w (·<w.heap.size) (l.map Rul.toD) x) (hy:SlIn w (·<w.heap.size) (m.map Rul.toD) y) (hl:l.length<=2000000) (hf:∀ r∈l,RuFit r) :
  Calls Tryz.prog 22 #[.slice x.a l.length x.cap,.slice y.a m.length y.cap] w (Answers w (rulsEq l m)):=by
 have gx:=hx.at_
 have gy:=hy.at_
 rw [List.length_map] at gx gy
 by_cases hlen:l.length=m.length
 rotate_left
 ·have HR:Hid (rulsEq l m=false):=Lh (rulsEq_len hlen)
  generalize rulsEq l m=R at HR ⊢
  clear hx hy hf
  generalize l.length=n1 at *
  generalize m.length=n2 at *
  have hne:((n1:Int)==(n2:Int))=false:=by simp;omega
  have hne2:¬ n1=n2:=hlen
  clear gx gy hlen
  go_enter Tryz.func22,Tryz.ntmps22
  go_wp2_with fail
  go_ret
  exact ⟨ret_bool HR.out.symm,Below.refl _ _⟩
 obtain ⟨R,hR⟩:∃ R,R=rulsEq l m:=⟨_,rfl⟩
 rw [<- hR]
 obtain ⟨n,hn⟩:∃ n,n=l.length:=⟨_,rfl⟩
 have hn2:m.length=n:=by omega
 have HX:=Lh (fun (j:Nat) (hj:j<l.length)=>hx.rul j hj)
 have HY:=Lh (fun (j:Nat) (hj:j<m.length)=>hy.rul j hj)
 rw [hn2,<- hn]
 rw [<- hn] at gx hl
 rw [hn2] at gy
 have HN:=Lh (aI hn hn2)
 have HFT:=Lh (fun (j:Nat) (hj:j<l.length)=>hf _ (List.getElem_mem hj))
 have HR:=Lh hR
 clear hx hy hf hR hn hn2 hlen
 go_enter Tryz.func22,Tryz.ntmps22
 go_wp2_with fail
 go_loopw [16] (fun i wr=>∃ j:Nat,j<=n/\i=.int .i64 j/\Hid (Below w.heap.size w wr)/\Hid (R=rulsEq (l.drop j) (m.drop j))) (fun i _=>n - (intOf i).toNat)
 case atStart=>exact ⟨0,Nat.zero_le _,rfl,Lh (Below.refl _ _),HR⟩
 case round =>
  obtain ⟨j,hj,rfl,HB,HT⟩:=hrel
  by_cases hlt:j<n
  ·obtain ⟨hxa,xl⟩:=gx (by omega)
   obtain ⟨hya,yl⟩:=gy (by omega)
   have hjl:j<l.length:=by have:=HN.out;omega
   have hjm:j<m.length:=by have:=HN.out;omega
   obtain ⟨xf,hf1,hf2⟩:=HX.out j hjl
   obtain ⟨yf,hg1,hg2⟩:=HY.out j hjm
   have hxs:=hf2.agree (agree_of_below HB.out) xl
   have hys:=hg2.agree (agree_of_below HB.out) yl
   have hst:=HT.out
   rw [rulsEq_step hjl hjm] at hst
   have hft:=HFT.out j hjl
   rw [hxa,hya]
   have HXL:=Lh (aI (Nat.lt_of_lt_of_le xl HB.out.size) (Nat.lt_of_lt_of_le yl HB.out.size))
   clear hf2 hg2 HT hxa hya
   generalize l[j]=f1 at *
   generalize m[j]=f2 at *
   clear hjl hjm
   have hbd:=HB.out
   have HCC:=Lh (fun (W:World) (hW:Below w.heap.size w W)=>r6same_any _ f1.body f2.body W (Nat.le_refl _) hft.body xf.body yf.body (hf1.body.later hW hW.size) (hg1.body.later hW hW.size))
   obtain ⟨ge1,_,_,ce1,_⟩:=hf1.each.flat Bnd.flatT
   obtain ⟨ge2,_,_,ce2,_⟩:=hg1.each.flat Bnd.flatT
   have HE1:=Lh (fun (i:Nat) (hi:i<f1.each.length)=>ce1.two i hi rfl)
   have HE2:=Lh (fun (i:Nat) (hi:i<f2.each.length)=>ce2.two i hi rfl)
   have HG1:=Lh ge1
   have HG2:=Lh ge2
   have hle:=hft.len
   obtain ⟨q,hq⟩:∃ q,q=frmEq f1.body f2.body:=⟨_,rfl⟩
   have HNE:Hid ((f1.name ≠ f2.name∨f1.hard ≠ f2.hard∨f1.weight ≠ f2.weight∨f1.each ≠ f2.each∨q=false)->R=false):=Lh (fun h=>by
    rw [hst,rulEq,<- hq]
    rcases h with h | h | h | h | h
    ·rw [decide_eq_false h];simp
    ·rw [decide_eq_false h];simp
    ·rw [decide_eq_false h];simp
    ·rw [decide_eq_false h];simp
    ·rw [h];simp)
   have HEQ:Hid (f1.name=f2.name->f1.hard=f2.hard->f1.weight=f2.weight->f1.each=f2.each->q=true->R=rulsEq (l.drop (j+1)) (m.drop (j+1))):=Lh (fun h1 h2 h3 h4 h5=>by
    rw [hst,rulEq,<- hq,decide_eq_true h1,decide_eq_true h2,decide_eq_true h3,decide_eq_true h4,h5];rfl)
   rw [<- hq] at HCC
   clear hq hst hft hf1 hg1 ge1 ge2 ce1 ce2
   obtain ⟨nm1,hd1,wt1,ea1,⟨k1,s1,n1,t1,b1,l1⟩⟩:=f1
   obtain ⟨nm2,hd2,wt2,ea2,⟨k2,s2,n2,t2,b2,l2⟩⟩:=f2
   obtain ⟨ye1,yb1⟩:=xf
   obtain ⟨ye2,yb2⟩:=yf
   simp only [ndV,RulA.cells,FrmA.cells,SlA.val,Frm.kind,Frm.name,Frm.n,Frm.terms,Frm.binds,Frm.l] at HCC hxs hys HNE HEQ HE1 HE2 HG1 HG2 hle
   have HSS:Hid (wr.drew.cell? ⟨x.b,x.o+j*10,none⟩=some (.string ⟨nm1.toArray⟩)/\wr.drew.cell? ⟨x.b,x.o+j*10+1,none⟩=some (.bool hd1)/\wr.drew.cell? ⟨x.b,x.o+j*10+2,none⟩=some (.int .i64 wt1)/\wr.drew.cell? ⟨x.b,x.o+j*10+3,none⟩=some (.slice ye1.a ea1.length ye1.cap)/\wr.drew.cell? ⟨x.b,x.o+j*10+4,none⟩=some (.int .i64 k1)/\wr.drew.cell? ⟨x.b,x.o+j*10+5,none⟩=some (.string ⟨s1.toArray⟩)/\wr.drew.cell? ⟨x.b,x.o+j*10+6,none⟩=some (.int .i64 n1)/\wr.drew.cell? ⟨x.b,x.o+j*10+7,none⟩=some (.slice yb1.t.a t1.length yb1.t.cap)/\wr.drew.cell? ⟨x.b,x.o+j*10+8,none⟩=some (.slice yb1.b.a b1.length yb1.b.cap)/\wr.drew.cell? ⟨x.b,x.o+j*10+9,none⟩=some (.slice yb1.l.a l1.length yb1.l.cap)/\wr.drew.cell? ⟨y.b,y.o+j*10,none⟩=some (.string ⟨nm2.toArray⟩)/\wr.drew.cell? ⟨y.b,y.o+j*10+1,none⟩=some (.bool hd2)/\wr.drew.cell? ⟨y.b,y.o+j*10+2,none⟩=some (.int .i64 wt2)/\wr.drew.cell? ⟨y.b,y.o+j*10+3,none⟩=some (.slice ye2.a ea2.length ye2.cap)/\wr.drew.cell? ⟨y.b,y.o+j*10+4,none⟩=some (.int .i64 k2)/\wr.drew.cell? ⟨y.b,y.o+j*10+5,none⟩=some (.string ⟨s2.toArray⟩)/\wr.drew.cell? ⟨y.b,y.o+j*10+6,none⟩=some (.int .i64 n2)/\wr.drew.cell? ⟨y.b,y.o+j*10+7,none⟩=some (.slice yb2.t.a t2.length yb2.t.cap)/\wr.drew.cell? ⟨y.b,y.o+j*10+8,none⟩=some (.slice yb2.b.a b2.length yb2.b.cap)/\wr.drew.cell? ⟨y.b,y.o+j*10+9,none⟩=some (.slice yb2.l.a l2.length yb2.l.cap)):=Lh (by
    obtain ⟨e0,e1,e2,e3,e4,e5,e6,e7,e8,e9⟩:=hxs.ten
    obtain ⟨f0,f1,f2,f3,f4,f5,f6,f7,f8,f9⟩:=hys.ten
    exact ⟨e0,e1,e2,e3,e4,e5,e6,e7,e8,e9,f0,f1,f2,f3,f4,f5,f6,f7,f8,f9⟩)
   have HBS:Hid (∀ W':World,Below wr.heap.size wr W'->(fun w'=>w'.cell? ⟨x.b,x.o+j*10,none⟩=some (.string ⟨nm1.toArray⟩)/\w'.cell? ⟨x.b,x.o+j*10+1,none⟩=some (.bool hd1)/\w'.cell? ⟨x.b,x.o+j*10+2,none⟩=some (.int .i64 wt1)/\w'.cell? ⟨x.b,x.o+j*10+3,none⟩=some (.slice ye1.a ea1.length ye1.cap)/\w'.cell? ⟨x.b,x.o+j*10+4,none⟩=some (.int .i64 k1)/\w'.cell? ⟨x.b,x.o+j*10+5,none⟩=some (.string ⟨s1.toArray⟩)/\w'.cell? ⟨x.b,x.o+j*10+6,none⟩=some (.int .i64 n1)/\w'.cell? ⟨x.b,x.o+j*10+7,none⟩=some (.slice yb1.t.a t1.length yb1.t.cap)/\w'.cell? ⟨x.b,x.o+j*10+8,none⟩=some (.slice yb1.b.a b1.length yb1.b.cap)/\w'.cell? ⟨x.b,x.o+j*10+9,none⟩=some (.slice yb1.l.a l1.length yb1.l.cap)/\w'.cell? ⟨y.b,y.o+j*10,none⟩=some (.string ⟨nm2.toArray⟩)/\w'.cell? ⟨y.b,y.o+j*10+1,none⟩=some (.bool hd2)/\w'.cell? ⟨y.b,y.o+j*10+2,none⟩=some (.int .i64 wt2)/\w'.cell? ⟨y.b,y.o+j*10+3,none⟩=some (.slice ye2.a ea2.length ye2.cap)/\w'.cell? ⟨y.b,y.o+j*10+4,none⟩=some (.int .i64 k2)/\w'.cell? ⟨y.b,y.o+j*10+5,none⟩=some (.string ⟨s2.toArray⟩)/\w'.cell? ⟨y.b,y.o+j*10+6,none⟩=some (.int .i64 n2)/\w'.cell? ⟨y.b,y.o+j*10+7,none⟩=some (.slice yb2.t.a t2.length yb2.t.cap)/\w'.cell? ⟨y.b,y.o+j*10+8,none⟩=some (.slice yb2.b.a b2.length yb2.b.cap)/\w'.cell? ⟨y.b,y.o+j*10+9,none⟩=some (.slice yb2.l.a l2.length yb2.l.cap)) W'):=Lh (fun W' hW=>by
    have key:∀ (p:Addr) (v:Value),wr.drew.cell? p=some v->W'.cell? p=some v:=fun p v hp=>(hW.cell (World.block_lt_of_cell? wr.drew p hp)).trans hp
    obtain ⟨e0,e1,e2,e3,e4,e5,e6,e7,e8,e9,f0,f1,f2,f3,f4,f5,f6,f7,f8,f9⟩:=HSS.out
    exact ⟨key _ _ e0,key _ _ e1,key _ _ e2,key _ _ e3,key _ _ e4,key _ _ e5,key _ _ e6,key _ _ e7,key _ _ e8,key _ _ e9,key _ _ f0,key _ _ f1,key _ _ f2,key _ _ f3,key _ _ f4,key _ _ f5,key _ _ f6,key _ _ f7,key _ _ f8,key _ _ f9⟩)
   have HBA1:=Lh (fun (o:Obj)=>((Below.refl wr.heap.size wr).alloc (Nat.le_refl _) o).drew)
   have HBA2:=Lh (fun (o o':Obj)=>(((Below.refl wr.heap.size wr).alloc (Nat.le_refl _) o).alloc (by simp) o').drew)
   clear hxs hys
   go_wp2_with fail
   refine wp_region_U 11 (S:=fun w'=>w'.cell? ⟨x.b,x.o+j*10,none⟩=some (.string ⟨nm1.toArray⟩)/\w'.cell? ⟨x.b,x.o+j*10+1,none⟩=some (.bool hd1)/\w'.cell? ⟨x.b,x.o+j*10+2,none⟩=some (.int .i64 wt1)/\w'.cell? ⟨x.b,x.o+j*10+3,none⟩=some (.slice ye1.a ea1.length ye1.cap)/\w'.cell? ⟨x.b,x.o+j*10+4,none⟩=some (.int .i64 k1)/\w'.cell? ⟨x.b,x.o+j*10+5,none⟩=some (.string ⟨s1.toArray⟩)/\w'.cell? ⟨x.b,x.o+j*10+6,none⟩=some (.int .i64 n1)/\w'.cell? ⟨x.b,x.o+j*10+7,none⟩=some (.slice yb1.t.a t1.length yb1.t.cap)/\w'.cell? ⟨x.b,x.o+j*10+8,none⟩=some (.slice yb1.b.a b1.length yb1.b.cap)/\w'.cell? ⟨x.b,x.o+j*10+9,none⟩=some (.slice yb1.l.a l1.length yb1.l.cap)/\w'.cell? ⟨y.b,y.o+j*10,none⟩=some (.string ⟨nm2.toArray⟩)/\w'.cell? ⟨y.b,y.o+j*10+1,none⟩=some (.bool hd2)/\w'.cell? ⟨y.b,y.o+j*10+2,none⟩=some (.int .i64 wt2)/\w'.cell? ⟨y.b,y.o+j*10+3,none⟩=some (.slice ye2.a ea2.length ye2.cap)/\w'.cell? ⟨y.b,y.o+j*10+4,none⟩=some (.int .i64 k2)/\w'.cell? ⟨y.b,y.o+j*10+5,none⟩=some (.string ⟨s2.toArray⟩)/\w'.cell? ⟨y.b,y.o+j*10+6,none⟩=some (.int .i64 n2)/\w'.cell? ⟨y.b,y.o+j*10+7,none⟩=some (.slice yb2.t.a t2.length yb2.t.cap)/\w'.cell? ⟨y.b,y.o+j*10+8,none⟩=some (.slice yb2.b.a b2.length yb2.b.cap)/\w'.cell? ⟨y.b,y.o+j*10+9,none⟩=some (.slice yb2.l.a l2.length yb2.l.cap)) (by kernel_rfl) HSS.out (fun hHeld=>?_)
   refine tkU (i:=0) rfl hHeld ?_
   try simp only [Act.put,ub1,ub2,ub3]
   refine tkU (i:=1) rfl hHeld ?_
   try simp only [Act.put,ub1,ub2,ub3]
   refine tkU (i:=2) rfl hHeld ?_
   try simp only [Act.put,ub1,ub2,ub3]
   refine tkU (i:=3) rfl hHeld ?_
   try simp only [Act.put,ub1,ub2,ub3]
   refine tkU (i:=4) rfl hHeld ?_
   try simp only [Act.put,ub1,ub2,ub3]
   refine tkU (i:=5) rfl hHeld ?_
   try simp only [Act.put,ub1,ub2,ub3]
   refine tkU (i:=6) rfl hHeld ?_
   try simp only [Act.put,ub1,ub2,ub3]
   refine tkU (i:=7) rfl hHeld ?_
   try simp only [Act.put,ub1,ub2,ub3]
   refine ready_U (rs:=[8,9]) (by kernel_rfl) (by simp) ?_
   refine cons_U rfl (fun K hK=>?_) (cons_U rfl (fun K hK=>?_) nil_U)
   ·go_simp
    refine hK.out _ _ ?_ (fun hHeld2=>?_)
    ·exact HBS.out _ (HBA1.out _)
    clear hK K hHeld
    have hHeld:=hHeld2
    clear hHeld2
    try simp only [Act.put,ub1,ub2,ub3]
    refine ready_U (rs:=[9]) (by kernel_rfl) (by simp) ?_
    refine cons_U rfl (fun K hK=>?_) nil_U
    go_simp
    refine hK.out _ _ ?_ (fun hHeld2=>?_)
    ·exact HBS.out _ (HBA2.out _ _)
    clear hK K hHeld
    have hHeld:=hHeld2
    clear hHeld2
    try simp only [Act.put,ub1,ub2,ub3]
    refine ready_U (rs:=[10]) (by kernel_rfl) (by simp) ?_
    refine cons_U rfl (fun K hK=>?_) nil_U
    go_simp
    refine hK.out _ _ ?_ (fun hHeld2=>?_)
    ·exact HBS.out _ (HBA2.out _ _)
    clear hK K hHeld
    have hHeld:=hHeld2
    clear hHeld2
    try simp only [Act.put,ub1,ub2,ub3]
    refine ready_U (rs:=[11]) (by kernel_rfl) (by simp) ?_
    refine cons_V rfl (by kernel_rfl) (fun K hK=>?_) nil_U
    go_simp
    refine hK.out _ _ ?_
    clear hK K
    try simp only [Act.put,ub1,ub2,ub3]
    refine done_U (by kernel_rfl) ?_ _
    obtain ⟨W6,hW6⟩:∃ W6,W6=((wr.alloc (.cells #[.string ⟨nm1.toArray⟩,.bool hd1,.int .i64 wt1,.slice ye1.a ea1.length ye1.cap,.int .i64 k1,.string ⟨s1.toArray⟩,.int .i64 n1,.slice yb1.t.a t1.length yb1.t.cap,.slice yb1.b.a b1.length yb1.b.cap,.slice yb1.l.a l1.length yb1.l.cap] 64)).alloc (.cells #[.string ⟨nm2.toArray⟩,.bool hd2,.int .i64 wt2,.slice ye2.a ea2.length ye2.cap,.int .i64 k2,.string ⟨s2.toArray⟩,.int .i64 n2,.slice yb2.t.a t2.length yb2.t.cap,.slice yb2.b.a b2.length yb2.b.cap,.slice yb2.l.a l2.length yb2.l.cap] 64)).drew:=⟨_,rfl⟩
    have hb6:Below wr.heap.size wr W6:=by rw [hW6];exact (((Below.refl _ _).alloc (Nat.le_refl _) _).alloc (by simp) _).drew
    have u6:W6.heap[wr.heap.size]?=some (.cells #[.string ⟨nm1.toArray⟩,.bool hd1,.int .i64 wt1,.slice ye1.a ea1.length ye1.cap,.int .i64 k1,.string ⟨s1.toArray⟩,.int .i64 n1,.slice yb1.t.a t1.length yb1.t.cap,.slice yb1.b.a b1.length yb1.b.cap,.slice yb1.l.a l1.length yb1.l.cap] 64 (0,0)):=by rw [hW6];show ((wr.alloc _).alloc _).heap[_]?=_;rw [heap_get,if_neg (by simp),heap_get,if_pos (by simp)]
    have u7:W6.heap[wr.heap.size+1]?=some (.cells #[.string ⟨nm2.toArray⟩,.bool hd2,.int .i64 wt2,.slice ye2.a ea2.length ye2.cap,.int .i64 k2,.string ⟨s2.toArray⟩,.int .i64 n2,.slice yb2.t.a t2.length yb2.t.cap,.slice yb2.b.a b2.length yb2.b.cap,.slice yb2.l.a l2.length yb2.l.cap] 64 (0,0)):=by rw [hW6];show ((wr.alloc _).alloc _).heap[_]?=_;rw [heap_get,if_pos (by simp)]
    have HU:=Lh (aI u6 (aI u7 hb6))
    have HW6:=Lh hW6
    have HK:Hid (∀ W':World,Below W6.heap.size W6 W'->Below w.heap.size w W'/\W'.heap[wr.heap.size]?=some (.cells #[.string ⟨nm1.toArray⟩,.bool hd1,.int .i64 wt1,.slice ye1.a ea1.length ye1.cap,.int .i64 k1,.string ⟨s1.toArray⟩,.int .i64 n1,.slice yb1.t.a t1.length yb1.t.cap,.slice yb1.b.a b1.length yb1.b.cap,.slice yb1.l.a l1.length yb1.l.cap] 64 (0,0))/\W'.heap[wr.heap.size+1]?=some (.cells #[.string ⟨nm2.toArray⟩,.bool hd2,.int .i64 wt2,.slice ye2.a ea2.length ye2.cap,.int .i64 k2,.string ⟨s2.toArray⟩,.int .i64 n2,.slice yb2.t.a t2.length yb2.t.cap,.slice yb2.b.a b2.length yb2.b.cap,.slice yb2.l.a l2.length yb2.l.cap] 64 (0,0))):=Lh (fun W' hW=>⟨(HB.out.trans (HU.out.2.2.mono HB.out.size)).trans (hW.mono (Nat.le_trans HB.out.size HU.out.2.2.size)),(hW.block _ (gS HU.out.1).1).trans HU.out.1,(hW.block _ (gS HU.out.2.1).1).trans HU.out.2.1⟩)
    obtain ⟨hw6,v6,v7⟩:=HK.out W6 (Below.refl _ _)
    have HD6:=Lh hw6
    have p0:W6.cell? ⟨wr.heap.size,0,none⟩=some (.string ⟨nm1.toArray⟩):=cH v6 rfl
    have p1:W6.cell? ⟨wr.heap.size,1,none⟩=some (.bool hd1):=cH v6 rfl
    have p2:W6.cell? ⟨wr.heap.size,2,none⟩=some (.int .i64 wt1):=cH v6 rfl
    have p3:W6.cell? ⟨wr.heap.size,3,none⟩=some (.slice ye1.a ea1.length ye1.cap):=cH v6 rfl
    have p4:W6.cell? ⟨wr.heap.size,4,none⟩=some (.int .i64 k1):=cH v6 rfl
    have p5:W6.cell? ⟨wr.heap.size,5,none⟩=some (.string ⟨s1.toArray⟩):=cH v6 rfl
    have p6:W6.cell? ⟨wr.heap.size,6,none⟩=some (.int .i64 n1):=cH v6 rfl
    have p7:W6.cell? ⟨wr.heap.size,7,none⟩=some (.slice yb1.t.a t1.length yb1.t.cap):=cH v6 rfl
    have p8:W6.cell? ⟨wr.heap.size,8,none⟩=some (.slice yb1.b.a b1.length yb1.b.cap):=cH v6 rfl
    have p9:W6.cell? ⟨wr.heap.size,9,none⟩=some (.slice yb1.l.a l1.length yb1.l.cap):=cH v6 rfl
    have q0:W6.cell? ⟨wr.heap.size+1,0,none⟩=some (.string ⟨nm2.toArray⟩):=cH v7 rfl
    have q1:W6.cell? ⟨wr.heap.size+1,1,none⟩=some (.bool hd2):=cH v7 rfl
    have q2:W6.cell? ⟨wr.heap.size+1,2,none⟩=some (.int .i64 wt2):=cH v7 rfl
    have q3:W6.cell? ⟨wr.heap.size+1,3,none⟩=some (.slice ye2.a ea2.length ye2.cap):=cH v7 rfl
    have q4:W6.cell? ⟨wr.heap.size+1,4,none⟩=some (.int .i64 k2):=cH v7 rfl
    have q5:W6.cell? ⟨wr.heap.size+1,5,none⟩=some (.string ⟨s2.toArray⟩):=cH v7 rfl
    have q6:W6.cell? ⟨wr.heap.size+1,6,none⟩=some (.int .i64 n2):=cH v7 rfl
    have q7:W6.cell? ⟨wr.heap.size+1,7,none⟩=some (.slice yb2.t.a t2.length yb2.t.cap):=cH v7 rfl
    have q8:W6.cell? ⟨wr.heap.size+1,8,none⟩=some (.slice yb2.b.a b2.length yb2.b.cap):=cH v7 rfl
    have q9:W6.cell? ⟨wr.heap.size+1,9,none⟩=some (.slice yb2.l.a l2.length yb2.l.cap):=cH v7 rfl
    rw [<- hW6]
    clear hW6 hb6 u6 u7 hw6 v6 v7
    by_cases h:nm1=nm2
    rotate_left
    ·have h2:(nm1==nm2)=false:=by simpa using h
     have HS:Hid (R=false):=Lh (HNE.out (.inl h))
     clear HNE HEQ HCC HE1 HE2
     go_wp2_with fail
     go_ret
     exact ⟨ret_bool HS.out.symm,HD6.out⟩
    subst h
    by_cases h:hd1=hd2
    rotate_left
    ·have h2:(hd1==hd2)=false:=by simpa using h
     have HS:Hid (R=false):=Lh (HNE.out (.inr (.inl h)))
     clear HNE HEQ HCC HE1 HE2
     go_wp2_with fail
     go_ret
     exact ⟨ret_bool HS.out.symm,HD6.out⟩
    subst h
    by_cases h:wt1=wt2
    rotate_left
    ·have h2:(wt1==wt2)=false:=by simpa using h
     have HS:Hid (R=false):=Lh (HNE.out (.inr (.inr (.inl h))))
     clear HNE HEQ HCC HE1 HE2
     go_wp2_with fail
     go_ret
     exact ⟨ret_bool HS.out.symm,HD6.out⟩
    subst h
    by_cases hlen:ea1.length=ea2.length
    rotate_left
    ·have HS:Hid (R=false):=Lh (HNE.out (.inr (.inr (.inr (.inl (fun h=>hlen (by rw [h])))))))
     clear HNE HEQ HCC HE1 HE2 HK HU HW6 HG1 HG2
     generalize ea1.length=m1 at *
     generalize ea2.length=m2 at *
     have h2:((m1:Int)==(m2:Int))=false:=by simp;omega
     go_wp2_with fail
     go_ret
     exact ⟨ret_bool HS.out.symm,HD6.out⟩
    obtain ⟨ne,hne⟩:∃ ne,ne=ea1.length:=⟨_,rfl⟩
    have hneb:ne<=1500000:=by rw [hne];exact hle
    have HNN:=Lh (aI hne (hlen.symm.trans hne.symm))
    rw [<- hlen,<- hne] at HK
    rw [<- hne] at p3
    rw [<- hlen,<- hne] at q3
    have HC:=Lh (HCC.out W6 HD6.out)
    clear hne hlen
    go_wp2_with fail
    refine HC.out.mono ?_
    rintro e w7 ⟨rfl,hb7⟩
    obtain ⟨hw7,v6,v7⟩:=HK.out w7 hb7
    have HB7:=Lh (aI hb7 hw7)
    clear p0 q0 p1 q1 p2 q2 p3 q3 p4 q4 p5 q5 p6 q6 p7 q7 p8 q8 p9 q9
    clear hb7 hw7
    cases q
    ·have HS:Hid (R=false):=Lh (HNE.out (.inr (.inr (.inr (.inr (by first | rfl | trivial))))))
     clear HNE HEQ HCC HE1 HE2 v6 v7
     go_wp2_with fail
     go_ret
     exact ⟨ret_bool HS.out.symm,HB7.out.2⟩
    have p3:w7.cell? ⟨wr.heap.size,3,none⟩=some (.slice ye1.a ne ye1.cap):=cH v6 rfl
    clear v6 v7
    go_wp2_with fail
    clear p3
    go_loopw [66] (fun i wq=>∃ i2:Nat,i2<=ne/\i=.int .i64 i2/\Hid (Below W6.heap.size W6 wq)/\Hid (ea1.take i2=ea2.take i2)) (fun i _=>ne - (intOf i).toNat)
    case atStart=>exact ⟨0,Nat.zero_le _,rfl,Lh HB7.out.1,Lh rfl⟩
    case round =>
     obtain ⟨i2,hi2,rfl,HBQ,HTK⟩:=hrel
     skip
     obtain ⟨hwq,v6,v7⟩:=HK.out _ HBQ.out
     have HWQ:=Lh hwq
     have p3:=cH (i:=3) v6 (v:=.slice ye1.a ne ye1.cap) rfl
     have q3:=cH (i:=3) v7 (v:=.slice ye2.a ne ye2.cap) rfl
     clear v6 v7
     by_cases hlt2:i2<ne
     ·obtain ⟨hxa2,xl2⟩:=HG1.out (by have:=HNN.out.1;omega)
      obtain ⟨hya2,yl2⟩:=HG2.out (by have:=HNN.out.2;omega)
      rw [hxa2] at p3
      rw [hya2] at q3
      have hj1:i2<ea1.length:=by have:=HNN.out.1;omega
      have hj2:i2<ea2.length:=by have:=HNN.out.2;omega
      have xq:=HE1.out i2 hj1
      have yq:=HE2.out i2 hj2
      have xc0:=(hwq.cell (p:=⟨ye1.b,ye1.o+i2*2,none⟩) xl2).trans xq.1
      have xc1:=(hwq.cell (p:=⟨ye1.b,ye1.o+i2*2+1,none⟩) xl2).trans xq.2
      have yc0:=(hwq.cell (p:=⟨ye2.b,ye2.o+i2*2,none⟩) yl2).trans yq.1
      have yc1:=(hwq.cell (p:=⟨ye2.b,ye2.o+i2*2+1,none⟩) yl2).trans yq.2
      have HST:=Lh (fun (h:ea1[i2]=ea2[i2])=>(show ea1.take (i2+1)=ea2.take (i2+1) by rw [List.take_succ_eq_append_getElem hj1,List.take_succ_eq_append_getElem hj2,HTK.out,h]))
      have HNB:=Lh (fun (h:ea1[i2] ≠ ea2[i2])=>HNE.out (.inr (.inr (.inr (.inl (fun h'=>h (by subst h';rfl)))))))
      clear xq yq hxa2 hya2 hwq
      generalize ea1[i2]=a at *
      generalize ea2[i2]=b at *
      clear hj1 hj2
      obtain ⟨as1,ak1⟩:=a
      obtain ⟨as2,ak2⟩:=b
      simp only at xc0 yc0 xc1 yc1
      by_cases hab:(⟨as1,ak1⟩:Bnd)=⟨as2,ak2⟩
      ·have HS:=Lh (HST.out hab)
       clear HST HNB
       cases hab
       go_wp2_with fail
       go_region
       go_wp2_with fail
       exact ⟨⟨i2+1,by omega,by go_num,Lh HBQ.out.drew,HS⟩,by simp [intOf];omega⟩
      ·have HS:=Lh (HNB.out hab)
       clear HST HNB
       by_cases hs:as1=as2
       rotate_left
       ·clear hab
        have hs2:(as1==as2)=false:=by simpa using hs
        go_wp2_with fail
        go_region
        go_wp2_with fail
        go_ret
        exact ⟨ret_bool HS.out.symm,HWQ.out.drew⟩
       subst hs
       have hk:¬ ak1=ak2:=fun h=>hab (by subst h;rfl)
       clear hab
       have hk2:(ak1==ak2)=false:=by simpa using hk
       go_wp2_with fail
       go_region
       go_wp2_with fail
       go_ret
       exact ⟨ret_bool HS.out.symm,HWQ.out.drew⟩
     ·have HEE:Hid (ea1=ea2):=Lh (by
       have h:=HTK.out
       rwa [show i2=ea1.length by have:=HNN.out.1;omega,List.take_length,show ea1.length=ea2.length by have:=HNN.out.1;have:=HNN.out.2;omega,List.take_length] at h)
      have HS:=Lh (HEQ.out (by first | rfl | trivial) (by first | rfl | trivial) (by first | rfl | trivial) HEE.out (by first | rfl | trivial))
      clear hwq
      go_wp2_with fail
      exact ⟨⟨j+1,by omega,by go_num,HWQ,HS⟩,by simp [intOf];omega⟩
   ·go_simp
    refine hK.out _ _ ?_ (fun hHeld2=>?_)
    ·exact HBS.out _ (HBA1.out _)
    clear hK K hHeld
    have hHeld:=hHeld2
    clear hHeld2
    try simp only [Act.put,ub1,ub2,ub3]
    refine ready_U (rs:=[8]) (by kernel_rfl) (by simp) ?_
    refine cons_U rfl (fun K hK=>?_) nil_U
    go_simp
    refine hK.out _ _ ?_ (fun hHeld2=>?_)
    ·exact HBS.out _ (HBA2.out _ _)
    clear hK K hHeld
    have hHeld:=hHeld2
    clear hHeld2
    try simp only [Act.put,ub1,ub2,ub3]
    refine ready_U (rs:=[10]) (by kernel_rfl) (by simp) ?_
    refine cons_U rfl (fun K hK=>?_) nil_U
    go_simp
    refine hK.out _ _ ?_ (fun hHeld2=>?_)
    ·exact HBS.out _ (HBA2.out _ _)
    clear hK K hHeld
    have hHeld:=hHeld2
    clear hHeld2
    try simp only [Act.put,ub1,ub2,ub3]
    refine ready_U (rs:=[11]) (by kernel_rfl) (by simp) ?_
    refine cons_V rfl (by kernel_rfl) (fun K hK=>?_) nil_U
    go_simp
    refine hK.out _ _ ?_
    clear hK K
    try simp only [Act.put,ub1,ub2,ub3]
    refine done_U (by kernel_rfl) ?_ _
    obtain ⟨W6,hW6⟩:∃ W6,W6=((wr.alloc (.cells #[.string ⟨nm2.toArray⟩,.bool hd2,.int .i64 wt2,.slice ye2.a ea2.length ye2.cap,.int .i64 k2,.string ⟨s2.toArray⟩,.int .i64 n2,.slice yb2.t.a t2.length yb2.t.cap,.slice yb2.b.a b2.length yb2.b.cap,.slice yb2.l.a l2.length yb2.l.cap] 64)).alloc (.cells #[.string ⟨nm1.toArray⟩,.bool hd1,.int .i64 wt1,.slice ye1.a ea1.length ye1.cap,.int .i64 k1,.string ⟨s1.toArray⟩,.int .i64 n1,.slice yb1.t.a t1.length yb1.t.cap,.slice yb1.b.a b1.length yb1.b.cap,.slice yb1.l.a l1.length yb1.l.cap] 64)).drew:=⟨_,rfl⟩
    have hb6:Below wr.heap.size wr W6:=by rw [hW6];exact (((Below.refl _ _).alloc (Nat.le_refl _) _).alloc (by simp) _).drew
    have u6:W6.heap[wr.heap.size+1]?=some (.cells #[.string ⟨nm1.toArray⟩,.bool hd1,.int .i64 wt1,.slice ye1.a ea1.length ye1.cap,.int .i64 k1,.string ⟨s1.toArray⟩,.int .i64 n1,.slice yb1.t.a t1.length yb1.t.cap,.slice yb1.b.a b1.length yb1.b.cap,.slice yb1.l.a l1.length yb1.l.cap] 64 (0,0)):=by rw [hW6];show ((wr.alloc _).alloc _).heap[_]?=_;rw [heap_get,if_pos (by simp)]
    have u7:W6.heap[wr.heap.size]?=some (.cells #[.string ⟨nm2.toArray⟩,.bool hd2,.int .i64 wt2,.slice ye2.a ea2.length ye2.cap,.int .i64 k2,.string ⟨s2.toArray⟩,.int .i64 n2,.slice yb2.t.a t2.length yb2.t.cap,.slice yb2.b.a b2.length yb2.b.cap,.slice yb2.l.a l2.length yb2.l.cap] 64 (0,0)):=by rw [hW6];show ((wr.alloc _).alloc _).heap[_]?=_;rw [heap_get,if_neg (by simp),heap_get,if_pos (by simp)]
    have HU:=Lh (aI u6 (aI u7 hb6))
    have HW6:=Lh hW6
    have HK:Hid (∀ W':World,Below W6.heap.size W6 W'->Below w.heap.size w W'/\W'.heap[wr.heap.size+1]?=some (.cells #[.string ⟨nm1.toArray⟩,.bool hd1,.int .i64 wt1,.slice ye1.a ea1.length ye1.cap,.int .i64 k1,.string ⟨s1.toArray⟩,.int .i64 n1,.slice yb1.t.a t1.length yb1.t.cap,.slice yb1.b.a b1.length yb1.b.cap,.slice yb1.l.a l1.length yb1.l.cap] 64 (0,0))/\W'.heap[wr.heap.size]?=some (.cells #[.string ⟨nm2.toArray⟩,.bool hd2,.int .i64 wt2,.slice ye2.a ea2.length ye2.cap,.int .i64 k2,.string ⟨s2.toArray⟩,.int .i64 n2,.slice yb2.t.a t2.length yb2.t.cap,.slice yb2.b.a b2.length yb2.b.cap,.slice yb2.l.a l2.length yb2.l.cap] 64 (0,0))):=Lh (fun W' hW=>⟨(HB.out.trans (HU.out.2.2.mono HB.out.size)).trans (hW.mono (Nat.le_trans HB.out.size HU.out.2.2.size)),(hW.block _ (gS HU.out.1).1).trans HU.out.1,(hW.block _ (gS HU.out.2.1).1).trans HU.out.2.1⟩)
    obtain ⟨hw6,v6,v7⟩:=HK.out W6 (Below.refl _ _)
    have HD6:=Lh hw6
    have p0:W6.cell? ⟨wr.heap.size+1,0,none⟩=some (.string ⟨nm1.toArray⟩):=cH v6 rfl
    have p1:W6.cell? ⟨wr.heap.size+1,1,none⟩=some (.bool hd1):=cH v6 rfl
    have p2:W6.cell? ⟨wr.heap.size+1,2,none⟩=some (.int .i64 wt1):=cH v6 rfl
    have p3:W6.cell? ⟨wr.heap.size+1,3,none⟩=some (.slice ye1.a ea1.length ye1.cap):=cH v6 rfl
    have p4:W6.cell? ⟨wr.heap.size+1,4,none⟩=some (.int .i64 k1):=cH v6 rfl
    have p5:W6.cell? ⟨wr.heap.size+1,5,none⟩=some (.string ⟨s1.toArray⟩):=cH v6 rfl
    have p6:W6.cell? ⟨wr.heap.size+1,6,none⟩=some (.int .i64 n1):=cH v6 rfl
    have p7:W6.cell? ⟨wr.heap.size+1,7,none⟩=some (.slice yb1.t.a t1.length yb1.t.cap):=cH v6 rfl
    have p8:W6.cell? ⟨wr.heap.size+1,8,none⟩=some (.slice yb1.b.a b1.length yb1.b.cap):=cH v6 rfl
    have p9:W6.cell? ⟨wr.heap.size+1,9,none⟩=some (.slice yb1.l.a l1.length yb1.l.cap):=cH v6 rfl
    have q0:W6.cell? ⟨wr.heap.size,0,none⟩=some (.string ⟨nm2.toArray⟩):=cH v7 rfl
    have q1:W6.cell? ⟨wr.heap.size,1,none⟩=some (.bool hd2):=cH v7 rfl
    have q2:W6.cell? ⟨wr.heap.size,2,none⟩=some (.int .i64 wt2):=cH v7 rfl
    have q3:W6.cell? ⟨wr.heap.size,3,none⟩=some (.slice ye2.a ea2.length ye2.cap):=cH v7 rfl
    have q4:W6.cell? ⟨wr.heap.size,4,none⟩=some (.int .i64 k2):=cH v7 rfl
    have q5:W6.cell? ⟨wr.heap.size,5,none⟩=some (.string ⟨s2.toArray⟩):=cH v7 rfl
    have q6:W6.cell? ⟨wr.heap.size,6,none⟩=some (.int .i64 n2):=cH v7 rfl
    have q7:W6.cell? ⟨wr.heap.size,7,none⟩=some (.slice yb2.t.a t2.length yb2.t.cap):=cH v7 rfl
    have q8:W6.cell? ⟨wr.heap.size,8,none⟩=some (.slice yb2.b.a b2.length yb2.b.cap):=cH v7 rfl
    have q9:W6.cell? ⟨wr.heap.size,9,none⟩=some (.slice yb2.l.a l2.length yb2.l.cap):=cH v7 rfl
    rw [<- hW6]
    clear hW6 hb6 u6 u7 hw6 v6 v7
    by_cases h:nm1=nm2
    rotate_left
    ·have h2:(nm1==nm2)=false:=by simpa using h
     have HS:Hid (R=false):=Lh (HNE.out (.inl h))
     clear HNE HEQ HCC HE1 HE2
     go_wp2_with fail
     go_ret
     exact ⟨ret_bool HS.out.symm,HD6.out⟩
    subst h
    by_cases h:hd1=hd2
    rotate_left
    ·have h2:(hd1==hd2)=false:=by simpa using h
     have HS:Hid (R=false):=Lh (HNE.out (.inr (.inl h)))
     clear HNE HEQ HCC HE1 HE2
     go_wp2_with fail
     go_ret
     exact ⟨ret_bool HS.out.symm,HD6.out⟩
    subst h
    by_cases h:wt1=wt2
    rotate_left
    ·have h2:(wt1==wt2)=false:=by simpa using h
     have HS:Hid (R=false):=Lh (HNE.out (.inr (.inr (.inl h))))
     clear HNE HEQ HCC HE1 HE2
     go_wp2_with fail
     go_ret
     exact ⟨ret_bool HS.out.symm,HD6.out⟩
    subst h
    by_cases hlen:ea1.length=ea2.length
    rotate_left
    ·have HS:Hid (R=false):=Lh (HNE.out (.inr (.inr (.inr (.inl (fun h=>hlen (by rw [h])))))))
     clear HNE HEQ HCC HE1 HE2 HK HU HW6 HG1 HG2
     generalize ea1.length=m1 at *
     generalize ea2.length=m2 at *
     have h2:((m1:Int)==(m2:Int))=false:=by simp;omega
     go_wp2_with fail
     go_ret
     exact ⟨ret_bool HS.out.symm,HD6.out⟩
    obtain ⟨ne,hne⟩:∃ ne,ne=ea1.length:=⟨_,rfl⟩
    have hneb:ne<=1500000:=by rw [hne];exact hle
    have HNN:=Lh (aI hne (hlen.symm.trans hne.symm))
    rw [<- hlen,<- hne] at HK
    rw [<- hne] at p3
    rw [<- hlen,<- hne] at q3
    have HC:=Lh (HCC.out W6 HD6.out)
    clear hne hlen
    go_wp2_with fail
    refine HC.out.mono ?_
    rintro e w7 ⟨rfl,hb7⟩
    obtain ⟨hw7,v6,v7⟩:=HK.out w7 hb7
    have HB7:=Lh (aI hb7 hw7)
    clear p0 q0 p1 q1 p2 q2 p3 q3 p4 q4 p5 q5 p6 q6 p7 q7 p8 q8 p9 q9
    clear hb7 hw7
    cases q
    ·have HS:Hid (R=false):=Lh (HNE.out (.inr (.inr (.inr (.inr (by first | rfl | trivial))))))
     clear HNE HEQ HCC HE1 HE2 v6 v7
     go_wp2_with fail
     go_ret
     exact ⟨ret_bool HS.out.symm,HB7.out.2⟩
    have p3:w7.cell? ⟨wr.heap.size+1,3,none⟩=some (.slice ye1.a ne ye1.cap):=cH v6 rfl
    clear v6 v7
    go_wp2_with fail
    clear p3
    go_loopw [66] (fun i wq=>∃ i2:Nat,i2<=ne/\i=.int .i64 i2/\Hid (Below W6.heap.size W6 wq)/\Hid (ea1.take i2=ea2.take i2)) (fun i _=>ne - (intOf i).toNat)
    case atStart=>exact ⟨0,Nat.zero_le _,rfl,Lh HB7.out.1,Lh rfl⟩
    case round =>
     obtain ⟨i2,hi2,rfl,HBQ,HTK⟩:=hrel
     skip
     obtain ⟨hwq,v6,v7⟩:=HK.out _ HBQ.out
     have HWQ:=Lh hwq
     have p3:=cH (i:=3) v6 (v:=.slice ye1.a ne ye1.cap) rfl
     have q3:=cH (i:=3) v7 (v:=.slice ye2.a ne ye2.cap) rfl
     clear v6 v7
     by_cases hlt2:i2<ne
     ·obtain ⟨hxa2,xl2⟩:=HG1.out (by have:=HNN.out.1;omega)
      obtain ⟨hya2,yl2⟩:=HG2.out (by have:=HNN.out.2;omega)
      rw [hxa2] at p3
      rw [hya2] at q3
      have hj1:i2<ea1.length:=by have:=HNN.out.1;omega
      have hj2:i2<ea2.length:=by have:=HNN.out.2;omega
      have xq:=HE1.out i2 hj1
      have yq:=HE2.out i2 hj2
      have xc0:=(hwq.cell (p:=⟨ye1.b,ye1.o+i2*2,none⟩) xl2).trans xq.1
      have xc1:=(hwq.cell (p:=⟨ye1.b,ye1.o+i2*2+1,none⟩) xl2).trans xq.2
      have yc0:=(hwq.cell (p:=⟨ye2.b,ye2.o+i2*2,none⟩) yl2).trans yq.1
      have yc1:=(hwq.cell (p:=⟨ye2.b,ye2.o+i2*2+1,none⟩) yl2).trans yq.2
      have HST:=Lh (fun (h:ea1[i2]=ea2[i2])=>(show ea1.take (i2+1)=ea2.take (i2+1) by rw [List.take_succ_eq_append_getElem hj1,List.take_succ_eq_append_getElem hj2,HTK.out,h]))
      have HNB:=Lh (fun (h:ea1[i2] ≠ ea2[i2])=>HNE.out (.inr (.inr (.inr (.inl (fun h'=>h (by subst h';rfl)))))))
      clear xq yq hxa2 hya2 hwq
      generalize ea1[i2]=a at *
      generalize ea2[i2]=b at *
      clear hj1 hj2
      obtain ⟨as1,ak1⟩:=a
      obtain ⟨as2,ak2⟩:=b
      simp only at xc0 yc0 xc1 yc1
      by_cases hab:(⟨as1,ak1⟩:Bnd)=⟨as2,ak2⟩
      ·have HS:=Lh (HST.out hab)
       clear HST HNB
       cases hab
       go_wp2_with fail
       go_region
       go_wp2_with fail
       exact ⟨⟨i2+1,by omega,by go_num,Lh HBQ.out.drew,HS⟩,by simp [intOf];omega⟩
      ·have HS:=Lh (HNB.out hab)
       clear HST HNB
       by_cases hs:as1=as2
       rotate_left
       ·clear hab
        have hs2:(as1==as2)=false:=by simpa using hs
        go_wp2_with fail
        go_region
        go_wp2_with fail
        go_ret
        exact ⟨ret_bool HS.out.symm,HWQ.out.drew⟩
       subst hs
       have hk:¬ ak1=ak2:=fun h=>hab (by subst h;rfl)
       clear hab
       have hk2:(ak1==ak2)=false:=by simpa using hk
       go_wp2_with fail
       go_region
       go_wp2_with fail
       go_ret
       exact ⟨ret_bool HS.out.symm,HWQ.out.drew⟩
     ·have HEE:Hid (ea1=ea2):=Lh (by
       have h:=HTK.out
       rwa [show i2=ea1.length by have:=HNN.out.1;omega,List.take_length,show ea1.length=ea2.length by have:=HNN.out.1;have:=HNN.out.2;omega,List.take_length] at h)
      have HS:=Lh (HEQ.out (by first | rfl | trivial) (by first | rfl | trivial) (by first | rfl | trivial) HEE.out (by first | rfl | trivial))
      clear hwq
      go_wp2_with fail
      exact ⟨⟨j+1,by omega,by go_num,HWQ,HS⟩,by simp [intOf];omega⟩
  ·have HS:Hid (R=true):=Lh (by
    rw [HT.out,List.drop_eq_nil_of_le (by have:=HN.out;omega),List.drop_eq_nil_of_le (by have:=HN.out;omega),rulsEq])
   have hbd:=HB.out
   go_wp2_with fail
   go_ret
   exact ⟨ret_bool HS.out.symm,hbd⟩
end Go.Proofs.YtpmalchlecnjbaaGreatDoor
/- syntax.Same. (written by tools/gen_rxm.py) -/
namespace Go.Proofs.YtpmalchlecnjbaaGreatDoor
open Go.RowKit Go.Chalk
attribute [local go_sem] Oper.semAt_some
theorem ssame1_any (f g:Rul) (x y:RulA) (w:World) (hx:RulIn w (·<w.heap.size) f x) (hy:RulIn w (·<w.heap.size) g y) (hf:RuFit f) :
  Calls Tryz.prog 65 #[.agg (x.cells f).toArray,.agg (y.cells g).toArray] w (Answers w (rulEq f g)):=by
 obtain ⟨B,hB⟩:∃ B,B=w.heap.size:=⟨_,rfl⟩
 obtain ⟨W2,hW2⟩:∃ W2,W2=(w.alloc (.cells (x.cells f).toArray 64)).alloc (.cells (y.cells g).toArray 64):=⟨_,rfl⟩
 have hb2:Below B w W2:=by rw [hW2,hB];exact (((Below.refl _ _).alloc (Nat.le_refl _) _).alloc (by simp) _)
 have kx:W2.heap[B]?=some (.cells (x.cells f).toArray 64 (0,0)):=by rw [hW2,hB,heap_get,if_neg (by simp),heap_get,if_pos (by simp)]
 have ky:W2.heap[B+1]?=some (.cells (y.cells g).toArray 64 (0,0)):=by rw [hW2,hB,heap_get,if_pos (by simp)]
 rw [hB] at hb2
 obtain ⟨re,hre⟩:∃ re,re=decide (f.each=g.each):=⟨_,rfl⟩
 obtain ⟨rb,hrb⟩:∃ rb,rb=frmEq f.body g.body:=⟨_,rfl⟩
 have HT:=Lh (fun (W:World) (hW:Below w.heap.size w W)=>eqBnd_any f.each g.each x.each y.each W (hx.each.later hW hW.size) (hy.each.later hW hW.size) (by have:=hf.len;omega))
 have HLL:=Lh (fun (W:World) (hW:Below w.heap.size w W)=>fsame_any _ f.body g.body W (Nat.le_refl _) hf.body x.body y.body (hx.body.later hW hW.size) (hy.body.later hW hW.size))
 have H2:=Lh (aI kx (aI ky hb2))
 have HW2:=Lh hW2
 have HB:=Lh hB
 obtain ⟨R,hR⟩:∃ R,R=rulEq f g:=⟨_,rfl⟩
 rw [<- hR]
 have HRN:Hid ((f.name ≠ g.name∨f.hard ≠ g.hard∨f.weight ≠ g.weight)->R=false):=Lh (fun h=>by
  rw [hR,Bool.eq_false_iff]
  intro h2
  rw [rulEq_iff] at h2
  subst h2
  simp at h)
 have HRR:Hid (f.name=g.name->f.hard=g.hard->f.weight=g.weight->R=(re&&rb)):=Lh (fun h1 h2 h3=>by
  rw [hR,hre,hrb,rulEq,decide_eq_true h1,decide_eq_true h2,decide_eq_true h3];rfl)
 rw [<- hre] at HT
 rw [<- hrb] at HLL
 clear hre hrb
 clear hx hy hf hb2 kx ky hW2 hB hR
 obtain ⟨nm1,hd1,wt1,ea1,⟨k1,s1,n1,t1,b1,l1⟩⟩:=f
 obtain ⟨nm2,hd2,wt2,ea2,⟨k2,s2,n2,t2,b2,l2⟩⟩:=g
 obtain ⟨ye1,yb1⟩:=x
 obtain ⟨ye2,yb2⟩:=y
 simp only [ndV,RulA.cells,FrmA.cells,SlA.val,Frm.kind,Frm.name,Frm.n,Frm.terms,Frm.binds,Frm.l] at HT HLL H2 HW2 HRN HRR ⊢
 have HK:Hid (∀ W':World,Below W2.heap.size W2 W'->Below w.heap.size w W'/\W'.heap[B]?=some (.cells #[.string ⟨nm1.toArray⟩,.bool hd1,.int .i64 wt1,.slice ye1.a ea1.length ye1.cap,.int .i64 k1,.string ⟨s1.toArray⟩,.int .i64 n1,.slice yb1.t.a t1.length yb1.t.cap,.slice yb1.b.a b1.length yb1.b.cap,.slice yb1.l.a l1.length yb1.l.cap] 64 (0,0))/\W'.heap[B+1]?=some (.cells #[.string ⟨nm2.toArray⟩,.bool hd2,.int .i64 wt2,.slice ye2.a ea2.length ye2.cap,.int .i64 k2,.string ⟨s2.toArray⟩,.int .i64 n2,.slice yb2.t.a t2.length yb2.t.cap,.slice yb2.b.a b2.length yb2.b.cap,.slice yb2.l.a l2.length yb2.l.cap] 64 (0,0))):=Lh (fun W' hW=>⟨H2.out.2.2.trans (hW.mono H2.out.2.2.size),(hW.block _ (gS H2.out.1).1).trans H2.out.1,(hW.block _ (gS H2.out.2.1).1).trans H2.out.2.1⟩)
 go_enter Tryz.func65,Tryz.ntmps65
 by_cases hk:nm1=nm2
 rotate_left
 ·have hk2:(nm1==nm2)=false:=by simpa using hk
  have HS:Hid (R=false):=Lh (HRN.out (.inl hk))
  clear HRR HRN
  go_wp2_with fail
  go_ret
  exact ⟨ret_bool HS.out.symm,by rw [<- HW2.out];exact H2.out.2.2⟩
 subst hk
 by_cases hk:hd1=hd2
 rotate_left
 ·have hk2:(hd1==hd2)=false:=by simpa using hk
  have HS:Hid (R=false):=Lh (HRN.out (.inr (.inl hk)))
  clear HRR HRN
  go_wp2_with fail
  go_ret
  exact ⟨ret_bool HS.out.symm,by rw [<- HW2.out];exact H2.out.2.2⟩
 subst hk
 by_cases hk:wt1=wt2
 rotate_left
 ·have hk2:(wt1==wt2)=false:=by simpa using hk
  have HS:Hid (R=false):=Lh (HRN.out (.inr (.inr hk)))
  clear HRR HRN
  go_wp2_with fail
  go_ret
  exact ⟨ret_bool HS.out.symm,by rw [<- HW2.out];exact H2.out.2.2⟩
 subst hk
 have HR2:Hid (R=(re&&rb)):=Lh (HRR.out rfl rfl rfl)
 clear HRR HRN
 go_wp2_with fail
 rw [<- HW2.out]
 refine (HT.out W2 H2.out.2.2).mono ?_
 rintro e w3 ⟨rfl,hb3⟩
 obtain ⟨hw3,u3,v3⟩:=HK.out w3 hb3
 rw [HB.out] at u3 v3
 have HB3:=Lh hb3
 have HW3:=Lh hw3
 have p4:w3.cell? ⟨w.heap.size,4,none⟩=some (.int .i64 k1):=cH u3 rfl
 have p5:w3.cell? ⟨w.heap.size,5,none⟩=some (.string ⟨s1.toArray⟩):=cH u3 rfl
 have p6:w3.cell? ⟨w.heap.size,6,none⟩=some (.int .i64 n1):=cH u3 rfl
 have p7:w3.cell? ⟨w.heap.size,7,none⟩=some (.slice yb1.t.a t1.length yb1.t.cap):=cH u3 rfl
 have p8:w3.cell? ⟨w.heap.size,8,none⟩=some (.slice yb1.b.a b1.length yb1.b.cap):=cH u3 rfl
 have p9:w3.cell? ⟨w.heap.size,9,none⟩=some (.slice yb1.l.a l1.length yb1.l.cap):=cH u3 rfl
 have q4:w3.cell? ⟨w.heap.size+1,4,none⟩=some (.int .i64 k2):=cH v3 rfl
 have q5:w3.cell? ⟨w.heap.size+1,5,none⟩=some (.string ⟨s2.toArray⟩):=cH v3 rfl
 have q6:w3.cell? ⟨w.heap.size+1,6,none⟩=some (.int .i64 n2):=cH v3 rfl
 have q7:w3.cell? ⟨w.heap.size+1,7,none⟩=some (.slice yb2.t.a t2.length yb2.t.cap):=cH v3 rfl
 have q8:w3.cell? ⟨w.heap.size+1,8,none⟩=some (.slice yb2.b.a b2.length yb2.b.cap):=cH v3 rfl
 have q9:w3.cell? ⟨w.heap.size+1,9,none⟩=some (.slice yb2.l.a l2.length yb2.l.cap):=cH v3 rfl
 clear u3 v3 hb3 hw3
 cases re
 ·go_wp2_with fail
  go_ret
  exact ⟨ret_bool (by rw [HR2.out];rfl),HW3.out⟩
 go_wp2_with fail
 refine (HLL.out w3 HW3.out).mono ?_
 rintro e w4 ⟨rfl,hb4⟩
 have HB4:=Lh (HW3.out.trans (hb4.mono HW3.out.size))
 clear hb4 p4 p5 p6 p7 p8 p9 q4 q5 q6 q7 q8 q9
 go_wp2_with fail
 go_ret
 exact ⟨ret_bool (by rw [HR2.out,Bool.true_and]),HB4.out⟩
theorem eqfRul_any (l m:List Rul) (x y:SlA) (w:World) (hx:SlIn w (·<w.heap.size) (l.map Rul.toD) x) (hy:SlIn w (·<w.heap.size) (m.map Rul.toD) y) (hl:l.length<=2000000) (hf:∀ r∈l,RuFit r) :
  Calls Tryz.prog 64 #[.slice x.a l.length x.cap,.slice y.a m.length y.cap,.func (.func 65) #[] #[]] w (Answers w (rulsEq l m)):=by
 have he:∀ args w,(callFunc 65 args).run Tryz.prog w=.ok (.enter 65 args) w:=enters_of Tryz.func65 (by kernel_rfl) rfl
 have gx:=hx.at_
 have gy:=hy.at_
 rw [List.length_map] at gx gy
 by_cases hlen:l.length=m.length
 rotate_left
 ·have HR:Hid (rulsEq l m=false):=Lh (rulsEq_len hlen)
  generalize rulsEq l m=R at HR ⊢
  clear hx hy hf
  generalize l.length=n1 at *
  generalize m.length=n2 at *
  have hne:((n1:Int)==(n2:Int))=false:=by simp;omega
  have hne2:¬ n1=n2:=hlen
  clear gx gy hlen
  go_enter Tryz.func64,Tryz.ntmps64
  go_wp2_with fail
  go_ret
  exact ⟨ret_bool HR.out.symm,Below.refl _ _⟩
 obtain ⟨R,hR⟩:∃ R,R=rulsEq l m:=⟨_,rfl⟩
 rw [<- hR]
 obtain ⟨n,hn⟩:∃ n,n=l.length:=⟨_,rfl⟩
 have hn2:m.length=n:=by omega
 have HX:=Lh (fun (j:Nat) (hj:j<l.length)=>hx.rul j hj)
 have HY:=Lh (fun (j:Nat) (hj:j<m.length)=>hy.rul j hj)
 rw [hn2,<- hn]
 rw [<- hn] at gx hl
 rw [hn2] at gy
 have HN:=Lh (aI hn hn2)
 have HFT:=Lh (fun (j:Nat) (hj:j<l.length)=>hf _ (List.getElem_mem hj))
 have HR:=Lh hR
 clear hx hy hf hR hn hn2 hlen
 go_enter Tryz.func64,Tryz.ntmps64
 go_wp2_with fail
 go_loopw [17] (fun i wr=>∃ j:Nat,j<=n/\i=.int .i64 j/\Below w.heap.size w wr/\Hid (R=rulsEq (l.drop j) (m.drop j))) (fun i _=>n - (intOf i).toNat)
 case atStart=>exact ⟨0,Nat.zero_le _,rfl,Below.refl _ _,HR⟩
 case round =>
  obtain ⟨j,hj,rfl,hb,HT⟩:=hrel
  by_cases hlt:j<n
  ·obtain ⟨hxa,xl⟩:=gx (by omega)
   obtain ⟨hya,yl⟩:=gy (by omega)
   have hjl:j<l.length:=by have:=HN.out;omega
   have hjm:j<m.length:=by have:=HN.out;omega
   obtain ⟨xf,hf1,hf2⟩:=HX.out j hjl
   obtain ⟨yf,hg1,hg2⟩:=HY.out j hjm
   have hxs:=hf2.agree (agree_of_below hb) xl
   have hys:=hg2.agree (agree_of_below hb) yl
   obtain ⟨W2,hW2⟩:∃ W2,W2=(wr.alloc (.cells (xf.cells l[j]).toArray 64)).alloc (.cells (yf.cells m[j]).toArray 64):=⟨_,rfl⟩
   have hbw:Below w.heap.size w W2:=by rw [hW2];exact (hb.alloc hb.size _).alloc (by have:=hb.size;simp;omega) _
   have HCC:=Lh (ssame1_any l[j] m[j] xf yf W2 (hf1.later hbw hbw.size) (hg1.later hbw hbw.size) (HFT.out j hjl))
   have HST:=Lh (show R=(rulEq l[j] m[j]&&rulsEq (l.drop (j+1)) (m.drop (j+1))) by rw [HT.out,rulsEq_step hjl hjm])
   have HW2:=Lh hW2
   have HBW:=Lh hbw
   have yl2:y.b<wr.heap.size:=Nat.lt_of_lt_of_le yl hb.size
   rw [hxa,hya]
   clear hf1 hf2 hg1 hg2 hbw hW2 HT hxa hya
   generalize l[j]=f1 at *
   generalize m[j]=f2 at *
   clear hjl hjm
   generalize rulEq f1 f2=q at HCC HST
   obtain ⟨nm1,hd1,wt1,ea1,⟨k1,s1,n1,t1,b1,l1⟩⟩:=f1
   obtain ⟨nm2,hd2,wt2,ea2,⟨k2,s2,n2,t2,b2,l2⟩⟩:=f2
   obtain ⟨ye1,yb1⟩:=xf
   obtain ⟨ye2,yb2⟩:=yf
   simp only [ndV,RulA.cells,FrmA.cells,SlA.val,Frm.kind,Frm.name,Frm.n,Frm.terms,Frm.binds,Frm.l] at HCC HW2 hxs hys
   obtain ⟨p0,p1,p2,p3,p4,p5,p6,p7,p8,p9⟩:=hxs.ten
   obtain ⟨q0,q1,q2,q3,q4,q5,q6,q7,q8,q9⟩:=hys.ten
   clear hxs hys
   go_wp2_with fail
   rw [<- HW2.out]
   refine HCC.out.mono ?_
   rintro e w3 ⟨rfl,hb3⟩
   have HB3:=Lh (HBW.out.trans (hb3.mono HBW.out.size))
   clear hb3
   cases q
   ·have HS:Hid (R=false):=Lh (by rw [HST.out];rfl)
    clear HST
    go_wp2_with fail
    go_ret
    exact ⟨ret_bool HS.out.symm,HB3.out⟩
   ·have HS:Hid (R=rulsEq (l.drop (j+1)) (m.drop (j+1))):=Lh (by rw [HST.out];rfl)
    clear HST
    go_wp2_with fail
    exact ⟨⟨j+1,by omega,by go_num,HB3.out,HS⟩,by simp [intOf];omega⟩
  ·have HS:Hid (R=true):=Lh (by
    rw [HT.out,List.drop_eq_nil_of_le (by have:=HN.out;omega),List.drop_eq_nil_of_le (by have:=HN.out;omega),rulsEq])
   go_wp2_with fail
   go_ret
   exact ⟨ret_bool HS.out.symm,hb⟩
theorem ssame_any (l m:List Rul) (x y:SlA) (w:World) (hx:SlIn w (·<w.heap.size) (l.map Rul.toD) x) (hy:SlIn w (·<w.heap.size) (m.map Rul.toD) y) (hl:l.length<=2000000) (hf:∀ r∈l,RuFit r) :
  Calls Tryz.prog 34 #[.slice x.a l.length x.cap,.slice y.a m.length y.cap] w (Answers w (rulsEq l m)):=by
 have HE:=Lh (eqfRul_any l m x y w hx hy hl hf)
 generalize rulsEq l m=R at HE ⊢
 clear hx hy hf
 go_enter Tryz.func34,Tryz.ntmps34
 go_wp2_with fail
 refine HE.out.mono ?_
 rintro e w1 ⟨rfl,hb⟩
 have HB:=Lh hb
 clear hb
 go_wp2_with fail
 go_ret
 exact ⟨rfl,HB.out⟩
end Go.Proofs.YtpmalchlecnjbaaGreatDoor
