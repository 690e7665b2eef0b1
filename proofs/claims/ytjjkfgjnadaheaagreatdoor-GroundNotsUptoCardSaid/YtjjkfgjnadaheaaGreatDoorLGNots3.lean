/- Joined texts: Right. -/
import Derived.Test.YtjjkfgjnadaheaaGreatDoorLGNots2
set_option maxHeartbeats 16000000
set_option maxRecDepth 100000
set_option linter.unusedVariables false
set_option linter.unusedSimpArgs false
/- formula.right and formula.Nnf. (written by tools/gen_right.py) -/
namespace Go.Proofs.YtjjkfgjnadaheaaGreatDoor
open Go.RowKit Go.Chalk
open List renaming setIfInBounds_toArray->sb1,set_cons_zero->sb2,set_cons_succ->sb3
structure G2 (W:World):Prop where
 gg:GG W
 duals:MapG W 3 204 false (fun k=>.int .i64 (dualK (keyInt k))) intKey
theorem G2.below {W W':World} (h:G2 W) (hb:Below W.heap.size W W'):G2 W':=⟨h.gg.below hb,h.duals.below hb⟩

theorem right_any (m:Nat):∀ (f:Frm) (y:FrmA) (turn:Bool) (w:World) (B:Nat),f.size<=m->B<=w.heap.size->G2 w->FrmFit f->(nodesF f).all formedF=true->FrmIn w (·<B) f y ->
  Calls Tryz.prog 74 #[ndV (f,y),.bool turn] w (RPost B w (rightF f turn)):=by
 induction m with
 | zero=>intro f _ _ _ _ h;have:=f.size_pos;omega
 | succ m ih =>
  rintro ⟨kind,name,n,terms,binds,fl⟩ y turn w B hm hB hg hff hfm hy
  have hsz:=hff.size
  rw [Frm.size] at hm hsz
  have hll:=length_le_fsizes fl
  obtain ⟨hfo,hfk⟩:=node_formed.1 hfm
  obtain ⟨p1,p2,p3,p4,p5⟩:=parts_of hfo
  have HIH:Hid (∀ (j:Nat) (hj:j<fl.length) (t:Bool) (y1:FrmA) (W:World),Below w.heap.size w W->FrmIn w (·<B) fl[j] y1->Calls Tryz.prog 74 #[ndV (fl[j],y1),.bool t] W (RPost B W (rightF fl[j] t))) :=
   Lh (fun j hj t y1 W hW h1=>ih fl[j] y1 t W B (by have:=size_le_fsizes fl j hj;omega) (Nat.le_trans hB hW.size) (hg.below hW) (hff.part hj) (formed_part hfm hj) (h1.agree (agree_of_below (hW.mono hB))))
  have HFI:Hid (∀ (j:Nat) (hj:j<fl.length),∃ y1:FrmA,FrmIn w (·<B) fl[j] y1/\CellsAt w y.l.b (y.l.o+j*6) (y1.cells fl[j])):=Lh (fun j hj=>hy.l.frm j hj)
  have HFS:Hid (SlAt (·<B) y.l.a y.l.b y.l.o fl.length):=Lh (by have:=hy.l.at_;rw [List.length_map] at this;exact this)
  obtain ⟨W0,hW0⟩:∃ W0,W0=(w.alloc (.cells (y.cells (.mk kind name n terms binds fl)).toArray 34)).alloc (.cells #[.int .i64 0,.string ⟨#[]⟩,.int .i64 0,.slice none 0 0,.slice none 0 0,.slice none 0 0] 34):=⟨_,rfl⟩
  have hb0:Below w.heap.size w W0:=by rw [hW0];exact ((Below.refl _ _).alloc (Nat.le_refl _) _).alloc (by simp) _
  have hq0:FrmBox W0 w.heap.size (.mk kind name n terms binds fl) y:=by rw [hW0];unfold FrmBox;rw [heap_get,if_neg (by simp),heap_get,if_pos rfl]
  have hq1:W0.heap[w.heap.size+1]?=some (.cells #[.int .i64 0,.string ⟨#[]⟩,.int .i64 0,.slice none 0 0,.slice none 0 0,.slice none 0 0] 34 (0,0)):=by rw [hW0,heap_get,if_pos (by simp)]
  have HE:Hid (∀ w',Below W0.heap.size W0 w'->Below w.heap.size w w'/\(w'.cell? ⟨w.heap.size,0,none⟩=some (.int .i64 kind)/\w'.cell? ⟨w.heap.size,1,none⟩=some (.string ⟨name.toArray⟩)/\w'.cell? ⟨w.heap.size,2,none⟩=some (.int .i64 n)/\w'.cell? ⟨w.heap.size,3,none⟩=some (.slice y.t.a terms.length y.t.cap)/\w'.cell? ⟨w.heap.size,4,none⟩=some (.slice y.b.a binds.length y.b.cap)/\w'.cell? ⟨w.heap.size,5,none⟩=some (.slice y.l.a fl.length y.l.cap))/\w'.heap[w.heap.size+1]?=some (.cells #[.int .i64 0,.string ⟨#[]⟩,.int .i64 0,.slice none 0 0,.slice none 0 0,.slice none 0 0] 34 (0,0))):=Lh (fun W hW=>⟨hb0.trans (hW.mono hb0.size),(hq0.below hW).cells,(hW.block _ (gS hq1).1).trans hq1⟩)
  have HAL:=Lh (fun (W:World)=>always_any (.mk kind name n terms binds fl) y W)
  have HY:=Lh (aI hy (aI hff hB))
  have HG:=Lh hg
  have HW0:=Lh hW0
  have HSZ:=Lh hsz
  have HZ0:Hid (W0.heap.size=w.heap.size+2):=Lh (by rw [hW0];simp)
  have HFO:=Lh hfo
  clear hb0 hq0 hq1 hW0 ih hg hff hfm hy hfk hB hsz hfo
  have HR:Hid (rightF (.mk kind name n terms binds fl) turn=rightNode kind name n terms binds fl (rightL fl turn) (rightL fl (!turn)) turn):=Lh (by rw [rightF])
  simp only [ndV,FrmA.cells,SlA.val,Frm.kind,Frm.name,Frm.n,Frm.terms,Frm.binds,Frm.l] at HAL HW0 ⊢
  generalize hnf:fl.length=nf at HE HAL HW0 p1 hll ⊢
  have HNF:=Lh hnf
  clear hnf
  have HP1:=Lh p1
  clear p1
  by_cases hk2:kind=2
  ·subst hk2
   have e0:alwaysF 2 n=false:=by simp [alwaysF]
   rw [e0] at HAL
   have HA2:=Lh e0
   clear e0
   cases turn
   ·clear p2 p3 p4 p5 hll hm
    go_enter Tryz.func74,Tryz.ntmps74
    go_wp2_with fail
    rw [<- HW0.out]
    refine (HAL.out _).mono ?_
    rintro e w1 ⟨rfl,hb⟩
    have H1:=Lh hb
    clear hb
    obtain ⟨_,⟨f0,f1,f2,f3,f4,f5⟩,y5⟩:=HE.out w1 H1.out
    have fz0:w1.frozen? ⟨w.heap.size+1,0,none⟩=false:=fH y5
    have fz1:w1.frozen? ⟨w.heap.size+1,1,none⟩=false:=fH y5
    have fz2:w1.frozen? ⟨w.heap.size+1,2,none⟩=false:=fH y5
    have fz3:w1.frozen? ⟨w.heap.size+1,3,none⟩=false:=fH y5
    have fz4:w1.frozen? ⟨w.heap.size+1,4,none⟩=false:=fH y5
    have fz5:w1.frozen? ⟨w.heap.size+1,5,none⟩=false:=fH y5
    have x0:w1.cell? ⟨w.heap.size+1,0,none⟩=some (.int .i64 0):=cH y5 rfl
    have x1:w1.cell? ⟨w.heap.size+1,1,none⟩=some (.string ⟨#[]⟩):=cH y5 rfl
    have x2:w1.cell? ⟨w.heap.size+1,2,none⟩=some (.int .i64 0):=cH y5 rfl
    have x3:w1.cell? ⟨w.heap.size+1,3,none⟩=some (.slice none 0 0):=cH y5 rfl
    have x4:w1.cell? ⟨w.heap.size+1,4,none⟩=some (.slice none 0 0):=cH y5 rfl
    have x5:w1.cell? ⟨w.heap.size+1,5,none⟩=some (.slice none 0 0):=cH y5 rfl
    clear y5
    go_wp2_with fail
    refine bodyPost_ret (v:=.agg #[.int .i64 2,.string ⟨#[]⟩,.int .i64 0,.slice none 0 0,.slice none 0 0,.slice none 0 0]) (by simp [results,Tryz.results74,go_sem, *]) rfl ?_
    rw [HR.out,show rightNode 2 name n terms binds fl (rightL fl false) (rightL fl (!false)) false=noFrm by simp [rightNode]]
    exact RPost.of rfl (put6_fin (G:=fun _=>False) (HE.out _ H1.out).1 (Nat.le_succ _) (leaf_in _ 2 (i64_of (by decide))) (fun h=>h) (fun _ h=>h.elim))
   ·clear p2 p3 p4 p5 hll hm
    go_enter Tryz.func74,Tryz.ntmps74
    go_wp2_with fail
    rw [<- HW0.out]
    refine (HAL.out _).mono ?_
    rintro e w1 ⟨rfl,hb⟩
    have H1:=Lh hb
    clear hb
    obtain ⟨_,⟨f0,f1,f2,f3,f4,f5⟩,y5⟩:=HE.out w1 H1.out
    go_wp2_with fail
    refine (HAL.out _).mono ?_
    rintro e w2 ⟨rfl,hb⟩
    have H2:=Lh (H1.out.trans (hb.mono H1.out.size))
    clear hb
    clear f0 f1 f2 f3 f4 f5 y5
    obtain ⟨_,⟨f0,f1,f2,f3,f4,f5⟩,y5⟩:=HE.out w2 H2.out
    have fz0:w2.frozen? ⟨w.heap.size+1,0,none⟩=false:=fH y5
    have fz1:w2.frozen? ⟨w.heap.size+1,1,none⟩=false:=fH y5
    have fz2:w2.frozen? ⟨w.heap.size+1,2,none⟩=false:=fH y5
    have fz3:w2.frozen? ⟨w.heap.size+1,3,none⟩=false:=fH y5
    have fz4:w2.frozen? ⟨w.heap.size+1,4,none⟩=false:=fH y5
    have fz5:w2.frozen? ⟨w.heap.size+1,5,none⟩=false:=fH y5
    have x0:w2.cell? ⟨w.heap.size+1,0,none⟩=some (.int .i64 0):=cH y5 rfl
    have x1:w2.cell? ⟨w.heap.size+1,1,none⟩=some (.string ⟨#[]⟩):=cH y5 rfl
    have x2:w2.cell? ⟨w.heap.size+1,2,none⟩=some (.int .i64 0):=cH y5 rfl
    have x3:w2.cell? ⟨w.heap.size+1,3,none⟩=some (.slice none 0 0):=cH y5 rfl
    have x4:w2.cell? ⟨w.heap.size+1,4,none⟩=some (.slice none 0 0):=cH y5 rfl
    have x5:w2.cell? ⟨w.heap.size+1,5,none⟩=some (.slice none 0 0):=cH y5 rfl
    clear y5
    go_wp2_with fail
    refine bodyPost_ret (v:=.agg #[.int .i64 1,.string ⟨#[]⟩,.int .i64 0,.slice none 0 0,.slice none 0 0,.slice none 0 0]) (by simp [results,Tryz.results74,go_sem, *]) rfl ?_
    rw [HR.out,show rightNode 2 name n terms binds fl (rightL fl true) (rightL fl (!true)) true=yesFrm by simp [rightNode,HA2.out]]
    exact RPost.of rfl (put6_fin (G:=fun _=>False) (HE.out _ H2.out).1 (Nat.le_succ _) (leaf_in _ 1 (i64_of (by decide))) (fun h=>h) (fun _ h=>h.elim))
  have dk2:(kind==2)=false:=by simp [hk2]
  have HK2:=Lh hk2
  clear hk2
  cases hal:alwaysF kind n
  rotate_left
  ·rw [hal] at HAL
   have HA2:=Lh hal
   clear hal
   cases turn
   ·clear p2 p3 p4 p5 hll hm
    go_enter Tryz.func74,Tryz.ntmps74
    go_wp2_with fail
    rw [<- HW0.out]
    refine (HAL.out _).mono ?_
    rintro e w1 ⟨rfl,hb⟩
    have H1:=Lh hb
    clear hb
    obtain ⟨_,⟨f0,f1,f2,f3,f4,f5⟩,y5⟩:=HE.out w1 H1.out
    go_wp2_with fail
    refine (HAL.out _).mono ?_
    rintro e w2 ⟨rfl,hb⟩
    have H2:=Lh (H1.out.trans (hb.mono H1.out.size))
    clear hb
    clear f0 f1 f2 f3 f4 f5 y5
    obtain ⟨_,⟨f0,f1,f2,f3,f4,f5⟩,y5⟩:=HE.out w2 H2.out
    have fz0:w2.frozen? ⟨w.heap.size+1,0,none⟩=false:=fH y5
    have fz1:w2.frozen? ⟨w.heap.size+1,1,none⟩=false:=fH y5
    have fz2:w2.frozen? ⟨w.heap.size+1,2,none⟩=false:=fH y5
    have fz3:w2.frozen? ⟨w.heap.size+1,3,none⟩=false:=fH y5
    have fz4:w2.frozen? ⟨w.heap.size+1,4,none⟩=false:=fH y5
    have fz5:w2.frozen? ⟨w.heap.size+1,5,none⟩=false:=fH y5
    have x0:w2.cell? ⟨w.heap.size+1,0,none⟩=some (.int .i64 0):=cH y5 rfl
    have x1:w2.cell? ⟨w.heap.size+1,1,none⟩=some (.string ⟨#[]⟩):=cH y5 rfl
    have x2:w2.cell? ⟨w.heap.size+1,2,none⟩=some (.int .i64 0):=cH y5 rfl
    have x3:w2.cell? ⟨w.heap.size+1,3,none⟩=some (.slice none 0 0):=cH y5 rfl
    have x4:w2.cell? ⟨w.heap.size+1,4,none⟩=some (.slice none 0 0):=cH y5 rfl
    have x5:w2.cell? ⟨w.heap.size+1,5,none⟩=some (.slice none 0 0):=cH y5 rfl
    clear y5
    go_wp2_with fail
    refine bodyPost_ret (v:=.agg #[.int .i64 1,.string ⟨#[]⟩,.int .i64 0,.slice none 0 0,.slice none 0 0,.slice none 0 0]) (by simp [results,Tryz.results74,go_sem, *]) rfl ?_
    rw [HR.out,show rightNode kind name n terms binds fl (rightL fl false) (rightL fl (!false)) false=yesFrm by simp [rightNode,HA2.out,HK2.out]]
    exact RPost.of rfl (put6_fin (G:=fun _=>False) (HE.out _ H2.out).1 (Nat.le_succ _) (leaf_in _ 1 (i64_of (by decide))) (fun h=>h) (fun _ h=>h.elim))
   ·clear p2 p3 p4 p5 hll hm
    go_enter Tryz.func74,Tryz.ntmps74
    go_wp2_with fail
    rw [<- HW0.out]
    refine (HAL.out _).mono ?_
    rintro e w1 ⟨rfl,hb⟩
    have H1:=Lh hb
    clear hb
    obtain ⟨_,⟨f0,f1,f2,f3,f4,f5⟩,y5⟩:=HE.out w1 H1.out
    have fz0:w1.frozen? ⟨w.heap.size+1,0,none⟩=false:=fH y5
    have fz1:w1.frozen? ⟨w.heap.size+1,1,none⟩=false:=fH y5
    have fz2:w1.frozen? ⟨w.heap.size+1,2,none⟩=false:=fH y5
    have fz3:w1.frozen? ⟨w.heap.size+1,3,none⟩=false:=fH y5
    have fz4:w1.frozen? ⟨w.heap.size+1,4,none⟩=false:=fH y5
    have fz5:w1.frozen? ⟨w.heap.size+1,5,none⟩=false:=fH y5
    have x0:w1.cell? ⟨w.heap.size+1,0,none⟩=some (.int .i64 0):=cH y5 rfl
    have x1:w1.cell? ⟨w.heap.size+1,1,none⟩=some (.string ⟨#[]⟩):=cH y5 rfl
    have x2:w1.cell? ⟨w.heap.size+1,2,none⟩=some (.int .i64 0):=cH y5 rfl
    have x3:w1.cell? ⟨w.heap.size+1,3,none⟩=some (.slice none 0 0):=cH y5 rfl
    have x4:w1.cell? ⟨w.heap.size+1,4,none⟩=some (.slice none 0 0):=cH y5 rfl
    have x5:w1.cell? ⟨w.heap.size+1,5,none⟩=some (.slice none 0 0):=cH y5 rfl
    clear y5
    go_wp2_with fail
    refine bodyPost_ret (v:=.agg #[.int .i64 2,.string ⟨#[]⟩,.int .i64 0,.slice none 0 0,.slice none 0 0,.slice none 0 0]) (by simp [results,Tryz.results74,go_sem, *]) rfl ?_
    rw [HR.out,show rightNode kind name n terms binds fl (rightL fl true) (rightL fl (!true)) true=noFrm by simp [rightNode,HA2.out]]
    exact RPost.of rfl (put6_fin (G:=fun _=>False) (HE.out _ H1.out).1 (Nat.le_succ _) (leaf_in _ 2 (i64_of (by decide))) (fun h=>h) (fun _ h=>h.elim))
  rw [hal] at HAL
  have HA2:=Lh hal
  clear hal
  by_cases hk10:kind=10
  ·subst hk10
   obtain rfl:nf=1:=by have:=HP1.out;have e:arityF 10=some 1:=rfl;rw [e] at this;exact (Option.some.inj this).symm
   have hj0:0<fl.length:=by have:=HNF.out;omega
   have HRR:Hid (rightF (.mk 10 name n terms binds fl) turn=rightF fl[0] (!turn)):=Lh (by
    rw [HR.out]
    match fl,HNF.out with
    | [g],_=>simp [rightNode,HA2.out,rightL])
   have HCL:Hid (∀ y1 W,Below w.heap.size w W->FrmIn w (·<B) fl[0] y1->Calls Tryz.prog 74 #[ndV (fl[0],y1),.bool (!turn)] W (RPost B W (rightF fl[0] (!turn)))):=Lh (fun y1 W=>HIH.out 0 hj0 (!turn) y1 W)
   clear p2 p3 p4 p5 hll hm HIH
   go_enter Tryz.func74,Tryz.ntmps74
   go_wp2_with fail
   rw [<- HW0.out]
   refine (HAL.out _).mono ?_
   rintro e w1 ⟨rfl,hb⟩
   have H1:=Lh hb
   clear hb
   obtain ⟨_,⟨f0,f1,f2,f3,f4,f5⟩,y5⟩:=HE.out w1 H1.out
   go_wp2_with fail
   refine (HAL.out _).mono ?_
   rintro e w2 ⟨rfl,hb⟩
   have H2:=Lh (H1.out.trans (hb.mono H1.out.size))
   clear hb
   clear f0 f1 f2 f3 f4 f5 y5
   obtain ⟨_,⟨f0,f1,f2,f3,f4,f5⟩,y5⟩:=HE.out w2 H2.out
   obtain ⟨y0,hy0,hc0⟩:=HFI.out 0 (by have:=HNF.out;omega)
   obtain ⟨hxa,hbl⟩:=HFS.out (by have:=HNF.out;omega)
   obtain ⟨k00,k01,k02,k03,k04,k05⟩:=(hc0.agree (agree_of_below ((HE.out _ H2.out).1.mono HY.out.2.2)) hbl).six
   simp only [Nat.zero_mul,Nat.add_zero] at k00 k01 k02 k03 k04 k05
   rw [hxa] at f5
   have HC2:=Lh (HCL.out y0 w2 (HE.out _ H2.out).1 hy0)
   clear hc0 hy0 hxa hbl HCL HFI y5
   generalize rightF fl[0] (!turn)=r at HRR HC2
   generalize fl[0]=g at k00 k01 k02 k03 k04 k05 HC2
   obtain ⟨gk,gn,gm,gt,gb,gl⟩:=g
   simp only [ndV,FrmA.cells,SlA.val,Frm.kind,Frm.name,Frm.n,Frm.terms,Frm.binds,Frm.l] at k00 k01 k02 k03 k04 k05 HC2
   go_wp2_with fail
   refine HC2.out.mono ?_
   rintro e w3 ⟨u,rfl,hu,hb⟩
   have H3:=Lh (aI (H2.out.trans (hb.mono H2.out.size)) hu)
   clear hb hu k00 k01 k02 k03 k04 k05 f0 f1 f2 f3 f4 f5
   obtain ⟨_,_,y5⟩:=HE.out w3 H3.out.1
   obtain ⟨rk,rn,rm,rt,rb,rl⟩:=r
   simp only [ndV,FrmA.cells,SlA.val,Frm.kind,Frm.name,Frm.n,Frm.terms,Frm.binds,Frm.l]
   have fz0:w3.frozen? ⟨w.heap.size+1,0,none⟩=false:=fH y5
   have fz1:w3.frozen? ⟨w.heap.size+1,1,none⟩=false:=fH y5
   have fz2:w3.frozen? ⟨w.heap.size+1,2,none⟩=false:=fH y5
   have fz3:w3.frozen? ⟨w.heap.size+1,3,none⟩=false:=fH y5
   have fz4:w3.frozen? ⟨w.heap.size+1,4,none⟩=false:=fH y5
   have fz5:w3.frozen? ⟨w.heap.size+1,5,none⟩=false:=fH y5
   have x0:w3.cell? ⟨w.heap.size+1,0,none⟩=some (.int .i64 0):=cH y5 rfl
   have x1:w3.cell? ⟨w.heap.size+1,1,none⟩=some (.string ⟨#[]⟩):=cH y5 rfl
   have x2:w3.cell? ⟨w.heap.size+1,2,none⟩=some (.int .i64 0):=cH y5 rfl
   have x3:w3.cell? ⟨w.heap.size+1,3,none⟩=some (.slice none 0 0):=cH y5 rfl
   have x4:w3.cell? ⟨w.heap.size+1,4,none⟩=some (.slice none 0 0):=cH y5 rfl
   have x5:w3.cell? ⟨w.heap.size+1,5,none⟩=some (.slice none 0 0):=cH y5 rfl
   clear y5
   go_wp2_with fail
   refine bodyPost_ret (v:=.agg #[.int .i64 rk,.string ⟨rn.toArray⟩,.int .i64 rm,.slice u.t.a rt.length u.t.cap,.slice u.b.a rb.length u.b.cap,.slice u.l.a rl.length u.l.cap]) (by simp [results,Tryz.results74,go_sem, *]) rfl ?_
   rw [HRR.out]
   refine RPost.of rfl (put6_fin (HE.out _ H3.out.1).1 (Nat.le_succ _) H3.out.2 (fun h=>?_) (fun k h=>?_))
   ·have h1:=h.1
    have:=HZ0.out;have:=H2.out.size;have:=HY.out.2.2
    omega
   ·exact ⟨h.1.imp id (fun h=>Nat.le_trans (HE.out _ H2.out).1.size h),h.2⟩
  have dk10:(kind==10)=false:=by simp [hk10]
  have HK10:=Lh hk10
  clear hk10
  by_cases hk13:kind=13
  ·subst hk13
   obtain rfl:nf=2:=by have:=HP1.out;have e:arityF 13=some 2:=rfl;rw [e] at this;exact (Option.some.inj this).symm
   have hj0:0<fl.length:=by have:=HNF.out;omega
   have hj1:1<fl.length:=by have:=HNF.out;omega
   have HRR:Hid (rightF (.mk 13 name n terms binds fl) turn=.mk (if turn then 11 else 12) [] 0 [] [] [rightF fl[0] (!turn),rightF fl[1] turn]):=Lh (by
    rw [HR.out]
    match fl,HNF.out with
    | [g,h],_=>simp [rightNode,HA2.out,rightL])
   have HC0:Hid (∀ y1 W,Below w.heap.size w W->FrmIn w (·<B) fl[0] y1->Calls Tryz.prog 74 #[ndV (fl[0],y1),.bool (!turn)] W (RPost B W (rightF fl[0] (!turn)))):=Lh (fun y1 W=>HIH.out 0 hj0 (!turn) y1 W)
   have HC1:Hid (∀ y1 W,Below w.heap.size w W->FrmIn w (·<B) fl[1] y1->Calls Tryz.prog 74 #[ndV (fl[1],y1),.bool turn] W (RPost B W (rightF fl[1] turn))):=Lh (fun y1 W=>HIH.out 1 hj1 turn y1 W)
   clear p2 p3 p4 p5 hll hm HIH
   go_enter Tryz.func74,Tryz.ntmps74
   go_wp2_with fail
   rw [<- HW0.out]
   refine (HAL.out _).mono ?_
   rintro e w1 ⟨rfl,hb⟩
   have H1:=Lh hb
   clear hb
   obtain ⟨_,⟨f0,f1,f2,f3,f4,f5⟩,y5⟩:=HE.out w1 H1.out
   go_wp2_with fail
   refine (HAL.out _).mono ?_
   rintro e w2 ⟨rfl,hb⟩
   have H2:=Lh (H1.out.trans (hb.mono H1.out.size))
   clear hb
   clear f0 f1 f2 f3 f4 f5 y5
   obtain ⟨_,⟨f0,f1,f2,f3,f4,f5⟩,y5⟩:=HE.out w2 H2.out
   go_upto_region 8 with fail
   obtain ⟨y0,hy0,hc0⟩:=HFI.out 0 (by have:=HNF.out;omega)
   obtain ⟨hxa,hbl⟩:=HFS.out (by have:=HNF.out;omega)
   obtain ⟨k00,k01,k02,k03,k04,k05⟩:=(hc0.agree (agree_of_below ((HE.out _ H2.out).1.mono HY.out.2.2)) hbl).six
   obtain ⟨y1,hy1,hc1⟩:=HFI.out 1 (by have:=HNF.out;omega)
   obtain ⟨hxb,hbm⟩:=HFS.out (by have:=HNF.out;omega)
   obtain ⟨k10,k11,k12,k13,k14,k15⟩:=(hc1.agree (agree_of_below ((HE.out _ H2.out).1.mono HY.out.2.2)) hbm).six
   simp only [Nat.zero_mul,Nat.add_zero,Nat.one_mul] at k00 k01 k02 k03 k04 k05 k10 k11 k12 k13 k14 k15
   rw [hxa] at f5
   have HCA:Hid (∀ W,Below w2.heap.size w2 W->Calls Tryz.prog 74 #[ndV (fl[0],y0),.bool (!turn)] W (RPost B W (rightF fl[0] (!turn)))):=Lh (fun W hW=>HC0.out y0 W ((HE.out _ H2.out).1.trans (hW.mono (HE.out _ H2.out).1.size)) hy0)
   have HCB:Hid (∀ W,Below w2.heap.size w2 W->Calls Tryz.prog 74 #[ndV (fl[1],y1),.bool turn] W (RPost B W (rightF fl[1] turn))):=Lh (fun W hW=>HC1.out y1 W ((HE.out _ H2.out).1.trans (hW.mono (HE.out _ H2.out).1.size)) hy1)
   have hbl2:y.l.b<w2.heap.size:=by have:=HY.out.2.2;have:=(HE.out _ H2.out).1.size;omega
   clear hc0 hy0 hxa hbl hc1 hy1 hxb hbm HC0 HC1 HFI y5
   generalize rightF fl[0] (!turn)=r0 at HRR HCA
   generalize rightF fl[1] turn=r1 at HRR HCB
   generalize fl[0]=g at k00 k01 k02 k03 k04 k05 HCA
   generalize fl[1]=h at k10 k11 k12 k13 k14 k15 HCB
   obtain ⟨gk,gn,gm,gt,gb,gl⟩:=g
   obtain ⟨hk,hn,hm,ht,hb,hl⟩:=h
   obtain ⟨ak,an,am,at_,ab,al⟩:=r0
   obtain ⟨bk,bn,bm,bt,bb,bl⟩:=r1
   simp only [ndV,FrmA.cells,SlA.val,Frm.kind,Frm.name,Frm.n,Frm.terms,Frm.binds,Frm.l] at k00 k01 k02 k03 k04 k05 HCA k10 k11 k12 k13 k14 k15 HCB
   go_cut [5] from 49 to 63 (fun p wx=>Pair13 B w2 (.mk ak an am at_ ab al) (.mk bk bn bm bt bb bl) p wx)
   case first =>
    have HX:Hid (∀ w',Below w2.heap.size w2 w'->w'.cell? ⟨w.heap.size,5,none⟩=some (.slice (some ⟨y.l.b,y.l.o,none⟩) 2 y.l.cap)/\w'.cell? ⟨y.l.b,y.l.o,none⟩=some (.int .i64 gk)/\w'.cell? ⟨y.l.b,y.l.o+1,none⟩=some (.string ⟨gn.toArray⟩)/\w'.cell? ⟨y.l.b,y.l.o+2,none⟩=some (.int .i64 gm)/\w'.cell? ⟨y.l.b,y.l.o+3,none⟩=some (.slice y0.t.a gt.length y0.t.cap)/\w'.cell? ⟨y.l.b,y.l.o+4,none⟩=some (.slice y0.b.a gb.length y0.b.cap)/\w'.cell? ⟨y.l.b,y.l.o+5,none⟩=some (.slice y0.l.a gl.length y0.l.cap)/\w'.cell? ⟨y.l.b,y.l.o+6,none⟩=some (.int .i64 hk)/\w'.cell? ⟨y.l.b,y.l.o+7,none⟩=some (.string ⟨hn.toArray⟩)/\w'.cell? ⟨y.l.b,y.l.o+8,none⟩=some (.int .i64 hm)/\w'.cell? ⟨y.l.b,y.l.o+9,none⟩=some (.slice y1.t.a ht.length y1.t.cap)/\w'.cell? ⟨y.l.b,y.l.o+10,none⟩=some (.slice y1.b.a hb.length y1.b.cap)/\w'.cell? ⟨y.l.b,y.l.o+11,none⟩=some (.slice y1.l.a hl.length y1.l.cap)):=Lh (fun w' hW=>by
     have hq:∀ (o:Nat) (v:Value),w2.cell? ⟨y.l.b,o,none⟩=some v->w'.cell? ⟨y.l.b,o,none⟩=some v:=fun o v e=>(hW.cell (p:=⟨y.l.b,o,none⟩) hbl2).trans e
     exact ⟨(hW.cell (p:=⟨w.heap.size,5,none⟩) (by have:=H2.out.size;have:=HZ0.out;show w.heap.size<_;omega)).trans f5,hq _ _ k00,hq _ _ k01,hq _ _ k02,hq _ _ k03,hq _ _ k04,hq _ _ k05,hq _ _ k10,hq _ _ k11,hq _ _ k12,hq _ _ k13,hq _ _ k14,hq _ _ k15⟩)
    clear f0 f1 f2 f3 f4 f5 k00 k01 k02 k03 k04 k05 k10 k11 k12 k13 k14 k15 hbl2
    have PA:Hid (∀ w3,Below (w2.drew.alloc (.cells #[.int .i64 0,.string ⟨#[]⟩,.int .i64 0,.slice none 0 0,.slice none 0 0,.slice none 0 0] 34)).heap.size (w2.drew.alloc (.cells #[.int .i64 0,.string ⟨#[]⟩,.int .i64 0,.slice none 0 0,.slice none 0 0,.slice none 0 0] 34)) w3->Below w2.heap.size w2 w3/\∀ W',Below w3.heap.size w3 W'->W'.heap[w2.heap.size]?=some (.cells #[.int .i64 0,.string ⟨#[]⟩,.int .i64 0,.slice none 0 0,.slice none 0 0,.slice none 0 0] 34 (0,0))):=Lh (fun w3 hb3=>by
     have hz:(w2.drew.alloc (.cells #[.int .i64 0,.string ⟨#[]⟩,.int .i64 0,.slice none 0 0,.slice none 0 0,.slice none 0 0] 34)).heap.size=w2.heap.size+1:=by simp
     have h0:(w2.drew.alloc (.cells #[.int .i64 0,.string ⟨#[]⟩,.int .i64 0,.slice none 0 0,.slice none 0 0,.slice none 0 0] 34)).heap[w2.heap.size]?=some (.cells #[.int .i64 0,.string ⟨#[]⟩,.int .i64 0,.slice none 0 0,.slice none 0 0,.slice none 0 0] 34 (0,0)):=by rw [heap_get,if_pos (show w2.heap.size=w2.drew.heap.size from rfl)]
     exact ⟨((Below.refl w2.heap.size w2).drew.alloc (Nat.le_refl _) _).trans (hb3.mono (by omega)),fun W' hW'=>(hW'.block _ (by have:=hb3.size;omega)).trans ((hb3.block _ (by omega)).trans h0)⟩)
    have PB:Hid (∀ w3,Below w2.heap.size w2 w3->∀ w4,Below (w3.alloc (.cells #[.int .i64 0,.string ⟨#[]⟩,.int .i64 0,.slice none 0 0,.slice none 0 0,.slice none 0 0] 34)).heap.size (w3.alloc (.cells #[.int .i64 0,.string ⟨#[]⟩,.int .i64 0,.slice none 0 0,.slice none 0 0,.slice none 0 0] 34)) w4->Below w2.heap.size w2 w4/\w4.heap[w3.heap.size]?=some (.cells #[.int .i64 0,.string ⟨#[]⟩,.int .i64 0,.slice none 0 0,.slice none 0 0,.slice none 0 0] 34 (0,0))):=Lh (fun w3 h3 w4 hb4=>by
     have hz:(w3.alloc (.cells #[.int .i64 0,.string ⟨#[]⟩,.int .i64 0,.slice none 0 0,.slice none 0 0,.slice none 0 0] 34)).heap.size=w3.heap.size+1:=by simp
     have h0:(w3.alloc (.cells #[.int .i64 0,.string ⟨#[]⟩,.int .i64 0,.slice none 0 0,.slice none 0 0,.slice none 0 0] 34)).heap[w3.heap.size]?=some (.cells #[.int .i64 0,.string ⟨#[]⟩,.int .i64 0,.slice none 0 0,.slice none 0 0,.slice none 0 0] 34 (0,0)):=by rw [heap_get,if_pos rfl]
     exact ⟨(h3.alloc h3.size _).trans (hb4.mono (by have:=h3.size;omega)),(hb4.block _ (by omega)).trans h0⟩)
    refine wp_region_noPanic ?_
    refine wp_region_held_drew (S:=fun w'=>w'.cell? ⟨w.heap.size,5,none⟩=some (.slice (some ⟨y.l.b,y.l.o,none⟩) 2 y.l.cap)/\w'.cell? ⟨y.l.b,y.l.o,none⟩=some (.int .i64 gk)/\w'.cell? ⟨y.l.b,y.l.o+1,none⟩=some (.string ⟨gn.toArray⟩)/\w'.cell? ⟨y.l.b,y.l.o+2,none⟩=some (.int .i64 gm)/\w'.cell? ⟨y.l.b,y.l.o+3,none⟩=some (.slice y0.t.a gt.length y0.t.cap)/\w'.cell? ⟨y.l.b,y.l.o+4,none⟩=some (.slice y0.b.a gb.length y0.b.cap)/\w'.cell? ⟨y.l.b,y.l.o+5,none⟩=some (.slice y0.l.a gl.length y0.l.cap)/\w'.cell? ⟨y.l.b,y.l.o+6,none⟩=some (.int .i64 hk)/\w'.cell? ⟨y.l.b,y.l.o+7,none⟩=some (.string ⟨hn.toArray⟩)/\w'.cell? ⟨y.l.b,y.l.o+8,none⟩=some (.int .i64 hm)/\w'.cell? ⟨y.l.b,y.l.o+9,none⟩=some (.slice y1.t.a ht.length y1.t.cap)/\w'.cell? ⟨y.l.b,y.l.o+10,none⟩=some (.slice y1.b.a hb.length y1.b.cap)/\w'.cell? ⟨y.l.b,y.l.o+11,none⟩=some (.slice y1.l.a hl.length y1.l.cap)) (by kernel_rfl) (HX.out _ (Below.refl _ _).drew) (fun hHeld=>?_)
    refine tkA (i:=0) rfl hHeld ?_
    try simp only [Act.put,sb1,sb2,sb3]
    refine tkA (i:=1) rfl hHeld ?_
    try simp only [Act.put,sb1,sb2,sb3]
    refine tkA (i:=2) rfl hHeld ?_
    try simp only [Act.put,sb1,sb2,sb3]
    refine tkA (i:=3) rfl hHeld ?_
    try simp only [Act.put,sb1,sb2,sb3]
    refine tkA (i:=4) rfl hHeld ?_
    try simp only [Act.put,sb1,sb2,sb3]
    refine tkA (i:=5) rfl hHeld ?_
    try simp only [Act.put,sb1,sb2,sb3]
    refine tkA (i:=7) rfl hHeld ?_
    try simp only [Act.put,sb1,sb2,sb3]
    refine tkA (i:=8) rfl hHeld ?_
    try simp only [Act.put,sb1,sb2,sb3]
    refine tkA (i:=9) rfl hHeld ?_
    try simp only [Act.put,sb1,sb2,sb3]
    refine tkA (i:=10) rfl hHeld ?_
    try simp only [Act.put,sb1,sb2,sb3]
    refine tkA (i:=11) rfl hHeld ?_
    try simp only [Act.put,sb1,sb2,sb3]
    refine wpAnyH_ready (rs:=[6,15]) (by kernel_rfl) (by simp) ?_
    refine cons_at (dst:=some 55) rfl (fun K hK=>?_) (cons_at (dst:=some 5) rfl (fun K hK=>?_) AllReadyH.nil)
    ·go_simp
     go_at_call 74
     refine (HCA.out w2.drew (Below.refl _ _).drew).mono ?_
     rintro e w3 ⟨u3,rfl,hu3,hb3⟩
     simp only [ndV,FrmA.cells,SlA.val,Frm.kind,Frm.name,Frm.n,Frm.terms,Frm.binds,Frm.l]
     have K3:=Lh (aI ((Below.refl w2.heap.size w2).drew.trans (hb3.mono (Nat.le_refl _))) (aI hu3 hb3))
     clear hu3 hb3
     go_simp
     refine hK.out _ _ ?_ (fun hHeld2=>?_)
     ·exact HX.out _ K3.out.1
     clear hK K hHeld
     have hHeld:=hHeld2
     clear hHeld2
     try simp only [Act.put,sb1,sb2,sb3]
     refine wpAnyH_ready (rs:=[12,15]) (by kernel_rfl) (by simp) ?_
     refine cons_at (dst:=some 61) rfl (fun K hK=>?_) (cons_at (dst:=some 5) rfl (fun K hK=>?_) AllReadyH.nil)
     ·go_simp
      go_at_call 74
      refine (HCB.out w3 K3.out.1).mono ?_
      rintro e w4 ⟨u4,rfl,hu4,hb4⟩
      simp only [ndV,FrmA.cells,SlA.val,Frm.kind,Frm.name,Frm.n,Frm.terms,Frm.binds,Frm.l]
      have K4:=Lh (aI (K3.out.1.trans (hb4.mono K3.out.1.size)) (aI hu4 hb4))
      clear hu4 hb4
      go_simp
      refine hK.out _ _ ?_ (fun hHeld2=>?_)
      ·exact HX.out _ K4.out.1
      clear hK K hHeld
      have hHeld:=hHeld2
      clear hHeld2
      try simp only [Act.put,sb1,sb2,sb3]
      refine wpAnyH_ready (rs:=[13,15]) (by kernel_rfl) (by simp) ?_
      refine cons_at (dst:=some 62) rfl (fun K hK=>?_) (cons_at (dst:=some 5) rfl (fun K hK=>?_) AllReadyH.nil)
      ·go_simp
       refine hK.out _ _ ?_ (fun hHeld2=>?_)
       ·exact HX.out _ (K4.out.1.alloc K4.out.1.size _)
       clear hK K hHeld
       have hHeld:=hHeld2
       clear hHeld2
       try simp only [Act.put,sb1,sb2,sb3]
       refine tkA (i:=14) rfl hHeld ?_
       try simp only [Act.put,sb1,sb2,sb3]
       refine wpAnyH_ready (rs:=[15]) (by kernel_rfl) (by simp) ?_
       refine cons_at (dst:=some 5) rfl (fun K hK=>?_) AllReadyH.nil
       go_simp
       refine hK.out _ _ ?_ (fun hHeld2=>?_)
       ·exact HX.out _ ((K4.out.1.alloc K4.out.1.size _).alloc (K4.out.1.alloc K4.out.1.size _).size _)
       clear hK K hHeld
       have hHeld:=hHeld2
       clear hHeld2
       try simp only [Act.put,sb1,sb2,sb3]
       refine wpAnyH_ready (rs:=[16]) (by kernel_rfl) (by simp) ?_
       refine cons_at (dst:=none) rfl (fun K hK=>?_) AllReadyH.nil
       go_simp
       have hB:=HY.out.2.2
       have h02:=(HE.out _ H2.out).1.size
       have h3z:=K3.out.1.size
       have h4z:=K4.out.1.size
       have hfin:Pair13 B w2 (.mk ak an am at_ ab al) (.mk bk bn bm bt bb bl) (.pointer (some ⟨w4.heap.size+1,0,none⟩)) ((w4.alloc (.cells #[.int .i64 ak,.string ⟨an.toArray⟩,.int .i64 am,.slice u3.t.a at_.length u3.t.cap,.slice u3.b.a ab.length u3.b.cap,.slice u3.l.a al.length u3.l.cap,.int .i64 bk,.string ⟨bn.toArray⟩,.int .i64 bm,.slice u4.t.a bt.length u4.t.cap,.slice u4.b.a bb.length u4.b.cap,.slice u4.l.a bl.length u4.l.cap] 34)).alloc (.cells #[.int .i64 12,.string ⟨#[]⟩,.int .i64 0,.slice none 0 0,.slice none 0 0,.slice (some ⟨w4.heap.size,0,none⟩) 2 2] 34)):=pair13_of (Wa:=w2.drew) (w3:=w3) (Wb:=w3) (w4:=w4) (u3:=u3) (u4:=u4) (b5:=w4.heap.size+1) (bl:=w4.heap.size) (Nat.le_trans hB h02) (by first | exact Nat.le_refl _ | (simp;done) | (simp;omega) | omega) (by first | exact Nat.le_refl _ | (simp;done) | (simp;omega) | omega) h4z K3.out.2.1 K4.out.2.2 K4.out.2.1 (.inr (by have:=K4.out.2.2.size;omega)) (.inr (by omega)) (by omega) (K4.out.1.trans (Chalk.Mod.below (Chalk.Mod.of_below (((Below.refl w4.heap.size w4).alloc (Nat.le_refl _) _).alloc (by simp) _)) K4.out.1.size (fun k e=>by omega))) (Chalk.Mod.of_below (((Below.refl w4.heap.size w4).alloc (Nat.le_refl _) _).alloc (by simp) _)) (by rw [heap_get,if_neg (by simp),heap_get,if_pos rfl];rfl) (by omega) (by omega) (by rw [heap_get,if_pos (by simp)])
       have HF:=Lh hfin
       clear hfin hB h02 h3z h4z
       refine hK.out _ _ (HX.out _ (by obtain ⟨_,_,_,_,h,_⟩:=HF.out;exact h)) (fun _=>?_)
       clear hK K hHeld
       refine wpAnyH_done (by kernel_rfl) ?_ _
       refine NoPanic.normal ?_
       go_wp2_with fail
       go_meet
       exact HF.out
      ·go_simp
       refine hK.out _ _ ?_ (fun hHeld2=>?_)
       ·exact HX.out _ (K4.out.1.alloc K4.out.1.size _)
       clear hK K hHeld
       have hHeld:=hHeld2
       clear hHeld2
       try simp only [Act.put,sb1,sb2,sb3]
       refine wpAnyH_ready (rs:=[13]) (by kernel_rfl) (by simp) ?_
       refine cons_at (dst:=some 62) rfl (fun K hK=>?_) AllReadyH.nil
       go_simp
       refine hK.out _ _ ?_ (fun hHeld2=>?_)
       ·exact HX.out _ ((K4.out.1.alloc K4.out.1.size _).alloc (K4.out.1.alloc K4.out.1.size _).size _)
       clear hK K hHeld
       have hHeld:=hHeld2
       clear hHeld2
       try simp only [Act.put,sb1,sb2,sb3]
       refine tkA (i:=14) rfl hHeld ?_
       try simp only [Act.put,sb1,sb2,sb3]
       refine wpAnyH_ready (rs:=[16]) (by kernel_rfl) (by simp) ?_
       refine cons_at (dst:=none) rfl (fun K hK=>?_) AllReadyH.nil
       go_simp
       have hB:=HY.out.2.2
       have h02:=(HE.out _ H2.out).1.size
       have h3z:=K3.out.1.size
       have h4z:=K4.out.1.size
       have hfin:Pair13 B w2 (.mk ak an am at_ ab al) (.mk bk bn bm bt bb bl) (.pointer (some ⟨w4.heap.size,0,none⟩)) ((w4.alloc (.cells #[.int .i64 12,.string ⟨#[]⟩,.int .i64 0,.slice none 0 0,.slice none 0 0,.slice (some ⟨w4.heap.size+1,0,none⟩) 2 2] 34)).alloc (.cells #[.int .i64 ak,.string ⟨an.toArray⟩,.int .i64 am,.slice u3.t.a at_.length u3.t.cap,.slice u3.b.a ab.length u3.b.cap,.slice u3.l.a al.length u3.l.cap,.int .i64 bk,.string ⟨bn.toArray⟩,.int .i64 bm,.slice u4.t.a bt.length u4.t.cap,.slice u4.b.a bb.length u4.b.cap,.slice u4.l.a bl.length u4.l.cap] 34)):=pair13_of (Wa:=w2.drew) (w3:=w3) (Wb:=w3) (w4:=w4) (u3:=u3) (u4:=u4) (b5:=w4.heap.size) (bl:=w4.heap.size+1) (Nat.le_trans hB h02) (by first | exact Nat.le_refl _ | (simp;done) | (simp;omega) | omega) (by first | exact Nat.le_refl _ | (simp;done) | (simp;omega) | omega) h4z K3.out.2.1 K4.out.2.2 K4.out.2.1 (.inr (by have:=K4.out.2.2.size;omega)) (.inr (by omega)) (by omega) (K4.out.1.trans (Chalk.Mod.below (Chalk.Mod.of_below (((Below.refl w4.heap.size w4).alloc (Nat.le_refl _) _).alloc (by simp) _)) K4.out.1.size (fun k e=>by omega))) (Chalk.Mod.of_below (((Below.refl w4.heap.size w4).alloc (Nat.le_refl _) _).alloc (by simp) _)) (by rw [heap_get,if_pos (by simp)];rfl) (by omega) (by omega) (by rw [heap_get,if_neg (by simp),heap_get,if_pos rfl])
       have HF:=Lh hfin
       clear hfin hB h02 h3z h4z
       refine hK.out _ _ (HX.out _ (by obtain ⟨_,_,_,_,h,_⟩:=HF.out;exact h)) (fun _=>?_)
       clear hK K hHeld
       refine wpAnyH_done (by kernel_rfl) ?_ _
       refine NoPanic.normal ?_
       go_wp2_with fail
       go_meet
       exact HF.out
     ·go_simp
      refine hK.out _ _ ?_ (fun hHeld2=>?_)
      ·exact HX.out _ (K3.out.1.alloc K3.out.1.size _)
      clear hK K hHeld
      have hHeld:=hHeld2
      clear hHeld2
      try simp only [Act.put,sb1,sb2,sb3]
      refine wpAnyH_ready (rs:=[12]) (by kernel_rfl) (by simp) ?_
      refine cons_at (dst:=some 61) rfl (fun K hK=>?_) AllReadyH.nil
      go_simp
      go_at_call 74
      refine (HCB.out (w3.alloc (.cells #[.int .i64 0,.string ⟨#[]⟩,.int .i64 0,.slice none 0 0,.slice none 0 0,.slice none 0 0] 34)) (K3.out.1.alloc K3.out.1.size _)).mono ?_
      rintro e w4 ⟨u4,rfl,hu4,hb4⟩
      simp only [ndV,FrmA.cells,SlA.val,Frm.kind,Frm.name,Frm.n,Frm.terms,Frm.binds,Frm.l]
      have Z4:=(PB.out w3 K3.out.1 w4 hb4).2
      have K4:=Lh (aI (PB.out w3 K3.out.1 w4 hb4).1 (aI hu4 hb4))
      have fz0:w4.frozen? ⟨w3.heap.size,0,none⟩=false:=fH Z4
      have fz1:w4.frozen? ⟨w3.heap.size,1,none⟩=false:=fH Z4
      have fz2:w4.frozen? ⟨w3.heap.size,2,none⟩=false:=fH Z4
      have fz3:w4.frozen? ⟨w3.heap.size,3,none⟩=false:=fH Z4
      have fz4:w4.frozen? ⟨w3.heap.size,4,none⟩=false:=fH Z4
      have fz5:w4.frozen? ⟨w3.heap.size,5,none⟩=false:=fH Z4
      have xx0:w4.cell? ⟨w3.heap.size,0,none⟩=some (.int .i64 0):=cH Z4 rfl
      have xx1:w4.cell? ⟨w3.heap.size,1,none⟩=some (.string ⟨#[]⟩):=cH Z4 rfl
      have xx2:w4.cell? ⟨w3.heap.size,2,none⟩=some (.int .i64 0):=cH Z4 rfl
      have xx3:w4.cell? ⟨w3.heap.size,3,none⟩=some (.slice none 0 0):=cH Z4 rfl
      have xx4:w4.cell? ⟨w3.heap.size,4,none⟩=some (.slice none 0 0):=cH Z4 rfl
      have xx5:w4.cell? ⟨w3.heap.size,5,none⟩=some (.slice none 0 0):=cH Z4 rfl
      have hlt:w3.heap.size<w4.heap.size:=(gS Z4).1
      clear hu4 hb4
      have ZF:=Lh Z4
      clear Z4
      go_simp
      refine hK.out _ _ ?_ (fun hHeld2=>?_)
      ·exact HX.out _ K4.out.1
      clear hK K hHeld
      have hHeld:=hHeld2
      clear hHeld2
      try simp only [Act.put,sb1,sb2,sb3]
      refine wpAnyH_ready (rs:=[13]) (by kernel_rfl) (by simp) ?_
      refine cons_at (dst:=some 62) rfl (fun K hK=>?_) AllReadyH.nil
      go_simp
      refine hK.out _ _ ?_ (fun hHeld2=>?_)
      ·exact HX.out _ (K4.out.1.alloc K4.out.1.size _)
      clear hK K hHeld
      have hHeld:=hHeld2
      clear hHeld2
      try simp only [Act.put,sb1,sb2,sb3]
      refine tkA (i:=14) rfl hHeld ?_
      try simp only [Act.put,sb1,sb2,sb3]
      refine wpAnyH_ready (rs:=[16]) (by kernel_rfl) (by simp) ?_
      refine cons_at (dst:=none) rfl (fun K hK=>?_) AllReadyH.nil
      go_simp
      have hB:=HY.out.2.2
      have h02:=(HE.out _ H2.out).1.size
      have h3z:=K3.out.1.size
      have h4z:=K4.out.1.size
      have hpf:=put6_facts (row:=#[.int .i64 ak,.string ⟨an.toArray⟩,.int .i64 am,.slice u3.t.a at_.length u3.t.cap,.slice u3.b.a ab.length u3.b.cap,.slice u3.l.a al.length u3.l.cap,.int .i64 bk,.string ⟨bn.toArray⟩,.int .i64 bm,.slice u4.t.a bt.length u4.t.cap,.slice u4.b.a bb.length u4.b.cap,.slice u4.l.a bl.length u4.l.cap]) (T2:=34) (c0:=.int .i64 12) (c1:=.string ⟨#[]⟩) (c2:=.int .i64 0) (c3:=.slice none 0 0) (c4:=.slice none 0 0) (c5:=.slice (some ⟨w4.heap.size,0,none⟩) 2 2) hlt ZF.out
      rw [put6_eq]
      generalize (put6 w4 (w3.heap.size) (.int .i64 12) (.string ⟨#[]⟩) (.int .i64 0) (.slice none 0 0) (.slice none 0 0) (.slice (some ⟨w4.heap.size,0,none⟩) 2 2)).alloc (.cells #[.int .i64 ak,.string ⟨an.toArray⟩,.int .i64 am,.slice u3.t.a at_.length u3.t.cap,.slice u3.b.a ab.length u3.b.cap,.slice u3.l.a al.length u3.l.cap,.int .i64 bk,.string ⟨bn.toArray⟩,.int .i64 bm,.slice u4.t.a bt.length u4.t.cap,.slice u4.b.a bb.length u4.b.cap,.slice u4.l.a bl.length u4.l.cap] 34)=WP at hpf ⊢
      obtain ⟨hm,hr,hc⟩:=hpf
      have hfin:Pair13 B w2 (.mk ak an am at_ ab al) (.mk bk bn bm bt bb bl) (.pointer (some ⟨w3.heap.size,0,none⟩)) WP:=pair13_of (Wa:=w2.drew) (w3:=w3) (Wb:=(w3.alloc (.cells #[.int .i64 0,.string ⟨#[]⟩,.int .i64 0,.slice none 0 0,.slice none 0 0,.slice none 0 0] 34))) (w4:=w4) (u3:=u3) (u4:=u4) (b5:=w3.heap.size) (bl:=w4.heap.size) (Nat.le_trans hB h02) (by first | exact Nat.le_refl _ | (simp;done) | (simp;omega) | omega) (by first | exact Nat.le_refl _ | (simp;done) | (simp;omega) | omega) h4z K3.out.2.1 (((Below.refl w3.heap.size w3).alloc (Nat.le_refl _) _).trans (K4.out.2.2.mono (by simp))) K4.out.2.1 (.inr (Nat.le_refl _)) (.inl (by simp)) (by omega) (K4.out.1.trans (hm.below K4.out.1.size (fun k e=>by omega))) hm hr (Nat.le_refl _) (by omega) hc
      have HF:=Lh hfin
      clear hfin hB h02 h3z h4z hm hr hc
      refine hK.out _ _ (HX.out _ (by obtain ⟨_,_,_,_,h,_⟩:=HF.out;exact h)) (fun _=>?_)
      clear hK K hHeld
      refine wpAnyH_done (by kernel_rfl) ?_ _
      refine NoPanic.normal ?_
      go_wp2_with fail
      go_meet
      exact HF.out
    ·go_simp
     refine hK.out _ _ ?_ (fun hHeld2=>?_)
     ·exact HX.out _ ((Below.refl w2.heap.size w2).drew.alloc (Nat.le_refl _) _)
     clear hK K hHeld
     have hHeld:=hHeld2
     clear hHeld2
     try simp only [Act.put,sb1,sb2,sb3]
     refine wpAnyH_ready (rs:=[6]) (by kernel_rfl) (by simp) ?_
     refine cons_at (dst:=some 55) rfl (fun K hK=>?_) AllReadyH.nil
     go_simp
     go_at_call 74
     refine (HCA.out (w2.drew.alloc (.cells #[.int .i64 0,.string ⟨#[]⟩,.int .i64 0,.slice none 0 0,.slice none 0 0,.slice none 0 0] 34)) ((Below.refl _ _).drew.alloc (Nat.le_refl _) _)).mono ?_
     rintro e w3 ⟨u3,rfl,hu3,hb3⟩
     simp only [ndV,FrmA.cells,SlA.val,Frm.kind,Frm.name,Frm.n,Frm.terms,Frm.binds,Frm.l]
     have K3:=Lh (aI (PA.out w3 hb3).1 (aI hu3 hb3))
     have Z3:=Lh (PA.out w3 hb3).2
     clear hu3 hb3
     go_simp
     refine hK.out _ _ ?_ (fun hHeld2=>?_)
     ·exact HX.out _ K3.out.1
     clear hK K hHeld
     have hHeld:=hHeld2
     clear hHeld2
     try simp only [Act.put,sb1,sb2,sb3]
     refine wpAnyH_ready (rs:=[12]) (by kernel_rfl) (by simp) ?_
     refine cons_at (dst:=some 61) rfl (fun K hK=>?_) AllReadyH.nil
     go_simp
     go_at_call 74
     refine (HCB.out w3 K3.out.1).mono ?_
     rintro e w4 ⟨u4,rfl,hu4,hb4⟩
     simp only [ndV,FrmA.cells,SlA.val,Frm.kind,Frm.name,Frm.n,Frm.terms,Frm.binds,Frm.l]
     have Z4:=Z3.out w4 hb4
     have K4:=Lh (aI (K3.out.1.trans (hb4.mono K3.out.1.size)) (aI hu4 hb4))
     have fz0:w4.frozen? ⟨w2.heap.size,0,none⟩=false:=fH Z4
     have fz1:w4.frozen? ⟨w2.heap.size,1,none⟩=false:=fH Z4
     have fz2:w4.frozen? ⟨w2.heap.size,2,none⟩=false:=fH Z4
     have fz3:w4.frozen? ⟨w2.heap.size,3,none⟩=false:=fH Z4
     have fz4:w4.frozen? ⟨w2.heap.size,4,none⟩=false:=fH Z4
     have fz5:w4.frozen? ⟨w2.heap.size,5,none⟩=false:=fH Z4
     have xx0:w4.cell? ⟨w2.heap.size,0,none⟩=some (.int .i64 0):=cH Z4 rfl
     have xx1:w4.cell? ⟨w2.heap.size,1,none⟩=some (.string ⟨#[]⟩):=cH Z4 rfl
     have xx2:w4.cell? ⟨w2.heap.size,2,none⟩=some (.int .i64 0):=cH Z4 rfl
     have xx3:w4.cell? ⟨w2.heap.size,3,none⟩=some (.slice none 0 0):=cH Z4 rfl
     have xx4:w4.cell? ⟨w2.heap.size,4,none⟩=some (.slice none 0 0):=cH Z4 rfl
     have xx5:w4.cell? ⟨w2.heap.size,5,none⟩=some (.slice none 0 0):=cH Z4 rfl
     have hlt:w2.heap.size<w4.heap.size:=(gS Z4).1
     clear hu4 hb4
     have ZF:=Lh Z4
     clear Z4
     go_simp
     refine hK.out _ _ ?_ (fun hHeld2=>?_)
     ·exact HX.out _ K4.out.1
     clear hK K hHeld
     have hHeld:=hHeld2
     clear hHeld2
     try simp only [Act.put,sb1,sb2,sb3]
     refine wpAnyH_ready (rs:=[13]) (by kernel_rfl) (by simp) ?_
     refine cons_at (dst:=some 62) rfl (fun K hK=>?_) AllReadyH.nil
     go_simp
     refine hK.out _ _ ?_ (fun hHeld2=>?_)
     ·exact HX.out _ (K4.out.1.alloc K4.out.1.size _)
     clear hK K hHeld
     have hHeld:=hHeld2
     clear hHeld2
     try simp only [Act.put,sb1,sb2,sb3]
     refine tkA (i:=14) rfl hHeld ?_
     try simp only [Act.put,sb1,sb2,sb3]
     refine wpAnyH_ready (rs:=[16]) (by kernel_rfl) (by simp) ?_
     refine cons_at (dst:=none) rfl (fun K hK=>?_) AllReadyH.nil
     go_simp
     have hB:=HY.out.2.2
     have h02:=(HE.out _ H2.out).1.size
     have h3z:=K3.out.1.size
     have h4z:=K4.out.1.size
     have hpf:=put6_facts (row:=#[.int .i64 ak,.string ⟨an.toArray⟩,.int .i64 am,.slice u3.t.a at_.length u3.t.cap,.slice u3.b.a ab.length u3.b.cap,.slice u3.l.a al.length u3.l.cap,.int .i64 bk,.string ⟨bn.toArray⟩,.int .i64 bm,.slice u4.t.a bt.length u4.t.cap,.slice u4.b.a bb.length u4.b.cap,.slice u4.l.a bl.length u4.l.cap]) (T2:=34) (c0:=.int .i64 12) (c1:=.string ⟨#[]⟩) (c2:=.int .i64 0) (c3:=.slice none 0 0) (c4:=.slice none 0 0) (c5:=.slice (some ⟨w4.heap.size,0,none⟩) 2 2) hlt ZF.out
     rw [put6_eq]
     generalize (put6 w4 (w2.heap.size) (.int .i64 12) (.string ⟨#[]⟩) (.int .i64 0) (.slice none 0 0) (.slice none 0 0) (.slice (some ⟨w4.heap.size,0,none⟩) 2 2)).alloc (.cells #[.int .i64 ak,.string ⟨an.toArray⟩,.int .i64 am,.slice u3.t.a at_.length u3.t.cap,.slice u3.b.a ab.length u3.b.cap,.slice u3.l.a al.length u3.l.cap,.int .i64 bk,.string ⟨bn.toArray⟩,.int .i64 bm,.slice u4.t.a bt.length u4.t.cap,.slice u4.b.a bb.length u4.b.cap,.slice u4.l.a bl.length u4.l.cap] 34)=WP at hpf ⊢
     obtain ⟨hm,hr,hc⟩:=hpf
     have hfin:Pair13 B w2 (.mk ak an am at_ ab al) (.mk bk bn bm bt bb bl) (.pointer (some ⟨w2.heap.size,0,none⟩)) WP:=pair13_of (Wa:=(w2.drew.alloc (.cells #[.int .i64 0,.string ⟨#[]⟩,.int .i64 0,.slice none 0 0,.slice none 0 0,.slice none 0 0] 34))) (w3:=w3) (Wb:=w3) (w4:=w4) (u3:=u3) (u4:=u4) (b5:=w2.heap.size) (bl:=w4.heap.size) (Nat.le_trans hB h02) (by first | exact Nat.le_refl _ | (simp;done) | (simp;omega) | omega) (by first | exact Nat.le_refl _ | (simp;done) | (simp;omega) | omega) h4z K3.out.2.1 K4.out.2.2 K4.out.2.1 (.inl (by simp)) (.inl (by have:=K3.out.2.2.size;simp at this;omega)) (by omega) (K4.out.1.trans (hm.below K4.out.1.size (fun k e=>by omega))) hm hr (Nat.le_refl _) (by omega) hc
     have HF:=Lh hfin
     clear hfin hB h02 h3z h4z hm hr hc
     refine hK.out _ _ (HX.out _ (by obtain ⟨_,_,_,_,h,_⟩:=HF.out;exact h)) (fun _=>?_)
     clear hK K hHeld
     refine wpAnyH_done (by kernel_rfl) ?_ _
     refine NoPanic.normal ?_
     go_wp2_with fail
     go_meet
     exact HF.out
   case rest =>
    obtain ⟨b5,u,rfl,hb5,hbx,hcell,hsl⟩:=hcut
    have HBX:=Lh (aI hbx (aI hb5 hsl))
    have H3:=Lh (H2.out.trans (hbx.mono H2.out.size))
    obtain ⟨_,_,y5⟩:=HE.out wc H3.out
    have hz2:=HZ0.out
    have hz3:=H2.out.size
    have HZ2:=Lh (show w.heap.size+2<=w2.heap.size by omega)
    have hn1:¬ (w.heap.size+1=b5):=by omega
    have hn2:¬ (b5=w.heap.size+1):=by omega
    have hlt5:b5<wc.heap.size:=(gS hcell).1
    have fz0:wc.frozen? ⟨w.heap.size+1,0,none⟩=false:=fH y5
    have fz1:wc.frozen? ⟨w.heap.size+1,1,none⟩=false:=fH y5
    have fz2:wc.frozen? ⟨w.heap.size+1,2,none⟩=false:=fH y5
    have fz3:wc.frozen? ⟨w.heap.size+1,3,none⟩=false:=fH y5
    have fz4:wc.frozen? ⟨w.heap.size+1,4,none⟩=false:=fH y5
    have fz5:wc.frozen? ⟨w.heap.size+1,5,none⟩=false:=fH y5
    have x0:wc.cell? ⟨w.heap.size+1,0,none⟩=some (.int .i64 0):=cH y5 rfl
    have x1:wc.cell? ⟨w.heap.size+1,1,none⟩=some (.string ⟨#[]⟩):=cH y5 rfl
    have x2:wc.cell? ⟨w.heap.size+1,2,none⟩=some (.int .i64 0):=cH y5 rfl
    have x3:wc.cell? ⟨w.heap.size+1,3,none⟩=some (.slice none 0 0):=cH y5 rfl
    have x4:wc.cell? ⟨w.heap.size+1,4,none⟩=some (.slice none 0 0):=cH y5 rfl
    have x5:wc.cell? ⟨w.heap.size+1,5,none⟩=some (.slice none 0 0):=cH y5 rfl
    clear y5
    have d0:wc.cell? ⟨b5,0,none⟩=some (.int .i64 12):=cH hcell rfl
    have d1:wc.cell? ⟨b5,1,none⟩=some (.string ⟨#[]⟩):=cH hcell rfl
    have d2:wc.cell? ⟨b5,2,none⟩=some (.int .i64 0):=cH hcell rfl
    have d3:wc.cell? ⟨b5,3,none⟩=some (.slice none 0 0):=cH hcell rfl
    have d4:wc.cell? ⟨b5,4,none⟩=some (.slice none 0 0):=cH hcell rfl
    have d5:wc.cell? ⟨b5,5,none⟩=some (.slice u.a 2 u.cap):=cH hcell rfl
    have dz:wc.frozen? ⟨b5,0,none⟩=false:=fH hcell
    have HFIN:=Lh (fun (W:World) (kd:Int) (hm:Chalk.Mod (fun k=>k=b5∨k=w.heap.size+1) wc W) (hk:I64 kd)=>pair13_fin HY.out.2.2 (HE.out _ H2.out).1 HZ2.out hbx hb5 hsl hm hk)
    clear hbx hb5 hsl hcell hz2 hz3
    cases turn
    ·go_wp2_with fail
     refine bodyPost_ret (v:=.agg #[.int .i64 12,.string ⟨#[]⟩,.int .i64 0,.slice none 0 0,.slice none 0 0,.slice u.a 2 u.cap]) (by simp [results,Tryz.results74,go_sem, *]) rfl ?_
     rw [HRR.out,put6_eq]
     exact RPost.of rfl (HFIN.out _ 12 ((put6_mod _ _ _ _ _ _ _ _).mono (fun _ e=>.inr e)) (i64_of (by decide)))
    ·go_wp2_with fail
     refine bodyPost_ret (v:=.agg #[.int .i64 11,.string ⟨#[]⟩,.int .i64 0,.slice none 0 0,.slice none 0 0,.slice u.a 2 u.cap]) (by simp [results,Tryz.results74,go_sem, *]) rfl ?_
     rw [HRR.out,put6_eq]
     exact RPost.of rfl (HFIN.out _ 11 (((Chalk.Mod.refl (fun k=>k=b5∨k=w.heap.size+1) wc).setCell (p:=⟨b5,0,none⟩) (fun _=>.inl rfl) _).trans (T:=fun k=>k=w.heap.size+1) (put6_mod _ _ _ _ _ _ _ _) (fun _ _ e=>.inr e)) (i64_of (by decide)))
  have dk13:(kind==13)=false:=by simp [hk13]
  have HK13:=Lh hk13
  clear hk13
  have HAT:Hid (∀ w,Calls Tryz.prog 137 #[.int .i64 kind] w fun e w'=>e=.returned (.bool (atomK kind))/\w=w'):=Lh (fun w=>atom_any kind w)
  by_cases hN:atomK kind=true/\turn=true/\kind ≠ 9
  ·obtain ⟨hat,rfl,hk9⟩:=hN
   rw [hat] at HAT
   have HRR:Hid (rightF (.mk kind name n terms binds fl) true=.mk 10 [] 0 [] [] [.mk kind name n terms binds fl]):=Lh (by
    rw [HR.out]
    simp [rightNode,HA2.out,HK2.out,HK10.out,HK13.out,hat,hk9])
   have dk9:(kind != 9)=true:=by simp [hk9]
   clear p2 p3 p4 p5 hll hm HIH hat hk9
   go_enter Tryz.func74,Tryz.ntmps74
   go_wp2_with fail
   rw [<- HW0.out]
   refine (HAL.out _).mono ?_
   rintro e w1 ⟨rfl,hb⟩
   have H1:=Lh hb
   clear hb
   obtain ⟨_,⟨f0,f1,f2,f3,f4,f5⟩,y5⟩:=HE.out w1 H1.out
   go_wp2_with fail
   refine (HAL.out _).mono ?_
   rintro e w2 ⟨rfl,hb⟩
   have H2:=Lh (H1.out.trans (hb.mono H1.out.size))
   clear hb
   clear f0 f1 f2 f3 f4 f5 y5
   obtain ⟨_,⟨f0,f1,f2,f3,f4,f5⟩,y5⟩:=HE.out w2 H2.out
   have hl2:w.heap.size+1<w2.heap.size:=by have:=HZ0.out;have:=H2.out.size;omega
   generalize hHH:w.heap.size+1=H at y5 hl2 ⊢
   have HHH:=Lh hHH
   have HRES:=Lh y5
   clear hHH
   have fz0:w2.frozen? ⟨H,0,none⟩=false:=fH y5
   have fz1:w2.frozen? ⟨H,1,none⟩=false:=fH y5
   have fz2:w2.frozen? ⟨H,2,none⟩=false:=fH y5
   have fz3:w2.frozen? ⟨H,3,none⟩=false:=fH y5
   have fz4:w2.frozen? ⟨H,4,none⟩=false:=fH y5
   have fz5:w2.frozen? ⟨H,5,none⟩=false:=fH y5
   have x0:w2.cell? ⟨H,0,none⟩=some (.int .i64 0):=cH y5 rfl
   have x1:w2.cell? ⟨H,1,none⟩=some (.string ⟨#[]⟩):=cH y5 rfl
   have x2:w2.cell? ⟨H,2,none⟩=some (.int .i64 0):=cH y5 rfl
   have x3:w2.cell? ⟨H,3,none⟩=some (.slice none 0 0):=cH y5 rfl
   have x4:w2.cell? ⟨H,4,none⟩=some (.slice none 0 0):=cH y5 rfl
   have x5:w2.cell? ⟨H,5,none⟩=some (.slice none 0 0):=cH y5 rfl
   clear y5
   go_wp2_with fail
   refine (HAT.out w2).mono ?_
   rintro e w3 ⟨rfl,h3⟩
   subst h3
   go_upto_region 13 with fail
   go_cut [80] from 79 to 81 (fun v wx=>NotEnd B w w2 (.mk kind name n terms binds fl) H wx)
   case first =>
    go_wp2_with fail
    go_meet
    rw [put6_eq]
    refine ⟨?_,(put6_facts hl2 HRES.out).2.2⟩
    have h:=not_fin (f:=.mk kind name n terms binds fl) (y:=y) (H:=H) (c0:=.int .i64 10) (c1:=.string ⟨#[]⟩) (c2:=.int .i64 0) (c3:=.slice none 0 0) (c4:=.slice none 0 0) (c5:=.slice (some ⟨w2.heap.size,0,none⟩) 1 1) HY.out.2.2 (HE.out _ H2.out).1 (by have:=HHH.out;omega) hl2 HY.out.1
    simp only [FrmA.cells,SlA.val,Frm.kind,Frm.name,Frm.n,Frm.terms,Frm.binds,Frm.l,HNF.out] at h
    exact h
   case rest =>
    obtain ⟨hfin,hcell⟩:=hcut
    have HFIN:=Lh hfin
    have z0:wc.cell? ⟨H,0,none⟩=some (.int .i64 10):=cH hcell rfl
    have z1:wc.cell? ⟨H,1,none⟩=some (.string ⟨#[]⟩):=cH hcell rfl
    have z2:wc.cell? ⟨H,2,none⟩=some (.int .i64 0):=cH hcell rfl
    have z3:wc.cell? ⟨H,3,none⟩=some (.slice none 0 0):=cH hcell rfl
    have z4:wc.cell? ⟨H,4,none⟩=some (.slice none 0 0):=cH hcell rfl
    have z5:wc.cell? ⟨H,5,none⟩=some (.slice (some ⟨w2.heap.size,0,none⟩) 1 1):=cH hcell rfl
    clear hfin hcell f0 f1 f2 f3 f4 f5 fz0 fz1 fz2 fz3 fz4 fz5 x0 x1 x2 x3 x4 x5
    go_wp2_with fail
    refine bodyPost_ret (v:=.agg #[.int .i64 10,.string ⟨#[]⟩,.int .i64 0,.slice none 0 0,.slice none 0 0,.slice (some ⟨w2.heap.size,0,none⟩) 1 1]) (by simp [results,Tryz.results74,go_sem,z0,z1,z2,z3,z4,z5]) rfl ?_
    rw [HRR.out]
    exact RPost.of rfl HFIN.out
  have HNK:=Lh hN
  clear hN
  go_enter Tryz.func74,Tryz.ntmps74
  go_wp2_with fail
  rw [<- HW0.out]
  refine (HAL.out _).mono ?_
  rintro e w1 ⟨rfl,hb⟩
  have H1:=Lh hb
  clear hb
  obtain ⟨_,⟨f0,f1,f2,f3,f4,f5⟩,y5⟩:=HE.out w1 H1.out
  go_wp2_with fail
  refine (HAL.out _).mono ?_
  rintro e w2 ⟨rfl,hb⟩
  have H2:=Lh (H1.out.trans (hb.mono H1.out.size))
  clear hb
  clear f0 f1 f2 f3 f4 f5 y5
  obtain ⟨_,⟨f0,f1,f2,f3,f4,f5⟩,y5⟩:=HE.out w2 H2.out
  have HRES:=Lh y5
  clear y5
  go_upto_region 12 with fail
  go_cut [67] from 68 to 78 (fun v wx=>v=.bool false/\w2=wx)
  case first =>
   rcases Bool.eq_false_or_eq_true (atomK kind) with hat | hat
   ·rw [hat] at HAT
    cases turn
    ·go_wp2_with (go_at_call 137;refine (HAT.out _).mono ?_;rintro e w' ⟨rfl,rfl⟩)
     go_meet
     exact ⟨rfl,rfl⟩
    ·obtain rfl:kind=9:=by
      by_cases h:kind=9
      ·exact h
      ·exact absurd ⟨hat,rfl,h⟩ HNK.out
     clear dk2 dk10 dk13
     go_wp2_with (go_at_call 137;refine (HAT.out _).mono ?_;rintro e w' ⟨rfl,rfl⟩)
     go_meet
     exact ⟨rfl,rfl⟩
   ·rw [hat] at HAT
    go_wp2_with (go_at_call 137;refine (HAT.out _).mono ?_;rintro e w' ⟨rfl,rfl⟩)
    go_meet
    exact ⟨rfl,rfl⟩
  case rest =>
   obtain ⟨rfl,rfl⟩:=hcut
   go_upto_region 14 with fail
   go_cut [6] from 82 to 94 (fun p wx=>Node14 w2 kind name n terms binds p wx)
   case first =>
    have hW2:=(HE.out _ H2.out).1
    have hsm:=HY.out.2.1.nodes _ (by rw [nodesF];exact List.mem_cons_self ..)
    have hBw:=HY.out.2.2
    have HCA:Hid (∀ W,Below w2.heap.size w2 W->Calls Tryz.prog 138 #[.slice y.t.a terms.length y.t.cap] W fun e w'=>∃ u:SlA,e=.returned (.slice u.a terms.length u.cap)/\SlIn w' (fun k=>W.heap.size<=k/\k<w'.heap.size) (terms.map Trm.toD) u/\Below W.heap.size W w'):=Lh (fun W hW=>by
     have hb:=hW2.trans (hW.mono hW2.size)
     exact cloneT terms y.t W (HY.out.1.terms.later (hb.mono hBw) (by have:=hb.size;omega)) hsm.1)
    have HCB:Hid (∀ W,Below w2.heap.size w2 W->Calls Tryz.prog 139 #[.slice y.b.a binds.length y.b.cap] W fun e w'=>∃ u:SlA,e=.returned (.slice u.a binds.length u.cap)/\SlIn w' (fun k=>W.heap.size<=k/\k<w'.heap.size) (binds.map Bnd.toD) u/\Below W.heap.size W w'):=Lh (fun W hW=>by
     have hb:=hW2.trans (hW.mono hW2.size)
     exact cloneB binds y.b W (HY.out.1.binds.later (hb.mono hBw) (by have:=hb.size;omega)) hsm.2.1)
    have HX:Hid (∀ w',Below w2.heap.size w2 w'->w'.cell? ⟨w.heap.size,0,none⟩=some (.int .i64 kind)/\w'.cell? ⟨w.heap.size,1,none⟩=some (.string ⟨name.toArray⟩)/\w'.cell? ⟨w.heap.size,2,none⟩=some (.int .i64 n)/\w'.cell? ⟨w.heap.size,3,none⟩=some (.slice y.t.a terms.length y.t.cap)/\w'.cell? ⟨w.heap.size,4,none⟩=some (.slice y.b.a binds.length y.b.cap)):=Lh (fun w' hW=>by
     have h0:w.heap.size<w2.heap.size:=by have:=HZ0.out;have:=H2.out.size;omega
     exact ⟨(hW.cell (p:=⟨w.heap.size,0,none⟩) h0).trans f0,(hW.cell (p:=⟨w.heap.size,1,none⟩) h0).trans f1,(hW.cell (p:=⟨w.heap.size,2,none⟩) h0).trans f2,(hW.cell (p:=⟨w.heap.size,3,none⟩) h0).trans f3,(hW.cell (p:=⟨w.heap.size,4,none⟩) h0).trans f4⟩)
    clear f0 f1 f2 f3 f4 f5 hW2 hsm hBw
    have PA:Hid (∀ w3,Below (w2.drew.alloc (.cells #[.int .i64 0,.string ⟨#[]⟩,.int .i64 0,.slice none 0 0,.slice none 0 0,.slice none 0 0] 34)).heap.size (w2.drew.alloc (.cells #[.int .i64 0,.string ⟨#[]⟩,.int .i64 0,.slice none 0 0,.slice none 0 0,.slice none 0 0] 34)) w3->Below w2.heap.size w2 w3/\∀ W',Below w3.heap.size w3 W'->W'.heap[w2.heap.size]?=some (.cells #[.int .i64 0,.string ⟨#[]⟩,.int .i64 0,.slice none 0 0,.slice none 0 0,.slice none 0 0] 34 (0,0))):=Lh (fun w3 hb3=>by
     have hz:(w2.drew.alloc (.cells #[.int .i64 0,.string ⟨#[]⟩,.int .i64 0,.slice none 0 0,.slice none 0 0,.slice none 0 0] 34)).heap.size=w2.heap.size+1:=by simp
     have h0:(w2.drew.alloc (.cells #[.int .i64 0,.string ⟨#[]⟩,.int .i64 0,.slice none 0 0,.slice none 0 0,.slice none 0 0] 34)).heap[w2.heap.size]?=some (.cells #[.int .i64 0,.string ⟨#[]⟩,.int .i64 0,.slice none 0 0,.slice none 0 0,.slice none 0 0] 34 (0,0)):=by rw [heap_get,if_pos (show w2.heap.size=w2.drew.heap.size from rfl)]
     exact ⟨((Below.refl w2.heap.size w2).drew.alloc (Nat.le_refl _) _).trans (hb3.mono (by omega)),fun W' hW'=>(hW'.block _ (by have:=hb3.size;omega)).trans ((hb3.block _ (by omega)).trans h0)⟩)
    have PB:Hid (∀ w3,Below w2.heap.size w2 w3->∀ w4,Below (w3.alloc (.cells #[.int .i64 0,.string ⟨#[]⟩,.int .i64 0,.slice none 0 0,.slice none 0 0,.slice none 0 0] 34)).heap.size (w3.alloc (.cells #[.int .i64 0,.string ⟨#[]⟩,.int .i64 0,.slice none 0 0,.slice none 0 0,.slice none 0 0] 34)) w4->Below w2.heap.size w2 w4/\w4.heap[w3.heap.size]?=some (.cells #[.int .i64 0,.string ⟨#[]⟩,.int .i64 0,.slice none 0 0,.slice none 0 0,.slice none 0 0] 34 (0,0))):=Lh (fun w3 h3 w4 hb4=>by
     have hz:(w3.alloc (.cells #[.int .i64 0,.string ⟨#[]⟩,.int .i64 0,.slice none 0 0,.slice none 0 0,.slice none 0 0] 34)).heap.size=w3.heap.size+1:=by simp
     have h0:(w3.alloc (.cells #[.int .i64 0,.string ⟨#[]⟩,.int .i64 0,.slice none 0 0,.slice none 0 0,.slice none 0 0] 34)).heap[w3.heap.size]?=some (.cells #[.int .i64 0,.string ⟨#[]⟩,.int .i64 0,.slice none 0 0,.slice none 0 0,.slice none 0 0] 34 (0,0)):=by rw [heap_get,if_pos rfl]
     exact ⟨(h3.alloc h3.size _).trans (hb4.mono (by have:=h3.size;omega)),(hb4.block _ (by omega)).trans h0⟩)
    refine wp_region_noPanic ?_
    refine wp_region_held_drew (S:=fun w'=>w'.cell? ⟨w.heap.size,0,none⟩=some (.int .i64 kind)/\w'.cell? ⟨w.heap.size,1,none⟩=some (.string ⟨name.toArray⟩)/\w'.cell? ⟨w.heap.size,2,none⟩=some (.int .i64 n)/\w'.cell? ⟨w.heap.size,3,none⟩=some (.slice y.t.a terms.length y.t.cap)/\w'.cell? ⟨w.heap.size,4,none⟩=some (.slice y.b.a binds.length y.b.cap)) (by kernel_rfl) (HX.out _ (Below.refl _ _).drew) (fun hHeld=>?_)
    refine tkA (i:=0) rfl hHeld ?_
    try simp only [Act.put,sb1,sb2,sb3]
    refine tkA (i:=1) rfl hHeld ?_
    try simp only [Act.put,sb1,sb2,sb3]
    refine tkA (i:=2) rfl hHeld ?_
    try simp only [Act.put,sb1,sb2,sb3]
    refine tkA (i:=3) rfl hHeld ?_
    try simp only [Act.put,sb1,sb2,sb3]
    refine tkA (i:=4) rfl hHeld ?_
    try simp only [Act.put,sb1,sb2,sb3]
    refine tkA (i:=5) rfl hHeld ?_
    try simp only [Act.put,sb1,sb2,sb3]
    refine tkA (i:=6) rfl hHeld ?_
    try simp only [Act.put,sb1,sb2,sb3]
    refine tkA (i:=7) rfl hHeld ?_
    try simp only [Act.put,sb1,sb2,sb3]
    refine tkA (i:=9) rfl hHeld ?_
    try simp only [Act.put,sb1,sb2,sb3]
    refine tkA (i:=10) rfl hHeld ?_
    try simp only [Act.put,sb1,sb2,sb3]
    refine wpAnyH_ready (rs:=[8,13]) (by kernel_rfl) (by simp) ?_
    refine cons_at (dst:=some 90) rfl (fun K hK=>?_) (cons_at (dst:=some 6) rfl (fun K hK=>?_) AllReadyH.nil)
    ·go_simp
     go_at_call 138
     refine (HCA.out w2.drew (Below.refl _ _).drew).mono ?_
     rintro e w3 ⟨u3,rfl,hu3,hb3⟩
     have K3:=Lh (aI ((Below.refl w2.heap.size w2).drew.trans (hb3.mono (Nat.le_refl _))) (aI hu3 hb3))
     clear hu3 hb3
     go_simp
     refine hK.out _ _ ?_ (fun hHeld2=>?_)
     ·exact HX.out _ K3.out.1
     clear hK K hHeld
     have hHeld:=hHeld2
     clear hHeld2
     try simp only [Act.put,sb1,sb2,sb3]
     refine wpAnyH_ready (rs:=[11,13]) (by kernel_rfl) (by simp) ?_
     refine cons_at (dst:=some 93) rfl (fun K hK=>?_) (cons_at (dst:=some 6) rfl (fun K hK=>?_) AllReadyH.nil)
     ·go_simp
      go_at_call 139
      refine (HCB.out w3 K3.out.1).mono ?_
      rintro e w4 ⟨u4,rfl,hu4,hb4⟩
      have K4:=Lh (aI (K3.out.1.trans (hb4.mono K3.out.1.size)) (aI hu4 hb4))
      clear hu4 hb4
      go_simp
      refine hK.out _ _ ?_ (fun hHeld2=>?_)
      ·exact HX.out _ K4.out.1
      clear hK K hHeld
      have hHeld:=hHeld2
      clear hHeld2
      try simp only [Act.put,sb1,sb2,sb3]
      refine tkA (i:=12) rfl hHeld ?_
      try simp only [Act.put,sb1,sb2,sb3]
      refine wpAnyH_ready (rs:=[13]) (by kernel_rfl) (by simp) ?_
      refine cons_at (dst:=some 6) rfl (fun K hK=>?_) AllReadyH.nil
      go_simp
      refine hK.out _ _ ?_ (fun hHeld2=>?_)
      ·exact HX.out _ (K4.out.1.alloc K4.out.1.size _)
      clear hK K hHeld
      have hHeld:=hHeld2
      clear hHeld2
      try simp only [Act.put,sb1,sb2,sb3]
      refine wpAnyH_ready (rs:=[14]) (by kernel_rfl) (by simp) ?_
      refine cons_at (dst:=none) rfl (fun K hK=>?_) AllReadyH.nil
      go_simp
      have h3z:=K3.out.1.size
      have h4z:=K4.out.1.size
      have hfin:Node14 w2 kind name n terms binds (.pointer (some ⟨w4.heap.size,0,none⟩)) (w4.alloc (.cells #[.int .i64 kind,.string ⟨name.toArray⟩,.int .i64 n,.slice u3.a terms.length u3.cap,.slice u4.a binds.length u4.cap,.slice none 0 0] 34)):=node14_of (Wa:=w2.drew) (w3:=w3) (Wb:=w3) (w4:=w4) (xt:=u3) (xb:=u4) (b6:=w4.heap.size) (by first | exact Nat.le_refl _ | (simp;done) | (simp;omega) | omega) (by first | exact Nat.le_refl _ | (simp;done) | (simp;omega) | omega) K3.out.2.1 K4.out.2.2 K4.out.2.1 (.inr (by have:=K4.out.2.2.size;omega)) (.inr (Nat.le_refl _)) h4z (K4.out.1.alloc K4.out.1.size _) (Chalk.Mod.of_below ((Below.refl w4.heap.size w4).alloc (Nat.le_refl _) _)) (by rw [heap_get,if_pos rfl])
      have HF:=Lh hfin
      clear hfin h3z h4z
      refine hK.out _ _ (HX.out _ (by obtain ⟨_,_,_,_,_,h,_⟩:=HF.out;exact h)) (fun _=>?_)
      clear hK K hHeld
      refine wpAnyH_done (by kernel_rfl) ?_ _
      refine NoPanic.normal ?_
      go_wp2_with fail
      go_meet
      exact HF.out
     ·go_simp
      refine hK.out _ _ ?_ (fun hHeld2=>?_)
      ·exact HX.out _ (K3.out.1.alloc K3.out.1.size _)
      clear hK K hHeld
      have hHeld:=hHeld2
      clear hHeld2
      try simp only [Act.put,sb1,sb2,sb3]
      refine wpAnyH_ready (rs:=[11]) (by kernel_rfl) (by simp) ?_
      refine cons_at (dst:=some 93) rfl (fun K hK=>?_) AllReadyH.nil
      go_simp
      go_at_call 139
      refine (HCB.out (w3.alloc (.cells #[.int .i64 0,.string ⟨#[]⟩,.int .i64 0,.slice none 0 0,.slice none 0 0,.slice none 0 0] 34)) (K3.out.1.alloc K3.out.1.size _)).mono ?_
      rintro e w4 ⟨u4,rfl,hu4,hb4⟩
      have Z4:=(PB.out w3 K3.out.1 w4 hb4).2
      have K4:=Lh (aI (PB.out w3 K3.out.1 w4 hb4).1 (aI hu4 hb4))
      have fz0:w4.frozen? ⟨w3.heap.size,0,none⟩=false:=fH Z4
      have fz1:w4.frozen? ⟨w3.heap.size,1,none⟩=false:=fH Z4
      have fz2:w4.frozen? ⟨w3.heap.size,2,none⟩=false:=fH Z4
      have fz3:w4.frozen? ⟨w3.heap.size,3,none⟩=false:=fH Z4
      have fz4:w4.frozen? ⟨w3.heap.size,4,none⟩=false:=fH Z4
      have fz5:w4.frozen? ⟨w3.heap.size,5,none⟩=false:=fH Z4
      have xx0:w4.cell? ⟨w3.heap.size,0,none⟩=some (.int .i64 0):=cH Z4 rfl
      have xx1:w4.cell? ⟨w3.heap.size,1,none⟩=some (.string ⟨#[]⟩):=cH Z4 rfl
      have xx2:w4.cell? ⟨w3.heap.size,2,none⟩=some (.int .i64 0):=cH Z4 rfl
      have xx3:w4.cell? ⟨w3.heap.size,3,none⟩=some (.slice none 0 0):=cH Z4 rfl
      have xx4:w4.cell? ⟨w3.heap.size,4,none⟩=some (.slice none 0 0):=cH Z4 rfl
      have xx5:w4.cell? ⟨w3.heap.size,5,none⟩=some (.slice none 0 0):=cH Z4 rfl
      have hlt:w3.heap.size<w4.heap.size:=(gS Z4).1
      clear hu4 hb4
      have ZF:=Lh Z4
      clear Z4
      go_simp
      refine hK.out _ _ ?_ (fun hHeld2=>?_)
      ·exact HX.out _ K4.out.1
      clear hK K hHeld
      have hHeld:=hHeld2
      clear hHeld2
      try simp only [Act.put,sb1,sb2,sb3]
      refine tkA (i:=12) rfl hHeld ?_
      try simp only [Act.put,sb1,sb2,sb3]
      refine wpAnyH_ready (rs:=[14]) (by kernel_rfl) (by simp) ?_
      refine cons_at (dst:=none) rfl (fun K hK=>?_) AllReadyH.nil
      go_simp
      have h3z:=K3.out.1.size
      have h4z:=K4.out.1.size
      rw [put6_eq]
      have hm:=put6_mod w4 (w3.heap.size) (.int .i64 kind) (.string ⟨name.toArray⟩) (.int .i64 n) (.slice u3.a terms.length u3.cap) (.slice u4.a binds.length u4.cap) (.slice none 0 0)
      have hc:=put6_heap (W:=w4) (H:=w3.heap.size) (c0:=.int .i64 kind) (c1:=.string ⟨name.toArray⟩) (c2:=.int .i64 n) (c3:=.slice u3.a terms.length u3.cap) (c4:=.slice u4.a binds.length u4.cap) (c5:=.slice none 0 0) ZF.out
      generalize put6 w4 (w3.heap.size) (.int .i64 kind) (.string ⟨name.toArray⟩) (.int .i64 n) (.slice u3.a terms.length u3.cap) (.slice u4.a binds.length u4.cap) (.slice none 0 0)=WP at hm hc ⊢
      have hfin:Node14 w2 kind name n terms binds (.pointer (some ⟨w3.heap.size,0,none⟩)) WP:=node14_of (Wa:=w2.drew) (w3:=w3) (Wb:=(w3.alloc (.cells #[.int .i64 0,.string ⟨#[]⟩,.int .i64 0,.slice none 0 0,.slice none 0 0,.slice none 0 0] 34))) (w4:=w4) (xt:=u3) (xb:=u4) (b6:=w3.heap.size) (by first | exact Nat.le_refl _ | (simp;done) | (simp;omega) | omega) (by first | exact Nat.le_refl _ | (simp;done) | (simp;omega) | omega) K3.out.2.1 (((Below.refl w3.heap.size w3).alloc (Nat.le_refl _) _).trans (K4.out.2.2.mono (by simp))) K4.out.2.1 (.inr (Nat.le_refl _)) (.inl (by simp)) h3z (K4.out.1.trans (hm.below K4.out.1.size (fun k e=>by omega))) hm hc
      clear hm hc
      have HF:=Lh hfin
      clear hfin h3z h4z
      refine hK.out _ _ (HX.out _ (by obtain ⟨_,_,_,_,_,h,_⟩:=HF.out;exact h)) (fun _=>?_)
      clear hK K hHeld
      refine wpAnyH_done (by kernel_rfl) ?_ _
      refine NoPanic.normal ?_
      go_wp2_with fail
      go_meet
      exact HF.out
    ·go_simp
     refine hK.out _ _ ?_ (fun hHeld2=>?_)
     ·exact HX.out _ ((Below.refl w2.heap.size w2).drew.alloc (Nat.le_refl _) _)
     clear hK K hHeld
     have hHeld:=hHeld2
     clear hHeld2
     try simp only [Act.put,sb1,sb2,sb3]
     refine wpAnyH_ready (rs:=[8]) (by kernel_rfl) (by simp) ?_
     refine cons_at (dst:=some 90) rfl (fun K hK=>?_) AllReadyH.nil
     go_simp
     go_at_call 138
     refine (HCA.out (w2.drew.alloc (.cells #[.int .i64 0,.string ⟨#[]⟩,.int .i64 0,.slice none 0 0,.slice none 0 0,.slice none 0 0] 34)) ((Below.refl _ _).drew.alloc (Nat.le_refl _) _)).mono ?_
     rintro e w3 ⟨u3,rfl,hu3,hb3⟩
     have K3:=Lh (aI (PA.out w3 hb3).1 (aI hu3 hb3))
     have Z3:=Lh (PA.out w3 hb3).2
     clear hu3 hb3
     go_simp
     refine hK.out _ _ ?_ (fun hHeld2=>?_)
     ·exact HX.out _ K3.out.1
     clear hK K hHeld
     have hHeld:=hHeld2
     clear hHeld2
     try simp only [Act.put,sb1,sb2,sb3]
     refine wpAnyH_ready (rs:=[11]) (by kernel_rfl) (by simp) ?_
     refine cons_at (dst:=some 93) rfl (fun K hK=>?_) AllReadyH.nil
     go_simp
     go_at_call 139
     refine (HCB.out w3 K3.out.1).mono ?_
     rintro e w4 ⟨u4,rfl,hu4,hb4⟩
     have Z4:=Z3.out w4 hb4
     have K4:=Lh (aI (K3.out.1.trans (hb4.mono K3.out.1.size)) (aI hu4 hb4))
     have fz0:w4.frozen? ⟨w2.heap.size,0,none⟩=false:=fH Z4
     have fz1:w4.frozen? ⟨w2.heap.size,1,none⟩=false:=fH Z4
     have fz2:w4.frozen? ⟨w2.heap.size,2,none⟩=false:=fH Z4
     have fz3:w4.frozen? ⟨w2.heap.size,3,none⟩=false:=fH Z4
     have fz4:w4.frozen? ⟨w2.heap.size,4,none⟩=false:=fH Z4
     have fz5:w4.frozen? ⟨w2.heap.size,5,none⟩=false:=fH Z4
     have xx0:w4.cell? ⟨w2.heap.size,0,none⟩=some (.int .i64 0):=cH Z4 rfl
     have xx1:w4.cell? ⟨w2.heap.size,1,none⟩=some (.string ⟨#[]⟩):=cH Z4 rfl
     have xx2:w4.cell? ⟨w2.heap.size,2,none⟩=some (.int .i64 0):=cH Z4 rfl
     have xx3:w4.cell? ⟨w2.heap.size,3,none⟩=some (.slice none 0 0):=cH Z4 rfl
     have xx4:w4.cell? ⟨w2.heap.size,4,none⟩=some (.slice none 0 0):=cH Z4 rfl
     have xx5:w4.cell? ⟨w2.heap.size,5,none⟩=some (.slice none 0 0):=cH Z4 rfl
     have hlt:w2.heap.size<w4.heap.size:=(gS Z4).1
     clear hu4 hb4
     have ZF:=Lh Z4
     clear Z4
     go_simp
     refine hK.out _ _ ?_ (fun hHeld2=>?_)
     ·exact HX.out _ K4.out.1
     clear hK K hHeld
     have hHeld:=hHeld2
     clear hHeld2
     try simp only [Act.put,sb1,sb2,sb3]
     refine tkA (i:=12) rfl hHeld ?_
     try simp only [Act.put,sb1,sb2,sb3]
     refine wpAnyH_ready (rs:=[14]) (by kernel_rfl) (by simp) ?_
     refine cons_at (dst:=none) rfl (fun K hK=>?_) AllReadyH.nil
     go_simp
     have h3z:=K3.out.1.size
     have h4z:=K4.out.1.size
     rw [put6_eq]
     have hm:=put6_mod w4 (w2.heap.size) (.int .i64 kind) (.string ⟨name.toArray⟩) (.int .i64 n) (.slice u3.a terms.length u3.cap) (.slice u4.a binds.length u4.cap) (.slice none 0 0)
     have hc:=put6_heap (W:=w4) (H:=w2.heap.size) (c0:=.int .i64 kind) (c1:=.string ⟨name.toArray⟩) (c2:=.int .i64 n) (c3:=.slice u3.a terms.length u3.cap) (c4:=.slice u4.a binds.length u4.cap) (c5:=.slice none 0 0) ZF.out
     generalize put6 w4 (w2.heap.size) (.int .i64 kind) (.string ⟨name.toArray⟩) (.int .i64 n) (.slice u3.a terms.length u3.cap) (.slice u4.a binds.length u4.cap) (.slice none 0 0)=WP at hm hc ⊢
     have hfin:Node14 w2 kind name n terms binds (.pointer (some ⟨w2.heap.size,0,none⟩)) WP:=node14_of (Wa:=(w2.drew.alloc (.cells #[.int .i64 0,.string ⟨#[]⟩,.int .i64 0,.slice none 0 0,.slice none 0 0,.slice none 0 0] 34))) (w3:=w3) (Wb:=w3) (w4:=w4) (xt:=u3) (xb:=u4) (b6:=w2.heap.size) (by first | exact Nat.le_refl _ | (simp;done) | (simp;omega) | omega) (by first | exact Nat.le_refl _ | (simp;done) | (simp;omega) | omega) K3.out.2.1 K4.out.2.2 K4.out.2.1 (.inl (by simp)) (.inl (by have:=K3.out.2.2.size;simp at this;omega)) (Nat.le_refl _) (K4.out.1.trans (hm.below K4.out.1.size (fun k e=>by omega))) hm hc
     clear hm hc
     have HF:=Lh hfin
     clear hfin h3z h4z
     refine hK.out _ _ (HX.out _ (by obtain ⟨_,_,_,_,_,h,_⟩:=HF.out;exact h)) (fun _=>?_)
     clear hK K hHeld
     refine wpAnyH_done (by kernel_rfl) ?_ _
     refine NoPanic.normal ?_
     go_wp2_with fail
     go_meet
     exact HF.out
   case rest =>
    obtain ⟨b6,xt,xb,rfl,hb6,hbx,hcell,hxt,hxb⟩:=hcut
    obtain ⟨w5,hw5⟩:∃ w5,w5=wc:=⟨_,rfl⟩
    subst hw5
    have HN6:=Lh (aI hb6 (aI hbx (aI hxt hxb)))
    have H3:=Lh (H2.out.trans (hbx.mono H2.out.size))
    have HC6:=Lh hcell
    have hlt6:b6<w5.heap.size:=(gS hcell).1
    have HL6:=Lh hlt6
    have d0:w5.cell? ⟨b6,0,none⟩=some (.int .i64 kind):=cH hcell rfl
    have d1:w5.cell? ⟨b6,1,none⟩=some (.string ⟨name.toArray⟩):=cH hcell rfl
    have d2:w5.cell? ⟨b6,2,none⟩=some (.int .i64 n):=cH hcell rfl
    have dz0:w5.frozen? ⟨b6,0,none⟩=false:=fH hcell
    have dz1:w5.frozen? ⟨b6,1,none⟩=false:=fH hcell
    have dz2:w5.frozen? ⟨b6,2,none⟩=false:=fH hcell
    clear f0 f1 f2 f3 f4 f5 hb6 hbx hcell hxt hxb hlt6
    obtain ⟨_,⟨f0,f1,f2,f3,f4,f5⟩,_⟩:=HE.out w5 H3.out
    have hne6:¬ (b6=w.heap.size):=by have:=HN6.out.1;have:=H2.out.size;have:=HZ0.out;omega
    have hne6':¬ (w.heap.size=b6):=fun e=>hne6 e.symm
    go_upto_if 95 with fail
    go_cut [96] from 97 to 124 (fun v wx=>Node25 w5 b6 (if turn&&decide (kind ≠ 9) then dualK kind else kind) (if turn&&decide (kind=9) then negS name else name) (if turn then (if kind=16 then n - 1 else if kind=17 then n+1 else n) else n) (.slice xt.a terms.length xt.cap) (.slice xb.a binds.length xb.cap) wx)
    case first =>
     cases turn
     ·go_wp2_with fail
      go_meet
      exact ⟨Chalk.Mod.refl _ _,HC6.out⟩
     ·have hg:=HG.out.below (HE.out w5 H3.out).1
      by_cases h9:kind=9
      ·subst h9
       obtain ⟨b2,o2,r1,r2,r3⟩:=hg.gg.fsigns
       have hls:=r3 _ r2 (.string ⟨name.toArray⟩) ⟨_,Nat.le_trans (HY.out.2.1.nodes _ (by rw [nodesF];exact List.mem_cons_self ..)).2.2.2.1 (by decide),rfl⟩
       simp only [keyBs_str] at hls
       clear r2 r3 hg dk2 dk10 dk13
       go_wp2_with fail
       go_meet
       refine ⟨(Chalk.Mod.refl (fun k=>k=b6) w5).setCell (p:=⟨b6,1,none⟩) (fun _=>rfl) _,?_⟩
       have h:=box_store (i:=1) (.string ⟨(negS name).toArray⟩) HC6.out
       simpa using h
      ·have d9:(kind==9)=false:=by simp [h9]
       have d9':(kind != 9)=true:=by simp [h9]
       have e9:decide (kind=9)=false:=by simp [h9]
       have hki:=HY.out.1.kind
       obtain ⟨b2,o2,r1,r2,r3⟩:=hg.duals
       have hls:=r3 _ r2 (.int .i64 kind) ⟨_,hki,rfl⟩
       simp only [keyInt] at hls
       clear r2 r3 hg hki
       by_cases h16:kind=16
       ·subst h16
        have hnn:numberB n=true:=by have:=HFO.out;rw [formed_quant (by decide)] at this;simp only [Bool.and_eq_true] at this;exact this.2.2
        have hw1:IntKind.i64.wrap (n - 1)=n - 1:=by apply IntWalk.i64_in <;> (unfold numberB at hnn;simp at hnn;omega)
        have E16:=Lh h9
        clear hnn dk2 dk10 dk13 d9 d9' e9 h9
        have hgs:=HG.out.below ((HE.out w5 H3.out).1.setCell (p:=⟨b6,2,none⟩) (by have:=HN6.out.1;have:=(HE.out _ H2.out).1.size;show w.heap.size<=b6;omega) (.int .i64 (n - 1)))
        obtain ⟨b3,o3,s1,s2,s3⟩:=hgs.duals
        have hlt:=s3 _ s2 (.int .i64 16) ⟨_,i64_of (by decide),rfl⟩
        simp only [keyInt] at hlt
        clear s2 s3 hgs r1 hls
        go_wp2_with fail
        go_meet
        refine ⟨((Chalk.Mod.refl (fun k=>k=b6) w5).setCell (p:=⟨b6,2,none⟩) (fun _=>rfl) _).setCell (p:=⟨b6,0,none⟩) (fun _=>rfl) _,?_⟩
        have h:=box_store (i:=0) (.int .i64 (dualK 16)) (box_store (i:=2) (.int .i64 (n - 1)) HC6.out)
        simpa using h
       ·have d16:(kind==16)=false:=by simp [h16]
        by_cases h17:kind=17
        ·subst h17
         have hnn:numberB n=true:=by have:=HFO.out;rw [formed_quant (by decide)] at this;simp only [Bool.and_eq_true] at this;exact this.2.2
         have hw1:IntKind.i64.wrap (n+1)=n+1:=by apply IntWalk.i64_in <;> (unfold numberB at hnn;simp at hnn;omega)
         clear hnn dk2 dk10 dk13 d9 d9' e9 h9 d16 h16
         have hgs:=HG.out.below ((HE.out w5 H3.out).1.setCell (p:=⟨b6,2,none⟩) (by have:=HN6.out.1;have:=(HE.out _ H2.out).1.size;show w.heap.size<=b6;omega) (.int .i64 (n+1)))
         obtain ⟨b3,o3,s1,s2,s3⟩:=hgs.duals
         have hlt:=s3 _ s2 (.int .i64 17) ⟨_,i64_of (by decide),rfl⟩
         simp only [keyInt] at hlt
         clear s2 s3 hgs r1 hls
         go_wp2_with fail
         go_meet
         refine ⟨((Chalk.Mod.refl (fun k=>k=b6) w5).setCell (p:=⟨b6,2,none⟩) (fun _=>rfl) _).setCell (p:=⟨b6,0,none⟩) (fun _=>rfl) _,?_⟩
         have h:=box_store (i:=0) (.int .i64 (dualK 17)) (box_store (i:=2) (.int .i64 (n+1)) HC6.out)
         simpa using h
        ·have d17:(kind==17)=false:=by simp [h17]
         have HH:=Lh (aI h9 (aI h16 h17))
         clear h9 h16 h17 e9
         go_wp2_with fail
         go_meet
         refine ⟨(Chalk.Mod.refl (fun k=>k=b6) w5).setCell (p:=⟨b6,0,none⟩) (fun _=>rfl) _,?_⟩
         have h:=box_store (i:=0) (.int .i64 (dualK kind)) HC6.out
         obtain ⟨h9,h16,h17⟩:=HH.out
         simpa [h9,h16,h17] using h
    case rest =>
     obtain ⟨hm25,hc25⟩:=hcut
     obtain ⟨w6,hw6⟩:∃ w6,w6=wc:=⟨_,rfl⟩
     subst hw6
     obtain ⟨KD,hKD⟩:∃ KD,KD=(if turn&&decide (kind ≠ 9) then dualK kind else kind):=⟨_,rfl⟩
     obtain ⟨NM,hNM⟩:∃ NM,NM=(if turn&&decide (kind=9) then negS name else name):=⟨_,rfl⟩
     obtain ⟨NN,hNN⟩:∃ NN,NN=(if turn then (if kind=16 then n - 1 else if kind=17 then n+1 else n) else n):=⟨_,rfl⟩
     obtain ⟨tt,htt⟩:∃ tt,tt=(turn&&countK kind):=⟨_,rfl⟩
     rw [<- hKD,<- hNM,<- hNN] at hc25
     have HH:=Lh (aI hKD (aI hNM (aI hNN htt)))
     have HM25:=Lh hm25
     have HC25:=Lh hc25
     have h56:Below b6 w5 w6:=hm25.below (by have:=HL6.out;omega) (fun k hk=>by omega)
     have H6:=Lh (H3.out.trans (h56.mono (by have:=HN6.out.1;have:=H2.out.size;omega)))
     have hb6z:b6<w6.heap.size:=(gS hc25).1
     have HB6:=Lh hb6z
     clear f0 f1 f2 f3 f4 f5 d0 d1 d2 dz0 dz1 dz2 hm25 hc25 hKD hNM hNN htt h56 hb6z
     obtain ⟨_,⟨f0,f1,f2,f3,f4,f5⟩,_⟩:=HE.out w6 H6.out
     generalize hla:y.l.a=la at f5
     have HLA:=Lh hla
     have HNF2:nf<=2:=by
      have h:=arity_cases HP1.out
      omega
     have HN2:=Lh HNF2
     obtain ⟨i0,hi,hz0,hz1,hz2⟩:=info_parts infoFrm
     clear hla f0 f1 f2 f3 f4 HNF2
     go_wp2_with fail
     go_loopw [128] (fun i wr=>∃ j:Nat,j<=nf/\i=.int .i64 j/\Hid (Below W0.heap.size W0 wr/\NLoop B w6 b6 KD NM NN (.slice xt.a terms.length xt.cap) (.slice xb.a binds.length xb.cap) ((rightL fl (turn&&!countK kind)).take j) wr)) (fun i _=>nf - (intOf i).toNat)
     case atStart=>exact ⟨0,Nat.zero_le _,rfl,Lh ⟨H6.out,by rw [List.take_zero];exact NLoop.start HC25.out⟩⟩
     case round =>
      obtain ⟨j,hj,rfl,HR0⟩:=hrel
      by_cases hlt:j<nf
      ·have hjl:j<fl.length:=by have:=HNF.out;omega
       obtain ⟨y1,hy1,hc1⟩:=HFI.out j hjl
       obtain ⟨hxa,hbl⟩:=HFS.out (by omega)
       rw [HLA.out] at hxa
       subst hxa
       have hbW:=(HE.out _ HR0.out.1).1
       obtain ⟨_,⟨f0,_,_,_,_,_⟩,_⟩:=HE.out wr HR0.out.1
       obtain ⟨k0,k1,k2,k3,k4,k5⟩:=(hc1.agree (agree_of_below (hbW.mono HY.out.2.2)) hbl).six
       obtain ⟨v,F,hc6,ho,hF,hm⟩:=HR0.out.2
       have hlen:(((rightL fl (turn&&!countK kind)).take j).map Frm.toD).length=j:=by simp [rightL_length];omega
       obtain ⟨oa,ocap,ho1⟩:=ho.form
       rw [hlen] at ho1
       subst ho1
       obtain ⟨W1,hW1⟩:∃ W1,W1=wr.alloc (.cells (y1.cells fl[j]).toArray 34):=⟨_,rfl⟩
       have hb1:Below wr.heap.size wr W1:=by rw [hW1];exact (Below.refl _ _).alloc (Nat.le_refl _) _
       have hz1':W1.heap[wr.heap.size]?=some (.cells (y1.cells fl[j]).toArray 34 (0,0)):=by rw [hW1,heap_get,if_pos rfl]
       have HCR:=Lh (HIH.out j hjl (turn&&!countK kind) y1 W1.drew (hbW.trans (hb1.mono hbW.size)).drew hy1)
       have HCT:Hid (∀ w,Calls Tryz.prog 140 #[.int .i64 kind] w fun e w'=>e=.returned (.bool (countK kind))/\w=w'):=Lh (fun w=>fcounts_any kind w)
       have HT:Hid ((rightL fl (turn&&!countK kind)).take (j+1)=(rightL fl (turn&&!countK kind)).take j++[rightF fl[j] (turn&&!countK kind)]):=Lh (rightL_take fl _ j hjl)
       have hmz:=hm.size
       have h5:W1.heap[b6]?=some (.cells #[.int .i64 KD,.string ⟨NM.toArray⟩,.int .i64 NN,.slice xt.a terms.length xt.cap,.slice xb.a binds.length xb.cap,.slice oa j ocap] 34 (0,0)):=(hb1.block b6 (by have:=HB6.out;omega)).trans hc6
       have d5:W1.cell? ⟨b6,5,none⟩=some (.slice oa j ocap):=cH h5 rfl
       have hlt5:b6<W1.heap.size:=(gS h5).1
       have g0:W1.cell? ⟨w.heap.size,0,none⟩=some (.int .i64 kind):=(hb1.cell (p:=⟨w.heap.size,0,none⟩) (by have:=HR0.out.1.size;have:=HZ0.out;show w.heap.size<_;omega)).trans f0
       have HOO:=Lh (aI ho (aI hF (aI hm (aI hc6 (aI hb1 hlen)))))
       clear hc1 hy1 hbl hbW ho hF hm hc6 hb1 h5 f0 hlen hmz
       generalize rightF fl[j] (turn&&!countK kind)=r at HCR HT
       generalize (rightL fl (turn&&!countK kind)).take j=ps at HOO HT
       generalize fl[j]=g at k0 k1 k2 k3 k4 k5 HCR hW1 hz1'
       obtain ⟨gk,gn,gm,gt,gb,gl⟩:=g
       obtain ⟨rk,rn,rm,rt,rb,rl⟩:=r
       simp only [ndV,FrmA.cells,SlA.val,Frm.kind,Frm.name,Frm.n,Frm.terms,Frm.binds,Frm.l] at k0 k1 k2 k3 k4 k5 HCR hW1 hz1'
       have z0:W1.cell? ⟨wr.heap.size,0,none⟩=some (.int .i64 gk):=cH hz1' rfl
       have z1:W1.cell? ⟨wr.heap.size,1,none⟩=some (.string ⟨gn.toArray⟩):=cH hz1' rfl
       have z2:W1.cell? ⟨wr.heap.size,2,none⟩=some (.int .i64 gm):=cH hz1' rfl
       have z3:W1.cell? ⟨wr.heap.size,3,none⟩=some (.slice y1.t.a gt.length y1.t.cap):=cH hz1' rfl
       have z4:W1.cell? ⟨wr.heap.size,4,none⟩=some (.slice y1.b.a gb.length y1.b.cap):=cH hz1' rfl
       have z5:W1.cell? ⟨wr.heap.size,5,none⟩=some (.slice y1.l.a gl.length y1.l.cap):=cH hz1' rfl
       have HW1:=Lh hW1
       clear hW1 hz1'
       have HLT:=Lh hlt
       have HWR:Hid (wr.heap.size<W1.heap.size):=Lh (by rw [HW1.out,World.size_alloc];omega)
       have HX:Hid (∀ w',Below W1.heap.size W1 w'->w'.cell? ⟨w.heap.size,0,none⟩=some (.int .i64 kind)/\w'.cell? ⟨wr.heap.size,0,none⟩=some (.int .i64 gk)/\w'.cell? ⟨wr.heap.size,1,none⟩=some (.string ⟨gn.toArray⟩)/\w'.cell? ⟨wr.heap.size,2,none⟩=some (.int .i64 gm)/\w'.cell? ⟨wr.heap.size,3,none⟩=some (.slice y1.t.a gt.length y1.t.cap)/\w'.cell? ⟨wr.heap.size,4,none⟩=some (.slice y1.b.a gb.length y1.b.cap)/\w'.cell? ⟨wr.heap.size,5,none⟩=some (.slice y1.l.a gl.length y1.l.cap)):=Lh (fun w' hW=>by
        have hq:∀ (o:Nat) (v:Value),W1.cell? ⟨wr.heap.size,o,none⟩=some v->w'.cell? ⟨wr.heap.size,o,none⟩=some v:=fun o v e=>(hW.cell (p:=⟨wr.heap.size,o,none⟩) HWR.out).trans e
        exact ⟨(hW.cell (p:=⟨w.heap.size,0,none⟩) (by have:=HWR.out;have:=HR0.out.1.size;have:=HZ0.out;show w.heap.size<_;omega)).trans g0,hq _ _ z0,hq _ _ z1,hq _ _ z2,hq _ _ z3,hq _ _ z4,hq _ _ z5⟩)
       clear z0 z1 z2 z3 z4 z5 g0 hlt
       go_upto_region 28 with fail
       rw [<- HW1.out]
       refine wp_as_then (fun KK HKK=>?_)
       go_cut [] from 129 to 145 (fun wx=>NStep W0 B w6 b6 KD NM NN (.slice xt.a terms.length xt.cap) (.slice xb.a binds.length xb.cap) (ps++[.mk rk rn rm rt rb rl]) wx)
       case first =>
        cases turn
        ·simp only [Bool.false_and] at HCR
         refine wp_region_noPanic ?_
         refine wp_region_held_drew (S:=fun w'=>w'.cell? ⟨w.heap.size,0,none⟩=some (.int .i64 kind)/\w'.cell? ⟨wr.heap.size,0,none⟩=some (.int .i64 gk)/\w'.cell? ⟨wr.heap.size,1,none⟩=some (.string ⟨gn.toArray⟩)/\w'.cell? ⟨wr.heap.size,2,none⟩=some (.int .i64 gm)/\w'.cell? ⟨wr.heap.size,3,none⟩=some (.slice y1.t.a gt.length y1.t.cap)/\w'.cell? ⟨wr.heap.size,4,none⟩=some (.slice y1.b.a gb.length y1.b.cap)/\w'.cell? ⟨wr.heap.size,5,none⟩=some (.slice y1.l.a gl.length y1.l.cap)) (by kernel_rfl) (HX.out _ (Below.refl _ _).drew) (fun hHeld=>?_)
         refine tkA (i:=0) rfl hHeld ?_
         try simp only [Act.put,sb1,sb2,sb3]
         refine tkA (i:=2) rfl hHeld ?_
         try simp only [Act.put,sb1,sb2,sb3]
         refine tkA (i:=3) rfl hHeld ?_
         try simp only [Act.put,sb1,sb2,sb3]
         refine tkA (i:=4) rfl hHeld ?_
         try simp only [Act.put,sb1,sb2,sb3]
         refine skip_at (i:=5) (dst:=some 137) rfl (by kernel_rfl) (by kernel_rfl) (by kernel_rfl) (fun _ _ _ h=>h) (by rfl) hHeld ?_
         try simp only [Act.put,sb1,sb2,sb3]
         refine skip_at (i:=6) (dst:=some 138) rfl (by kernel_rfl) (by kernel_rfl) (by kernel_rfl) (fun _ _ _ h=>h) (by rfl) hHeld ?_
         try simp only [Act.put,sb1,sb2,sb3]
         refine wpAnyH_ready (rs:=[1,7]) (by kernel_rfl) (by simp) ?_
         refine cons_at (dst:=some 133) rfl (fun K hK=>?_) (cons_at (dst:=some 139) rfl (fun K hK=>?_) AllReadyH.nil)
         ·go_simp
          refine hK.out _ _ ?_ (fun hHeld2=>?_)
          ·exact hHeld
          clear hK K hHeld
          have hHeld:=hHeld2
          clear hHeld2
          try simp only [Act.put,sb1,sb2,sb3]
          refine wpAnyH_ready (rs:=[7]) (by kernel_rfl) (by simp) ?_
          refine cons_at (dst:=some 139) rfl (fun K hK=>?_) AllReadyH.nil
          go_simp
          refine hK.out _ _ ?_ (fun hHeld2=>?_)
          ·exact hHeld
          clear hK K hHeld
          have hHeld:=hHeld2
          clear hHeld2
          try simp only [Act.put,sb1,sb2,sb3]
          refine skip_at (i:=8) (dst:=some 140) rfl (by kernel_rfl) (by kernel_rfl) (by kernel_rfl) (fun _ _ _ h=>h) (by rfl) hHeld ?_
          try simp only [Act.put,sb1,sb2,sb3]
          refine tkA (i:=9) rfl hHeld ?_
          try simp only [Act.put,sb1,sb2,sb3]
          refine wpAnyH_ready (rs:=[10]) (by kernel_rfl) (by simp) ?_
          refine cons_at (dst:=some 142) rfl (fun K hK=>?_) AllReadyH.nil
          go_simp
          go_at_call 74
          (with_reducible refine HCR.out.mono ?_)
          rintro e w4 ⟨u4,rfl,hu4,hb4⟩
          simp only [ndV,FrmA.cells,SlA.val,Frm.kind,Frm.name,Frm.n,Frm.terms,Frm.binds,Frm.l]
          obtain ⟨F',hk1,hk2,hk3⟩:=nl_kid HOO.out.1 HOO.out.2.1 (Nat.le_trans HY.out.2.2 (HE.out _ H6.out).1.size) HOO.out.2.2.1.size HOO.out.2.2.2.2.1.drew hb4 hu4
          have HK:=Lh (aI hk1 (aI hk2 (aI hk3 (aI (HOO.out.2.2.2.2.1.drew.trans (hb4.mono HOO.out.2.2.2.2.1.drew.size)) (aI (show B<=b6 by have:=HY.out.2.2;have:=(HE.out _ H2.out).1.size;have:=HN6.out.1;omega) (Nat.le_trans HOO.out.2.2.1.size (Nat.le_trans HOO.out.2.2.2.2.1.drew.size hb4.size)))))))
          have HB4:=Lh ((Below.refl W1.heap.size W1).drew.trans (hb4.mono (Nat.le_refl _)))
          have x5:w4.cell? ⟨b6,5,none⟩=some (.slice oa j ocap):=(hb4.cell (p:=⟨b6,5,none⟩) hlt5).trans d5
          have x5l:b6<w4.heap.size:=Nat.lt_of_lt_of_le hlt5 hb4.size
          clear hk1 hk2 hk3 hu4 hb4
          go_simp
          refine hK.out _ _ ?_ (fun hHeld2=>?_)
          ·exact HX.out _ HB4.out
          clear hK K hHeld
          have hHeld:=hHeld2
          clear hHeld2
          try simp only [Act.put,sb1,sb2,sb3]
          refine wpAnyH_ready (rs:=[11]) (by kernel_rfl) (by simp) ?_
          refine cons_at (dst:=some 143) rfl (fun K hK=>?_) AllReadyH.nil
          go_simp
          refine hK.out _ _ ?_ (fun hHeld2=>?_)
          ·exact HX.out _ (HB4.out.alloc HB4.out.size _)
          clear hK K hHeld
          have hHeld:=hHeld2
          clear hHeld2
          try simp only [Act.put,sb1,sb2,sb3]
          refine wpAnyH_ready (rs:=[12]) (by kernel_rfl) (by simp) ?_
          refine cons_at (dst:=some 144) rfl (fun K hK=>?_) AllReadyH.nil
          refine step_append_rowO (W0:=w4) (B:=w4.heap.size) rfl (by rfl) _ _ 32 (by rfl) 34 i0 _ 6 104 Tryz.underlying32 hi hz0 hz1 hz2 rfl (by decide) (.slice oa j ocap) (ps.map Frm.toD) (Frm.toD (.mk rk rn rm rt rb rl)) [.int .i64 rk,.string ⟨rn.toArray⟩,.int .i64 rm,.slice u4.t.a rt.length u4.t.cap,.slice u4.b.a rb.length u4.b.cap,.slice u4.l.a rl.length u4.l.cap] 34 (by rfl) (by rfl) HK.out.1 HK.out.2.2.1 (by have:=HK.out.2.2.2.2.2;omega) (Frm.width _) (by rw [HOO.out.2.2.2.2.2];have:=HN2.out;have:=HLT.out;unfold maxLen;omega) (by rw [HOO.out.2.2.2.2.2];have:=HN2.out;have:=HLT.out;omega) ?_
          intro ao cap w7 hon hb7 hkp
          rw [HOO.out.2.2.2.2.2] at hon ⊢
          obtain ⟨⟨q5,qz⟩,hnl,_⟩:=nl_next (xs:=ps++[.mk rk rn rm rt rb rl]) HOO.out.2.2.1 HOO.out.2.2.2.1 HK.out.2.2.2.1 hb7 hon (by rw [List.map_append];rfl) HK.out.2.1 HB6.out HK.out.2.2.2.2.1
          have HNL:=Lh (aI hnl hb7)
          have hl7:b6<w7.heap.size:=Nat.lt_of_lt_of_le HB6.out (Nat.le_trans HK.out.2.2.2.2.2 hb7.size)
          have HX7:=Lh (keep28 (HX.out w4 HB4.out) (hb7.block _ (by have:=HN6.out.1;have:=H2.out.size;have:=HZ0.out;have:=HB6.out;omega)) (hkp _ (by have:=HB4.out.size;have:=HWR.out;omega) (Nat.le_refl _)))
          clear hon hb7 hkp hnl
          refine hK.out _ _ ?_ (fun hHeld2=>?_)
          ·exact HX7.out
          clear hK K hHeld
          have hHeld:=hHeld2
          clear hHeld2
          try simp only [Act.put,sb1,sb2,sb3]
          refine tkA (i:=13) rfl hHeld ?_
          try simp only [Act.put,sb1,sb2,sb3]
          refine wpAnyH_ready (rs:=[14]) (by kernel_rfl) (by simp) ?_
          refine cons_at (dst:=none) rfl (fun K hK=>?_) AllReadyH.nil
          go_simp
          refine hK.out _ _ ?_ (fun _=>?_)
          ·exact keep28 HX7.out (set_other (show w.heap.size ≠ b6 by have:=HN6.out.1;have:=H2.out.size;have:=HZ0.out;omega)) (set_other (show wr.heap.size ≠ b6 by have:=HB6.out;have:=HOO.out.2.2.1.size;omega))
          clear hK K hHeld
          refine wpAnyH_done (by kernel_rfl) ?_ _
          refine NoPanic.normal ?_
          go_wp2_with fail
          go_meet
          exact ⟨((HR0.out.1.trans (HK.out.2.2.2.1.mono HR0.out.1.size)).trans (HNL.out.2.mono (by have:=H6.out.size;omega))).setCell (by have:=HN6.out.1;have:=H2.out.size;show W0.heap.size<=b6;omega) _,HNL.out.1⟩
         ·go_simp
          refine hK.out _ _ ?_ (fun hHeld2=>?_)
          ·exact hHeld
          clear hK K hHeld
          have hHeld:=hHeld2
          clear hHeld2
          try simp only [Act.put,sb1,sb2,sb3]
          refine skip_at (i:=8) (dst:=some 140) rfl (by kernel_rfl) (by kernel_rfl) (by kernel_rfl) (fun _ _ _ h=>h) (by rfl) hHeld ?_
          try simp only [Act.put,sb1,sb2,sb3]
          refine tkA (i:=9) rfl hHeld ?_
          try simp only [Act.put,sb1,sb2,sb3]
          refine wpAnyH_ready (rs:=[1,10]) (by kernel_rfl) (by simp) ?_
          refine cons_at (dst:=some 133) rfl (fun K hK=>?_) (cons_at (dst:=some 142) rfl (fun K hK=>?_) AllReadyH.nil)
          ·go_simp
           refine hK.out _ _ ?_ (fun hHeld2=>?_)
           ·exact hHeld
           clear hK K hHeld
           have hHeld:=hHeld2
           clear hHeld2
           try simp only [Act.put,sb1,sb2,sb3]
           refine wpAnyH_ready (rs:=[10]) (by kernel_rfl) (by simp) ?_
           refine cons_at (dst:=some 142) rfl (fun K hK=>?_) AllReadyH.nil
           go_simp
           go_at_call 74
           (with_reducible refine HCR.out.mono ?_)
           rintro e w4 ⟨u4,rfl,hu4,hb4⟩
           simp only [ndV,FrmA.cells,SlA.val,Frm.kind,Frm.name,Frm.n,Frm.terms,Frm.binds,Frm.l]
           obtain ⟨F',hk1,hk2,hk3⟩:=nl_kid HOO.out.1 HOO.out.2.1 (Nat.le_trans HY.out.2.2 (HE.out _ H6.out).1.size) HOO.out.2.2.1.size HOO.out.2.2.2.2.1.drew hb4 hu4
           have HK:=Lh (aI hk1 (aI hk2 (aI hk3 (aI (HOO.out.2.2.2.2.1.drew.trans (hb4.mono HOO.out.2.2.2.2.1.drew.size)) (aI (show B<=b6 by have:=HY.out.2.2;have:=(HE.out _ H2.out).1.size;have:=HN6.out.1;omega) (Nat.le_trans HOO.out.2.2.1.size (Nat.le_trans HOO.out.2.2.2.2.1.drew.size hb4.size)))))))
           have HB4:=Lh ((Below.refl W1.heap.size W1).drew.trans (hb4.mono (Nat.le_refl _)))
           have x5:w4.cell? ⟨b6,5,none⟩=some (.slice oa j ocap):=(hb4.cell (p:=⟨b6,5,none⟩) hlt5).trans d5
           have x5l:b6<w4.heap.size:=Nat.lt_of_lt_of_le hlt5 hb4.size
           clear hk1 hk2 hk3 hu4 hb4
           go_simp
           refine hK.out _ _ ?_ (fun hHeld2=>?_)
           ·exact HX.out _ HB4.out
           clear hK K hHeld
           have hHeld:=hHeld2
           clear hHeld2
           try simp only [Act.put,sb1,sb2,sb3]
           refine wpAnyH_ready (rs:=[11]) (by kernel_rfl) (by simp) ?_
           refine cons_at (dst:=some 143) rfl (fun K hK=>?_) AllReadyH.nil
           go_simp
           refine hK.out _ _ ?_ (fun hHeld2=>?_)
           ·exact HX.out _ (HB4.out.alloc HB4.out.size _)
           clear hK K hHeld
           have hHeld:=hHeld2
           clear hHeld2
           try simp only [Act.put,sb1,sb2,sb3]
           refine wpAnyH_ready (rs:=[12]) (by kernel_rfl) (by simp) ?_
           refine cons_at (dst:=some 144) rfl (fun K hK=>?_) AllReadyH.nil
           refine step_append_rowO (W0:=w4) (B:=w4.heap.size) rfl (by rfl) _ _ 32 (by rfl) 34 i0 _ 6 104 Tryz.underlying32 hi hz0 hz1 hz2 rfl (by decide) (.slice oa j ocap) (ps.map Frm.toD) (Frm.toD (.mk rk rn rm rt rb rl)) [.int .i64 rk,.string ⟨rn.toArray⟩,.int .i64 rm,.slice u4.t.a rt.length u4.t.cap,.slice u4.b.a rb.length u4.b.cap,.slice u4.l.a rl.length u4.l.cap] 34 (by rfl) (by rfl) HK.out.1 HK.out.2.2.1 (by have:=HK.out.2.2.2.2.2;omega) (Frm.width _) (by rw [HOO.out.2.2.2.2.2];have:=HN2.out;have:=HLT.out;unfold maxLen;omega) (by rw [HOO.out.2.2.2.2.2];have:=HN2.out;have:=HLT.out;omega) ?_
           intro ao cap w7 hon hb7 hkp
           rw [HOO.out.2.2.2.2.2] at hon ⊢
           obtain ⟨⟨q5,qz⟩,hnl,_⟩:=nl_next (xs:=ps++[.mk rk rn rm rt rb rl]) HOO.out.2.2.1 HOO.out.2.2.2.1 HK.out.2.2.2.1 hb7 hon (by rw [List.map_append];rfl) HK.out.2.1 HB6.out HK.out.2.2.2.2.1
           have HNL:=Lh (aI hnl hb7)
           have hl7:b6<w7.heap.size:=Nat.lt_of_lt_of_le HB6.out (Nat.le_trans HK.out.2.2.2.2.2 hb7.size)
           have HX7:=Lh (keep28 (HX.out w4 HB4.out) (hb7.block _ (by have:=HN6.out.1;have:=H2.out.size;have:=HZ0.out;have:=HB6.out;omega)) (hkp _ (by have:=HB4.out.size;have:=HWR.out;omega) (Nat.le_refl _)))
           clear hon hb7 hkp hnl
           refine hK.out _ _ ?_ (fun hHeld2=>?_)
           ·exact HX7.out
           clear hK K hHeld
           have hHeld:=hHeld2
           clear hHeld2
           try simp only [Act.put,sb1,sb2,sb3]
           refine tkA (i:=13) rfl hHeld ?_
           try simp only [Act.put,sb1,sb2,sb3]
           refine wpAnyH_ready (rs:=[14]) (by kernel_rfl) (by simp) ?_
           refine cons_at (dst:=none) rfl (fun K hK=>?_) AllReadyH.nil
           go_simp
           refine hK.out _ _ ?_ (fun _=>?_)
           ·exact keep28 HX7.out (set_other (show w.heap.size ≠ b6 by have:=HN6.out.1;have:=H2.out.size;have:=HZ0.out;omega)) (set_other (show wr.heap.size ≠ b6 by have:=HB6.out;have:=HOO.out.2.2.1.size;omega))
           clear hK K hHeld
           refine wpAnyH_done (by kernel_rfl) ?_ _
           refine NoPanic.normal ?_
           go_wp2_with fail
           go_meet
           exact ⟨((HR0.out.1.trans (HK.out.2.2.2.1.mono HR0.out.1.size)).trans (HNL.out.2.mono (by have:=H6.out.size;omega))).setCell (by have:=HN6.out.1;have:=H2.out.size;show W0.heap.size<=b6;omega) _,HNL.out.1⟩
          ·go_simp
           go_at_call 74
           (with_reducible refine HCR.out.mono ?_)
           rintro e w4 ⟨u4,rfl,hu4,hb4⟩
           simp only [ndV,FrmA.cells,SlA.val,Frm.kind,Frm.name,Frm.n,Frm.terms,Frm.binds,Frm.l]
           obtain ⟨F',hk1,hk2,hk3⟩:=nl_kid HOO.out.1 HOO.out.2.1 (Nat.le_trans HY.out.2.2 (HE.out _ H6.out).1.size) HOO.out.2.2.1.size HOO.out.2.2.2.2.1.drew hb4 hu4
           have HK:=Lh (aI hk1 (aI hk2 (aI hk3 (aI (HOO.out.2.2.2.2.1.drew.trans (hb4.mono HOO.out.2.2.2.2.1.drew.size)) (aI (show B<=b6 by have:=HY.out.2.2;have:=(HE.out _ H2.out).1.size;have:=HN6.out.1;omega) (Nat.le_trans HOO.out.2.2.1.size (Nat.le_trans HOO.out.2.2.2.2.1.drew.size hb4.size)))))))
           have HB4:=Lh ((Below.refl W1.heap.size W1).drew.trans (hb4.mono (Nat.le_refl _)))
           have x5:w4.cell? ⟨b6,5,none⟩=some (.slice oa j ocap):=(hb4.cell (p:=⟨b6,5,none⟩) hlt5).trans d5
           have x5l:b6<w4.heap.size:=Nat.lt_of_lt_of_le hlt5 hb4.size
           clear hk1 hk2 hk3 hu4 hb4
           go_simp
           refine hK.out _ _ ?_ (fun hHeld2=>?_)
           ·exact HX.out _ HB4.out
           clear hK K hHeld
           have hHeld:=hHeld2
           clear hHeld2
           try simp only [Act.put,sb1,sb2,sb3]
           refine wpAnyH_ready (rs:=[1,11]) (by kernel_rfl) (by simp) ?_
           refine cons_at (dst:=some 133) rfl (fun K hK=>?_) (cons_at (dst:=some 143) rfl (fun K hK=>?_) AllReadyH.nil)
           ·go_simp
            refine hK.out _ _ ?_ (fun hHeld2=>?_)
            ·exact HX.out _ HB4.out
            clear hK K hHeld
            have hHeld:=hHeld2
            clear hHeld2
            try simp only [Act.put,sb1,sb2,sb3]
            refine wpAnyH_ready (rs:=[11]) (by kernel_rfl) (by simp) ?_
            refine cons_at (dst:=some 143) rfl (fun K hK=>?_) AllReadyH.nil
            go_simp
            refine hK.out _ _ ?_ (fun hHeld2=>?_)
            ·exact HX.out _ (HB4.out.alloc HB4.out.size _)
            clear hK K hHeld
            have hHeld:=hHeld2
            clear hHeld2
            try simp only [Act.put,sb1,sb2,sb3]
            refine wpAnyH_ready (rs:=[12]) (by kernel_rfl) (by simp) ?_
            refine cons_at (dst:=some 144) rfl (fun K hK=>?_) AllReadyH.nil
            refine step_append_rowO (W0:=w4) (B:=w4.heap.size) rfl (by rfl) _ _ 32 (by rfl) 34 i0 _ 6 104 Tryz.underlying32 hi hz0 hz1 hz2 rfl (by decide) (.slice oa j ocap) (ps.map Frm.toD) (Frm.toD (.mk rk rn rm rt rb rl)) [.int .i64 rk,.string ⟨rn.toArray⟩,.int .i64 rm,.slice u4.t.a rt.length u4.t.cap,.slice u4.b.a rb.length u4.b.cap,.slice u4.l.a rl.length u4.l.cap] 34 (by rfl) (by rfl) HK.out.1 HK.out.2.2.1 (by have:=HK.out.2.2.2.2.2;omega) (Frm.width _) (by rw [HOO.out.2.2.2.2.2];have:=HN2.out;have:=HLT.out;unfold maxLen;omega) (by rw [HOO.out.2.2.2.2.2];have:=HN2.out;have:=HLT.out;omega) ?_
            intro ao cap w7 hon hb7 hkp
            rw [HOO.out.2.2.2.2.2] at hon ⊢
            obtain ⟨⟨q5,qz⟩,hnl,_⟩:=nl_next (xs:=ps++[.mk rk rn rm rt rb rl]) HOO.out.2.2.1 HOO.out.2.2.2.1 HK.out.2.2.2.1 hb7 hon (by rw [List.map_append];rfl) HK.out.2.1 HB6.out HK.out.2.2.2.2.1
            have HNL:=Lh (aI hnl hb7)
            have hl7:b6<w7.heap.size:=Nat.lt_of_lt_of_le HB6.out (Nat.le_trans HK.out.2.2.2.2.2 hb7.size)
            have HX7:=Lh (keep28 (HX.out w4 HB4.out) (hb7.block _ (by have:=HN6.out.1;have:=H2.out.size;have:=HZ0.out;have:=HB6.out;omega)) (hkp _ (by have:=HB4.out.size;have:=HWR.out;omega) (Nat.le_refl _)))
            clear hon hb7 hkp hnl
            refine hK.out _ _ ?_ (fun hHeld2=>?_)
            ·exact HX7.out
            clear hK K hHeld
            have hHeld:=hHeld2
            clear hHeld2
            try simp only [Act.put,sb1,sb2,sb3]
            refine tkA (i:=13) rfl hHeld ?_
            try simp only [Act.put,sb1,sb2,sb3]
            refine wpAnyH_ready (rs:=[14]) (by kernel_rfl) (by simp) ?_
            refine cons_at (dst:=none) rfl (fun K hK=>?_) AllReadyH.nil
            go_simp
            refine hK.out _ _ ?_ (fun _=>?_)
            ·exact keep28 HX7.out (set_other (show w.heap.size ≠ b6 by have:=HN6.out.1;have:=H2.out.size;have:=HZ0.out;omega)) (set_other (show wr.heap.size ≠ b6 by have:=HB6.out;have:=HOO.out.2.2.1.size;omega))
            clear hK K hHeld
            refine wpAnyH_done (by kernel_rfl) ?_ _
            refine NoPanic.normal ?_
            go_wp2_with fail
            go_meet
            exact ⟨((HR0.out.1.trans (HK.out.2.2.2.1.mono HR0.out.1.size)).trans (HNL.out.2.mono (by have:=H6.out.size;omega))).setCell (by have:=HN6.out.1;have:=H2.out.size;show W0.heap.size<=b6;omega) _,HNL.out.1⟩
           ·go_simp
            refine hK.out _ _ ?_ (fun hHeld2=>?_)
            ·exact HX.out _ (HB4.out.alloc HB4.out.size _)
            clear hK K hHeld
            have hHeld:=hHeld2
            clear hHeld2
            try simp only [Act.put,sb1,sb2,sb3]
            refine wpAnyH_ready (rs:=[1]) (by kernel_rfl) (by simp) ?_
            refine cons_at (dst:=some 133) rfl (fun K hK=>?_) AllReadyH.nil
            go_simp
            refine hK.out _ _ ?_ (fun hHeld2=>?_)
            ·exact HX.out _ (HB4.out.alloc HB4.out.size _)
            clear hK K hHeld
            have hHeld:=hHeld2
            clear hHeld2
            try simp only [Act.put,sb1,sb2,sb3]
            refine wpAnyH_ready (rs:=[12]) (by kernel_rfl) (by simp) ?_
            refine cons_at (dst:=some 144) rfl (fun K hK=>?_) AllReadyH.nil
            refine step_append_rowO (W0:=w4) (B:=w4.heap.size) rfl (by rfl) _ _ 32 (by rfl) 34 i0 _ 6 104 Tryz.underlying32 hi hz0 hz1 hz2 rfl (by decide) (.slice oa j ocap) (ps.map Frm.toD) (Frm.toD (.mk rk rn rm rt rb rl)) [.int .i64 rk,.string ⟨rn.toArray⟩,.int .i64 rm,.slice u4.t.a rt.length u4.t.cap,.slice u4.b.a rb.length u4.b.cap,.slice u4.l.a rl.length u4.l.cap] 34 (by rfl) (by rfl) HK.out.1 HK.out.2.2.1 (by have:=HK.out.2.2.2.2.2;omega) (Frm.width _) (by rw [HOO.out.2.2.2.2.2];have:=HN2.out;have:=HLT.out;unfold maxLen;omega) (by rw [HOO.out.2.2.2.2.2];have:=HN2.out;have:=HLT.out;omega) ?_
            intro ao cap w7 hon hb7 hkp
            rw [HOO.out.2.2.2.2.2] at hon ⊢
            obtain ⟨⟨q5,qz⟩,hnl,_⟩:=nl_next (xs:=ps++[.mk rk rn rm rt rb rl]) HOO.out.2.2.1 HOO.out.2.2.2.1 HK.out.2.2.2.1 hb7 hon (by rw [List.map_append];rfl) HK.out.2.1 HB6.out HK.out.2.2.2.2.1
            have HNL:=Lh (aI hnl hb7)
            have hl7:b6<w7.heap.size:=Nat.lt_of_lt_of_le HB6.out (Nat.le_trans HK.out.2.2.2.2.2 hb7.size)
            have HX7:=Lh (keep28 (HX.out w4 HB4.out) (hb7.block _ (by have:=HN6.out.1;have:=H2.out.size;have:=HZ0.out;have:=HB6.out;omega)) (hkp _ (by have:=HB4.out.size;have:=HWR.out;omega) (Nat.le_refl _)))
            clear hon hb7 hkp hnl
            refine hK.out _ _ ?_ (fun hHeld2=>?_)
            ·exact HX7.out
            clear hK K hHeld
            have hHeld:=hHeld2
            clear hHeld2
            try simp only [Act.put,sb1,sb2,sb3]
            refine tkA (i:=13) rfl hHeld ?_
            try simp only [Act.put,sb1,sb2,sb3]
            refine wpAnyH_ready (rs:=[14]) (by kernel_rfl) (by simp) ?_
            refine cons_at (dst:=none) rfl (fun K hK=>?_) AllReadyH.nil
            go_simp
            refine hK.out _ _ ?_ (fun _=>?_)
            ·exact keep28 HX7.out (set_other (show w.heap.size ≠ b6 by have:=HN6.out.1;have:=H2.out.size;have:=HZ0.out;omega)) (set_other (show wr.heap.size ≠ b6 by have:=HB6.out;have:=HOO.out.2.2.1.size;omega))
            clear hK K hHeld
            refine wpAnyH_done (by kernel_rfl) ?_ _
            refine NoPanic.normal ?_
            go_wp2_with fail
            go_meet
            exact ⟨((HR0.out.1.trans (HK.out.2.2.2.1.mono HR0.out.1.size)).trans (HNL.out.2.mono (by have:=H6.out.size;omega))).setCell (by have:=HN6.out.1;have:=H2.out.size;show W0.heap.size<=b6;omega) _,HNL.out.1⟩
        ·cases hck:countK kind
         ·rw [hck] at HCT
          simp only [hck,Bool.not_false,Bool.and_true] at HCR
          refine wp_region_noPanic ?_
          refine wp_region_held_drew (S:=fun w'=>w'.cell? ⟨w.heap.size,0,none⟩=some (.int .i64 kind)/\w'.cell? ⟨wr.heap.size,0,none⟩=some (.int .i64 gk)/\w'.cell? ⟨wr.heap.size,1,none⟩=some (.string ⟨gn.toArray⟩)/\w'.cell? ⟨wr.heap.size,2,none⟩=some (.int .i64 gm)/\w'.cell? ⟨wr.heap.size,3,none⟩=some (.slice y1.t.a gt.length y1.t.cap)/\w'.cell? ⟨wr.heap.size,4,none⟩=some (.slice y1.b.a gb.length y1.b.cap)/\w'.cell? ⟨wr.heap.size,5,none⟩=some (.slice y1.l.a gl.length y1.l.cap)) (by kernel_rfl) (HX.out _ (Below.refl _ _).drew) (fun hHeld=>?_)
          refine tkA (i:=0) rfl hHeld ?_
          try simp only [Act.put,sb1,sb2,sb3]
          refine tkA (i:=2) rfl hHeld ?_
          try simp only [Act.put,sb1,sb2,sb3]
          refine tkA (i:=3) rfl hHeld ?_
          try simp only [Act.put,sb1,sb2,sb3]
          refine tkA (i:=4) rfl hHeld ?_
          try simp only [Act.put,sb1,sb2,sb3]
          refine tkA (i:=5) rfl hHeld ?_
          try simp only [Act.put,sb1,sb2,sb3]
          refine tkA (i:=6) rfl hHeld ?_
          try simp only [Act.put,sb1,sb2,sb3]
          refine wpAnyH_ready (rs:=[1,7]) (by kernel_rfl) (by simp) ?_
          refine cons_at (dst:=some 133) rfl (fun K hK=>?_) (cons_at (dst:=some 139) rfl (fun K hK=>?_) AllReadyH.nil)
          ·go_simp
           refine hK.out _ _ ?_ (fun hHeld2=>?_)
           ·exact hHeld
           clear hK K hHeld
           have hHeld:=hHeld2
           clear hHeld2
           try simp only [Act.put,sb1,sb2,sb3]
           refine wpAnyH_ready (rs:=[7]) (by kernel_rfl) (by simp) ?_
           refine cons_at (dst:=some 139) rfl (fun K hK=>?_) AllReadyH.nil
           go_simp
           go_at_call 140
           (with_reducible refine (HCT.out W1.drew).mono ?_)
           rintro e w' ⟨rfl,rfl⟩
           go_simp
           refine hK.out _ _ ?_ (fun hHeld2=>?_)
           ·exact hHeld
           clear hK K hHeld
           have hHeld:=hHeld2
           clear hHeld2
           try simp only [Act.put,sb1,sb2,sb3]
           refine tkA (i:=8) rfl hHeld ?_
           try simp only [Act.put,sb1,sb2,sb3]
           refine tkA (i:=9) rfl hHeld ?_
           try simp only [Act.put,sb1,sb2,sb3]
           refine wpAnyH_ready (rs:=[10]) (by kernel_rfl) (by simp) ?_
           refine cons_at (dst:=some 142) rfl (fun K hK=>?_) AllReadyH.nil
           go_simp
           go_at_call 74
           (with_reducible refine HCR.out.mono ?_)
           rintro e w4 ⟨u4,rfl,hu4,hb4⟩
           simp only [ndV,FrmA.cells,SlA.val,Frm.kind,Frm.name,Frm.n,Frm.terms,Frm.binds,Frm.l]
           obtain ⟨F',hk1,hk2,hk3⟩:=nl_kid HOO.out.1 HOO.out.2.1 (Nat.le_trans HY.out.2.2 (HE.out _ H6.out).1.size) HOO.out.2.2.1.size HOO.out.2.2.2.2.1.drew hb4 hu4
           have HK:=Lh (aI hk1 (aI hk2 (aI hk3 (aI (HOO.out.2.2.2.2.1.drew.trans (hb4.mono HOO.out.2.2.2.2.1.drew.size)) (aI (show B<=b6 by have:=HY.out.2.2;have:=(HE.out _ H2.out).1.size;have:=HN6.out.1;omega) (Nat.le_trans HOO.out.2.2.1.size (Nat.le_trans HOO.out.2.2.2.2.1.drew.size hb4.size)))))))
           have HB4:=Lh ((Below.refl W1.heap.size W1).drew.trans (hb4.mono (Nat.le_refl _)))
           have x5:w4.cell? ⟨b6,5,none⟩=some (.slice oa j ocap):=(hb4.cell (p:=⟨b6,5,none⟩) hlt5).trans d5
           have x5l:b6<w4.heap.size:=Nat.lt_of_lt_of_le hlt5 hb4.size
           clear hk1 hk2 hk3 hu4 hb4
           go_simp
           refine hK.out _ _ ?_ (fun hHeld2=>?_)
           ·exact HX.out _ HB4.out
           clear hK K hHeld
           have hHeld:=hHeld2
           clear hHeld2
           try simp only [Act.put,sb1,sb2,sb3]
           refine wpAnyH_ready (rs:=[11]) (by kernel_rfl) (by simp) ?_
           refine cons_at (dst:=some 143) rfl (fun K hK=>?_) AllReadyH.nil
           go_simp
           refine hK.out _ _ ?_ (fun hHeld2=>?_)
           ·exact HX.out _ (HB4.out.alloc HB4.out.size _)
           clear hK K hHeld
           have hHeld:=hHeld2
           clear hHeld2
           try simp only [Act.put,sb1,sb2,sb3]
           refine wpAnyH_ready (rs:=[12]) (by kernel_rfl) (by simp) ?_
           refine cons_at (dst:=some 144) rfl (fun K hK=>?_) AllReadyH.nil
           refine step_append_rowO (W0:=w4) (B:=w4.heap.size) rfl (by rfl) _ _ 32 (by rfl) 34 i0 _ 6 104 Tryz.underlying32 hi hz0 hz1 hz2 rfl (by decide) (.slice oa j ocap) (ps.map Frm.toD) (Frm.toD (.mk rk rn rm rt rb rl)) [.int .i64 rk,.string ⟨rn.toArray⟩,.int .i64 rm,.slice u4.t.a rt.length u4.t.cap,.slice u4.b.a rb.length u4.b.cap,.slice u4.l.a rl.length u4.l.cap] 34 (by rfl) (by rfl) HK.out.1 HK.out.2.2.1 (by have:=HK.out.2.2.2.2.2;omega) (Frm.width _) (by rw [HOO.out.2.2.2.2.2];have:=HN2.out;have:=HLT.out;unfold maxLen;omega) (by rw [HOO.out.2.2.2.2.2];have:=HN2.out;have:=HLT.out;omega) ?_
           intro ao cap w7 hon hb7 hkp
           rw [HOO.out.2.2.2.2.2] at hon ⊢
           obtain ⟨⟨q5,qz⟩,hnl,_⟩:=nl_next (xs:=ps++[.mk rk rn rm rt rb rl]) HOO.out.2.2.1 HOO.out.2.2.2.1 HK.out.2.2.2.1 hb7 hon (by rw [List.map_append];rfl) HK.out.2.1 HB6.out HK.out.2.2.2.2.1
           have HNL:=Lh (aI hnl hb7)
           have hl7:b6<w7.heap.size:=Nat.lt_of_lt_of_le HB6.out (Nat.le_trans HK.out.2.2.2.2.2 hb7.size)
           have HX7:=Lh (keep28 (HX.out w4 HB4.out) (hb7.block _ (by have:=HN6.out.1;have:=H2.out.size;have:=HZ0.out;have:=HB6.out;omega)) (hkp _ (by have:=HB4.out.size;have:=HWR.out;omega) (Nat.le_refl _)))
           clear hon hb7 hkp hnl
           refine hK.out _ _ ?_ (fun hHeld2=>?_)
           ·exact HX7.out
           clear hK K hHeld
           have hHeld:=hHeld2
           clear hHeld2
           try simp only [Act.put,sb1,sb2,sb3]
           refine tkA (i:=13) rfl hHeld ?_
           try simp only [Act.put,sb1,sb2,sb3]
           refine wpAnyH_ready (rs:=[14]) (by kernel_rfl) (by simp) ?_
           refine cons_at (dst:=none) rfl (fun K hK=>?_) AllReadyH.nil
           go_simp
           refine hK.out _ _ ?_ (fun _=>?_)
           ·exact keep28 HX7.out (set_other (show w.heap.size ≠ b6 by have:=HN6.out.1;have:=H2.out.size;have:=HZ0.out;omega)) (set_other (show wr.heap.size ≠ b6 by have:=HB6.out;have:=HOO.out.2.2.1.size;omega))
           clear hK K hHeld
           refine wpAnyH_done (by kernel_rfl) ?_ _
           refine NoPanic.normal ?_
           go_wp2_with fail
           go_meet
           exact ⟨((HR0.out.1.trans (HK.out.2.2.2.1.mono HR0.out.1.size)).trans (HNL.out.2.mono (by have:=H6.out.size;omega))).setCell (by have:=HN6.out.1;have:=H2.out.size;show W0.heap.size<=b6;omega) _,HNL.out.1⟩
          ·go_simp
           go_at_call 140
           (with_reducible refine (HCT.out W1.drew).mono ?_)
           rintro e w' ⟨rfl,rfl⟩
           go_simp
           refine hK.out _ _ ?_ (fun hHeld2=>?_)
           ·exact hHeld
           clear hK K hHeld
           have hHeld:=hHeld2
           clear hHeld2
           try simp only [Act.put,sb1,sb2,sb3]
           refine tkA (i:=8) rfl hHeld ?_
           try simp only [Act.put,sb1,sb2,sb3]
           refine tkA (i:=9) rfl hHeld ?_
           try simp only [Act.put,sb1,sb2,sb3]
           refine wpAnyH_ready (rs:=[1,10]) (by kernel_rfl) (by simp) ?_
           refine cons_at (dst:=some 133) rfl (fun K hK=>?_) (cons_at (dst:=some 142) rfl (fun K hK=>?_) AllReadyH.nil)
           ·go_simp
            refine hK.out _ _ ?_ (fun hHeld2=>?_)
            ·exact hHeld
            clear hK K hHeld
            have hHeld:=hHeld2
            clear hHeld2
            try simp only [Act.put,sb1,sb2,sb3]
            refine wpAnyH_ready (rs:=[10]) (by kernel_rfl) (by simp) ?_
            refine cons_at (dst:=some 142) rfl (fun K hK=>?_) AllReadyH.nil
            go_simp
            go_at_call 74
            (with_reducible refine HCR.out.mono ?_)
            rintro e w4 ⟨u4,rfl,hu4,hb4⟩
            simp only [ndV,FrmA.cells,SlA.val,Frm.kind,Frm.name,Frm.n,Frm.terms,Frm.binds,Frm.l]
            obtain ⟨F',hk1,hk2,hk3⟩:=nl_kid HOO.out.1 HOO.out.2.1 (Nat.le_trans HY.out.2.2 (HE.out _ H6.out).1.size) HOO.out.2.2.1.size HOO.out.2.2.2.2.1.drew hb4 hu4
            have HK:=Lh (aI hk1 (aI hk2 (aI hk3 (aI (HOO.out.2.2.2.2.1.drew.trans (hb4.mono HOO.out.2.2.2.2.1.drew.size)) (aI (show B<=b6 by have:=HY.out.2.2;have:=(HE.out _ H2.out).1.size;have:=HN6.out.1;omega) (Nat.le_trans HOO.out.2.2.1.size (Nat.le_trans HOO.out.2.2.2.2.1.drew.size hb4.size)))))))
            have HB4:=Lh ((Below.refl W1.heap.size W1).drew.trans (hb4.mono (Nat.le_refl _)))
            have x5:w4.cell? ⟨b6,5,none⟩=some (.slice oa j ocap):=(hb4.cell (p:=⟨b6,5,none⟩) hlt5).trans d5
            have x5l:b6<w4.heap.size:=Nat.lt_of_lt_of_le hlt5 hb4.size
            clear hk1 hk2 hk3 hu4 hb4
            go_simp
            refine hK.out _ _ ?_ (fun hHeld2=>?_)
            ·exact HX.out _ HB4.out
            clear hK K hHeld
            have hHeld:=hHeld2
            clear hHeld2
            try simp only [Act.put,sb1,sb2,sb3]
            refine wpAnyH_ready (rs:=[11]) (by kernel_rfl) (by simp) ?_
            refine cons_at (dst:=some 143) rfl (fun K hK=>?_) AllReadyH.nil
            go_simp
            refine hK.out _ _ ?_ (fun hHeld2=>?_)
            ·exact HX.out _ (HB4.out.alloc HB4.out.size _)
            clear hK K hHeld
            have hHeld:=hHeld2
            clear hHeld2
            try simp only [Act.put,sb1,sb2,sb3]
            refine wpAnyH_ready (rs:=[12]) (by kernel_rfl) (by simp) ?_
            refine cons_at (dst:=some 144) rfl (fun K hK=>?_) AllReadyH.nil
            refine step_append_rowO (W0:=w4) (B:=w4.heap.size) rfl (by rfl) _ _ 32 (by rfl) 34 i0 _ 6 104 Tryz.underlying32 hi hz0 hz1 hz2 rfl (by decide) (.slice oa j ocap) (ps.map Frm.toD) (Frm.toD (.mk rk rn rm rt rb rl)) [.int .i64 rk,.string ⟨rn.toArray⟩,.int .i64 rm,.slice u4.t.a rt.length u4.t.cap,.slice u4.b.a rb.length u4.b.cap,.slice u4.l.a rl.length u4.l.cap] 34 (by rfl) (by rfl) HK.out.1 HK.out.2.2.1 (by have:=HK.out.2.2.2.2.2;omega) (Frm.width _) (by rw [HOO.out.2.2.2.2.2];have:=HN2.out;have:=HLT.out;unfold maxLen;omega) (by rw [HOO.out.2.2.2.2.2];have:=HN2.out;have:=HLT.out;omega) ?_
            intro ao cap w7 hon hb7 hkp
            rw [HOO.out.2.2.2.2.2] at hon ⊢
            obtain ⟨⟨q5,qz⟩,hnl,_⟩:=nl_next (xs:=ps++[.mk rk rn rm rt rb rl]) HOO.out.2.2.1 HOO.out.2.2.2.1 HK.out.2.2.2.1 hb7 hon (by rw [List.map_append];rfl) HK.out.2.1 HB6.out HK.out.2.2.2.2.1
            have HNL:=Lh (aI hnl hb7)
            have hl7:b6<w7.heap.size:=Nat.lt_of_lt_of_le HB6.out (Nat.le_trans HK.out.2.2.2.2.2 hb7.size)
            have HX7:=Lh (keep28 (HX.out w4 HB4.out) (hb7.block _ (by have:=HN6.out.1;have:=H2.out.size;have:=HZ0.out;have:=HB6.out;omega)) (hkp _ (by have:=HB4.out.size;have:=HWR.out;omega) (Nat.le_refl _)))
            clear hon hb7 hkp hnl
            refine hK.out _ _ ?_ (fun hHeld2=>?_)
            ·exact HX7.out
            clear hK K hHeld
            have hHeld:=hHeld2
            clear hHeld2
            try simp only [Act.put,sb1,sb2,sb3]
            refine tkA (i:=13) rfl hHeld ?_
            try simp only [Act.put,sb1,sb2,sb3]
            refine wpAnyH_ready (rs:=[14]) (by kernel_rfl) (by simp) ?_
            refine cons_at (dst:=none) rfl (fun K hK=>?_) AllReadyH.nil
            go_simp
            refine hK.out _ _ ?_ (fun _=>?_)
            ·exact keep28 HX7.out (set_other (show w.heap.size ≠ b6 by have:=HN6.out.1;have:=H2.out.size;have:=HZ0.out;omega)) (set_other (show wr.heap.size ≠ b6 by have:=HB6.out;have:=HOO.out.2.2.1.size;omega))
            clear hK K hHeld
            refine wpAnyH_done (by kernel_rfl) ?_ _
            refine NoPanic.normal ?_
            go_wp2_with fail
            go_meet
            exact ⟨((HR0.out.1.trans (HK.out.2.2.2.1.mono HR0.out.1.size)).trans (HNL.out.2.mono (by have:=H6.out.size;omega))).setCell (by have:=HN6.out.1;have:=H2.out.size;show W0.heap.size<=b6;omega) _,HNL.out.1⟩
           ·go_simp
            go_at_call 74
            (with_reducible refine HCR.out.mono ?_)
            rintro e w4 ⟨u4,rfl,hu4,hb4⟩
            simp only [ndV,FrmA.cells,SlA.val,Frm.kind,Frm.name,Frm.n,Frm.terms,Frm.binds,Frm.l]
            obtain ⟨F',hk1,hk2,hk3⟩:=nl_kid HOO.out.1 HOO.out.2.1 (Nat.le_trans HY.out.2.2 (HE.out _ H6.out).1.size) HOO.out.2.2.1.size HOO.out.2.2.2.2.1.drew hb4 hu4
            have HK:=Lh (aI hk1 (aI hk2 (aI hk3 (aI (HOO.out.2.2.2.2.1.drew.trans (hb4.mono HOO.out.2.2.2.2.1.drew.size)) (aI (show B<=b6 by have:=HY.out.2.2;have:=(HE.out _ H2.out).1.size;have:=HN6.out.1;omega) (Nat.le_trans HOO.out.2.2.1.size (Nat.le_trans HOO.out.2.2.2.2.1.drew.size hb4.size)))))))
            have HB4:=Lh ((Below.refl W1.heap.size W1).drew.trans (hb4.mono (Nat.le_refl _)))
            have x5:w4.cell? ⟨b6,5,none⟩=some (.slice oa j ocap):=(hb4.cell (p:=⟨b6,5,none⟩) hlt5).trans d5
            have x5l:b6<w4.heap.size:=Nat.lt_of_lt_of_le hlt5 hb4.size
            clear hk1 hk2 hk3 hu4 hb4
            go_simp
            refine hK.out _ _ ?_ (fun hHeld2=>?_)
            ·exact HX.out _ HB4.out
            clear hK K hHeld
            have hHeld:=hHeld2
            clear hHeld2
            try simp only [Act.put,sb1,sb2,sb3]
            refine wpAnyH_ready (rs:=[1,11]) (by kernel_rfl) (by simp) ?_
            refine cons_at (dst:=some 133) rfl (fun K hK=>?_) (cons_at (dst:=some 143) rfl (fun K hK=>?_) AllReadyH.nil)
            ·go_simp
             refine hK.out _ _ ?_ (fun hHeld2=>?_)
             ·exact HX.out _ HB4.out
             clear hK K hHeld
             have hHeld:=hHeld2
             clear hHeld2
             try simp only [Act.put,sb1,sb2,sb3]
             refine wpAnyH_ready (rs:=[11]) (by kernel_rfl) (by simp) ?_
             refine cons_at (dst:=some 143) rfl (fun K hK=>?_) AllReadyH.nil
             go_simp
             refine hK.out _ _ ?_ (fun hHeld2=>?_)
             ·exact HX.out _ (HB4.out.alloc HB4.out.size _)
             clear hK K hHeld
             have hHeld:=hHeld2
             clear hHeld2
             try simp only [Act.put,sb1,sb2,sb3]
             refine wpAnyH_ready (rs:=[12]) (by kernel_rfl) (by simp) ?_
             refine cons_at (dst:=some 144) rfl (fun K hK=>?_) AllReadyH.nil
             refine step_append_rowO (W0:=w4) (B:=w4.heap.size) rfl (by rfl) _ _ 32 (by rfl) 34 i0 _ 6 104 Tryz.underlying32 hi hz0 hz1 hz2 rfl (by decide) (.slice oa j ocap) (ps.map Frm.toD) (Frm.toD (.mk rk rn rm rt rb rl)) [.int .i64 rk,.string ⟨rn.toArray⟩,.int .i64 rm,.slice u4.t.a rt.length u4.t.cap,.slice u4.b.a rb.length u4.b.cap,.slice u4.l.a rl.length u4.l.cap] 34 (by rfl) (by rfl) HK.out.1 HK.out.2.2.1 (by have:=HK.out.2.2.2.2.2;omega) (Frm.width _) (by rw [HOO.out.2.2.2.2.2];have:=HN2.out;have:=HLT.out;unfold maxLen;omega) (by rw [HOO.out.2.2.2.2.2];have:=HN2.out;have:=HLT.out;omega) ?_
             intro ao cap w7 hon hb7 hkp
             rw [HOO.out.2.2.2.2.2] at hon ⊢
             obtain ⟨⟨q5,qz⟩,hnl,_⟩:=nl_next (xs:=ps++[.mk rk rn rm rt rb rl]) HOO.out.2.2.1 HOO.out.2.2.2.1 HK.out.2.2.2.1 hb7 hon (by rw [List.map_append];rfl) HK.out.2.1 HB6.out HK.out.2.2.2.2.1
             have HNL:=Lh (aI hnl hb7)
             have hl7:b6<w7.heap.size:=Nat.lt_of_lt_of_le HB6.out (Nat.le_trans HK.out.2.2.2.2.2 hb7.size)
             have HX7:=Lh (keep28 (HX.out w4 HB4.out) (hb7.block _ (by have:=HN6.out.1;have:=H2.out.size;have:=HZ0.out;have:=HB6.out;omega)) (hkp _ (by have:=HB4.out.size;have:=HWR.out;omega) (Nat.le_refl _)))
             clear hon hb7 hkp hnl
             refine hK.out _ _ ?_ (fun hHeld2=>?_)
             ·exact HX7.out
             clear hK K hHeld
             have hHeld:=hHeld2
             clear hHeld2
             try simp only [Act.put,sb1,sb2,sb3]
             refine tkA (i:=13) rfl hHeld ?_
             try simp only [Act.put,sb1,sb2,sb3]
             refine wpAnyH_ready (rs:=[14]) (by kernel_rfl) (by simp) ?_
             refine cons_at (dst:=none) rfl (fun K hK=>?_) AllReadyH.nil
             go_simp
             refine hK.out _ _ ?_ (fun _=>?_)
             ·exact keep28 HX7.out (set_other (show w.heap.size ≠ b6 by have:=HN6.out.1;have:=H2.out.size;have:=HZ0.out;omega)) (set_other (show wr.heap.size ≠ b6 by have:=HB6.out;have:=HOO.out.2.2.1.size;omega))
             clear hK K hHeld
             refine wpAnyH_done (by kernel_rfl) ?_ _
             refine NoPanic.normal ?_
             go_wp2_with fail
             go_meet
             exact ⟨((HR0.out.1.trans (HK.out.2.2.2.1.mono HR0.out.1.size)).trans (HNL.out.2.mono (by have:=H6.out.size;omega))).setCell (by have:=HN6.out.1;have:=H2.out.size;show W0.heap.size<=b6;omega) _,HNL.out.1⟩
            ·go_simp
             refine hK.out _ _ ?_ (fun hHeld2=>?_)
             ·exact HX.out _ (HB4.out.alloc HB4.out.size _)
             clear hK K hHeld
             have hHeld:=hHeld2
             clear hHeld2
             try simp only [Act.put,sb1,sb2,sb3]
             refine wpAnyH_ready (rs:=[1]) (by kernel_rfl) (by simp) ?_
             refine cons_at (dst:=some 133) rfl (fun K hK=>?_) AllReadyH.nil
             go_simp
             refine hK.out _ _ ?_ (fun hHeld2=>?_)
             ·exact HX.out _ (HB4.out.alloc HB4.out.size _)
             clear hK K hHeld
             have hHeld:=hHeld2
             clear hHeld2
             try simp only [Act.put,sb1,sb2,sb3]
             refine wpAnyH_ready (rs:=[12]) (by kernel_rfl) (by simp) ?_
             refine cons_at (dst:=some 144) rfl (fun K hK=>?_) AllReadyH.nil
             refine step_append_rowO (W0:=w4) (B:=w4.heap.size) rfl (by rfl) _ _ 32 (by rfl) 34 i0 _ 6 104 Tryz.underlying32 hi hz0 hz1 hz2 rfl (by decide) (.slice oa j ocap) (ps.map Frm.toD) (Frm.toD (.mk rk rn rm rt rb rl)) [.int .i64 rk,.string ⟨rn.toArray⟩,.int .i64 rm,.slice u4.t.a rt.length u4.t.cap,.slice u4.b.a rb.length u4.b.cap,.slice u4.l.a rl.length u4.l.cap] 34 (by rfl) (by rfl) HK.out.1 HK.out.2.2.1 (by have:=HK.out.2.2.2.2.2;omega) (Frm.width _) (by rw [HOO.out.2.2.2.2.2];have:=HN2.out;have:=HLT.out;unfold maxLen;omega) (by rw [HOO.out.2.2.2.2.2];have:=HN2.out;have:=HLT.out;omega) ?_
             intro ao cap w7 hon hb7 hkp
             rw [HOO.out.2.2.2.2.2] at hon ⊢
             obtain ⟨⟨q5,qz⟩,hnl,_⟩:=nl_next (xs:=ps++[.mk rk rn rm rt rb rl]) HOO.out.2.2.1 HOO.out.2.2.2.1 HK.out.2.2.2.1 hb7 hon (by rw [List.map_append];rfl) HK.out.2.1 HB6.out HK.out.2.2.2.2.1
             have HNL:=Lh (aI hnl hb7)
             have hl7:b6<w7.heap.size:=Nat.lt_of_lt_of_le HB6.out (Nat.le_trans HK.out.2.2.2.2.2 hb7.size)
             have HX7:=Lh (keep28 (HX.out w4 HB4.out) (hb7.block _ (by have:=HN6.out.1;have:=H2.out.size;have:=HZ0.out;have:=HB6.out;omega)) (hkp _ (by have:=HB4.out.size;have:=HWR.out;omega) (Nat.le_refl _)))
             clear hon hb7 hkp hnl
             refine hK.out _ _ ?_ (fun hHeld2=>?_)
             ·exact HX7.out
             clear hK K hHeld
             have hHeld:=hHeld2
             clear hHeld2
             try simp only [Act.put,sb1,sb2,sb3]
             refine tkA (i:=13) rfl hHeld ?_
             try simp only [Act.put,sb1,sb2,sb3]
             refine wpAnyH_ready (rs:=[14]) (by kernel_rfl) (by simp) ?_
             refine cons_at (dst:=none) rfl (fun K hK=>?_) AllReadyH.nil
             go_simp
             refine hK.out _ _ ?_ (fun _=>?_)
             ·exact keep28 HX7.out (set_other (show w.heap.size ≠ b6 by have:=HN6.out.1;have:=H2.out.size;have:=HZ0.out;omega)) (set_other (show wr.heap.size ≠ b6 by have:=HB6.out;have:=HOO.out.2.2.1.size;omega))
             clear hK K hHeld
             refine wpAnyH_done (by kernel_rfl) ?_ _
             refine NoPanic.normal ?_
             go_wp2_with fail
             go_meet
             exact ⟨((HR0.out.1.trans (HK.out.2.2.2.1.mono HR0.out.1.size)).trans (HNL.out.2.mono (by have:=H6.out.size;omega))).setCell (by have:=HN6.out.1;have:=H2.out.size;show W0.heap.size<=b6;omega) _,HNL.out.1⟩
         ·rw [hck] at HCT
          simp only [hck,Bool.not_true,Bool.and_false] at HCR
          refine wp_region_noPanic ?_
          refine wp_region_held_drew (S:=fun w'=>w'.cell? ⟨w.heap.size,0,none⟩=some (.int .i64 kind)/\w'.cell? ⟨wr.heap.size,0,none⟩=some (.int .i64 gk)/\w'.cell? ⟨wr.heap.size,1,none⟩=some (.string ⟨gn.toArray⟩)/\w'.cell? ⟨wr.heap.size,2,none⟩=some (.int .i64 gm)/\w'.cell? ⟨wr.heap.size,3,none⟩=some (.slice y1.t.a gt.length y1.t.cap)/\w'.cell? ⟨wr.heap.size,4,none⟩=some (.slice y1.b.a gb.length y1.b.cap)/\w'.cell? ⟨wr.heap.size,5,none⟩=some (.slice y1.l.a gl.length y1.l.cap)) (by kernel_rfl) (HX.out _ (Below.refl _ _).drew) (fun hHeld=>?_)
          refine tkA (i:=0) rfl hHeld ?_
          try simp only [Act.put,sb1,sb2,sb3]
          refine tkA (i:=2) rfl hHeld ?_
          try simp only [Act.put,sb1,sb2,sb3]
          refine tkA (i:=3) rfl hHeld ?_
          try simp only [Act.put,sb1,sb2,sb3]
          refine tkA (i:=4) rfl hHeld ?_
          try simp only [Act.put,sb1,sb2,sb3]
          refine tkA (i:=5) rfl hHeld ?_
          try simp only [Act.put,sb1,sb2,sb3]
          refine tkA (i:=6) rfl hHeld ?_
          try simp only [Act.put,sb1,sb2,sb3]
          refine wpAnyH_ready (rs:=[1,7]) (by kernel_rfl) (by simp) ?_
          refine cons_at (dst:=some 133) rfl (fun K hK=>?_) (cons_at (dst:=some 139) rfl (fun K hK=>?_) AllReadyH.nil)
          ·go_simp
           refine hK.out _ _ ?_ (fun hHeld2=>?_)
           ·exact hHeld
           clear hK K hHeld
           have hHeld:=hHeld2
           clear hHeld2
           try simp only [Act.put,sb1,sb2,sb3]
           refine wpAnyH_ready (rs:=[7]) (by kernel_rfl) (by simp) ?_
           refine cons_at (dst:=some 139) rfl (fun K hK=>?_) AllReadyH.nil
           go_simp
           go_at_call 140
           (with_reducible refine (HCT.out W1.drew).mono ?_)
           rintro e w' ⟨rfl,rfl⟩
           go_simp
           refine hK.out _ _ ?_ (fun hHeld2=>?_)
           ·exact hHeld
           clear hK K hHeld
           have hHeld:=hHeld2
           clear hHeld2
           try simp only [Act.put,sb1,sb2,sb3]
           refine tkA (i:=8) rfl hHeld ?_
           try simp only [Act.put,sb1,sb2,sb3]
           refine tkA (i:=9) rfl hHeld ?_
           try simp only [Act.put,sb1,sb2,sb3]
           refine wpAnyH_ready (rs:=[10]) (by kernel_rfl) (by simp) ?_
           refine cons_at (dst:=some 142) rfl (fun K hK=>?_) AllReadyH.nil
           go_simp
           go_at_call 74
           (with_reducible refine HCR.out.mono ?_)
           rintro e w4 ⟨u4,rfl,hu4,hb4⟩
           simp only [ndV,FrmA.cells,SlA.val,Frm.kind,Frm.name,Frm.n,Frm.terms,Frm.binds,Frm.l]
           obtain ⟨F',hk1,hk2,hk3⟩:=nl_kid HOO.out.1 HOO.out.2.1 (Nat.le_trans HY.out.2.2 (HE.out _ H6.out).1.size) HOO.out.2.2.1.size HOO.out.2.2.2.2.1.drew hb4 hu4
           have HK:=Lh (aI hk1 (aI hk2 (aI hk3 (aI (HOO.out.2.2.2.2.1.drew.trans (hb4.mono HOO.out.2.2.2.2.1.drew.size)) (aI (show B<=b6 by have:=HY.out.2.2;have:=(HE.out _ H2.out).1.size;have:=HN6.out.1;omega) (Nat.le_trans HOO.out.2.2.1.size (Nat.le_trans HOO.out.2.2.2.2.1.drew.size hb4.size)))))))
           have HB4:=Lh ((Below.refl W1.heap.size W1).drew.trans (hb4.mono (Nat.le_refl _)))
           have x5:w4.cell? ⟨b6,5,none⟩=some (.slice oa j ocap):=(hb4.cell (p:=⟨b6,5,none⟩) hlt5).trans d5
           have x5l:b6<w4.heap.size:=Nat.lt_of_lt_of_le hlt5 hb4.size
           clear hk1 hk2 hk3 hu4 hb4
           go_simp
           refine hK.out _ _ ?_ (fun hHeld2=>?_)
           ·exact HX.out _ HB4.out
           clear hK K hHeld
           have hHeld:=hHeld2
           clear hHeld2
           try simp only [Act.put,sb1,sb2,sb3]
           refine wpAnyH_ready (rs:=[11]) (by kernel_rfl) (by simp) ?_
           refine cons_at (dst:=some 143) rfl (fun K hK=>?_) AllReadyH.nil
           go_simp
           refine hK.out _ _ ?_ (fun hHeld2=>?_)
           ·exact HX.out _ (HB4.out.alloc HB4.out.size _)
           clear hK K hHeld
           have hHeld:=hHeld2
           clear hHeld2
           try simp only [Act.put,sb1,sb2,sb3]
           refine wpAnyH_ready (rs:=[12]) (by kernel_rfl) (by simp) ?_
           refine cons_at (dst:=some 144) rfl (fun K hK=>?_) AllReadyH.nil
           refine step_append_rowO (W0:=w4) (B:=w4.heap.size) rfl (by rfl) _ _ 32 (by rfl) 34 i0 _ 6 104 Tryz.underlying32 hi hz0 hz1 hz2 rfl (by decide) (.slice oa j ocap) (ps.map Frm.toD) (Frm.toD (.mk rk rn rm rt rb rl)) [.int .i64 rk,.string ⟨rn.toArray⟩,.int .i64 rm,.slice u4.t.a rt.length u4.t.cap,.slice u4.b.a rb.length u4.b.cap,.slice u4.l.a rl.length u4.l.cap] 34 (by rfl) (by rfl) HK.out.1 HK.out.2.2.1 (by have:=HK.out.2.2.2.2.2;omega) (Frm.width _) (by rw [HOO.out.2.2.2.2.2];have:=HN2.out;have:=HLT.out;unfold maxLen;omega) (by rw [HOO.out.2.2.2.2.2];have:=HN2.out;have:=HLT.out;omega) ?_
           intro ao cap w7 hon hb7 hkp
           rw [HOO.out.2.2.2.2.2] at hon ⊢
           obtain ⟨⟨q5,qz⟩,hnl,_⟩:=nl_next (xs:=ps++[.mk rk rn rm rt rb rl]) HOO.out.2.2.1 HOO.out.2.2.2.1 HK.out.2.2.2.1 hb7 hon (by rw [List.map_append];rfl) HK.out.2.1 HB6.out HK.out.2.2.2.2.1
           have HNL:=Lh (aI hnl hb7)
           have hl7:b6<w7.heap.size:=Nat.lt_of_lt_of_le HB6.out (Nat.le_trans HK.out.2.2.2.2.2 hb7.size)
           have HX7:=Lh (keep28 (HX.out w4 HB4.out) (hb7.block _ (by have:=HN6.out.1;have:=H2.out.size;have:=HZ0.out;have:=HB6.out;omega)) (hkp _ (by have:=HB4.out.size;have:=HWR.out;omega) (Nat.le_refl _)))
           clear hon hb7 hkp hnl
           refine hK.out _ _ ?_ (fun hHeld2=>?_)
           ·exact HX7.out
           clear hK K hHeld
           have hHeld:=hHeld2
           clear hHeld2
           try simp only [Act.put,sb1,sb2,sb3]
           refine tkA (i:=13) rfl hHeld ?_
           try simp only [Act.put,sb1,sb2,sb3]
           refine wpAnyH_ready (rs:=[14]) (by kernel_rfl) (by simp) ?_
           refine cons_at (dst:=none) rfl (fun K hK=>?_) AllReadyH.nil
           go_simp
           refine hK.out _ _ ?_ (fun _=>?_)
           ·exact keep28 HX7.out (set_other (show w.heap.size ≠ b6 by have:=HN6.out.1;have:=H2.out.size;have:=HZ0.out;omega)) (set_other (show wr.heap.size ≠ b6 by have:=HB6.out;have:=HOO.out.2.2.1.size;omega))
           clear hK K hHeld
           refine wpAnyH_done (by kernel_rfl) ?_ _
           refine NoPanic.normal ?_
           go_wp2_with fail
           go_meet
           exact ⟨((HR0.out.1.trans (HK.out.2.2.2.1.mono HR0.out.1.size)).trans (HNL.out.2.mono (by have:=H6.out.size;omega))).setCell (by have:=HN6.out.1;have:=H2.out.size;show W0.heap.size<=b6;omega) _,HNL.out.1⟩
          ·go_simp
           go_at_call 140
           (with_reducible refine (HCT.out W1.drew).mono ?_)
           rintro e w' ⟨rfl,rfl⟩
           go_simp
           refine hK.out _ _ ?_ (fun hHeld2=>?_)
           ·exact hHeld
           clear hK K hHeld
           have hHeld:=hHeld2
           clear hHeld2
           try simp only [Act.put,sb1,sb2,sb3]
           refine tkA (i:=8) rfl hHeld ?_
           try simp only [Act.put,sb1,sb2,sb3]
           refine tkA (i:=9) rfl hHeld ?_
           try simp only [Act.put,sb1,sb2,sb3]
           refine wpAnyH_ready (rs:=[1,10]) (by kernel_rfl) (by simp) ?_
           refine cons_at (dst:=some 133) rfl (fun K hK=>?_) (cons_at (dst:=some 142) rfl (fun K hK=>?_) AllReadyH.nil)
           ·go_simp
            refine hK.out _ _ ?_ (fun hHeld2=>?_)
            ·exact hHeld
            clear hK K hHeld
            have hHeld:=hHeld2
            clear hHeld2
            try simp only [Act.put,sb1,sb2,sb3]
            refine wpAnyH_ready (rs:=[10]) (by kernel_rfl) (by simp) ?_
            refine cons_at (dst:=some 142) rfl (fun K hK=>?_) AllReadyH.nil
            go_simp
            go_at_call 74
            (with_reducible refine HCR.out.mono ?_)
            rintro e w4 ⟨u4,rfl,hu4,hb4⟩
            simp only [ndV,FrmA.cells,SlA.val,Frm.kind,Frm.name,Frm.n,Frm.terms,Frm.binds,Frm.l]
            obtain ⟨F',hk1,hk2,hk3⟩:=nl_kid HOO.out.1 HOO.out.2.1 (Nat.le_trans HY.out.2.2 (HE.out _ H6.out).1.size) HOO.out.2.2.1.size HOO.out.2.2.2.2.1.drew hb4 hu4
            have HK:=Lh (aI hk1 (aI hk2 (aI hk3 (aI (HOO.out.2.2.2.2.1.drew.trans (hb4.mono HOO.out.2.2.2.2.1.drew.size)) (aI (show B<=b6 by have:=HY.out.2.2;have:=(HE.out _ H2.out).1.size;have:=HN6.out.1;omega) (Nat.le_trans HOO.out.2.2.1.size (Nat.le_trans HOO.out.2.2.2.2.1.drew.size hb4.size)))))))
            have HB4:=Lh ((Below.refl W1.heap.size W1).drew.trans (hb4.mono (Nat.le_refl _)))
            have x5:w4.cell? ⟨b6,5,none⟩=some (.slice oa j ocap):=(hb4.cell (p:=⟨b6,5,none⟩) hlt5).trans d5
            have x5l:b6<w4.heap.size:=Nat.lt_of_lt_of_le hlt5 hb4.size
            clear hk1 hk2 hk3 hu4 hb4
            go_simp
            refine hK.out _ _ ?_ (fun hHeld2=>?_)
            ·exact HX.out _ HB4.out
            clear hK K hHeld
            have hHeld:=hHeld2
            clear hHeld2
            try simp only [Act.put,sb1,sb2,sb3]
            refine wpAnyH_ready (rs:=[11]) (by kernel_rfl) (by simp) ?_
            refine cons_at (dst:=some 143) rfl (fun K hK=>?_) AllReadyH.nil
            go_simp
            refine hK.out _ _ ?_ (fun hHeld2=>?_)
            ·exact HX.out _ (HB4.out.alloc HB4.out.size _)
            clear hK K hHeld
            have hHeld:=hHeld2
            clear hHeld2
            try simp only [Act.put,sb1,sb2,sb3]
            refine wpAnyH_ready (rs:=[12]) (by kernel_rfl) (by simp) ?_
            refine cons_at (dst:=some 144) rfl (fun K hK=>?_) AllReadyH.nil
            refine step_append_rowO (W0:=w4) (B:=w4.heap.size) rfl (by rfl) _ _ 32 (by rfl) 34 i0 _ 6 104 Tryz.underlying32 hi hz0 hz1 hz2 rfl (by decide) (.slice oa j ocap) (ps.map Frm.toD) (Frm.toD (.mk rk rn rm rt rb rl)) [.int .i64 rk,.string ⟨rn.toArray⟩,.int .i64 rm,.slice u4.t.a rt.length u4.t.cap,.slice u4.b.a rb.length u4.b.cap,.slice u4.l.a rl.length u4.l.cap] 34 (by rfl) (by rfl) HK.out.1 HK.out.2.2.1 (by have:=HK.out.2.2.2.2.2;omega) (Frm.width _) (by rw [HOO.out.2.2.2.2.2];have:=HN2.out;have:=HLT.out;unfold maxLen;omega) (by rw [HOO.out.2.2.2.2.2];have:=HN2.out;have:=HLT.out;omega) ?_
            intro ao cap w7 hon hb7 hkp
            rw [HOO.out.2.2.2.2.2] at hon ⊢
            obtain ⟨⟨q5,qz⟩,hnl,_⟩:=nl_next (xs:=ps++[.mk rk rn rm rt rb rl]) HOO.out.2.2.1 HOO.out.2.2.2.1 HK.out.2.2.2.1 hb7 hon (by rw [List.map_append];rfl) HK.out.2.1 HB6.out HK.out.2.2.2.2.1
            have HNL:=Lh (aI hnl hb7)
            have hl7:b6<w7.heap.size:=Nat.lt_of_lt_of_le HB6.out (Nat.le_trans HK.out.2.2.2.2.2 hb7.size)
            have HX7:=Lh (keep28 (HX.out w4 HB4.out) (hb7.block _ (by have:=HN6.out.1;have:=H2.out.size;have:=HZ0.out;have:=HB6.out;omega)) (hkp _ (by have:=HB4.out.size;have:=HWR.out;omega) (Nat.le_refl _)))
            clear hon hb7 hkp hnl
            refine hK.out _ _ ?_ (fun hHeld2=>?_)
            ·exact HX7.out
            clear hK K hHeld
            have hHeld:=hHeld2
            clear hHeld2
            try simp only [Act.put,sb1,sb2,sb3]
            refine tkA (i:=13) rfl hHeld ?_
            try simp only [Act.put,sb1,sb2,sb3]
            refine wpAnyH_ready (rs:=[14]) (by kernel_rfl) (by simp) ?_
            refine cons_at (dst:=none) rfl (fun K hK=>?_) AllReadyH.nil
            go_simp
            refine hK.out _ _ ?_ (fun _=>?_)
            ·exact keep28 HX7.out (set_other (show w.heap.size ≠ b6 by have:=HN6.out.1;have:=H2.out.size;have:=HZ0.out;omega)) (set_other (show wr.heap.size ≠ b6 by have:=HB6.out;have:=HOO.out.2.2.1.size;omega))
            clear hK K hHeld
            refine wpAnyH_done (by kernel_rfl) ?_ _
            refine NoPanic.normal ?_
            go_wp2_with fail
            go_meet
            exact ⟨((HR0.out.1.trans (HK.out.2.2.2.1.mono HR0.out.1.size)).trans (HNL.out.2.mono (by have:=H6.out.size;omega))).setCell (by have:=HN6.out.1;have:=H2.out.size;show W0.heap.size<=b6;omega) _,HNL.out.1⟩
           ·go_simp
            go_at_call 74
            (with_reducible refine HCR.out.mono ?_)
            rintro e w4 ⟨u4,rfl,hu4,hb4⟩
            simp only [ndV,FrmA.cells,SlA.val,Frm.kind,Frm.name,Frm.n,Frm.terms,Frm.binds,Frm.l]
            obtain ⟨F',hk1,hk2,hk3⟩:=nl_kid HOO.out.1 HOO.out.2.1 (Nat.le_trans HY.out.2.2 (HE.out _ H6.out).1.size) HOO.out.2.2.1.size HOO.out.2.2.2.2.1.drew hb4 hu4
            have HK:=Lh (aI hk1 (aI hk2 (aI hk3 (aI (HOO.out.2.2.2.2.1.drew.trans (hb4.mono HOO.out.2.2.2.2.1.drew.size)) (aI (show B<=b6 by have:=HY.out.2.2;have:=(HE.out _ H2.out).1.size;have:=HN6.out.1;omega) (Nat.le_trans HOO.out.2.2.1.size (Nat.le_trans HOO.out.2.2.2.2.1.drew.size hb4.size)))))))
            have HB4:=Lh ((Below.refl W1.heap.size W1).drew.trans (hb4.mono (Nat.le_refl _)))
            have x5:w4.cell? ⟨b6,5,none⟩=some (.slice oa j ocap):=(hb4.cell (p:=⟨b6,5,none⟩) hlt5).trans d5
            have x5l:b6<w4.heap.size:=Nat.lt_of_lt_of_le hlt5 hb4.size
            clear hk1 hk2 hk3 hu4 hb4
            go_simp
            refine hK.out _ _ ?_ (fun hHeld2=>?_)
            ·exact HX.out _ HB4.out
            clear hK K hHeld
            have hHeld:=hHeld2
            clear hHeld2
            try simp only [Act.put,sb1,sb2,sb3]
            refine wpAnyH_ready (rs:=[1,11]) (by kernel_rfl) (by simp) ?_
            refine cons_at (dst:=some 133) rfl (fun K hK=>?_) (cons_at (dst:=some 143) rfl (fun K hK=>?_) AllReadyH.nil)
            ·go_simp
             refine hK.out _ _ ?_ (fun hHeld2=>?_)
             ·exact HX.out _ HB4.out
             clear hK K hHeld
             have hHeld:=hHeld2
             clear hHeld2
             try simp only [Act.put,sb1,sb2,sb3]
             refine wpAnyH_ready (rs:=[11]) (by kernel_rfl) (by simp) ?_
             refine cons_at (dst:=some 143) rfl (fun K hK=>?_) AllReadyH.nil
             go_simp
             refine hK.out _ _ ?_ (fun hHeld2=>?_)
             ·exact HX.out _ (HB4.out.alloc HB4.out.size _)
             clear hK K hHeld
             have hHeld:=hHeld2
             clear hHeld2
             try simp only [Act.put,sb1,sb2,sb3]
             refine wpAnyH_ready (rs:=[12]) (by kernel_rfl) (by simp) ?_
             refine cons_at (dst:=some 144) rfl (fun K hK=>?_) AllReadyH.nil
             refine step_append_rowO (W0:=w4) (B:=w4.heap.size) rfl (by rfl) _ _ 32 (by rfl) 34 i0 _ 6 104 Tryz.underlying32 hi hz0 hz1 hz2 rfl (by decide) (.slice oa j ocap) (ps.map Frm.toD) (Frm.toD (.mk rk rn rm rt rb rl)) [.int .i64 rk,.string ⟨rn.toArray⟩,.int .i64 rm,.slice u4.t.a rt.length u4.t.cap,.slice u4.b.a rb.length u4.b.cap,.slice u4.l.a rl.length u4.l.cap] 34 (by rfl) (by rfl) HK.out.1 HK.out.2.2.1 (by have:=HK.out.2.2.2.2.2;omega) (Frm.width _) (by rw [HOO.out.2.2.2.2.2];have:=HN2.out;have:=HLT.out;unfold maxLen;omega) (by rw [HOO.out.2.2.2.2.2];have:=HN2.out;have:=HLT.out;omega) ?_
             intro ao cap w7 hon hb7 hkp
             rw [HOO.out.2.2.2.2.2] at hon ⊢
             obtain ⟨⟨q5,qz⟩,hnl,_⟩:=nl_next (xs:=ps++[.mk rk rn rm rt rb rl]) HOO.out.2.2.1 HOO.out.2.2.2.1 HK.out.2.2.2.1 hb7 hon (by rw [List.map_append];rfl) HK.out.2.1 HB6.out HK.out.2.2.2.2.1
             have HNL:=Lh (aI hnl hb7)
             have hl7:b6<w7.heap.size:=Nat.lt_of_lt_of_le HB6.out (Nat.le_trans HK.out.2.2.2.2.2 hb7.size)
             have HX7:=Lh (keep28 (HX.out w4 HB4.out) (hb7.block _ (by have:=HN6.out.1;have:=H2.out.size;have:=HZ0.out;have:=HB6.out;omega)) (hkp _ (by have:=HB4.out.size;have:=HWR.out;omega) (Nat.le_refl _)))
             clear hon hb7 hkp hnl
             refine hK.out _ _ ?_ (fun hHeld2=>?_)
             ·exact HX7.out
             clear hK K hHeld
             have hHeld:=hHeld2
             clear hHeld2
             try simp only [Act.put,sb1,sb2,sb3]
             refine tkA (i:=13) rfl hHeld ?_
             try simp only [Act.put,sb1,sb2,sb3]
             refine wpAnyH_ready (rs:=[14]) (by kernel_rfl) (by simp) ?_
             refine cons_at (dst:=none) rfl (fun K hK=>?_) AllReadyH.nil
             go_simp
             refine hK.out _ _ ?_ (fun _=>?_)
             ·exact keep28 HX7.out (set_other (show w.heap.size ≠ b6 by have:=HN6.out.1;have:=H2.out.size;have:=HZ0.out;omega)) (set_other (show wr.heap.size ≠ b6 by have:=HB6.out;have:=HOO.out.2.2.1.size;omega))
             clear hK K hHeld
             refine wpAnyH_done (by kernel_rfl) ?_ _
             refine NoPanic.normal ?_
             go_wp2_with fail
             go_meet
             exact ⟨((HR0.out.1.trans (HK.out.2.2.2.1.mono HR0.out.1.size)).trans (HNL.out.2.mono (by have:=H6.out.size;omega))).setCell (by have:=HN6.out.1;have:=H2.out.size;show W0.heap.size<=b6;omega) _,HNL.out.1⟩
            ·go_simp
             refine hK.out _ _ ?_ (fun hHeld2=>?_)
             ·exact HX.out _ (HB4.out.alloc HB4.out.size _)
             clear hK K hHeld
             have hHeld:=hHeld2
             clear hHeld2
             try simp only [Act.put,sb1,sb2,sb3]
             refine wpAnyH_ready (rs:=[1]) (by kernel_rfl) (by simp) ?_
             refine cons_at (dst:=some 133) rfl (fun K hK=>?_) AllReadyH.nil
             go_simp
             refine hK.out _ _ ?_ (fun hHeld2=>?_)
             ·exact HX.out _ (HB4.out.alloc HB4.out.size _)
             clear hK K hHeld
             have hHeld:=hHeld2
             clear hHeld2
             try simp only [Act.put,sb1,sb2,sb3]
             refine wpAnyH_ready (rs:=[12]) (by kernel_rfl) (by simp) ?_
             refine cons_at (dst:=some 144) rfl (fun K hK=>?_) AllReadyH.nil
             refine step_append_rowO (W0:=w4) (B:=w4.heap.size) rfl (by rfl) _ _ 32 (by rfl) 34 i0 _ 6 104 Tryz.underlying32 hi hz0 hz1 hz2 rfl (by decide) (.slice oa j ocap) (ps.map Frm.toD) (Frm.toD (.mk rk rn rm rt rb rl)) [.int .i64 rk,.string ⟨rn.toArray⟩,.int .i64 rm,.slice u4.t.a rt.length u4.t.cap,.slice u4.b.a rb.length u4.b.cap,.slice u4.l.a rl.length u4.l.cap] 34 (by rfl) (by rfl) HK.out.1 HK.out.2.2.1 (by have:=HK.out.2.2.2.2.2;omega) (Frm.width _) (by rw [HOO.out.2.2.2.2.2];have:=HN2.out;have:=HLT.out;unfold maxLen;omega) (by rw [HOO.out.2.2.2.2.2];have:=HN2.out;have:=HLT.out;omega) ?_
             intro ao cap w7 hon hb7 hkp
             rw [HOO.out.2.2.2.2.2] at hon ⊢
             obtain ⟨⟨q5,qz⟩,hnl,_⟩:=nl_next (xs:=ps++[.mk rk rn rm rt rb rl]) HOO.out.2.2.1 HOO.out.2.2.2.1 HK.out.2.2.2.1 hb7 hon (by rw [List.map_append];rfl) HK.out.2.1 HB6.out HK.out.2.2.2.2.1
             have HNL:=Lh (aI hnl hb7)
             have hl7:b6<w7.heap.size:=Nat.lt_of_lt_of_le HB6.out (Nat.le_trans HK.out.2.2.2.2.2 hb7.size)
             have HX7:=Lh (keep28 (HX.out w4 HB4.out) (hb7.block _ (by have:=HN6.out.1;have:=H2.out.size;have:=HZ0.out;have:=HB6.out;omega)) (hkp _ (by have:=HB4.out.size;have:=HWR.out;omega) (Nat.le_refl _)))
             clear hon hb7 hkp hnl
             refine hK.out _ _ ?_ (fun hHeld2=>?_)
             ·exact HX7.out
             clear hK K hHeld
             have hHeld:=hHeld2
             clear hHeld2
             try simp only [Act.put,sb1,sb2,sb3]
             refine tkA (i:=13) rfl hHeld ?_
             try simp only [Act.put,sb1,sb2,sb3]
             refine wpAnyH_ready (rs:=[14]) (by kernel_rfl) (by simp) ?_
             refine cons_at (dst:=none) rfl (fun K hK=>?_) AllReadyH.nil
             go_simp
             refine hK.out _ _ ?_ (fun _=>?_)
             ·exact keep28 HX7.out (set_other (show w.heap.size ≠ b6 by have:=HN6.out.1;have:=H2.out.size;have:=HZ0.out;omega)) (set_other (show wr.heap.size ≠ b6 by have:=HB6.out;have:=HOO.out.2.2.1.size;omega))
             clear hK K hHeld
             refine wpAnyH_done (by kernel_rfl) ?_ _
             refine NoPanic.normal ?_
             go_wp2_with fail
             go_meet
             exact ⟨((HR0.out.1.trans (HK.out.2.2.2.1.mono HR0.out.1.size)).trans (HNL.out.2.mono (by have:=H6.out.size;omega))).setCell (by have:=HN6.out.1;have:=H2.out.size;show W0.heap.size<=b6;omega) _,HNL.out.1⟩
       case rest =>
        have HNS:=Lh hcut
        clear hcut
        refine HKK.out _ _ ?_
        dsimp only [Exit.inBlock,Exit.then]
        have hwr:wrap64 ((j:Int)+1)=(j:Int)+1:=IntWalk.wrap64_in _ (by have:=HLT.out;have:=HN2.out;constructor <;> omega)
        go_wp2_with fail
        go_roundw
        case rel=>exact ⟨j+1,HLT.out,by go_num,Lh ⟨HNS.out.1,by rw [HT.out];exact HNS.out.2⟩⟩
        case measure=>rw [hwr];exact meas_step HLT.out
      ·have hjn:j=nf:=by omega
       subst hjn
       have hfull:(rightL fl (turn&&!countK kind)).take j=rightL fl (turn&&!countK kind):=List.take_of_length_le (by rw [rightL_length];have:=HNF.out;omega)
       have hn:=HR0.out.2
       rw [hfull] at hn
       obtain ⟨u,hc,hu,hbw⟩:=nl_end HY.out.2.2 (HE.out _ H3.out).1 (by have:=H2.out.size;have:=HZ0.out;omega) HN6.out.2.1.size HN6.out.1 HN6.out.2.2.1 HN6.out.2.2.2 HM25.out hn (by rw [HH.out.1];exact node_i64 (n:=0) HY.out.1.kind) (by rw [HH.out.2.1];exact node_nm HY.out.1.name) (by rw [HH.out.2.2.1];exact node_n HY.out.1.n HFO.out)
       rw [rightL_length,HNF.out] at hc
       have HUB:=Lh (aI hu hbw)
       have hrr:=node_eq (terms:=terms) (binds:=binds) (fl:=fl) (name:=name) HA2.out HK2.out HK10.out HK13.out HNK.out
       rw [<- HH.out.1,<- HH.out.2.1,<- HH.out.2.2.1] at hrr
       have HRR:=Lh (HR.out.trans hrr)
       obtain ⟨_,_,y5⟩:=HE.out wr HR0.out.1
       have hz2:=HZ0.out
       have hz3:=H2.out.size
       have hz6:=HN6.out.1
       have hn1:¬ (w.heap.size+1=b6):=by omega
       have hn2:¬ (b6=w.heap.size+1):=by omega
       have d0:wr.cell? ⟨b6,0,none⟩=some (.int .i64 KD):=cH hc rfl
       have d1:wr.cell? ⟨b6,1,none⟩=some (.string ⟨NM.toArray⟩):=cH hc rfl
       have d2:wr.cell? ⟨b6,2,none⟩=some (.int .i64 NN):=cH hc rfl
       have d3:wr.cell? ⟨b6,3,none⟩=some (.slice xt.a terms.length xt.cap):=cH hc rfl
       have d4:wr.cell? ⟨b6,4,none⟩=some (.slice xb.a binds.length xb.cap):=cH hc rfl
       have d5:wr.cell? ⟨b6,5,none⟩=some (.slice u.a j u.cap):=cH hc rfl
       clear hz2 hz3 hz6 hrr hu hbw hc hn hfull hlt f5
       have fz0:wr.frozen? ⟨w.heap.size+1,0,none⟩=false:=fH y5
       have fz1:wr.frozen? ⟨w.heap.size+1,1,none⟩=false:=fH y5
       have fz2:wr.frozen? ⟨w.heap.size+1,2,none⟩=false:=fH y5
       have fz3:wr.frozen? ⟨w.heap.size+1,3,none⟩=false:=fH y5
       have fz4:wr.frozen? ⟨w.heap.size+1,4,none⟩=false:=fH y5
       have fz5:wr.frozen? ⟨w.heap.size+1,5,none⟩=false:=fH y5
       have x0:wr.cell? ⟨w.heap.size+1,0,none⟩=some (.int .i64 0):=cH y5 rfl
       have x1:wr.cell? ⟨w.heap.size+1,1,none⟩=some (.string ⟨#[]⟩):=cH y5 rfl
       have x2:wr.cell? ⟨w.heap.size+1,2,none⟩=some (.int .i64 0):=cH y5 rfl
       have x3:wr.cell? ⟨w.heap.size+1,3,none⟩=some (.slice none 0 0):=cH y5 rfl
       have x4:wr.cell? ⟨w.heap.size+1,4,none⟩=some (.slice none 0 0):=cH y5 rfl
       have x5:wr.cell? ⟨w.heap.size+1,5,none⟩=some (.slice none 0 0):=cH y5 rfl
       clear y5
       go_wp2_with fail
       refine bodyPost_ret (v:=.agg #[.int .i64 KD,.string ⟨NM.toArray⟩,.int .i64 NN,.slice xt.a terms.length xt.cap,.slice xb.a binds.length xb.cap,.slice u.a j u.cap]) (by simp [results,Tryz.results74,go_sem, *]) rfl ?_
       rw [HRR.out,put6_eq]
       exact RPost.of (u:=⟨xt,xb,u⟩) (by simp only [ndV,FrmA.cells,SlA.val,Frm.kind,Frm.name,Frm.n,Frm.terms,Frm.binds,Frm.l];rw [rightL_length,HNF.out]) (put6_fin HUB.out.2 (Nat.le_succ _) HUB.out.1 (fun h=>h.2 rfl) (fun k h=>h.1))
end Go.Proofs.YtjjkfgjnadaheaaGreatDoor
