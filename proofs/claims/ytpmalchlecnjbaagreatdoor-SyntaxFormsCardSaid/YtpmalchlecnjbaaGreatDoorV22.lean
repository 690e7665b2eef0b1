/- Joined texts: Elems3, Glob, Count, FrmD. -/
import Derived.Test.YtpmalchlecnjbaaGreatDoorV19
import Derived.Handy
import Derived.Deep.RegionWith
import Derived.Test.YtpmalchlecnjbaaGreatDoorV06
import Derived.Test.YtpmalchlecnjbaaGreatDoorChecked
import Derived.Test.YtpmalchlecnjbaaGreatDoorV17
set_option maxHeartbeats 1000000
set_option maxRecDepth 100000
set_option linter.unusedVariables false
set_option linter.unusedSimpArgs false
/- school.elements. -/
namespace Go.Chalk
open Go.RowKit
end Go.Chalk
namespace Go.Chalk
open Go.RowKit
theorem heap_get (w:World) (o:Obj) (k:Nat):(w.alloc o).heap[k]?=if k=w.heap.size then some o else w.heap[k]?:=by
 show (w.heap.push o)[k]?=_
 rw [Array.getElem?_push]
end Go.Chalk
namespace Go.Proofs.YtpmalchlecnjbaaGreatDoor
open Go.RowKit Go.Chalk
attribute [local go_sem] Oper.semAt_some
end Go.Proofs.YtpmalchlecnjbaaGreatDoor
/- What the listed package-level variables hold; schools that fit. -/
namespace Go.Proofs.YtpmalchlecnjbaaGreatDoor
open Go.RowKit Go.Chalk
def MapG (W:World) (g T:Nat) (ok:Bool) (f:Value->Value) (kk:Value->Prop):Prop :=
 ∃ b o,W.cell? ⟨g,0,none⟩=some (.map (some b))/\W.heap[b]?=some o/\∀ W',W'.heap[b]?=some o->∀ k,kk k->(Instr.lookup T (.map (some b)) k ok).run Tryz.prog W'=.ok (f k) W'
theorem MapG.below {W W':World} {g T:Nat} {ok:Bool} {f:Value->Value} {kk:Value->Prop} (h:MapG W g T ok f kk) (hb:Below W.heap.size W W'):MapG W' g T ok f kk:=by
 obtain ⟨b,o,h1,h2,h3⟩:=h
 exact ⟨b,o,(hb.cell (p:=⟨g,0,none⟩) (World.block_lt_of_cell? W ⟨g,0,none⟩ h1)).trans h1,(hb.block b (gS h2).1).trans h2,h3⟩
def strKey (k:Value):Prop:=∃ s:Bs,s.length<=maxLen/\k=.string ⟨s.toArray⟩
def intKey (k:Value):Prop:=∃ n:Int,I64 n/\k=.int .i64 n
def keyBs:Value->Bs | .string s=>s.data.toList | _=>[]
def keyInt:Value->Int | .int _ n=>n | _=>0
theorem keyBs_str (s:Bs):keyBs (.string ⟨s.toArray⟩)=s:=by simp [keyBs]
structure GG (W:World):Prop where
 maxlen:∃ m,W.cell? ⟨5,0,none⟩=some (.int .i64 m)
 reserved:MapG W 2 86 false (fun k=>.bool (reservedL.contains (keyBs k))) strKey
 arity:MapG W 0 139 true (fun k=>.tuple #[.int .i64 ((arityF (keyInt k)).getD 0:Nat),.bool (arityF (keyInt k)).isSome]) intKey
 fsigns:MapG W 1 141 false (fun k=>.string ⟨(negS (keyBs k)).toArray⟩) strKey
theorem GG.below {W W':World} (h:GG W) (hb:Below W.heap.size W W'):GG W' :=
 have key:∀ (g o:Nat) (v:Value),W.cell? ⟨g,o,none⟩=some v->W'.cell? ⟨g,o,none⟩=some v:=fun g o v e=>(hb.cell (p:=⟨g,o,none⟩) (World.block_lt_of_cell? W ⟨g,o,none⟩ e)).trans e
 {
  maxlen:=let ⟨m,hm⟩:=h.maxlen;⟨m,key _ _ _ hm⟩,
  reserved:=h.reserved.below hb,
  arity:=h.arity.below hb,
  fsigns:=h.fsigns.below hb,
 }

end Go.Proofs.YtpmalchlecnjbaaGreatDoor
/- school.Count. -/
namespace Go.Chalk
open Go.RowKit
end Go.Chalk
namespace Go.Proofs.YtpmalchlecnjbaaGreatDoor
open Go.RowKit Go.Chalk
attribute [local go_sem] Oper.semAt_some
end Go.Proofs.YtpmalchlecnjbaaGreatDoor
/- formula.Size, Depth. -/
namespace Go.Proofs.YtpmalchlecnjbaaGreatDoor
open Go.RowKit Go.Chalk
attribute [local go_sem] Oper.semAt_some
mutual
theorem nodesF_length:∀ f:Frm,(nodesF f).length=f.size
 | .mk _ _ _ _ _ l=>by rw [nodesF,List.length_cons,nodesL_length l,Frm.size];omega
theorem nodesL_length:∀ l:List Frm,(nodesL l).length=fsizes l
 | []=>rfl
 | f :: r=>by rw [nodesL,List.length_append,nodesF_length f,nodesL_length r,fsizes]
end
theorem depth_any (n:Nat):∀ (f:Frm) (x:FrmA) (w:World),f.size<=n->f.size<=2000000->FrmIn w (·<w.heap.size) f x ->
  Calls Tryz.prog 61 #[ndV (f,x)] w fun e w'=>e=.returned (.int .i64 (f.depth:Nat))/\Below w.heap.size w w':=by
 induction n with
 | zero=>intro f _ _ h;have:=f.size_pos;omega
 | succ n ih =>
  intro f x w hn hs hx
  have hsz:f.size=1+fsizes f.l:=by cases f;simp [Frm.size,Frm.l]
  have hdz:f.depth=fdepths f.l+1:=by cases f;simp [Frm.depth,Frm.l]
  have hll:=length_le_fsizes f.l
  have HIN:=Lh (fun j (hj:j<f.l.length)=>hx.l.frm j hj)
  have HSL:=Lh hx.l.at_
  have IH:=Lh ih
  rw [hdz]
  rw [hsz] at hn hs
  clear ih hx hsz hdz
  obtain ⟨kind,name,nn,terms,binds,fl⟩:=f
  simp only [ndV,FrmA.cells,SlA.val,Frm.kind,Frm.name,Frm.n,Frm.terms,Frm.binds,Frm.l] at *
  go_enter Tryz.func61,Tryz.ntmps61
  go_wp2_with fail
  go_loopw [3,9] (fun s i wr=>∃ j:Nat,j<=fl.length/\i=.int .i64 j/\s=.int .i64 (fdepths (fl.take j):Nat)/\Below w.heap.size w wr) (fun _ i _=>fl.length - (intOf i).toNat)
  case atStart=>exact ⟨0,Nat.zero_le _,rfl,rfl,(Below.refl _ _).alloc (Nat.le_refl _) _⟩
  case round =>
   obtain ⟨j,hj,rfl,rfl,hb⟩:=hrel
   by_cases hlt:j<fl.length
   ·obtain ⟨y,hy1,hy2⟩:=HIN.out j hlt
    obtain ⟨hxa,hFb⟩:=HSL.out (by rw [List.length_map];omega)
    obtain ⟨e0,e1,e2,e3,e4,e5⟩:=(hy2.agree (agree_of_below hb) hFb).six
    have hs1:=size_le_fsizes fl j hlt
    have hs3:=fdepths_take_succ fl j hlt
    have hd1:fdepths (fl.take j)<=2000000:=by have:=fdepths_sizes (fl.take j);have:=fsizes_take_le fl j;omega
    have hd2:(fl[j]).depth<=2000000:=by have:=Frm.depth_size fl[j];omega
    have hba:Below w.heap.size w (wr.alloc (.cells (y.cells fl[j]).toArray 28)):=hb.alloc hb.size _
    have HCL:=Lh (IH.out fl[j] y (wr.alloc (.cells (y.cells fl[j]).toArray 28)) (by omega) (by omega) (hy1.later hba hba.size))
    have HBA:=Lh hba
    have HS3:=Lh hs3
    rw [hxa]
    clear hy1 hy2 hFb hba hs1 hs3
    generalize fdepths (fl.take j)=d1 at hd1 HS3
    generalize fl[j]=fe at HCL HBA HS3 hd2 e0 e1 e2 e3 e4 e5
    generalize fe.depth=d2 at hd2 HS3 HCL
    obtain ⟨kind1,name1,n1,terms1,binds1,fl1⟩:=fe
    simp only [ndV,FrmA.cells,SlA.val,Frm.kind,Frm.name,Frm.n,Frm.terms,Frm.binds,Frm.l] at HCL HBA e0 e1 e2 e3 e4 e5
    go_wp2_with fail
    refine HCL.out.mono ?_
    rintro e w' ⟨rfl,hb'⟩
    have HB':=Lh (HBA.out.trans (hb'.mono HBA.out.size))
    clear hb'
    go_wp2_with fail
    refine ⟨⟨j+1,by omega,by go_num,?_,HB'.out⟩,by simp [intOf];omega⟩
    rw [HS3.out]
    by_cases h:d1<d2
    ·rw [if_pos h,Nat.max_eq_right (by omega)]
    ·rw [if_neg h,Nat.max_eq_left (by omega)]
   ·have hd1:fdepths (fl.take j)<=2000000:=by have:=fdepths_sizes (fl.take j);have:=fsizes_take_le fl j;omega
    have HE:Hid (fdepths (fl.take j)=fdepths fl):=Lh (by rw [List.take_of_length_le (by omega)])
    generalize fdepths (fl.take j)=d1 at hd1 HE
    go_wp2_with fail
    go_ret
    exact ⟨by rw [<- HE.out];go_num,hb⟩

theorem fsize_any (f:Frm) (x:FrmA) (w:World) (hs:f.size<=2000000) (hx:FrmIn w (·<w.heap.size) f x) :
  Calls Tryz.prog 60 #[ndV (f,x)] w fun e w'=>e=.returned (.int .i64 (f.size:Nat))/\Below w.heap.size w w':=by
 obtain ⟨ns,h1,h2,h3⟩:=fwalk_any f.size f x w _ (Nat.le_refl _) hs hx
 have hln:ns.length=f.size:=by rw [<- nodesF_length,<- h1,List.length_map]
 have hit:=fun W0 tb hag htb=>all_iter f x ns w _ h3 W0 tb hag htb
 have HIT:=Lh hit
 have HAL:=Lh (fun W=>all_any f x W)
 clear hit h1 h2 h3 hx
 obtain ⟨kind,name,n,terms,binds,fl⟩:=f
 simp only [ndV,FrmA.cells,SlA.val,Frm.kind,Frm.name,Frm.n,Frm.terms,Frm.binds,Frm.l] at *
 generalize Frm.size (.mk kind name n terms binds fl)=sz at *
 refine (callsIn_wide (n:=0)).1 (callsIn_of_wp_marks Tryz.func60 rfl trivial ?_)
 simp only [Tryz.ntmps60,List.size_toArray,List.length_cons,List.length_nil,Nat.reduceAdd,Nat.reduceSub,Array.replicate_succ,Array.replicate_zero,List.push_toArray,List.append_toArray,List.nil_append,List.cons_append]
 gi_wp2_with fail
 refine ⟨trivial,rfl,(callsIn_wide.2 (HAL.out _)).mono ?_⟩
 rintro e w' ⟨rfl,rfl⟩
 gi_wp2_with fail
 generalize hW3:(((w.alloc _).alloc _).alloc _)=W3
 have hsz:W3.heap.size=w.heap.size+3:=by rw [<- hW3];simp
 have hb3:Below w.heap.size w W3:=by rw [<- hW3];exact (((Below.refl _ _).alloc (Nat.le_refl _) _).alloc (by simp) _).alloc (by simp;omega) _
 have g1:W3.heap[w.heap.size+1]?=some (.cells #[.int .i64 0] 3 (0,0)):=by rw [<- hW3];simp only [heap_get,World.size_alloc];repeat (first | rw [if_pos trivial] | rw [if_pos (by omega)] | rw [if_neg (by omega)])
 have g2:W3.heap[w.heap.size+1+1]?=some (.cells #[.int .i64 kind,.string ⟨name.toArray⟩,.int .i64 n,.slice x.t.a terms.length x.t.cap,.slice x.b.a binds.length x.b.cap,.slice x.l.a fl.length x.l.cap] 28 (0,0)):=by rw [<- hW3];simp only [heap_get,World.size_alloc];repeat (first | rw [if_pos trivial] | rw [if_pos (by omega)] | rw [if_neg (by omega)])
 have hit:=HIT.out W3 (w.heap.size+1+1) (agree_of_below hb3) g2
 have G:=Lh (aI hsz (aI hb3 g1))
 have HI2:=Lh hit
 clear hW3 hsz hb3 g1 g2 hit
 refine wp_range_fix (gf:=113) (lb:=#[.pointer (some ⟨w.heap.size+1+1,0,none⟩)]) rfl (enters_of Tryz.func113 (by kernel_rfl) rfl)
  HI2.out (fun _ _=>rfl) (fun k=>k=w.heap.size+1) (fun k hk=>by have:=G.out.1;omega) (fun k hk=>by have:=G.out.1;omega)
  (fun i W=>W.heap[w.heap.size+1]?=some (.cells #[.int .i64 i] 3 (0,0))) (fun _ _ _=>False) (FixStab.box (T:=fun k=>k=w.heap.size+1) (B:=w.heap.size+1) (o:=fun i=>.cells #[.int .i64 i] 3 (0,0)) rfl) (fun _=>false_fix) G.out.2.2 _ (fun l i W K hi hK=>wpIn_skip hK) ?body ?done (fun _ _ _ _ _ _ _ _ _ _ h _=>h.elim)
 case body =>
  intro l i W hi hm hb hT hwl hnl
  have r0:W.cell? ⟨w.heap.size+1,0,none⟩=some (.int .i64 i):=cH hb rfl
  have r1:W.frozen? ⟨w.heap.size+1,0,none⟩=false:=fH hb
  have HB:=Lh hb
  clear hb
  gi_wp2_with fail
  refine ⟨(Chalk.Mod.refl (fun k=>k=w.heap.size+1) _).setCell (p:=⟨w.heap.size+1,0,none⟩) (fun _=>rfl) _,?_⟩
  show (W.setCell ⟨w.heap.size+1,0,none⟩ _).heap[w.heap.size+1]?=_
  rw [box_store _ HB.out];rfl
 case done =>
  intro D0 W hD0 hDlt hnD hm hb hdd
  rw [hln] at hb
  have r0:W.cell? ⟨w.heap.size+1,0,none⟩=some (.int .i64 sz):=cH hb rfl
  have HH:=Lh (aI hm hdd)
  clear hb hm hdd
  gi_wp2_with fail
  refine leaves_marks (v:=.int .i64 sz) [D0] W (fun w=>by simp [results,Tryz.results60,go_sem]) (by simp) (fun d hd=>by simp at hd;subst hd;exact HH.out.2) (fun W' hm'=>⟨rfl,?_⟩)
  have h1:=G.out
  exact h1.2.1.trans ((HH.out.1.below (B:=w.heap.size) (by omega) (fun k hk=>by omega)).trans (hm'.below (by have:=HH.out.1.size;omega) (fun k hk=>by simp at hk;omega)))
end Go.Proofs.YtpmalchlecnjbaaGreatDoor
