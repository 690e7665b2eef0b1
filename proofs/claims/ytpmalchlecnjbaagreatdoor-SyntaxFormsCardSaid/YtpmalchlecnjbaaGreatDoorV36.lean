/- Joined texts: PPa, PPb, PPc, PPd, PPe, PPf, PPg, PPh. -/
import Derived.Test.YtpmalchlecnjbaaGreatDoorV35
import Derived.Test.YtpmalchlecnjbaaGreatDoorV07
import Derived.Test.YtpmalchlecnjbaaGreatDoorV29
import Derived.Test.YtpmalchlecnjbaaGreatDoorV34
import Derived.Test.YtpmalchlecnjbaaGreatDoorV14
set_option maxHeartbeats 4000000
set_option maxRecDepth 100000
set_option linter.unusedVariables false
set_option linter.unusedSimpArgs false
/- The parser of layer syntax: its state; next, pass, fail, is, took, want. -/
namespace Go.Chalk
open Go.RowKit
def EndL:List Tok->Prop
 | []=>False
 | [t]=>t.kind=4
 | _ :: u :: r=>EndL (u :: r)
theorem EndL.tail {t:Tok} {r:List Tok} (h:EndL (t :: r)) (hk:t.kind ≠ 4):EndL r:=by
 cases r with
 | nil=>exact absurd h hk
 | cons u r=>exact h
theorem EndL.cons {l:List Tok} (h:EndL l):∃ t r,l=t :: r:=by
 cases l with
 | nil=>exact h.elim
 | cons t r=>exact ⟨t,r,rfl⟩
structure TokOk (t:Tok):Prop where
 lo:0<=t.kind
 hi:t.kind<=4
 len:t.text.length<=281474976710656
 at_:t.at_<=281474976710656
 num:t.kind=2->t.text.all digitB=true/\t.text ≠ []
end Go.Chalk
namespace Go.Proofs.YtpmalchlecnjbaaGreatDoor
open Go.RowKit Go.Chalk
attribute [local go_sem] Oper.semAt_some
def PAt (w:World) (P:Nat) (l:List Tok):Prop :=
 EndL l/\(∀ t∈l,TokOk t)/\l.length<=281474976710656/\∃ b o cap,w.heap[P]?=some (.cells #[.slice (some ⟨b,o,none⟩) l.length cap] 107 (0,0))/\b<P/\l.length<=cap/\cap<=maxLen /\
  ∀ i (h:i<l.length),w.cell? ⟨b,o+i*3,none⟩=some (.int .i64 l[i].kind)/\w.cell? ⟨b,o+i*3+1,none⟩=some (.string ⟨l[i].text.toArray⟩)/\w.cell? ⟨b,o+i*3+2,none⟩=some (.int .i64 (l[i].at_:Int))
theorem PAt.lt {w:World} {P:Nat} {l:List Tok} (h:PAt w P l):P<w.heap.size:=by obtain ⟨_,_,_,_,_,_,h,_⟩:=h;exact (gS h).1
theorem PAt.below {w w':World} {P:Nat} {l:List Tok} (h:PAt w P l) (hb:Below w.heap.size w w'):PAt w' P l:=by
 have hlt:=h.lt
 obtain ⟨h1,h2,h2',b,o,cap,h3,h4,h5,h6,h7⟩:=h
 refine ⟨h1,h2,h2',b,o,cap,(hb.block P hlt).trans h3,h4,h5,h6,fun i hi=>?_⟩
 obtain ⟨a1,a2,a3⟩:=h7 i hi
 exact ⟨(hb.cell (p:=⟨b,o+i*3,none⟩) (by show b<_;omega)).trans a1,(hb.cell (p:=⟨b,o+i*3+1,none⟩) (by show b<_;omega)).trans a2,(hb.cell (p:=⟨b,o+i*3+2,none⟩) (by show b<_;omega)).trans a3⟩
theorem PAt.first {w:World} {P:Nat} {t:Tok} {r:List Tok} (h:PAt w P (t :: r)):TokOk t/\∃ b o cap,b<P/\r.length+1<=cap/\cap<=maxLen/\w.heap[P]?=some (.cells #[.slice (some ⟨b,o,none⟩) (r.length+1) cap] 107 (0,0)) /\
  w.cell? ⟨b,o,none⟩=some (.int .i64 t.kind)/\w.cell? ⟨b,o+1,none⟩=some (.string ⟨t.text.toArray⟩)/\w.cell? ⟨b,o+2,none⟩=some (.int .i64 (t.at_:Int)):=by
 obtain ⟨_,h2,_,b,o,cap,h3,h4,h5,h6,h7⟩:=h
 obtain ⟨a1,a2,a3⟩:=h7 0 (by simp)
 exact ⟨h2 t (by simp),b,o,cap,h4,by simpa using h5,h6,by simpa using h3,by simpa using a1,by simpa using a2,by simpa using a3⟩
theorem PAt.pass {w w':World} {P b o cap:Nat} {t:Tok} {r:List Tok} (h:PAt w P (t :: r)) (hk:t.kind ≠ 4) (h3:w.heap[P]?=some (.cells #[.slice (some ⟨b,o,none⟩) (r.length+1) cap] 107 (0,0))) (hm:Chalk.Mod (fun k=>k=P) w w')
  (h':w'.heap[P]?=some (.cells #[.slice (some ⟨b,o+3,none⟩) r.length (cap - 1)] 107 (0,0))):PAt w' P r:=by
 have hlt:=h.lt
 obtain ⟨h1,h2,h2',b',o',cap',h3',h4,h5,h6,h7⟩:=h
 rw [h3] at h3'
 simp only [List.length_cons,Option.some.injEq,Obj.cells.injEq,Array.mk.injEq,List.cons.injEq,Value.slice.injEq,Addr.mk.injEq,and_true,true_and] at h3'
 obtain ⟨⟨rfl,rfl⟩,rfl⟩:=h3'
 simp only [List.length_cons] at h5 h2' h7
 refine ⟨h1.tail hk,fun x hx=>h2 x (by simp [hx]),by omega,b,o+3,cap - 1,h',h4,by omega,by omega,fun i hi=>?_⟩
 obtain ⟨a1,a2,a3⟩:=h7 (i+1) (by omega)
 have hl:b<w.heap.size:=by omega
 have hc:∀ (q:Nat) (v:Value),w.cell? ⟨b,q,none⟩=some v->w'.cell? ⟨b,q,none⟩=some v:=fun q v e=>(World.cell?_of_block (a:=⟨b,q,none⟩) (hm.block b hl (by omega))).trans e
 exact ⟨by have:=hc _ _ a1;rw [show o+(i+1)*3=o+3+i*3 from by omega] at this;simpa using this,by have:=hc _ _ a2;rw [show o+(i+1)*3+1=o+3+i*3+1 from by omega] at this;simpa using this,by have:=hc _ _ a3;rw [show o+(i+1)*3+2=o+3+i*3+2 from by omega] at this;simpa using this⟩
abbrev tokV (t:Tok):Value:=.agg #[.int .i64 t.kind,.string ⟨t.text.toArray⟩,.int .i64 (t.at_:Int)]
def wrongP (n:Nat):List PanicEntry:=[{ v:=.iface 105 (.agg #[.int .i64 (n:Int)]),recovered:=false }]
theorem pnext_any (P:Nat) (t:Tok) (r:List Tok) (w:World) (h:PAt w P (t :: r)):Calls Tryz.prog 48 #[.pointer (some ⟨P,0,none⟩)] w fun e w'=>e=.returned (.agg #[.int .i64 t.kind,.string ⟨t.text.toArray⟩,.int .i64 (t.at_:Int)])/\Below w.heap.size w w':=by
 obtain ⟨_,b,o,cap,hb,hc1,hc2,hx,c0,c1,c2⟩:=h.first
 have hlt:=h.lt
 have hbl:b<w.heap.size:=by omega
 have cp:w.cell? ⟨P,0,none⟩=some (.slice (some ⟨b,o,none⟩) (r.length+1) cap):=cH hx rfl
 clear h hx
 go_enter Tryz.func48,Tryz.ntmps48
 go_wp2_with fail
 refine bodyPost_ret (v:=tokV t) (by simp [results,Tryz.results48,go_sem]) rfl ?_
 exact ⟨rfl,below_new _ _⟩
theorem ppass_any (P:Nat) (t:Tok) (r:List Tok) (w:World) (h:PAt w P (t :: r)) (hk:t.kind ≠ 4):Calls Tryz.prog 131 #[.pointer (some ⟨P,0,none⟩)] w fun e w'=>e=.returned (.agg #[.int .i64 t.kind,.string ⟨t.text.toArray⟩,.int .i64 (t.at_:Int)])/\PAt w' P r/\Chalk.Mod (fun k=>k=P) w w':=by
 have H0:=Lh h
 obtain ⟨_,b,o,cap,hb,hc1,hc2,hx,c0,c1,c2⟩:=h.first
 have hlt:=h.lt
 have hne:0<r.length:=by
  have:=h.1.tail hk
  cases r with
  | nil=>exact this.elim
  | cons u r=>simp
 have hbl:b<w.heap.size:=by omega
 have cp:w.cell? ⟨P,0,none⟩=some (.slice (some ⟨b,o,none⟩) (r.length+1) cap):=cH hx rfl
 have fp:w.frozen? ⟨P,0,none⟩=false:=fH hx
 have hsz:(1:Nat)<=r.length+1:=by omega
 have hcap1:¬ (cap=1):=by omega
 have HX:=Lh hx
 have HK:=Lh hk
 have HN:=Lh hne
 clear h hx hk hne
 go_enter Tryz.func131,Tryz.ntmps131
 go_wp2_with fail
 refine bodyPost_ret (v:=tokV t) (by simp [results,Tryz.results131,go_sem]) rfl ?_
 have hm:Chalk.Mod (fun k=>k=P) w (w.setCell ⟨P,0,none⟩ (.slice (some ⟨b,o+3,none⟩) r.length (cap - 1))):=(Chalk.Mod.refl (fun k=>k=P) w).setCell (p:=⟨P,0,none⟩) (fun _=>rfl) _
 have hk1:=box_store (i:=0) (.slice (some ⟨b,o+3,none⟩) r.length (cap - 1)) HX.out
 generalize w.setCell ⟨P,0,none⟩ (.slice (some ⟨b,o+3,none⟩) r.length (cap - 1))=w1 at hm hk1 ⊢
 have hs:=hm.size
 exact ⟨rfl,H0.out.pass HK.out HX.out ((hm.alloc _).alloc _) ((Below.heap_alloc _ _ _ (by simp;omega)).trans ((Below.heap_alloc _ _ _ (by omega)).trans hk1)),(hm.alloc _).alloc _⟩
theorem tokField0 (W:World) (k n:Int) (x:ByteArray):(Instr.field 51 (.agg #[.int .i64 k,.string x,.int .i64 n]) 0).run Tryz.prog W=.ok (.int .i64 k) W:=by kernel_rfl
theorem tokField1 (W:World) (k n:Int) (x:ByteArray):(Instr.field 51 (.agg #[.int .i64 k,.string x,.int .i64 n]) 1).run Tryz.prog W=.ok (.string x) W:=by kernel_rfl
theorem tokField2 (W:World) (k n:Int) (x:ByteArray):(Instr.field 51 (.agg #[.int .i64 k,.string x,.int .i64 n]) 2).run Tryz.prog W=.ok (.int .i64 n) W:=by kernel_rfl
theorem pfail_any (P:Nat) (t:Tok) (r:List Tok) (w:World) (h:PAt w P (t :: r)):Calls Tryz.prog 71 #[.pointer (some ⟨P,0,none⟩)] w fun e w'=>e=.panicked (wrongP t.at_)/\Below w.heap.size w w':=by
 have HN:=Lh (pnext_any P t r w h)
 have hf2:=tokField2
 clear h
 unfold wrongP
 go_enter Tryz.func71,Tryz.ntmps71
 go_wp2_with (go_at_call 48;refine HN.out.mono ?_;rintro e w' ⟨rfl,hb⟩;have HB:=Lh hb;clear hb)
 exact ⟨rfl,rfl,HB.out⟩
theorem isT_kind3 (s:Bs) (t:Tok) (r:List Tok):isT s (t :: r)=(t.text==s&&(t.kind==1||t.kind==3)):=rfl
theorem pis_any (P:Nat) (s:Bs) (t:Tok) (r:List Tok) (w:World) (h:PAt w P (t :: r)):Calls Tryz.prog 130 #[.pointer (some ⟨P,0,none⟩),.string ⟨s.toArray⟩] w fun e w'=>e=.returned (.bool (isT s (t :: r)))/\Below w.heap.size w w':=by
 have HN:=Lh (pnext_any P t r w h)
 have HI:=Lh (isT_kind3 s t r)
 clear h
 obtain ⟨k,x,n⟩:=t
 simp only at HN HI ⊢
 generalize isT s (⟨k,x,n⟩ :: r)=b at HI ⊢
 have hb:=HI.out
 cases h1:(x==s)
 ·rw [h1,Bool.false_and] at hb
  subst hb
  clear HI
  have e1:((⟨x.toArray⟩:ByteArray)==⟨s.toArray⟩)=false:=by rw [bs_beq];exact h1
  have e2:¬ x=s:=by simpa using h1
  clear h1
  go_enter Tryz.func130,Tryz.ntmps130
  go_wp2_with (go_at_call 48;refine HN.out.mono ?_;rintro e w' ⟨rfl,hb⟩;have HB:=Lh hb;clear hb)
  go_ret
  exact ⟨rfl,HB.out.alloc HB.out.size _⟩
 ·rw [h1,Bool.true_and] at hb
  have hxs:x=s:=by simpa using h1
  subst hxs
  clear HI h1
  by_cases h2:k=1
  ·subst h2
   rw [show ((1:Int)==1)=true from rfl,Bool.true_or] at hb
   subst hb
   go_enter Tryz.func130,Tryz.ntmps130
   go_wp2_with (go_at_call 48;refine HN.out.mono ?_;rintro e w' ⟨rfl,hb⟩;have HB:=Lh hb;clear hb)
   go_ret
   exact ⟨rfl,HB.out.alloc HB.out.size _⟩
  ·by_cases h3:k=3
   ·subst h3
    rw [show ((3:Int)==1)=false from rfl,show ((3:Int)==3)=true from rfl,Bool.or_true] at hb
    subst hb
    clear h2
    go_enter Tryz.func130,Tryz.ntmps130
    go_wp2_with (go_at_call 48;refine HN.out.mono ?_;rintro e w' ⟨rfl,hb⟩;have HB:=Lh hb;clear hb)
    go_ret
    exact ⟨rfl,HB.out.alloc HB.out.size _⟩
   ·have e1:(k==1)=false:=by simpa using h2
    have e3:(k==3)=false:=by simpa using h3
    rw [e1,e3] at hb
    subst hb
    clear h2 h3
    go_enter Tryz.func130,Tryz.ntmps130
    go_wp2_with (go_at_call 48;refine HN.out.mono ?_;rintro e w' ⟨rfl,hb⟩;have HB:=Lh hb;clear hb)
    go_ret
    exact ⟨rfl,HB.out.alloc HB.out.size _⟩
theorem ptook_no (P:Nat) (s:Bs) (l:List Tok) (w:World) (h:PAt w P l) (hs:isT s l=false):Calls Tryz.prog 73 #[.pointer (some ⟨P,0,none⟩),.string ⟨s.toArray⟩] w fun e w'=>e=.returned (.bool false)/\Below w.heap.size w w':=by
 obtain ⟨t,r,rfl⟩:=h.1.cons
 have hn:=pis_any P s t r w h
 rw [hs] at hn
 have HN:=Lh hn
 clear h hn hs
 go_enter Tryz.func73,Tryz.ntmps73
 go_wp2_with (go_at_call 130;refine HN.out.mono ?_;rintro e w' ⟨rfl,hb⟩;have HB:=Lh hb;clear hb)
 go_ret
 exact ⟨rfl,HB.out⟩
theorem PAt.mod {w w1 w':World} {P:Nat} (hb:Below w.heap.size w w1) (h:Chalk.Mod (fun k=>k=P) w1 w'):Chalk.Mod (fun k=>k=P) w w':=(Chalk.Mod.of_below (S:=fun k=>k=P) hb).trans h (fun _ _ h=>h)
theorem ptook_yes (P:Nat) (s:Bs) (l:List Tok) (w:World) (h:PAt w P l) (hs:isT s l=true):Calls Tryz.prog 73 #[.pointer (some ⟨P,0,none⟩),.string ⟨s.toArray⟩] w fun e w'=>e=.returned (.bool true)/\PAt w' P l.tail/\Chalk.Mod (fun k=>k=P) w w':=by
 obtain ⟨t,r,rfl⟩:=h.1.cons
 have hn:=pis_any P s t r w h
 rw [hs] at hn
 have HN:=Lh hn
 have HP:=Lh (fun (W:World) (hb:Below w.heap.size w W)=>ppass_any P t r W (h.below hb) (isT_kind hs))
 clear h hn hs
 go_enter Tryz.func73,Tryz.ntmps73
 go_wp2_with (first | (go_at_call 130;refine HN.out.mono ?_;rintro e w' ⟨rfl,hb⟩;have HB:=Lh hb;clear hb) | (go_at_call 131;refine (HP.out _ HB.out).mono ?_;rintro e w2 ⟨rfl,hp⟩;have HP2:=Lh hp;clear hp))
 go_ret
 exact ⟨rfl,HP2.out.1,(Chalk.Mod.of_below (S:=fun k=>k=P) HB.out).trans HP2.out.2 (fun _ _ h=>h)⟩
theorem pwant_no (P:Nat) (s:Bs) (l:List Tok) (w:World) (h:PAt w P l) (hs:isT s l=false):Calls Tryz.prog 99 #[.pointer (some ⟨P,0,none⟩),.string ⟨s.toArray⟩] w fun e w'=>e=.panicked (wrongP (atT l))/\Chalk.Mod (fun k=>k=P) w w':=by
 have HN:=Lh (ptook_no P s l w h hs)
 obtain ⟨t,r,rfl⟩:=h.1.cons
 have HF:=Lh (fun (W:World) (hb:Below w.heap.size w W)=>pfail_any P t r W (h.below hb))
 clear h hs
 go_enter Tryz.func99,Tryz.ntmps99
 go_wp2_with (first | (go_at_call 73;refine HN.out.mono ?_;rintro e w' ⟨rfl,hb⟩;have HB:=Lh hb;clear hb) | (go_at_call 71;refine (HF.out _ HB.out).mono ?_;rintro e w2 ⟨rfl,hb⟩;have HB2:=Lh hb;clear hb))
 exact ⟨rfl,rfl,(Chalk.Mod.of_below (S:=fun k=>k=P) (HB.out.trans (HB2.out.mono HB.out.size)))⟩
theorem pwant_yes (P:Nat) (s:Bs) (l:List Tok) (w:World) (h:PAt w P l) (hs:isT s l=true):Calls Tryz.prog 99 #[.pointer (some ⟨P,0,none⟩),.string ⟨s.toArray⟩] w fun e w'=>e=.returned (.tuple #[])/\PAt w' P l.tail/\Chalk.Mod (fun k=>k=P) w w':=by
 have HN:=Lh (ptook_yes P s l w h hs)
 clear h hs
 go_enter Tryz.func99,Tryz.ntmps99
 go_wp2_with (go_at_call 73;refine HN.out.mono ?_;rintro e w' ⟨rfl,hb⟩;have HB:=Lh hb;clear hb)
 go_end0
 exact ⟨rfl,HB.out.1,HB.out.2⟩
end Go.Proofs.YtpmalchlecnjbaaGreatDoor
/- The parser of layer syntax: reserved, name, number, one. (written by tools/gen_ppb.py) -/
namespace Go.Chalk
open Go.RowKit
def resText:Bs:=[104,97,114,100,32,115,111,102,116,32,101,97,99,104,32,97,108,108,32,115,111,109,101,32,108,101,97,115,116,32,109,111,115,116,32,116,114,117,101,32,102,97,108,115,101,32,97,116,32,105,110,32,116,101,97,99,104,101,115,32,97,116,116,101,110,100,115,32,97,119,97,121,32,115,104,117,116,32,100,97,121,32,104,111,117,114,32,104,111,117,115,101,32,115,101,97,116,115,32,115,105,122,101,32,108,101,115,115,111,110,32,115,108,111,116,32,114,111,111,109,32,112,101,114,115,111,110,32,103,114,111,117,112]
theorem res_fields:Lib.fields resText=reservedL:=by decide +kernel
theorem res_ascii:∀ x∈resText,x.toNat<128:=by decide +kernel
theorem bsIn (l:List Bs) (s:Bs):Lib.containsS (l.map (fun x=>(⟨x.toArray⟩:ByteArray))) ⟨s.toArray⟩=l.contains s:=by
 rw [Bool.eq_iff_iff,Lib.containsS_iff]
 simp only [List.mem_map,List.contains_iff_mem]
 constructor
 ·rintro ⟨x,hx,he⟩
  have:x=s:=by
   have h:=congrArg (fun b:ByteArray=>b.data.toList) he
   simpa using h
  exact this ▸ hx
 ·intro h;exact ⟨s,h,rfl⟩
end Go.Chalk
namespace Go.Proofs.YtpmalchlecnjbaaGreatDoor
open Go.RowKit Go.Chalk
attribute [local go_sem] Oper.semAt_some
theorem reserved_any (s:Bs) (w:World) (hg:GAt w):Calls Tryz.prog 150 #[.string ⟨s.toArray⟩] w fun e w'=>e=.returned (.bool (reservedL.contains s))/\Below w.heap.size w w':=by
 have hF:=Tryz.strings_Fields ⟨resText.toArray⟩ w (by decide) (fun j b hb=>res_ascii b (List.mem_of_getElem? hb)) hg.tab
 rw [show Lib.fields (⟨resText.toArray⟩:ByteArray).data.toList=reservedL from res_fields] at hF
 have HF:=Lh hF
 have HC:=Lh (fun (W:World) (hW:W.heap[w.heap.size]?=some (.cells (reservedL.map (fun l=>Value.string ⟨l.toArray⟩)).toArray 9 (0,0)))=>Tryz.slices_Contains_string w.heap.size 0 25 25 (reservedL.map (fun x=>(⟨x.toArray⟩:ByteArray))) ⟨s.toArray⟩ W (by decide) (by decide) (fun j hj=>by
  rw [Nat.zero_add]
  refine cH hW ?_
  have hj':j<reservedL.length:=by simpa using hj
  simp [hj']))
 have HR:=Lh (bsIn reservedL s)
 generalize reservedL.contains s=b at HR ⊢
 clear hF hg
 go_enter Tryz.func150,Tryz.ntmps150
 go_wp2_with fail
 refine HF.out.mono ?_
 rintro e w1 ⟨rfl,hw1⟩
 have hh:w1.heap[w.heap.size]?=some (.cells (reservedL.map (fun l=>Value.string ⟨l.toArray⟩)).toArray 9 (0,0)):=by rw [hw1];exact heap_alloc_new _ _
 have hb1:Below w.heap.size w w1:=by rw [hw1];exact below_new _ _
 have H1:=Lh (aI hh hb1)
 clear hw1 hh hb1
 rw [show (reservedL.length:Nat)=25 from rfl]
 go_wp2_with fail
 refine (HC.out w1 H1.out.1).mono ?_
 rintro e w2 ⟨rfl,rfl⟩
 rw [show (List.map (fun x=>(⟨x.toArray⟩:ByteArray)) reservedL).take 25=List.map (fun x=>(⟨x.toArray⟩:ByteArray)) reservedL from rfl,HR.out]
 go_wp2_with fail
 go_ret
 exact ⟨rfl,H1.out.2⟩
def GB (w0 w:World):Prop:=GS w0/\Below w0.heap.size w0 w
theorem GB.gs {w0 w:World} (h:GB w0 w):GS w:=h.1.below h.2
theorem GB.mod {w0 w w':World} {P:Nat} (h:GB w0 w) (hP:w0.heap.size<=P) (hm:Chalk.Mod (fun k=>k=P) w w'):GB w0 w':=⟨h.1,h.2.trans (hm.below h.2.size (fun k hk=>by omega))⟩
theorem GB.below {w0 w w':World} (h:GB w0 w) (hb:Below w.heap.size w w'):GB w0 w':=⟨h.1,h.2.trans (hb.mono h.2.size)⟩
theorem pname_bad (P:Nat) (l:List Tok) (n:Nat) (w:World) (h:PAt w P l) (hg:GAt w) (hr:pName l=.bad n):Calls Tryz.prog 96 #[.pointer (some ⟨P,0,none⟩)] w fun e w'=>e=.panicked (wrongP n)/\Chalk.Mod (fun k=>k=P) w w':=by
 obtain ⟨t,r,rfl⟩:=h.1.cons
 have HN:=Lh (pnext_any P t r w h)
 have HR:=Lh (fun (W:World) (hb:Below w.heap.size w W)=>reserved_any t.text W (hg.below hb))
 have HF:=Lh (fun (W:World) (hb:Below w.heap.size w W)=>pfail_any P t r W (h.below hb))
 clear h hg
 rw [pName] at hr
 obtain ⟨k,x,at_⟩:=t
 simp only at hr HN HR HF
 by_cases hk:k=1
 ·cases hc:reservedL.contains x
  ·rw [if_pos ⟨hk,hc⟩] at hr;cases hr
  ·rw [if_neg (by rintro ⟨_,hh⟩;rw [hc] at hh;cases hh)] at hr
   cases hr
   rw [hc] at HR
   subst hk
   clear hc
   go_enter Tryz.func96,Tryz.ntmps96
   go_wp2_with (first | (go_at_call 48;refine HN.out.mono ?_;rintro e w' ⟨rfl,hb⟩;have HB:=Lh hb;clear hb) | (go_at_call 150;refine (HR.out _ (HB.out.alloc HB.out.size _)).mono ?_;rintro e w2 ⟨rfl,hb⟩;have HB2:=Lh ((HB.out.alloc HB.out.size _).trans (hb.mono (HB.out.alloc HB.out.size _).size));clear hb) | (go_at_call 71;refine (HF.out _ HB2.out).mono ?_;rintro e w3 ⟨rfl,hb⟩;have HB3:=Lh (HB2.out.trans (hb.mono HB2.out.size));clear hb))
   exact ⟨rfl,rfl,Chalk.Mod.of_below (S:=fun k=>k=P) HB3.out⟩
 ·rw [if_neg (fun hh=>hk hh.1)] at hr
  cases hr
  have e1:(k != 1)=true:=by simpa using hk
  clear hk HR
  go_enter Tryz.func96,Tryz.ntmps96
  go_wp2_with (first | (go_at_call 48;refine HN.out.mono ?_;rintro e w' ⟨rfl,hb⟩;have HB:=Lh hb;clear hb) | (go_at_call 71;refine (HF.out _ (HB.out.alloc HB.out.size _)).mono ?_;rintro e w3 ⟨rfl,hb⟩;have HB3:=Lh ((HB.out.alloc HB.out.size _).trans (hb.mono (HB.out.alloc HB.out.size _).size));clear hb))
  exact ⟨rfl,rfl,Chalk.Mod.of_below (S:=fun k=>k=P) HB3.out⟩
theorem pname_ok (P:Nat) (l r:List Tok) (s:Bs) (w:World) (h:PAt w P l) (hg:GAt w) (hr:pName l=.ok s r):Calls Tryz.prog 96 #[.pointer (some ⟨P,0,none⟩)] w fun e w'=>e=.returned (.string ⟨s.toArray⟩)/\PAt w' P r/\Chalk.Mod (fun k=>k=P) w w':=by
 obtain ⟨t,r',rfl⟩:=h.1.cons
 rw [pName] at hr
 by_cases hc:t.kind=1/\reservedL.contains t.text=false
 rotate_left
 ·rw [if_neg hc] at hr;cases hr
 rw [if_pos hc] at hr
 cases hr
 have HN:=Lh (pnext_any P t r w h)
 have HR:=Lh (fun (W:World) (hb:Below w.heap.size w W)=>reserved_any t.text W (hg.below hb))
 have HP:=Lh (fun (W:World) (hb:Below w.heap.size w W)=>ppass_any P t r W (h.below hb) (by omega))
 have hf1:=tokField1
 rw [hc.2] at HR
 clear h hg
 obtain ⟨k,x,at_⟩:=t
 simp only at hc HN HR HP ⊢
 obtain ⟨rfl,_⟩:=hc
 go_enter Tryz.func96,Tryz.ntmps96
 go_wp2_with (first | (go_at_call 48;refine HN.out.mono ?_;rintro e w' ⟨rfl,hb⟩;have HB:=Lh hb;clear hb) | (go_at_call 150;refine (HR.out _ (HB.out.alloc HB.out.size _)).mono ?_;rintro e w2 ⟨rfl,hb⟩;have HB2:=Lh ((HB.out.alloc HB.out.size _).trans (hb.mono (HB.out.alloc HB.out.size _).size));clear hb) | (go_at_call 131;refine (HP.out _ HB2.out).mono ?_;rintro e w3 ⟨rfl,hp⟩;have HP3:=Lh hp;clear hp))
 go_ret
 exact ⟨rfl,HP3.out.1,PAt.mod HB2.out HP3.out.2⟩
theorem patoi_any (s:Bs) (hmax:s.length<=281474976710656) (w:World) (hg:GS w) :
  Calls Tryz.prog 151 #[.string ⟨s.toArray⟩] w fun e w'=>∃ (n:Int) (ev:Value),e=.returned (.tuple #[.int .i64 n,ev])/\(ev=.nilIface∨∃ p,ev=.iface 191 p)/\Below w.heap.size w w' /\
   (s.all digitB=true->s ≠ []->((ev=.nilIface/\n=valD s)∨((∃ p,ev=.iface 191 p)/\9223372036854775808<=valD s))):=by
 have hsz:(⟨s.toArray⟩:ByteArray).size=s.length:=by show s.toArray.size=_;simp
 by_cases hd:s.all digitB=true/\s ≠ []
 ·obtain ⟨hd,hne⟩:=hd
  cases s with
  | nil=>exact absurd rfl hne
  | cons c r =>
   refine (atoi_any c r hd hmax w hg.gat).mono ?_
   rintro e w' ⟨n,ev,rfl,h,hb⟩
   refine ⟨n,ev,rfl,?_,hb,fun _ _=>h⟩
   rcases h with ⟨h,_⟩ | ⟨⟨p,h⟩,_⟩
   ·exact .inl h
   ·exact .inr ⟨_,h⟩
 ·have hno:s.all digitB=true->s ≠ []->False:=fun h1 h2=>hd ⟨h1,h2⟩
  obtain ⟨ev,h1,h2⟩:=hg.syn
  obtain ⟨er,h3,h4⟩:=hg.gat.err
  cases hc:Lib.atoiAll (⟨s.toArray⟩:ByteArray).data.toList with
  | ok v =>
   refine (Tryz.strconv_Atoi_ok ⟨s.toArray⟩ (by rw [hsz];omega) v hc w).mono ?_
   rintro e w' ⟨rfl,hw⟩
   refine ⟨_,_,rfl,.inl rfl,?_,fun a b=>(hno a b).elim⟩
   rcases hw with rfl | ⟨t,rfl⟩
   ·exact Below.refl _ _
   ·exact below_bytesWorld _ _
  | range =>
   refine (Tryz.strconv_Atoi_range ⟨s.toArray⟩ (by rw [hsz];exact hmax) hc er w h3 h4).mono ?_
   rintro e w' ⟨N,rfl,_,_,hb⟩
   exact ⟨_,_,rfl,.inr ⟨_,rfl⟩,hb,fun a b=>(hno a b).elim⟩
  | _ =>
   refine (Tryz.strconv_Atoi_syntax ⟨s.toArray⟩ (by rw [hsz];exact hmax) (fun n=>by rw [hc];simp) (by rw [hc];simp) ev w h1 h2).mono ?_
   rintro e w' ⟨N,rfl,_,_,hb⟩
   exact ⟨_,_,rfl,.inr ⟨_,rfl⟩,hb,fun a b=>(hno a b).elim⟩
theorem pnumber_ok (P:Nat) (l r:List Tok) (least most n:Int) (w:World) (hm:most<=1099511627776) (h:PAt w P l) (hg:GS w) (hr:pNumber least most l=.ok n r):Calls Tryz.prog 97 #[.pointer (some ⟨P,0,none⟩),.int .i64 least,.int .i64 most] w fun e w'=>e=.returned (.int .i64 n)/\PAt w' P r/\Chalk.Mod (fun k=>k=P) w w':=by
 obtain ⟨t,r',rfl⟩:=h.1.cons
 rw [pNumber] at hr
 by_cases hc:t.kind=2/\least<=(valD t.text:Int)/\(valD t.text:Int)<=most
 rotate_left
 ·rw [if_neg hc] at hr;cases hr
 rw [if_pos hc] at hr
 simp only [Rs.ok.injEq] at hr
 obtain ⟨hn,rfl⟩:=hr
 have HN:=Lh (fun (W:World) (hb:Below w.heap.size w W)=>pnext_any P t r' W (h.below hb))
 have htk:=h.2.1 t (by simp)
 have HAT:=Lh (fun (W:World) (hb:Below w.heap.size w W)=>patoi_any t.text htk.len W (hg.below hb))
 have HP:=Lh (fun (W:World) (hb:Below w.heap.size w W)=>ppass_any P t r' W (h.below hb) (by omega))
 have HD:=Lh (htk.num hc.1)
 have hf1:=tokField1
 have hf0:=tokField0
 clear h hg htk
 obtain ⟨k,x,at_⟩:=t
 simp only at hc HN HAT HP HD hn ⊢
 obtain ⟨rfl,h1,h2⟩:=hc
 rw [hn] at h1 h2
 have HNV:=Lh hn
 have e1:decide (n<least)=false:=by simp;omega
 have e2:decide (most<n)=false:=by simp;omega
 have hn63:n<9223372036854775808:=by omega
 have H63:=Lh hn63
 clear hn h1 h2 hn63 hm
 go_enter Tryz.func97,Tryz.ntmps97
 go_wp2_with fail
 refine (HN.out _ (Below.refl _ _)).mono ?_
 rintro e w1 ⟨rfl,hb1⟩
 have HB1:=Lh hb1
 clear hb1
 go_wp2_with fail
 refine (HAT.out _ HB1.out).mono ?_
 rintro e w2 ⟨m,ev,rfl,_,hb2,hcase⟩
 obtain ⟨rfl,hmv⟩:ev=.nilIface/\m=n:=by
  rcases hcase HD.out.1 HD.out.2 with ⟨h1,h2⟩ | ⟨_,h2⟩
  ·exact ⟨h1,h2.trans HNV.out⟩
  ·have:=HNV.out;have:=H63.out;omega
 subst hmv
 have HB2:=Lh (HB1.out.trans (hb2.mono HB1.out.size))
 clear hb2 hcase HAT
 go_wp2_with fail
 refine (HN.out _ HB2.out).mono ?_
 rintro e w3 ⟨rfl,hb3⟩
 have HB3:=Lh (HB2.out.trans (hb3.mono HB2.out.size))
 clear hb3 HN
 go_wp2_with fail
 refine (HP.out _ HB3.out).mono ?_
 rintro e w4 ⟨rfl,hp⟩
 have HP3:=Lh hp
 clear hp HP
 go_wp2_with fail
 go_ret
 exact ⟨rfl,HP3.out.1,PAt.mod HB3.out HP3.out.2⟩
theorem pnumber_bad (P:Nat) (l:List Tok) (least most:Int) (n:Nat) (w:World) (h:PAt w P l) (hg:GS w) (hr:pNumber least most l=.bad n):Calls Tryz.prog 97 #[.pointer (some ⟨P,0,none⟩),.int .i64 least,.int .i64 most] w fun e w'=>e=.panicked (wrongP n)/\Chalk.Mod (fun k=>k=P) w w':=by
 obtain ⟨t,r',rfl⟩:=h.1.cons
 rw [pNumber] at hr
 by_cases hc:t.kind=2/\least<=(valD t.text:Int)/\(valD t.text:Int)<=most
 ·rw [if_pos hc] at hr;cases hr
 rw [if_neg hc] at hr
 cases hr
 have HN:=Lh (fun (W:World) (hb:Below w.heap.size w W)=>pnext_any P t r' W (h.below hb))
 have htk:=h.2.1 t (by simp)
 have HAT:=Lh (fun (W:World) (hb:Below w.heap.size w W)=>patoi_any t.text htk.len W (hg.below hb))
 have HF:=Lh (fun (W:World) (hb:Below w.heap.size w W)=>pfail_any P t r' W (h.below hb))
 have HD:=Lh htk.num
 have hf1:=tokField1
 have hf0:=tokField0
 clear h hg htk
 obtain ⟨k,x,at_⟩:=t
 simp only at hc HN HAT HF HD ⊢
 have HC:=Lh hc
 clear hc
 go_enter Tryz.func97,Tryz.ntmps97
 go_wp2_with fail
 refine (HN.out _ (Below.refl _ _)).mono ?_
 rintro e w1 ⟨rfl,hb1⟩
 have HB1:=Lh hb1
 clear hb1
 go_wp2_with fail
 refine (HAT.out _ HB1.out).mono ?_
 rintro e w2 ⟨m,ev,rfl,hev,hb2,hcase⟩
 have HB2:=Lh (HB1.out.trans (hb2.mono HB1.out.size))
 have HCA:=Lh hcase
 clear hb2 hcase HAT
 by_cases hk:k=2
 ·subst hk
  have hd:=HD.out rfl
  rcases HCA.out hd.1 hd.2 with ⟨rfl,hm⟩ | ⟨⟨p,rfl⟩,hm⟩
  ·have hor:(decide (m<least)=true)∨(decide (m<least)=false/\decide (most<m)=true):=by
    by_cases h1:m<least
    ·exact .inl (by simpa using h1)
    ·refine .inr ⟨by simpa using h1,?_⟩
     have:=HC.out
     simp only [true_and,<- hm,not_and] at this
     simp;have h3:=this (by omega);omega
   clear hm HCA hd hev
   rcases hor with e1 | ⟨e1,e2⟩
   ·go_wp2_with fail
    refine (HN.out _ HB2.out).mono ?_
    rintro e w3 ⟨rfl,hb3⟩
    have HB3:=Lh (HB2.out.trans (hb3.mono HB2.out.size))
    clear hb3
    go_wp2_with fail
    refine (HF.out _ HB3.out).mono ?_
    rintro e w4 ⟨rfl,hb4⟩
    exact ⟨rfl,rfl,Chalk.Mod.of_below (S:=fun k=>k=P) (HB3.out.trans (hb4.mono HB3.out.size))⟩
   ·go_wp2_with fail
    refine (HN.out _ HB2.out).mono ?_
    rintro e w3 ⟨rfl,hb3⟩
    have HB3:=Lh (HB2.out.trans (hb3.mono HB2.out.size))
    clear hb3
    go_wp2_with fail
    refine (HF.out _ HB3.out).mono ?_
    rintro e w4 ⟨rfl,hb4⟩
    exact ⟨rfl,rfl,Chalk.Mod.of_below (S:=fun k=>k=P) (HB3.out.trans (hb4.mono HB3.out.size))⟩
  ·clear hm HCA hd hev
   go_wp2_with fail
   refine (HN.out _ HB2.out).mono ?_
   rintro e w3 ⟨rfl,hb3⟩
   have HB3:=Lh (HB2.out.trans (hb3.mono HB2.out.size))
   clear hb3
   go_wp2_with fail
   refine (HF.out _ HB3.out).mono ?_
   rintro e w4 ⟨rfl,hb4⟩
   exact ⟨rfl,rfl,Chalk.Mod.of_below (S:=fun k=>k=P) (HB3.out.trans (hb4.mono HB3.out.size))⟩
 ·have e0:(k != 2)=true:=by simpa using hk
  clear hk HCA hev
  go_wp2_with fail
  refine (HN.out _ HB2.out).mono ?_
  rintro e w3 ⟨rfl,hb3⟩
  have HB3:=Lh (HB2.out.trans (hb3.mono HB2.out.size))
  clear hb3
  go_wp2_with fail
  refine (HF.out _ HB3.out).mono ?_
  rintro e w4 ⟨rfl,hb4⟩
  exact ⟨rfl,rfl,Chalk.Mod.of_below (S:=fun k=>k=P) (HB3.out.trans (hb4.mono HB3.out.size))⟩
theorem kwT_cons (t:List (Bs×Int)) (k:Tok) (r:List Tok):kwT t (k :: r)=if k.kind=1 then kwGet t k.text else none:=rfl
theorem pone_no (P bm:Nat) (tb:List (Bs×Int)) (l:List Tok) (w:World) (h:PAt w P l) (hm:KwAt w bm tb) (hr:kwT tb l=none):Calls Tryz.prog 152 #[.pointer (some ⟨P,0,none⟩),.map (some bm)] w fun e w'=>e=.returned (.tuple #[.int .i64 0,.bool false])/\Below w.heap.size w w':=by
 obtain ⟨t,r,rfl⟩:=h.1.cons
 have HN:=Lh (fun (W:World) (hb:Below w.heap.size w W)=>pnext_any P t r W (h.below hb))
 have HK:=Lh (fun (W:World) (hb:Below w.heap.size w W)=>kw_look (P:=Tryz.prog) W 117 9 3 bm tb t.text Tryz.underlying117 Tryz.underlying9 (fun W=>by kernel_rfl) (hm.below hb))
 have hf1:=tokField1
 have hf0:=tokField0
 rw [kwT_cons] at hr
 clear h hm
 obtain ⟨k,x,at_⟩:=t
 simp only at hr HN HK ⊢
 cases hkw:kwGet tb x with
 | none =>
  rw [hkw] at HK
  simp only [Option.getD_none,Option.isSome_none] at HK
  clear hkw hr
  go_enter Tryz.func152,Tryz.ntmps152
  go_wp2_with fail
  refine (HN.out _ (Below.refl _ _)).mono ?_
  rintro e w1 ⟨rfl,hb1⟩
  have HB1:=Lh hb1
  have hlk:=HK.out w1 hb1
  clear hb1
  go_wp2_with fail
  go_ret2
  exact ⟨rfl,HB1.out⟩
 | some v =>
  rw [hkw] at HK hr
  simp only [Option.getD_some,Option.isSome_some] at HK
  have hk:¬ k=1:=by intro h1;rw [if_pos h1] at hr;cases hr
  have e0:(k != 1)=true:=by simpa using hk
  clear hkw hr hk
  go_enter Tryz.func152,Tryz.ntmps152
  go_wp2_with fail
  refine (HN.out _ (Below.refl _ _)).mono ?_
  rintro e w1 ⟨rfl,hb1⟩
  have HB1:=Lh hb1
  have hlk:=HK.out w1 hb1
  clear hb1
  go_wp2_with fail
  refine (HN.out _ HB1.out).mono ?_
  rintro e w2 ⟨rfl,hb2⟩
  have HB2:=Lh (HB1.out.trans (hb2.mono HB1.out.size))
  clear hb2 hlk
  go_wp2_with fail
  go_ret2
  exact ⟨rfl,HB2.out⟩
theorem pone_yes (P bm:Nat) (tb:List (Bs×Int)) (l:List Tok) (v:Int) (w:World) (h:PAt w P l) (hm:KwAt w bm tb) (hr:kwT tb l=some v):Calls Tryz.prog 152 #[.pointer (some ⟨P,0,none⟩),.map (some bm)] w fun e w'=>e=.returned (.tuple #[.int .i64 v,.bool true])/\PAt w' P l.tail/\Chalk.Mod (fun k=>k=P) w w':=by
 obtain ⟨t,r,rfl⟩:=h.1.cons
 have hne:=kwT_kind hr
 have HN:=Lh (fun (W:World) (hb:Below w.heap.size w W)=>pnext_any P t r W (h.below hb))
 have HP:=Lh (fun (W:World) (hb:Below w.heap.size w W)=>ppass_any P t r W (h.below hb) hne)
 have HK:=Lh (fun (W:World) (hb:Below w.heap.size w W)=>kw_look (P:=Tryz.prog) W 117 9 3 bm tb t.text Tryz.underlying117 Tryz.underlying9 (fun W=>by kernel_rfl) (hm.below hb))
 have hf1:=tokField1
 have hf0:=tokField0
 rw [kwT_cons] at hr
 clear h hm hne
 obtain ⟨k,x,at_⟩:=t
 simp only [List.tail_cons] at hr HN HK HP ⊢
 by_cases hk:k=1
 rotate_left
 ·rw [if_neg hk] at hr;cases hr
 rw [if_pos hk] at hr
 rw [hr] at HK
 simp only [Option.getD_some,Option.isSome_some] at HK
 subst hk
 clear hr
 go_enter Tryz.func152,Tryz.ntmps152
 go_wp2_with fail
 refine (HN.out _ (Below.refl _ _)).mono ?_
 rintro e w1 ⟨rfl,hb1⟩
 have HB1:=Lh hb1
 have hlk:=HK.out w1 hb1
 clear hb1
 go_wp2_with fail
 refine (HN.out _ HB1.out).mono ?_
 rintro e w2 ⟨rfl,hb2⟩
 have HB2:=Lh (HB1.out.trans (hb2.mono HB1.out.size))
 clear hb2 hlk
 go_wp2_with fail
 refine (HP.out _ HB2.out).mono ?_
 rintro e w3 ⟨rfl,hp⟩
 have HP3:=Lh hp
 clear hp
 go_wp2_with fail
 go_ret2
 exact ⟨rfl,HP3.out.1,PAt.mod HB2.out HP3.out.2⟩
end Go.Proofs.YtpmalchlecnjbaaGreatDoor
/- The parser of layer syntax: binds. -/
namespace Go.Chalk
open Go.RowKit
structure OwnF (w:World) (e:TypeId) (sz lo:Nat) (v:Value) (xs:List D):Prop where
 own:∃ q,Own w (fun _=>False) e sz v q xs/\∀ k,q=some k->lo<=k
theorem OwnF.nil (w:World) (e:TypeId) (sz lo:Nat):OwnF w e sz lo (.slice none 0 0) []:=⟨none,Own.nil _ _ _ _ (fun _ h=>h.elim),fun _ h=>by cases h⟩
theorem OwnF.kept {w w':World} {e:TypeId} {sz lo P:Nat} {v:Value} {xs:List D} (h:OwnF w e sz lo v xs) (hP:P<lo) (hm:Mod (fun k=>k=P) w w'):OwnF w' e sz lo v xs:=by
 obtain ⟨q,h,hq⟩:=h.own
 exact ⟨q,h.kept hm (fun _ h=>h.elim) (fun k hk e=>by have:=hq k hk;omega),hq⟩
theorem OwnF.below {w w':World} {e:TypeId} {sz lo:Nat} {v:Value} {xs:List D} (h:OwnF w e sz lo v xs) (hb:Below w.heap.size w w'):OwnF w' e sz lo v xs:=by
 obtain ⟨q,h,hq⟩:=h.own
 exact ⟨q,h.below hb,hq⟩
theorem OwnF.sl {w:World} {e:TypeId} {sz lo:Nat} {v:Value} {xs:List D} (h:OwnF w e sz lo v xs) (hw:widths xs=xs.length*sz):∃ z:SlA,v=z.val xs.length/\SlIn w (fun k=>lo<=k/\k<w.heap.size) xs z:=by
 obtain ⟨q,h,hq⟩:=h.own
 have:=h.read (G:=fun k=>lo<=k/\k<w.heap.size) (fun _ h=>h.elim) (fun k hk=>⟨hq k hk,h.row_lt hk⟩) hw
 obtain ⟨z,hz,hs⟩:=DAt.sl_iff.1 this
 exact ⟨z,by simpa using hz,hs⟩
theorem wpList_append_F {P:Program} {W0:World} {B:Nat} (hB:W0.heap.size=B) {lo:Nat} {ops:Array Oper} {rest:List Oper} {o:Oper} {a:Act} {Q:Exit->Act->World->Prop} (hgd:o.guard=none) (s x:Operand) (t:TypeId)
  (ho:o.op=.call { callee:=.builtin .append,args:=#[s,x],argTypes:=#[t,t] }) (e:TypeId) (i:TypeInfo) (z:Value) (size bytes:Nat) (ht:P.underlying t=some (.slice e)) (hi:P.info? e=some i) (hz:i.zero=some z)
  (hsize:i.size=size) (hby:i.bytes=bytes) (hzs:z.cells.size=size) (hsz:0<size) (v:Value) (xs:List D) (n:Nat) (hn:xs.length=n) (y:D) (cs:List Value) (U:TypeId) (hs:a.eval s=v) (hx:a.eval x=.slice (some ⟨B,0,none⟩) 1 1)
  (hv:OwnF W0 e size lo v xs) (hd:DsAt W0 (fun _=>False) [y] cs) (hw:y.width=size) (hlo:lo<=W0.heap.size) (h63:n+1<=maxLen) (hbytes:(n+1)*bytes<=140737488355328)
  (h:∀ ao cap w',OwnF w' e size lo (.slice ao (n+1) cap) (xs++[y])->Mod (fun k=>lo<=k) W0 w'->wpList P ops Q rest (a.put o.dst (.slice ao (n+1) cap)) w') :
  wpList P ops Q (o :: rest) a (W0.alloc (.cells cs.toArray U)):=by
 subst hn
 have hb:Below W0.heap.size W0 (W0.alloc (.cells cs.toArray U)):=below_new _ _
 have hnb:(W0.alloc (.cells cs.toArray U)).heap[W0.heap.size]?=some (.cells cs.toArray U (0,0)):=boxed (B:=W0.heap.size+1) (Below.refl _ _) (by omega)
 have hnews:∀ j u,cs[j]?=some u->(W0.alloc (.cells cs.toArray U)).cell? ((⟨W0.heap.size,0,none⟩:Addr).add j)=some u:=fun j u hu=>by
  have hc:=cH (i:=j) hnb (v:=u) (by simpa using hu)
  unfold Addr.add
  by_cases h0:j=0
  ·subst h0;simpa using hc
  ·rw [if_neg h0];simpa using hc
 have hlen:cs.length=1*size:=by
  have:=DsAt.length _ _ hd
  rw [this];simp [widths,hw]
 have hd':DsAt (W0.alloc (.cells cs.toArray U)) (fun _=>False) [y] cs:=DsAt.agree (fun _ h=>h.elim) _ _ hd
 obtain ⟨q,hq,hql⟩:=hv.own
 have h1':=hq.below hb
 obtain ⟨cs0,k1,k2⟩:=h1'.cells
 refine wpList_append_lies (W0.alloc (.cells cs.toArray U)) hgd s x t ho 0 e i z size bytes ht hi hz hsize hby hzs hsz v xs.length cs0 hs k1 ⟨W0.heap.size,0,none⟩ 1 1 cs (by rw [hx,hB]) hlen hnews (DsAt.one _ _ hd) (by omega) h63 hbytes (Nat.zero_le _) _ rfl (fun g cap w' hown hgr hat hlt=>?_)
 obtain ⟨g1,g2,g3⟩:=h1'.appended (ys:=[y]) k2 hown hgr (by rcases hat with h | h;exact .inl h.symm;exact .inr (by rw [h];rfl)) hd'
 refine h _ _ _ ⟨_,g1,fun k hk=>?_⟩ (((Mod.of_below (S:=fun k=>q=some k) hb).trans g2 (fun _ _ h=>h)).mono (fun k hk=>hql k hk))
 rcases g3 with g3 | g3
 ·exact hql k (by rw [<- g3];exact hk)
 ·rw [g3] at hk
  simp at hk;omega
theorem kwGet_ran {t:List (Bs×Int)} {s:Bs} {v:Int} (h:kwGet t s=some v):∃ p∈t,p.2=v:=by
 unfold kwGet at h
 cases hf:t.find? (fun p=>p.1==s) with
 | none=>rw [hf] at h;cases h
 | some p=>rw [hf] at h;cases h;exact ⟨p,List.mem_of_find?_eq_some hf,rfl⟩
theorem kwT_range {t:List (Bs×Int)} {l:List Tok} {v:Int} (ht:t.all (fun p=>decide (0<=p.2)&&decide (p.2<=20))=true) (h:kwT t l=some v):0<=v/\v<=20:=by
 cases l with
 | nil=>cases h
 | cons k r =>
  unfold kwT at h
  simp only at h
  split at h
  ·obtain ⟨p,hp,rfl⟩:=kwGet_ran h
   have:=List.all_eq_true.1 ht p hp
   simpa using this
  ·cases h
theorem pName_len {l r:List Tok} {s:Bs} (h:pName l=.ok s r) (hl:∀ t∈l,TokOk t):s.length<=281474976710656:=by
 cases l with
 | nil=>cases h
 | cons t q =>
  rw [pName] at h
  split at h
  ·cases h;exact (hl t (by simp)).len
  ·cases h
theorem bnd_ds (w:World) (F:Nat->Prop) (b:Bnd) (hn:b.name.length<=281474976710656) (hs:0<=b.sort/\b.sort<=20):DsAt w F [Bnd.toD b] [.string ⟨b.name.toArray⟩,.int .i64 b.sort]:=by
 refine (DsAt.flat [Bnd.toD b] _ rfl).2 ⟨rfl,?_⟩
 simp only [fines,D.fine,Bnd.toD,and_true]
 exact ⟨by rw [bs_size];unfold maxLen;omega,WalkArith.wf_i64 ⟨by omega,by omega⟩⟩
def sliceN:Value->Nat | .slice _ n _=>n | _=>0
theorem bnds_widths:∀ l:List Bnd,widths (l.map Bnd.toD)=(l.map Bnd.toD).length*2
 | []=>rfl
 | b :: r=>by
  have:=bnds_widths r
  simp only [List.map_cons,widths,Bnd.toD,D.width,List.length_cons] at this ⊢;omega
end Go.Chalk
namespace Go.Proofs.YtpmalchlecnjbaaGreatDoor
open Go.RowKit Go.Chalk
attribute [local go_sem] Oper.semAt_some
theorem bnd_info:(Tryz.prog.info? 74).map (fun i=>(i.zero,i.size,i.bytes))=some (some (.agg #[.string ⟨#[]⟩,.int .i64 0]),2,24):=by kernel_rfl
theorem PAt.far {w w':World} {P:Nat} {l:List Tok} {S:Nat->Prop} (h:PAt w P l) (hm:Chalk.Mod S w w') (hS:∀ k,S k->P<k):PAt w' P l:=by
 have hlt:=h.lt
 obtain ⟨h1,h2,h2',b,o,cap,h3,h4,h5,h6,h7⟩:=h
 have hk:∀ k,k<=P->w'.heap[k]?=w.heap[k]?:=fun k hk=>hm.block k (by omega) (fun hs=>by have:=hS k hs;omega)
 have hc:∀ (q:Nat) (v:Value),w.cell? ⟨b,q,none⟩=some v->w'.cell? ⟨b,q,none⟩=some v:=fun q v e=>(World.cell?_of_block (a:=⟨b,q,none⟩) (hk b (by omega))).trans e
 exact ⟨h1,h2,h2',b,o,cap,(hk P (Nat.le_refl _)).trans h3,h4,h5,h6,fun i hi=>⟨hc _ _ (h7 i hi).1,hc _ _ (h7 i hi).2.1,hc _ _ (h7 i hi).2.2⟩⟩
theorem mod_far {w w1 w':World} {P lo:Nat} (h:Chalk.Mod (fun k=>k=P) w w1) (hm:Chalk.Mod (fun k=>lo<=k) w1 w') (hlo:w.heap.size<=lo):Chalk.Mod (fun k=>k=P) w w':=h.trans hm (fun i hi hl=>by omega)
def PBinds (w:World) (P:Nat) (R:Rs (List Bnd)) (e:Ending) (w':World):Prop :=
 Chalk.Mod (fun k=>k=P) w w'/\match R with
  | .ok bs r=>(∃ v,e=.returned v/\OwnF w' 74 2 w.heap.size v (bs.map Bnd.toD))/\PAt w' P r
  | .bad n=>e=.panicked (wrongP n)
theorem PBinds.bad {w w':World} {P n:Nat} {R:Rs (List Bnd)} (hR:R=.bad n) (hm:Chalk.Mod (fun k=>k=P) w w'):PBinds w P R (.panicked (wrongP n)) w':=by subst hR;exact ⟨hm,rfl⟩
theorem PBinds.ok {w w':World} {P:Nat} {R:Rs (List Bnd)} {bs:List Bnd} {r:List Tok} {v:Value} (hR:R=.ok bs r) (hm:Chalk.Mod (fun k=>k=P) w w') (ho:OwnF w' 74 2 w.heap.size v (bs.map Bnd.toD)) (hp:PAt w' P r):PBinds w P R (.returned v) w':=by subst hR;exact ⟨hm,⟨v,rfl,ho⟩,hp⟩
theorem pbinds_any (P:Nat) (l:List Tok) (w0 w:World) (h:PAt w P l) (hg:GB w0 w) (hP:w0.heap.size<=P):Calls Tryz.prog 98 #[.pointer (some ⟨P,0,none⟩)] w (PBinds w P (pBinds 6 l)):=by
 obtain ⟨R,hR⟩:∃ R,R=pBinds 6 l:=⟨_,rfl⟩
 have H0:=Lh (aI h (aI hg (aI hP h.lt)))
 rw [<- hR]
 have HR:=Lh hR
 obtain ⟨i0,hi,hz0,hz1,hz2⟩:=info_parts bnd_info
 clear h hg hR hP
 go_enter Tryz.func98,Tryz.ntmps98
 go_wp2_with fail
 go_loopw [2] (fun s2 wr=>∃ (j:Nat) (acc:List Bnd) (a:Option Addr) (cap:Nat) (lj:List Tok),j<=5/\s2=.slice a j cap/\Hid (acc.length=j)/\Hid (OwnF wr 74 2 w.heap.size (.slice a j cap) (acc.map Bnd.toD))/\Hid (PAt wr P lj)/\Hid (Chalk.Mod (fun k=>k=P) w wr)/\Hid (R=(pBinds (6 - j) lj).bind fun r l=>.ok (acc++r) l)) (fun s2 _=>6 - sliceN s2)
 case atStart=>exact ⟨0,[],none,0,l,by omega,rfl,Lh rfl,Lh (OwnF.nil _ _ _ _),Lh H0.out.1,Lh (Chalk.Mod.refl _ _),Lh (by rw [HR.out];cases pBinds 6 l <;> rfl)⟩
 case round =>
  obtain ⟨j,acc,a,cap,lj,hj,rfl,HL,HO,HP,HM,HRR⟩:=hrel
  have hrr:=HRR.out
  rw [show 6 - j=(5 - j)+1 from by omega,pBinds] at hrr
  have hgr:GB w0 wr:=H0.out.2.1.mod H0.out.2.2.1 HM.out
  have HG:=Lh hgr
  cases hN:pName lj with
  | bad n =>
   have HB:=Lh (show R=.bad n by rw [hrr,pBind,hN];rfl)
   have HC:=Lh (pname_bad P lj n wr HP.out hgr.gs.gat hN)
   clear hrr hN hgr
   go_wp2_with fail
   refine HC.out.mono ?_
   rintro e w1 ⟨rfl,hm1⟩
   exact ⟨rfl,PBinds.bad HB.out (HM.out.trans hm1 (fun _ _ h=>h))⟩
  | ok s l1 =>
   have HN:=Lh (pname_ok P lj l1 s wr HP.out hgr.gs.gat hN)
   have hPlo:P<wr.heap.size:=HP.out.lt
   clear hgr
   cases hW:isT [58] l1 with
   | false =>
    have HB:=Lh (show R=.bad (atT l1) by rw [hrr,pBind,hN];simp only [Rs.bind,pWant,hW,Bool.false_eq_true,if_false])
    have HC:=Lh (fun (W:World) (hp:PAt W P l1)=>pwant_no P [58] l1 W hp hW)
    clear hrr hN hW HRR
    go_wp2_with fail
    refine HN.out.mono ?_
    rintro e w1 ⟨rfl,hp1,hm1⟩
    have H1:=Lh (aI hp1 hm1)
    clear hp1 hm1 HN
    go_wp2_with fail
    refine (HC.out _ (H1.out.1.below (below_new _ _))).mono ?_
    rintro e w2 ⟨rfl,hm2⟩
    exact ⟨rfl,PBinds.bad HB.out ((HM.out.trans H1.out.2 (fun _ _ h=>h)).trans (PAt.mod (below_new _ _) hm2) (fun _ _ h=>h))⟩
   | true =>
    cases hK:kwT kwSort l1.tail with
    | none =>
     have HB:=Lh (show R=.bad (atT l1.tail) by rw [hrr,pBind,hN];simp only [Rs.bind,pWant,hW,if_true,hK])
     have HC:=Lh (fun (W:World) (hp:PAt W P l1)=>pwant_yes P [58] l1 W hp hW)
     have HD:=Lh (fun (bm:Nat) (W:World) (hp:PAt W P l1.tail) (hm:KwAt W bm kwSort)=>pone_no P bm kwSort l1.tail W hp hm hK)
     have HE:=Lh (fun (W:World) (hp:PAt W P l1.tail)=>(show Calls Tryz.prog 71 #[.pointer (some ⟨P,0,none⟩)] W fun e w'=>e=.panicked (wrongP (atT l1.tail))/\Below W.heap.size W w' by
      obtain ⟨t,r,he⟩:=hp.1.cons
      rw [he] at hp ⊢
      exact pfail_any P t r W hp))
     clear hrr hN hW HRR hK
     go_wp2_with fail
     refine HN.out.mono ?_
     rintro e w1 ⟨rfl,hp1,hm1⟩
     have H1:=Lh (aI hp1 hm1)
     clear hp1 hm1 HN
     go_wp2_with fail
     refine (HC.out _ (H1.out.1.below (below_new _ _))).mono ?_
     rintro e w2 ⟨rfl,hp2,hm2⟩
     have H2:=Lh (aI hp2 (PAt.mod (below_new _ _) hm2))
     clear hp2 hm2 HC
     go_wp2_with fail
     refine (sorts_any _).mono ?_
     rintro e w3 ⟨rfl,rfl⟩
     have hb3:Below w2.heap.size w2 (w2.alloc (.map (kwEs 0 kwSort).toArray 7)):=below_new _ _
     have hk3:KwAt (w2.alloc (.map (kwEs 0 kwSort).toArray 7)) w2.heap.size kwSort:=heap_alloc_new _ _
     generalize w2.alloc (.map (kwEs 0 kwSort).toArray 7)=w3 at hb3 hk3 ⊢
     have H3:=Lh (aI hb3 hk3)
     clear hb3 hk3
     go_wp2_with fail
     refine (HD.out _ w3 (H2.out.1.below H3.out.1) H3.out.2).mono ?_
     rintro e w4 ⟨rfl,hb4⟩
     have H4:=Lh (H3.out.1.trans (hb4.mono H3.out.1.size))
     clear hb4 HD
     go_wp2_with fail
     refine (HE.out w4 (H2.out.1.below H4.out)).mono ?_
     rintro e w5 ⟨rfl,hb5⟩
     exact ⟨rfl,PBinds.bad HB.out (((HM.out.trans H1.out.2 (fun _ _ h=>h)).trans H2.out.2 (fun _ _ h=>h)).trans (Chalk.Mod.of_below (S:=fun k=>k=P) (H4.out.trans (hb5.mono H4.out.size))) (fun _ _ h=>h))⟩
    | some v =>
     have HC:=Lh (fun (W:World) (hp:PAt W P l1)=>pwant_yes P [58] l1 W hp hW)
     have HD:=Lh (fun (bm:Nat) (W:World) (hp:PAt W P l1.tail) (hm:KwAt W bm kwSort)=>pone_yes P bm kwSort l1.tail v W hp hm hK)
     have hrr2:R=if 5 - j=0∨isT [44] l1.tail.tail=false then .ok (acc++[⟨s,v⟩]) l1.tail.tail else (pBinds (5 - j) l1.tail.tail.tail).bind fun r l=>.ok ((acc++[⟨s,v⟩])++r) l:=by
      rw [hrr,pBind,hN]
      simp only [Rs.bind,pWant,hW,if_true,hK]
      by_cases hc:5 - j=0∨isT [44] l1.tail.tail=false
      ·rw [if_pos hc,if_pos hc]
      ·rw [if_neg hc,if_neg hc]
       cases pBinds (5 - j) l1.tail.tail.tail with
       | ok r l=>simp
       | bad n=>rfl
     have HR2:=Lh hrr2
     have HSL:=Lh (aI (pName_len hN HP.out.2.1) (kwT_range (by decide) hK))
     clear hrr hrr2 hN hW HRR hK
     go_wp2_with fail
     refine HN.out.mono ?_
     rintro e w1 ⟨rfl,hp1,hm1⟩
     obtain ⟨W1,hW1⟩:∃ W1,W1=w1.alloc (.cells #[.string ⟨s.toArray⟩,.int .i64 0] 74):=⟨_,rfl⟩
     have hb1:Below w1.heap.size w1 W1:=by rw [hW1];exact below_new _ _
     have hx1:W1.heap[w1.heap.size]?=some (.cells #[.string ⟨s.toArray⟩,.int .i64 0] 74 (0,0)):=by rw [hW1];exact heap_alloc_new _ _
     have hPx:P ≠ w1.heap.size:=by have:=hp1.lt;omega
     have hq1:∃ q,Chalk.Own W1 (fun _=>False) 74 2 (.slice a j cap) q (acc.map Bnd.toD)/\∀ k,q=some k->w.heap.size<=k/\k ≠ w1.heap.size:=by
      obtain ⟨q,h1,h2⟩:=(HO.out.kept H0.out.2.2.2 hm1).own
      exact ⟨q,h1.below hb1,fun k hk=>⟨h2 k hk,by have:=h1.row_lt hk;omega⟩⟩
     have H1:=Lh (aI (hp1.below hb1) (aI ((HM.out.trans hm1 (fun _ _ h=>h)).trans (Chalk.Mod.of_below (S:=fun k=>k=P) hb1) (fun _ _ h=>h)) (aI hx1 (aI hq1 hPx))))
     have HZ1:=Lh (show w.heap.size<=w1.heap.size from Nat.le_trans HM.out.size hm1.size)
     have HW1:=Lh hW1
     clear hp1 hm1 HN hb1 hx1 hW1 hPx
     go_wp2_with fail
     rw [<- HW1.out]
     refine (HC.out _ H1.out.1).mono ?_
     rintro e w2 ⟨rfl,hp2,hm2⟩
     have H2:=Lh (aI hp2 hm2)
     clear hp2 hm2 HC
     go_wp2_with fail
     refine (sorts_any _).mono ?_
     rintro e w3 ⟨rfl,rfl⟩
     have hb3:Below w2.heap.size w2 (w2.alloc (.map (kwEs 0 kwSort).toArray 7)):=below_new _ _
     have hk3:KwAt (w2.alloc (.map (kwEs 0 kwSort).toArray 7)) w2.heap.size kwSort:=heap_alloc_new _ _
     generalize w2.alloc (.map (kwEs 0 kwSort).toArray 7)=w3 at hb3 hk3 ⊢
     have H3:=Lh (aI hb3 hk3)
     clear hb3 hk3
     go_wp2_with fail
     refine (HD.out _ w3 (H2.out.1.below H3.out.1) H3.out.2).mono ?_
     rintro e w4 ⟨rfl,hp4,hm4⟩
     have hm14:Chalk.Mod (fun k=>k=P) W1 w4:=H2.out.2.trans (PAt.mod H3.out.1 hm4) (fun _ _ h=>h)
     have hx4:=heap_kept H1.out.2.2.1 hm14 (fun h=>H1.out.2.2.2.2 h.symm)
     have b0:w4.cell? ⟨w1.heap.size,0,none⟩=some (.string ⟨s.toArray⟩):=cH hx4 rfl
     have b1:w4.cell? ⟨w1.heap.size,1,none⟩=some (.int .i64 0):=cH hx4 rfl
     have f1:w4.frozen? ⟨w1.heap.size,1,none⟩=false:=fH hx4
     have hl4:w1.heap.size<w4.heap.size:=(gS hx4).1
     have hO4:OwnF (w4.setCell ⟨w1.heap.size,1,none⟩ (.int .i64 v)) 74 2 w.heap.size (.slice a j cap) (acc.map Bnd.toD):=by
      obtain ⟨q,h1,h2⟩:=H1.out.2.2.2.1
      refine ⟨q,(h1.kept hm14 (fun _ h=>h.elim) (fun k hk e=>by have:=(h2 k hk).1;have:=H0.out.2.2.2;omega)).kept (S:=fun k=>k=w1.heap.size) ((Chalk.Mod.refl (fun k=>k=w1.heap.size) w4).setCell (p:=⟨w1.heap.size,1,none⟩) (fun _=>rfl) _) (fun _ h=>h.elim) (fun k hk e=>(h2 k hk).2 e),fun k hk=>(h2 k hk).1⟩
     have hwz:=HZ1.out
     have H4:=Lh (aI (PAt.far hp4 ((Chalk.Mod.refl (fun k=>w.heap.size<=k) w4).setCell (p:=⟨w1.heap.size,1,none⟩) (fun _=>hwz) (.int .i64 v)) (fun k hk=>by have:=H0.out.2.2.2;omega)) (aI (mod_far (H1.out.2.1.trans hm14 (fun _ _ h=>h)) ((Chalk.Mod.refl (fun k=>w.heap.size<=k) w4).setCell (p:=⟨w1.heap.size,1,none⟩) (fun _=>hwz) (.int .i64 v)) (Nat.le_refl _)) hO4))
     have HAL:Hid ((List.map Bnd.toD acc).length=j):=Lh (by rw [List.length_map];exact HL.out)
     clear hp4 hm4 HD hx4 hm14 hO4
     clear hwz
     have HDS:=Lh (bnd_ds (w4.setCell ⟨w1.heap.size,1,none⟩ (.int .i64 v)) (fun _=>False) ⟨s,v⟩ HSL.out.1 HSL.out.2)
     by_cases hj5:j=5
     ·subst hj5
      have HRF:Hid (R=.ok (acc++[⟨s,v⟩]) l1.tail.tail):=Lh (by rw [HR2.out];exact if_pos (.inl rfl))
      go_wp2_with (at_builtin;go_must (refine wpList_append_F (W0:=w4.setCell ⟨w1.heap.size,1,none⟩ (.int .i64 v)) (B:=w4.heap.size) (by simp) rfl _ _ 25 rfl 74 i0 _ 2 24 Tryz.underlying25 hi hz0 hz1 hz2 rfl (by decide) (.slice a 5 cap) (acc.map Bnd.toD) 5 HAL.out (Bnd.toD ⟨s,v⟩) [.string ⟨s.toArray⟩,.int .i64 v] _ rfl rfl H4.out.2.2 HDS.out rfl (by simp;have:=HZ1.out;omega) (by unfold maxLen;omega) (by omega) ?_);intro ao cap5 w5 hO5 hm5;have H5:=Lh (aI hO5 hm5);clear hO5 hm5)
      go_ret
      have hmf:=mod_far H4.out.2.1 H5.out.2 (Nat.le_refl _)
      have hpf:=H4.out.1.far H5.out.2 (fun k hk=>by have:=H0.out.2.2.2;omega)
      have hof:OwnF w5 74 2 w.heap.size (.slice ao (5+1) cap5) ((acc++[(⟨s,v⟩:Bnd)]).map Bnd.toD):=by have:=H5.out.1;rw [List.map_append];exact this
      exact PBinds.ok HRF.out hmf hof hpf
     ·have e6:((j:Int)+1==6)=false:=by simp;omega
      cases hT:isT [44] l1.tail.tail with
      | false =>
       have HRF:Hid (R=.ok (acc++[⟨s,v⟩]) l1.tail.tail):=Lh (by rw [HR2.out];exact if_pos (.inr hT))
       have HTK:=Lh (fun (W:World) (hp:PAt W P l1.tail.tail)=>ptook_no P [44] l1.tail.tail W hp hT)
       clear hT hj5
       go_wp2_with (at_builtin;go_must (refine wpList_append_F (W0:=w4.setCell ⟨w1.heap.size,1,none⟩ (.int .i64 v)) (B:=w4.heap.size) (by simp) rfl _ _ 25 rfl 74 i0 _ 2 24 Tryz.underlying25 hi hz0 hz1 hz2 rfl (by decide) (.slice a j cap) (acc.map Bnd.toD) j HAL.out (Bnd.toD ⟨s,v⟩) [.string ⟨s.toArray⟩,.int .i64 v] _ rfl rfl H4.out.2.2 HDS.out rfl (by simp;have:=HZ1.out;omega) (by unfold maxLen;omega) (by omega) ?_);intro ao cap5 w5 hO5 hm5;have H5:=Lh (aI hO5 hm5);clear hO5 hm5)
       have hmf:=mod_far H4.out.2.1 H5.out.2 (Nat.le_refl _)
       have hpf:=H4.out.1.far H5.out.2 (fun k hk=>by have:=H0.out.2.2.2;omega)
       have hof:OwnF w5 74 2 w.heap.size (.slice ao (j+1) cap5) ((acc++[(⟨s,v⟩:Bnd)]).map Bnd.toD):=by have:=H5.out.1;rw [List.map_append];exact this
       have HFF:=Lh (aI hmf (aI hpf hof))
       clear hmf hpf hof
       refine (HTK.out w5 HFF.out.2.1).mono ?_
       rintro e w6 ⟨rfl,hb6⟩
       have HB6:=Lh hb6
       clear hb6
       go_wp2_with fail
       go_ret
       exact PBinds.ok HRF.out (HFF.out.1.trans (Chalk.Mod.of_below (S:=fun k=>k=P) HB6.out) (fun _ _ h=>h)) (HFF.out.2.2.below HB6.out) (HFF.out.2.1.below HB6.out)
      | true =>
       have HRF:Hid (R=(pBinds (6 - (j+1)) l1.tail.tail.tail).bind fun r l=>.ok ((acc++[⟨s,v⟩])++r) l):=Lh (by rw [HR2.out,if_neg (by rintro (h | h);omega;rw [hT] at h;cases h),show 6 - (j+1)=5 - j from by omega])
       have HTK:=Lh (fun (W:World) (hp:PAt W P l1.tail.tail)=>ptook_yes P [44] l1.tail.tail W hp hT)
       clear hT
       go_wp2_with (at_builtin;go_must (refine wpList_append_F (W0:=w4.setCell ⟨w1.heap.size,1,none⟩ (.int .i64 v)) (B:=w4.heap.size) (by simp) rfl _ _ 25 rfl 74 i0 _ 2 24 Tryz.underlying25 hi hz0 hz1 hz2 rfl (by decide) (.slice a j cap) (acc.map Bnd.toD) j HAL.out (Bnd.toD ⟨s,v⟩) [.string ⟨s.toArray⟩,.int .i64 v] _ rfl rfl H4.out.2.2 HDS.out rfl (by simp;have:=HZ1.out;omega) (by unfold maxLen;omega) (by omega) ?_);intro ao cap5 w5 hO5 hm5;have H5:=Lh (aI hO5 hm5);clear hO5 hm5)
       have hmf:=mod_far H4.out.2.1 H5.out.2 (Nat.le_refl _)
       have hpf:=H4.out.1.far H5.out.2 (fun k hk=>by have:=H0.out.2.2.2;omega)
       have hof:OwnF w5 74 2 w.heap.size (.slice ao (j+1) cap5) ((acc++[(⟨s,v⟩:Bnd)]).map Bnd.toD):=by have:=H5.out.1;rw [List.map_append];exact this
       have HFF:=Lh (aI hmf (aI hpf hof))
       clear hmf hpf hof
       refine (HTK.out w5 HFF.out.2.1).mono ?_
       rintro e w6 ⟨rfl,hp6,hm6⟩
       have H6:=Lh (aI hp6 hm6)
       clear hp6 hm6
       go_wp2_with fail
       exact ⟨⟨j+1,acc++[⟨s,v⟩],ao,cap5,_,by omega,rfl,Lh (by rw [List.length_append,HL.out];rfl),Lh (HFF.out.2.2.kept H0.out.2.2.2 H6.out.2),Lh H6.out.1,Lh (HFF.out.1.trans H6.out.2 (fun _ _ h=>h)),HRF⟩,by simp [sliceN];omega⟩
end Go.Proofs.YtpmalchlecnjbaaGreatDoor
/- The parser of layer syntax: results that lie in cells; term. (written by tools/gen_ppd.py) -/
namespace Go.Chalk
open Go.RowKit
def st3 (W:World) (H:Nat) (c0 c1 c2:Value):World:=((W.setCell ⟨H,0,none⟩ c0).setCell ⟨H,1,none⟩ c1).setCell ⟨H,2,none⟩ c2
theorem st3_mod (W:World) (H:Nat) (c0 c1 c2:Value):Mod (fun k=>k=H) W (st3 W H c0 c1 c2):=((((Mod.refl (fun k=>k=H) W).setCell (p:=⟨H,0,none⟩) (fun _=>rfl) c0).setCell (p:=⟨H,1,none⟩) (fun _=>rfl) c1).setCell (p:=⟨H,2,none⟩) (fun _=>rfl) c2)
def st6 (W:World) (H:Nat) (c0 c1 c2 c3 c4 c5:Value):World:=(((((W.setCell ⟨H,0,none⟩ c0).setCell ⟨H,1,none⟩ c1).setCell ⟨H,2,none⟩ c2).setCell ⟨H,3,none⟩ c3).setCell ⟨H,4,none⟩ c4).setCell ⟨H,5,none⟩ c5
theorem st6_mod (W:World) (H:Nat) (c0 c1 c2 c3 c4 c5:Value):Mod (fun k=>k=H) W (st6 W H c0 c1 c2 c3 c4 c5):=(((((((Mod.refl (fun k=>k=H) W).setCell (p:=⟨H,0,none⟩) (fun _=>rfl) c0).setCell (p:=⟨H,1,none⟩) (fun _=>rfl) c1).setCell (p:=⟨H,2,none⟩) (fun _=>rfl) c2).setCell (p:=⟨H,3,none⟩) (fun _=>rfl) c3).setCell (p:=⟨H,4,none⟩) (fun _=>rfl) c4).setCell (p:=⟨H,5,none⟩) (fun _=>rfl) c5)
theorem st6_size (W:World) (H:Nat) (c0 c1 c2 c3 c4 c5:Value):(st6 W H c0 c1 c2 c3 c4 c5).heap.size=W.heap.size:=by simp [st6]
theorem st6_heap {W:World} {H:Nat} {c0 c1 c2 c3 c4 c5 z0 z1 z2 z3 z4 z5:Value} {T:TypeId} {fz:Nat×Nat} (h:W.heap[H]?=some (.cells #[z0,z1,z2,z3,z4,z5] T fz)):(st6 W H c0 c1 c2 c3 c4 c5).heap[H]?=some (.cells #[c0,c1,c2,c3,c4,c5] T fz):=by
 unfold st6
 have h0:=box_store (i:=0) c0 h
 simp only [ub1,ub2,ub3] at h0
 have h1:=box_store (i:=1) c1 h0
 simp only [ub1,ub2,ub3] at h1
 have h2:=box_store (i:=2) c2 h1
 simp only [ub1,ub2,ub3] at h2
 have h3:=box_store (i:=3) c3 h2
 simp only [ub1,ub2,ub3] at h3
 have h4:=box_store (i:=4) c4 h3
 simp only [ub1,ub2,ub3] at h4
 have h5:=box_store (i:=5) c5 h4
 simp only [ub1,ub2,ub3] at h5
 exact h5
def st10 (W:World) (H:Nat) (c0 c1 c2 c3 c4 c5 c6 c7 c8 c9:Value):World:=(((((((((W.setCell ⟨H,0,none⟩ c0).setCell ⟨H,1,none⟩ c1).setCell ⟨H,2,none⟩ c2).setCell ⟨H,3,none⟩ c3).setCell ⟨H,4,none⟩ c4).setCell ⟨H,5,none⟩ c5).setCell ⟨H,6,none⟩ c6).setCell ⟨H,7,none⟩ c7).setCell ⟨H,8,none⟩ c8).setCell ⟨H,9,none⟩ c9
theorem st10_mod (W:World) (H:Nat) (c0 c1 c2 c3 c4 c5 c6 c7 c8 c9:Value):Mod (fun k=>k=H) W (st10 W H c0 c1 c2 c3 c4 c5 c6 c7 c8 c9):=(((((((((((Mod.refl (fun k=>k=H) W).setCell (p:=⟨H,0,none⟩) (fun _=>rfl) c0).setCell (p:=⟨H,1,none⟩) (fun _=>rfl) c1).setCell (p:=⟨H,2,none⟩) (fun _=>rfl) c2).setCell (p:=⟨H,3,none⟩) (fun _=>rfl) c3).setCell (p:=⟨H,4,none⟩) (fun _=>rfl) c4).setCell (p:=⟨H,5,none⟩) (fun _=>rfl) c5).setCell (p:=⟨H,6,none⟩) (fun _=>rfl) c6).setCell (p:=⟨H,7,none⟩) (fun _=>rfl) c7).setCell (p:=⟨H,8,none⟩) (fun _=>rfl) c8).setCell (p:=⟨H,9,none⟩) (fun _=>rfl) c9)
theorem FrmIn.cells_at {w:World} {F:Nat->Prop} {f:Frm} {y:FrmA} (h:FrmIn w F f y):DAt w F f.toD (y.cells f):=FrmIn.iff.2 ⟨y,rfl,h⟩
theorem DsAt.two_of {w:World} {F:Nat->Prop} {x y:D} {cs ds:List Value} (h:DAt w F x cs) (k:DAt w F y ds):DsAt w F [x,y] (cs++ds):=by
 rw [DsAt];exact ⟨cs,ds,rfl,h,by rw [DsAt];exact ⟨ds,[],by simp,k,by rw [DsAt]⟩⟩
theorem DsAt.one_of' {w:World} {F:Nat->Prop} {x:D} {cs:List Value} (h:DAt w F x cs):DsAt w F [x] cs:=by rw [DsAt];exact ⟨cs,[],(List.append_nil _).symm,h,by rw [DsAt]⟩
def Fr (lo:Nat) (w:World) (k:Nat):Prop:=lo<=k/\k<w.heap.size
theorem FrmIn.modB {lo:Nat} {w w':World} {f:Frm} {x:FrmA} {S:Nat->Prop} (h:FrmIn w (Fr lo w) f x) (hm:Mod S w w') (hS:∀ k,S k->k<lo):FrmIn w' (Fr lo w') f x :=
 (h.agree (hm.agree (fun k hk=>⟨hk.2,fun hs=>by have:=hS k hs;have:=hk.1;omega⟩))).mono (fun k hk=>⟨hk.1,Nat.lt_of_lt_of_le hk.2 hm.size⟩)
theorem SlIn.modB {lo:Nat} {w w':World} {l:List D} {x:SlA} {S:Nat->Prop} (h:SlIn w (Fr lo w) l x) (hm:Mod S w w') (hS:∀ k,S k->k<lo):SlIn w' (Fr lo w') l x :=
 (h.agree (hm.agree (fun k hk=>⟨hk.2,fun hs=>by have:=hS k hs;have:=hk.1;omega⟩))).mono (fun k hk=>⟨hk.1,Nat.lt_of_lt_of_le hk.2 hm.size⟩)
theorem FrmIn.lower {lo lo':Nat} {w:World} {f:Frm} {x:FrmA} (h:FrmIn w (Fr lo w) f x) (hl:lo'<=lo):FrmIn w (Fr lo' w) f x:=h.mono (fun k hk=>⟨by have:=hk.1;omega,hk.2⟩)
structure TrmOk (t:Trm):Prop where
 name:t.name.length<=281474976710656
 k0:0<=t.kind
 k1:t.kind<=20
 n0:0<=t.n
 n1:t.n<=1099511627776
theorem trm_dat (w:World) (F:Nat->Prop) (t:Trm) (h:TrmOk t):DAt w F (Trm.toD t) [.int .i64 t.kind,.string ⟨t.name.toArray⟩,.int .i64 t.n]:=by
 refine (DAt.flat (Trm.toD t) _ rfl).2 ⟨rfl,?_⟩
 simp only [Trm.toD,D.fine,fines,and_true]
 have:=h.name;have:=h.k0;have:=h.k1;have:=h.n0;have:=h.n1
 exact ⟨WalkArith.wf_i64 ⟨by omega,by omega⟩,by rw [bs_size];unfold maxLen;omega,WalkArith.wf_i64 ⟨by omega,by omega⟩⟩
end Go.Chalk
namespace Go.Proofs.YtpmalchlecnjbaaGreatDoor
open Go.RowKit Go.Chalk
attribute [local go_sem] Oper.semAt_some
def PTerm (w:World) (P:Nat) (R:Rs Trm) (e:Ending) (w':World):Prop :=
 Chalk.Mod (fun k=>k=P) w w'/\match R with
  | .ok t r=>e=.returned (.agg #[.int .i64 t.kind,.string ⟨t.name.toArray⟩,.int .i64 t.n])/\TrmOk t/\PAt w' P r
  | .bad n=>e=.panicked (wrongP n)
theorem PTerm.bad {w w':World} {P n:Nat} {R:Rs Trm} (hR:R=.bad n) (hm:Chalk.Mod (fun k=>k=P) w w'):PTerm w P R (.panicked (wrongP n)) w':=by subst hR;exact ⟨hm,rfl⟩
theorem PTerm.ok {w w':World} {P:Nat} {R:Rs Trm} {t:Trm} {r:List Tok} (hR:R=.ok t r) (hm:Chalk.Mod (fun k=>k=P) w w') (ht:TrmOk t) (hp:PAt w' P r):PTerm w P R (.returned (.agg #[.int .i64 t.kind,.string ⟨t.name.toArray⟩,.int .i64 t.n])) w':=by subst hR;exact ⟨hm,rfl,ht,hp⟩
theorem PAt.one {w w':World} {P rb:Nat} {l:List Tok} (h:PAt w P l) (hm:Chalk.Mod (fun k=>k=rb) w w') (hr:P<rb):PAt w' P l:=h.far hm (fun k hk=>by omega)
theorem mod_one {w w1 w':World} {P rb:Nat} (h:Chalk.Mod (fun k=>k=P) w w1) (hm:Chalk.Mod (fun k=>k=rb) w1 w') (hr:w.heap.size<=rb):Chalk.Mod (fun k=>k=P) w w':=h.trans hm (fun i hi hl=>by omega)
theorem pterm_any (P:Nat) (l:List Tok) (w0 w:World) (h:PAt w P l) (hg:GB w0 w) (hP:w0.heap.size<=P):Calls Tryz.prog 189 #[.pointer (some ⟨P,0,none⟩)] w (PTerm w P (pTerm l)):=by
 obtain ⟨R,hR⟩:∃ R,R=pTerm l:=⟨_,rfl⟩
 rw [<- hR]
 obtain ⟨W0,hW0⟩:∃ W0,W0=w.alloc (.cells #[.int .i64 0,.string ⟨#[]⟩,.int .i64 0] 61):=⟨_,rfl⟩
 have hb0:Below w.heap.size w W0:=by rw [hW0];exact below_new _ _
 have hbx:W0.heap[w.heap.size]?=some (.cells #[.int .i64 0,.string ⟨#[]⟩,.int .i64 0] 61 (0,0)):=by rw [hW0];exact heap_alloc_new _ _
 have hPl:=h.lt
 have HZ:=Lh (fun (W':World) (hW:Chalk.Mod (fun k=>k=P) W0 W')=>(heap_kept hbx hW (by omega):W'.heap[w.heap.size]?=some (.cells #[.int .i64 0,.string ⟨#[]⟩,.int .i64 0] 61 (0,0))))
 have HE:=Lh (fun (W':World) (hW:Chalk.Mod (fun k=>k=P) W0 W')=>(show W'.cell? ⟨w.heap.size,0,none⟩=some (.int .i64 0)/\W'.cell? ⟨w.heap.size,1,none⟩=some (.string ⟨#[]⟩)/\W'.cell? ⟨w.heap.size,2,none⟩=some (.int .i64 0)/\W'.frozen? ⟨w.heap.size,0,none⟩=false/\W'.frozen? ⟨w.heap.size,1,none⟩=false/\W'.frozen? ⟨w.heap.size,2,none⟩=false/\w.heap.size<W'.heap.size from by
  have e0:=HZ.out W' hW
  exact ⟨cH e0 rfl,cH e0 rfl,cH e0 rfl,fH e0,fH e0,fH e0,(gS e0).1⟩))
 have hs0:W0.heap.size=w.heap.size+1:=by rw [hW0];simp
 have H0:=Lh (aI (h.below hb0) (aI (Chalk.Mod.refl (fun k=>k=P) W0) (aI (hg.below hb0) (aI hPl (aI (Chalk.Mod.of_below (S:=fun k=>k=P) hb0) (aI hs0 hP))))))
 have HW0:=Lh hW0
 obtain ⟨t0,r0,rfl⟩:=h.1.cons
 have hts:=h.2.1
 have HNX:=Lh (fun (W:World) (hp:PAt W P (t0 :: r0))=>pnext_any P t0 r0 W hp)
 have hf0:=tokField0
 unfold pTerm at hR
 simp only at hR
 have HGB:=Lh (fun (W:World) (hm:Chalk.Mod (fun k=>k=P) W0 W)=>(hg.below hb0).mod hP hm)
 have HFIN:=Lh (fun (W:World) (c0 c1 c2:Value) (r:List Tok) (hp:PAt W P r) (hm:Chalk.Mod (fun k=>k=P) W0 W)=>(show Chalk.Mod (fun k=>k=P) w (st3 W w.heap.size c0 c1 c2)/\PAt (st3 W w.heap.size c0 c1 c2) P r from
  ⟨mod_one ((Chalk.Mod.of_below (S:=fun k=>k=P) hb0).trans hm (fun _ _ h=>h)) (st3_mod W w.heap.size c0 c1 c2) (Nat.le_refl _),hp.one (st3_mod W w.heap.size c0 c1 c2) hPl⟩))
 have HBAD:=Lh (fun (W:World) (hm:Chalk.Mod (fun k=>k=P) W0 W)=>(Chalk.Mod.of_below (S:=fun k=>k=P) hb0).trans hm (fun _ _ h=>h))
 clear h hg hP hb0 hbx hs0 hW0
 by_cases hk:t0.kind=2
 ·rw [if_pos hk] at hR
  have e2:(t0.kind==2)=true:=by simpa using hk
  cases hN:pNumber 0 1099511627776 (t0 :: r0) with
  | bad n =>
   have HB:=Lh (show R=.bad n by rw [hR,hN];rfl)
   have HC:=Lh (fun (W:World) (hp:PAt W P (t0 :: r0)) (hg:GS W)=>pnumber_bad P (t0 :: r0) 0 1099511627776 n W hp hg hN)
   clear hR hN hk
   go_enter Tryz.func189,Tryz.ntmps189
   go_wp2_with fail
   rw [<- HW0.out]
   refine (HNX.out _ H0.out.1).mono ?_
   rintro e w1 ⟨rfl,hb⟩
   have H1:=Lh (aI (H0.out.1.below hb) (Chalk.Mod.of_below (S:=fun k=>k=P) hb))
   clear hb
   go_wp2_with fail
   refine (HC.out w1 H1.out.1 (HGB.out w1 H1.out.2).gs).mono ?_
   rintro e w2 ⟨rfl,hm⟩
   exact ⟨rfl,PTerm.bad HB.out (HBAD.out w2 (H1.out.2.trans hm (fun _ _ h=>h)))⟩
  | ok n r =>
   have HB:=Lh (show R=.ok ⟨1,[],n⟩ r by rw [hR,hN];rfl)
   have HNN:Hid (0<=n/\n<=1099511627776):=Lh (by
    rw [pNumber] at hN
    split at hN
    ·rename_i hc;cases hN;exact hc.2
    ·cases hN)
   have HC:=Lh (fun (W:World) (hp:PAt W P (t0 :: r0)) (hg:GS W)=>pnumber_ok P (t0 :: r0) r 0 1099511627776 n W (by decide) hp hg hN)
   clear hR hN hk
   go_enter Tryz.func189,Tryz.ntmps189
   go_wp2_with fail
   rw [<- HW0.out]
   refine (HNX.out _ H0.out.1).mono ?_
   rintro e w1 ⟨rfl,hb⟩
   have H1:=Lh (aI (H0.out.1.below hb) (Chalk.Mod.of_below (S:=fun k=>k=P) hb))
   clear hb
   go_wp2_with fail
   refine (HC.out w1 H1.out.1 (HGB.out w1 H1.out.2).gs).mono ?_
   rintro e w2 ⟨rfl,hp,hm⟩
   have H2:=Lh (aI hp (H1.out.2.trans hm (fun _ _ h=>h)))
   clear hp hm
   obtain ⟨x0,x1,x2,fz0,fz1,fz2,hrl⟩:=HE.out w2 H2.out.2
   go_wp2_with fail
   refine bodyPost_ret (v:=.agg #[.int .i64 1,.string ⟨#[]⟩,.int .i64 n]) (by simp [results,Tryz.results189,go_sem, *]) rfl ?_
   obtain ⟨f1,f2⟩:=HFIN.out w2 (.int .i64 1) (.string ⟨#[]⟩) (.int .i64 n) r H2.out.1 H2.out.2
   exact PTerm.ok (t:=⟨1,[],n⟩) HB.out f1 ⟨Nat.zero_le _,by simp,by simp,HNN.out.1,HNN.out.2⟩ f2
 ·rw [if_neg hk] at hR
  have e2:(t0.kind==2)=false:=by simpa using hk
  cases hK:kwT kwTerm (t0 :: r0) with
  | none =>
   rw [hK] at hR
   simp only at hR
   have HO:=Lh (fun (bm:Nat) (W:World) (hp:PAt W P (t0 :: r0)) (hm:KwAt W bm kwTerm)=>pone_no P bm kwTerm (t0 :: r0) W hp hm hK)
   have PRE:Hid True:=Lh trivial
   cases hN:pName (t0 :: r0) with
   | bad n =>
    have HB:=Lh (show R=.bad n by rw [hR,hN];rfl)
    have HC:=Lh (fun (W:World) (hp:PAt W P (t0 :: r0)) (hg:GAt W)=>pname_bad P (t0 :: r0) n W hp hg hN)
    clear hR hN hk hK
    go_enter Tryz.func189,Tryz.ntmps189
    go_wp2_with fail
    rw [<- HW0.out]
    refine (HNX.out _ H0.out.1).mono ?_
    rintro e w1 ⟨rfl,hb⟩
    have H1:=Lh (aI (H0.out.1.below hb) (Chalk.Mod.of_below (S:=fun k=>k=P) hb))
    clear hb
    go_wp2_with fail
    refine (terms_any w1).mono ?_
    rintro e w2 ⟨rfl,rfl⟩
    have hb2:Below w1.heap.size w1 (w1.alloc (.map (kwEs 0 kwTerm).toArray 5)):=below_new _ _
    have hk2:KwAt (w1.alloc (.map (kwEs 0 kwTerm).toArray 5)) w1.heap.size kwTerm:=heap_alloc_new _ _
    generalize w1.alloc (.map (kwEs 0 kwTerm).toArray 5)=w2 at hb2 hk2 ⊢
    have H2:=Lh (aI (H1.out.1.below hb2) (aI (H1.out.2.trans (Chalk.Mod.of_below (S:=fun k=>k=P) hb2) (fun _ _ h=>h)) hk2))
    clear hb2 hk2
    go_wp2_with fail
    refine (HO.out _ w2 H2.out.1 H2.out.2.2).mono ?_
    rintro e w3 ⟨rfl,hb⟩
    have H3:=Lh (aI (H2.out.1.below hb) (H2.out.2.1.trans (Chalk.Mod.of_below (S:=fun k=>k=P) hb) (fun _ _ h=>h)))
    clear hb
    go_wp2_with fail
    refine (HC.out w3 H3.out.1 (HGB.out w3 H3.out.2).gs.gat).mono ?_
    rintro e w4 ⟨rfl,hm⟩
    exact ⟨rfl,PTerm.bad HB.out (HBAD.out w4 (H3.out.2.trans hm (fun _ _ h=>h)))⟩
   | ok s r =>
    have HB:=Lh (show R=.ok ⟨2,s,0⟩ r by rw [hR,hN];rfl)
    have HSL:=Lh (pName_len hN hts)
    have HC:=Lh (fun (W:World) (hp:PAt W P (t0 :: r0)) (hg:GAt W)=>pname_ok P (t0 :: r0) r s W hp hg hN)
    clear hR hN hk hK hts
    go_enter Tryz.func189,Tryz.ntmps189
    go_wp2_with fail
    rw [<- HW0.out]
    refine (HNX.out _ H0.out.1).mono ?_
    rintro e w1 ⟨rfl,hb⟩
    have H1:=Lh (aI (H0.out.1.below hb) (Chalk.Mod.of_below (S:=fun k=>k=P) hb))
    clear hb
    go_wp2_with fail
    refine (terms_any w1).mono ?_
    rintro e w2 ⟨rfl,rfl⟩
    have hb2:Below w1.heap.size w1 (w1.alloc (.map (kwEs 0 kwTerm).toArray 5)):=below_new _ _
    have hk2:KwAt (w1.alloc (.map (kwEs 0 kwTerm).toArray 5)) w1.heap.size kwTerm:=heap_alloc_new _ _
    generalize w1.alloc (.map (kwEs 0 kwTerm).toArray 5)=w2 at hb2 hk2 ⊢
    have H2:=Lh (aI (H1.out.1.below hb2) (aI (H1.out.2.trans (Chalk.Mod.of_below (S:=fun k=>k=P) hb2) (fun _ _ h=>h)) hk2))
    clear hb2 hk2
    go_wp2_with fail
    refine (HO.out _ w2 H2.out.1 H2.out.2.2).mono ?_
    rintro e w3 ⟨rfl,hb⟩
    have H3:=Lh (aI (H2.out.1.below hb) (H2.out.2.1.trans (Chalk.Mod.of_below (S:=fun k=>k=P) hb) (fun _ _ h=>h)))
    clear hb
    go_wp2_with fail
    refine (HC.out w3 H3.out.1 (HGB.out w3 H3.out.2).gs.gat).mono ?_
    rintro e w4 ⟨rfl,hp,hm⟩
    have H4:=Lh (aI hp (H3.out.2.trans hm (fun _ _ h=>h)))
    clear hp hm
    obtain ⟨x0,x1,x2,fz0,fz1,fz2,hrl⟩:=HE.out w4 H4.out.2
    go_wp2_with fail
    refine bodyPost_ret (v:=.agg #[.int .i64 2,.string ⟨s.toArray⟩,.int .i64 0]) (by simp [results,Tryz.results189,go_sem, *]) rfl ?_
    obtain ⟨f1,f2⟩:=HFIN.out w4 (.int .i64 2) (.string ⟨s.toArray⟩) (.int .i64 0) r H4.out.1 H4.out.2
    exact PTerm.ok (t:=⟨2,s,0⟩) HB.out f1 ⟨HSL.out,by simp,by simp,by simp,by simp⟩ f2
  | some k =>
   rw [hK] at hR
   simp only [List.tail_cons] at hR
   have HKR:=Lh (kwT_range (by decide) hK)
   have HO:=Lh (fun (bm:Nat) (W:World) (hp:PAt W P (t0 :: r0)) (hm:KwAt W bm kwTerm)=>pone_yes P bm kwTerm (t0 :: r0) k W hp hm hK)
   cases hA:isT [40] r0 with
   | false =>
    have HB:=Lh (show R=.bad (atT r0) by rw [hR];simp only [Rs.bind,pWant,hA,Bool.false_eq_true,if_false])
    have HC:=Lh (fun (W:World) (hp:PAt W P r0)=>pwant_no P [40] r0 W hp hA)
    clear hR hk hK hA
    go_enter Tryz.func189,Tryz.ntmps189
    go_wp2_with fail
    rw [<- HW0.out]
    refine (HNX.out _ H0.out.1).mono ?_
    rintro e w1 ⟨rfl,hb⟩
    have H1:=Lh (aI (H0.out.1.below hb) (Chalk.Mod.of_below (S:=fun k=>k=P) hb))
    clear hb
    go_wp2_with fail
    refine (terms_any w1).mono ?_
    rintro e w2 ⟨rfl,rfl⟩
    have hb2:Below w1.heap.size w1 (w1.alloc (.map (kwEs 0 kwTerm).toArray 5)):=below_new _ _
    have hk2:KwAt (w1.alloc (.map (kwEs 0 kwTerm).toArray 5)) w1.heap.size kwTerm:=heap_alloc_new _ _
    generalize w1.alloc (.map (kwEs 0 kwTerm).toArray 5)=w2 at hb2 hk2 ⊢
    have H2:=Lh (aI (H1.out.1.below hb2) (aI (H1.out.2.trans (Chalk.Mod.of_below (S:=fun k=>k=P) hb2) (fun _ _ h=>h)) hk2))
    clear hb2 hk2
    go_wp2_with fail
    refine (HO.out _ w2 H2.out.1 H2.out.2.2).mono ?_
    rintro e w3 ⟨rfl,hp,hm⟩
    rw [List.tail_cons] at hp
    have H3:=Lh (aI hp (H2.out.2.1.trans hm (fun _ _ h=>h)))
    clear hp hm
    go_wp2_with fail
    refine (HC.out w3 H3.out.1).mono ?_
    rintro e w4 ⟨rfl,hm⟩
    exact ⟨rfl,PTerm.bad HB.out (HBAD.out w4 (H3.out.2.trans hm (fun _ _ h=>h)))⟩
   | true =>
    have HC:=Lh (fun (W:World) (hp:PAt W P r0)=>pwant_yes P [40] r0 W hp hA)
    have hts1:∀ t∈r0.tail,TokOk t:=fun t ht=>hts t (List.mem_cons_of_mem _ (List.mem_of_mem_tail ht))
    cases hN:pName r0.tail with
    | bad n =>
     have HB:=Lh (show R=.bad n by rw [hR];simp only [Rs.bind,pWant,hA,if_true,hN])
     have HD:=Lh (fun (W:World) (hp:PAt W P r0.tail) (hg:GAt W)=>pname_bad P r0.tail n W hp hg hN)
     clear hR hk hK hA hN
     go_enter Tryz.func189,Tryz.ntmps189
     go_wp2_with fail
     rw [<- HW0.out]
     refine (HNX.out _ H0.out.1).mono ?_
     rintro e w1 ⟨rfl,hb⟩
     have H1:=Lh (aI (H0.out.1.below hb) (Chalk.Mod.of_below (S:=fun k=>k=P) hb))
     clear hb
     go_wp2_with fail
     refine (terms_any w1).mono ?_
     rintro e w2 ⟨rfl,rfl⟩
     have hb2:Below w1.heap.size w1 (w1.alloc (.map (kwEs 0 kwTerm).toArray 5)):=below_new _ _
     have hk2:KwAt (w1.alloc (.map (kwEs 0 kwTerm).toArray 5)) w1.heap.size kwTerm:=heap_alloc_new _ _
     generalize w1.alloc (.map (kwEs 0 kwTerm).toArray 5)=w2 at hb2 hk2 ⊢
     have H2:=Lh (aI (H1.out.1.below hb2) (aI (H1.out.2.trans (Chalk.Mod.of_below (S:=fun k=>k=P) hb2) (fun _ _ h=>h)) hk2))
     clear hb2 hk2
     go_wp2_with fail
     refine (HO.out _ w2 H2.out.1 H2.out.2.2).mono ?_
     rintro e w3 ⟨rfl,hp,hm⟩
     rw [List.tail_cons] at hp
     have H3:=Lh (aI hp (H2.out.2.1.trans hm (fun _ _ h=>h)))
     clear hp hm
     go_wp2_with fail
     refine (HC.out w3 H3.out.1).mono ?_
     rintro e w4 ⟨rfl,hp,hm⟩
     have H4:=Lh (aI hp (H3.out.2.trans hm (fun _ _ h=>h)))
     clear hp hm
     go_wp2_with fail
     refine (HD.out w4 H4.out.1 (HGB.out w4 H4.out.2).gs.gat).mono ?_
     rintro e w5 ⟨rfl,hm⟩
     exact ⟨rfl,PTerm.bad HB.out (HBAD.out w5 (H4.out.2.trans hm (fun _ _ h=>h)))⟩
    | ok s r =>
     have HSL:=Lh (pName_len hN hts1)
     have HD:=Lh (fun (W:World) (hp:PAt W P r0.tail) (hg:GAt W)=>pname_ok P r0.tail r s W hp hg hN)
     cases hA2:isT [41] r with
     | false =>
      have HB:=Lh (show R=.bad (atT r) by rw [hR];simp only [Rs.bind,pWant,hA,if_true,hN,hA2,Bool.false_eq_true,if_false])
      have HE2:=Lh (fun (W:World) (hp:PAt W P r)=>pwant_no P [41] r W hp hA2)
      clear hR hk hK hA hN hA2 hts hts1
      go_enter Tryz.func189,Tryz.ntmps189
      go_wp2_with fail
      rw [<- HW0.out]
      refine (HNX.out _ H0.out.1).mono ?_
      rintro e w1 ⟨rfl,hb⟩
      have H1:=Lh (aI (H0.out.1.below hb) (Chalk.Mod.of_below (S:=fun k=>k=P) hb))
      clear hb
      go_wp2_with fail
      refine (terms_any w1).mono ?_
      rintro e w2 ⟨rfl,rfl⟩
      have hb2:Below w1.heap.size w1 (w1.alloc (.map (kwEs 0 kwTerm).toArray 5)):=below_new _ _
      have hk2:KwAt (w1.alloc (.map (kwEs 0 kwTerm).toArray 5)) w1.heap.size kwTerm:=heap_alloc_new _ _
      generalize w1.alloc (.map (kwEs 0 kwTerm).toArray 5)=w2 at hb2 hk2 ⊢
      have H2:=Lh (aI (H1.out.1.below hb2) (aI (H1.out.2.trans (Chalk.Mod.of_below (S:=fun k=>k=P) hb2) (fun _ _ h=>h)) hk2))
      clear hb2 hk2
      go_wp2_with fail
      refine (HO.out _ w2 H2.out.1 H2.out.2.2).mono ?_
      rintro e w3 ⟨rfl,hp,hm⟩
      rw [List.tail_cons] at hp
      have H3:=Lh (aI hp (H2.out.2.1.trans hm (fun _ _ h=>h)))
      clear hp hm
      go_wp2_with fail
      refine (HC.out w3 H3.out.1).mono ?_
      rintro e w4 ⟨rfl,hp,hm⟩
      have H4:=Lh (aI hp (H3.out.2.trans hm (fun _ _ h=>h)))
      clear hp hm
      go_wp2_with fail
      refine (HD.out w4 H4.out.1 (HGB.out w4 H4.out.2).gs.gat).mono ?_
      rintro e w5 ⟨rfl,hp,hm⟩
      obtain ⟨w6,hw6⟩:∃ w6,w6=w5.alloc (.cells #[.int .i64 k,.string ⟨s.toArray⟩,.int .i64 0] 61):=⟨_,rfl⟩
      have hb6:Below w5.heap.size w5 w6:=by rw [hw6];exact below_new _ _
      have hx6:w6.heap[w5.heap.size]?=some (.cells #[.int .i64 k,.string ⟨s.toArray⟩,.int .i64 0] 61 (0,0)):=by rw [hw6];exact heap_alloc_new _ _
      have H6:=Lh (aI (hp.below hb6) (aI (H4.out.2.trans (hm.trans (Chalk.Mod.of_below (S:=fun k=>k=P) hb6) (fun _ _ h=>h)) (fun _ _ h=>h)) (aI hx6 hp.lt)))
      have HW6:=Lh hw6
      clear hp hm hb6 hx6 hw6
      go_wp2_with fail
      rw [<- HW6.out]
      refine (HE2.out w6 H6.out.1).mono ?_
      rintro e w7 ⟨rfl,hm⟩
      exact ⟨rfl,PTerm.bad HB.out (HBAD.out w7 (H6.out.2.1.trans hm (fun _ _ h=>h)))⟩
     | true =>
      have HB:=Lh (show R=.ok ⟨k,s,0⟩ r.tail by rw [hR];simp only [Rs.bind,pWant,hA,if_true,hN,hA2])
      have HE2:=Lh (fun (W:World) (hp:PAt W P r)=>pwant_yes P [41] r W hp hA2)
      clear hR hk hK hA hN hA2 hts hts1
      go_enter Tryz.func189,Tryz.ntmps189
      go_wp2_with fail
      rw [<- HW0.out]
      refine (HNX.out _ H0.out.1).mono ?_
      rintro e w1 ⟨rfl,hb⟩
      have H1:=Lh (aI (H0.out.1.below hb) (Chalk.Mod.of_below (S:=fun k=>k=P) hb))
      clear hb
      go_wp2_with fail
      refine (terms_any w1).mono ?_
      rintro e w2 ⟨rfl,rfl⟩
      have hb2:Below w1.heap.size w1 (w1.alloc (.map (kwEs 0 kwTerm).toArray 5)):=below_new _ _
      have hk2:KwAt (w1.alloc (.map (kwEs 0 kwTerm).toArray 5)) w1.heap.size kwTerm:=heap_alloc_new _ _
      generalize w1.alloc (.map (kwEs 0 kwTerm).toArray 5)=w2 at hb2 hk2 ⊢
      have H2:=Lh (aI (H1.out.1.below hb2) (aI (H1.out.2.trans (Chalk.Mod.of_below (S:=fun k=>k=P) hb2) (fun _ _ h=>h)) hk2))
      clear hb2 hk2
      go_wp2_with fail
      refine (HO.out _ w2 H2.out.1 H2.out.2.2).mono ?_
      rintro e w3 ⟨rfl,hp,hm⟩
      rw [List.tail_cons] at hp
      have H3:=Lh (aI hp (H2.out.2.1.trans hm (fun _ _ h=>h)))
      clear hp hm
      go_wp2_with fail
      refine (HC.out w3 H3.out.1).mono ?_
      rintro e w4 ⟨rfl,hp,hm⟩
      have H4:=Lh (aI hp (H3.out.2.trans hm (fun _ _ h=>h)))
      clear hp hm
      go_wp2_with fail
      refine (HD.out w4 H4.out.1 (HGB.out w4 H4.out.2).gs.gat).mono ?_
      rintro e w5 ⟨rfl,hp,hm⟩
      obtain ⟨w6,hw6⟩:∃ w6,w6=w5.alloc (.cells #[.int .i64 k,.string ⟨s.toArray⟩,.int .i64 0] 61):=⟨_,rfl⟩
      have hb6:Below w5.heap.size w5 w6:=by rw [hw6];exact below_new _ _
      have hx6:w6.heap[w5.heap.size]?=some (.cells #[.int .i64 k,.string ⟨s.toArray⟩,.int .i64 0] 61 (0,0)):=by rw [hw6];exact heap_alloc_new _ _
      have H6:=Lh (aI (hp.below hb6) (aI (H4.out.2.trans (hm.trans (Chalk.Mod.of_below (S:=fun k=>k=P) hb6) (fun _ _ h=>h)) (fun _ _ h=>h)) (aI hx6 hp.lt)))
      have HW6:=Lh hw6
      clear hp hm hb6 hx6 hw6
      go_wp2_with fail
      rw [<- HW6.out]
      refine (HE2.out w6 H6.out.1).mono ?_
      rintro e w7 ⟨rfl,hp,hm⟩
      have hx7:=heap_kept H6.out.2.2.1 hm (by have:=H6.out.2.2.2;omega)
      have y0:w7.cell? ⟨w5.heap.size,0,none⟩=some (.int .i64 k):=cH hx7 rfl
      have y1:w7.cell? ⟨w5.heap.size,1,none⟩=some (.string ⟨s.toArray⟩):=cH hx7 rfl
      have y2:w7.cell? ⟨w5.heap.size,2,none⟩=some (.int .i64 0):=cH hx7 rfl
      have H7:=Lh (aI hp (H6.out.2.1.trans hm (fun _ _ h=>h)))
      clear hp hm hx7
      obtain ⟨x0,x1,x2,fz0,fz1,fz2,hrl⟩:=HE.out w7 H7.out.2
      go_wp2_with fail
      refine bodyPost_ret (v:=.agg #[.int .i64 k,.string ⟨s.toArray⟩,.int .i64 0]) (by simp [results,Tryz.results189,go_sem, *]) rfl ?_
      obtain ⟨f1,f2⟩:=HFIN.out w7 (.int .i64 k) (.string ⟨s.toArray⟩) (.int .i64 0) r.tail H7.out.1 H7.out.2
      exact PTerm.ok (t:=⟨k,s,0⟩) HB.out f1 ⟨HSL.out,HKR.out.1,HKR.out.2,by simp,by simp⟩ f2
end Go.Proofs.YtpmalchlecnjbaaGreatDoor
/- The parser of layer syntax: formulas as results; left. (written by tools/gen_ppe.py) -/
namespace Go.Chalk
open Go.RowKit
theorem i64_of' {n:Int} (h:0<=n/\n<=1099511627776):I64 n:=by unfold I64;omega
def noS:SlA:=⟨none,0,0,0⟩
theorem node_two {W:World} {G:Nat->Prop} {k:Int} {f g:Frm} {x y:FrmA} {B:Nat} {T:TypeId} (hr:W.heap[B]?=some (.cells #[.int .i64 f.kind,.string ⟨f.name.toArray⟩,.int .i64 f.n,.slice x.t.a f.terms.length x.t.cap,.slice x.b.a f.binds.length x.b.cap,.slice x.l.a f.l.length x.l.cap,.int .i64 g.kind,.string ⟨g.name.toArray⟩,.int .i64 g.n,.slice y.t.a g.terms.length y.t.cap,.slice y.b.a g.binds.length y.b.cap,.slice y.l.a g.l.length y.l.cap] T (0,0))) (hB:G B) (hx:FrmIn W G f x) (hy:FrmIn W G g y) (hk:0<=k/\k<=1099511627776) :
  FrmIn W G (node2 k f g) ⟨noS,noS,⟨some ⟨B,0,none⟩,B,0,2⟩⟩ :=
 ⟨i64_of' hk,Nat.zero_le _,i64_of' (by simp [node2,Frm.n]),SlIn.nil (Nat.zero_le _) _ _ _,SlIn.nil (Nat.zero_le _) _ _ _,SlIn.lit (cs:=x.cells f++y.cells g) (cap:=2) (by simpa using hr) (DsAt.two_of hx.cells_at hy.cells_at) hB (by simp [node2,Frm.l]) (by decide)⟩
theorem node_one {W:World} {G:Nat->Prop} {k n:Int} {bs:List Bnd} {f:Frm} {x:FrmA} {z:SlA} {B:Nat} {T:TypeId} (hr:W.heap[B]?=some (.cells #[.int .i64 f.kind,.string ⟨f.name.toArray⟩,.int .i64 f.n,.slice x.t.a f.terms.length x.t.cap,.slice x.b.a f.binds.length x.b.cap,.slice x.l.a f.l.length x.l.cap] T (0,0))) (hB:G B) (hx:FrmIn W G f x) (hz:SlIn W G (bs.map Bnd.toD) z) (hk:0<=k/\k<=1099511627776) (hn:0<=n/\n<=1099511627776) :
  FrmIn W G (.mk k [] n [] bs [f]) ⟨noS,z,⟨some ⟨B,0,none⟩,B,0,1⟩⟩ :=
 ⟨i64_of' hk,Nat.zero_le _,i64_of' hn,SlIn.nil (Nat.zero_le _) _ _ _,hz,SlIn.lit (cs:=x.cells f) (cap:=1) (by simpa using hr) (DsAt.one_of' hx.cells_at) hB (by simp [Frm.l]) (by decide)⟩
theorem node_terms {W:World} {G:Nat->Prop} {k:Int} {s:Bs} {t u:Trm} {B:Nat} {T:TypeId} (hr:W.heap[B]?=some (.cells #[.int .i64 t.kind,.string ⟨t.name.toArray⟩,.int .i64 t.n,.int .i64 u.kind,.string ⟨u.name.toArray⟩,.int .i64 u.n] T (0,0))) (hB:G B) (ht:TrmOk t) (hu:TrmOk u) (hk:0<=k/\k<=1099511627776) (hs:s.length<=281474976710656) :
  FrmIn W G (.mk k s 0 [t,u] [] []) ⟨⟨some ⟨B,0,none⟩,B,0,2⟩,noS,noS⟩ :=
 ⟨i64_of' hk,by unfold maxLen;show s.length<=_;omega,i64_of' (by simp [Frm.n]),SlIn.lit (cs:=[.int .i64 t.kind,.string ⟨t.name.toArray⟩,.int .i64 t.n]++[.int .i64 u.kind,.string ⟨u.name.toArray⟩,.int .i64 u.n]) (cap:=2) (by simpa using hr) (DsAt.two_of (trm_dat W G t ht) (trm_dat W G u hu)) hB (by simp [Frm.terms]) (by decide),SlIn.nil (Nat.zero_le _) _ _ _,SlIn.nil (Nat.zero_le _) _ _ _⟩
theorem leaf_in' (W:World) (G:Nat->Prop) {k:Int} (hk:0<=k/\k<=1099511627776):FrmIn W G (.mk k [] 0 [] [] []) ⟨noS,noS,noS⟩ :=
 ⟨i64_of' hk,Nat.zero_le _,i64_of' (by simp [Frm.n]),SlIn.nil (Nat.zero_le _) _ _ _,SlIn.nil (Nat.zero_le _) _ _ _,SlIn.nil (Nat.zero_le _) _ _ _⟩
def parLen (w:World) (P:Nat):Nat:=match w.heap[P]? with | some (.cells cs _ _)=>sliceN (cs.getD 0 undef) | _=>0
end Go.Chalk
namespace Go.Proofs.YtpmalchlecnjbaaGreatDoor
open Go.RowKit Go.Chalk
attribute [local go_sem] Oper.semAt_some
theorem PAt.parLen {w:World} {P:Nat} {l:List Tok} (h:PAt w P l):parLen w P=l.length:=by
 obtain ⟨_,_,_,b,o,cap,h3,_⟩:=h
 unfold Go.Chalk.parLen
 rw [h3];rfl
def PFrm (w:World) (P:Nat) (R:Rs Frm) (e:Ending) (w':World):Prop :=
 Chalk.Mod (fun k=>k=P) w w'/\match R with
  | .ok f r=>(∃ x:FrmA,e=.returned (.agg #[.int .i64 f.kind,.string ⟨f.name.toArray⟩,.int .i64 f.n,.slice x.t.a f.terms.length x.t.cap,.slice x.b.a f.binds.length x.b.cap,.slice x.l.a f.l.length x.l.cap])/\FrmIn w' (Fr w.heap.size w') f x)/\PAt w' P r
  | .bad n=>e=.panicked (wrongP n)
theorem PFrm.bad {w w':World} {P n:Nat} {R:Rs Frm} (hR:R=.bad n) (hm:Chalk.Mod (fun k=>k=P) w w'):PFrm w P R (.panicked (wrongP n)) w':=by subst hR;exact ⟨hm,rfl⟩
theorem PFrm.ok {w w':World} {P:Nat} {R:Rs Frm} {f:Frm} {r:List Tok} (x:FrmA) (hR:R=.ok f r) (hm:Chalk.Mod (fun k=>k=P) w w') (hx:FrmIn w' (Fr w.heap.size w') f x) (hp:PAt w' P r):PFrm w P R (.returned (.agg #[.int .i64 f.kind,.string ⟨f.name.toArray⟩,.int .i64 f.n,.slice x.t.a f.terms.length x.t.cap,.slice x.b.a f.binds.length x.b.cap,.slice x.l.a f.l.length x.l.cap])) w':=by subst hR;exact ⟨hm,⟨x,rfl,hx⟩,hp⟩
theorem PFrm.gets {w w':World} {P:Nat} {R:Rs Frm} {f:Frm} {r:List Tok} {e:Ending} (h:PFrm w P R e w') (hR:R=.ok f r):∃ x:FrmA,e=.returned (.agg #[.int .i64 f.kind,.string ⟨f.name.toArray⟩,.int .i64 f.n,.slice x.t.a f.terms.length x.t.cap,.slice x.b.a f.binds.length x.b.cap,.slice x.l.a f.l.length x.l.cap])/\FrmIn w' (Fr w.heap.size w') f x/\PAt w' P r/\Chalk.Mod (fun k=>k=P) w w':=by
 subst hR
 obtain ⟨hm,⟨x,he,hx⟩,hp⟩:=h
 exact ⟨x,he,hx,hp,hm⟩
theorem PFrm.fails {w w':World} {P n:Nat} {R:Rs Frm} {e:Ending} (h:PFrm w P R e w') (hR:R=.bad n):e=.panicked (wrongP n)/\Chalk.Mod (fun k=>k=P) w w':=by
 subst hR
 exact ⟨h.2,h.1⟩
def FOk (w0:World) (P:Nat) (F:FuncId) (Rf:List Tok->Rs Frm) (l:List Tok):Prop:=∀ w,PAt w P l->GB w0 w->Calls Tryz.prog F #[.pointer (some ⟨P,0,none⟩)] w (PFrm w P (Rf l))
theorem pleft_any (w0:World) (P:Nat) (hP:w0.heap.size<=P) (F:FuncId) (hFe:∀ args w,(callFunc F args).run Tryz.prog w=.ok (.enter F args) w) (sign:Bs) (kind:Int) (hkd:0<=kind/\kind<=1099511627776) (Pt:List Tok->Rs Frm) (Ls:Frm->List Tok->Rs Frm)
  (hLs:∀ f l,Ls f l=if isT sign l then (Pt l.tail).bind (fun g l=>Ls (node2 kind f g) l) else .ok f l) (heat:∀ l a r,Pt l=.ok a r->r.length<=l.length) (n:Nat) (hF:∀ l',l'.length<=n->FOk w0 P F Pt l') (l:List Tok) (hn:l.length<=n) (w:World) (h:PAt w P l) (hg:GB w0 w) :
  Calls Tryz.prog 128 #[.pointer (some ⟨P,0,none⟩),.func (.func F) #[] #[],.func (.func 73) #[] #[],.string ⟨sign.toArray⟩,.int .i64 kind] w (PFrm w P ((Pt l).bind Ls)):=by
 obtain ⟨R,hR⟩:∃ R,R=(Pt l).bind Ls:=⟨_,rfl⟩
 rw [<- hR]
 obtain ⟨W0,hW0⟩:∃ W0,W0=w.alloc (.cells #[.int .i64 0,.string ⟨#[]⟩,.int .i64 0,.slice none 0 0,.slice none 0 0,.slice none 0 0] 28):=⟨_,rfl⟩
 have hb0:Below w.heap.size w W0:=by rw [hW0];exact below_new _ _
 have hbx:W0.heap[w.heap.size]?=some (.cells #[.int .i64 0,.string ⟨#[]⟩,.int .i64 0,.slice none 0 0,.slice none 0 0,.slice none 0 0] 28 (0,0)):=by rw [hW0];exact heap_alloc_new _ _
 have hPl:=h.lt
 have HZ:=Lh (fun (W':World) (hW:Chalk.Mod (fun k=>k=P) W0 W')=>(heap_kept hbx hW (by omega):W'.heap[w.heap.size]?=some (.cells #[.int .i64 0,.string ⟨#[]⟩,.int .i64 0,.slice none 0 0,.slice none 0 0,.slice none 0 0] 28 (0,0))))
 have HE:=Lh (fun (W':World) (hW:Chalk.Mod (fun k=>k=P) W0 W')=>(show W'.cell? ⟨w.heap.size,0,none⟩=some (.int .i64 0)/\W'.cell? ⟨w.heap.size,1,none⟩=some (.string ⟨#[]⟩)/\W'.cell? ⟨w.heap.size,2,none⟩=some (.int .i64 0)/\W'.cell? ⟨w.heap.size,3,none⟩=some (.slice none 0 0)/\W'.cell? ⟨w.heap.size,4,none⟩=some (.slice none 0 0)/\W'.cell? ⟨w.heap.size,5,none⟩=some (.slice none 0 0)/\W'.frozen? ⟨w.heap.size,0,none⟩=false/\W'.frozen? ⟨w.heap.size,1,none⟩=false/\W'.frozen? ⟨w.heap.size,2,none⟩=false/\W'.frozen? ⟨w.heap.size,3,none⟩=false/\W'.frozen? ⟨w.heap.size,4,none⟩=false/\W'.frozen? ⟨w.heap.size,5,none⟩=false/\w.heap.size<W'.heap.size from by
  have e0:=HZ.out W' hW
  exact ⟨cH e0 rfl,cH e0 rfl,cH e0 rfl,cH e0 rfl,cH e0 rfl,cH e0 rfl,fH e0,fH e0,fH e0,fH e0,fH e0,fH e0,(gS e0).1⟩))
 have hs0:W0.heap.size=w.heap.size+1:=by rw [hW0];simp
 have H0:=Lh (aI (h.below hb0) (aI (Chalk.Mod.refl (fun k=>k=P) W0) (aI (hg.below hb0) (aI hPl (aI (Chalk.Mod.of_below (S:=fun k=>k=P) hb0) (aI hs0 hP))))))
 have HW0:=Lh hW0
 have HGB:=Lh (fun (W:World) (hm:Chalk.Mod (fun k=>k=P) W0 W)=>(hg.below hb0).mod hP hm)
 have HFF:=Lh hF
 have HWM:=Lh (fun (W:World) (hm:Chalk.Mod (fun k=>k=P) W0 W)=>(Chalk.Mod.of_below (S:=fun k=>k=P) hb0).trans hm (fun _ _ h=>h))
 have HLS:=Lh hLs
 have HEAT:=Lh heat
 have he73:=enters_of Tryz.func73 (by kernel_rfl) rfl
 have HC0:=Lh (hF l hn W0 (h.below hb0) (hg.below hb0))
 clear h hg hP hb0 hbx hs0 hW0 hF hLs heat
 cases hp0:Pt l with
 | bad m =>
  have HB:=Lh (show R=.bad m by rw [hR,hp0];rfl)
  have HPT:=Lh hp0
  clear hR hp0
  go_enter Tryz.func128,Tryz.ntmps128
  go_wp2_with fail
  rw [<- HW0.out]
  refine HC0.out.mono ?_
  rintro e w1 hp
  obtain ⟨rfl,hm⟩:=hp.fails HPT.out
  exact ⟨rfl,PFrm.bad HB.out (HWM.out w1 hm)⟩
 | ok f0 r0 =>
  have HB:=Lh (show R=Ls f0 r0 by rw [hR,hp0];rfl)
  have HPT:=Lh hp0
  have HR0:=Lh (HEAT.out l f0 r0 hp0)
  clear hR hp0
  go_enter Tryz.func128,Tryz.ntmps128
  go_wp2_with fail
  rw [<- HW0.out]
  refine HC0.out.mono ?_
  rintro e w1 hp
  obtain ⟨x0,rfl,hx0,hp0,hm0⟩:=hp.gets HPT.out
  obtain ⟨B1,hB1⟩:∃ B1,B1=w1.heap.size:=⟨_,rfl⟩
  have hs1:=hm0.size
  have H1:=Lh (aI hx0 (aI hp0 (aI hm0 hB1)))
  have hz0:=H0.out.2.2.2.2.2.1
  have HB1:Hid (w.heap.size<B1/\P<B1):=Lh ⟨by omega,by have:=H0.out.2.2.2.1;omega⟩
  clear hp hx0 hp0 hm0 hs1 hz0
  go_wp2_with fail
  rw [<- hB1]
  obtain ⟨W1,hW1⟩:∃ W1,W1=w1.alloc (.cells #[.int .i64 f0.kind,.string ⟨f0.name.toArray⟩,.int .i64 f0.n,.slice x0.t.a f0.terms.length x0.t.cap,.slice x0.b.a f0.binds.length x0.b.cap,.slice x0.l.a f0.l.length x0.l.cap] 28):=⟨_,rfl⟩
  rw [<- hW1]
  have hb1:Below w1.heap.size w1 W1:=by rw [hW1];exact below_new _ _
  have hbx1:W1.heap[B1]?=some (.cells #[.int .i64 f0.kind,.string ⟨f0.name.toArray⟩,.int .i64 f0.n,.slice x0.t.a f0.terms.length x0.t.cap,.slice x0.b.a f0.binds.length x0.b.cap,.slice x0.l.a f0.l.length x0.l.cap] 28 (0,0)):=by rw [hW1,hB1];exact heap_alloc_new _ _
  have HS:=Lh (aI hb1 hbx1)
  clear hb1 hbx1 hW1 hB1
  go_loopw [] (fun wr=>∃ (f:Frm) (x:FrmA) (lj:List Tok),Hid (wr.heap[B1]?=some (.cells #[.int .i64 f.kind,.string ⟨f.name.toArray⟩,.int .i64 f.n,.slice x.t.a f.terms.length x.t.cap,.slice x.b.a f.binds.length x.b.cap,.slice x.l.a f.l.length x.l.cap] 28 (0,0)))/\Hid (FrmIn wr (fun k=>w.heap.size<k/\k ≠ B1/\k<wr.heap.size) f x)/\Hid (PAt wr P lj)/\Hid (Chalk.Mod (fun k=>k=P) W0 wr)/\Hid (R=Ls f lj)/\Hid (lj.length<=n)) (fun wr=>parLen wr P)
  case atStart =>
   refine ⟨f0,x0,r0,Lh HS.out.2,Lh ?_,Lh (H1.out.2.1.below HS.out.1),Lh (H1.out.2.2.1.trans (Chalk.Mod.of_below (S:=fun k=>k=P) HS.out.1) (fun _ _ h=>h)),HB,Lh (Nat.le_trans HR0.out hn)⟩
   have hz0:=H0.out.2.2.2.2.2.1
   have hB1:=H1.out.2.2.2
   exact (H1.out.1.agree (fun k hk=>HS.out.1.block k hk.2)).mono (fun k hk=>⟨by have:=hk.1;omega,by have:=hk.2;omega,Nat.lt_of_lt_of_le hk.2 HS.out.1.size⟩)
  case round =>
   obtain ⟨f,x,lj,HX,HFI,HP,HM,HRR,HLN⟩:=hrel
   cases hT:isT sign lj with
   | false =>
    have HRF:=Lh (show R=.ok f lj by rw [HRR.out,HLS.out,hT];rfl)
    have HTK:=Lh (ptook_no P sign lj wr HP.out hT)
    clear hT
    go_wp2_with fail
    refine HTK.out.mono ?_
    rintro e w2 ⟨rfl,hb2⟩
    have hx2:=(hb2.block _ (gS HX.out).1).trans HX.out
    have b0:w2.cell? ⟨B1,0,none⟩=some (.int .i64 f.kind):=cH hx2 rfl
    have b1:w2.cell? ⟨B1,1,none⟩=some (.string ⟨f.name.toArray⟩):=cH hx2 rfl
    have b2:w2.cell? ⟨B1,2,none⟩=some (.int .i64 f.n):=cH hx2 rfl
    have b3:w2.cell? ⟨B1,3,none⟩=some (.slice x.t.a f.terms.length x.t.cap):=cH hx2 rfl
    have b4:w2.cell? ⟨B1,4,none⟩=some (.slice x.b.a f.binds.length x.b.cap):=cH hx2 rfl
    have b5:w2.cell? ⟨B1,5,none⟩=some (.slice x.l.a f.l.length x.l.cap):=cH hx2 rfl
    have H2:=Lh (aI hb2 (HM.out.trans (Chalk.Mod.of_below (S:=fun k=>k=P) hb2) (fun _ _ h=>h)))
    clear hb2 hx2
    obtain ⟨x0,x1,x2,x3,x4,x5,fz0,fz1,fz2,fz3,fz4,fz5,hrl⟩:=HE.out w2 H2.out.2
    go_wp2_with fail
    refine bodyPost_ret (v:=.agg #[.int .i64 f.kind,.string ⟨f.name.toArray⟩,.int .i64 f.n,.slice x.t.a f.terms.length x.t.cap,.slice x.b.a f.binds.length x.b.cap,.slice x.l.a f.l.length x.l.cap]) (by simp [results,Tryz.results128,go_sem, *]) rfl ?_
    have hst:=st6_mod w2 w.heap.size (.int .i64 f.kind) (.string ⟨f.name.toArray⟩) (.int .i64 f.n) (.slice x.t.a f.terms.length x.t.cap) (.slice x.b.a f.binds.length x.b.cap) (.slice x.l.a f.l.length x.l.cap)
    unfold st6 at hst
    generalize (((((w2.setCell _ _).setCell _ _).setCell _ _).setCell _ _).setCell _ _).setCell _ _=w3 at hst ⊢
    have hz:=hst.size
    refine PFrm.ok x HRF.out (mod_one (HWM.out w2 H2.out.2) hst (Nat.le_refl _)) ?_ ((HP.out.below H2.out.1).one hst H0.out.2.2.2.1)
    exact ((HFI.out.agree (fun k hk=>H2.out.1.block k hk.2.2)).agree (hst.agree (fun k hk=>⟨by have:=hk.2.2;have:=H2.out.1.size;omega,by have:=hk.1;omega⟩))).mono (fun k hk=>⟨by have:=hk.1;omega,by have:=hk.2.2;have:=H2.out.1.size;omega⟩)
   | true =>
    have hle:lj.tail.length<lj.length:=by obtain ⟨t,r,e⟩:=HP.out.1.cons;rw [e];simp
    have HTK:=Lh (ptook_yes P sign lj wr HP.out hT)
    have HC:=Lh (HFF.out lj.tail (by have:=HLN.out;omega))
    cases hp1:Pt lj.tail with
    | bad m =>
     have HRF:=Lh (show R=.bad m by rw [HRR.out,HLS.out,hT,if_pos rfl,hp1];rfl)
     have HPT1:=Lh hp1
     clear hT hp1 hle
     go_wp2_with fail
     refine HTK.out.mono ?_
     rintro e w2 ⟨rfl,hp2,hm2⟩
     have hx2:=heap_kept HX.out hm2 (by have:=HB1.out;omega)
     have HK:Hid (∀ w':World,w'.heap[B1]?=some (.cells #[.int .i64 f.kind,.string ⟨f.name.toArray⟩,.int .i64 f.n,.slice x.t.a f.terms.length x.t.cap,.slice x.b.a f.binds.length x.b.cap,.slice x.l.a f.l.length x.l.cap] 28 (0,0))->w'.cell? ⟨B1,0,none⟩=some (.int .i64 f.kind)/\w'.cell? ⟨B1,1,none⟩=some (.string ⟨f.name.toArray⟩)/\w'.cell? ⟨B1,2,none⟩=some (.int .i64 f.n)/\w'.cell? ⟨B1,3,none⟩=some (.slice x.t.a f.terms.length x.t.cap)/\w'.cell? ⟨B1,4,none⟩=some (.slice x.b.a f.binds.length x.b.cap)/\w'.cell? ⟨B1,5,none⟩=some (.slice x.l.a f.l.length x.l.cap)):=Lh (fun w' e=>⟨cH e rfl,cH e rfl,cH e rfl,cH e rfl,cH e rfl,cH e rfl⟩)
     have H2:=Lh (aI hp2 (aI (HM.out.trans hm2 (fun _ _ h=>h)) (aI hx2 hm2)))
     clear hp2 hm2 hx2
     have hd:=HC.out w2.drew (H2.out.1.below (Below.refl _ _).drew) ((HGB.out w2 H2.out.2.1).below (Below.refl _ _).drew)
     have HD:=Lh hd
     clear hd
     go_wp2_with fail
     refine wp_region_U 7 (S:=fun w'=>w'.cell? ⟨B1,0,none⟩=some (.int .i64 f.kind)/\w'.cell? ⟨B1,1,none⟩=some (.string ⟨f.name.toArray⟩)/\w'.cell? ⟨B1,2,none⟩=some (.int .i64 f.n)/\w'.cell? ⟨B1,3,none⟩=some (.slice x.t.a f.terms.length x.t.cap)/\w'.cell? ⟨B1,4,none⟩=some (.slice x.b.a f.binds.length x.b.cap)/\w'.cell? ⟨B1,5,none⟩=some (.slice x.l.a f.l.length x.l.cap)) (by kernel_rfl) (HK.out _ H2.out.2.2.1) (fun hHeld=>?_)
     refine tkU (i:=0) rfl hHeld ?_
     try simp only [Act.put,ub1,ub2,ub3]
     refine tkU (i:=1) rfl hHeld ?_
     try simp only [Act.put,ub1,ub2,ub3]
     refine tkU (i:=2) rfl hHeld ?_
     try simp only [Act.put,ub1,ub2,ub3]
     refine tkU (i:=3) rfl hHeld ?_
     try simp only [Act.put,ub1,ub2,ub3]
     refine ready_U (rs:=[4]) (by kernel_rfl) (by simp) ?_
     refine cons_U rfl (fun K hK=>?_) nil_U
     go_simp
     refine HD.out.mono ?_
     rintro e w3 hp
     obtain ⟨rfl,hm⟩:=hp.fails HPT1.out
     exact ⟨rfl,PFrm.bad HRF.out (HWM.out w3 (H2.out.2.1.trans (PAt.mod (Below.refl _ _).drew hm) (fun _ _ h=>h)))⟩
    | ok g r1 =>
     have HRF:=Lh (show R=Ls (node2 kind f g) r1 by rw [HRR.out,HLS.out,hT,if_pos rfl,hp1];rfl)
     have HPT1:=Lh hp1
     have HLE:=Lh (aI hle (HEAT.out _ _ _ hp1))
     clear hT hp1 hle
     go_wp2_with fail
     refine HTK.out.mono ?_
     rintro e w2 ⟨rfl,hp2,hm2⟩
     have hx2:=heap_kept HX.out hm2 (by have:=HB1.out;omega)
     have HK:Hid (∀ w':World,w'.heap[B1]?=some (.cells #[.int .i64 f.kind,.string ⟨f.name.toArray⟩,.int .i64 f.n,.slice x.t.a f.terms.length x.t.cap,.slice x.b.a f.binds.length x.b.cap,.slice x.l.a f.l.length x.l.cap] 28 (0,0))->w'.cell? ⟨B1,0,none⟩=some (.int .i64 f.kind)/\w'.cell? ⟨B1,1,none⟩=some (.string ⟨f.name.toArray⟩)/\w'.cell? ⟨B1,2,none⟩=some (.int .i64 f.n)/\w'.cell? ⟨B1,3,none⟩=some (.slice x.t.a f.terms.length x.t.cap)/\w'.cell? ⟨B1,4,none⟩=some (.slice x.b.a f.binds.length x.b.cap)/\w'.cell? ⟨B1,5,none⟩=some (.slice x.l.a f.l.length x.l.cap)):=Lh (fun w' e=>⟨cH e rfl,cH e rfl,cH e rfl,cH e rfl,cH e rfl,cH e rfl⟩)
     have H2:=Lh (aI hp2 (aI (HM.out.trans hm2 (fun _ _ h=>h)) (aI hx2 hm2)))
     clear hp2 hm2 hx2
     have hd:=HC.out w2.drew (H2.out.1.below (Below.refl _ _).drew) ((HGB.out w2 H2.out.2.1).below (Below.refl _ _).drew)
     have HD:=Lh hd
     clear hd
     go_wp2_with fail
     refine wp_region_U 7 (S:=fun w'=>w'.cell? ⟨B1,0,none⟩=some (.int .i64 f.kind)/\w'.cell? ⟨B1,1,none⟩=some (.string ⟨f.name.toArray⟩)/\w'.cell? ⟨B1,2,none⟩=some (.int .i64 f.n)/\w'.cell? ⟨B1,3,none⟩=some (.slice x.t.a f.terms.length x.t.cap)/\w'.cell? ⟨B1,4,none⟩=some (.slice x.b.a f.binds.length x.b.cap)/\w'.cell? ⟨B1,5,none⟩=some (.slice x.l.a f.l.length x.l.cap)) (by kernel_rfl) (HK.out _ H2.out.2.2.1) (fun hHeld=>?_)
     refine tkU (i:=0) rfl hHeld ?_
     try simp only [Act.put,ub1,ub2,ub3]
     refine tkU (i:=1) rfl hHeld ?_
     try simp only [Act.put,ub1,ub2,ub3]
     refine tkU (i:=2) rfl hHeld ?_
     try simp only [Act.put,ub1,ub2,ub3]
     refine tkU (i:=3) rfl hHeld ?_
     try simp only [Act.put,ub1,ub2,ub3]
     refine ready_U (rs:=[4]) (by kernel_rfl) (by simp) ?_
     refine cons_U rfl (fun K hK=>?_) nil_U
     go_simp
     refine HD.out.mono ?_
     rintro e w3 hp
     obtain ⟨y,rfl,hy,hp3,hm3⟩:=hp.gets HPT1.out
     have hx3:=heap_kept H2.out.2.2.1 (PAt.mod (Below.refl w2.heap.size w2).drew hm3) (by have:=HB1.out;omega)
     have hfi3:=HFI.out.agree ((H2.out.2.2.2.trans (PAt.mod (Below.refl _ _).drew hm3) (fun _ _ h=>h)).agree (fun k hk=>⟨hk.2.2,by have:=hk.1;have:=H0.out.2.2.2.1;omega⟩))
     have H3:=Lh (aI hp3 (aI (H2.out.2.1.trans (PAt.mod (Below.refl _ _).drew hm3) (fun _ _ h=>h)) (aI hx3 (aI hfi3 (aI hy (aI hm3.size H2.out.2.2.2.size))))))
     clear hp hp3 hm3 hx3 hfi3 hy
     go_simp
     refine hK.out _ _ ?_ (fun hHeld2=>?_)
     ·exact HK.out _ H3.out.2.2.1
     clear hK K hHeld
     have hHeld:=hHeld2
     clear hHeld2
     try simp only [Act.put,ub1,ub2,ub3]
     refine ready_U (rs:=[5]) (by kernel_rfl) (by simp) ?_
     refine cons_U rfl (fun K hK=>?_) nil_U
     go_simp
     refine hK.out _ _ ?_ (fun hHeld2=>?_)
     ·exact HK.out _ ((Below.heap_alloc _ _ _ (gS H3.out.2.2.1).1).trans H3.out.2.2.1)
     clear hK K hHeld
     have hHeld:=hHeld2
     clear hHeld2
     try simp only [Act.put,ub1,ub2,ub3]
     refine tkU (i:=6) rfl hHeld ?_
     try simp only [Act.put,ub1,ub2,ub3]
     refine ready_U (rs:=[7]) (by kernel_rfl) (by simp) ?_
     refine cons_V rfl (by kernel_rfl) (fun K hK=>?_) nil_U
     have hx3:=H3.out.2.2.1
     have b0:w3.cell? ⟨B1,0,none⟩=some (.int .i64 f.kind):=cH hx3 rfl
     have b1:w3.cell? ⟨B1,1,none⟩=some (.string ⟨f.name.toArray⟩):=cH hx3 rfl
     have b2:w3.cell? ⟨B1,2,none⟩=some (.int .i64 f.n):=cH hx3 rfl
     have b3:w3.cell? ⟨B1,3,none⟩=some (.slice x.t.a f.terms.length x.t.cap):=cH hx3 rfl
     have b4:w3.cell? ⟨B1,4,none⟩=some (.slice x.b.a f.binds.length x.b.cap):=cH hx3 rfl
     have b5:w3.cell? ⟨B1,5,none⟩=some (.slice x.l.a f.l.length x.l.cap):=cH hx3 rfl
     have bz0:w3.frozen? ⟨B1,0,none⟩=false:=fH hx3
     have bz1:w3.frozen? ⟨B1,1,none⟩=false:=fH hx3
     have bz2:w3.frozen? ⟨B1,2,none⟩=false:=fH hx3
     have bz3:w3.frozen? ⟨B1,3,none⟩=false:=fH hx3
     have bz4:w3.frozen? ⟨B1,4,none⟩=false:=fH hx3
     have bz5:w3.frozen? ⟨B1,5,none⟩=false:=fH hx3
     have hbl:B1<w3.heap.size:=(gS hx3).1
     clear hx3
     go_simp
     refine hK.out _ _ ?_
     clear hK K
     try simp only [Act.put,ub1,ub2,ub3]
     refine done_U (by kernel_rfl) ?_ _
     go_wp2_with fail
     have hst:=st6_mod w3 B1 (.int .i64 kind) (.string ⟨#[]⟩) (.int .i64 0) (.slice none 0 0) (.slice none 0 0) (.slice (some ⟨w3.heap.size,0,none⟩) 2 2)
     have hsz:=st6_size w3 B1 (.int .i64 kind) (.string ⟨#[]⟩) (.int .i64 0) (.slice none 0 0) (.slice none 0 0) (.slice (some ⟨w3.heap.size,0,none⟩) 2 2)
     have hsh:=st6_heap (c0:=.int .i64 kind) (c1:=.string ⟨#[]⟩) (c2:=.int .i64 0) (c3:=.slice none 0 0) (c4:=.slice none 0 0) (c5:=.slice (some ⟨w3.heap.size,0,none⟩) 2 2) H3.out.2.2.1
     unfold st6 at hst hsz hsh
     generalize (((((w3.setCell _ _).setCell _ _).setCell _ _).setCell _ _).setCell _ _).setCell _ _=w4 at hst hsz hsh ⊢
     have hrow:(w4.alloc (.cells #[.int .i64 f.kind,.string ⟨f.name.toArray⟩,.int .i64 f.n,.slice x.t.a f.terms.length x.t.cap,.slice x.b.a f.binds.length x.b.cap,.slice x.l.a f.l.length x.l.cap,.int .i64 g.kind,.string ⟨g.name.toArray⟩,.int .i64 g.n,.slice y.t.a g.terms.length y.t.cap,.slice y.b.a g.binds.length y.b.cap,.slice y.l.a g.l.length y.l.cap] 28)).heap[w3.heap.size]?=some (.cells #[.int .i64 f.kind,.string ⟨f.name.toArray⟩,.int .i64 f.n,.slice x.t.a f.terms.length x.t.cap,.slice x.b.a f.binds.length x.b.cap,.slice x.l.a f.l.length x.l.cap,.int .i64 g.kind,.string ⟨g.name.toArray⟩,.int .i64 g.n,.slice y.t.a g.terms.length y.t.cap,.slice y.b.a g.binds.length y.b.cap,.slice y.l.a g.l.length y.l.cap] 28 (0,0)):=by rw [<- hsz];exact heap_alloc_new _ _
     have hb5:Below w4.heap.size w4 (w4.alloc (.cells #[.int .i64 f.kind,.string ⟨f.name.toArray⟩,.int .i64 f.n,.slice x.t.a f.terms.length x.t.cap,.slice x.b.a f.binds.length x.b.cap,.slice x.l.a f.l.length x.l.cap,.int .i64 g.kind,.string ⟨g.name.toArray⟩,.int .i64 g.n,.slice y.t.a g.terms.length y.t.cap,.slice y.b.a g.binds.length y.b.cap,.slice y.l.a g.l.length y.l.cap] 28)):=below_new _ _
     generalize w4.alloc (.cells #[.int .i64 f.kind,.string ⟨f.name.toArray⟩,.int .i64 f.n,.slice x.t.a f.terms.length x.t.cap,.slice x.b.a f.binds.length x.b.cap,.slice x.l.a f.l.length x.l.cap,.int .i64 g.kind,.string ⟨g.name.toArray⟩,.int .i64 g.n,.slice y.t.a g.terms.length y.t.cap,.slice y.b.a g.binds.length y.b.cap,.slice y.l.a g.l.length y.l.cap] 28)=w5 at hrow hb5 ⊢
     have hB:=HB1.out
     have hz1:=H3.out.2.2.2.2.2.1
     have hz2:=H3.out.2.2.2.2.2.2
     have hz3:w2.drew.heap.size=w2.heap.size:=rfl
     have hz4:=(gS HX.out).1
     have hz5:=hb5.size
     have hz6:=(gS hrow).1
     have hw0:=H0.out.2.2.2.2.2.1
     have hp5:PAt w5 P r1:=(H3.out.1.one hst (by omega)).below hb5
     have hm5:Chalk.Mod (fun k=>k=P) W0 w5:=(mod_one H3.out.2.1 hst (by omega)).trans (Chalk.Mod.of_below (S:=fun k=>k=P) hb5) (fun _ _ h=>h)
     have hx5:=(hb5.block B1 (gS hsh).1).trans hsh
     have hm35:Chalk.Mod (fun k=>k=B1) w3 w5:=hst.trans (Chalk.Mod.of_below (S:=fun k=>k=B1) hb5) (fun _ _ h=>h)
     have hf5:FrmIn w5 (fun k=>w.heap.size<k/\k ≠ B1/\k<w5.heap.size) (node2 kind f g) ⟨noS,noS,⟨some ⟨w3.heap.size,0,none⟩,w3.heap.size,0,2⟩⟩:=node_two hrow ⟨by omega,by omega,hz6⟩ ((H3.out.2.2.2.1.agree (hm35.agree (fun k hk=>⟨by have:=hk.2.2;omega,hk.2.1⟩))).mono (fun k hk=>⟨hk.1,hk.2.1,by have:=hk.2.2;omega⟩)) ((H3.out.2.2.2.2.1.agree (hm35.agree (fun k hk=>⟨hk.2,by have:=hk.1;omega⟩))).mono (fun k hk=>⟨by have:=hk.1;omega,by have:=hk.1;omega,by have:=hk.2;omega⟩)) hkd
     have H5:=Lh (aI hp5 (aI hm5 (aI hx5 hf5)))
     clear hst hsz hsh hrow hb5 hp5 hm5 hx5 hf5 hm35 hz1 hz2 hz3 hz4 hz5 hz6 hw0 hB
     go_roundw
     case rel=>exact ⟨node2 kind f g,⟨noS,noS,⟨some ⟨w3.heap.size,0,none⟩,w3.heap.size,0,2⟩⟩,r1,Lh H5.out.2.2.1,Lh H5.out.2.2.2,Lh H5.out.1,Lh H5.out.2.1,HRF,Lh (by have:=HLE.out;have:=HLN.out;omega)⟩
     case measure=>rw [H5.out.1.parLen,HP.out.parLen];have:=HLE.out;omega
end Go.Proofs.YtpmalchlecnjbaaGreatDoor
/- The parser of layer syntax: or, and, formula, bracketed. (written by tools/gen_ppf.py) -/
namespace Go.Proofs.YtpmalchlecnjbaaGreatDoor
open Go.RowKit Go.Chalk
attribute [local go_sem] Oper.semAt_some
theorem PFrm.last {w W:World} {P lo:Nat} {R:Rs Frm} {f:Frm} {x:FrmA} {r:List Tok} (hR:R=.ok f r) (hm:Chalk.Mod (fun k=>k=P) w W) (hP:P<w.heap.size) (hlo:w.heap.size<lo) (hx:FrmIn W (Fr lo W) f x) (hp:PAt W P r) :
  PFrm w P R (.returned (.agg #[.int .i64 f.kind,.string ⟨f.name.toArray⟩,.int .i64 f.n,.slice x.t.a f.terms.length x.t.cap,.slice x.b.a f.binds.length x.b.cap,.slice x.l.a f.l.length x.l.cap])) (st6 W w.heap.size (.int .i64 f.kind) (.string ⟨f.name.toArray⟩) (.int .i64 f.n) (.slice x.t.a f.terms.length x.t.cap) (.slice x.b.a f.binds.length x.b.cap) (.slice x.l.a f.l.length x.l.cap)):=by
 have hst:=st6_mod W w.heap.size (.int .i64 f.kind) (.string ⟨f.name.toArray⟩) (.int .i64 f.n) (.slice x.t.a f.terms.length x.t.cap) (.slice x.b.a f.binds.length x.b.cap) (.slice x.l.a f.l.length x.l.cap)
 have hsz:=hst.size
 refine PFrm.ok x hR (mod_one hm hst (Nat.le_refl _)) ?_ (hp.one hst hP)
 exact (hx.modB hst (fun k hk=>by omega)).lower (by omega)
theorem por_any (P:Nat) (w0:World) (hP:w0.heap.size<=P) (l:List Tok) (hF:∀ l',l'.length<=l.length->FOk w0 P 129 parAnd l') (w:World) (h:PAt w P l) (hg:GB w0 w):Calls Tryz.prog 72 #[.pointer (some ⟨P,0,none⟩)] w (PFrm w P (parOr l)):=by
 obtain ⟨R,hR⟩:∃ R,R=parOr l:=⟨_,rfl⟩
 rw [<- hR]
 obtain ⟨W0,hW0⟩:∃ W0,W0=w.alloc (.cells #[.int .i64 0,.string ⟨#[]⟩,.int .i64 0,.slice none 0 0,.slice none 0 0,.slice none 0 0] 28):=⟨_,rfl⟩
 have hb0:Below w.heap.size w W0:=by rw [hW0];exact below_new _ _
 have hbx:W0.heap[w.heap.size]?=some (.cells #[.int .i64 0,.string ⟨#[]⟩,.int .i64 0,.slice none 0 0,.slice none 0 0,.slice none 0 0] 28 (0,0)):=by rw [hW0];exact heap_alloc_new _ _
 have hPl:=h.lt
 have HZ:=Lh (fun (W':World) (hW:Chalk.Mod (fun k=>k=P) W0 W')=>(heap_kept hbx hW (by omega):W'.heap[w.heap.size]?=some (.cells #[.int .i64 0,.string ⟨#[]⟩,.int .i64 0,.slice none 0 0,.slice none 0 0,.slice none 0 0] 28 (0,0))))
 have HE:=Lh (fun (W':World) (hW:Chalk.Mod (fun k=>k=P) W0 W')=>(show W'.cell? ⟨w.heap.size,0,none⟩=some (.int .i64 0)/\W'.cell? ⟨w.heap.size,1,none⟩=some (.string ⟨#[]⟩)/\W'.cell? ⟨w.heap.size,2,none⟩=some (.int .i64 0)/\W'.cell? ⟨w.heap.size,3,none⟩=some (.slice none 0 0)/\W'.cell? ⟨w.heap.size,4,none⟩=some (.slice none 0 0)/\W'.cell? ⟨w.heap.size,5,none⟩=some (.slice none 0 0)/\W'.frozen? ⟨w.heap.size,0,none⟩=false/\W'.frozen? ⟨w.heap.size,1,none⟩=false/\W'.frozen? ⟨w.heap.size,2,none⟩=false/\W'.frozen? ⟨w.heap.size,3,none⟩=false/\W'.frozen? ⟨w.heap.size,4,none⟩=false/\W'.frozen? ⟨w.heap.size,5,none⟩=false/\w.heap.size<W'.heap.size from by
  have e0:=HZ.out W' hW
  exact ⟨cH e0 rfl,cH e0 rfl,cH e0 rfl,cH e0 rfl,cH e0 rfl,cH e0 rfl,fH e0,fH e0,fH e0,fH e0,fH e0,fH e0,(gS e0).1⟩))
 have hs0:W0.heap.size=w.heap.size+1:=by rw [hW0];simp
 have H0:=Lh (aI (h.below hb0) (aI (Chalk.Mod.refl (fun k=>k=P) W0) (aI (hg.below hb0) (aI hPl (aI (Chalk.Mod.of_below (S:=fun k=>k=P) hb0) (aI hs0 hP))))))
 have HW0:=Lh hW0
 have HGB:=Lh (fun (W:World) (hm:Chalk.Mod (fun k=>k=P) W0 W)=>(hg.below hb0).mod hP hm)
 have HWM:=Lh (fun (W:World) (hm:Chalk.Mod (fun k=>k=P) W0 W)=>(Chalk.Mod.of_below (S:=fun k=>k=P) hb0).trans hm (fun _ _ h=>h))
 have HC:=Lh (pleft_any w0 P hP 129 (enters_of Tryz.func129 (by kernel_rfl) rfl) [124] 12 (by decide) parAnd parOrs (fun f l=>parOrs_eq f l) (fun l a r e=>Nat.le_of_lt (parAnd_eat e).len) l.length hF l (Nat.le_refl _) W0 (h.below hb0) (hg.below hb0))
 rw [show (parAnd l).bind parOrs=R from by rw [hR,parOr_eq]] at HC
 clear h hg hP hb0 hbx hs0 hW0 hR hF
 go_enter Tryz.func72,Tryz.ntmps72
 go_wp2_with fail
 rw [<- HW0.out]
 refine HC.out.mono ?_
 rintro e w1 hp
 obtain ⟨Rr,hRr⟩:∃ Rr,Rr=R:=⟨_,rfl⟩
 cases R with
 | bad m =>
  obtain ⟨rfl,hm⟩:=hp.fails rfl
  exact ⟨rfl,PFrm.bad rfl (HWM.out w1 hm)⟩
 | ok f r =>
  obtain ⟨x,rfl,hx,hp1,hm⟩:=hp.gets rfl
  have H1:=Lh (aI hx (aI hp1 hm))
  clear hp hx hp1 hm
  obtain ⟨x0,x1,x2,x3,x4,x5,fz0,fz1,fz2,fz3,fz4,fz5,hrl⟩:=HE.out w1 H1.out.2.2
  go_wp2_with fail
  refine bodyPost_ret (v:=.agg #[.int .i64 f.kind,.string ⟨f.name.toArray⟩,.int .i64 f.n,.slice x.t.a f.terms.length x.t.cap,.slice x.b.a f.binds.length x.b.cap,.slice x.l.a f.l.length x.l.cap]) (by simp [results,Tryz.results72,go_sem, *]) rfl ?_
  exact PFrm.last rfl (HWM.out w1 H1.out.2.2) H0.out.2.2.2.1 (by have:=H0.out.2.2.2.2.2.1;omega) H1.out.1 H1.out.2.1
theorem pand_any (P:Nat) (w0:World) (hP:w0.heap.size<=P) (l:List Tok) (hF:∀ l',l'.length<=l.length->FOk w0 P 164 parUn l') (w:World) (h:PAt w P l) (hg:GB w0 w):Calls Tryz.prog 129 #[.pointer (some ⟨P,0,none⟩)] w (PFrm w P (parAnd l)):=by
 obtain ⟨R,hR⟩:∃ R,R=parAnd l:=⟨_,rfl⟩
 rw [<- hR]
 obtain ⟨W0,hW0⟩:∃ W0,W0=w.alloc (.cells #[.int .i64 0,.string ⟨#[]⟩,.int .i64 0,.slice none 0 0,.slice none 0 0,.slice none 0 0] 28):=⟨_,rfl⟩
 have hb0:Below w.heap.size w W0:=by rw [hW0];exact below_new _ _
 have hbx:W0.heap[w.heap.size]?=some (.cells #[.int .i64 0,.string ⟨#[]⟩,.int .i64 0,.slice none 0 0,.slice none 0 0,.slice none 0 0] 28 (0,0)):=by rw [hW0];exact heap_alloc_new _ _
 have hPl:=h.lt
 have HZ:=Lh (fun (W':World) (hW:Chalk.Mod (fun k=>k=P) W0 W')=>(heap_kept hbx hW (by omega):W'.heap[w.heap.size]?=some (.cells #[.int .i64 0,.string ⟨#[]⟩,.int .i64 0,.slice none 0 0,.slice none 0 0,.slice none 0 0] 28 (0,0))))
 have HE:=Lh (fun (W':World) (hW:Chalk.Mod (fun k=>k=P) W0 W')=>(show W'.cell? ⟨w.heap.size,0,none⟩=some (.int .i64 0)/\W'.cell? ⟨w.heap.size,1,none⟩=some (.string ⟨#[]⟩)/\W'.cell? ⟨w.heap.size,2,none⟩=some (.int .i64 0)/\W'.cell? ⟨w.heap.size,3,none⟩=some (.slice none 0 0)/\W'.cell? ⟨w.heap.size,4,none⟩=some (.slice none 0 0)/\W'.cell? ⟨w.heap.size,5,none⟩=some (.slice none 0 0)/\W'.frozen? ⟨w.heap.size,0,none⟩=false/\W'.frozen? ⟨w.heap.size,1,none⟩=false/\W'.frozen? ⟨w.heap.size,2,none⟩=false/\W'.frozen? ⟨w.heap.size,3,none⟩=false/\W'.frozen? ⟨w.heap.size,4,none⟩=false/\W'.frozen? ⟨w.heap.size,5,none⟩=false/\w.heap.size<W'.heap.size from by
  have e0:=HZ.out W' hW
  exact ⟨cH e0 rfl,cH e0 rfl,cH e0 rfl,cH e0 rfl,cH e0 rfl,cH e0 rfl,fH e0,fH e0,fH e0,fH e0,fH e0,fH e0,(gS e0).1⟩))
 have hs0:W0.heap.size=w.heap.size+1:=by rw [hW0];simp
 have H0:=Lh (aI (h.below hb0) (aI (Chalk.Mod.refl (fun k=>k=P) W0) (aI (hg.below hb0) (aI hPl (aI (Chalk.Mod.of_below (S:=fun k=>k=P) hb0) (aI hs0 hP))))))
 have HW0:=Lh hW0
 have HGB:=Lh (fun (W:World) (hm:Chalk.Mod (fun k=>k=P) W0 W)=>(hg.below hb0).mod hP hm)
 have HWM:=Lh (fun (W:World) (hm:Chalk.Mod (fun k=>k=P) W0 W)=>(Chalk.Mod.of_below (S:=fun k=>k=P) hb0).trans hm (fun _ _ h=>h))
 have HC:=Lh (pleft_any w0 P hP 164 (enters_of Tryz.func164 (by kernel_rfl) rfl) [38] 11 (by decide) parUn parAnds (fun f l=>parAnds_eq f l) (fun l a r e=>Nat.le_of_lt (parUn_eat e).len) l.length hF l (Nat.le_refl _) W0 (h.below hb0) (hg.below hb0))
 rw [show (parUn l).bind parAnds=R from by rw [hR,parAnd_eq]] at HC
 clear h hg hP hb0 hbx hs0 hW0 hR hF
 go_enter Tryz.func129,Tryz.ntmps129
 go_wp2_with fail
 rw [<- HW0.out]
 refine HC.out.mono ?_
 rintro e w1 hp
 obtain ⟨Rr,hRr⟩:∃ Rr,Rr=R:=⟨_,rfl⟩
 cases R with
 | bad m =>
  obtain ⟨rfl,hm⟩:=hp.fails rfl
  exact ⟨rfl,PFrm.bad rfl (HWM.out w1 hm)⟩
 | ok f r =>
  obtain ⟨x,rfl,hx,hp1,hm⟩:=hp.gets rfl
  have H1:=Lh (aI hx (aI hp1 hm))
  clear hp hx hp1 hm
  obtain ⟨x0,x1,x2,x3,x4,x5,fz0,fz1,fz2,fz3,fz4,fz5,hrl⟩:=HE.out w1 H1.out.2.2
  go_wp2_with fail
  refine bodyPost_ret (v:=.agg #[.int .i64 f.kind,.string ⟨f.name.toArray⟩,.int .i64 f.n,.slice x.t.a f.terms.length x.t.cap,.slice x.b.a f.binds.length x.b.cap,.slice x.l.a f.l.length x.l.cap]) (by simp [results,Tryz.results129,go_sem, *]) rfl ?_
  exact PFrm.last rfl (HWM.out w1 H1.out.2.2) H0.out.2.2.2.1 (by have:=H0.out.2.2.2.2.2.1;omega) H1.out.1 H1.out.2.1
end Go.Proofs.YtpmalchlecnjbaaGreatDoor
/- The parser of layer syntax: formula. (written by tools/gen_ppf.py) -/
namespace Go.Proofs.YtpmalchlecnjbaaGreatDoor
open Go.RowKit Go.Chalk
attribute [local go_sem] Oper.semAt_some
theorem pformula_any (P:Nat) (w0:World) (hP:w0.heap.size<=P) (l:List Tok) (hO:FOk w0 P 72 parOr l) (hF:∀ l',l'.length<l.length->FOk w0 P 40 parF l') (w:World) (h:PAt w P l) (hg:GB w0 w):Calls Tryz.prog 40 #[.pointer (some ⟨P,0,none⟩)] w (PFrm w P (parF l)):=by
 obtain ⟨R,hR⟩:∃ R,R=parF l:=⟨_,rfl⟩
 rw [<- hR]
 obtain ⟨W0,hW0⟩:∃ W0,W0=w.alloc (.cells #[.int .i64 0,.string ⟨#[]⟩,.int .i64 0,.slice none 0 0,.slice none 0 0,.slice none 0 0] 28):=⟨_,rfl⟩
 have hb0:Below w.heap.size w W0:=by rw [hW0];exact below_new _ _
 have hbx:W0.heap[w.heap.size]?=some (.cells #[.int .i64 0,.string ⟨#[]⟩,.int .i64 0,.slice none 0 0,.slice none 0 0,.slice none 0 0] 28 (0,0)):=by rw [hW0];exact heap_alloc_new _ _
 have hPl:=h.lt
 have HZ:=Lh (fun (W':World) (hW:Chalk.Mod (fun k=>k=P) W0 W')=>(heap_kept hbx hW (by omega):W'.heap[w.heap.size]?=some (.cells #[.int .i64 0,.string ⟨#[]⟩,.int .i64 0,.slice none 0 0,.slice none 0 0,.slice none 0 0] 28 (0,0))))
 have HE:=Lh (fun (W':World) (hW:Chalk.Mod (fun k=>k=P) W0 W')=>(show W'.cell? ⟨w.heap.size,0,none⟩=some (.int .i64 0)/\W'.cell? ⟨w.heap.size,1,none⟩=some (.string ⟨#[]⟩)/\W'.cell? ⟨w.heap.size,2,none⟩=some (.int .i64 0)/\W'.cell? ⟨w.heap.size,3,none⟩=some (.slice none 0 0)/\W'.cell? ⟨w.heap.size,4,none⟩=some (.slice none 0 0)/\W'.cell? ⟨w.heap.size,5,none⟩=some (.slice none 0 0)/\W'.frozen? ⟨w.heap.size,0,none⟩=false/\W'.frozen? ⟨w.heap.size,1,none⟩=false/\W'.frozen? ⟨w.heap.size,2,none⟩=false/\W'.frozen? ⟨w.heap.size,3,none⟩=false/\W'.frozen? ⟨w.heap.size,4,none⟩=false/\W'.frozen? ⟨w.heap.size,5,none⟩=false/\w.heap.size<W'.heap.size from by
  have e0:=HZ.out W' hW
  exact ⟨cH e0 rfl,cH e0 rfl,cH e0 rfl,cH e0 rfl,cH e0 rfl,cH e0 rfl,fH e0,fH e0,fH e0,fH e0,fH e0,fH e0,(gS e0).1⟩))
 have hs0:W0.heap.size=w.heap.size+1:=by rw [hW0];simp
 have H0:=Lh (aI (h.below hb0) (aI (Chalk.Mod.refl (fun k=>k=P) W0) (aI (hg.below hb0) (aI hPl (aI (Chalk.Mod.of_below (S:=fun k=>k=P) hb0) (aI hs0 hP))))))
 have HW0:=Lh hW0
 have HGB:=Lh (fun (W:World) (hm:Chalk.Mod (fun k=>k=P) W0 W)=>(hg.below hb0).mod hP hm)
 have HWM:=Lh (fun (W:World) (hm:Chalk.Mod (fun k=>k=P) W0 W)=>(Chalk.Mod.of_below (S:=fun k=>k=P) hb0).trans hm (fun _ _ h=>h))
 have HC:=Lh (hO W0 (h.below hb0) (hg.below hb0))
 have HFF:=Lh hF
 rw [parF_eq] at hR
 clear h hg hP hb0 hbx hs0 hW0 hO hF
 cases hO:parOr l with
 | bad m =>
  have HB:=Lh (show R=.bad m by rw [hR,hO];rfl)
  have HPO:=Lh hO
  clear hR hO
  go_enter Tryz.func40,Tryz.ntmps40
  go_wp2_with fail
  rw [<- HW0.out]
  refine HC.out.mono ?_
  rintro e w1 hp
  obtain ⟨rfl,hm⟩:=hp.fails HPO.out
  exact ⟨rfl,PFrm.bad HB.out (HWM.out w1 hm)⟩
 | ok f r =>
  have hle:=(parOr_eat hO).len
  cases hT:isT [45,62] r with
  | false =>
   have HB:=Lh (show R=.ok f r by rw [hR,hO];simp only [Rs.bind,hT,Bool.false_eq_true,if_false])
   have HPO:=Lh hO
   have HTK:=Lh (fun (W:World) (hp:PAt W P r)=>ptook_no P [45,62] r W hp hT)
   clear hR hO hT hle
   go_enter Tryz.func40,Tryz.ntmps40
   go_wp2_with fail
   rw [<- HW0.out]
   refine HC.out.mono ?_
   rintro e w1 hp
   obtain ⟨x,rfl,hx,hp1,hm⟩:=hp.gets HPO.out
   obtain ⟨B1,hB1⟩:∃ B1,B1=w1.heap.size:=⟨_,rfl⟩
   have hs1:=hm.size
   have hz0:=H0.out.2.2.2.2.2.1
   have HB1:Hid (w.heap.size<B1/\P<B1):=Lh ⟨by omega,by have:=H0.out.2.2.2.1;omega⟩
   have hb1:Below w1.heap.size w1 (w1.alloc (.cells #[.int .i64 f.kind,.string ⟨f.name.toArray⟩,.int .i64 f.n,.slice x.t.a f.terms.length x.t.cap,.slice x.b.a f.binds.length x.b.cap,.slice x.l.a f.l.length x.l.cap] 28)):=below_new _ _
   have hbx1:(w1.alloc (.cells #[.int .i64 f.kind,.string ⟨f.name.toArray⟩,.int .i64 f.n,.slice x.t.a f.terms.length x.t.cap,.slice x.b.a f.binds.length x.b.cap,.slice x.l.a f.l.length x.l.cap] 28)).heap[B1]?=some (.cells #[.int .i64 f.kind,.string ⟨f.name.toArray⟩,.int .i64 f.n,.slice x.t.a f.terms.length x.t.cap,.slice x.b.a f.binds.length x.b.cap,.slice x.l.a f.l.length x.l.cap] 28 (0,0)):=by rw [hB1];exact heap_alloc_new _ _
   have H1:=Lh (aI hx (aI hp1 (aI hm hB1)))
   clear hp hx hp1 hm hs1 hz0
   go_wp2_with fail
   rw [<- hB1]
   generalize w1.alloc (.cells #[.int .i64 f.kind,.string ⟨f.name.toArray⟩,.int .i64 f.n,.slice x.t.a f.terms.length x.t.cap,.slice x.b.a f.binds.length x.b.cap,.slice x.l.a f.l.length x.l.cap] 28)=W1 at hb1 hbx1 ⊢
   have HS:=Lh (aI (H1.out.2.1.below hb1) (aI (H1.out.2.2.1.trans (Chalk.Mod.of_below (S:=fun k=>k=P) hb1) (fun _ _ h=>h)) (aI hbx1 hb1)))
   clear hb1 hbx1 hB1
   refine (HTK.out W1 HS.out.1).mono ?_
   rintro e w2 ⟨rfl,hb2⟩
   have hx2:=(hb2.block _ (gS HS.out.2.2.1).1).trans HS.out.2.2.1
   have b0:w2.cell? ⟨B1,0,none⟩=some (.int .i64 f.kind):=cH hx2 rfl
   have b1:w2.cell? ⟨B1,1,none⟩=some (.string ⟨f.name.toArray⟩):=cH hx2 rfl
   have b2:w2.cell? ⟨B1,2,none⟩=some (.int .i64 f.n):=cH hx2 rfl
   have b3:w2.cell? ⟨B1,3,none⟩=some (.slice x.t.a f.terms.length x.t.cap):=cH hx2 rfl
   have b4:w2.cell? ⟨B1,4,none⟩=some (.slice x.b.a f.binds.length x.b.cap):=cH hx2 rfl
   have b5:w2.cell? ⟨B1,5,none⟩=some (.slice x.l.a f.l.length x.l.cap):=cH hx2 rfl
   have H2:=Lh (aI (HS.out.1.below hb2) (aI (HS.out.2.1.trans (Chalk.Mod.of_below (S:=fun k=>k=P) hb2) (fun _ _ h=>h)) (HS.out.2.2.2.trans (hb2.mono HS.out.2.2.2.size))))
   clear hb2 hx2
   obtain ⟨x0,x1,x2,x3,x4,x5,fz0,fz1,fz2,fz3,fz4,fz5,hrl⟩:=HE.out w2 H2.out.2.1
   go_wp2_with fail
   refine bodyPost_ret (v:=.agg #[.int .i64 f.kind,.string ⟨f.name.toArray⟩,.int .i64 f.n,.slice x.t.a f.terms.length x.t.cap,.slice x.b.a f.binds.length x.b.cap,.slice x.l.a f.l.length x.l.cap]) (by simp [results,Tryz.results40,go_sem, *]) rfl ?_
   exact PFrm.last HB.out (HWM.out w2 H2.out.2.1) H0.out.2.2.2.1 (show w.heap.size<W0.heap.size by have:=H0.out.2.2.2.2.2.1;omega) (H1.out.1.modB (Chalk.Mod.of_below (S:=fun _=>False) H2.out.2.2) (fun _ h=>h.elim)) H2.out.1
  | true =>
   have hle2:r.tail.length<l.length:=by have:=List.length_tail (l:=r);omega
   have HTK:=Lh (fun (W:World) (hp:PAt W P r)=>ptook_yes P [45,62] r W hp hT)
   have HCF:=Lh (HFF.out r.tail hle2)
   have HPO:=Lh hO
   cases hp1:parF r.tail with
   | bad m =>
    have HRF:=Lh (show R=.bad m by rw [hR,hO];simp only [Rs.bind,hT,if_true,hp1])
    have HPT1:=Lh hp1
    clear hR hO hT hle hle2 hp1
    go_enter Tryz.func40,Tryz.ntmps40
    go_wp2_with fail
    rw [<- HW0.out]
    refine HC.out.mono ?_
    rintro e w1 hp
    obtain ⟨x,rfl,hx,hp1,hm⟩:=hp.gets HPO.out
    obtain ⟨B1,hB1⟩:∃ B1,B1=w1.heap.size:=⟨_,rfl⟩
    have hs1:=hm.size
    have hz0:=H0.out.2.2.2.2.2.1
    have HB1:Hid (w.heap.size<B1/\P<B1):=Lh ⟨by omega,by have:=H0.out.2.2.2.1;omega⟩
    have hb1:Below w1.heap.size w1 (w1.alloc (.cells #[.int .i64 f.kind,.string ⟨f.name.toArray⟩,.int .i64 f.n,.slice x.t.a f.terms.length x.t.cap,.slice x.b.a f.binds.length x.b.cap,.slice x.l.a f.l.length x.l.cap] 28)):=below_new _ _
    have hbx1:(w1.alloc (.cells #[.int .i64 f.kind,.string ⟨f.name.toArray⟩,.int .i64 f.n,.slice x.t.a f.terms.length x.t.cap,.slice x.b.a f.binds.length x.b.cap,.slice x.l.a f.l.length x.l.cap] 28)).heap[B1]?=some (.cells #[.int .i64 f.kind,.string ⟨f.name.toArray⟩,.int .i64 f.n,.slice x.t.a f.terms.length x.t.cap,.slice x.b.a f.binds.length x.b.cap,.slice x.l.a f.l.length x.l.cap] 28 (0,0)):=by rw [hB1];exact heap_alloc_new _ _
    have H1:=Lh (aI hx (aI hp1 (aI hm hB1)))
    clear hp hx hp1 hm hs1 hz0
    go_wp2_with fail
    rw [<- hB1]
    generalize w1.alloc (.cells #[.int .i64 f.kind,.string ⟨f.name.toArray⟩,.int .i64 f.n,.slice x.t.a f.terms.length x.t.cap,.slice x.b.a f.binds.length x.b.cap,.slice x.l.a f.l.length x.l.cap] 28)=W1 at hb1 hbx1 ⊢
    have HS:=Lh (aI (H1.out.2.1.below hb1) (aI (H1.out.2.2.1.trans (Chalk.Mod.of_below (S:=fun k=>k=P) hb1) (fun _ _ h=>h)) (aI hbx1 hb1)))
    clear hb1 hbx1 hB1
    refine (HTK.out W1 HS.out.1).mono ?_
    rintro e w2 ⟨rfl,hp2,hm2⟩
    have hx2:=heap_kept HS.out.2.2.1 hm2 (by have:=HB1.out;omega)
    have HK:Hid (∀ w':World,w'.heap[B1]?=some (.cells #[.int .i64 f.kind,.string ⟨f.name.toArray⟩,.int .i64 f.n,.slice x.t.a f.terms.length x.t.cap,.slice x.b.a f.binds.length x.b.cap,.slice x.l.a f.l.length x.l.cap] 28 (0,0))->w'.cell? ⟨B1,0,none⟩=some (.int .i64 f.kind)/\w'.cell? ⟨B1,1,none⟩=some (.string ⟨f.name.toArray⟩)/\w'.cell? ⟨B1,2,none⟩=some (.int .i64 f.n)/\w'.cell? ⟨B1,3,none⟩=some (.slice x.t.a f.terms.length x.t.cap)/\w'.cell? ⟨B1,4,none⟩=some (.slice x.b.a f.binds.length x.b.cap)/\w'.cell? ⟨B1,5,none⟩=some (.slice x.l.a f.l.length x.l.cap)):=Lh (fun w' e=>⟨cH e rfl,cH e rfl,cH e rfl,cH e rfl,cH e rfl,cH e rfl⟩)
    have H2:=Lh (aI hp2 (aI (HS.out.2.1.trans hm2 (fun _ _ h=>h)) (aI hx2 hm2)))
    clear hp2 hm2 hx2
    have hd:=HCF.out w2.drew (H2.out.1.below (Below.refl _ _).drew) ((HGB.out w2 H2.out.2.1).below (Below.refl _ _).drew)
    have HD:=Lh hd
    clear hd
    go_wp2_with fail
    refine wp_region_U 5 (S:=fun w'=>w'.cell? ⟨B1,0,none⟩=some (.int .i64 f.kind)/\w'.cell? ⟨B1,1,none⟩=some (.string ⟨f.name.toArray⟩)/\w'.cell? ⟨B1,2,none⟩=some (.int .i64 f.n)/\w'.cell? ⟨B1,3,none⟩=some (.slice x.t.a f.terms.length x.t.cap)/\w'.cell? ⟨B1,4,none⟩=some (.slice x.b.a f.binds.length x.b.cap)/\w'.cell? ⟨B1,5,none⟩=some (.slice x.l.a f.l.length x.l.cap)) (by kernel_rfl) (HK.out _ H2.out.2.2.1) (fun hHeld=>?_)
    refine tkU (i:=0) rfl hHeld ?_
    try simp only [Act.put,ub1,ub2,ub3]
    refine tkU (i:=1) rfl hHeld ?_
    try simp only [Act.put,ub1,ub2,ub3]
    refine ready_U (rs:=[2]) (by kernel_rfl) (by simp) ?_
    refine cons_U rfl (fun K hK=>?_) nil_U
    go_simp
    go_at_call 40
    refine HD.out.mono ?_
    rintro e w3 hp
    obtain ⟨rfl,hm⟩:=hp.fails HPT1.out
    exact ⟨rfl,PFrm.bad HRF.out (HWM.out w3 (H2.out.2.1.trans (PAt.mod (Below.refl _ _).drew hm) (fun _ _ h=>h)))⟩
   | ok g r1 =>
    have HRF:=Lh (show R=.ok (node2 13 f g) r1 by rw [hR,hO];simp only [Rs.bind,hT,if_true,hp1])
    have HPT1:=Lh hp1
    clear hR hO hT hle hle2 hp1
    go_enter Tryz.func40,Tryz.ntmps40
    go_wp2_with fail
    rw [<- HW0.out]
    refine HC.out.mono ?_
    rintro e w1 hp
    obtain ⟨x,rfl,hx,hp1,hm⟩:=hp.gets HPO.out
    obtain ⟨B1,hB1⟩:∃ B1,B1=w1.heap.size:=⟨_,rfl⟩
    have hs1:=hm.size
    have hz0:=H0.out.2.2.2.2.2.1
    have HB1:Hid (w.heap.size<B1/\P<B1):=Lh ⟨by omega,by have:=H0.out.2.2.2.1;omega⟩
    have hb1:Below w1.heap.size w1 (w1.alloc (.cells #[.int .i64 f.kind,.string ⟨f.name.toArray⟩,.int .i64 f.n,.slice x.t.a f.terms.length x.t.cap,.slice x.b.a f.binds.length x.b.cap,.slice x.l.a f.l.length x.l.cap] 28)):=below_new _ _
    have hbx1:(w1.alloc (.cells #[.int .i64 f.kind,.string ⟨f.name.toArray⟩,.int .i64 f.n,.slice x.t.a f.terms.length x.t.cap,.slice x.b.a f.binds.length x.b.cap,.slice x.l.a f.l.length x.l.cap] 28)).heap[B1]?=some (.cells #[.int .i64 f.kind,.string ⟨f.name.toArray⟩,.int .i64 f.n,.slice x.t.a f.terms.length x.t.cap,.slice x.b.a f.binds.length x.b.cap,.slice x.l.a f.l.length x.l.cap] 28 (0,0)):=by rw [hB1];exact heap_alloc_new _ _
    have H1:=Lh (aI hx (aI hp1 (aI hm hB1)))
    clear hp hx hp1 hm hs1 hz0
    go_wp2_with fail
    rw [<- hB1]
    generalize w1.alloc (.cells #[.int .i64 f.kind,.string ⟨f.name.toArray⟩,.int .i64 f.n,.slice x.t.a f.terms.length x.t.cap,.slice x.b.a f.binds.length x.b.cap,.slice x.l.a f.l.length x.l.cap] 28)=W1 at hb1 hbx1 ⊢
    have HS:=Lh (aI (H1.out.2.1.below hb1) (aI (H1.out.2.2.1.trans (Chalk.Mod.of_below (S:=fun k=>k=P) hb1) (fun _ _ h=>h)) (aI hbx1 hb1)))
    clear hb1 hbx1 hB1
    refine (HTK.out W1 HS.out.1).mono ?_
    rintro e w2 ⟨rfl,hp2,hm2⟩
    have hx2:=heap_kept HS.out.2.2.1 hm2 (by have:=HB1.out;omega)
    have HK:Hid (∀ w':World,w'.heap[B1]?=some (.cells #[.int .i64 f.kind,.string ⟨f.name.toArray⟩,.int .i64 f.n,.slice x.t.a f.terms.length x.t.cap,.slice x.b.a f.binds.length x.b.cap,.slice x.l.a f.l.length x.l.cap] 28 (0,0))->w'.cell? ⟨B1,0,none⟩=some (.int .i64 f.kind)/\w'.cell? ⟨B1,1,none⟩=some (.string ⟨f.name.toArray⟩)/\w'.cell? ⟨B1,2,none⟩=some (.int .i64 f.n)/\w'.cell? ⟨B1,3,none⟩=some (.slice x.t.a f.terms.length x.t.cap)/\w'.cell? ⟨B1,4,none⟩=some (.slice x.b.a f.binds.length x.b.cap)/\w'.cell? ⟨B1,5,none⟩=some (.slice x.l.a f.l.length x.l.cap)):=Lh (fun w' e=>⟨cH e rfl,cH e rfl,cH e rfl,cH e rfl,cH e rfl,cH e rfl⟩)
    have H2:=Lh (aI hp2 (aI (HS.out.2.1.trans hm2 (fun _ _ h=>h)) (aI hx2 hm2)))
    clear hp2 hm2 hx2
    have hd:=HCF.out w2.drew (H2.out.1.below (Below.refl _ _).drew) ((HGB.out w2 H2.out.2.1).below (Below.refl _ _).drew)
    have HD:=Lh hd
    clear hd
    go_wp2_with fail
    refine wp_region_U 5 (S:=fun w'=>w'.cell? ⟨B1,0,none⟩=some (.int .i64 f.kind)/\w'.cell? ⟨B1,1,none⟩=some (.string ⟨f.name.toArray⟩)/\w'.cell? ⟨B1,2,none⟩=some (.int .i64 f.n)/\w'.cell? ⟨B1,3,none⟩=some (.slice x.t.a f.terms.length x.t.cap)/\w'.cell? ⟨B1,4,none⟩=some (.slice x.b.a f.binds.length x.b.cap)/\w'.cell? ⟨B1,5,none⟩=some (.slice x.l.a f.l.length x.l.cap)) (by kernel_rfl) (HK.out _ H2.out.2.2.1) (fun hHeld=>?_)
    refine tkU (i:=0) rfl hHeld ?_
    try simp only [Act.put,ub1,ub2,ub3]
    refine tkU (i:=1) rfl hHeld ?_
    try simp only [Act.put,ub1,ub2,ub3]
    refine ready_U (rs:=[2]) (by kernel_rfl) (by simp) ?_
    refine cons_U rfl (fun K hK=>?_) nil_U
    go_simp
    go_at_call 40
    refine HD.out.mono ?_
    rintro e w3 hp
    obtain ⟨y,rfl,hy,hp3,hm3⟩:=hp.gets HPT1.out
    have hx3:=heap_kept H2.out.2.2.1 (PAt.mod (Below.refl w2.heap.size w2).drew hm3) (by have:=HB1.out;omega)
    have hm13:Chalk.Mod (fun k=>k=P) w1 w3:=(Chalk.Mod.of_below (S:=fun k=>k=P) HS.out.2.2.2).trans (H2.out.2.2.2.trans (PAt.mod (Below.refl _ _).drew hm3) (fun _ _ h=>h)) (fun _ _ h=>h)
    have H3:=Lh (aI hp3 (aI (H2.out.2.1.trans (PAt.mod (Below.refl _ _).drew hm3) (fun _ _ h=>h)) (aI hx3 (aI (H1.out.1.modB hm13 (fun k hk=>by have:=H0.out.2.2.2.1;have:=H0.out.2.2.2.2.2.1;omega)) (aI hy (aI hm3.size (aI H2.out.2.2.2.size (aI HS.out.2.2.2.size H1.out.2.2.1.size))))))))
    clear hp hp3 hm3 hx3 hy hm13
    go_simp
    refine hK.out _ _ ?_ (fun hHeld2=>?_)
    ·exact HK.out _ H3.out.2.2.1
    clear hK K hHeld
    have hHeld:=hHeld2
    clear hHeld2
    try simp only [Act.put,ub1,ub2,ub3]
    refine ready_U (rs:=[3]) (by kernel_rfl) (by simp) ?_
    refine cons_U rfl (fun K hK=>?_) nil_U
    go_simp
    refine hK.out _ _ ?_ (fun hHeld2=>?_)
    ·exact HK.out _ ((Below.heap_alloc _ _ _ (gS H3.out.2.2.1).1).trans H3.out.2.2.1)
    clear hK K hHeld
    have hHeld:=hHeld2
    clear hHeld2
    try simp only [Act.put,ub1,ub2,ub3]
    refine tkU (i:=4) rfl hHeld ?_
    try simp only [Act.put,ub1,ub2,ub3]
    refine ready_U (rs:=[5]) (by kernel_rfl) (by simp) ?_
    refine cons_V rfl (by kernel_rfl) (fun K hK=>?_) nil_U
    obtain ⟨x0,x1,x2,x3,x4,x5,fz0,fz1,fz2,fz3,fz4,fz5,hrl⟩:=HE.out w3 H3.out.2.1
    go_simp
    refine hK.out _ _ ?_
    clear hK K
    try simp only [Act.put,ub1,ub2,ub3]
    refine done_U (by kernel_rfl) ?_ _
    dsimp only [Exit.then]
    refine (‹∀ (a:Act) (w_1:World),Code.wp Tryz.prog Code.ret _ a w_1->_›:_) _ _ ?_
    refine wp_ret ?_
    refine bodyPost_ret (v:=.agg #[.int .i64 13,.string ⟨#[]⟩,.int .i64 0,.slice none 0 0,.slice none 0 0,.slice (some ⟨w3.heap.size,0,none⟩) 2 2]) (by simp [results,Tryz.results40,go_sem, *]) rfl ?_
    have hst:=st6_mod w3 w.heap.size (.int .i64 13) (.string ⟨#[]⟩) (.int .i64 0) (.slice none 0 0) (.slice none 0 0) (.slice (some ⟨w3.heap.size,0,none⟩) 2 2)
    have hsz:=st6_size w3 w.heap.size (.int .i64 13) (.string ⟨#[]⟩) (.int .i64 0) (.slice none 0 0) (.slice none 0 0) (.slice (some ⟨w3.heap.size,0,none⟩) 2 2)
    unfold st6 at hst hsz
    generalize (((((w3.setCell _ _).setCell _ _).setCell _ _).setCell _ _).setCell _ _).setCell _ _=w9 at hst hsz ⊢
    have hrow:(w9.alloc (.cells #[.int .i64 f.kind,.string ⟨f.name.toArray⟩,.int .i64 f.n,.slice x.t.a f.terms.length x.t.cap,.slice x.b.a f.binds.length x.b.cap,.slice x.l.a f.l.length x.l.cap,.int .i64 g.kind,.string ⟨g.name.toArray⟩,.int .i64 g.n,.slice y.t.a g.terms.length y.t.cap,.slice y.b.a g.binds.length y.b.cap,.slice y.l.a g.l.length y.l.cap] 28)).heap[w3.heap.size]?=some (.cells #[.int .i64 f.kind,.string ⟨f.name.toArray⟩,.int .i64 f.n,.slice x.t.a f.terms.length x.t.cap,.slice x.b.a f.binds.length x.b.cap,.slice x.l.a f.l.length x.l.cap,.int .i64 g.kind,.string ⟨g.name.toArray⟩,.int .i64 g.n,.slice y.t.a g.terms.length y.t.cap,.slice y.b.a g.binds.length y.b.cap,.slice y.l.a g.l.length y.l.cap] 28 (0,0)):=by rw [<- hsz];exact heap_alloc_new _ _
    have hb9:Below w9.heap.size w9 (w9.alloc (.cells #[.int .i64 f.kind,.string ⟨f.name.toArray⟩,.int .i64 f.n,.slice x.t.a f.terms.length x.t.cap,.slice x.b.a f.binds.length x.b.cap,.slice x.l.a f.l.length x.l.cap,.int .i64 g.kind,.string ⟨g.name.toArray⟩,.int .i64 g.n,.slice y.t.a g.terms.length y.t.cap,.slice y.b.a g.binds.length y.b.cap,.slice y.l.a g.l.length y.l.cap] 28)):=below_new _ _
    generalize w9.alloc (.cells #[.int .i64 f.kind,.string ⟨f.name.toArray⟩,.int .i64 f.n,.slice x.t.a f.terms.length x.t.cap,.slice x.b.a f.binds.length x.b.cap,.slice x.l.a f.l.length x.l.cap,.int .i64 g.kind,.string ⟨g.name.toArray⟩,.int .i64 g.n,.slice y.t.a g.terms.length y.t.cap,.slice y.b.a g.binds.length y.b.cap,.slice y.l.a g.l.length y.l.cap] 28)=wz at hrow hb9 ⊢
    have hmz:Chalk.Mod (fun k=>k=w.heap.size) w3 wz:=hst.trans (Chalk.Mod.of_below (S:=fun k=>k=w.heap.size) hb9) (fun _ _ h=>h)
    have hzz:=(gS hrow).1
    have hw0:=H0.out.2.2.2.2.2.1
    have hz1:=H3.out.2.2.2.2.2.1
    have hz2:=H3.out.2.2.2.2.2.2
    have hz3:w2.drew.heap.size=w2.heap.size:=rfl
    have hw1:=HB1.out
    refine PFrm.ok (x:=⟨noS,noS,⟨some ⟨w3.heap.size,0,none⟩,w3.heap.size,0,2⟩⟩) HRF.out (mod_one (HWM.out w3 H3.out.2.1) hmz (Nat.le_refl _)) (node_two hrow ⟨by omega,hzz⟩ ((H3.out.2.2.2.1.modB hmz (fun k hk=>by omega)).lower (by omega)) ((H3.out.2.2.2.2.1.modB hmz (fun k hk=>by omega)).lower (by omega)) (by decide)) (H3.out.1.one hmz H0.out.2.2.2.1)
end Go.Proofs.YtpmalchlecnjbaaGreatDoor
/- The parser of layer syntax: bracketed. (written by tools/gen_ppf.py) -/
namespace Go.Proofs.YtpmalchlecnjbaaGreatDoor
open Go.RowKit Go.Chalk
attribute [local go_sem] Oper.semAt_some
theorem pbracketed_any (P:Nat) (w0:World) (hP:w0.heap.size<=P) (l:List Tok) (hF:∀ l',l'.length<l.length->FOk w0 P 40 parF l') (w:World) (h:PAt w P l) (hg:GB w0 w):Calls Tryz.prog 188 #[.pointer (some ⟨P,0,none⟩)] w (PFrm w P (parBrk l)):=by
 obtain ⟨R,hR⟩:∃ R,R=parBrk l:=⟨_,rfl⟩
 rw [<- hR]
 obtain ⟨W0,hW0⟩:∃ W0,W0=w.alloc (.cells #[.int .i64 0,.string ⟨#[]⟩,.int .i64 0,.slice none 0 0,.slice none 0 0,.slice none 0 0] 28):=⟨_,rfl⟩
 have hb0:Below w.heap.size w W0:=by rw [hW0];exact below_new _ _
 have hbx:W0.heap[w.heap.size]?=some (.cells #[.int .i64 0,.string ⟨#[]⟩,.int .i64 0,.slice none 0 0,.slice none 0 0,.slice none 0 0] 28 (0,0)):=by rw [hW0];exact heap_alloc_new _ _
 have hPl:=h.lt
 have HZ:=Lh (fun (W':World) (hW:Chalk.Mod (fun k=>k=P) W0 W')=>(heap_kept hbx hW (by omega):W'.heap[w.heap.size]?=some (.cells #[.int .i64 0,.string ⟨#[]⟩,.int .i64 0,.slice none 0 0,.slice none 0 0,.slice none 0 0] 28 (0,0))))
 have HE:=Lh (fun (W':World) (hW:Chalk.Mod (fun k=>k=P) W0 W')=>(show W'.cell? ⟨w.heap.size,0,none⟩=some (.int .i64 0)/\W'.cell? ⟨w.heap.size,1,none⟩=some (.string ⟨#[]⟩)/\W'.cell? ⟨w.heap.size,2,none⟩=some (.int .i64 0)/\W'.cell? ⟨w.heap.size,3,none⟩=some (.slice none 0 0)/\W'.cell? ⟨w.heap.size,4,none⟩=some (.slice none 0 0)/\W'.cell? ⟨w.heap.size,5,none⟩=some (.slice none 0 0)/\W'.frozen? ⟨w.heap.size,0,none⟩=false/\W'.frozen? ⟨w.heap.size,1,none⟩=false/\W'.frozen? ⟨w.heap.size,2,none⟩=false/\W'.frozen? ⟨w.heap.size,3,none⟩=false/\W'.frozen? ⟨w.heap.size,4,none⟩=false/\W'.frozen? ⟨w.heap.size,5,none⟩=false/\w.heap.size<W'.heap.size from by
  have e0:=HZ.out W' hW
  exact ⟨cH e0 rfl,cH e0 rfl,cH e0 rfl,cH e0 rfl,cH e0 rfl,cH e0 rfl,fH e0,fH e0,fH e0,fH e0,fH e0,fH e0,(gS e0).1⟩))
 have hs0:W0.heap.size=w.heap.size+1:=by rw [hW0];simp
 have H0:=Lh (aI (h.below hb0) (aI (Chalk.Mod.refl (fun k=>k=P) W0) (aI (hg.below hb0) (aI hPl (aI (Chalk.Mod.of_below (S:=fun k=>k=P) hb0) (aI hs0 hP))))))
 have HW0:=Lh hW0
 have HGB:=Lh (fun (W:World) (hm:Chalk.Mod (fun k=>k=P) W0 W)=>(hg.below hb0).mod hP hm)
 have HWM:=Lh (fun (W:World) (hm:Chalk.Mod (fun k=>k=P) W0 W)=>(Chalk.Mod.of_below (S:=fun k=>k=P) hb0).trans hm (fun _ _ h=>h))
 have HFF:=Lh hF
 have hlt:l.tail.length<l.length:=by obtain ⟨t,r,e⟩:=h.1.cons;rw [e];simp
 rw [parBrk_eq] at hR
 clear h hg hP hb0 hbx hs0 hW0 hF
 cases hA:isT [40] l with
 | false =>
  have HB:=Lh (show R=.bad (atT l) by rw [hR];simp only [Rs.bind,pWant,hA,Bool.false_eq_true,if_false])
  have HA:=Lh (fun (W:World) (hp:PAt W P l)=>pwant_no P [40] l W hp hA)
  clear hR hA hlt
  go_enter Tryz.func188,Tryz.ntmps188
  go_wp2_with fail
  rw [<- HW0.out]
  refine (HA.out W0 H0.out.1).mono ?_
  rintro e w1 ⟨rfl,hm⟩
  exact ⟨rfl,PFrm.bad HB.out (HWM.out w1 hm)⟩
 | true =>
  have HA:=Lh (fun (W:World) (hp:PAt W P l)=>pwant_yes P [40] l W hp hA)
  have HCF:=Lh (HFF.out l.tail hlt)
  cases hO:parF l.tail with
  | bad m =>
   have HB:=Lh (show R=.bad m by rw [hR];simp only [Rs.bind,pWant,hA,if_true,hO])
   have HPO:=Lh hO
   clear hR hA hlt hO
   go_enter Tryz.func188,Tryz.ntmps188
   go_wp2_with fail
   rw [<- HW0.out]
   refine (HA.out W0 H0.out.1).mono ?_
   rintro e w1 ⟨rfl,hp,hm⟩
   have H1:=Lh (aI hp hm)
   clear hp hm
   go_wp2_with fail
   refine (HCF.out w1 H1.out.1 (HGB.out w1 H1.out.2)).mono ?_
   rintro e w2 hp
   obtain ⟨rfl,hm⟩:=hp.fails HPO.out
   exact ⟨rfl,PFrm.bad HB.out (HWM.out w2 (H1.out.2.trans hm (fun _ _ h=>h)))⟩
  | ok f r =>
   have HPO:=Lh hO
   cases hA2:isT [41] r with
   | false =>
    have HB:=Lh (show R=.bad (atT r) by rw [hR];simp only [Rs.bind,pWant,hA,if_true,hO,hA2,Bool.false_eq_true,if_false])
    have HA2:=Lh (fun (W:World) (hp:PAt W P r)=>pwant_no P [41] r W hp hA2)
    clear hR hA hlt hO hA2
    go_enter Tryz.func188,Tryz.ntmps188
    go_wp2_with fail
    rw [<- HW0.out]
    refine (HA.out W0 H0.out.1).mono ?_
    rintro e w1 ⟨rfl,hp,hm⟩
    have H1:=Lh (aI hp hm)
    clear hp hm
    go_wp2_with fail
    refine (HCF.out w1 H1.out.1 (HGB.out w1 H1.out.2)).mono ?_
    rintro e w2 hp
    obtain ⟨x,rfl,hx,hp2,hm2⟩:=hp.gets HPO.out
    obtain ⟨B1,hB1⟩:∃ B1,B1=w2.heap.size:=⟨_,rfl⟩
    have hz0:=H0.out.2.2.2.2.2.1
    have hs1:=H1.out.2.size
    have hs2:=hm2.size
    have HB1:Hid (w.heap.size<B1/\P<B1):=Lh ⟨by omega,by have:=H0.out.2.2.2.1;omega⟩
    have hb1:Below w2.heap.size w2 (w2.alloc (.cells #[.int .i64 f.kind,.string ⟨f.name.toArray⟩,.int .i64 f.n,.slice x.t.a f.terms.length x.t.cap,.slice x.b.a f.binds.length x.b.cap,.slice x.l.a f.l.length x.l.cap] 28)):=below_new _ _
    have hbx1:(w2.alloc (.cells #[.int .i64 f.kind,.string ⟨f.name.toArray⟩,.int .i64 f.n,.slice x.t.a f.terms.length x.t.cap,.slice x.b.a f.binds.length x.b.cap,.slice x.l.a f.l.length x.l.cap] 28)).heap[B1]?=some (.cells #[.int .i64 f.kind,.string ⟨f.name.toArray⟩,.int .i64 f.n,.slice x.t.a f.terms.length x.t.cap,.slice x.b.a f.binds.length x.b.cap,.slice x.l.a f.l.length x.l.cap] 28 (0,0)):=by rw [hB1];exact heap_alloc_new _ _
    have H2:=Lh (aI hx (aI hp2 (aI (H1.out.2.trans hm2 (fun _ _ h=>h)) hs1)))
    clear hp hx hp2 hm2 hs1 hz0 hs2
    go_wp2_with fail
    rw [<- hB1]
    generalize w2.alloc (.cells #[.int .i64 f.kind,.string ⟨f.name.toArray⟩,.int .i64 f.n,.slice x.t.a f.terms.length x.t.cap,.slice x.b.a f.binds.length x.b.cap,.slice x.l.a f.l.length x.l.cap] 28)=W1 at hb1 hbx1 ⊢
    have HS:=Lh (aI (H2.out.2.1.below hb1) (aI (H2.out.2.2.1.trans (Chalk.Mod.of_below (S:=fun k=>k=P) hb1) (fun _ _ h=>h)) (aI hbx1 hb1)))
    clear hb1 hbx1 hB1
    refine (HA2.out W1 HS.out.1).mono ?_
    rintro e w3 ⟨rfl,hm⟩
    exact ⟨rfl,PFrm.bad HB.out (HWM.out w3 (HS.out.2.1.trans hm (fun _ _ h=>h)))⟩
   | true =>
    have HB:=Lh (show R=.ok f r.tail by rw [hR];simp only [Rs.bind,pWant,hA,if_true,hO,hA2])
    have HA2:=Lh (fun (W:World) (hp:PAt W P r)=>pwant_yes P [41] r W hp hA2)
    clear hR hA hlt hO hA2
    go_enter Tryz.func188,Tryz.ntmps188
    go_wp2_with fail
    rw [<- HW0.out]
    refine (HA.out W0 H0.out.1).mono ?_
    rintro e w1 ⟨rfl,hp,hm⟩
    have H1:=Lh (aI hp hm)
    clear hp hm
    go_wp2_with fail
    refine (HCF.out w1 H1.out.1 (HGB.out w1 H1.out.2)).mono ?_
    rintro e w2 hp
    obtain ⟨x,rfl,hx,hp2,hm2⟩:=hp.gets HPO.out
    obtain ⟨B1,hB1⟩:∃ B1,B1=w2.heap.size:=⟨_,rfl⟩
    have hz0:=H0.out.2.2.2.2.2.1
    have hs1:=H1.out.2.size
    have hs2:=hm2.size
    have HB1:Hid (w.heap.size<B1/\P<B1):=Lh ⟨by omega,by have:=H0.out.2.2.2.1;omega⟩
    have hb1:Below w2.heap.size w2 (w2.alloc (.cells #[.int .i64 f.kind,.string ⟨f.name.toArray⟩,.int .i64 f.n,.slice x.t.a f.terms.length x.t.cap,.slice x.b.a f.binds.length x.b.cap,.slice x.l.a f.l.length x.l.cap] 28)):=below_new _ _
    have hbx1:(w2.alloc (.cells #[.int .i64 f.kind,.string ⟨f.name.toArray⟩,.int .i64 f.n,.slice x.t.a f.terms.length x.t.cap,.slice x.b.a f.binds.length x.b.cap,.slice x.l.a f.l.length x.l.cap] 28)).heap[B1]?=some (.cells #[.int .i64 f.kind,.string ⟨f.name.toArray⟩,.int .i64 f.n,.slice x.t.a f.terms.length x.t.cap,.slice x.b.a f.binds.length x.b.cap,.slice x.l.a f.l.length x.l.cap] 28 (0,0)):=by rw [hB1];exact heap_alloc_new _ _
    have H2:=Lh (aI hx (aI hp2 (aI (H1.out.2.trans hm2 (fun _ _ h=>h)) hs1)))
    clear hp hx hp2 hm2 hs1 hz0 hs2
    go_wp2_with fail
    rw [<- hB1]
    generalize w2.alloc (.cells #[.int .i64 f.kind,.string ⟨f.name.toArray⟩,.int .i64 f.n,.slice x.t.a f.terms.length x.t.cap,.slice x.b.a f.binds.length x.b.cap,.slice x.l.a f.l.length x.l.cap] 28)=W1 at hb1 hbx1 ⊢
    have HS:=Lh (aI (H2.out.2.1.below hb1) (aI (H2.out.2.2.1.trans (Chalk.Mod.of_below (S:=fun k=>k=P) hb1) (fun _ _ h=>h)) (aI hbx1 hb1)))
    clear hb1 hbx1 hB1
    refine (HA2.out W1 HS.out.1).mono ?_
    rintro e w3 ⟨rfl,hp3,hm3⟩
    have hx3:=heap_kept HS.out.2.2.1 hm3 (by have:=HB1.out;omega)
    have b0:w3.cell? ⟨B1,0,none⟩=some (.int .i64 f.kind):=cH hx3 rfl
    have b1:w3.cell? ⟨B1,1,none⟩=some (.string ⟨f.name.toArray⟩):=cH hx3 rfl
    have b2:w3.cell? ⟨B1,2,none⟩=some (.int .i64 f.n):=cH hx3 rfl
    have b3:w3.cell? ⟨B1,3,none⟩=some (.slice x.t.a f.terms.length x.t.cap):=cH hx3 rfl
    have b4:w3.cell? ⟨B1,4,none⟩=some (.slice x.b.a f.binds.length x.b.cap):=cH hx3 rfl
    have b5:w3.cell? ⟨B1,5,none⟩=some (.slice x.l.a f.l.length x.l.cap):=cH hx3 rfl
    have H3:=Lh (aI hp3 (aI (HS.out.2.1.trans hm3 (fun _ _ h=>h)) ((Chalk.Mod.of_below (S:=fun k=>k=P) HS.out.2.2.2).trans hm3 (fun _ _ h=>h))))
    clear hp3 hm3 hx3
    obtain ⟨x0,x1,x2,x3,x4,x5,fz0,fz1,fz2,fz3,fz4,fz5,hrl⟩:=HE.out w3 H3.out.2.1
    go_wp2_with fail
    refine bodyPost_ret (v:=.agg #[.int .i64 f.kind,.string ⟨f.name.toArray⟩,.int .i64 f.n,.slice x.t.a f.terms.length x.t.cap,.slice x.b.a f.binds.length x.b.cap,.slice x.l.a f.l.length x.l.cap]) (by simp [results,Tryz.results188,go_sem, *]) rfl ?_
    exact PFrm.last HB.out (HWM.out w3 H3.out.2.1) H0.out.2.2.2.1 (show w.heap.size<w1.heap.size by have:=H0.out.2.2.2.2.2.1;have:=H2.out.2.2.2;omega) (H2.out.1.modB H3.out.2.2 (fun k hk=>by have:=H0.out.2.2.2.2.2.1;have:=H2.out.2.2.2;have:=H0.out.2.2.2.1;omega)) H3.out.1
end Go.Proofs.YtpmalchlecnjbaaGreatDoor
