/- Joined texts: YLexD, YLexE, YLexF, YLexG. -/
import Derived.Test.YtpmalchlecnjbaaGreatDoorV27
import Derived.Test.YtpmalchlecnjbaaGreatDoorV04
import Derived.Deep.AppendLies
import Derived.ScopeJumps
import Derived.IntWalk
set_option maxHeartbeats 2000000
set_option maxRecDepth 100000
set_option linter.unusedVariables false
set_option linter.unusedSimpArgs false
/- Tokens in memory; lex.Tokens. -/
namespace Go.Chalk
open Go.RowKit
def Tok.toD (t:Tok):D:=.st [.int .i64 t.kind,.str ⟨t.text.toArray⟩,.int .i64 (t.at_:Int)]
def Tok.ok (t:Tok):Prop:=0<=t.kind/\t.kind<=4/\t.text.length<=281474976710656/\t.at_<=281474976710656
theorem size_mk (l:Bs):(⟨l.toArray⟩:ByteArray).size=l.length:=by show l.toArray.size=_;simp
theorem Tok.at {w:World} {F:Nat->Prop} (t:Tok) (h:t.ok):DsAt w F [t.toD] [.int .i64 t.kind,.string ⟨t.text.toArray⟩,.int .i64 (t.at_:Int)]:=by
 obtain ⟨h1,h2,h3,h4⟩:=h
 rw [DsAt]
 refine ⟨_,[],(List.append_nil _).symm,?_,by rw [DsAt]⟩
 rw [Tok.toD,DAt,DsAt]
 refine ⟨[.int .i64 t.kind],_,rfl,by rw [DAt];exact ⟨rfl,WalkArith.wf_i64 ⟨by omega,by omega⟩⟩,?_⟩
 rw [DsAt]
 refine ⟨[.string ⟨t.text.toArray⟩],_,rfl,by rw [DAt];exact ⟨rfl,by rw [size_mk];unfold maxLen;omega⟩,?_⟩
 rw [DsAt]
 exact ⟨[.int .i64 (t.at_:Int)],[],rfl,by rw [DAt];exact ⟨rfl,WalkArith.wf_i64 ⟨by omega,by omega⟩⟩,by rw [DsAt]⟩
def OwnT (w:World) (e:TypeId) (v:Value) (q:Option Nat) (ts:List Tok):Prop:=Own w (fun _=>False) e 3 v q (ts.map Tok.toD)
theorem OwnT.nil (w:World) (e:TypeId):OwnT w e (.slice none 0 0) none []:=Own.nil _ _ _ _ (fun _ h=>h.elim)
theorem OwnT.below {w w':World} {e:TypeId} {v:Value} {q:Option Nat} {ts:List Tok} (h:OwnT w e v q ts) (hb:Below w.heap.size w w'):OwnT w' e v q ts:=Own.below h hb
theorem OwnT.form {w:World} {e:TypeId} {v:Value} {q:Option Nat} {ts:List Tok} (h:OwnT w e v q ts):∃ a cap,v=.slice a ts.length cap:=by
 obtain ⟨a,cap,h⟩:=Own.form h
 exact ⟨a,cap,by simpa using h⟩
theorem OwnT.row {w:World} {e:TypeId} {v:Value} {q:Option Nat} {ts:List Tok} (h:OwnT w e v q ts):∃ cs,w.ownsRow 0 e 3 v ts.length cs/\DsAt w (fun _=>False) (ts.map Tok.toD) cs:=by
 obtain ⟨cs,h1,h2⟩:=h.cells
 exact ⟨cs,by simpa using h1,h2⟩
theorem DsAt.nowhere {w w':World} {xs:List D} {cs:List Value} (h:DsAt w (fun _=>False) xs cs):DsAt w' (fun _=>False) xs cs:=DsAt.agree (fun _ h=>h.elim) _ _ h
theorem OwnT.push {w w':World} {e:TypeId} {g cp:Nat} {v:Value} {q:Option Nat} {ts:List Tok} {cs:List Value} (t:Tok) (ht:t.ok) (h:OwnT w e v q ts) (hcs:DsAt w (fun _=>False) (ts.map Tok.toD) cs)
  (h1:w'.ownsRow 0 e 3 (.slice (some ⟨g,0,none⟩) (ts.length+1) cp) (ts.length+1) (cs++[.int .i64 t.kind,.string ⟨t.text.toArray⟩,.int .i64 (t.at_:Int)])) (hg:w.grownBy w' v.ownBlock) (hat:v.ownBlock=some g∨g=w.heap.size) :
  OwnT w' e (.slice (some ⟨g,0,none⟩) (ts.length+1) cp) (some g) (ts++[t])/\Mod (fun k=>q=some k) w w'/\(q=some g∨g=w.heap.size):=by
 obtain ⟨g1,g2,g3⟩:=Own.appended (v':=.slice (some ⟨g,0,none⟩) (ts.length+1) cp) (ys:=[t.toD]) h hcs (by simpa using h1) hg (by rcases hat with h | h;exact .inl h.symm;exact .inr (by simp [Value.ownBlock,h])) (Tok.at t ht)
 refine ⟨?_,g2,?_⟩
 ·unfold OwnT;rw [List.map_append];exact (by simpa [Value.ownBlock] using g1)
 ·rcases g3 with h | h
  ·exact .inl h.symm
  ·exact .inr (by simpa [Value.ownBlock] using h)
end Go.Chalk
namespace Go.Chalk
open Go.RowKit Go.Proofs.YtpmalchlecnjbaaGreatDoor
structure TkRel (w wr:World) (e:TypeId) (l:Bs) (p:Nat) (lv:Value) (q:Option Nat) (acc:List Tok):Prop where
 le:p<=l.length
 len:acc.length<=p
 own:OwnT wr e lv q acc
 off:∀ k,q=some k->w.heap.size<=k
 same:lexS (l.drop p) p acc=lexS l 0 []
 below:Below w.heap.size w wr
def TkPost (w:World) (e:TypeId) (l:Bs) (ed:Ending) (w':World):Prop :=
 ∃ v q,ed=.returned (.tuple #[v,.int .i64 ((tokensF l).2.1:Int),.int .i64 (tokensF l).2.2])/\OwnT w' e v q (tokensF l).1/\(∀ k,q=some k->w.heap.size<=k)/\Below w.heap.size w w'
theorem TkPost.mk' {w w':World} {e:TypeId} {l:Bs} {v:Value} {q:Option Nat} {ts:List Tok} {p:Nat} {er:Int} (hf:tokensF l=(ts,p,er)) (hO:OwnT w' e v q ts) (hq:∀ k,q=some k->w.heap.size<=k) (hb:Below w.heap.size w w') :
  TkPost w e l (.returned (.tuple #[v,.int .i64 (p:Int),.int .i64 er])) w':=⟨v,q,by rw [hf],by rw [hf];exact hO,hq,hb⟩
theorem drop_run (q:UInt8->Bool) (l:Bs):l.drop (l.takeWhile q).length=l.dropWhile q:=by
 have h:=congrArg (List.drop (l.takeWhile q).length) (List.takeWhile_append_dropWhile (p:=q) (l:=l))
 rw [List.drop_left] at h
 exact h.symm
theorem white_three {c:UInt8} (h:whiteB c=true):c.toNat=32∨c.toNat=9∨c.toNat=10:=by
 simp only [whiteB,Bool.or_eq_true,beq_iff_eq] at h;omega
theorem line_run (l:Bs):(findBY lineB l = -1/\(l.takeWhile (fun x=>!lineB x)).length=l.length)∨∃ i:Nat,findBY lineB l=i/\(l.takeWhile (fun x=>!lineB x)).length=i:=by
 have h:=findB_run (fun x=>!lineB x) l
 simp only [Bool.not_not] at h
 rcases h with ⟨h1,h2⟩ | ⟨i,h1,h2⟩
 ·exact .inl ⟨by unfold findBY;rw [h1],h2⟩
 ·exact .inr ⟨i,by unfold findBY;rw [h1],h2⟩
theorem wp_scope_once {P:Program} {a:Act} {w:World} {Q:Exit->Act->World->Prop} {c rest:Code} (l:Nat) (J:Act->World->Prop) (μ:Act->World->Nat) (hf:findLabel c l=some (Code.skip.seq rest))
  (pass:∀ a w,J a w->rest.wp P (Exit.jump l (fun a' w'=>J a' w'/\μ a' w' < μ a w) Q) a w)
  (first:Hid (∀ a w,J a w->rest.wp P (Exit.jump l J Q) a w)->c.wp P (Exit.jump l J Q) a w):(Code.scope c).wp P Q a w :=
 wp_scope_jumps l J μ hf (first (fun a w h=>Code.wp_mono (fun e a' w' h'=>by
  cases e <;> first | exact h' | exact ⟨h'.1,h'.2.1⟩) (pass a w h))) (fun a w h=>wp_seq (wp_skip (pass a w h)))
end Go.Chalk
namespace Go.Proofs.YtpmalchlecnjbaaGreatDoor
open Go.RowKit Go.Chalk
theorem tok_info:(Tryz.prog.info? 51).map (fun i=>(i.zero,i.size,i.bytes))=some (some (.agg #[.int .i64 0,.string ⟨#[]⟩,.int .i64 0]),3,32):=by kernel_rfl

def TkJ (w:World) (l:Bs) (a:Option Addr) (cap:Nat) (a':Act) (wr:World):Prop :=
 ∃ (p:Nat) (lv:Value) (q:Option Nat) (acc:List Tok) (u5 u6 u7 u8 u9 u10 u11 u12 u13 u14 u15 u16 u17 u18 u19 u20 u21 u22 u23 u24 u25 u26 u27 u28 u29 u30 u31 u32 u33 u34 u35 u36 u37 u38 u39 u40 u41 u42 u43 u44 u45 u46 u47 u48 u49 u50 u51 u52 u53 u54 u55 u56 u57 u58 u59 u60 u61 u62 u63 u64 u65:Value),a' = { tmps:=#[.slice a l.length cap,undef,lv,.int .i64 p,.int .i64 0,u5,u6,u7,u8,u9,u10,u11,u12,u13,u14,u15,u16,u17,u18,u19,u20,u21,u22,u23,u24,u25,u26,u27,u28,u29,u30,u31,u32,u33,u34,u35,u36,u37,u38,u39,u40,u41,u42,u43,u44,u45,u46,u47,u48,u49,u50,u51,u52,u53,u54,u55,u56,u57,u58,u59,u60,u61,u62,u63,u64,u65],defers:=[] }/\TkRel w wr 51 l p lv q acc
def tkM (n:Nat) (a':Act) (_:World):Nat:=n - (intOf (a'.tmps.getD 3 undef)).toNat

theorem tokens_any (l:Bs) (a:Option Addr) (b o cap:Nat) (w:World) (hsb:SB w w.heap.size l a b o) (hcap:l.length<=cap) (hg:GAt w) :
  Calls Tryz.prog 26 #[.slice a l.length cap] w (TkPost w 51 l):=by
 by_cases hbig:16384<l.length
 ·have hf:tokensF l=([],0,2):=by unfold tokensF;rw [if_pos hbig]
  have HF:Hid (∀ e w',e=.returned (.tuple #[.slice none 0 0,.int .i64 0,.int .i64 2])->w'=w->TkPost w 51 l e w'):=by
   rintro e w' rfl rfl
   exact ⟨.slice none 0 0,none,by rw [hf];rfl,by rw [hf];exact OwnT.nil _ _,fun k hk=>(by cases hk),Below.refl _ _⟩
  clear hf hsb hg
  have hbig':decide ((16384:Int)<(l.length:Int))=true:=by simp;omega
  go_enter Tryz.func26,Tryz.ntmps26
  go_wp2_with fail
  go_step3
  go_wp2_with fail
  try rw [Exit.noGoto_ret]
  go_ret3
  exact HF.out _ _ rfl rfl
 ·have hf:tokensF l=lexS l 0 []:=by unfold tokensF;rw [if_neg hbig]
  have HSB:=Lh hsb
  have HG:=Lh hg
  have HTF:=Lh hf
  have hbig':decide ((16384:Int)<(l.length:Int))=false:=by simp;omega
  obtain ⟨i0,hi,hz0,hz1,hz2⟩:=info_parts tok_info
  clear hf hsb hg
  go_enter Tryz.func26,Tryz.ntmps26
  go_wp2_with fail
  refine wp_scope_once 0 (TkJ w l a cap) (tkM l.length) rfl ?_ (fun HREST=>?_)
  ·rintro a' wr ⟨p,lv,q,acc,u5,u6,u7,u8,u9,u10,u11,u12,u13,u14,u15,u16,u17,u18,u19,u20,u21,u22,u23,u24,u25,u26,u27,u28,u29,u30,u31,u32,u33,u34,u35,u36,u37,u38,u39,u40,u41,u42,u43,u44,u45,u46,u47,u48,u49,u50,u51,u52,u53,u54,u55,u56,u57,u58,u59,u60,u61,u62,u63,u64,u65,rfl,R⟩
   obtain ⟨hle,hln,hown,hoff,hsame,hbel⟩:=R
   have HOFF:=Lh hoff
   have HBEL:=Lh hbel
   have HSAME:=Lh hsame
   have HOWN:=Lh hown
   have hle':p<=16384:=by omega
   obtain ⟨la,lcap,rfl⟩:=hown.form
   obtain ⟨cs0,hrow,hds⟩:=hown.row
   have HROW:=Lh hrow
   have HDS:=Lh hds
   obtain ⟨kl,hkl⟩:∃ kl,kl=acc.length:=⟨_,rfl⟩
   rw [<- hkl] at HROW HOWN hln ⊢
   have HKL:=Lh hkl
   clear hoff hbel hsame hown hrow hds hkl
   by_cases hend:p=l.length
   ·subst hend
    have hfin:tokensF l=(acc++[⟨4,[],l.length⟩],0,0):=by
     rw [HTF.out,<- HSAME.out,List.drop_length,lexS_end]
    have HFIN:=Lh hfin
    have HROW2:Hid ((wr.alloc (.cells #[.int .i64 4,.string ⟨#[]⟩,.int .i64 (l.length:Int)] 51)).ownsRow 0 51 3 (.slice la kl lcap) kl cs0):=ownsRow_below HROW.out ((Below.refl _ _).alloc (Nat.le_refl _) _)
    have HOWN2:Hid (OwnT (wr.alloc (.cells #[.int .i64 4,.string ⟨#[]⟩,.int .i64 (l.length:Int)] 51)) 51 (.slice la kl lcap) q acc):=HOWN.out.below ((Below.refl _ _).alloc (Nat.le_refl _) _)
    clear hfin
    go_wp2_with (at_builtin;go_must (refine wpList_append_lies _ rfl _ _ 47 rfl 0 51 i0 _ 3 32 Tryz.underlying47 hi hz0 hz1 hz2 rfl (by decide) (.slice la kl lcap) _ _ rfl HROW2.out ⟨wr.heap.size,0,none⟩ 1 1 [.int .i64 4,.string ⟨#[]⟩,.int .i64 (l.length:Int)] rfl rfl (World.news_of_block (heap_alloc_new wr _)) (by simp [Value.oneCell']) (by omega) (by unfold maxLen;omega) (by omega) (Nat.zero_le _) (wr.heap.size+1) (by simp) ?_);intro g cp w3 hown hgrow hat hglt;have HO3:=Lh hown;have HGR:=Lh hgrow;have HAT:=Lh hat;clear hown hgrow hat)
    simp only [Exit.jump]
    go_ret3
    have hKL:=HKL.out
    subst hKL
    obtain ⟨g1,g2,g3⟩:=HOWN2.out.push ⟨4,[],l.length⟩ ⟨by show (0:Int)<=4;decide,by show (4:Int)<=4;decide,by simp,by show l.length<=_;omega⟩ HDS.out.nowhere HO3.out HGR.out (by simpa using HAT.out)
    refine TkPost.mk' (p:=0) HFIN.out g1 (fun k hk=>?_) (HBEL.out.trans ((((Below.refl _ _).alloc (Nat.le_refl _) _).mono HBEL.out.size).trans (g2.below (by have:=HBEL.out.size;simp;omega) (fun k hk=>HOFF.out k hk))))
    have hs:=HBEL.out.size
    cases hk
    rcases g3 with h | h
    ·exact HOFF.out _ h
    ·rw [h];simp;omega
   ·have hlt:p<l.length:=by omega
    have hdrop:l.drop p=l[p] :: l.drop (p+1):=List.drop_eq_getElem_cons hlt
    rw [hdrop] at HSAME
    obtain ⟨rfl,hbl⟩:=HSB.out.1 (by omega)
    have hcl:=(HBEL.out.cell (p:=⟨b,o+p,none⟩) hbl).trans (HSB.out.2 p hlt)
    have hpne:((p:Int)==(l.length:Int))=false:=by simp;omega
    have HDROP:=Lh hdrop
    clear hdrop
    by_cases hw:whiteB l[p]=true
    ·have hnew:lexS (l.drop (p+1)) (p+1) acc=lexS l 0 []:=by rw [<- HSAME.out,lexS_white hw]
     have HR2:Hid (TkRel w wr 51 l (p+1) (.slice la kl lcap) q acc):=⟨by omega,by have:=HKL.out;omega,HOWN.out,HOFF.out,hnew,HBEL.out⟩
     clear hnew
     rcases white_three hw with h | h | h
     all_goals
      rw [h] at hcl
      clear h hw
      go_wp2_with fail
      go_step3
      rw [show (p:Int)+1=((p+1:Nat):Int) from by omega]
      exact ⟨rfl,⟨p+1,_,q,acc,_,_,_,_,_,_,_,_,_,_,_,_,_,_,_,_,_,_,_,_,_,_,_,_,_,_,_,_,_,_,_,_,_,_,_,_,_,_,_,_,_,_,_,_,_,_,_,_,_,_,_,_,_,_,_,_,_,_,_,_,_,rfl,HR2.out⟩,by simp [tkM,intOf];omega⟩
    ·simp only [Bool.not_eq_true] at hw
     by_cases hh:hashB l[p]=true
     ·have hsb2:SB wr wr.heap.size (l.drop p) (some ⟨b,o+p,none⟩) b (o+p):=⟨fun _=>⟨rfl,Nat.lt_of_lt_of_le hbl HBEL.out.size⟩,((HSB.out.below HBEL.out HBEL.out.size).2).drop p⟩
      have HIX:=Lh (indexLine_any (l.drop p) _ b (o+p) (cap - p) wr hsb2 (by rw [List.length_drop];omega))
      have h35:l[p].toNat=35:=by simpa [hashB] using hh
      rw [h35] at hcl
      have hnew:=HSAME.out
      rw [lexS_hash hh,<- HDROP.out] at hnew
      rw [List.length_drop] at HIX
      have hrl:((l.drop p).takeWhile (fun x=>!lineB x)).length<=l.length - p:=by
       have:=(List.takeWhile_sublist (fun x=>!lineB x) (l:=l.drop p)).length_le
       rwa [List.length_drop] at this
      have hrp:0<((l.drop p).takeWhile (fun x=>!lineB x)).length:=by
       rw [HDROP.out,List.takeWhile_cons,if_pos (by simp [lineB,h35])];simp
      rw [<- drop_run,List.drop_drop] at hnew
      have HLR:=Lh (line_run (l.drop p))
      generalize ((l.drop p).takeWhile (fun x=>!lineB x)).length=k at *
      generalize findBY lineB (l.drop p)=fb at *
      have HR2:Hid (TkRel w wr 51 l (p+k) (.slice la kl lcap) q acc):=⟨by omega,by have:=HKL.out;omega,HOWN.out,HOFF.out,by rw [hnew],HBEL.out⟩
      clear hnew hw hh h35 hsb2
      rcases HLR.out with ⟨rfl,h2⟩ | ⟨i,rfl,h2⟩
      ·rw [List.length_drop] at h2
       have hpk:(p:Int)+((l.length:Int) - (p:Int))=((p+k:Nat):Int):=by omega
       have HPK:=Lh hpk
       clear h2 hpk HLR
       go_wp2_with (go_at_call 53;refine HIX.out.mono ?_;rintro e w' ⟨rfl,rfl⟩)
       go_step3
       rw [HPK.out]
       exact ⟨rfl,⟨p+k,_,q,acc,_,_,_,_,_,_,_,_,_,_,_,_,_,_,_,_,_,_,_,_,_,_,_,_,_,_,_,_,_,_,_,_,_,_,_,_,_,_,_,_,_,_,_,_,_,_,_,_,_,_,_,_,_,_,_,_,_,_,_,_,_,rfl,HR2.out⟩,by simp [tkM,intOf];omega⟩
      ·subst h2
       clear HLR
       go_wp2_with (go_at_call 53;refine HIX.out.mono ?_;rintro e w' ⟨rfl,rfl⟩)
       go_step3
       rw [show (p:Int)+(k:Int)=((p+k:Nat):Int) from by omega]
       exact ⟨rfl,⟨p+k,_,q,acc,_,_,_,_,_,_,_,_,_,_,_,_,_,_,_,_,_,_,_,_,_,_,_,_,_,_,_,_,_,_,_,_,_,_,_,_,_,_,_,_,_,_,_,_,_,_,_,_,_,_,_,_,_,_,_,_,_,_,_,_,_,rfl,HR2.out⟩,by simp [tkM,intOf];omega⟩
     ·simp only [Bool.not_eq_true] at hh
      have hsb2:SB wr wr.heap.size (l.drop p) (some ⟨b,o+p,none⟩) b (o+p):=⟨fun _=>⟨rfl,Nat.lt_of_lt_of_le hbl HBEL.out.size⟩,((HSB.out.below HBEL.out HBEL.out.size).2).drop p⟩
      have hlen:(l[p] :: l.drop (p+1)).length=l.length - p:=by rw [<- HDROP.out,List.length_drop]
      have HNX:=Lh (next_any l[p] (l.drop (p+1)) b (o+p) (cap - p) wr (by rw [<- HDROP.out];exact hsb2) (by rw [hlen];omega) (by rw [hlen];omega) (HG.out.below HBEL.out))
      rw [hlen] at HNX
      have h32:((l[p].toNat:Int)==32)=false:=by simp only [whiteB,Bool.or_eq_false_iff,beq_eq_false_iff_ne] at hw;simp;omega
      have h9:((l[p].toNat:Int)==9)=false:=by simp only [whiteB,Bool.or_eq_false_iff,beq_eq_false_iff_ne] at hw;simp;omega
      have h10:((l[p].toNat:Int)==10)=false:=by simp only [whiteB,Bool.or_eq_false_iff,beq_eq_false_iff_ne] at hw;simp;omega
      have h35:((l[p].toNat:Int)==35)=false:=by simp only [hashB,beq_eq_false_iff_ne] at hh;simp;omega
      generalize hcn:(l[p].toNat:Int)=cn at *
      cases hok:(nextF (l[p] :: l.drop (p+1))).2.2
      ·rw [hok] at HNX
       have hfin:tokensF l=([],p,50):=by rw [HTF.out,<- HSAME.out,lexS_bad hw hh hok]
       have HFIN:=Lh hfin
       clear hfin hw hh hok hsb2 hlen hcn
       generalize (nextF (l[p] :: l.drop (p+1))).1=kd at *
       generalize (nextF (l[p] :: l.drop (p+1))).2.1=tx at *
       go_wp2_with (go_at_call 54;refine HNX.out.mono ?_;rintro e w3 ⟨rfl,hb3⟩;have HB3:=Lh (HBEL.out.trans (hb3.mono HBEL.out.size));clear hb3)
       simp only [Exit.jump]
       go_ret3
       exact TkPost.mk' HFIN.out (OwnT.nil _ _) (fun k hk=>(by cases hk)) (HB3.out.alloc HB3.out.size _)
      ·rw [hok] at HNX
       have hpos:=next_pos hok
       rw [hlen] at hpos
       have hnew:=HSAME.out
       rw [lexS_tok hw hh hok,<- HDROP.out,List.drop_drop] at hnew
       have hkd:0<=(nextF (l[p] :: l.drop (p+1))).1/\(nextF (l[p] :: l.drop (p+1))).1<=4:=by
        rw [nextF];split
        ·simp
        ·split <;> simp
       rw [<- HDROP.out] at HNX hpos hkd
       clear hw hh hok hsb2 hlen hcn
       generalize (nextF (l.drop p)).1=kd at *
       generalize (nextF (l.drop p)).2.1=tx at *
       have HNEW:=Lh hnew
       clear hnew
       have htl:(⟨tx.toArray⟩:ByteArray).size=tx.length:=size_mk tx
       have HTL:=Lh htl
       clear htl
       go_wp2_with (go_at_call 54;refine HNX.out.mono ?_;rintro e w3 ⟨rfl,hb3⟩;have HB3:=Lh (HBEL.out.trans (hb3.mono HBEL.out.size));have HOW3:=Lh (HOWN.out.below hb3);have HRO3:=Lh (ownsRow_below HROW.out hb3);clear hb3)
       have hb4:Below w3.heap.size w3 (w3.alloc (.cells #[.int .i64 kd,.string ⟨tx.toArray⟩,.int .i64 (p:Int)] 51)):=(Below.refl _ _).alloc (Nat.le_refl _) _
       have hblk:=heap_alloc_new w3 (.cells #[.int .i64 kd,.string ⟨tx.toArray⟩,.int .i64 (p:Int)] 51)
       have hs4:w3.heap.size<(w3.alloc (.cells #[.int .i64 kd,.string ⟨tx.toArray⟩,.int .i64 (p:Int)] 51)).heap.size:=by simp
       generalize w3.alloc (.cells #[.int .i64 kd,.string ⟨tx.toArray⟩,.int .i64 (p:Int)] 51)=w4 at *
       have HB34:=Lh hb4
       have HBLK:=Lh hblk
       have HB5:Hid (Below w4.heap.size w4 (w4.drew.alloc (.cells #[.int .i64 kd,.string ⟨tx.toArray⟩,.int .i64 (p:Int)] 51))):=(below_undrewY (Below.refl _ _)).alloc (Nat.le_refl _) _
       have HROW5:=Lh (ownsRow_below (ownsRow_below HRO3.out hb4) HB5.out)
       have HOW5:=Lh ((HOW3.out.below hb4).below HB5.out)
       have HQ:Hid (∀ k,q=some k->k<w3.heap.size):=fun k hk=>Chalk.Own.row_lt HOW3.out hk
       have HSW:Hid (∀ W:World,W.heap[w3.heap.size]?=some (.cells #[.int .i64 kd,.string ⟨tx.toArray⟩,.int .i64 (p:Int)] 51 (0,0))->W.cell? ⟨w3.heap.size,0,none⟩=some (.int .i64 kd)/\W.cell? ⟨w3.heap.size,1,none⟩=some (.string ⟨tx.toArray⟩)/\W.cell? ⟨w3.heap.size,2,none⟩=some (.int .i64 (p:Int))):=fun W h=>⟨cH h rfl,cH h rfl,cH h rfl⟩
       have hwrap:IntKind.i64.wrap ((p:Int)+(tx.length:Int))=(p:Int)+(tx.length:Int):=IntWalk.i64_in _ (by omega)
       clear hb4 hblk
       go_region_held3 (fun w'=>w'.cell? ⟨w3.heap.size,0,none⟩=some (.int .i64 kd)/\w'.cell? ⟨w3.heap.size,1,none⟩=some (.string ⟨tx.toArray⟩)/\w'.cell? ⟨w3.heap.size,2,none⟩=some (.int .i64 (p:Int))) (first | exact HSW.out _ HBLK.out | exact HSW.out _ ((HB5.out.block _ hs4).trans HBLK.out) | exact HSW.out _ HBL5.out | fail)
        ((refine step_append_lies _ (by rfl) _ _ _ (by rfl) 0 51 i0 _ 3 32 Tryz.underlying47 hi hz0 hz1 hz2 rfl (by decide) (.slice la kl lcap) kl cs0 (by rfl) HROW5.out ⟨w4.heap.size,0,none⟩ 1 1 [.int .i64 kd,.string ⟨tx.toArray⟩,.int .i64 (p:Int)] (by rfl) (by rfl) (World.news_of_block (heap_alloc_new _ _)) (by simp [Value.oneCell']) (by omega) (by unfold maxLen;omega) (by omega) (Nat.zero_le _) (w4.heap.size+1) (by simp) ?_;intro g cp w5 hown hgrow hat hglt;have hpu:=OwnT.push ⟨kd,tx,p⟩ ⟨hkd.1,hkd.2,by show tx.length<=_;omega,by show p<=_;omega⟩ HOW5.out HDS.out.nowhere (by rw [<- HKL.out];exact hown) hgrow (by simpa using hat);have HPU:=Lh hpu;have HBL5:=Lh ((hpu.2.1.block _ (by simp;omega) (fun h=>by have:=HQ.out _ h;omega)).trans ((HB5.out.block _ hs4).trans HBLK.out));clear hpu hown hgrow hat))
       clear hwrap
       go_wp2_with fail
       go_step3
       change (0:Nat)=0/\(TkJ w l (some ⟨b,o,none⟩) cap _ _/\tkM l.length _ _<tkM l.length _ _)
       rw [show (p:Int)+(tx.length:Int)=((p+tx.length:Nat):Int) from by omega]
       obtain ⟨g1,g2,g3⟩:=HPU.out
       have hs3:=HB3.out.size
       have hs34:=HB34.out.size
       refine ⟨rfl,⟨p+tx.length,_,some g,acc++[⟨kd,tx,p⟩],_,_,_,_,_,_,_,_,_,_,_,_,_,_,_,_,_,_,_,_,_,_,_,_,_,_,_,_,_,_,_,_,_,_,_,_,_,_,_,_,_,_,_,_,_,_,_,_,_,_,_,_,_,_,_,_,_,_,_,_,_,rfl,⟨by omega,by have:=HKL.out;simp;omega,by rw [<- HKL.out] at g1;exact g1,fun k hk=>?_,by rw [<- HNEW.out],HB3.out.trans ((HB34.out.mono hs3).trans ((HB5.out.mono (by omega)).trans (g2.below (by have:=HB5.out.size;omega) (fun k hk=>HOFF.out k hk))))⟩⟩,by simp [tkM,intOf];omega⟩
       cases hk
       rcases g3 with h | h
       ·exact HOFF.out _ h
       ·rw [h];simp;omega
  ·go_wp2_with fail
   go_step3
   rename_i K hK
   refine hK _ _ (HREST.out _ _ ⟨0,_,none,[],_,_,_,_,_,_,_,_,_,_,_,_,_,_,_,_,_,_,_,_,_,_,_,_,_,_,_,_,_,_,_,_,_,_,_,_,_,_,_,_,_,_,_,_,_,_,_,_,_,_,_,_,_,_,_,_,_,_,_,_,_,rfl,⟨Nat.zero_le _,Nat.zero_le _,OwnT.nil _ _,fun k hk=>(by cases hk),rfl,Below.refl _ _⟩⟩)
end Go.Proofs.YtpmalchlecnjbaaGreatDoor
/- lex.right; slices.ContainsFunc over tokens; lex.Join. -/
namespace Go.Chalk
open Go.RowKit Go.Proofs.YtpmalchlecnjbaaGreatDoor
theorem SB.of_text (w:World) (e:TypeId) (l:Bs):SB (Lib.bytesWorld w e ⟨l.toArray⟩) (Lib.bytesWorld w e ⟨l.toArray⟩).heap.size l (some ⟨w.heap.size,0,none⟩) w.heap.size 0:=by
 refine ⟨fun _=>⟨rfl,by rw [Lib.bytesWorld_size];omega⟩,fun i hi=>?_⟩
 have:=Lib.bytesWorld_cell w e ⟨l.toArray⟩ i (by rw [size_mk];exact hi)
 rw [Nat.zero_add,this]
 simp [List.getD,hi]
def BytesV (w:World) (v:Value) (l:Bs):Prop:=∃ a b o cap,v=.slice a l.length cap/\SB w w.heap.size l a b o/\l.length<=cap
theorem BytesV.below {w w':World} {v:Value} {l:Bs} (h:BytesV w v l) (hb:Below w.heap.size w w'):BytesV w' v l:=by
 obtain ⟨a,b,o,cap,rfl,h1,h2⟩:=h
 exact ⟨a,b,o,cap,rfl,h1.below hb hb.size,h2⟩
theorem BytesV.nil (w:World):BytesV w (.slice none 0 0) []:=⟨none,0,0,0,rfl,⟨fun h=>by simp at h,fun i hi=>by simp at hi⟩,Nat.le_refl _⟩

def TksAt (w:World) (ts:List Tok) (zs:Nat->Int) (b o:Nat):Prop:=∀ i (h:i<ts.length),w.cell? ⟨b,o+i*3,none⟩=some (.int .i64 ts[i].kind)/\w.cell? ⟨b,o+i*3+1,none⟩=some (.string ⟨ts[i].text.toArray⟩)/\w.cell? ⟨b,o+i*3+2,none⟩=some (.int .i64 (zs i))
def TksV (w:World) (B:Nat) (ts:List Tok) (zs:Nat->Int) (a:Option Addr) (b o:Nat):Prop:=SlAt (·<B) a b o ts.length/\TksAt w ts zs b o
end Go.Chalk
namespace Go.Proofs.YtpmalchlecnjbaaGreatDoor
open Go.RowKit Go.Chalk
end Go.Proofs.YtpmalchlecnjbaaGreatDoor
/- lex.Join. -/
namespace Go.Chalk
open Go.RowKit Go.Proofs.YtpmalchlecnjbaaGreatDoor
end Go.Chalk
namespace Go.Proofs.YtpmalchlecnjbaaGreatDoor
open Go.RowKit Go.Chalk
end Go.Proofs.YtpmalchlecnjbaaGreatDoor
/- The reference's Same and Alike on lists that are the same. -/
namespace Go.Chalk
open Go.RowKit Go.Proofs.YtpmalchlecnjbaaGreatDoor
theorem DsAt.toks_inv {w:World} {F:Nat->Prop}:∀ {ts:List Tok} {cs:List Value},DsAt w F (ts.map Tok.toD) cs->∀ i (h:i<ts.length),cs[i*3]?=some (.int .i64 ts[i].kind)/\cs[i*3+1]?=some (.string ⟨ts[i].text.toArray⟩)/\cs[i*3+2]?=some (.int .i64 (ts[i].at_:Int))
 | [],_,_=>fun i h=>by simp at h
 | t :: r,cs,h=>by
  rw [List.map_cons,DsAt] at h
  obtain ⟨c1,c2,rfl,h1,h2⟩:=h
  rw [Tok.toD,DAt,DsAt] at h1
  obtain ⟨d1,e1,rfl,h3,h4⟩:=h1
  rw [DAt] at h3
  obtain ⟨rfl,_⟩:=h3
  rw [DsAt] at h4
  obtain ⟨d2,e2,rfl,h5,h6⟩:=h4
  rw [DAt] at h5
  obtain ⟨rfl,_⟩:=h5
  rw [DsAt] at h6
  obtain ⟨d3,e3,rfl,h7,h8⟩:=h6
  rw [DAt] at h7
  obtain ⟨rfl,_⟩:=h7
  rw [DsAt] at h8
  subst h8
  intro i hi
  cases i with
  | zero=>simp
  | succ i =>
   have:=DsAt.toks_inv (ts:=r) h2 i (by simpa using hi)
   have e:∀ k,([Value.int .i64 t.kind]++([Value.string ⟨t.text.toArray⟩]++([Value.int .i64 (t.at_:Int)]++[]))++c2)[k+3]?=c2[k]?:=fun k=>by simp
   rw [show (i+1)*3=i*3+3 from by omega,show i*3+3+1=i*3+1+3 from by omega,show i*3+3+2=i*3+2+3 from by omega,e,e,e]
   simpa using this
def placesF (ts:List Tok) (i:Nat):Int:=((ts.map Tok.at_).getD i 0:Nat)
theorem placesF_get {ts:List Tok} {i:Nat} (h:i<ts.length):placesF ts i=(ts[i].at_:Int):=by simp [placesF,List.getD,h]
theorem OwnT.read {w:World} {e:TypeId} {v:Value} {q:Option Nat} {ts:List Tok} (h:OwnT w e v q ts):∃ a b o cap,v=.slice a ts.length cap/\TksV w w.heap.size ts (placesF ts) a b o/\ts.length<=cap:=by
 obtain ⟨cs,h1,h2⟩:=h.row
 have h1':=h1
 obtain ⟨hlen,h3⟩:=h1
 rcases h3 with ⟨rfl,h0⟩ | ⟨g,cap,cur,rfl,_,hh,hc1,hc2,hc3,hc4⟩
 ·obtain rfl:ts=[]:=List.length_eq_zero_iff.1 h0
  exact ⟨none,0,0,0,rfl,⟨fun h=>by simp at h,fun i hi=>by simp at hi⟩,Nat.le_refl _⟩
 ·refine ⟨_,g,0,cap,rfl,⟨fun _=>⟨rfl,(gS hh).1⟩,fun i hi=>?_⟩,hc1⟩
  obtain ⟨k0,k1,k2⟩:=DsAt.toks_inv h2 i hi
  have hc:∀ j u,cs[j]?=some u->w.cell? ⟨g,0+j,none⟩=some u:=fun j u hu=>by
   have hj:=(List.getElem?_eq_some_iff.1 hu).1
   have:=h1'.cellAt (g:=g) (cap:=cap) j (by rw [<- hlen];exact hj)
   rw [Nat.zero_add,this,hu]
  rw [placesF_get hi]
  exact ⟨hc _ _ k0,by simpa using hc _ _ k1,by simpa using hc _ _ k2⟩
end Go.Chalk
namespace Go.Proofs.YtpmalchlecnjbaaGreatDoor
open Go.RowKit Go.Chalk
end Go.Proofs.YtpmalchlecnjbaaGreatDoor
