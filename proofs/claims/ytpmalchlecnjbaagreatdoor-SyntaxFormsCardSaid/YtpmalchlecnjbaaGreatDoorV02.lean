/- Joined texts: LexLaw, LexProps, LexProps2, LexProps3. -/
import Derived.WalkKit
set_option linter.unusedVariables false
set_option linter.unusedSimpArgs false
/- The lexer as a function of bytes: no program is named here. -/
namespace Go.Chalk
abbrev Bs:=List UInt8
def smallB (c:UInt8):Bool:=decide (97<=c.toNat)&&decide (c.toNat<=122)
def digitB (c:UInt8):Bool:=decide (48<=c.toNat)&&decide (c.toNat<=57)
def innerB (c:UInt8):Bool:=smallB c||digitB c||c.toNat==95
def whiteB (c:UInt8):Bool:=c.toNat==32||c.toNat==9||c.toNat==10
def hashB (c:UInt8):Bool:=c.toNat==35
def lineB (c:UInt8):Bool:=c.toNat==10
def wordB:Bs->Bool
 | []=>false
 | c :: r=>smallB c&&(c :: r).all innerB&&decide ((c :: r).length<=64)
def valD (l:Bs):Nat:=l.foldl (fun n c=>10*n+(c.toNat - 48)) 0
def numB:Bs->Bool
 | []=>false
 | c :: r=>(c :: r).all digitB&&(r.isEmpty||c.toNat != 48)&&decide (valD (c :: r)<=1099511627776)
def signsL:List Bs:=[[33,61],[60,61],[62,61],[45,62],[40],[41],[123],[125],[44],[58],[59],[46],[61],[60],[62],[38],[124],[33]]
def signB (l:Bs):Bs:=(signsL.find? (fun s=>s.isPrefixOf l)).getD []
def nextF:Bs->Int×Bs×Bool
 | []=>(3,[],false)
 | c :: r =>
  if smallB c then (1,(c :: r).takeWhile innerB,wordB ((c :: r).takeWhile innerB))
  else if digitB c then (2,(c :: r).takeWhile digitB,numB ((c :: r).takeWhile digitB))
  else (3,signB (c :: r),!(signB (c :: r)).isEmpty)

structure Tok where
 kind:Int
 text:Bs
 at_:Nat

def goF:Nat->Bs->Nat->List Tok->List Tok×Nat×Int
 | 0,_,_,_=>([],0,0)
 | _+1,[],at_,acc=>(acc++[⟨4,[],at_⟩],0,0)
 | f+1,c :: r,at_,acc =>
  if whiteB c then goF f r (at_+1) acc
  else if hashB c then goF f ((c :: r).dropWhile (fun x=>!lineB x)) (at_+((c :: r).takeWhile (fun x=>!lineB x)).length) acc
  else if (nextF (c :: r)).2.2 then goF f ((c :: r).drop (nextF (c :: r)).2.1.length) (at_+(nextF (c :: r)).2.1.length) (acc++[⟨(nextF (c :: r)).1,(nextF (c :: r)).2.1,at_⟩])
  else ([],at_,50)

theorem next_pos {l:Bs} (h:(nextF l).2.2=true):0<(nextF l).2.1.length/\(nextF l).2.1.length<=l.length:=by
 cases l with
 | nil=>simp [nextF] at h
 | cons c r =>
  rw [nextF] at h ⊢
  split
  ·rename_i hs
   simp only
   refine ⟨?_,(List.takeWhile_sublist _).length_le⟩
   rw [List.takeWhile_cons,if_pos (by simp [innerB,hs])];simp
  ·rename_i hs
   split
   ·rename_i hd
    simp only
    refine ⟨?_,(List.takeWhile_sublist _).length_le⟩
    rw [List.takeWhile_cons,if_pos hd];simp
   ·rename_i hd
    rw [if_neg hs,if_neg hd] at h
    simp only at h ⊢
    simp only [Bool.not_eq_true',List.isEmpty_eq_false_iff] at h
    refine ⟨List.length_pos_iff.2 h,?_⟩
    unfold signB at h ⊢
    cases hf:signsL.find? (fun s=>s.isPrefixOf (c :: r)) with
    | none=>simp [hf] at h
    | some s =>
     have:=List.find?_some hf
     simp only [Option.getD_some]
     exact (List.isPrefixOf_iff_prefix.1 this).length_le

theorem goF_fuel:∀ (f g:Nat) (l:Bs) (at_:Nat) (acc:List Tok),l.length<f->l.length<g->goF f l at_ acc=goF g l at_ acc
 | 0,_,_,_,_,h,_=>by omega
 | f+1,0,_,_,_,_,h=>by omega
 | f+1,g+1,[],_,_,_,_=>rfl
 | f+1,g+1,c :: r,at_,acc,hf,hg=>by
  simp only [List.length_cons] at hf hg
  rw [goF,goF]
  split
  ·exact goF_fuel f g r _ _ (by omega) (by omega)
  ·split
   ·rename_i hw hh
    have hl:((c :: r).dropWhile (fun x=>!lineB x)).length<=r.length:=by
     have:lineB c=false:=by
      simp only [hashB,beq_iff_eq] at hh
      simp [lineB,hh]
     rw [List.dropWhile_cons,if_pos (by simp [this])]
     exact (List.dropWhile_sublist _).length_le
    exact goF_fuel f g _ _ _ (by omega) (by omega)
   ·split
    ·rename_i hn
     have:=next_pos hn
     have hl:((c :: r).drop (nextF (c :: r)).2.1.length).length<=r.length:=by
      rw [List.length_drop,List.length_cons];omega
     exact goF_fuel f g _ _ _ (by omega) (by omega)
    ·rfl

def lexS (l:Bs) (at_:Nat) (acc:List Tok):List Tok×Nat×Int:=goF (l.length+1) l at_ acc
theorem lexS_end (at_:Nat) (acc:List Tok):lexS [] at_ acc=(acc++[⟨4,[],at_⟩],0,0):=rfl
theorem lexS_white {c:UInt8} {r:Bs} {at_:Nat} {acc:List Tok} (h:whiteB c=true):lexS (c :: r) at_ acc=lexS r (at_+1) acc:=by
 unfold lexS
 rw [List.length_cons,goF,if_pos h]
theorem lexS_hash {c:UInt8} {r:Bs} {at_:Nat} {acc:List Tok} (h:hashB c=true) :
  lexS (c :: r) at_ acc=lexS ((c :: r).dropWhile (fun x=>!lineB x)) (at_+((c :: r).takeWhile (fun x=>!lineB x)).length) acc:=by
 have hw:whiteB c=false:=by
  simp only [hashB,beq_iff_eq] at h
  simp [whiteB,h]
 have hc:lineB c=false:=by
  simp only [hashB,beq_iff_eq] at h
  simp [lineB,h]
 unfold lexS
 rw [List.length_cons,goF,if_neg (by simp [hw]),if_pos h]
 refine goF_fuel _ _ _ _ _ ?_ (by omega)
 rw [List.dropWhile_cons,if_pos (by simp [hc])]
 have:=(List.dropWhile_sublist (fun x=>!lineB x) (l:=r)).length_le
 omega
theorem lexS_tok {c:UInt8} {r:Bs} {at_:Nat} {acc:List Tok} (hw:whiteB c=false) (hh:hashB c=false) (hn:(nextF (c :: r)).2.2=true) :
  lexS (c :: r) at_ acc=lexS ((c :: r).drop (nextF (c :: r)).2.1.length) (at_+(nextF (c :: r)).2.1.length) (acc++[⟨(nextF (c :: r)).1,(nextF (c :: r)).2.1,at_⟩]):=by
 have:=next_pos hn
 unfold lexS
 rw [List.length_cons,goF,if_neg (by simp [hw]),if_neg (by simp [hh]),if_pos hn]
 refine goF_fuel _ _ _ _ _ ?_ (by omega)
 rw [List.length_drop,List.length_cons];omega
theorem lexS_bad {c:UInt8} {r:Bs} {at_:Nat} {acc:List Tok} (hw:whiteB c=false) (hh:hashB c=false) (hn:(nextF (c :: r)).2.2=false):lexS (c :: r) at_ acc=([],at_,50):=by
 unfold lexS
 rw [List.length_cons,goF,if_neg (by simp [hw]),if_neg (by simp [hh]),if_neg (by simp [hn])]

def tokensF (b:Bs):List Tok×Nat×Int:=if 16384<b.length then ([],0,2) else lexS b 0 []

def rightB (t:Tok):Bool:=if t.kind=1 then wordB t.text else if t.kind=2 then numB t.text else if t.kind=3 then signsL.contains t.text else false
end Go.Chalk
/- What the lexer's function answers: places, runs. -/
namespace Go.Chalk
def nothingG:Bool->Bs->Option Bool
 | rem,[]=>some rem
 | rem,c :: r =>
  if lineB c then nothingG false r
  else if rem||hashB c then nothingG true r
  else if whiteB c then nothingG false r
  else none
theorem nothingG_append:∀ (rem:Bool) (x y:Bs),nothingG rem (x++y)=(nothingG rem x).bind (fun m=>nothingG m y)
 | rem,[],y=>rfl
 | rem,c :: r,y=>by
  rw [List.cons_append,nothingG,nothingG]
  split
  ·exact nothingG_append _ r y
  split
  ·exact nothingG_append _ r y
  split
  ·exact nothingG_append _ r y
  ·rfl
theorem nothingG_remark:∀ (x:Bs),x.all (fun c=>!lineB c)=true->nothingG true x=some true
 | [],_=>rfl
 | c :: r,h=>by
  rw [List.all_cons,Bool.and_eq_true] at h
  rw [nothingG,if_neg (by simpa using h.1),if_pos (by simp)]
  exact nothingG_remark r h.2
theorem takeWhile_all (p:UInt8->Bool):∀ l:Bs,(l.takeWhile p).all p=true
 | []=>rfl
 | c :: r=>by
  rw [List.takeWhile_cons]
  split
  ·rename_i h;rw [List.all_cons,h,takeWhile_all p r];rfl
  ·rfl
theorem dropWhile_head (p:UInt8->Bool):∀ l:Bs,l.dropWhile p=[]∨∃ c r,l.dropWhile p=c :: r/\p c=false
 | []=>.inl rfl
 | c :: r=>by
  rw [List.dropWhile_cons]
  split
  ·exact dropWhile_head p r
  ·rename_i h;exact .inr ⟨c,r,rfl,by simpa using h⟩

theorem drop_takeWhile (p:UInt8->Bool):∀ l:Bs,l.drop (l.takeWhile p).length=l.dropWhile p
 | []=>rfl
 | c :: r=>by
  rw [List.takeWhile_cons,List.dropWhile_cons]
  split
  ·rw [List.length_cons,List.drop_succ_cons];exact drop_takeWhile p r
  ·rfl
def tkPlacesB (b:Bs):List Tok->Nat->Bool
 | [],e=>e==b.length
 | t :: r,e=>decide (e<=t.at_)&&decide (t.at_+t.text.length<=b.length)&&((b.drop t.at_).take t.text.length==t.text)&&(nothingG false ((b.drop e).take (t.at_ - e))).isSome&&tkPlacesB b r (t.at_+t.text.length)

theorem next_prefix {l:Bs} (h:(nextF l).2.2=true):l.take (nextF l).2.1.length=(nextF l).2.1:=by
 cases l with
 | nil=>simp [nextF] at h
 | cons c r =>
  rw [nextF] at h ⊢
  split
  ·exact List.prefix_iff_eq_take.1 (List.takeWhile_prefix _) |>.symm
  ·rename_i hs
   split
   ·exact List.prefix_iff_eq_take.1 (List.takeWhile_prefix _) |>.symm
   ·rename_i hd
    rw [if_neg hs,if_neg hd] at h
    simp only at h ⊢
    simp only [Bool.not_eq_true',List.isEmpty_eq_false_iff] at h
    unfold signB at h ⊢
    cases hf:signsL.find? (fun s=>s.isPrefixOf (c :: r)) with
    | none=>simp [hf] at h
    | some s =>
     have:=List.find?_some hf
     simp only [Option.getD_some]
     exact (List.prefix_iff_eq_take.1 (List.isPrefixOf_iff_prefix.1 this)).symm

theorem goF_places (b:Bs):∀ (f:Nat) (l:Bs) (at_ e:Nat) (acc res:List Tok) (rem:Bool) (x:Nat),l.length<f->b.drop at_=l->at_+l.length=b.length->e<=at_->nothingG false ((b.drop e).take (at_ - e))=some rem->(rem=true->l=[]∨∃ c r,l=c :: r/\lineB c=true) ->
  goF f l at_ acc=(res,x,0)->∃ toks,res=acc++toks/\tkPlacesB b toks e=true/\toks ≠ []
 | 0,_,_,_,_,_,_,_,h,_,_,_,_,_,_=>by omega
 | f+1,[],at_,e,acc,res,rem,x,hf,hd,hl,he,hg,hr,h=>by
  rw [goF] at h
  simp only [Prod.mk.injEq] at h
  simp only [List.length_nil,Nat.add_zero] at hl
  refine ⟨[⟨4,[],at_⟩],h.1.symm,?_,by simp⟩
  subst hl
  simp [tkPlacesB,he,hg]
 | f+1,c :: r,at_,e,acc,res,rem,x,hf,hd,hl,he,hg,hr,h=>by
  simp only [List.length_cons] at hf hl
  have hdr:b.drop (at_+1)=r:=by rw [<- List.drop_drop,hd];rfl
  -- the gap grows by what is passed over
  have gap:∀ n,n<=(c :: r).length->(b.drop e).take (at_+n - e)=(b.drop e).take (at_ - e)++(c :: r).take n:=fun n hn=>by
   rw [show at_+n - e=(at_ - e)+n from by omega,List.take_add,List.drop_drop,show e+(at_ - e)=at_ from by omega,hd]
  rw [goF] at h
  by_cases hw:whiteB c=true
  ·rw [if_pos hw] at h
   have hns:nothingG rem [c]=some false:=by
    rw [nothingG,nothingG,nothingG]
    by_cases hlc:lineB c=true
    ·rw [if_pos hlc]
    ·have hrem:rem=false:=by
      cases rem
      ·rfl
      ·rcases hr rfl with h0 | ⟨c',r',h0,h1⟩
       ·cases h0
       ·simp only [List.cons.injEq] at h0;rw [<- h0.1] at h1;exact absurd h1 hlc
     have hh:hashB c=false:=by
      simp only [whiteB,Bool.or_eq_true,beq_iff_eq] at hw
      simp only [hashB,beq_eq_false_iff_ne];omega
     rw [if_neg hlc,hrem,hh,if_neg (by simp),if_pos hw]
   refine goF_places b f r (at_+1) e acc res false x (by omega) hdr (by omega) (by omega) ?_ (by simp) h
   rw [gap 1 (by simp),nothingG_append,hg]
   simpa using hns
  ·rw [if_neg hw] at h
   have hrem:rem=false:=by
    cases rem
    ·rfl
    ·rcases hr rfl with h0 | ⟨c',r',h0,h1⟩
     ·cases h0
     ·simp only [List.cons.injEq] at h0
      rw [<- h0.1] at h1
      simp only [lineB,beq_iff_eq] at h1
      simp [whiteB,h1] at hw
   by_cases hh:hashB c=true
   ·rw [if_pos hh] at h
    have htw:=List.takeWhile_append_dropWhile (p:=fun x=>!lineB x) (l:=c :: r)
    have hlen:((c :: r).takeWhile (fun x=>!lineB x)).length+((c :: r).dropWhile (fun x=>!lineB x)).length=r.length+1:=by
     rw [<- List.length_append,htw,List.length_cons]
    have hcl:lineB c=false:=by
     simp only [hashB,beq_iff_eq] at hh
     simp [lineB,hh]
    have hpos:0<((c :: r).takeWhile (fun x=>!lineB x)).length:=by
     rw [List.takeWhile_cons,if_pos (by simp [hcl])];simp
    have htk:(c :: r).take ((c :: r).takeWhile (fun x=>!lineB x)).length=(c :: r).takeWhile (fun x=>!lineB x):=(List.prefix_iff_eq_take.1 (List.takeWhile_prefix _)).symm
    refine goF_places b f _ (at_+((c :: r).takeWhile (fun x=>!lineB x)).length) e acc res true x (by omega) ?_ (by omega) (by omega) ?_ (fun _=>?_) h
    ·rw [<- List.drop_drop,hd,drop_takeWhile]
    ·rw [gap _ (by rw [List.length_cons];omega),nothingG_append,hg,htk,hrem]
     rw [List.takeWhile_cons,if_pos (by simp [hcl])]
     show nothingG false (c :: _)=_
     rw [nothingG,if_neg (by simp [hcl]),if_pos (by simp [hh])]
     exact nothingG_remark _ (takeWhile_all _ _)
    ·rcases dropWhile_head (fun x=>!lineB x) (c :: r) with h0 | ⟨c',r',h0,h1⟩
     ·exact .inl h0
     ·exact .inr ⟨c',r',h0,by simpa using h1⟩
   ·rw [if_neg hh] at h
    by_cases hn:(nextF (c :: r)).2.2=true
    ·rw [if_pos hn] at h
     have hp:=next_pos hn
     have hpre:=next_prefix hn
     rw [List.length_cons] at hp
     obtain ⟨toks,h1,h2,h3⟩:=goF_places b f _ (at_+(nextF (c :: r)).2.1.length) (at_+(nextF (c :: r)).2.1.length) _ res false x (by rw [List.length_drop,List.length_cons];omega) (by rw [<- List.drop_drop,hd]) (by rw [List.length_drop,List.length_cons];omega) (Nat.le_refl _) (by simp [nothingG]) (by simp) h
     refine ⟨⟨(nextF (c :: r)).1,(nextF (c :: r)).2.1,at_⟩ :: toks,by rw [h1];simp,?_,by simp⟩
     rw [tkPlacesB,h2,hg,hd,hpre]
     simp [he]
     omega
    ·rw [if_neg hn] at h
     simp at h

theorem lexS_places (b:Bs) {res:List Tok} {x:Nat} (h:lexS b 0 []=(res,x,0)):tkPlacesB b res 0=true/\res ≠ []:=by
 obtain ⟨toks,h1,h2,h3⟩:=goF_places b (b.length+1) b 0 0 [] res false x (by omega) rfl (by omega) (Nat.le_refl _) rfl (by simp) h
 rw [List.nil_append] at h1
 rw [h1];exact ⟨h2,h3⟩
end Go.Chalk
/- What the lexer's function answers: runs; joining and lexing again; remarks. -/
namespace Go.Chalk
def sideB (a c:Tok):Bool:=a.at_+a.text.length==c.at_
def pairB (a c:Tok):Bool:=!(sideB a c&&a.kind==1&&c.kind != 3&&c.kind != 4||sideB a c&&a.kind==2&&c.kind==2)&&!(a.kind==4||a.text.isEmpty)
def runsB:List Tok->Bool
 | []=>false
 | [a]=>a.kind==4
 | a :: c :: r=>pairB a c&&runsB (c :: r)

theorem dropWhile_not (p:UInt8->Bool) {l:Bs} {c:UInt8} {r:Bs} (h:l.dropWhile p=c :: r):p c=false:=by
 rcases dropWhile_head p l with h0 | ⟨c',r',h0,h1⟩
 ·rw [h0] at h;cases h
 ·rw [h0] at h;simp only [List.cons.injEq] at h;rw [<- h.1];exact h1

theorem goF_runs:∀ (f:Nat) (l:Bs) (at_:Nat) (acc res:List Tok) (x:Nat),l.length<f->goF f l at_ acc=(res,x,0) ->
  ∃ t toks,res=acc++t :: toks/\runsB (t :: toks)=true/\at_<=t.at_/\(t.at_=at_->t.kind=4∨t.kind=3∨(t.kind=1/\∃ c r,l=c :: r/\innerB c=true)∨(t.kind=2/\∃ c r,l=c :: r/\digitB c=true))
 | 0,_,_,_,_,_,h,_=>by omega
 | f+1,[],at_,acc,res,x,hf,h=>by
  rw [goF] at h
  simp only [Prod.mk.injEq] at h
  exact ⟨_,[],h.1.symm,rfl,Nat.le_refl _,fun _=>.inl rfl⟩
 | f+1,c :: r,at_,acc,res,x,hf,h=>by
  simp only [List.length_cons] at hf
  rw [goF] at h
  by_cases hw:whiteB c=true
  ·rw [if_pos hw] at h
   obtain ⟨t,toks,h1,h2,h3,_⟩:=goF_runs f r (at_+1) acc res x (by omega) h
   exact ⟨t,toks,h1,h2,by omega,fun h=>by omega⟩
  rw [if_neg hw] at h
  by_cases hh:hashB c=true
  ·rw [if_pos hh] at h
   have hlen:((c :: r).takeWhile (fun x=>!lineB x)).length+((c :: r).dropWhile (fun x=>!lineB x)).length=r.length+1:=by
    rw [<- List.length_append,List.takeWhile_append_dropWhile,List.length_cons]
   have hcl:lineB c=false:=by
    simp only [hashB,beq_iff_eq] at hh
    simp [lineB,hh]
   have hpos:0<((c :: r).takeWhile (fun x=>!lineB x)).length:=by
    rw [List.takeWhile_cons,if_pos (by simp [hcl])];simp
   obtain ⟨t,toks,h1,h2,h3,_⟩:=goF_runs f ((c :: r).dropWhile (fun x=>!lineB x)) _ acc res x (by omega) h
   exact ⟨t,toks,h1,h2,by omega,fun h=>by omega⟩
  rw [if_neg hh] at h
  by_cases hn:(nextF (c :: r)).2.2=true
  ·rw [if_pos hn] at h
   have hp:=next_pos hn
   rw [List.length_cons] at hp
   obtain ⟨t,toks,h1,h2,h3,h4⟩:=goF_runs f ((c :: r).drop (nextF (c :: r)).2.1.length) _ _ res x (by rw [List.length_drop,List.length_cons];omega) h
   refine ⟨⟨(nextF (c :: r)).1,(nextF (c :: r)).2.1,at_⟩,t :: toks,by rw [h1];simp,?_,Nat.le_refl _,fun _=>?_⟩
   ·rw [runsB,h2,Bool.and_true]
    unfold pairB
    have hne:(nextF (c :: r)).2.1.isEmpty=false:=by
     cases hq:(nextF (c :: r)).2.1 with
     | nil=>rw [hq] at hp;simp at hp
     | cons _ _=>rfl
    by_cases hs:smallB c=true
    ·rw [nextF,if_pos hs] at h4 hne ⊢
     simp only at h4 hne ⊢
     rw [drop_takeWhile] at h4
     rw [hne]
     simp only [beq_self_eq_true,Bool.and_true]
     have:sideB { kind:=1,text:=(c :: r).takeWhile innerB,at_:=at_ } t=true->t.kind=4∨t.kind=3:=fun hsd=>by
      simp only [sideB,beq_iff_eq] at hsd
      rcases h4 hsd.symm with h | h | ⟨_,c',r',h5,h6⟩ | ⟨_,c',r',h5,h6⟩
      ·exact .inl h
      ·exact .inr h
      ·have:=dropWhile_not innerB h5;rw [this] at h6;cases h6
      ·have:=dropWhile_not innerB h5;simp [innerB,h6] at this
     cases hsd:sideB { kind:=1,text:=(c :: r).takeWhile innerB,at_:=at_ } t with
     | false=>rfl
     | true=>rcases this hsd with h | h <;> rw [h] <;> rfl
    ·by_cases hd:digitB c=true
     ·rw [nextF,if_neg hs,if_pos hd] at h4 hne ⊢
      simp only at h4 hne ⊢
      rw [drop_takeWhile] at h4
      rw [hne]
      have:sideB { kind:=2,text:=(c :: r).takeWhile digitB,at_:=at_ } t=true->t.kind ≠ 2:=fun hsd hk2=>by
       simp only [sideB,beq_iff_eq] at hsd
       rcases h4 hsd.symm with h | h | ⟨h,_⟩ | ⟨_,c',r',h5,h6⟩
       ·omega
       ·omega
       ·omega
       ·have:=dropWhile_not digitB h5;rw [this] at h6;cases h6
      cases hsd:sideB { kind:=2,text:=(c :: r).takeWhile digitB,at_:=at_ } t with
      | false=>rfl
      | true=>have:=this hsd;simp [this]
     ·rw [nextF,if_neg hs,if_neg hd] at hne ⊢
      simp only at hne ⊢
      rw [hne]
      simp
   ·by_cases hs:smallB c=true
    ·rw [nextF,if_pos hs];exact .inr (.inr (.inl ⟨rfl,c,r,rfl,by simp [innerB,hs]⟩))
    ·by_cases hd:digitB c=true
     ·rw [nextF,if_neg hs,if_pos hd];exact .inr (.inr (.inr ⟨rfl,c,r,rfl,hd⟩))
     ·rw [nextF,if_neg hs,if_neg hd];exact .inr (.inl rfl)
  ·rw [if_neg hn] at h
   simp at h

def kt (t:Tok):Int×Bs:=(t.kind,t.text)
theorem sign_mem {l:Bs} (h:(signB l).isEmpty=false):signsL.contains (signB l)=true:=by
 unfold signB at h ⊢
 cases hf:signsL.find? (fun s=>s.isPrefixOf l) with
 | none=>simp [hf] at h
 | some s=>simp only [Option.getD_some];exact List.contains_iff_mem.2 (List.mem_of_find?_eq_some hf)
theorem next_right {c:UInt8} {r:Bs} {a:Nat} (h:(nextF (c :: r)).2.2=true):rightB ⟨(nextF (c :: r)).1,(nextF (c :: r)).2.1,a⟩=true:=by
 rw [nextF] at h ⊢
 split
 ·rename_i hs;rw [if_pos hs] at h;exact h
 ·rename_i hs
  split
  ·rename_i hd;rw [if_neg hs,if_pos hd] at h;exact h
  ·rename_i hd
   rw [if_neg hs,if_neg hd] at h
   exact sign_mem (by simpa using h)
theorem goF_right:∀ (f:Nat) (l:Bs) (at_:Nat) (acc res:List Tok) (x:Nat),l.length<f->goF f l at_ acc=(res,x,0)->∃ toks n,res=acc++(toks++[⟨4,[],n⟩])/\toks.all rightB=true/\toks.length<=l.length/\(toks.map (fun t=>t.text.length)).sum<=l.length
 | 0,_,_,_,_,_,h,_=>by omega
 | f+1,[],at_,acc,res,x,hf,h=>by
  rw [goF] at h
  simp only [Prod.mk.injEq] at h
  exact ⟨[],at_,h.1.symm,rfl,Nat.le_refl _,Nat.le_refl _⟩
 | f+1,c :: r,at_,acc,res,x,hf,h=>by
  simp only [List.length_cons] at hf ⊢
  rw [goF] at h
  by_cases hw:whiteB c=true
  ·rw [if_pos hw] at h
   obtain ⟨toks,n,h1,h2,h3,h4⟩:=goF_right f r (at_+1) acc res x (by omega) h
   exact ⟨toks,n,h1,h2,by omega,by omega⟩
  rw [if_neg hw] at h
  by_cases hh:hashB c=true
  ·rw [if_pos hh] at h
   have hlen:((c :: r).takeWhile (fun x=>!lineB x)).length+((c :: r).dropWhile (fun x=>!lineB x)).length=r.length+1:=by
    rw [<- List.length_append,List.takeWhile_append_dropWhile,List.length_cons]
   have hcl:lineB c=false:=by
    simp only [hashB,beq_iff_eq] at hh
    simp [lineB,hh]
   have hpos:0<((c :: r).takeWhile (fun x=>!lineB x)).length:=by
    rw [List.takeWhile_cons,if_pos (by simp [hcl])];simp
   obtain ⟨toks,n,h1,h2,h3,h4⟩:=goF_right f ((c :: r).dropWhile (fun x=>!lineB x)) _ acc res x (by omega) h
   exact ⟨toks,n,h1,h2,by omega,by omega⟩
  rw [if_neg hh] at h
  by_cases hn:(nextF (c :: r)).2.2=true
  ·rw [if_pos hn] at h
   have hp:=next_pos hn
   rw [List.length_cons] at hp
   obtain ⟨toks,n,h1,h2,h3,h4⟩:=goF_right f ((c :: r).drop (nextF (c :: r)).2.1.length) _ _ res x (by rw [List.length_drop,List.length_cons];omega) h
   rw [List.length_drop,List.length_cons] at h3 h4
   refine ⟨⟨(nextF (c :: r)).1,(nextF (c :: r)).2.1,at_⟩ :: toks,n,by rw [h1];simp,by rw [List.all_cons,next_right hn,h2];rfl,by simp;omega,by simp;omega⟩
  ·rw [if_neg hn] at h
   simp at h

theorem takeWhile_app (p:UInt8->Bool):∀ (x y:Bs),x.all p=true->(y=[]∨∃ c r,y=c :: r/\p c=false)->(x++y).takeWhile p=x
 | [],y,_,h=>by
  rcases h with rfl | ⟨c,r,rfl,h⟩
  ·rfl
  ·rw [List.nil_append,List.takeWhile_cons,if_neg (by simp [h])]
 | c :: r,y,ha,h=>by
  rw [List.all_cons,Bool.and_eq_true] at ha
  rw [List.cons_append,List.takeWhile_cons,if_pos ha.1,takeWhile_app p r y ha.2 h]
theorem sign_space:∀ s∈signsL,∀ y:Bs,(y=[]∨∃ r,y=32 :: r)->signB (s++y)=s:=by
 intro s hs y hy
 have key:∀ s∈signsL,signB s=s/\∀ t∈signsL,t.isPrefixOf (s++[32])=t.isPrefixOf s:=by decide
 rcases hy with rfl | ⟨r,rfl⟩
 ·rw [List.append_nil];exact (key s hs).1
 ·have hp:∀ t∈signsL,t.isPrefixOf (s++32 :: r)=t.isPrefixOf s:=fun t ht=>by
   have h1:=(key s hs).2 t ht
   have hl:∀ t∈signsL,t.length<=2:=by decide
   have hl1:∀ t∈signsL,1<=t.length:=by decide
   have hn:∀ t∈signsL,∀ c∈t,c ≠ 32:=by decide
   -- compare by cases on the lengths
   match s,t,hl s hs,hl1 s hs,hl t ht,hl1 t ht,hn t ht with
   | [a],[b],_,_,_,_,_=>simp [List.isPrefixOf]
   | [a],[b,b'],_,_,_,_,hb=>have:=hb b' (by simp);simp [List.isPrefixOf,this]
   | [a,a'],[b],_,_,_,_,_=>simp [List.isPrefixOf]
   | [a,a'],[b,b'],_,_,_,_,_=>simp [List.isPrefixOf]
  have:signB (s++32 :: r)=signB s:=by
   unfold signB
   congr 1
   have gen:∀ L:List Bs,(∀ t∈L,t.isPrefixOf (s++32 :: r)=t.isPrefixOf s)->L.find? (fun t=>t.isPrefixOf (s++32 :: r))=L.find? (fun t=>t.isPrefixOf s):=by
    intro L
    induction L with
    | nil=>intro _;rfl
    | cons t L ih =>
     intro h
     rw [List.find?_cons,List.find?_cons,h t (by simp),ih (fun u hu=>h u (by simp [hu]))]
   exact gen signsL hp
  rw [this];exact (key s hs).1

end Go.Chalk
/- Joining the tokens of a source and reading them again; white space and remarks around a source. -/
namespace Go.Chalk
end Go.Chalk
