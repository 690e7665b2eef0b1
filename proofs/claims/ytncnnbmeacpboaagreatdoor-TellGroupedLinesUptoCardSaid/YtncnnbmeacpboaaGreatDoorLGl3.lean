/- Joined texts: TlInj, TlRen, TlNod, TlRef, SyFuel, SyTok, SyBack, SyLex, SyMain, PLen, TlGroup. -/
import Derived.Test.YtncnnbmeacpboaaGreatDoorN07
import Derived.Test.YtncnnbmeacpboaaGreatDoorLGl1
set_option linter.unusedVariables false
set_option linter.unusedSimpArgs false
/- A plain law of the layer tell: different instances have different sentences. No program is named here. -/
namespace Go.Chalk
theorem rulesGo_names:∀ (l:List Rul) (met:List Bs) (k:Nat),(rulesGo met l k).2=0->(∀ r∈l,typRule r=0/\r.name ∉ met)/\(l.map Rul.name).Nodup
 | [],_,_,_=>by simp
 | r :: l,met,k,h=>by
  rw [rulesGo] at h
  by_cases h1:typRule r=0
  ·rw [if_neg (by simpa using h1)] at h
   by_cases h2:met.contains r.name=true
   ·rw [if_pos h2] at h;cases h
   ·rw [if_neg h2] at h
    obtain ⟨g1,g2⟩:=rulesGo_names l _ _ h
    have h3:r.name ∉ met:=by simpa using h2
    refine ⟨?_,?_⟩
    ·intro x hx
     rcases List.mem_cons.1 hx with rfl | hx
     ·exact ⟨h1,h3⟩
     ·have g:=g1 x hx
      simp only [List.mem_append,not_or] at g
      exact ⟨g.1,g.2.1⟩
    ·rw [List.map_cons,List.nodup_cons]
     refine ⟨?_,g2⟩
     intro hm
     obtain ⟨x,hx,e⟩:=List.mem_map.1 hm
     have g:=(g1 x hx).2
     simp only [List.mem_append,not_or,List.mem_singleton] at g
     exact g.2 e
  ·rw [if_pos h1] at h;exact absurd h h1
theorem goNames_all:∀ (l met:List Bs),goNames met l=true->(∀ x∈l,schNamed x=true/\x ∉ met)/\l.Nodup
 | [],_,_=>by simp
 | x :: r,met,h=>by
  rw [goNames] at h
  simp only [Bool.and_eq_true,Bool.not_eq_true',List.contains_eq_mem,decide_eq_false_iff_not] at h
  obtain ⟨⟨h1,h2⟩,h3⟩:=h
  obtain ⟨g1,g2⟩:=goNames_all r _ h3
  refine ⟨?_,?_⟩
  ·intro y hy
   rcases List.mem_cons.1 hy with rfl | hy
   ·exact ⟨h2,h1⟩
   ·have g:=g1 y hy
    simp only [List.mem_append,not_or] at g
    exact ⟨g.1,g.2.1⟩
  ·rw [List.nodup_cons]
   refine ⟨?_,g2⟩
   intro hm
   have g:=(g1 x hm).2
   simp at g
theorem el_some {s:Schl} {sort at_:Int} (h:elName s sort at_ ≠ []):0<=at_/\(schNames s sort)[at_.toNat]?=some (elName s sort at_):=by
 by_cases h0:at_<0
 ·exact absurd (by unfold elName;rw [if_pos h0]) h
 refine ⟨by omega,?_⟩
 have e:elName s sort at_=((schNames s sort)[at_.toNat]?).getD []:=by unfold elName;rw [if_neg h0]
 rw [e] at h ⊢
 cases k:(schNames s sort)[at_.toNat]? with
 | none=>rw [k] at h;exact absurd rfl h
 | some x=>rfl
theorem els_len {s:Schl}:∀ (b:List Bnd) (q:List Int) (ns:List Bs),elsGo s b q=some ns->ns.length=b.length
 | [],q,ns,h=>by simp [elsGo] at h;simp [<- h]
 | b :: r,[],ns,h=>by simp [elsGo] at h
 | b :: r,i :: q,ns,h=>by
  rw [elsGo] at h
  split at h
  ·cases h
  ·cases k:elsGo s r q with
   | none=>rw [k] at h;cases h
   | some l=>rw [k] at h;injection h with h;rw [<- h];simp [els_len r q l k]
end Go.Chalk
/- Plain laws of the layer tell: what the reference renames and asks is what the program renames and asks. No program is named here. -/
namespace Go.Chalk
end Go.Chalk
/- Plain laws of the layer tell: the nodes of a renamed formula. No program is named here. -/
namespace Go.Chalk
theorem renL_map (m:List (Bs×Bs)):∀ l:List Frm,renL m l=l.map (renF m)
 | []=>rfl
 | f :: r=>by rw [renL,renL_map m r,List.map_cons]
mutual
theorem nodes_ren (m:List (Bs×Bs)):∀ f:Frm,nodesF (renF m f)=(nodesF f).map (renF m)
 | .mk kind name n terms binds l=>by rw [renF,nodesF,nodesF,List.map_cons,nodesL_ren m l,renF]
theorem nodesL_ren (m:List (Bs×Bs)):∀ l:List Frm,nodesL (renL m l)=(nodesL l).map (renF m)
 | []=>rfl
 | f :: r=>by rw [renL,nodesL,nodesL,List.map_append,nodes_ren m f,nodesL_ren m r]
end
mutual
theorem size_ren (m:List (Bs×Bs)):∀ f:Frm,(renF m f).size=f.size
 | .mk kind name n terms binds l=>by rw [renF,Frm.size,Frm.size,fsizes_ren m l]
theorem fsizes_ren (m:List (Bs×Bs)):∀ l:List Frm,fsizes (renL m l)=fsizes l
 | []=>rfl
 | f :: r=>by rw [renL,fsizes,fsizes,size_ren m f,fsizes_ren m r]
end
theorem lastP_mem {m:List (Bs×Bs)} {n x:Bs} (h:lastP m n=some x):∃ p∈m,p.2=x:=by
 unfold lastP at h
 obtain ⟨p,hp,e⟩:=Option.map_eq_some_iff.1 h
 exact ⟨p,List.mem_reverse.1 (List.mem_of_find?_eq_some hp),e⟩
theorem renT_len {m:List (Bs×Bs)} {n:Nat} (hm:∀ p∈m,p.2.length<=n) {t:Trm} (ht:t.name.length<=n):(renT m t).name.length<=n:=by
 unfold renT
 split
 ·rename_i x e
  obtain ⟨p,hp,e⟩:=lastP_mem e
  rw [<- e];exact hm p hp
 ·exact ht
theorem ren_parts (m:List (Bs×Bs)) (f:Frm):(renF m f).kind=f.kind/\(renF m f).name=f.name/\(renF m f).n=f.n/\(renF m f).terms=f.terms.map (renT m)/\(renF m f).binds=f.binds/\(renF m f).l=f.l.map (renF m):=by
 cases f;rw [renF,renL_map];exact ⟨rfl,rfl,rfl,rfl,rfl,rfl⟩
end Go.Chalk
/- Plain laws of the layer tell: the reference's Inst answers as Inst does. No program is named here. -/
namespace Go.Chalk
theorem right_zero {s:Schl} {l:List Rul} (h:okF s l=0):schCheck s=0/\(∀ r∈l,typRule r=0)/\(l.map Rul.name).Nodup:=by
 have hs:schCheck s=0:=by
  unfold okF at h;split at h
  ·rename_i g;exact absurd h g
  ·rename_i g;simpa using g
 have hr:(typRules l).2=0:=by unfold okF at h;rw [if_neg (by simp [hs])] at h;exact h
 obtain ⟨g1,g2⟩:=rulesGo_names l [] 0 hr
 exact ⟨hs,fun r h=>(g1 r h).1,g2⟩
theorem typRule_parts {r:Rul} (h:typRule r=0):bndOk ⟨r.name,1⟩=true/\r.each.all bndOk=true/\frmCheck r.body=0:=by
 unfold typRule at h
 by_cases g:bndOk ⟨r.name,1⟩=false∨r.weight<(if r.hard then 0 else 1)∨(if r.hard then 0 else 1000)<r.weight∨6<r.each.length∨r.each.all bndOk=false
 ·rw [if_pos g] at h;cases h
 ·rw [if_neg g] at h
  have g:=not_or.1 g
  have a:=g.1
  have b:=(not_or.1 (not_or.1 (not_or.1 g.2).2).2).2
  refine ⟨by simpa using a,by simpa using b,?_⟩
  by_cases k:frmCheck r.body=0
  ·exact k
  ·rw [if_pos k] at h;exact absurd h k
end Go.Chalk
/- The parser: what it consumes, and which fuel suffices. No program is named here. -/
namespace Go.Chalk
def Eat (l r:List Tok):Prop:=∃ p,p ≠ []/\(∀ t∈p,t.kind ≠ 4)/\l=p++r
def EatZ (l r:List Tok):Prop:=∃ p,(∀ t∈p,t.kind ≠ 4)/\l=p++r
theorem Eat.len {l r:List Tok} (h:Eat l r):r.length<l.length:=by
 obtain ⟨p,hp,_,rfl⟩:=h
 have:=List.length_pos_iff.2 hp
 rw [List.length_append];omega
theorem EatZ.len {l r:List Tok} (h:EatZ l r):r.length<=l.length:=by
 obtain ⟨p,_,rfl⟩:=h
 rw [List.length_append];omega
theorem EatZ.refl (l:List Tok):EatZ l l:=⟨[],by simp,rfl⟩
theorem no_end_app {p q:List Tok} (h:∀ t∈p,t.kind ≠ 4) (k:∀ t∈q,t.kind ≠ 4):∀ t∈p++q,t.kind ≠ 4:=fun t ht=>(List.mem_append.1 ht).elim (h t) (k t)
theorem Eat.trans {a b c:List Tok} (h:Eat a b) (k:EatZ b c):Eat a c:=by
 obtain ⟨p,hp,h1,rfl⟩:=h
 obtain ⟨q,h2,rfl⟩:=k
 exact ⟨p++q,by simp [hp],no_end_app h1 h2,by rw [List.append_assoc]⟩
theorem EatZ.trans {a b c:List Tok} (h:EatZ a b) (k:EatZ b c):EatZ a c:=by
 obtain ⟨p,h1,rfl⟩:=h
 obtain ⟨q,h2,rfl⟩:=k
 exact ⟨p++q,no_end_app h1 h2,by rw [List.append_assoc]⟩
theorem Eat.one {t:Tok} (h:t.kind ≠ 4) (r:List Tok):Eat (t :: r) r:=⟨[t],by simp,by simpa using h,rfl⟩
end Go.Chalk
/- The tokens of a canonical text, and that the parser reads the formula back from them. No program is named here. -/
namespace Go.Chalk
abbrev KT:=Int×Bs
def Is (ks:List KT) (l m:List Tok):Prop:=∃ p,p.map kt=ks/\l=p++m
theorem Is.nil {l m:List Tok}:Is [] l m ↔ l=m:=by
 constructor
 ·rintro ⟨p,hp,rfl⟩
  rw [List.map_eq_nil_iff] at hp;subst hp;rfl
 ·rintro rfl;exact ⟨[],rfl,rfl⟩
theorem Is.cons {k:KT} {ks:List KT} {l m:List Tok}:Is (k :: ks) l m ↔ ∃ t r,l=t :: r/\kt t=k/\Is ks r m:=by
 constructor
 ·rintro ⟨p,hp,rfl⟩
  cases p with
  | nil=>cases hp
  | cons t q =>
   rw [List.map_cons,List.cons.injEq] at hp
   exact ⟨t,q++m,rfl,hp.1,q,hp.2,rfl⟩
 ·rintro ⟨t,r,rfl,rfl,p,rfl,rfl⟩
  exact ⟨t :: p,rfl,rfl⟩
theorem Is.one {k:KT} {l m:List Tok}:Is [k] l m ↔ ∃ t,l=t :: m/\kt t=k:=by
 rw [Is.cons]
 constructor
 ·rintro ⟨t,r,rfl,h,h2⟩;rw [Is.nil] at h2;subst h2;exact ⟨t,rfl,h⟩
 ·rintro ⟨t,rfl,h⟩;exact ⟨t,m,rfl,h,Is.nil.2 rfl⟩
theorem Is.name {s:Bs} {l m:List Tok} (h:Is [(1,s)] l m) (hs:reservedL.contains s=false):pName l=.ok s m:=by
 obtain ⟨t,rfl,h1⟩:=Is.one.1 h
 simp only [kt,Prod.mk.injEq] at h1
 rw [pName,h1.1,h1.2,if_pos ⟨rfl,hs⟩]
theorem frmNamed_iff (s:Bs):frmNamed s=nameB s:=by
 cases s with
 | nil=>rfl
 | cons c r =>
  rw [frmNamed,nameB,wordB,Bool.eq_iff_iff]
  simp only [Bool.and_eq_true,decide_eq_true_eq,List.all_cons]
  have hc:innerB c=true->(smallB c=true ↔ 97<=c.toNat):=by
   intro h
   simp only [innerB,smallB,digitB,Bool.or_eq_true,Bool.and_eq_true,decide_eq_true_eq,beq_iff_eq] at h ⊢
   constructor
   ·exact fun h=>h.1
   ·intro h97;rcases h with (h | h) | h
    ·exact h
    ·omega
    ·omega
  constructor
  ·rintro ⟨⟨⟨h1,h2⟩,h3,h4⟩,h5⟩
   exact ⟨⟨⟨(hc h3).2 h5,h3,h4⟩,h1⟩,h2⟩
  ·rintro ⟨⟨⟨h1,h3,h4⟩,h5⟩,h2⟩
   exact ⟨⟨⟨h5,h2⟩,h3,h4⟩,(hc h3).1 h1⟩
end Go.Chalk
/- The parser reads a well-formed formula, a rule, back from its tokens. No program is named here. -/
namespace Go.Chalk
end Go.Chalk
/- Which tokens the lexer makes of a canonical text. No program is named here. -/
namespace Go.Chalk
def Sep (l:Bs):Prop:=∀ c r,l=c :: r->innerB c=false
def Lx (s:Bs) (ks:List KT):Prop:=∀ rest at_ acc,Sep rest->∃ ts,ts.map kt=ks/\lexS (s++rest) at_ acc=lexS rest (at_+s.length) (acc++ts)
def Lz (s:Bs) (ks:List KT):Prop:=∀ rest at_ acc,∃ ts,ts.map kt=ks/\lexS (s++rest) at_ acc=lexS rest (at_+s.length) (acc++ts)
def HeadSep (s:Bs):Prop:=∃ c r,s=c :: r/\innerB c=false
theorem Lz.nil:Lz [] []:=fun rest at_ acc=>⟨[],rfl,by simp⟩
theorem Sep.nil:Sep []:=fun _ _ h=>by cases h
theorem lex_one {c:UInt8} {r rest s:Bs} {k:Int} {at_:Nat} {acc:List Tok} (hs:s=c :: r) (hw:whiteB c=false) (hh:hashB c=false) (hn:nextF (s++rest)=(k,s,true)) :
  ∃ ts,ts.map kt=[(k,s)]/\lexS (s++rest) at_ acc=lexS rest (at_+s.length) (acc++ts):=by
 subst hs
 rw [List.cons_append] at hn ⊢
 refine ⟨[⟨k,c :: r,at_⟩],rfl,?_⟩
 rw [lexS_tok hw hh (by rw [hn]),hn]
 dsimp only
 rw [<- List.cons_append,List.drop_left]
theorem sign_next {s y:Bs} (hs:s∈cmpL) (hy:y=[]∨∃ r,y=32 :: r):nextF (s++y)=(3,s,true):=by
 have hm:s∈signsL:=by
  have:∀ x∈cmpL,x∈signsL:=by decide
  exact this s hs
 have hb:=sign_space s hm y hy
 have hc:∃ c r,s=c :: r/\smallB c=false/\digitB c=false:=by
  have:∀ x∈cmpL,∃ c r,x=c :: r/\smallB c=false/\digitB c=false:=by
   intro x hx
   simp only [cmpL,List.mem_cons,List.not_mem_nil,or_false] at hx
   rcases hx with rfl | rfl | rfl | rfl | rfl | rfl <;> exact ⟨_,_,rfl,rfl,rfl⟩
  exact this s hs
 obtain ⟨c,r,rfl,h1,h2⟩:=hc
 rw [List.cons_append] at hb ⊢
 rw [nextF,if_neg (by rw [h1];simp),if_neg (by rw [h2];simp),hb];rfl
theorem Lz.op {s:Bs} (hs:cmpL.contains s=true):Lz (s++[32]) [(3,s)]:=fun rest at_ acc=>by
 have hm:s∈cmpL:=by simpa using hs
 have hc:∃ c r,s=c :: r/\whiteB c=false/\hashB c=false:=by
  simp only [cmpL,List.mem_cons,List.not_mem_nil,or_false] at hm
  rcases hm with rfl | rfl | rfl | rfl | rfl | rfl <;> exact ⟨_,_,rfl,rfl,rfl⟩
 obtain ⟨c,r,he,h1,h2⟩:=hc
 obtain ⟨t1,h3,h4⟩:=lex_one (rest:=32 :: rest) (at_:=at_) (acc:=acc) he h1 h2 (sign_next hm (.inr ⟨rest,rfl⟩))
 refine ⟨t1,h3,?_⟩
 rw [List.append_assoc,List.cons_append,List.nil_append,h4,lexS_white (by decide),List.length_append]
 rfl
theorem sep_or {l:Bs} (h:Sep l):l=[]∨∃ c r,l=c :: r/\innerB c=false:=by
 cases l with
 | nil=>exact .inl rfl
 | cons c r=>exact .inr ⟨c,r,rfl,h c r rfl⟩
theorem Lx.word {s:Bs} (h:wordB s=true):Lx s [(1,s)]:=fun rest at_ acc hr=>by
 cases s with
 | nil=>cases h
 | cons c r =>
  have h0:=h
  rw [wordB] at h
  simp only [Bool.and_eq_true,decide_eq_true_eq] at h
  have hc:97<=c.toNat:=by
   have:=h.1.1
   simp only [smallB,Bool.and_eq_true,decide_eq_true_eq] at this
   exact this.1
  have ht:(c :: (r++rest)).takeWhile innerB=c :: r:=takeWhile_app innerB (c :: r) rest h.1.2 (sep_or hr)
  refine lex_one (c:=c) (r:=r) rfl ?_ ?_ ?_
  ·simp [whiteB];omega
  ·simp [hashB];omega
  ·rw [List.cons_append,nextF,if_pos h.1.1,ht,h0]
theorem Lx.named {s:Bs} (h:frmNamed s=true):Lx s [(1,s)]:=by
 rw [frmNamed_iff,nameB] at h
 simp only [Bool.and_eq_true] at h
 exact .word h.1
theorem hsp (r:Bs):HeadSep (32 :: r):=⟨32,r,rfl,rfl⟩
theorem hsc {c:UInt8} (h:innerB c=false) (r:Bs):HeadSep (c :: r):=⟨c,r,rfl,h⟩
end Go.Chalk
/- Parsing a printed formula, printed rules, gives them back. No program is named here. -/
namespace Go.Chalk
end Go.Chalk
/- Lengths of canonical texts. No program is named here. -/
namespace Go.Chalk
theorem kwOf_len {t:List (Bs×Int)} (h:t.all (fun p=>decide (p.1.length<=8))=true) (n:Int):(kwOf t n).length<=8:=by
 unfold kwOf
 cases hf:t.find? (fun p=>p.2==n) with
 | none=>simp
 | some p =>
  have:=List.all_eq_true.1 h p (List.mem_of_find?_eq_some hf)
  simpa using this
theorem kwSort_len (n:Int):(kwOf kwSort n).length<=8:=kwOf_len (by decide) n
theorem kwAtom_len (n:Int):(kwOf kwAtom n).length<=8:=kwOf_len (by decide) n
theorem kwTerm_len (n:Int):(kwOf kwTerm n).length<=8:=kwOf_len (by decide) n
theorem kwAll_len (n:Int):(kwOf kwAll n).length<=8:=kwOf_len (by decide) n
theorem decDigits_len:∀ (d n:Nat),n<10 ^ (d+1)->(Lib.decDigits n).length<=d+1
 | 0,n,h=>by
  have:n<10:=by simpa using h
  rw [Lib.decDigits,dif_pos this];simp
 | d+1,n,h=>by
  rw [Lib.decDigits]
  split
  ·simp
  ·have:=decDigits_len d (n / 10) (by rw [Nat.pow_succ] at h;omega)
   simp only [List.length_append,List.length_singleton];omega
theorem decI_len {n:Int} (h0:0<=n) (h:n<=1099511627776):(decI n).length<=13:=decDigits_len 12 n.toNat (by
 have:n.toNat<=1099511627776:=by omega
 omega)
theorem named_len {s:Bs} (h:frmNamed s=true):s.length<=64:=by
 cases s with
 | nil=>simp
 | cons c r =>
  rw [frmNamed] at h
  simp only [Bool.and_eq_true,decide_eq_true_eq] at h
  exact h.1.1.1
theorem txtTerm_len {t:Trm} (h:termedF t=true):(txtTerm t).length<=80:=by
 unfold txtTerm
 unfold termedF at h
 split
 ·rename_i h1
  rw [if_pos h1] at h
  simp only [numberB,Bool.and_eq_true,decide_eq_true_eq] at h
  have:=decI_len h.2.1 h.2.2;omega
 ·rename_i h1
  rw [if_neg h1] at h
  simp only [Bool.and_eq_true,decide_eq_true_eq] at h
  have h2:=named_len h.1.2
  split
  ·omega
  ·have:=kwTerm_len t.kind
   simp only [List.length_append,List.length_cons,List.length_nil];omega
theorem txtBind_len {b:Bnd} (h:bndOk b=true):(txtBind b).length<=80:=by
 unfold bndOk at h
 simp only [Bool.and_eq_true,decide_eq_true_eq] at h
 have:=named_len h.1.1
 have:=kwSort_len b.sort
 unfold txtBind
 simp only [List.length_append,List.length_cons,List.length_nil];omega
theorem txtMore_len:∀ {bs:List Bnd},bs.all bndOk=true->(txtMore bs).length<=82*bs.length
 | [],_=>by simp [txtMore]
 | b :: r,h=>by
  simp only [List.all_cons,Bool.and_eq_true] at h
  have h1:=txtBind_len h.1
  have h2:=txtMore_len h.2
  rw [txtMore]
  simp only [List.length_append,List.length_cons,List.length_nil] at h2 ⊢;omega
theorem txtBinds_len {bs:List Bnd} (h:bs.all bndOk=true) (hl:bs.length<=6):(txtBinds bs).length<=500:=by
 cases bs with
 | nil=>simp [txtBinds]
 | cons b r =>
  simp only [List.all_cons,Bool.and_eq_true] at h
  have h1:=txtBind_len h.1
  have h2:=txtMore_len h.2
  rw [txtBinds]
  simp only [List.length_append,List.length_cons] at hl ⊢;omega
theorem cmp_len {s:Bs} (h:cmpL.contains s=true):s.length<=2:=by
 have:∀ x∈cmpL,x.length<=2:=by decide
 exact this s (by simpa using h)
theorem txtIn_len (f:Frm) (least:Nat):(txtIn f least).length<=(txtF f).length+2:=by
 unfold txtIn
 split
 ·simp only [List.length_append,List.length_cons,List.length_nil];omega
 ·omega
theorem txtF_len:∀ f,wf f->(txtF f).length<=600*f.size:=by
 refine wf_ind ?_ ?_ ?_ ?_ ?_ ?_
 ·rintro k (rfl | rfl)
  ·rw [txtF_nil];simp [Frm.size,fsizes]
  ·rw [txtF_nil];simp [Frm.size,fsizes]
 ·intro k a b h1 h2 ha hb
  rw [txtF_two,if_neg (by omega),if_neg (by omega),if_neg (by omega),if_neg (by omega),if_neg (by omega),if_neg (by omega),if_neg (by omega),if_neg (by omega)]
  have e1:=txtTerm_len (t:=⟨2,a,0⟩) (by simp [termedF,ha])
  have e2:=txtTerm_len (t:=⟨2,b,0⟩) (by simp [termedF,hb])
  have e3:=kwAtom_len k
  simp only [List.length_append,List.length_cons,List.length_nil,Frm.size,fsizes];omega
 ·intro s t u hs ht hu
  rw [txtF_two,if_neg (by omega),if_neg (by omega),if_pos rfl]
  have e1:=txtTerm_len ht
  have e2:=txtTerm_len hu
  have e3:=cmp_len hs
  simp only [List.length_append,List.length_cons,List.length_nil,Frm.size,fsizes];omega
 ·intro g _ ih
  have e:txtF (.mk 10 [] 0 [] [] [g])=[33]++txtIn g 4:=by rw [txtF_nil];simp [txtAt,txtIn]
  rw [e]
  have:=txtIn_len g 4
  simp only [List.length_append,List.length_cons,List.length_nil,Frm.size,fsizes];omega
 ·intro k g g' h1 h2 _ _ ih1 ih2
  have:k=11∨k=12∨k=13:=by omega
  rcases this with rfl | rfl | rfl
  ·have e:txtF (.mk 11 [] 0 [] [] [g,g'])=txtIn g 3++([32,38,32]++txtIn g' 4):=by rw [txtF_nil];simp [txtAt,txtIn]
   rw [e]
   have:=txtIn_len g 3
   have:=txtIn_len g' 4
   simp only [List.length_append,List.length_cons,List.length_nil,Frm.size,fsizes];omega
  ·have e:txtF (.mk 12 [] 0 [] [] [g,g'])=txtIn g 2++([32,124,32]++txtIn g' 3):=by rw [txtF_nil];simp [txtAt,txtIn]
   rw [e]
   have:=txtIn_len g 2
   have:=txtIn_len g' 3
   simp only [List.length_append,List.length_cons,List.length_nil,Frm.size,fsizes];omega
  ·have e:txtF (.mk 13 [] 0 [] [] [g,g'])=txtIn g 2++([32,45,62,32]++txtIn g' 1):=by rw [txtF_nil];simp [txtAt,txtIn]
   rw [e]
   have:=txtIn_len g 2
   have:=txtIn_len g' 1
   simp only [List.length_append,List.length_cons,List.length_nil,Frm.size,fsizes];omega
 ·intro k n b bs g h1 h2 hn hm hz hl hbo hbs _ ih
  have hat:txtAt [g] 0 0=txtF g:=by rw [txtAt_get [g] 0 0 (by simp)];simp [txtIn]
  rw [txtF_nil,if_neg (by omega),if_neg (by omega),if_neg (by omega),if_neg (by omega),if_neg (by omega),if_neg (by omega),if_neg (by omega),if_pos h1,hat]
  have e1:=kwAll_len k
  have e2:=decI_len hn hm
  have e3:(txtBinds (b :: bs)).length<=500:=txtBinds_len (by simp [hbo,hbs]) (by simp only [List.length_cons];omega)
  have e4:(if 16<=k then decI n++[32] else []).length<=14:=by split <;> simp <;> omega
  simp only [List.length_append,List.length_cons,List.length_nil,Frm.size,fsizes];omega
end Go.Chalk
/- Plain laws of the layer tell: sentences grouped by rule. No program is named here. -/
namespace Go.Chalk
def inR (k n:Nat) (i:Ins):Bool:=decide ((k:Int)<=i.rule)&&decide (i.rule<(k:Int)+(n:Int))
def isR (k:Nat) (i:Ins):Bool:=decide (i.rule=(k:Int))
def headsN (x:List Ins):Nat->Nat->Nat
 | _,0=>0
 | k,n+1=>(if x.any (isR k) then 1 else 0)+headsN x (k+1) n
theorem inR_split (g:Ins->Nat) (k n:Nat):∀ x:List Ins,((x.filter (inR k (n+1))).map g).sum=((x.filter (isR k)).map g).sum+((x.filter (inR (k+1) n)).map g).sum
 | []=>rfl
 | i :: x=>by
  have ih:=inR_split g k n x
  simp only [List.filter_cons]
  by_cases h1:i.rule=(k:Int)
  ·have a1:inR k (n+1) i=true:=by simp [inR,h1];omega
   have a2:isR k i=true:=by simp [isR,h1]
   have a3:inR (k+1) n i=false:=by simp [inR,h1];omega
   rw [a1,a2,a3]
   simp only [if_true,Bool.false_eq_true,if_false,List.map_cons,List.sum_cons]
   omega
  ·have a2:isR k i=false:=by simp [isR,h1]
   by_cases h2:inR (k+1) n i=true
   ·have a1:inR k (n+1) i=true:=by
     simp only [inR,Bool.and_eq_true,decide_eq_true_eq] at h2 ⊢;omega
    rw [a1,a2,h2]
    simp only [if_true,Bool.false_eq_true,if_false,List.map_cons,List.sum_cons]
    omega
   ·have h2:inR (k+1) n i=false:=by simpa using h2
    have a1:inR k (n+1) i=false:=by
     rw [Bool.eq_false_iff]
     intro h3
     rw [Bool.eq_false_iff] at h2
     apply h2
     simp only [inR,Bool.and_eq_true,decide_eq_true_eq] at h3 ⊢;omega
    rw [a1,a2,h2]
    simpa using ih
theorem filter_none {x:List Ins} {p:Ins->Bool} (h:x.any p=false):x.filter p=[]:=by
 rw [List.filter_eq_nil_iff]
 intro a ha hp
 have:=List.any_eq_false.1 h a ha
 exact this hp
theorem byRule_sum (φ:Bs->Nat) (c:Nat) (hc:∀ r,φ (ruleHead r)=c) (s:Schl) (l:List Rul) (x:List Ins):∀ (q:List Rul) (k:Nat),
  ((byRuleGo s l x k q).map φ).sum=c*headsN x k q.length+((x.filter (inR k q.length)).map (fun i=>φ ([32,32]++(sentF s l i).1))).sum
 | [],k=>by
  have:x.filter (inR k 0)=[]:=by
   rw [List.filter_eq_nil_iff]
   intro a _ hp
   simp only [inR,Bool.and_eq_true,decide_eq_true_eq] at hp
   omega
  simp [byRuleGo,headsN,this]
 | r :: q,k=>by
  rw [byRuleGo,List.map_append,List.sum_append,byRule_sum φ c hc s l x q (k+1),List.length_cons,headsN,inR_split,linesOf]
  by_cases h:x.any (isR k)=true
  ·rw [if_pos (show x.any (fun i=>decide (i.rule=(k:Int)))=true from h),if_pos h,List.map_cons,List.sum_cons,hc,List.map_map,Nat.mul_add,Nat.mul_one]
   have:((x.filter (fun i=>decide (i.rule=(k:Int)))).map (φ ∘ fun i=>[32,32]++(sentF s l i).1)).sum=((x.filter (isR k)).map (fun i=>φ ([32,32]++(sentF s l i).1))).sum:=rfl
   rw [this];omega
  ·have h2:x.any (isR k)=false:=by simpa using h
   rw [if_neg (show ¬ x.any (fun i=>decide (i.rule=(k:Int)))=true from h),if_neg h,filter_none h2]
   simp
theorem sent_rule {s:Schl} {l:List Rul} {i:Ins} (h:(sentF s l i).2=0):0<=i.rule/\i.rule<(l.length:Int):=by
 unfold sentF elsF at h
 by_cases h1:i.rule<0
 ·rw [if_pos h1] at h;simp at h
 ·rw [if_neg h1] at h
  refine ⟨by omega,?_⟩
  cases h2:l[i.rule.toNat]? with
  | none=>rw [h2] at h;simp at h
  | some r =>
   have:=(List.getElem?_eq_some_iff.1 h2).1
   omega
theorem sents_all {s:Schl} {l:List Rul}:∀ {x:List Ins},sentsErr s l x=0->∀ i∈x,(sentF s l i).2=0
 | [],_,i,hi=>by cases hi
 | a :: x,h,i,hi=>by
  rw [sentsErr] at h
  by_cases h1:(sentF s l a).2=0
  ·rw [if_neg (by simpa using h1)] at h
   rcases List.mem_cons.1 hi with rfl | hi
   ·exact h1
   ·exact sents_all h i hi
  ·rw [if_pos (by simpa using h1)] at h;exact absurd h h1
theorem all_in {s:Schl} {l:List Rul} {x:List Ins} (h:sentsErr s l x=0):x.filter (inR 0 l.length)=x:=by
 rw [List.filter_eq_self]
 intro i hi
 obtain ⟨h1,h2⟩:=sent_rule (sents_all h i hi)
 simp only [inR,Bool.and_eq_true,decide_eq_true_eq]
 omega
theorem sum_ones:∀ x:List Ins,(x.map (fun _=>1)).sum=x.length
 | []=>rfl
 | _ :: x=>by rw [List.map_cons,List.sum_cons,sum_ones x,List.length_cons];omega
theorem sum_lines:∀ x:List Bs,(x.map (fun _=>1)).sum=x.length
 | []=>rfl
 | _ :: x=>by rw [List.map_cons,List.sum_cons,sum_lines x,List.length_cons];omega
theorem grouped_len {s:Schl} {l:List Rul} {x:List Ins} (h:sentsErr s l x=0):(byRuleGo s l x 0 l).length=x.length+headsN x 0 l.length:=by
 have h1:=byRule_sum (fun _=>1) 1 (fun _=>rfl) s l x l 0
 rw [all_in h,sum_ones,sum_lines] at h1
 omega
def cntB (t:Bs) (l:List Bs):Nat:=(l.map (fun u=>if u=t then 1 else 0)).sum
theorem head_no (r:Rul) (t:Bs):ruleHead r ≠ [32,32]++t:=by
 unfold ruleHead
 cases r.hard <;> simp
theorem grouped_count {s:Schl} {l:List Rul} {x:List Ins} (h:sentsErr s l x=0) (t:Bs):cntB ([32,32]++t) (byRuleGo s l x 0 l)=(x.map (fun i=>if (sentF s l i).1=t then 1 else 0)).sum:=by
 have h1:=byRule_sum (fun u=>if u=[32,32]++t then 1 else 0) 0 (fun r=>if_neg (head_no r t)) s l x l 0
 rw [all_in h,Nat.zero_mul,Nat.zero_add] at h1
 unfold cntB
 rw [h1]
 congr 1
 refine List.map_congr_left (fun i _=>?_)
 simp
end Go.Chalk
