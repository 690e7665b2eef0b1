/- Joined texts: SyRd, SyRe. -/
import Derived.Test.YtpmalchlecnjbaaGreatDoorV07
import Derived.Test.YtpmalchlecnjbaaGreatDoorV02
set_option linter.unusedVariables false
set_option linter.unusedSimpArgs false
/- The reader of the reference, as a relation between its states: a place among the tokens, and whether there was an error. No program is named here. -/
namespace Go.Chalk
def RTok (t:Tok):Prop:=(t.kind=4/\t.text=[])∨rightB t=true
theorem RTok.word {t:Tok} (h:RTok t) (hk:t.kind=1):wordB t.text=true:=by
 rcases h with h | h
 ·omega
 ·unfold rightB at h;rwa [if_pos hk] at h
theorem RTok.num {t:Tok} (h:RTok t) (hk:t.kind=2):numB t.text=true:=by
 rcases h with h | h
 ·omega
 ·unfold rightB at h;rwa [if_neg (by omega),if_pos hk] at h
theorem RTok.sign {t:Tok} (h:RTok t) (hk:t.kind=3):t.text∈signsL:=by
 rcases h with h | h
 ·omega
 ·unfold rightB at h;rw [if_neg (by omega),if_neg (by omega),if_pos hk] at h;simpa using h
def ixFrom:Int->List Bs->Bs->Int
 | _,[],_ => -1
 | i,k :: r,s=>if k=s then i else ixFrom (i+1) r s
theorem ixFrom_ge:∀ (ks:List Bs) (i:Int) (s:Bs),0<=i->ixFrom i ks s = -1∨(i<=ixFrom i ks s/\ixFrom i ks s<i+ks.length/\s∈ks)
 | [],i,s,_=>.inl rfl
 | k :: r,i,s,hi=>by
  rw [ixFrom]
  split
  ·rename_i h;exact .inr ⟨by omega,by simp;omega,by simp [h]⟩
  ·rcases ixFrom_ge r (i+1) s (by omega) with h | ⟨h1,h2,h3⟩
   ·exact .inl h
   ·exact .inr ⟨by omega,by simp;omega,by simp [h3]⟩
theorem ixFrom_no:∀ (ks:List Bs) (i:Int) (s:Bs),s ∉ ks->ixFrom i ks s = -1
 | [],_,_,_=>rfl
 | k :: r,i,s,h=>by
  rw [ixFrom,if_neg (fun e=>h (by simp [e])),ixFrom_no r _ s (fun e=>h (by simp [e]))]
theorem ixFrom_get:∀ (ks:List Bs) (i:Nat) (s:Bs) (j:Nat),ixFrom (i:Int) ks s=(j:Int)->i<=j/\ks[j - i]?=some s
 | [],i,s,j,h=>by rw [ixFrom] at h;omega
 | k :: r,i,s,j,h=>by
  rw [ixFrom] at h
  split at h
  ·rename_i e;have:i=j:=by omega
   subst this;simp [e]
  ·obtain ⟨h1,h2⟩:=ixFrom_get r (i+1) s j (by simpa using h)
   refine ⟨by omega,?_⟩
   rw [show j - i=(j - (i+1))+1 from by omega]
   simpa using h2
def conseq:Int->List (Bs×Int)->Bool
 | _,[]=>true
 | b,p :: r=>decide (p.2=b)&&conseq (b+1) r
def ixOf (t:Option Int) (b:Int):Int:=match t with | some k=>k - b | none => -1
theorem ix_kw (base:Int):∀ (w:List (Bs×Int)) (i:Int) (s:Bs),conseq (base+i) w=true->ixFrom i (w.map Prod.fst) s=ixOf (kwGet w s) base
 | [],_,_,_=>rfl
 | p :: r,i,s,h=>by
  rw [conseq,Bool.and_eq_true,decide_eq_true_eq] at h
  rw [List.map_cons,ixFrom,kwGet,List.find?_cons]
  by_cases hp:p.1=s
  ·rw [if_pos hp,show (p.1==s)=true by simpa using hp]
   simp only [Option.map_some,ixOf];omega
  ·rw [if_neg hp,show (p.1==s)=false by simpa using hp]
   have:=ix_kw base r (i+1) s (by rw [<- Int.add_assoc];exact h.2)
   rw [this];rfl
def amongF (ks:List Bs) (l:List Tok):Int:=match l with | [] => -1 | t :: _=>if (t.kind=1∨t.kind=3)/\t.text ≠ [] then ixFrom 0 ks t.text else -1
theorem word_ne {s:Bs} (h:wordB s=true):s ≠ []:=by intro e;rw [e] at h;cases h
theorem sign_ne {s:Bs} (h:s∈signsL):s ≠ []:=by intro e;rw [e] at h;exact absurd h (by decide)
def sortsL:List Bs:=[] :: kwSort.map Prod.fst
def termsL:List Bs:=kwTerm.map Prod.fst
def predsL:List Bs:=kwAtom.map Prod.fst
def allsL:List Bs:=[[97,108,108],[115,111,109,101]]
def leastsL:List Bs:=[[108,101,97,115,116],[109,111,115,116]]
def truesL:List Bs:=[[116,114,117,101],[102,97,108,115,101]]
def opsL:List Bs:=[[61],[33,61],[60],[60,61],[62],[62,61]]
theorem ixFrom_skip (ks:List Bs) (s:Bs) (h:s ≠ []):ixFrom 0 ([] :: ks) s=ixFrom 1 ks s:=by rw [ixFrom,if_neg (fun e=>h e.symm)];rfl
theorem among_cases {t:Tok} (ht:RTok t) (ks:List Bs) (r:List Tok):(t.kind=1/\wordB t.text=true/\amongF ks (t :: r)=ixFrom 0 ks t.text)∨(t.kind=3/\t.text∈signsL/\amongF ks (t :: r)=ixFrom 0 ks t.text)∨(t.kind ≠ 1/\t.kind ≠ 3/\amongF ks (t :: r) = -1):=by
 simp only [amongF]
 by_cases h1:t.kind=1
 ·exact .inl ⟨h1,ht.word h1,by rw [if_pos ⟨.inl h1,word_ne (ht.word h1)⟩]⟩
 ·by_cases h3:t.kind=3
  ·exact .inr (.inl ⟨h3,ht.sign h3,by rw [if_pos ⟨.inr h3,sign_ne (ht.sign h3)⟩]⟩)
  ·exact .inr (.inr ⟨h1,h3,by rw [if_neg (by rintro ⟨h | h,_⟩ <;> contradiction)]⟩)
theorem not_mem_of {ks:List Bs} (hs:signsL.all (fun s=>!(ks.contains s))=true) {s:Bs} (hm:s∈signsL):s ∉ ks:=by
 intro e
 have:=List.all_eq_true.1 hs _ hm
 simp [e] at this
theorem among_kw (w:List (Bs×Int)) (base:Int) {t:Tok} (ht:RTok t) (r:List Tok) (hw:conseq base w=true) (hs:signsL.all (fun s=>!((w.map Prod.fst).contains s))=true):amongF (w.map Prod.fst) (t :: r)=ixOf (kwT w (t :: r)) base:=by
 rcases among_cases ht (w.map Prod.fst) r with ⟨h1,h2,h3⟩ | ⟨h1,h2,h3⟩ | ⟨h1,h2,h3⟩
 ·rw [h3,kwT,if_pos h1];exact ix_kw base w 0 t.text (by simpa using hw)
 ·rw [h3,kwT,if_neg (by omega),ixFrom_no _ _ _ (not_mem_of hs h2)];rfl
 ·rw [h3,kwT,if_neg h1];rfl
theorem among_sorts {t:Tok} (ht:RTok t) (r:List Tok):amongF sortsL (t :: r)=ixOf (kwT kwSort (t :: r)) 0:=by
 rcases among_cases ht sortsL r with ⟨h1,h2,h3⟩ | ⟨h1,h2,h3⟩ | ⟨h1,h2,h3⟩
 ·rw [h3,kwT,if_pos h1,sortsL,ixFrom_skip _ _ (word_ne h2)];exact ix_kw 0 kwSort 1 t.text (by decide)
 ·rw [h3,kwT,if_neg (by omega),ixFrom_no _ _ _ (not_mem_of (by decide) h2)];rfl
 ·rw [h3,kwT,if_neg h1];rfl
theorem among_terms {t:Tok} (ht:RTok t) (r:List Tok):amongF termsL (t :: r)=ixOf (kwT kwTerm (t :: r)) 3:=among_kw kwTerm 3 ht r (by decide) (by decide)
theorem among_preds {t:Tok} (ht:RTok t) (r:List Tok):amongF predsL (t :: r)=ixOf (kwT kwAtom (t :: r)) 3:=among_kw kwAtom 3 ht r (by decide) (by decide)
def ixTwo (a b:Bs) (l:List Tok):Int:=if isT a l then 0 else if isT b l then 1 else -1
theorem isT_eq {a:Bs} {t:Tok} {r:List Tok} (hk:t.kind=1∨t.kind=3):isT a (t :: r)=decide (a=t.text):=by
 have hk:(t.kind==1||t.kind==3)=true:=by simpa using hk
 simp only [isT,hk,Bool.and_true]
 rw [Bool.eq_iff_iff,beq_iff_eq,decide_eq_true_eq]
 exact eq_comm
theorem isT_none {a:Bs} {t:Tok} {r:List Tok} (hk:¬ (t.kind=1∨t.kind=3)):isT a (t :: r)=false:=by
 have hk:(t.kind==1||t.kind==3)=false:=by simpa using hk
 simp only [isT,hk,Bool.and_false]
theorem among_two {a b:Bs} {t:Tok} (ht:RTok t) (r:List Tok) (hab:a ≠ []) (hbb:b ≠ []):amongF [a,b] (t :: r)=ixTwo a b (t :: r):=by
 unfold ixTwo
 simp only [amongF,ixFrom]
 by_cases h1:t.kind=1∨t.kind=3
 ·have hn:t.text ≠ []:=by rcases h1 with h | h;exact word_ne (ht.word h);exact sign_ne (ht.sign h)
  rw [if_pos ⟨h1,hn⟩,isT_eq h1,isT_eq h1]
  by_cases ha:a=t.text
  ·rw [if_pos ha,if_pos (by simpa using ha)]
  ·rw [if_neg ha,if_neg (show ¬ (decide (a=t.text)=true) by simpa using ha)]
   by_cases hb:b=t.text
   ·rw [if_pos hb,if_pos (show decide (b=t.text)=true by simpa using hb)];rfl
   ·rw [if_neg hb,if_neg (show ¬ (decide (b=t.text)=true) by simpa using hb)]
 ·rw [if_neg (fun e=>h1 e.1),isT_none h1,isT_none h1];rfl
theorem kwAll_of (s:Bs):kwGet kwAll s=if s=[97,108,108] then some 14 else if s=[115,111,109,101] then some 15 else if s=[108,101,97,115,116] then some 16 else if s=[109,111,115,116] then some 17 else none:=by
 unfold kwGet kwAll
 simp only [List.find?_cons,List.find?_nil]
 by_cases h1:s=[97,108,108]
 ·subst h1;rfl
 by_cases h2:s=[115,111,109,101]
 ·subst h2;rfl
 by_cases h3:s=[108,101,97,115,116]
 ·subst h3;rfl
 by_cases h4:s=[109,111,115,116]
 ·subst h4;rfl
 rw [if_neg h1,if_neg h2,if_neg h3,if_neg h4]
 rw [show (([97,108,108]:Bs)==s)=false by simpa using fun e=>h1 e.symm,show (([115,111,109,101]:Bs)==s)=false by simpa using fun e=>h2 e.symm,show (([108,101,97,115,116]:Bs)==s)=false by simpa using fun e=>h3 e.symm,show (([109,111,115,116]:Bs)==s)=false by simpa using fun e=>h4 e.symm]
 rfl
theorem isT_word {a:Bs} {t:Tok} {r:List Tok} (ht:RTok t) (ha:a ∉ signsL):isT a (t :: r)=decide (t.kind=1/\t.text=a):=by
 by_cases h1:t.kind=1
 ·rw [isT_eq (.inl h1),Bool.eq_iff_iff,decide_eq_true_eq,decide_eq_true_eq]
  exact ⟨fun e=>⟨h1,e.symm⟩,fun e=>e.2.symm⟩
 ·rw [Bool.eq_iff_iff,decide_eq_true_eq]
  refine ⟨fun e=>?_,fun e=>absurd e.1 h1⟩
  exfalso
  by_cases h3:t.kind=3
  ·have hm:=ht.sign h3
   rw [isT_eq (.inr h3),decide_eq_true_eq] at e
   rw [<- e] at hm;exact ha hm
  ·rw [isT_none (by rintro (h | h) <;> contradiction)] at e;cases e
theorem kwAll_T {t:Tok} {r:List Tok} (ht:RTok t):kwT kwAll (t :: r)=if isT [97,108,108] (t :: r) then some 14 else if isT [115,111,109,101] (t :: r) then some 15 else if isT [108,101,97,115,116] (t :: r) then some 16 else if isT [109,111,115,116] (t :: r) then some 17 else none:=by
 rw [isT_word ht (by decide),isT_word ht (by decide),isT_word ht (by decide),isT_word ht (by decide)]
 simp only [kwT,kwAll_of,decide_eq_true_eq]
 by_cases h1:t.kind=1
 ·simp [h1]
 ·simp [h1]
theorem opT_among {t:Tok} (ht:RTok t) (r:List Tok):opT (t :: r)=(if amongF opsL (t :: r)<0 then none else opsL[(amongF opsL (t :: r)).toNat]?):=by
 rcases among_cases ht opsL r with ⟨h1,h2,h3⟩ | ⟨h1,h2,h3⟩ | ⟨h1,h2,h3⟩
 ·have hn:t.text ∉ opsL:=by
   intro e
   have:opsL.all (fun s=>!(wordB s))=true:=by decide
   have:=List.all_eq_true.1 this _ e
   rw [h2] at this;cases this
  rw [h3,ixFrom_no _ _ _ hn,opT,if_neg (by omega)];rfl
 ·rw [h3]
  simp only [opT,h1,true_and]
  have hc:cmpL.contains t.text=opsL.contains t.text:=by
   have hall:signsL.all (fun s=>cmpL.contains s==opsL.contains s)=true:=by decide
   have:=List.all_eq_true.1 hall _ h2
   simpa using this
  rw [hc]
  by_cases hm:t.text∈opsL
  ·rcases ixFrom_ge opsL 0 t.text (Int.le_refl _) with h | ⟨h4,h5,h6⟩
   ·exfalso
    have:∀ s∈opsL,ixFrom 0 opsL s ≠ -1:=by decide
    exact this _ hm h
   ·obtain ⟨j,hj⟩:∃ j:Nat,ixFrom 0 opsL t.text=j:=⟨(ixFrom 0 opsL t.text).toNat,by omega⟩
    have:=(ixFrom_get opsL 0 t.text j (by simpa using hj)).2
    rw [if_pos (by simpa using hm),hj,if_neg (by omega)]
    simpa using this.symm
  ·rw [if_neg (by simpa using hm),ixFrom_no _ _ _ hm];rfl
 ·rw [h3,opT,if_neg (by omega)];rfl
def ROut (L:List Tok) {α:Type} (p:List Tok->Rs α) (n:Nat) (bad:Bool) (v:α) (n':Nat) (bad':Bool):Prop :=
 match bad with
 | true=>n'=n/\bad'=true
 | false=>match p (L.drop n) with
  | .ok a l=>v=a/\bad'=false/\L.drop n'=l
  | .bad m=>bad'=true/\atT (L.drop n')=m
theorem ROut.stuck {L:List Tok} {α:Type} (p:List Tok->Rs α) (n:Nat) (v:α):ROut L p n true v n true:=⟨rfl,rfl⟩
theorem ROut.out_bad {L:List Tok} {α:Type} {p:List Tok->Rs α} {n n':Nat} {v:α} {b':Bool} (h:ROut L p n true v n' b'):n'=n/\b'=true:=h
theorem ROut.good {L:List Tok} {α:Type} {p:List Tok->Rs α} {n n':Nat} {v:α} {bad:Bool} (h:ROut L p n bad v n' false):bad=false/\p (L.drop n)=.ok v (L.drop n'):=by
 cases bad with
 | true=>exact absurd h.2 (by decide)
 | false =>
  refine ⟨rfl,?_⟩
  simp only [ROut] at h
  split at h
  ·rename_i a l e;rw [e,h.1,h.2.2]
  ·exact absurd h.1 (by decide)
theorem ROut.fails {L:List Tok} {α:Type} {p:List Tok->Rs α} {n n':Nat} {v:α} (h:ROut L p n false v n' true):p (L.drop n)=.bad (atT (L.drop n')):=by
 simp only [ROut] at h
 split at h
 ·exact absurd h.2.1 (by decide)
 ·rename_i m e;rw [e,h.2]
theorem ROut.of_ok {L:List Tok} {α:Type} {p:List Tok->Rs α} {n n':Nat} {v:α} (h:p (L.drop n)=.ok v (L.drop n')):ROut L p n false v n' false:=by
 simp only [ROut,h,and_self]
theorem ROut.of_bad {L:List Tok} {α:Type} {p:List Tok->Rs α} {n n':Nat} {v:α} (h:p (L.drop n)=.bad (atT (L.drop n'))):ROut L p n false v n' true:=by
 simp only [ROut,h,and_self]
theorem ROut.congr {L:List Tok} {α:Type} {p q:List Tok->Rs α} {n n':Nat} {v:α} {bad bad':Bool} (h:ROut L p n bad v n' bad') (e:bad=false->q (L.drop n)=p (L.drop n)):ROut L q n bad v n' bad':=by
 cases bad with
 | true=>exact h
 | false=>simp only [ROut] at h ⊢;rw [e rfl];exact h
theorem ROut.bind {L:List Tok} {α β:Type} {p:List Tok->Rs α} {q:α->List Tok->Rs β} {n n1 n2:Nat} {v:α} {u:β} {b b1 b2:Bool} (h:ROut L p n b v n1 b1) (k:ROut L (q v) n1 b1 u n2 b2):ROut L (fun l=>(p l).bind q) n b u n2 b2:=by
 cases b with
 | true =>
  obtain ⟨rfl,rfl⟩:=h.out_bad
  exact k
 | false =>
  simp only [ROut] at h ⊢
  split at h
  ·rename_i a l e
   obtain ⟨rfl,rfl,rfl⟩:=h
   rw [e];exact k
  ·rename_i m e
   obtain ⟨rfl,rfl⟩:=h
   obtain ⟨rfl,rfl⟩:=k.out_bad
   rw [e];exact ⟨rfl,rfl⟩
theorem ROut.pure {L:List Tok} {α:Type} (v:α) (n:Nat) (b:Bool):ROut L (fun l=>.ok v l) n b v n b:=by cases b <;> simp [ROut]
theorem ROut.map {L:List Tok} {α β:Type} {p:List Tok->Rs α} {n n1:Nat} {v:α} {b b1:Bool} (h:ROut L p n b v n1 b1) (g:α->β):ROut L (fun l=>(p l).bind fun a l=>.ok (g a) l) n b (g v) n1 b1:=h.bind (ROut.pure (g v) n1 b1)
theorem drop_tail (L:List Tok) (n:Nat):(L.drop n).tail=L.drop (n+1):=by rw [List.tail_drop]
theorem ROut.tail {L:List Tok} {α:Type} {p q:List Tok->Rs α} {n n':Nat} {v:α} {b':Bool} (h:ROut L q (n+1) false v n' b') (e:p (L.drop n)=q (L.drop n).tail):ROut L p n false v n' b':=by
 rw [drop_tail] at e
 simp only [ROut] at h ⊢;rw [e];exact h
def RTook (L:List Tok) (s:Bs) (n:Nat) (bad c:Bool) (n':Nat):Prop:=c=(!bad&&isT s (L.drop n))/\n'=if c then n+1 else n
theorem RTook.yes {L:List Tok} {s:Bs} {n n':Nat} {bad:Bool} (h:RTook L s n bad true n'):bad=false/\isT s (L.drop n)=true/\n'=n+1:=by
 obtain ⟨h1,h2⟩:=h
 cases bad
 ·exact ⟨rfl,by simpa using h1.symm,by simpa using h2⟩
 ·cases h1
theorem RTook.no {L:List Tok} {s:Bs} {n n':Nat} {bad:Bool} (h:RTook L s n bad false n'):(bad=false->isT s (L.drop n)=false)/\n'=n:=by
 obtain ⟨h1,h2⟩:=h
 refine ⟨fun e=>?_,by simpa using h2⟩
 subst e;simpa using h1.symm
theorem RTook.want {L:List Tok} {s:Bs} {n n':Nat} {bad c:Bool} (h:RTook L s n bad c n'):ROut L (pWant s) n bad () n' (bad||!c):=by
 cases c with
 | true =>
  obtain ⟨rfl,h2,rfl⟩:=h.yes
  exact ROut.of_ok (by rw [pWant,if_pos h2,drop_tail])
 | false =>
  obtain ⟨h1,rfl⟩:=h.no
  cases bad with
  | true=>exact ROut.stuck _ _ _
  | false=>exact ROut.of_bad (by rw [pWant,h1 rfl];rfl)
def RAmong (L:List Tok) (ks:List Bs) (n:Nat) (bad:Bool) (i:Int) (n':Nat):Prop:=i=(if bad then -1 else amongF ks (L.drop n))/\n'=if 0<=i then n+1 else n
theorem RAmong.stuck {L:List Tok} {ks:List Bs} {n n':Nat} {i:Int} (h:RAmong L ks n true i n'):i = -1/\n'=n:=by
 obtain ⟨h1,h2⟩:=h
 simp only [if_true] at h1
 subst h1
 exact ⟨rfl,by simpa using h2⟩
theorem RAmong.got {L:List Tok} {ks:List Bs} {n n':Nat} {i:Int} {bad:Bool} (h:RAmong L ks n bad i n') (hi:0<=i):bad=false/\amongF ks (L.drop n)=i/\n'=n+1:=by
 cases bad with
 | true=>have:=h.stuck;omega
 | false =>
  obtain ⟨h1,h2⟩:=h
  exact ⟨rfl,by simpa using h1.symm,by simpa [hi] using h2⟩
theorem RAmong.none {L:List Tok} {ks:List Bs} {n n':Nat} {i:Int} {bad:Bool} (h:RAmong L ks n bad i n') (hi:i<0):(bad=false->amongF ks (L.drop n)<0)/\n'=n:=by
 obtain ⟨h1,h2⟩:=h
 refine ⟨fun e=>?_,by rw [if_neg (by omega)] at h2;exact h2⟩
 subst e;simp at h1;omega
end Go.Chalk
/- The functions of the reference's reader, one by one, against the parsers of the spec. No program is named here. -/
namespace Go.Chalk
def RToks (L:List Tok):Prop:=∀ t∈L,RTok t
theorem RToks.at_ {L:List Tok} (h:RToks L) {n:Nat} (hn:n<L.length):∃ t r,L.drop n=t :: r/\RTok t:=⟨L[n],L.drop (n+1),List.drop_eq_getElem_cons hn,h _ (List.getElem_mem hn)⟩
theorem kwT_mem {w:List (Bs×Int)} {t:Tok} {r:List Tok} {k:Int} (h:kwT w (t :: r)=some k):t.kind=1/\(t.text,k)∈w:=by
 simp only [kwT] at h
 split at h
 ·rename_i e
  refine ⟨e,?_⟩
  unfold kwGet at h
  cases hf:w.find? (fun p=>p.1==t.text) with
  | none=>rw [hf] at h;cases h
  | some p =>
   rw [hf] at h;cases h
   have h1:=List.mem_of_find?_eq_some hf
   have h2:=List.find?_some hf
   have:p.1=t.text:=by simpa using h2
   rw [<- this];exact h1
 ·cases h
theorem kwT_range' {w:List (Bs×Int)} {t:Tok} {r:List Tok} {k a b:Int} (hw:w.all (fun p=>decide (a<=p.2)&&decide (p.2<=b))=true) (h:kwT w (t :: r)=some k):a<=k/\k<=b:=by
 have:=List.all_eq_true.1 hw _ (kwT_mem h).2
 simpa using this
theorem kwT_isT {w:List (Bs×Int)} {t:Tok} {r:List Tok} {k:Int} {s:Bs} (hw:(w.map Prod.fst).contains s=false) (h:kwT w (t :: r)=some k):isT s (t :: r)=false:=by
 have hm:=(kwT_mem h).2
 simp only [isT]
 have:(t.text==s)=false:=by
  simp only [beq_eq_false_iff_ne]
  intro e
  rw [e] at hm
  have:s∈w.map Prod.fst:=List.mem_map.2 ⟨_,hm,rfl⟩
  simp at hw
  simp at this
  obtain ⟨x,hx⟩:=this
  exact hw _ hx
 rw [this,Bool.false_and]
theorem isT_other {a b:Bs} {l:List Tok} (h:isT a l=true) (hab:a ≠ b):isT b l=false:=by
 cases l with
 | nil=>rfl
 | cons t r =>
  simp only [isT,Bool.and_eq_true,beq_iff_eq] at h ⊢
  have:(t.text==b)=false:=by simp only [beq_eq_false_iff_ne];rw [h.1];exact hab
  rw [this,Bool.false_and]
theorem rd_bind {L:List Tok} (hT:RToks L) {n n1 n2 n3:Nat} {b b1 b2:Bool} {s:Bs} {i:Int} (h1:ROut L pName n b s n1 b1) (h2:ROut L (pWant [58]) n1 b1 () n2 b2) (h3:RAmong L sortsL n2 b2 i n3) (hn2:n2<L.length):ROut L pBind n b ⟨s,i⟩ n3 (b2||decide (i<1)):=by
 refine h1.bind (q:=fun s l=>(pWant [58] l).bind fun _ l=>match kwT kwSort l with | none=>.bad (atT l) | some n=>.ok (⟨s,n⟩:Bnd) l.tail) (h2.bind (q:=fun _ l=>match kwT kwSort l with | none=>.bad (atT l) | some n=>.ok (⟨s,n⟩:Bnd) l.tail) ?_)
 cases b2 with
 | true =>
  obtain ⟨rfl,rfl⟩:=h3.stuck
  exact ROut.stuck _ _ _
 | false =>
  obtain ⟨t,r,e,ht⟩:=hT.at_ hn2
  obtain ⟨h4,h5⟩:=h3
  rw [e,among_sorts ht] at h4
  simp only [Bool.false_eq_true,if_false] at h4
  cases hk:kwT kwSort (t :: r) with
  | none =>
   rw [hk] at h4
   have h4:i = -1:=h4
   subst h4
   have h5:n3=n2:=by simpa using h5
   subst h5
   exact ROut.of_bad (by rw [e];simp only [hk])
  | some k =>
   rw [hk] at h4
   have h4:i=k - 0:=h4
   have hr:=kwT_range' (a:=1) (b:=7) (by decide) hk
   have hik:i=k:=by omega
   subst hik
   rw [if_pos (by omega)] at h5
   subst h5
   rw [show (false||decide (i<1))=false by simp;omega]
   exact ROut.of_ok (by rw [<- drop_tail,e];simp only [hk])
theorem rd_binds_last {L:List Tok} {n n1 k:Nat} {b b1:Bool} {x:Bnd} (h:ROut L pBind n b x n1 b1) (hk:k=0∨b1=true∨isT [44] (L.drop n1)=false):ROut L (pBinds (k+1)) n b [x] n1 b1:=by
 refine (h.bind (q:=fun b l=>if k=0∨isT [44] l=false then .ok [b] l else (pBinds k l.tail).bind fun r l=>.ok (b :: r) l) ?_).congr (fun _=>by rw [pBinds])
 cases b1 with
 | true=>exact ROut.stuck _ _ _
 | false=>exact ROut.of_ok (by rw [if_pos (by simpa using hk)])
theorem rd_binds_more {L:List Tok} {n n1 n2 k:Nat} {b b2:Bool} {x:Bnd} {r:List Bnd} (h:ROut L pBind n b x n1 false) (hk:k ≠ 0) (ht:isT [44] (L.drop n1)=true) (hr:ROut L (pBinds k) (n1+1) false r n2 b2):ROut L (pBinds (k+1)) n b (x :: r) n2 b2:=by
 refine (h.bind (q:=fun b l=>if k=0∨isT [44] l=false then .ok [b] l else (pBinds k l.tail).bind fun r l=>.ok (b :: r) l) ?_).congr (fun _=>by rw [pBinds])
 refine ROut.tail (hr.map (fun r=>x :: r)) ?_
 rw [if_neg (by simp [hk,ht])]
theorem rd_imp {L:List Tok} {n n1 n2 n3:Nat} {b b1 b3:Bool} {f g:Frm} (h1:ROut L parOr n b f n1 b1) (h2:RTook L [45,62] n1 b1 true n2) (h3:ROut L parF n2 false g n3 b3):ROut L parF n b (node2 13 f g) n3 b3:=by
 refine (h1.bind (q:=fun f l=>if isT [45,62] l then (parF l.tail).bind fun g l=>.ok (node2 13 f g) l else .ok f l) ?_).congr (fun _=>by rw [parF_eq])
 obtain ⟨rfl,h4,rfl⟩:=h2.yes
 exact ROut.tail (h3.map (fun g=>node2 13 f g)) (by rw [if_pos h4])
theorem rd_noimp {L:List Tok} {n n1 n2:Nat} {b b1:Bool} {f:Frm} (h1:ROut L parOr n b f n1 b1) (h2:RTook L [45,62] n1 b1 false n2):ROut L parF n b f n1 b1:=by
 refine (h1.bind (q:=fun f l=>if isT [45,62] l then (parF l.tail).bind fun g l=>.ok (node2 13 f g) l else .ok f l) ?_).congr (fun _=>by rw [parF_eq])
 cases b1 with
 | true=>exact ROut.stuck _ _ _
 | false=>exact ROut.of_ok (by rw [if_neg (by rw [h2.no.1 rfl];decide)])
theorem rd_left0 {L:List Tok} {Ls:Frm->List Tok->Rs Frm} {Pt:List Tok->Rs Frm} {sign:Bs} {kind:Int} (hLs:∀ f l,Ls f l=if isT sign l then (Pt l.tail).bind (fun g l=>Ls (node2 kind f g) l) else .ok f l) {n n1:Nat} {b:Bool} {f:Frm} (h2:RTook L sign n b false n1):ROut L (Ls f) n b f n b:=by
 cases b with
 | true=>exact ROut.stuck _ _ _
 | false=>exact ROut.of_ok (by rw [hLs,if_neg (by rw [h2.no.1 rfl];decide)])
theorem rd_left1 {L:List Tok} {Ls:Frm->List Tok->Rs Frm} {Pt:List Tok->Rs Frm} {sign:Bs} {kind:Int} (hLs:∀ f l,Ls f l=if isT sign l then (Pt l.tail).bind (fun g l=>Ls (node2 kind f g) l) else .ok f l) {n n1 n2 n3:Nat} {b b2 b3:Bool} {f g x:Frm} (h2:RTook L sign n b true n1) (hg:ROut L Pt n1 false g n2 b2) (hx:ROut L (Ls (node2 kind f g)) n2 b2 x n3 b3):ROut L (Ls f) n b x n3 b3:=by
 obtain ⟨rfl,h4,rfl⟩:=h2.yes
 exact ROut.tail (hg.bind hx) (by rw [hLs,if_pos h4])
theorem rd_brk0 {L:List Tok} {n n1:Nat} {b:Bool} (x:Frm) (h1:ROut L (pWant [40]) n b () n1 true):ROut L parBrk n b x n1 true :=
 (h1.bind (q:=fun _ l=>(parF l).bind fun f l=>(pWant [41] l).bind fun _ l=>.ok f l) (ROut.stuck _ _ x)).congr (fun _=>by rw [parBrk_eq])
theorem rd_brk1 {L:List Tok} {n n1 n2 n3:Nat} {b b1 b2 b3:Bool} {f:Frm} (h1:ROut L (pWant [40]) n b () n1 b1) (h2:ROut L parF n1 b1 f n2 b2) (h3:ROut L (pWant [41]) n2 b2 () n3 b3):ROut L parBrk n b f n3 b3 :=
 (h1.bind (q:=fun _ l=>(parF l).bind fun f l=>(pWant [41] l).bind fun _ l=>.ok f l) (h2.bind (q:=fun f l=>(pWant [41] l).bind fun _ l=>.ok f l) (h3.map (fun _=>f)))).congr (fun _=>by rw [parBrk_eq])
theorem rd_quant {L:List Tok} {n n1 n2 n3:Nat} {b b1 b2 b3:Bool} {k x:Int} {bs:List Bnd} {f:Frm} (h1:ROut L (fun l=>if 16<=k then pNumber 0 1099511627776 l else .ok 0 l) n b x n1 b1) (h2:ROut L (pBinds 6) n1 b1 bs n2 b2) (h3:ROut L parBrk n2 b2 f n3 b3):ROut L (parQuant k) n b (.mk k [] x [] bs [f]) n3 b3 :=
 h1.bind (q:=fun x l=>(pBinds 6 l).bind fun b l=>(parBrk l).bind fun f l=>.ok (Frm.mk k [] x [] b [f]) l) (h2.bind (q:=fun b l=>(parBrk l).bind fun f l=>.ok (Frm.mk k [] x [] b [f]) l) (h3.map (fun f=>Frm.mk k [] x [] bs [f])))
theorem parUn_quant {t:Tok} {r:List Tok} {k:Int} (h:kwT kwAll (t :: r)=some k):parUn (t :: r)=parQuant k r:=by
 rw [parUn_eq,kwT_isT (s:=[33]) (by decide) h,kwT_isT (s:=[40]) (by decide) h,kwT_isT (s:=[116,114,117,101]) (by decide) h,kwT_isT (s:=[102,97,108,115,101]) (by decide) h,h]
 rfl
theorem rd_all {L:List Tok} (hT:RToks L) {n n1 n2 n3:Nat} {b b2 b3:Bool} {i:Int} {bs:List Bnd} {f:Frm} (hn:n<L.length) (h1:RAmong L allsL n b i n1) (hi:0<=i) (h2:ROut L (pBinds 6) n1 false bs n2 b2) (h3:ROut L parBrk n2 b2 f n3 b3):ROut L parUn n b (.mk (14+i) [] 0 [] bs [f]) n3 b3/\(i=0∨i=1):=by
 obtain ⟨rfl,h4,rfl⟩:=h1.got hi
 obtain ⟨t,r,e,ht⟩:=hT.at_ hn
 rw [e,show allsL=[[97,108,108],[115,111,109,101]] from rfl,among_two ht r (by decide) (by decide)] at h4
 have hk:kwT kwAll (t :: r)=some (14+i)/\(i=0∨i=1):=by
  rw [kwAll_T ht]
  unfold ixTwo at h4
  split at h4
  ·rename_i h5;rw [if_pos h5];exact ⟨by rw [<- h4];rfl,.inl h4.symm⟩
  ·rename_i h5
   split at h4
   ·rename_i h6;rw [if_neg h5,if_pos h6];exact ⟨by rw [<- h4];rfl,.inr h4.symm⟩
   ·omega
 refine ⟨ROut.tail (q:=parQuant (14+i)) (rd_quant (b1:=false) (n1:=n+1) (x:=0) ?_ h2 h3) (by rw [e,parUn_quant hk.1];rfl),hk.2⟩
 exact ROut.of_ok (by rw [if_neg (by omega)])
theorem rd_least {L:List Tok} (hT:RToks L) {n n1 n2 n3 n4:Nat} {b b2 b3 b4:Bool} {i x:Int} {bs:List Bnd} {f:Frm} (hn:n<L.length) (h1:RAmong L leastsL n b i n1) (hi:0<=i) (ha:amongF allsL (L.drop n)<0) (h2:ROut L (pNumber 0 1099511627776) n1 false x n2 b2) (h3:ROut L (pBinds 6) n2 b2 bs n3 b3) (h4:ROut L parBrk n3 b3 f n4 b4):ROut L parUn n b (.mk (16+i) [] x [] bs [f]) n4 b4/\(i=0∨i=1):=by
 obtain ⟨rfl,h5,rfl⟩:=h1.got hi
 obtain ⟨t,r,e,ht⟩:=hT.at_ hn
 rw [e,show allsL=[[97,108,108],[115,111,109,101]] from rfl,among_two ht r (by decide) (by decide)] at ha
 rw [e,show leastsL=[[108,101,97,115,116],[109,111,115,116]] from rfl,among_two ht r (by decide) (by decide)] at h5
 have hk:kwT kwAll (t :: r)=some (16+i)/\(i=0∨i=1):=by
  rw [kwAll_T ht]
  unfold ixTwo at h5 ha
  split at ha
  ·omega
  ·rename_i z1
   split at ha
   ·omega
   ·rename_i z2
    rw [if_neg z1,if_neg z2]
    split at h5
    ·rename_i h6;rw [if_pos h6];exact ⟨by rw [<- h5];rfl,.inl h5.symm⟩
    ·rename_i h6
     split at h5
     ·rename_i h7;rw [if_neg h6,if_pos h7];exact ⟨by rw [<- h5];rfl,.inr h5.symm⟩
     ·omega
 exact ⟨ROut.tail (q:=parQuant (16+i)) (rd_quant (h2.congr (fun _=>by rw [if_pos (by omega)])) h3 h4) (by rw [e,parUn_quant hk.1];rfl),hk.2⟩
theorem rd_true {L:List Tok} (hT:RToks L) {n n1:Nat} {b:Bool} {i:Int} (hn:n<L.length) (h1:RAmong L truesL n b i n1) (hi:0<=i):ROut L parUn n b (.mk (1+i) [] 0 [] [] []) n1 b/\(i=0∨i=1):=by
 obtain ⟨rfl,h5,rfl⟩:=h1.got hi
 obtain ⟨t,r,e,ht⟩:=hT.at_ hn
 rw [e,show truesL=[[116,114,117,101],[102,97,108,115,101]] from rfl,among_two ht r (by decide) (by decide)] at h5
 unfold ixTwo at h5
 split at h5
 ·rename_i h6
  subst h5
  exact ⟨ROut.of_ok (by rw [e,parUn_eq,isT_other h6 (b:=[33]) (by decide),isT_other h6 (b:=[40]) (by decide),h6,<- drop_tail,e];rfl),.inl rfl⟩
 ·rename_i h6
  split at h5
  ·rename_i h7
   subst h5
   exact ⟨ROut.of_ok (by rw [e,parUn_eq,isT_other h7 (b:=[33]) (by decide),isT_other h7 (b:=[40]) (by decide),Bool.eq_false_iff.2 h6,h7,<- drop_tail,e];rfl),.inr rfl⟩
  ·omega
def parAtm (l:List Tok):Rs Frm:=match kwT kwAtom l with | some k=>pAtom k l.tail | none=>pCmp l
theorem rd_not {L:List Tok} {n n1 n2:Nat} {b b2:Bool} {f:Frm} (h1:RTook L [33] n b true n1) (h2:ROut L parUn n1 false f n2 b2):ROut L parUn n b (.mk 10 [] 0 [] [] [f]) n2 b2:=by
 obtain ⟨rfl,h4,rfl⟩:=h1.yes
 exact ROut.tail (h2.map (fun f=>Frm.mk 10 [] 0 [] [] [f])) (by rw [parUn_eq,if_pos h4])
theorem rd_unbrk {L:List Tok} {n n1 n2:Nat} {b2:Bool} {f:Frm} (h1:RTook L [33] n false false n1) (h2:isT [40] (L.drop n)=true) (h3:ROut L parBrk n false f n2 b2):ROut L parUn n false f n2 b2 :=
 h3.congr (fun _=>by rw [parUn_eq,h1.no.1 rfl,if_neg (by decide),if_pos h2])
theorem rd_unatom {L:List Tok} (hT:RToks L) {n n1 n2:Nat} {b2:Bool} {f:Frm} (hn:n<L.length) (h1:RTook L [33] n false false n1) (h2:isT [40] (L.drop n)=false) (ha:amongF allsL (L.drop n)<0) (hb:amongF leastsL (L.drop n)<0) (hc:amongF truesL (L.drop n)<0) (h3:ROut L parAtm n false f n2 b2):ROut L parUn n false f n2 b2:=by
 refine h3.congr (fun _=>?_)
 obtain ⟨t,r,e,ht⟩:=hT.at_ hn
 have h4:=h1.no.1 rfl
 rw [e,show allsL=[[97,108,108],[115,111,109,101]] from rfl,among_two ht r (by decide) (by decide)] at ha
 rw [e,show leastsL=[[108,101,97,115,116],[109,111,115,116]] from rfl,among_two ht r (by decide) (by decide)] at hb
 rw [e,show truesL=[[116,114,117,101],[102,97,108,115,101]] from rfl,among_two ht r (by decide) (by decide)] at hc
 have two:∀ (a b:Bs),ixTwo a b (t :: r)<0->isT a (t :: r)=false/\isT b (t :: r)=false:=by
  intro a b h
  unfold ixTwo at h
  split at h
  ·omega
  ·rename_i z1
   split at h
   ·omega
   ·rename_i z2;exact ⟨by simpa using z1,by simpa using z2⟩
 obtain ⟨a1,a2⟩:=two _ _ ha
 obtain ⟨b1,b2⟩:=two _ _ hb
 obtain ⟨c1,c2⟩:=two _ _ hc
 rw [e] at h2 h4 ⊢
 rw [parUn_eq,h4,h2,c1,c2,kwAll_T ht,a1,a2,b1,b2]
 rfl
theorem rd_pred {L:List Tok} (hT:RToks L) {n n1 n2 n3 n4 n5 n6:Nat} {b b2 b3 b4 b5 b6:Bool} {i:Int} {x y:Bs} (hn:n<L.length) (h1:RAmong L predsL n b i n1) (hi:0<=i) (h2:ROut L (pWant [40]) n1 false () n2 b2) (h3:ROut L pName n2 b2 x n3 b3) (h4:ROut L (pWant [44]) n3 b3 () n4 b4) (h5:ROut L pName n4 b4 y n5 b5) (h6:ROut L (pWant [41]) n5 b5 () n6 b6):ROut L parAtm n b (.mk (3+i) [] 0 [⟨2,x,0⟩,⟨2,y,0⟩] [] []) n6 b6/\i<=5:=by
 obtain ⟨rfl,h7,rfl⟩:=h1.got hi
 obtain ⟨t,r,e,ht⟩:=hT.at_ hn
 rw [e,among_preds ht] at h7
 cases hk:kwT kwAtom (t :: r) with
 | none=>rw [hk] at h7;have h7 : -1=i:=h7;omega
 | some k =>
  rw [hk] at h7
  have h7:k - 3=i:=h7
  have hik:k=3+i:=by omega
  subst hik
  have hr:=kwT_range' (a:=3) (b:=8) (by decide) hk
  refine ⟨ROut.tail (q:=pAtom (3+i)) ?_ (by rw [e,parAtm,hk]),by omega⟩
  exact h2.bind (q:=fun _ l=>(pName l).bind fun a l=>(pWant [44] l).bind fun _ l=>(pName l).bind fun b l=>(pWant [41] l).bind fun _ l=>.ok (Frm.mk (3+i) [] 0 [⟨2,a,0⟩,⟨2,b,0⟩] [] []) l) (h3.bind (q:=fun a l=>(pWant [44] l).bind fun _ l=>(pName l).bind fun b l=>(pWant [41] l).bind fun _ l=>.ok (Frm.mk (3+i) [] 0 [⟨2,a,0⟩,⟨2,b,0⟩] [] []) l) (h4.bind (q:=fun _ l=>(pName l).bind fun b l=>(pWant [41] l).bind fun _ l=>.ok (Frm.mk (3+i) [] 0 [⟨2,x,0⟩,⟨2,b,0⟩] [] []) l) (h5.bind (q:=fun b l=>(pWant [41] l).bind fun _ l=>.ok (Frm.mk (3+i) [] 0 [⟨2,x,0⟩,⟨2,b,0⟩] [] []) l) (h6.map (fun _=>Frm.mk (3+i) [] 0 [⟨2,x,0⟩,⟨2,y,0⟩] [] [])))))
theorem parAtm_cmp {L:List Tok} (hT:RToks L) {n n1:Nat} {b:Bool} {i:Int} (hn:n<L.length) (h1:RAmong L predsL n b i n1) (hi:i<0) (hb:b=false):parAtm (L.drop n)=pCmp (L.drop n):=by
 obtain ⟨t,r,e,ht⟩:=hT.at_ hn
 have h7:=(h1.none hi).1 hb
 rw [e,among_preds ht] at h7
 rw [e,parAtm]
 cases hk:kwT kwAtom (t :: r) with
 | none=>rfl
 | some k =>
  rw [hk] at h7
  have h7:k - 3<0:=h7
  have hr:=kwT_range' (a:=3) (b:=8) (by decide) hk
  omega
theorem rd_cmp {L:List Tok} (hT:RToks L) {n n0 n1 n2 n3:Nat} {b b1 b3:Bool} {i0 i:Int} {s:Bs} {t u:Trm} (hn:n<L.length) (hn1:n1<L.length) (h0:RAmong L predsL n b i0 n0) (hi0:i0<0) (h1:ROut L pTerm n b t n1 b1) (h2:RAmong L opsL n1 b1 i n2) (hi:0<=i) (hs:opsL[i.toNat]?=some s) (h3:ROut L pTerm n2 false u n3 b3):ROut L parAtm n b (.mk 9 s 0 [t,u] [] []) n3 b3:=by
 refine ROut.congr (p:=pCmp) ?_ (fun hb=>parAtm_cmp hT hn h0 hi0 hb)
 refine h1.bind (q:=fun a l=>match opT l with | none=>.bad (atT l) | some s=>(pTerm l.tail).bind fun b l=>.ok (Frm.mk 9 s 0 [a,b] [] []) l) ?_
 obtain ⟨rfl,h7,rfl⟩:=h2.got hi
 obtain ⟨k,r,e,hk⟩:=hT.at_ hn1
 refine ROut.tail (h3.map (fun u=>Frm.mk 9 s 0 [t,u] [] [])) ?_
 rw [e] at h7 ⊢
 rw [opT_among hk,h7,if_neg (by omega),hs]
theorem rd_nocmp {L:List Tok} (hT:RToks L) {n n0 n1 n2:Nat} {b b1:Bool} {i0 i:Int} {t:Trm} (x:Frm) (hn:n<L.length) (hn1:n1<L.length) (h0:RAmong L predsL n b i0 n0) (hi0:i0<0) (h1:ROut L pTerm n b t n1 b1) (h2:RAmong L opsL n1 b1 i n2) (hi:i<0):ROut L parAtm n b x n2 true:=by
 refine ROut.congr (p:=pCmp) ?_ (fun hb=>parAtm_cmp hT hn h0 hi0 hb)
 refine h1.bind (q:=fun a l=>match opT l with | none=>.bad (atT l) | some s=>(pTerm l.tail).bind fun b l=>.ok (Frm.mk 9 s 0 [a,b] [] []) l) ?_
 obtain ⟨h7,rfl⟩:=h2.none hi
 cases b1 with
 | true=>exact ROut.stuck _ _ _
 | false =>
  obtain ⟨k,r,e,hk⟩:=hT.at_ hn1
  have h7:=h7 rfl
  refine ROut.of_bad ?_
  rw [e] at h7 ⊢
  rw [opT_among hk,if_pos h7]
theorem pTerm_cons (t:Tok) (r:List Tok):pTerm (t :: r)=if t.kind=2 then (pNumber 0 1099511627776 (t :: r)).bind fun n l=>.ok ⟨1,[],n⟩ l
  else match kwT kwTerm (t :: r) with
   | some k=>(pWant [40] r).bind fun _ l=>(pName l).bind fun s l=>(pWant [41] l).bind fun _ l=>.ok ⟨k,s,0⟩ l
   | none=>(pName (t :: r)).bind fun s l=>.ok ⟨2,s,0⟩ l:=rfl
def kindAt (L:List Tok) (n:Nat) (bad:Bool):Prop:=bad=false/\∃ t r,L.drop n=t :: r/\t.kind=2
theorem rd_tnum {L:List Tok} {n n1:Nat} {b b1:Bool} {x:Int} (hk:kindAt L n b) (h:ROut L (pNumber 0 1099511627776) n b x n1 b1):ROut L pTerm n b ⟨1,[],x⟩ n1 b1:=by
 obtain ⟨rfl,t,r,e,hk⟩:=hk
 refine (h.map (fun n=>(⟨1,[],n⟩:Trm))).congr (fun _=>?_)
 rw [e,pTerm_cons,if_pos hk]
theorem rd_tkw {L:List Tok} (hT:RToks L) {n n1 n2 n3 n4:Nat} {b b2 b3 b4:Bool} {i:Int} {s:Bs} (hn:n<L.length) (hk:¬ kindAt L n b) (h1:RAmong L termsL n b i n1) (hi:0<=i) (h2:ROut L (pWant [40]) n1 false () n2 b2) (h3:ROut L pName n2 b2 s n3 b3) (h4:ROut L (pWant [41]) n3 b3 () n4 b4):ROut L pTerm n b ⟨3+i,s,0⟩ n4 b4/\i<=4:=by
 obtain ⟨rfl,h7,rfl⟩:=h1.got hi
 obtain ⟨t,r,e,ht⟩:=hT.at_ hn
 have hk2:¬ t.kind=2:=fun h=>hk ⟨rfl,t,r,e,h⟩
 rw [e,among_terms ht] at h7
 cases hkk:kwT kwTerm (t :: r) with
 | none=>rw [hkk] at h7;have h7 : -1=i:=h7;omega
 | some k =>
  rw [hkk] at h7
  have h7:k - 3=i:=h7
  have hik:k=3+i:=by omega
  subst hik
  have hr:=kwT_range' (a:=3) (b:=7) (by decide) hkk
  refine ⟨ROut.tail (q:=fun l=>(pWant [40] l).bind fun _ l=>(pName l).bind fun s l=>(pWant [41] l).bind fun _ l=>.ok (⟨3+i,s,0⟩:Trm) l) ?_ (by rw [e,pTerm_cons,if_neg hk2,hkk];rfl),by omega⟩
  exact h2.bind (q:=fun _ l=>(pName l).bind fun s l=>(pWant [41] l).bind fun _ l=>.ok (⟨3+i,s,0⟩:Trm) l) (h3.bind (q:=fun s l=>(pWant [41] l).bind fun _ l=>.ok (⟨3+i,s,0⟩:Trm) l) (h4.map (fun _=>(⟨3+i,s,0⟩:Trm))))
theorem rd_tvar {L:List Tok} (hT:RToks L) {n n1 n2:Nat} {b b2:Bool} {i:Int} {s:Bs} (hn:n<L.length) (hk:¬ kindAt L n b) (h1:RAmong L termsL n b i n1) (hi:i<0) (h2:ROut L pName n b s n2 b2):ROut L pTerm n b ⟨2,s,0⟩ n2 b2:=by
 refine (h2.map (fun s=>(⟨2,s,0⟩:Trm))).congr (fun hb=>?_)
 obtain ⟨t,r,e,ht⟩:=hT.at_ hn
 have hk2:¬ t.kind=2:=fun h=>hk ⟨hb,t,r,e,h⟩
 have h7:=(h1.none hi).1 hb
 rw [e,among_terms ht] at h7
 rw [e,pTerm_cons,if_neg hk2]
 cases hkk:kwT kwTerm (t :: r) with
 | none=>rfl
 | some k =>
  rw [hkk] at h7
  have h7:k - 3<0:=h7
  have hr:=kwT_range' (a:=3) (b:=7) (by decide) hkk
  omega
end Go.Chalk
