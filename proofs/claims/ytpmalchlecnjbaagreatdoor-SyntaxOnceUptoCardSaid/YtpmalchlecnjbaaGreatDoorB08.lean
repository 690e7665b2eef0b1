/- Joined texts: SyLaws, SyName, PLen. -/
import Derived.Test.YtpmalchlecnjbaaGreatDoorB07
set_option linter.unusedVariables false
set_option linter.unusedSimpArgs false
/- Brackets round a source; two sources joined by a line. No program is named here. -/
namespace Go.Chalk
theorem lexS_good {b:Bs} {at_:Nat} (h:(lexS b at_ []).2.2=0):∃ ts n,(lexS b at_ []).1=ts++[⟨4,[],n⟩]/\∀ t∈ts,rightB t=true/\t.kind ≠ 4:=by
 obtain ⟨ts,n,h1,h2,_⟩:=goF_right (b.length+1) b at_ [] (lexS b at_ []).1 (lexS b at_ []).2.1 (by omega) (by rw [<- h];rfl)
 refine ⟨ts,n,by simpa using h1,fun t ht=>?_⟩
 have h3:=List.all_eq_true.1 h2 t ht
 refine ⟨h3,fun h4=>?_⟩
 rw [rightB,h4] at h3
 simp at h3
theorem end_rest {ts p l:List Tok} {e:Tok} (ht:∀ t∈ts,t.kind ≠ 4) (h:ts++[e]=p++l) (hp:∀ t∈p,t.kind ≠ 4) (he:e.kind=4) (hl:isEnd l=true):l=[e]/\p=ts:=by
 have h1:l ≠ []:=by
  rintro rfl
  rw [List.append_nil] at h
  exact hp e (by rw [<- h];simp) he
 obtain ⟨l',e',rfl⟩:∃ l' e',l=l'++[e']:=⟨l.dropLast,l.getLast h1,(List.dropLast_concat_getLast h1).symm⟩
 rw [<- List.append_assoc] at h
 obtain ⟨h2,h3⟩:=List.append_inj' h rfl
 simp only [List.cons.injEq,and_true] at h3
 subst h3
 cases l' with
 | nil=>exact ⟨rfl,by rw [h2,List.append_nil]⟩
 | cons t l' =>
  rw [List.cons_append,isEnd,beq_iff_eq] at hl
  exact absurd hl (ht t (by rw [h2];simp))
theorem parF_end {ts l:List Tok} {e:Tok} {f:Frm} (ht:∀ t∈ts,t.kind ≠ 4) (he:e.kind=4) (h:parF (ts++[e])=.ok f l) (hl:isEnd l=true):l=[e]:=by
 obtain ⟨p,hp,hn,hpl⟩:=parF_eat h
 exact (end_rest ht hpl hn he hl).1
theorem isT_end (s:Bs) {e:Tok} (he:e.kind=4) (l:List Tok):isT s (e :: l)=false:=by rw [isT,he];simp
theorem frmCheck_50 (f:Frm):frmCheck f ≠ 50:=by
 unfold frmCheck
 split
 ·decide
 ·split <;> decide
theorem tokensF_small {b:Bs} (h:b.length<=16384):tokensF b=lexS b 0 []:=by rw [tokensF,if_neg (by omega)]
theorem open_lex (x:Bs) (at_:Nat) (acc:List Tok):lexS (40 :: x) at_ acc=lexS x (at_+1) (acc++[⟨3,[40],at_⟩]):=by
 rw [lexS_tok rfl rfl rfl];rfl
theorem close_lex (x:Bs) (at_:Nat) (acc:List Tok):lexS (41 :: x) at_ acc=lexS x (at_+1) (acc++[⟨3,[41],at_⟩]):=by
 rw [lexS_tok rfl rfl rfl];rfl
theorem kin_shift (d:Nat) (l:List Tok):Kin l (l.map (Tok.shift d)):=by
 unfold Kin
 rw [List.map_map];rfl
theorem brackets_law (b:Bs) (hb:b.length<=2000) :
  ((synForm b).2.2=0/\(synForm b).2.1=0/\synForm (40 :: (b++[10,41]))=synForm b/\(synForm b).1 ≠ none) ∨
  ((synForm b).2.2 ≠ 0/\((synForm b).2.2 ≠ 50∨((synForm (40 :: (b++[10,41]))).2.2=50/\(synForm (40 :: (b++[10,41]))).2.1=(synForm b).2.1+1))):=by
 have hl:(40 :: (b++[10,41])).length<=16384:=by simp;omega
 rw [synForm_eq,synForm_eq,tokensF_small hl,tokensF_small (by omega),open_lex]
 have hsh:=lexS_shift b 0 1
 rcases lex_line [41] b.length b 1 ([]++[⟨3,[40],0⟩]) (Nat.le_refl _) with ⟨h1,ts,h2,h3,h4⟩ | ⟨h1,h2⟩
 ·rw [show b++[10,41]=b++10 :: [41] from rfl,h4,close_lex,lexS_end]
  dsimp only
  rw [Nat.zero_add] at hsh
  rw [hsh] at h1 h2
  dsimp only at h1 h2
  obtain ⟨t0,n0,h5,h6⟩:=lexS_good h1
  rw [h5] at h2 ⊢
  rw [List.map_append] at h2
  obtain ⟨h7,_⟩:=List.append_inj' h2 rfl
  have hk:Kin t0 ts:=by rw [<- h7];exact kin_shift 1 t0
  rw [if_neg (by simp [h1]),if_neg (by simp)]
  cases hp:parF (t0++[⟨4,[],n0⟩]) with
  | bad n=>right;exact ⟨by simp,.inl (by simp)⟩
  | ok f l =>
   dsimp only
   cases he:isEnd l with
   | false=>right;rw [if_pos rfl];exact ⟨by simp,.inl (by simp)⟩
   | true =>
    rw [if_neg (by simp)]
    have hl1:=parF_end (fun t ht=>(h6 t ht).2) rfl hp he
    subst hl1
    have hx:=parF_ext t0 [⟨4,[],n0⟩] f hp ts [⟨3,[41],1+b.length+1⟩,⟨4,[],1+b.length+1+1⟩] hk ⟨rfl,rfl,rfl⟩
    have hbr:parBrk (⟨3,[40],0⟩ :: (ts++[⟨3,[41],1+b.length+1⟩,⟨4,[],1+b.length+1+1⟩]))=.ok f [⟨4,[],1+b.length+1+1⟩]:=by
     rw [parBrk_eq,pWant,if_pos (show isT [40] (⟨3,[40],0⟩ :: _)=true from rfl)]
     dsimp only [Rs.bind,List.tail_cons]
     rw [hx];rfl
    have hun:parUn (⟨3,[40],0⟩ :: (ts++[⟨3,[41],1+b.length+1⟩,⟨4,[],1+b.length+1+1⟩]))=.ok f [⟨4,[],1+b.length+1+1⟩]:=by
     rw [parUn_eq,if_neg (show ¬ isT [33] (⟨3,[40],0⟩ :: _)=true from by rw [isT];decide),if_pos (show isT [40] (⟨3,[40],0⟩ :: _)=true from rfl),hbr]
    have hform:parF (⟨3,[40],0⟩ :: (ts++[⟨3,[41],1+b.length+1⟩,⟨4,[],1+b.length+1+1⟩]))=.ok f [⟨4,[],1+b.length+1+1⟩]:=by
     rw [parF_eq,parOr_eq,parAnd_eq,hun]
     dsimp only [Rs.bind]
     rw [parAnds_eq,if_neg (by rw [isT_end _ rfl];simp)]
     dsimp only [Rs.bind]
     rw [parOrs_eq,if_neg (by rw [isT_end _ rfl];simp)]
     dsimp only [Rs.bind]
     rw [if_neg (by rw [isT_end _ rfl];simp)]
    rw [show []++[(⟨3,[40],0⟩:Tok)]++ts++[⟨3,[41],1+b.length+1⟩]++[⟨4,[],1+b.length+1+1⟩]=⟨3,[40],0⟩ :: (ts++[⟨3,[41],1+b.length+1⟩,⟨4,[],1+b.length+1+1⟩]) from by simp,hform]
    dsimp only
    rw [if_neg (show ¬ isEnd [(⟨4,[],1+b.length+1+1⟩:Tok)]=false from by rw [isEnd];simp)]
    by_cases hc:frmCheck f=0
    ·left
     have hc':¬ frmCheck f ≠ 0:=by simp [hc]
     rw [if_neg hc']
     exact ⟨rfl,rfl,rfl,by simp⟩
    ·right
     rw [if_pos hc]
     exact ⟨hc,.inl (frmCheck_50 f)⟩
 ·rw [show b++[10,41]=b++10 :: [41] from rfl,h2]
  rw [Nat.zero_add] at hsh
  rw [hsh] at h1
  dsimp only at h1
  right
  rw [if_pos (by rw [h1];decide),if_pos (show (50:Int) ≠ 0 from by decide)]
  refine ⟨by rw [h1];decide,.inr ⟨rfl,?_⟩⟩
  dsimp only
  rw [show (1:Nat)=0+1 from rfl,lexS_shift]
  dsimp only
  rw [if_neg (by rw [h1];decide)]
theorem rules_rest:∀ (n:Nat) (l:List Tok) (rs:List Rul) (r:List Tok),l.length<=n->parRules l=.ok rs r->isEnd r=true/\EatZ l r
 | n,l,rs,r,hn,h=>by
  rw [parRules_eq] at h
  split at h
  ·rename_i he;cases h;exact ⟨he,.refl _⟩
  ·obtain ⟨x,l1,h1,h2⟩:=Rs.bind_ok.1 h
   obtain ⟨xs,l2,h3,h4⟩:=Rs.bind_ok.1 h2
   cases h4
   have:=(parRule_eat h1).len
   cases n with
   | zero=>omega
   | succ n =>
    obtain ⟨g1,g2⟩:=rules_rest n l1 xs r (by omega) h3
    exact ⟨g1,(parRule_eat h1).z.trans g2⟩
end Go.Chalk
/- A NAME, by the lexer; the walk through a list of rules, step by step. No program is named here. -/
namespace Go.Chalk
def headT (l:List Tok):Tok:=match l with | []=>⟨0,[],0⟩ | t :: _=>t
def namedF (s:Bs):Bool:=(tokensF s).2.2==0&&((tokensF s).1.length==2&&((headT (tokensF s).1).kind==1&&((headT (tokensF s).1).text==s&&!(reservedL.contains s))))
theorem named_yes {s:Bs} (h:wordB s=true):∃ n,tokensF s=([⟨1,s,n⟩,⟨4,[],s.length⟩],0,0):=by
 have hl:s.length<=64:=by
  cases s with
  | nil=>simp
  | cons c r =>
   rw [wordB] at h
   simp only [Bool.and_eq_true,decide_eq_true_eq] at h
   exact h.2
 obtain ⟨ts,h1,h2⟩:=lexS_all (Lx.word h)
 rw [tokensF,if_neg (by omega),h2]
 cases ts with
 | nil=>simp at h1
 | cons t r =>
  cases r with
  | cons _ _=>simp at h1
  | nil =>
   obtain ⟨k,x,n⟩:=t
   simp only [List.map_cons,List.map_nil,List.cons.injEq,and_true,kt,Prod.mk.injEq] at h1
   obtain ⟨rfl,rfl⟩:=h1
   exact ⟨n,rfl⟩
theorem named_iff (s:Bs):namedF s=nameB s:=by
 unfold nameB
 cases hw:wordB s with
 | true =>
  obtain ⟨n,h⟩:=named_yes hw
  unfold namedF
  rw [h];simp [headT]
 | false =>
  rw [Bool.false_and,Bool.eq_false_iff]
  intro h
  unfold namedF at h
  simp only [Bool.and_eq_true,beq_iff_eq] at h
  obtain ⟨h1,h2,h3,h4,_⟩:=h
  have hb:¬ 16384<s.length:=fun hb=>by rw [tokensF,if_pos hb] at h1;cases h1
  rw [tokensF,if_neg hb] at h1 h2 h3 h4
  obtain ⟨ts,n,e,ht⟩:=lexS_good h1
  rw [e] at h2 h3 h4
  cases ts with
  | nil=>simp at h2
  | cons t r =>
   have hr:=(ht t (by simp)).1
   simp only [List.cons_append,headT] at h3 h4
   rw [rightB,if_pos h3,h4,hw] at hr
   cases hr
theorem synGo_step (met:List Bs) (r:Rul) (l:List Rul):synGo met (r :: l)=if wholeR r=false∨met.contains r.name=true then 1 else if frmCheck r.body ≠ 0 then frmCheck r.body else synGo (met++[r.name]) l:=by rw [synGo]
theorem txtRules_append (a b:List Rul):txtRules (a++b)=txtRules a++txtRules b:=by
 induction a with
 | nil=>rfl
 | cons r a ih=>rw [List.cons_append,txtRules,txtRules,ih,List.append_assoc]
theorem txtRules_take {l:List Rul} {j:Nat} (h:j<l.length):txtRules (l.take (j+1))=txtRules (l.take j)++txtRule l[j]:=by
 rw [List.take_succ_eq_append_getElem h,txtRules_append,txtRules,txtRules,List.append_nil]
end Go.Chalk
/- Lengths of canonical texts. No program is named here. -/
namespace Go.Chalk
theorem kwOf_len {t:List (Bs×Int)} (h:t.all (fun p=>decide (p.1.length<=8))=true) (n:Int):(kwOf t n).length<=8:=by
 unfold kwOf
 cases hf:t.find? (fun p=>p.2==n) with
 | none=>simp
 | some p =>
  have:=List.all_eq_true.1 h p (List.mem_of_find?_eq_some hf)
  simpa using this
theorem kwSort_len (n:Int):(kwOf kwSort n).length<=8:=kwOf_len (by decide) n
theorem kwAtom_len (n:Int):(kwOf kwAtom n).length<=8:=kwOf_len (by decide) n
theorem kwTerm_len (n:Int):(kwOf kwTerm n).length<=8:=kwOf_len (by decide) n
theorem kwAll_len (n:Int):(kwOf kwAll n).length<=8:=kwOf_len (by decide) n
theorem decDigits_len:∀ (d n:Nat),n<10 ^ (d+1)->(Lib.decDigits n).length<=d+1
 | 0,n,h=>by
  have:n<10:=by simpa using h
  rw [Lib.decDigits,dif_pos this];simp
 | d+1,n,h=>by
  rw [Lib.decDigits]
  split
  ·simp
  ·have:=decDigits_len d (n / 10) (by rw [Nat.pow_succ] at h;omega)
   simp only [List.length_append,List.length_singleton];omega
theorem decI_len {n:Int} (h0:0<=n) (h:n<=1099511627776):(decI n).length<=13:=decDigits_len 12 n.toNat (by
 have:n.toNat<=1099511627776:=by omega
 omega)
theorem named_len {s:Bs} (h:frmNamed s=true):s.length<=64:=by
 cases s with
 | nil=>simp
 | cons c r =>
  rw [frmNamed] at h
  simp only [Bool.and_eq_true,decide_eq_true_eq] at h
  exact h.1.1.1
theorem txtTerm_len {t:Trm} (h:termedF t=true):(txtTerm t).length<=80:=by
 unfold txtTerm
 unfold termedF at h
 split
 ·rename_i h1
  rw [if_pos h1] at h
  simp only [numberB,Bool.and_eq_true,decide_eq_true_eq] at h
  have:=decI_len h.2.1 h.2.2;omega
 ·rename_i h1
  rw [if_neg h1] at h
  simp only [Bool.and_eq_true,decide_eq_true_eq] at h
  have h2:=named_len h.1.2
  split
  ·omega
  ·have:=kwTerm_len t.kind
   simp only [List.length_append,List.length_cons,List.length_nil];omega
theorem txtBind_len {b:Bnd} (h:bndOk b=true):(txtBind b).length<=80:=by
 unfold bndOk at h
 simp only [Bool.and_eq_true,decide_eq_true_eq] at h
 have:=named_len h.1.1
 have:=kwSort_len b.sort
 unfold txtBind
 simp only [List.length_append,List.length_cons,List.length_nil];omega
theorem txtMore_len:∀ {bs:List Bnd},bs.all bndOk=true->(txtMore bs).length<=82*bs.length
 | [],_=>by simp [txtMore]
 | b :: r,h=>by
  simp only [List.all_cons,Bool.and_eq_true] at h
  have h1:=txtBind_len h.1
  have h2:=txtMore_len h.2
  rw [txtMore]
  simp only [List.length_append,List.length_cons,List.length_nil] at h2 ⊢;omega
theorem txtBinds_len {bs:List Bnd} (h:bs.all bndOk=true) (hl:bs.length<=6):(txtBinds bs).length<=500:=by
 cases bs with
 | nil=>simp [txtBinds]
 | cons b r =>
  simp only [List.all_cons,Bool.and_eq_true] at h
  have h1:=txtBind_len h.1
  have h2:=txtMore_len h.2
  rw [txtBinds]
  simp only [List.length_append,List.length_cons] at hl ⊢;omega
theorem cmp_len {s:Bs} (h:cmpL.contains s=true):s.length<=2:=by
 have:∀ x∈cmpL,x.length<=2:=by decide
 exact this s (by simpa using h)
theorem txtIn_len (f:Frm) (least:Nat):(txtIn f least).length<=(txtF f).length+2:=by
 unfold txtIn
 split
 ·simp only [List.length_append,List.length_cons,List.length_nil];omega
 ·omega
theorem txtF_len:∀ f,wf f->(txtF f).length<=600*f.size:=by
 refine wf_ind ?_ ?_ ?_ ?_ ?_ ?_
 ·rintro k (rfl | rfl)
  ·rw [txtF_nil];simp [Frm.size,fsizes]
  ·rw [txtF_nil];simp [Frm.size,fsizes]
 ·intro k a b h1 h2 ha hb
  rw [txtF_two,if_neg (by omega),if_neg (by omega),if_neg (by omega),if_neg (by omega),if_neg (by omega),if_neg (by omega),if_neg (by omega),if_neg (by omega)]
  have e1:=txtTerm_len (t:=⟨2,a,0⟩) (by simp [termedF,ha])
  have e2:=txtTerm_len (t:=⟨2,b,0⟩) (by simp [termedF,hb])
  have e3:=kwAtom_len k
  simp only [List.length_append,List.length_cons,List.length_nil,Frm.size,fsizes];omega
 ·intro s t u hs ht hu
  rw [txtF_two,if_neg (by omega),if_neg (by omega),if_pos rfl]
  have e1:=txtTerm_len ht
  have e2:=txtTerm_len hu
  have e3:=cmp_len hs
  simp only [List.length_append,List.length_cons,List.length_nil,Frm.size,fsizes];omega
 ·intro g _ ih
  have e:txtF (.mk 10 [] 0 [] [] [g])=[33]++txtIn g 4:=by rw [txtF_nil];simp [txtAt,txtIn]
  rw [e]
  have:=txtIn_len g 4
  simp only [List.length_append,List.length_cons,List.length_nil,Frm.size,fsizes];omega
 ·intro k g g' h1 h2 _ _ ih1 ih2
  have:k=11∨k=12∨k=13:=by omega
  rcases this with rfl | rfl | rfl
  ·have e:txtF (.mk 11 [] 0 [] [] [g,g'])=txtIn g 3++([32,38,32]++txtIn g' 4):=by rw [txtF_nil];simp [txtAt,txtIn]
   rw [e]
   have:=txtIn_len g 3
   have:=txtIn_len g' 4
   simp only [List.length_append,List.length_cons,List.length_nil,Frm.size,fsizes];omega
  ·have e:txtF (.mk 12 [] 0 [] [] [g,g'])=txtIn g 2++([32,124,32]++txtIn g' 3):=by rw [txtF_nil];simp [txtAt,txtIn]
   rw [e]
   have:=txtIn_len g 2
   have:=txtIn_len g' 3
   simp only [List.length_append,List.length_cons,List.length_nil,Frm.size,fsizes];omega
  ·have e:txtF (.mk 13 [] 0 [] [] [g,g'])=txtIn g 2++([32,45,62,32]++txtIn g' 1):=by rw [txtF_nil];simp [txtAt,txtIn]
   rw [e]
   have:=txtIn_len g 2
   have:=txtIn_len g' 1
   simp only [List.length_append,List.length_cons,List.length_nil,Frm.size,fsizes];omega
 ·intro k n b bs g h1 h2 hn hm hz hl hbo hbs _ ih
  have hat:txtAt [g] 0 0=txtF g:=by rw [txtAt_get [g] 0 0 (by simp)];simp [txtIn]
  rw [txtF_nil,if_neg (by omega),if_neg (by omega),if_neg (by omega),if_neg (by omega),if_neg (by omega),if_neg (by omega),if_neg (by omega),if_pos h1,hat]
  have e1:=kwAll_len k
  have e2:=decI_len hn hm
  have e3:(txtBinds (b :: bs)).length<=500:=txtBinds_len (by simp [hbo,hbs]) (by simp only [List.length_cons];omega)
  have e4:(if 16<=k then decI n++[32] else []).length<=14:=by split <;> simp <;> omega
  simp only [List.length_append,List.length_cons,List.length_nil,Frm.size,fsizes];omega
theorem txtRule_len {r:Rul} (h:wholeR r=true) (hw:wf r.body):(txtRule r).length<=700+600*r.body.size:=by
 obtain ⟨h1,h2,h3,h4,h5⟩:=wholeR_iff h
 have e1:=named_len h1
 have e2:=txtF_len r.body hw
 have e3:=txtBinds_len h5 h4
 have e4:(txtHead r).length<=90:=by
  unfold txtHead
  split
  ·simp only [List.length_append,List.length_cons,List.length_nil];omega
  ·rename_i hh
   simp only [hh,Bool.false_eq_true,if_false] at h2 h3
   have:=decI_len (n:=r.weight) (by omega) (by omega)
   simp only [List.length_append,List.length_cons,List.length_nil];omega
 have e5:(if r.each.isEmpty then [] else [32,101,97,99,104,32]++txtBinds r.each).length<=506:=by split <;> simp <;> omega
 unfold txtRule
 simp only [List.length_append,List.length_cons,List.length_nil];omega
end Go.Chalk
