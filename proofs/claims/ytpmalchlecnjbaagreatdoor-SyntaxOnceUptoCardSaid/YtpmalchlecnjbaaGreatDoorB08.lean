/- Joined texts: SyLaws, SyName, PLen, SyFew, SyRed, SyPlace, SyPref. -/
import Derived.Test.YtpmalchlecnjbaaGreatDoorB07
import Derived.Test.YtpmalchlecnjbaaGreatDoorB02
set_option linter.unusedVariables false
set_option linter.unusedSimpArgs false
/- Brackets round a source; two sources joined by a line. No program is named here. -/
namespace Go.Chalk
theorem lexS_good {b:Bs} {at_:Nat} (h:(lexS b at_ []).2.2=0):∃ ts n,(lexS b at_ []).1=ts++[⟨4,[],n⟩]/\∀ t∈ts,rightB t=true/\t.kind ≠ 4:=by
 obtain ⟨ts,n,h1,h2,_⟩:=goF_right (b.length+1) b at_ [] (lexS b at_ []).1 (lexS b at_ []).2.1 (by omega) (by rw [<- h];rfl)
 refine ⟨ts,n,by simpa using h1,fun t ht=>?_⟩
 have h3:=List.all_eq_true.1 h2 t ht
 refine ⟨h3,fun h4=>?_⟩
 rw [rightB,h4] at h3
 simp at h3
theorem end_rest {ts p l:List Tok} {e:Tok} (ht:∀ t∈ts,t.kind ≠ 4) (h:ts++[e]=p++l) (hp:∀ t∈p,t.kind ≠ 4) (he:e.kind=4) (hl:isEnd l=true):l=[e]/\p=ts:=by
 have h1:l ≠ []:=by
  rintro rfl
  rw [List.append_nil] at h
  exact hp e (by rw [<- h];simp) he
 obtain ⟨l',e',rfl⟩:∃ l' e',l=l'++[e']:=⟨l.dropLast,l.getLast h1,(List.dropLast_concat_getLast h1).symm⟩
 rw [<- List.append_assoc] at h
 obtain ⟨h2,h3⟩:=List.append_inj' h rfl
 simp only [List.cons.injEq,and_true] at h3
 subst h3
 cases l' with
 | nil=>exact ⟨rfl,by rw [h2,List.append_nil]⟩
 | cons t l' =>
  rw [List.cons_append,isEnd,beq_iff_eq] at hl
  exact absurd hl (ht t (by rw [h2];simp))
theorem parF_end {ts l:List Tok} {e:Tok} {f:Frm} (ht:∀ t∈ts,t.kind ≠ 4) (he:e.kind=4) (h:parF (ts++[e])=.ok f l) (hl:isEnd l=true):l=[e]:=by
 obtain ⟨p,hp,hn,hpl⟩:=parF_eat h
 exact (end_rest ht hpl hn he hl).1
theorem isT_end (s:Bs) {e:Tok} (he:e.kind=4) (l:List Tok):isT s (e :: l)=false:=by rw [isT,he];simp
theorem frmCheck_50 (f:Frm):frmCheck f ≠ 50:=by
 unfold frmCheck
 split
 ·decide
 ·split <;> decide
theorem tokensF_small {b:Bs} (h:b.length<=16384):tokensF b=lexS b 0 []:=by rw [tokensF,if_neg (by omega)]
theorem open_lex (x:Bs) (at_:Nat) (acc:List Tok):lexS (40 :: x) at_ acc=lexS x (at_+1) (acc++[⟨3,[40],at_⟩]):=by
 rw [lexS_tok rfl rfl rfl];rfl
theorem close_lex (x:Bs) (at_:Nat) (acc:List Tok):lexS (41 :: x) at_ acc=lexS x (at_+1) (acc++[⟨3,[41],at_⟩]):=by
 rw [lexS_tok rfl rfl rfl];rfl
theorem kin_shift (d:Nat) (l:List Tok):Kin l (l.map (Tok.shift d)):=by
 unfold Kin
 rw [List.map_map];rfl
theorem brackets_law (b:Bs) (hb:b.length<=2000) :
  ((synForm b).2.2=0/\(synForm b).2.1=0/\synForm (40 :: (b++[10,41]))=synForm b/\(synForm b).1 ≠ none) ∨
  ((synForm b).2.2 ≠ 0/\((synForm b).2.2 ≠ 50∨((synForm (40 :: (b++[10,41]))).2.2=50/\(synForm (40 :: (b++[10,41]))).2.1=(synForm b).2.1+1))):=by
 have hl:(40 :: (b++[10,41])).length<=16384:=by simp;omega
 rw [synForm_eq,synForm_eq,tokensF_small hl,tokensF_small (by omega),open_lex]
 have hsh:=lexS_shift b 0 1
 rcases lex_line [41] b.length b 1 ([]++[⟨3,[40],0⟩]) (Nat.le_refl _) with ⟨h1,ts,h2,h3,h4⟩ | ⟨h1,h2⟩
 ·rw [show b++[10,41]=b++10 :: [41] from rfl,h4,close_lex,lexS_end]
  dsimp only
  rw [Nat.zero_add] at hsh
  rw [hsh] at h1 h2
  dsimp only at h1 h2
  obtain ⟨t0,n0,h5,h6⟩:=lexS_good h1
  rw [h5] at h2 ⊢
  rw [List.map_append] at h2
  obtain ⟨h7,_⟩:=List.append_inj' h2 rfl
  have hk:Kin t0 ts:=by rw [<- h7];exact kin_shift 1 t0
  rw [if_neg (by simp [h1]),if_neg (by simp)]
  cases hp:parF (t0++[⟨4,[],n0⟩]) with
  | bad n=>right;exact ⟨by simp,.inl (by simp)⟩
  | ok f l =>
   dsimp only
   cases he:isEnd l with
   | false=>right;rw [if_pos rfl];exact ⟨by simp,.inl (by simp)⟩
   | true =>
    rw [if_neg (by simp)]
    have hl1:=parF_end (fun t ht=>(h6 t ht).2) rfl hp he
    subst hl1
    have hx:=parF_ext t0 [⟨4,[],n0⟩] f hp ts [⟨3,[41],1+b.length+1⟩,⟨4,[],1+b.length+1+1⟩] hk ⟨rfl,rfl,rfl⟩
    have hbr:parBrk (⟨3,[40],0⟩ :: (ts++[⟨3,[41],1+b.length+1⟩,⟨4,[],1+b.length+1+1⟩]))=.ok f [⟨4,[],1+b.length+1+1⟩]:=by
     rw [parBrk_eq,pWant,if_pos (show isT [40] (⟨3,[40],0⟩ :: _)=true from rfl)]
     dsimp only [Rs.bind,List.tail_cons]
     rw [hx];rfl
    have hun:parUn (⟨3,[40],0⟩ :: (ts++[⟨3,[41],1+b.length+1⟩,⟨4,[],1+b.length+1+1⟩]))=.ok f [⟨4,[],1+b.length+1+1⟩]:=by
     rw [parUn_eq,if_neg (show ¬ isT [33] (⟨3,[40],0⟩ :: _)=true from by rw [isT];decide),if_pos (show isT [40] (⟨3,[40],0⟩ :: _)=true from rfl),hbr]
    have hform:parF (⟨3,[40],0⟩ :: (ts++[⟨3,[41],1+b.length+1⟩,⟨4,[],1+b.length+1+1⟩]))=.ok f [⟨4,[],1+b.length+1+1⟩]:=by
     rw [parF_eq,parOr_eq,parAnd_eq,hun]
     dsimp only [Rs.bind]
     rw [parAnds_eq,if_neg (by rw [isT_end _ rfl];simp)]
     dsimp only [Rs.bind]
     rw [parOrs_eq,if_neg (by rw [isT_end _ rfl];simp)]
     dsimp only [Rs.bind]
     rw [if_neg (by rw [isT_end _ rfl];simp)]
    rw [show []++[(⟨3,[40],0⟩:Tok)]++ts++[⟨3,[41],1+b.length+1⟩]++[⟨4,[],1+b.length+1+1⟩]=⟨3,[40],0⟩ :: (ts++[⟨3,[41],1+b.length+1⟩,⟨4,[],1+b.length+1+1⟩]) from by simp,hform]
    dsimp only
    rw [if_neg (show ¬ isEnd [(⟨4,[],1+b.length+1+1⟩:Tok)]=false from by rw [isEnd];simp)]
    by_cases hc:frmCheck f=0
    ·left
     have hc':¬ frmCheck f ≠ 0:=by simp [hc]
     rw [if_neg hc']
     exact ⟨rfl,rfl,rfl,by simp⟩
    ·right
     rw [if_pos hc]
     exact ⟨hc,.inl (frmCheck_50 f)⟩
 ·rw [show b++[10,41]=b++10 :: [41] from rfl,h2]
  rw [Nat.zero_add] at hsh
  rw [hsh] at h1
  dsimp only at h1
  right
  rw [if_pos (by rw [h1];decide),if_pos (show (50:Int) ≠ 0 from by decide)]
  refine ⟨by rw [h1];decide,.inr ⟨rfl,?_⟩⟩
  dsimp only
  rw [show (1:Nat)=0+1 from rfl,lexS_shift]
  dsimp only
  rw [if_neg (by rw [h1];decide)]
theorem head_ext:ExtR pHead pHead (fun _=>True):=by
 intro p r a h q r' hk hK
 have he:=pHead_eat h
 have hne:=ne_of_eat he
 cases p with
 | nil=>exact absurd rfl hne
 | cons t p =>
  obtain ⟨t',q,rfl,k1,k2⟩:=Kin.cons hk
  rw [List.cons_append] at h ⊢
  unfold pHead at h ⊢
  simp only [isT_kin k1 (l:=p++r) (l':=q++r')]
  split at h
  ·rename_i hs
   rw [if_pos hs]
   exact name_one.bind (K:=fun _=>True) (f:=fun s l=>Rs.ok ((true,s,0):Bool×Bs×Int) l) (fun _ _ _ _ h=>.of_ret h) (fun _=>ret_ext _ _) p r a h q r' k2 trivial
  rename_i n1
  rw [if_neg n1]
  split at h
  ·rename_i hs
   rw [if_pos hs]
   exact name_one.bind (K:=fun _=>True) (f:=fun s l=>(pNumber 1 1000 l).bind fun n l=>Rs.ok ((false,s,n):Bool×Bs×Int) l) (fun _ _ _ _ h=>bind_eat (fun _ _ _ h=>(number_one _ _).eat h) (fun _ _ _ _ h=>.of_ret h) h) (fun _=>(number_one _ _).bind (fun _ _ _ _ h=>.of_ret h) (fun _=>ret_ext _ _)) p r a h q r' k2 trivial
  ·cases h
theorem rule_ext:ExtR parRule parRule (fun _=>True):=by
 unfold parRule
 have eF:∀ (x:Bool×Bs×Int) (e:List Bnd) (l:List Tok) (b:Rul) (r:List Tok),((parF l).bind fun f l=>(pWant [59] l).bind fun _ l=>Rs.ok (⟨x.2.1,x.1,x.2.2,e,f⟩:Rul) l)=.ok b r->Eat l r:=fun x e l b r h=>by
  obtain ⟨f,l1,h1,h2⟩:=Rs.bind_ok.1 h
  obtain ⟨u,l2,h3,h4⟩:=Rs.bind_ok.1 h2
  cases h4
  exact (parF_eat h1).trans (pWant_eat h3).z
 have eW:∀ (x:Bool×Bs×Int) (e:List Bnd) (l:List Tok) (b:Rul) (r:List Tok),((pWant [58] l).bind fun _ l=>(parF l).bind fun f l=>(pWant [59] l).bind fun _ l=>Rs.ok (⟨x.2.1,x.1,x.2.2,e,f⟩:Rul) l)=.ok b r->Eat l r:=fun x e l b r h=>by
  obtain ⟨u,l1,h1,h2⟩:=Rs.bind_ok.1 h
  exact (pWant_eat h1).trans (eF x e _ _ _ h2).z
 refine head_ext.bind (fun _ _ _ h=>(pHead_eat h).z) (fun x l b r h=>?_) (fun x=>?_)
 ·obtain ⟨e,l1,h1,h2⟩:=Rs.bind_ok.1 h
  exact (pEach_eat h1).trans (eW x e _ _ _ h2).z
 intro p r a h q r' hk _
 obtain ⟨e,l1,h1,h2⟩:=Rs.bind_ok.1 h
 have g1:=eW x e _ _ _ h2
 obtain ⟨p1,_,hp1⟩:=pEach_eat h1
 obtain ⟨p2,rfl,rfl⟩:=app_split hp1 g1.z
 obtain ⟨q1,q2,rfl,k1,k2⟩:=Kin.app hk
 have hne:=ne_of_eat g1
 obtain ⟨u,l2,h3,h4⟩:=Rs.bind_ok.1 h2
 obtain ⟨t,ht,_,_⟩:=want_one _ _ _ _ h3
 cases p2 with
 | nil=>exact absurd rfl hne
 | cons y p2 =>
  obtain ⟨y',q3,rfl,k3,k4⟩:=Kin.cons k2
  have hy:y=t:=by rw [List.cons_append,List.cons.injEq] at ht;exact ht.1
  subst hy
  have hs:isT [58] (y :: (p2++r))=true:=by
   rw [List.cons_append] at h3
   unfold pWant at h3
   split at h3
   ·assumption
   ·cases h3
  have hcom:∀ s:Bs,s ≠ [58]->isT s (y :: (p2++r))=false:=fun s hne=>by
   rw [isT] at hs ⊢
   simp only [Bool.and_eq_true,beq_iff_eq] at hs
   rw [hs.1]
   cases hb:([58]:Bs)==s with
   | false=>rfl
   | true=>rw [beq_iff_eq] at hb;exact absurd hb.symm hne
  have heach:(if isT [101,97,99,104] (q1++(y' :: (q3++r'))) then pBinds 6 (q1++(y' :: (q3++r'))).tail else .ok [] (q1++(y' :: (q3++r'))))=.ok e (y' :: (q3++r')):=by
   rw [List.append_assoc,List.cons_append] at h1
   cases p1 with
   | nil =>
    have:q1=[]:=by simpa [Kin] using k1
    subst this
    rw [List.nil_append] at h1 ⊢
    rw [if_neg (by rw [hcom _ (by decide)];simp)] at h1
    rw [if_neg (by rw [isT_kin k3 (l:=p2++r),hcom _ (by decide)];simp)]
    cases h1;rfl
   | cons z p1 =>
    obtain ⟨z',q4,rfl,k5,k6⟩:=Kin.cons k1
    rw [List.cons_append] at h1 ⊢
    rw [isT_kin k5 (l:=p1++(y :: (p2++r)))]
    split at h1
    ·rename_i hs2
     rw [if_pos hs2]
     exact pBinds_ext 5 p1 (y :: (p2++r)) e h1 q4 (y' :: (q3++r')) k6 (show isT [44] (y' :: (q3++r'))=false from by rw [isT_kin k3 (l:=p2++r)];exact hcom _ (by decide))
    ·exfalso
     simp only [Rs.ok.injEq] at h1
     have:=congrArg List.length h1.2
     simp at this
     omega
  show Rs.bind (if isT [101,97,99,104] (q1++(y' :: q3)++r') then pBinds 6 (q1++(y' :: q3)++r').tail else .ok [] (q1++(y' :: q3)++r')) _=_
  rw [List.append_assoc,List.cons_append,heach]
  dsimp only [Rs.bind]
  refine (want_one [58]).bind (K:=fun _=>True) (f:=fun _ l=>(parF l).bind fun f l=>(pWant [59] l).bind fun _ l=>Rs.ok (⟨x.2.1,x.1,x.2.2,e,f⟩:Rul) l) (fun _ l b r h=>(eF x e l b r h).z) (fun _=>?_) (y :: p2) r a h2 (y' :: q3) r' k2 trivial
  clear h h1 h2 h3 h4 hk k1 k2 k3 k4 ht hs hcom heach hne g1 hp1
  intro p r a h q r' hk _
  obtain ⟨f,l1,h1,h2⟩:=Rs.bind_ok.1 h
  obtain ⟨u,l2,h3,h4⟩:=Rs.bind_ok.1 h2
  cases h4
  obtain ⟨t,rfl,hk4,ht⟩:=want_one _ _ _ _ h3
  obtain ⟨p1,_,hp1⟩:=(parF_eat h1).z
  obtain ⟨p2,hp2,rfl⟩:=app_split hp1 ⟨[t],by simpa using hk4,rfl⟩
  have:p2=[t]:=List.append_cancel_right (show p2++r=[t]++r from hp2.symm)
  subst this
  obtain ⟨q1,q2,rfl,k1,k2⟩:=Kin.app hk
  obtain ⟨t',q3,rfl,k3,k4⟩:=Kin.cons k2
  have:q3=[]:=by simpa [Kin] using k4
  subst this
  obtain ⟨s1,s2,s3⟩:=parF_stop h1
  rw [List.append_assoc] at h1 ⊢
  show (parF (q1++([t']++r'))).bind _=_
  rw [parF_ext p1 ([t]++r) f h1 q1 ([t']++r') k1 ⟨by rw [List.singleton_append,isT_kin k3 (l:=r)];exact s1,by rw [List.singleton_append,isT_kin k3 (l:=r)];exact s2,by rw [List.singleton_append,isT_kin k3 (l:=r)];exact s3⟩]
  show (pWant [59] (t' :: r')).bind _=_
  rw [ht t' r' k3];rfl
theorem ts_head {ts p l:List Tok} {e:Tok} (ht:∀ t∈ts,t.kind ≠ 4) (h:ts++[e]=p++l) (hp:∀ t∈p,t.kind ≠ 4) (he:e.kind=4):∃ l',l=l'++[e]/\ts=p++l':=by
 have h1:l ≠ []:=by
  rintro rfl
  rw [List.append_nil] at h
  exact hp e (by rw [<- h];simp) he
 obtain ⟨l',e',rfl⟩:∃ l' e',l=l'++[e']:=⟨l.dropLast,l.getLast h1,(List.dropLast_concat_getLast h1).symm⟩
 rw [<- List.append_assoc] at h
 obtain ⟨h2,h3⟩:=List.append_inj' h rfl
 simp only [List.cons.injEq,and_true] at h3
 exact ⟨l',by rw [h3],h2⟩
theorem rules_join:∀ (n:Nat) (ts:List Tok) (e:Tok) (rs:List Rul) (l:List Tok),ts.length<=n->(∀ t∈ts,t.kind ≠ 4)->e.kind=4->parRules (ts++[e])=.ok rs l ->
  ∀ (qs us:List Tok) (ms:List Rul) (m:List Tok),Kin ts qs->parRules us=.ok ms m->parRules (qs++us)=.ok (rs++ms) m
 | n,ts,e,rs,l,hn,ht,he,h,qs,us,ms,m,hk,hu=>by
  rw [parRules_eq] at h
  cases ts with
  | nil =>
   rw [List.nil_append,if_pos (by rw [isEnd,he];rfl)] at h
   cases h
   have:qs=[]:=by simpa [Kin] using hk
   subst this
   exact hu
  | cons t ts =>
   rw [List.cons_append,if_neg (by rw [isEnd,beq_iff_eq];exact ht t (by simp))] at h
   obtain ⟨r,l1,h1,h2⟩:=Rs.bind_ok.1 h
   obtain ⟨rs',l2,h3,h4⟩:=Rs.bind_ok.1 h2
   cases h4
   obtain ⟨p,hp,hpn,hpl⟩:=parRule_eat h1
   obtain ⟨l1',rfl,hts⟩:=ts_head (ts:=t :: ts) (p:=p) (l:=l1) ht hpl hpn he
   cases n with
   | zero=>simp at hn
   | succ n =>
    have hlen:l1'.length<=n:=by
     have:=congrArg List.length hts
     have h5:=List.length_pos_iff.2 hp
     simp only [List.length_cons,List.length_append] at this hn
     omega
    rw [hts] at hk
    obtain ⟨q1,q2,rfl,k1,k2⟩:=Kin.app hk
    rw [<- List.cons_append,hts,List.append_assoc] at h1
    have h6:=rule_ext p (l1'++[e]) r h1 q1 (q2++us) k1 trivial
    have h7:=rules_join n l1' e rs' l hlen (fun x hx=>ht x (by rw [hts];simp [hx])) he h3 q2 us ms m k2 hu
    rw [List.append_assoc,parRules_eq]
    have hne:isEnd (q1++(q2++us))=false:=by
     cases p with
     | nil=>exact absurd rfl hp
     | cons y p =>
      obtain ⟨y',q3,rfl,k3,_⟩:=Kin.cons k1
      rw [List.cons_append,isEnd]
      simp only [kt,Prod.mk.injEq] at k3
      rw [k3.1]
      simpa using hpn y (by simp)
    rw [if_neg (by rw [hne];simp),h6]
    dsimp only [Rs.bind]
    rw [h7];rfl
theorem rules_rest:∀ (n:Nat) (l:List Tok) (rs:List Rul) (r:List Tok),l.length<=n->parRules l=.ok rs r->isEnd r=true/\EatZ l r
 | n,l,rs,r,hn,h=>by
  rw [parRules_eq] at h
  split at h
  ·rename_i he;cases h;exact ⟨he,.refl _⟩
  ·obtain ⟨x,l1,h1,h2⟩:=Rs.bind_ok.1 h
   obtain ⟨xs,l2,h3,h4⟩:=Rs.bind_ok.1 h2
   cases h4
   have:=(parRule_eat h1).len
   cases n with
   | zero=>omega
   | succ n =>
    obtain ⟨g1,g2⟩:=rules_rest n l1 xs r (by omega) h3
    exact ⟨g1,(parRule_eat h1).z.trans g2⟩
theorem parts_law {a b:Bs} (ha:a.length<=2000) (hb:b.length<=2000) {l m:List Rul} {x y:Nat} (h1:synParse a=(l,x,0)) (h2:synParse b=(m,y,0)) :
  synParse (a++10 :: b)=if synCheck (l++m) ≠ 0 then ([],0,synCheck (l++m)) else (l++m,0,0):=by
 have hl:(a++10 :: b).length<=16384:=by simp;omega
 rw [synParse_eq,tokensF_small (by omega)] at h1 h2
 rw [synParse_eq,tokensF_small hl]
 split at h1
 ·rename_i hc
  rw [Prod.mk.injEq,Prod.mk.injEq] at h1
  exact absurd h1.2.2 hc
 rename_i ha0
 split at h2
 ·rename_i hc
  rw [Prod.mk.injEq,Prod.mk.injEq] at h2
  exact absurd h2.2.2 hc
 rename_i hb0
 have ha0:(lexS a 0 []).2.2=0:=by simpa using ha0
 have hb0:(lexS b 0 []).2.2=0:=by simpa using hb0
 obtain ⟨ts,h3,h4⟩:∃ ts,(lexS a 0 []).1=ts++[⟨4,[],0+a.length⟩]/\lexS (a++10 :: b) 0 []=lexS b (0+a.length+1) ([]++ts):=by
  rcases lex_line b a.length a 0 [] (Nat.le_refl _) with ⟨_,ts,h3,_,h4⟩ | ⟨h3,_⟩
  ·exact ⟨ts,h3,h4⟩
  ·rw [h3] at ha0;cases ha0
 obtain ⟨ta,na,h5,h6⟩:=lexS_good ha0
 rw [h5] at h3 h1
 obtain ⟨h7,h8⟩:=List.append_inj' h3 rfl
 subst h7
 obtain ⟨tb,nb,h9,h10⟩:=lexS_good hb0
 rw [h9] at h2
 have hsh:=lexS_shift b 0 (0+a.length+1)
 rw [hb0,h9] at hsh
 have hacc:=lexS_acc b (0+a.length+1) ([]++ta)
 rw [show (0:Nat)+(0+a.length+1)=0+a.length+1 from by omega] at hsh
 rw [hsh] at hacc
 dsimp only at hacc
 rw [if_pos rfl] at hacc
 rw [h4,hacc]
 dsimp only
 rw [if_neg (by simp)]
 cases hpa:parRules (ta++[⟨4,[],na⟩]) with
 | bad n=>rw [hpa] at h1;cases h1
 | ok ra q1 =>
  rw [hpa] at h1
  dsimp only at h1
  split at h1
  ·rename_i hc
   rw [Prod.mk.injEq,Prod.mk.injEq] at h1
   exact absurd h1.2.2 hc
  rw [Prod.mk.injEq] at h1
  obtain ⟨rfl,_⟩:=h1
  cases hpb:parRules (tb++[⟨4,[],nb⟩]) with
  | bad n=>rw [hpb] at h2;cases h2
  | ok rb q2 =>
   rw [hpb] at h2
   dsimp only at h2
   split at h2
   ·rename_i hc
    rw [Prod.mk.injEq,Prod.mk.injEq] at h2
    exact absurd h2.2.2 hc
   rw [Prod.mk.injEq] at h2
   obtain ⟨rfl,_⟩:=h2
   have k1:=rules_join tb.length tb ⟨4,[],nb⟩ rb q2 (Nat.le_refl _) (fun t ht=>(h10 t ht).2) rfl hpb (tb.map (Tok.shift (0+a.length+1))) [Tok.shift (0+a.length+1) ⟨4,[],nb⟩] [] [Tok.shift (0+a.length+1) ⟨4,[],nb⟩] (kin_shift _ tb) (by rw [parRules_eq,if_pos (show isEnd [Tok.shift (0+a.length+1) ⟨4,[],nb⟩]=true from rfl)])
   rw [List.append_nil] at k1
   have k2:=rules_join ta.length ta ⟨4,[],na⟩ ra q1 (Nat.le_refl _) (fun t ht=>(h6 t ht).2) rfl hpa ta _ rb _ rfl k1
   rw [List.map_append]
   simp only [List.nil_append,List.map_cons,List.map_nil]
   rw [k2]
end Go.Chalk
/- A NAME, by the lexer; the walk through a list of rules, step by step. No program is named here. -/
namespace Go.Chalk
def headT (l:List Tok):Tok:=match l with | []=>⟨0,[],0⟩ | t :: _=>t
def namedF (s:Bs):Bool:=(tokensF s).2.2==0&&((tokensF s).1.length==2&&((headT (tokensF s).1).kind==1&&((headT (tokensF s).1).text==s&&!(reservedL.contains s))))
theorem named_yes {s:Bs} (h:wordB s=true):∃ n,tokensF s=([⟨1,s,n⟩,⟨4,[],s.length⟩],0,0):=by
 have hl:s.length<=64:=by
  cases s with
  | nil=>simp
  | cons c r =>
   rw [wordB] at h
   simp only [Bool.and_eq_true,decide_eq_true_eq] at h
   exact h.2
 obtain ⟨ts,h1,h2⟩:=lexS_all (Lx.word h)
 rw [tokensF,if_neg (by omega),h2]
 cases ts with
 | nil=>simp at h1
 | cons t r =>
  cases r with
  | cons _ _=>simp at h1
  | nil =>
   obtain ⟨k,x,n⟩:=t
   simp only [List.map_cons,List.map_nil,List.cons.injEq,and_true,kt,Prod.mk.injEq] at h1
   obtain ⟨rfl,rfl⟩:=h1
   exact ⟨n,rfl⟩
theorem named_iff (s:Bs):namedF s=nameB s:=by
 unfold nameB
 cases hw:wordB s with
 | true =>
  obtain ⟨n,h⟩:=named_yes hw
  unfold namedF
  rw [h];simp [headT]
 | false =>
  rw [Bool.false_and,Bool.eq_false_iff]
  intro h
  unfold namedF at h
  simp only [Bool.and_eq_true,beq_iff_eq] at h
  obtain ⟨h1,h2,h3,h4,_⟩:=h
  have hb:¬ 16384<s.length:=fun hb=>by rw [tokensF,if_pos hb] at h1;cases h1
  rw [tokensF,if_neg hb] at h1 h2 h3 h4
  obtain ⟨ts,n,e,ht⟩:=lexS_good h1
  rw [e] at h2 h3 h4
  cases ts with
  | nil=>simp at h2
  | cons t r =>
   have hr:=(ht t (by simp)).1
   simp only [List.cons_append,headT] at h3 h4
   rw [rightB,if_pos h3,h4,hw] at hr
   cases hr
theorem synGo_step (met:List Bs) (r:Rul) (l:List Rul):synGo met (r :: l)=if wholeR r=false∨met.contains r.name=true then 1 else if frmCheck r.body ≠ 0 then frmCheck r.body else synGo (met++[r.name]) l:=by rw [synGo]
theorem txtRules_append (a b:List Rul):txtRules (a++b)=txtRules a++txtRules b:=by
 induction a with
 | nil=>rfl
 | cons r a ih=>rw [List.cons_append,txtRules,txtRules,ih,List.append_assoc]
theorem txtRules_take {l:List Rul} {j:Nat} (h:j<l.length):txtRules (l.take (j+1))=txtRules (l.take j)++txtRule l[j]:=by
 rw [List.take_succ_eq_append_getElem h,txtRules_append,txtRules,txtRules,List.append_nil]
end Go.Chalk
/- Lengths of canonical texts. No program is named here. -/
namespace Go.Chalk
theorem kwOf_len {t:List (Bs×Int)} (h:t.all (fun p=>decide (p.1.length<=8))=true) (n:Int):(kwOf t n).length<=8:=by
 unfold kwOf
 cases hf:t.find? (fun p=>p.2==n) with
 | none=>simp
 | some p =>
  have:=List.all_eq_true.1 h p (List.mem_of_find?_eq_some hf)
  simpa using this
theorem kwSort_len (n:Int):(kwOf kwSort n).length<=8:=kwOf_len (by decide) n
theorem kwAtom_len (n:Int):(kwOf kwAtom n).length<=8:=kwOf_len (by decide) n
theorem kwTerm_len (n:Int):(kwOf kwTerm n).length<=8:=kwOf_len (by decide) n
theorem kwAll_len (n:Int):(kwOf kwAll n).length<=8:=kwOf_len (by decide) n
theorem decDigits_len:∀ (d n:Nat),n<10 ^ (d+1)->(Lib.decDigits n).length<=d+1
 | 0,n,h=>by
  have:n<10:=by simpa using h
  rw [Lib.decDigits,dif_pos this];simp
 | d+1,n,h=>by
  rw [Lib.decDigits]
  split
  ·simp
  ·have:=decDigits_len d (n / 10) (by rw [Nat.pow_succ] at h;omega)
   simp only [List.length_append,List.length_singleton];omega
theorem decI_len {n:Int} (h0:0<=n) (h:n<=1099511627776):(decI n).length<=13:=decDigits_len 12 n.toNat (by
 have:n.toNat<=1099511627776:=by omega
 omega)
theorem named_len {s:Bs} (h:frmNamed s=true):s.length<=64:=by
 cases s with
 | nil=>simp
 | cons c r =>
  rw [frmNamed] at h
  simp only [Bool.and_eq_true,decide_eq_true_eq] at h
  exact h.1.1.1
theorem txtTerm_len {t:Trm} (h:termedF t=true):(txtTerm t).length<=80:=by
 unfold txtTerm
 unfold termedF at h
 split
 ·rename_i h1
  rw [if_pos h1] at h
  simp only [numberB,Bool.and_eq_true,decide_eq_true_eq] at h
  have:=decI_len h.2.1 h.2.2;omega
 ·rename_i h1
  rw [if_neg h1] at h
  simp only [Bool.and_eq_true,decide_eq_true_eq] at h
  have h2:=named_len h.1.2
  split
  ·omega
  ·have:=kwTerm_len t.kind
   simp only [List.length_append,List.length_cons,List.length_nil];omega
theorem txtBind_len {b:Bnd} (h:bndOk b=true):(txtBind b).length<=80:=by
 unfold bndOk at h
 simp only [Bool.and_eq_true,decide_eq_true_eq] at h
 have:=named_len h.1.1
 have:=kwSort_len b.sort
 unfold txtBind
 simp only [List.length_append,List.length_cons,List.length_nil];omega
theorem txtMore_len:∀ {bs:List Bnd},bs.all bndOk=true->(txtMore bs).length<=82*bs.length
 | [],_=>by simp [txtMore]
 | b :: r,h=>by
  simp only [List.all_cons,Bool.and_eq_true] at h
  have h1:=txtBind_len h.1
  have h2:=txtMore_len h.2
  rw [txtMore]
  simp only [List.length_append,List.length_cons,List.length_nil] at h2 ⊢;omega
theorem txtBinds_len {bs:List Bnd} (h:bs.all bndOk=true) (hl:bs.length<=6):(txtBinds bs).length<=500:=by
 cases bs with
 | nil=>simp [txtBinds]
 | cons b r =>
  simp only [List.all_cons,Bool.and_eq_true] at h
  have h1:=txtBind_len h.1
  have h2:=txtMore_len h.2
  rw [txtBinds]
  simp only [List.length_append,List.length_cons] at hl ⊢;omega
theorem cmp_len {s:Bs} (h:cmpL.contains s=true):s.length<=2:=by
 have:∀ x∈cmpL,x.length<=2:=by decide
 exact this s (by simpa using h)
theorem txtIn_len (f:Frm) (least:Nat):(txtIn f least).length<=(txtF f).length+2:=by
 unfold txtIn
 split
 ·simp only [List.length_append,List.length_cons,List.length_nil];omega
 ·omega
theorem txtF_len:∀ f,wf f->(txtF f).length<=600*f.size:=by
 refine wf_ind ?_ ?_ ?_ ?_ ?_ ?_
 ·rintro k (rfl | rfl)
  ·rw [txtF_nil];simp [Frm.size,fsizes]
  ·rw [txtF_nil];simp [Frm.size,fsizes]
 ·intro k a b h1 h2 ha hb
  rw [txtF_two,if_neg (by omega),if_neg (by omega),if_neg (by omega),if_neg (by omega),if_neg (by omega),if_neg (by omega),if_neg (by omega),if_neg (by omega)]
  have e1:=txtTerm_len (t:=⟨2,a,0⟩) (by simp [termedF,ha])
  have e2:=txtTerm_len (t:=⟨2,b,0⟩) (by simp [termedF,hb])
  have e3:=kwAtom_len k
  simp only [List.length_append,List.length_cons,List.length_nil,Frm.size,fsizes];omega
 ·intro s t u hs ht hu
  rw [txtF_two,if_neg (by omega),if_neg (by omega),if_pos rfl]
  have e1:=txtTerm_len ht
  have e2:=txtTerm_len hu
  have e3:=cmp_len hs
  simp only [List.length_append,List.length_cons,List.length_nil,Frm.size,fsizes];omega
 ·intro g _ ih
  have e:txtF (.mk 10 [] 0 [] [] [g])=[33]++txtIn g 4:=by rw [txtF_nil];simp [txtAt,txtIn]
  rw [e]
  have:=txtIn_len g 4
  simp only [List.length_append,List.length_cons,List.length_nil,Frm.size,fsizes];omega
 ·intro k g g' h1 h2 _ _ ih1 ih2
  have:k=11∨k=12∨k=13:=by omega
  rcases this with rfl | rfl | rfl
  ·have e:txtF (.mk 11 [] 0 [] [] [g,g'])=txtIn g 3++([32,38,32]++txtIn g' 4):=by rw [txtF_nil];simp [txtAt,txtIn]
   rw [e]
   have:=txtIn_len g 3
   have:=txtIn_len g' 4
   simp only [List.length_append,List.length_cons,List.length_nil,Frm.size,fsizes];omega
  ·have e:txtF (.mk 12 [] 0 [] [] [g,g'])=txtIn g 2++([32,124,32]++txtIn g' 3):=by rw [txtF_nil];simp [txtAt,txtIn]
   rw [e]
   have:=txtIn_len g 2
   have:=txtIn_len g' 3
   simp only [List.length_append,List.length_cons,List.length_nil,Frm.size,fsizes];omega
  ·have e:txtF (.mk 13 [] 0 [] [] [g,g'])=txtIn g 2++([32,45,62,32]++txtIn g' 1):=by rw [txtF_nil];simp [txtAt,txtIn]
   rw [e]
   have:=txtIn_len g 2
   have:=txtIn_len g' 1
   simp only [List.length_append,List.length_cons,List.length_nil,Frm.size,fsizes];omega
 ·intro k n b bs g h1 h2 hn hm hz hl hbo hbs _ ih
  have hat:txtAt [g] 0 0=txtF g:=by rw [txtAt_get [g] 0 0 (by simp)];simp [txtIn]
  rw [txtF_nil,if_neg (by omega),if_neg (by omega),if_neg (by omega),if_neg (by omega),if_neg (by omega),if_neg (by omega),if_neg (by omega),if_pos h1,hat]
  have e1:=kwAll_len k
  have e2:=decI_len hn hm
  have e3:(txtBinds (b :: bs)).length<=500:=txtBinds_len (by simp [hbo,hbs]) (by simp only [List.length_cons];omega)
  have e4:(if 16<=k then decI n++[32] else []).length<=14:=by split <;> simp <;> omega
  simp only [List.length_append,List.length_cons,List.length_nil,Frm.size,fsizes];omega
theorem txtRule_len {r:Rul} (h:wholeR r=true) (hw:wf r.body):(txtRule r).length<=700+600*r.body.size:=by
 obtain ⟨h1,h2,h3,h4,h5⟩:=wholeR_iff h
 have e1:=named_len h1
 have e2:=txtF_len r.body hw
 have e3:=txtBinds_len h5 h4
 have e4:(txtHead r).length<=90:=by
  unfold txtHead
  split
  ·simp only [List.length_append,List.length_cons,List.length_nil];omega
  ·rename_i hh
   simp only [hh,Bool.false_eq_true,if_false] at h2 h3
   have:=decI_len (n:=r.weight) (by omega) (by omega)
   simp only [List.length_append,List.length_cons,List.length_nil];omega
 have e5:(if r.each.isEmpty then [] else [32,101,97,99,104,32]++txtBinds r.each).length<=506:=by split <;> simp <;> omega
 unfold txtRule
 simp only [List.length_append,List.length_cons,List.length_nil];omega
end Go.Chalk
/- A text from which the parser makes a formula has at least as many opening brackets as the canonical one; and a canonical text is balanced. No program is named here. -/
namespace Go.Chalk
def o1 (s:Bs):Nat:=if s==[40] then 1 else 0
theorem o1_of {s:Bs} (h:(s==[40])=false):o1 s=0:=by unfold o1;rw [h];rfl
def opens (l:List Tok):Nat:=l.countP (fun t=>t.text==[40])
def opensK (k:List KT):Nat:=k.countP (fun x=>x.2==[40])
theorem opens_kt (l:List Tok):opens l=opensK (l.map kt):=by
 unfold opens opensK
 rw [List.countP_map];rfl
theorem opensK_app (a b:List KT):opensK (a++b)=opensK a+opensK b:=List.countP_append
theorem opensK_cons (x:KT) (b:List KT):opensK (x :: b)=opensK b+o1 x.2:=List.countP_cons
theorem opensK_nil:opensK []=0:=rfl
theorem opens_app (a b:List Tok):opens (a++b)=opens a+opens b:=List.countP_append
theorem opens_cons (x:Tok) (b:List Tok):opens (x :: b)=opens b+o1 x.text:=List.countP_cons
theorem opens_isT {s:Bs} {l:List Tok} (h:isT s l=true):opens l=opens l.tail+o1 s:=by
 obtain ⟨t,ht⟩:=isT_cons h
 rw [ht] at h
 rw [isT] at h
 simp only [Bool.and_eq_true,beq_iff_eq] at h
 rw [ht,opens_cons,h.1];rfl
theorem opens_tail (l:List Tok):opens l.tail<=opens l:=by
 cases l with
 | nil=>exact Nat.le_refl _
 | cons t r=>rw [opens_cons];exact Nat.le_add_right _ _
theorem want_opens {s:Bs} {l r:List Tok} {u:Unit} (h:pWant s l=.ok u r):opens l=opens r+o1 s:=by
 unfold pWant at h
 split at h
 ·rename_i hs
  cases h;exact opens_isT hs
 ·cases h
theorem name_opens {s:Bs} {l r:List Tok} (h:pName l=.ok s r):opens l=opens r+o1 s:=by
 cases l with
 | nil=>cases h
 | cons t l =>
  rw [pName] at h
  split at h
  ·cases h;exact opens_cons _ _
  ·cases h
theorem number_opens {x y n:Int} {l r:List Tok} (h:pNumber x y l=.ok n r):opens r<=opens l/\x<=n/\n<=y:=by
 cases l with
 | nil=>cases h
 | cons t l =>
  rw [pNumber] at h
  split at h
  ·rename_i hc
   cases h
   exact ⟨by rw [opens_cons];exact Nat.le_add_right _ _,hc.2.1,hc.2.2⟩
  ·cases h
theorem dec_notOpen (n:Int):(decI n==[40])=false:=by
 unfold decI
 obtain ⟨d1,d2,_⟩:=dec_digits n.toNat
 cases hb:Lib.decDigits n.toNat==[40] with
 | false=>rfl
 | true =>
  rw [beq_iff_eq] at hb
  rw [hb] at d1;revert d1;decide
theorem kw_notOpen {w:List (Bs×Int)} (hw:w.all (fun p=>!(p.1==[40]))=true) (k:Int):(kwOf w k==[40])=false:=by
 unfold kwOf
 cases hf:w.find? (fun p=>p.2==k) with
 | none=>rfl
 | some p =>
  have h2:=List.all_eq_true.1 hw p (List.mem_of_find?_eq_some hf)
  simpa using h2
theorem kwTerm_no (k:Int):(kwOf kwTerm k==[40])=false:=kw_notOpen (by decide) k
theorem kwSort_no (k:Int):(kwOf kwSort k==[40])=false:=kw_notOpen (by decide) k
theorem kwAtom_no (k:Int):(kwOf kwAtom k==[40])=false:=kw_notOpen (by decide) k
theorem kwAll_no (k:Int):(kwOf kwAll k==[40])=false:=kw_notOpen (by decide) k
theorem kwGet_mem {w:List (Bs×Int)} {s:Bs} {k:Int} (h:kwGet w s=some k):(s,k)∈w:=by
 unfold kwGet at h
 cases hf:w.find? (fun p=>p.1==s) with
 | none=>rw [hf] at h;cases h
 | some p =>
  rw [hf] at h
  simp only [Option.map_some,Option.some.injEq] at h
  have h1:=List.find?_some hf
  simp only [beq_iff_eq] at h1
  rw [<- h1,<- h];exact List.mem_of_find?_eq_some hf
theorem kwT_get {w:List (Bs×Int)} {l:List Tok} {k:Int} (h:kwT w l=some k):∃ s,(s,k)∈w:=by
 cases l with
 | nil=>cases h
 | cons t l =>
  rw [kwT] at h
  split at h
  ·exact ⟨_,kwGet_mem h⟩
  ·cases h
theorem kwAll_range {l:List Tok} {k:Int} (h:kwT kwAll l=some k):14<=k/\k<=17:=by
 obtain ⟨s,hs⟩:=kwT_get h
 simp only [kwAll,List.mem_cons,Prod.mk.injEq,List.not_mem_nil,or_false] at hs
 omega
theorem kwAtom_range {l:List Tok} {k:Int} (h:kwT kwAtom l=some k):3<=k/\k<=8:=by
 obtain ⟨s,hs⟩:=kwT_get h
 simp only [kwAtom,List.mem_cons,Prod.mk.injEq,List.not_mem_nil,or_false] at hs
 omega
theorem kwTerm_range {l:List Tok} {k:Int} (h:kwT kwTerm l=some k):3<=k/\k<=7:=by
 obtain ⟨s,hs⟩:=kwT_get h
 simp only [kwTerm,List.mem_cons,Prod.mk.injEq,List.not_mem_nil,or_false] at hs
 omega
theorem term_opens {t:Trm} {l r:List Tok} (h:pTerm l=.ok t r):opens r+opensK (tkTerm t)<=opens l:=by
 cases l with
 | nil=>cases h
 | cons q m =>
  unfold pTerm at h
  dsimp only at h
  split at h
  ·obtain ⟨n,l1,h1,h⟩:=Rs.bind_ok.1 h
   cases h
   have:=(number_opens h1).1
   rw [tkTerm,if_pos rfl,opensK_cons,opensK_nil,o1_of (dec_notOpen n)]
   exact this
  ·cases h3:kwT kwTerm (q :: m) with
   | none =>
    rw [h3] at h
    obtain ⟨s,l1,h1,h⟩:=Rs.bind_ok.1 h
    cases h
    have:=name_opens h1
    show opens r+opensK [((1:Int),s)]<=_
    rw [opensK_cons,opensK_nil]
    show opens r+(0+o1 s)<=_
    omega
   | some k =>
    rw [h3] at h
    obtain ⟨u,l1,h1,h⟩:=Rs.bind_ok.1 h
    obtain ⟨s,l2,h2,h⟩:=Rs.bind_ok.1 h
    obtain ⟨v,l3,h4,h⟩:=Rs.bind_ok.1 h
    cases h
    have hk:=kwTerm_range h3
    have g0:=opens_tail (q :: m)
    have g1:=want_opens h1
    have g2:=name_opens h2
    have g3:=want_opens h4
    rw [tkTerm,if_neg (by show ¬ k=1;omega),if_neg (by show ¬ k=2;omega)]
    simp only [opensK_cons,opensK_nil,o1_of (kwTerm_no k)]
    rw [show o1 [40]=1 from rfl] at g1 ⊢
    rw [show o1 [41]=0 from rfl] at g3 ⊢
    omega
theorem bind_opens {b:Bnd} {l r:List Tok} (h:pBind l=.ok b r):opens r+opensK (tkBind b)<=opens l:=by
 unfold pBind at h
 obtain ⟨s,l1,h1,h⟩:=Rs.bind_ok.1 h
 obtain ⟨u,l2,h2,h⟩:=Rs.bind_ok.1 h
 cases h3:kwT kwSort l2 with
 | none=>rw [h3] at h;cases h
 | some n =>
  rw [h3] at h;cases h
  have g1:=name_opens h1
  have g2:=want_opens h2
  have g3:=opens_tail l2
  rw [show o1 [58]=0 from rfl] at g2
  rw [tkBind]
  simp only [opensK_cons,opensK_nil,o1_of (kwSort_no n)]
  rw [show o1 [58]=0 from rfl]
  omega
theorem binds_opens:∀ (n:Nat) (l:List Tok) (b:List Bnd) (r:List Tok),pBinds (n+1) l=.ok b r->opens r+opensK (tkBinds b)<=opens l/\b ≠ []
 | 0,l,b,r,h=>by
  rw [pBinds] at h
  obtain ⟨x,l1,h1,h⟩:=Rs.bind_ok.1 h
  rw [if_pos (.inl rfl)] at h;cases h
  rw [tkBinds,tkMore,List.append_nil]
  exact ⟨bind_opens h1,by simp⟩
 | n+1,l,b,r,h=>by
  rw [pBinds] at h
  obtain ⟨x,l1,h1,h⟩:=Rs.bind_ok.1 h
  have g1:=bind_opens h1
  split at h
  ·cases h
   rw [tkBinds,tkMore,List.append_nil]
   exact ⟨g1,by simp⟩
  ·obtain ⟨y,l2,h2,h⟩:=Rs.bind_ok.1 h
   cases h
   obtain ⟨g2,g3⟩:=binds_opens n _ _ _ h2
   have g4:=opens_tail l1
   refine ⟨?_,by simp⟩
   cases y with
   | nil=>exact absurd rfl g3
   | cons c q =>
    rw [tkBinds,tkMore,opensK_app,opensK_cons,show o1 ((3,[44]):KT).2=0 from rfl,opensK_app]
    rw [tkBinds,opensK_app] at g2
    omega
theorem atom_opens {k:Int} {f:Frm} {l r:List Tok} (hk:3<=k/\k<=8) (h:pAtom k l=.ok f r):opens r+opensK (tkF f)<=opens l/\f.kind=k:=by
 unfold pAtom at h
 obtain ⟨u1,l1,h1,h⟩:=Rs.bind_ok.1 h
 obtain ⟨u2,l2,h2,h⟩:=Rs.bind_ok.1 h
 obtain ⟨u3,l3,h3,h⟩:=Rs.bind_ok.1 h
 obtain ⟨u4,l4,h4,h⟩:=Rs.bind_ok.1 h
 obtain ⟨u5,l5,h5,h⟩:=Rs.bind_ok.1 h
 cases h
 have g1:=want_opens h1
 have g2:=name_opens h2
 have g3:=want_opens h3
 have g4:=name_opens h4
 have g5:=want_opens h5
 rw [show o1 [40]=1 from rfl] at g1
 rw [show o1 [44]=0 from rfl] at g3
 rw [show o1 [41]=0 from rfl] at g5
 refine ⟨?_,rfl⟩
 rw [tkF_two,if_neg (by omega),if_neg (by omega),if_neg (by omega),if_neg (by omega),if_neg (by omega),if_neg (by omega),if_neg (by omega),if_neg (by omega)]
 show opens r+opensK ((1,kwOf kwAtom k) :: (3,[40]) :: ([(1,u2)]++((3,[44]) :: ([(1,u4)]++[(3,[41])]))))<=_
 simp only [opensK_cons,opensK_nil,opensK_app,o1_of (kwAtom_no k)]
 rw [show o1 [40]=1 from rfl,show o1 [44]=0 from rfl,show o1 [41]=0 from rfl]
 omega
theorem cmp_opens {f:Frm} {l r:List Tok} (h:pCmp l=.ok f r):opens r+opensK (tkF f)<=opens l/\f.kind=9:=by
 unfold pCmp at h
 obtain ⟨a,l1,h1,h⟩:=Rs.bind_ok.1 h
 cases h2:opT l1 with
 | none=>rw [h2] at h;cases h
 | some s =>
  rw [h2] at h
  obtain ⟨b,l2,h3,h⟩:=Rs.bind_ok.1 h
  cases h
  have g1:=term_opens h1
  have g2:=opens_tail l1
  have g3:=term_opens h3
  have hs:(s==[40])=false:=by
   cases l1 with
   | nil=>cases h2
   | cons t q =>
    rw [opT] at h2
    split at h2
    ·rename_i hc
     cases h2
     cases hb:t.text==[40] with
     | false=>rfl
     | true=>rw [beq_iff_eq] at hb;rw [hb] at hc;revert hc;simp [cmpL]
    ·cases h2
  refine ⟨?_,rfl⟩
  rw [tkF_two]
  show opens r+opensK (tkTerm a++((3,s) :: tkTerm b))<=_
  rw [opensK_app,opensK_cons]
  show opens r+(opensK (tkTerm a)+(opensK (tkTerm b)+o1 s))<=_
  rw [o1_of hs]
  omega
theorem opensK_br (k:List KT):opensK (tkBr k)=opensK k+1:=by
 unfold tkBr
 rw [opensK_cons,opensK_app,opensK_cons,show o1 ((3,[40]):KT).2=1 from rfl,show o1 ((3,[41]):KT).2=0 from rfl];rfl
theorem in_le {f:Frm} {a b:Nat} (h:a<=b):opensK (tkIn f a)<=opensK (tkIn f b):=by
 unfold tkIn
 by_cases h1:0<tightK f.kind/\tightK f.kind<a
 ·rw [if_pos h1,if_pos (by omega)];exact Nat.le_refl _
 ·rw [if_neg h1]
  by_cases h2:0<tightK f.kind/\tightK f.kind<b
  ·rw [if_pos h2,opensK_br];omega
  ·rw [if_neg h2];exact Nat.le_refl _
theorem in_brk (f:Frm) (a:Nat):opensK (tkIn f a)<=opensK (tkF f)+1:=by
 unfold tkIn
 split
 ·rw [opensK_br];exact Nat.le_refl _
 ·omega
theorem in_low {f:Frm} {a:Nat} (h:a<=1∨tightK f.kind=0):tkIn f a=tkF f:=by
 unfold tkIn;rw [if_neg (by omega)]
structure OpAll (n:Nat):Prop where
 form:∀ l a r,pFormula n l=.ok a r->opens r+opensK (tkF a)<=opens l
 or:∀ l a r,pOr n l=.ok a r->opens r+opensK (tkIn a 2)<=opens l
 ors:∀ f l a r,pOrs n f l=.ok a r->opens r+opensK (tkIn a 2)<=opens l+opensK (tkIn f 2)
 and:∀ l a r,pAnd n l=.ok a r->opens r+opensK (tkIn a 3)<=opens l
 ands:∀ f l a r,pAnds n f l=.ok a r->opens r+opensK (tkIn a 3)<=opens l+opensK (tkIn f 3)
 brk:∀ l a r,pBracketed n l=.ok a r->opens r+(opensK (tkF a)+1)<=opens l
 un:∀ l a r,pUn n l=.ok a r->opens r+opensK (tkIn a 4)<=opens l
theorem op_all:∀ n,OpAll n
 | 0=>⟨fun _ _ _ h=>by (rw [pFormula] at h;cases h),fun _ _ _ h=>by (rw [pOr] at h;cases h),fun _ _ _ _ h=>by (rw [pOrs] at h;cases h),fun _ _ _ h=>by (rw [pAnd] at h;cases h),fun _ _ _ _ h=>by (rw [pAnds] at h;cases h),fun _ _ _ h=>by (rw [pBracketed] at h;cases h),fun _ _ _ h=>by (rw [pUn] at h;cases h)⟩
 | n+1=>by
  have I:=op_all n
  refine ⟨fun l a r h=>?_,fun l a r h=>?_,fun f l a r h=>?_,fun l a r h=>?_,fun f l a r h=>?_,fun l a r h=>?_,fun l a r h=>?_⟩
  ·rw [pFormula_s] at h
   obtain ⟨f,l1,h1,h⟩:=Rs.bind_ok.1 h
   have g1:=I.or _ _ _ h1
   split at h
   ·rename_i hs
    obtain ⟨g,l2,h2,h⟩:=Rs.bind_ok.1 h
    cases h
    have g2:=I.form _ _ _ h2
    have g3:=opens_isT hs
    rw [show o1 _=0 from rfl] at g3
    rw [show tkF (node2 13 f g)=tkIn f 2++((3,[45,62]) :: tkIn g 1) from by unfold node2;rw [tkF_nil];rfl,opensK_app,opensK_cons,show o1 _=0 from rfl,in_low (.inl (Nat.le_refl _))]
    omega
   ·cases h
    have g2:=in_le (f:=a) (a:=1) (b:=2) (by decide)
    rw [in_low (.inl (Nat.le_refl _))] at g2
    omega
  ·rw [pOr_s] at h
   obtain ⟨f,l1,h1,h⟩:=Rs.bind_ok.1 h
   have g1:=I.and _ _ _ h1
   have g2:=I.ors _ _ _ _ h
   have g3:=in_le (f:=f) (a:=2) (b:=3) (by decide)
   omega
  ·rw [pOrs_s] at h
   split at h
   ·rename_i hs
    obtain ⟨g,l2,h2,h⟩:=Rs.bind_ok.1 h
    have g1:=I.and _ _ _ h2
    have g2:=I.ors _ _ _ _ h
    have g3:=opens_isT hs
    rw [show o1 _=0 from rfl] at g3
    rw [show tkIn (node2 12 f g) 2=tkIn f 2++((3,[124]) :: tkIn g 3) from by unfold node2;rw [show tkIn (Frm.mk 12 [] 0 [] [] [f,g]) 2=tkF (Frm.mk 12 [] 0 [] [] [f,g]) from rfl,tkF_nil];rfl,opensK_app,opensK_cons,show o1 _=0 from rfl] at g2
    omega
   ·cases h;omega
  ·rw [pAnd_s] at h
   obtain ⟨f,l1,h1,h⟩:=Rs.bind_ok.1 h
   have g1:=I.un _ _ _ h1
   have g2:=I.ands _ _ _ _ h
   have g3:=in_le (f:=f) (a:=3) (b:=4) (by decide)
   omega
  ·rw [pAnds_s] at h
   split at h
   ·rename_i hs
    obtain ⟨g,l2,h2,h⟩:=Rs.bind_ok.1 h
    have g1:=I.un _ _ _ h2
    have g2:=I.ands _ _ _ _ h
    have g3:=opens_isT hs
    rw [show o1 _=0 from rfl] at g3
    rw [show tkIn (node2 11 f g) 3=tkIn f 3++((3,[38]) :: tkIn g 4) from by unfold node2;rw [show tkIn (Frm.mk 11 [] 0 [] [] [f,g]) 3=tkF (Frm.mk 11 [] 0 [] [] [f,g]) from rfl,tkF_nil];rfl,opensK_app,opensK_cons,show o1 _=0 from rfl] at g2
    omega
   ·cases h;omega
  ·rw [pBracketed_s] at h
   obtain ⟨u,l1,h1,h⟩:=Rs.bind_ok.1 h
   obtain ⟨f,l2,h2,h⟩:=Rs.bind_ok.1 h
   obtain ⟨v,l3,h3,h⟩:=Rs.bind_ok.1 h
   cases h
   have g1:=want_opens h1
   have g2:=I.form _ _ _ h2
   have g3:=want_opens h3
   rw [show o1 _=1 from rfl] at g1
   rw [show o1 _=0 from rfl] at g3
   omega
  ·rw [pUn_s] at h
   split at h
   ·rename_i hs
    obtain ⟨g,l2,h2,h⟩:=Rs.bind_ok.1 h
    cases h
    have g1:=I.un _ _ _ h2
    have g3:=opens_isT hs
    rw [show o1 _=0 from rfl] at g3
    rw [in_low (.inr rfl),show tkF (Frm.mk 10 [] 0 [] [] [g])=(3,[33]) :: tkIn g 4 from by rw [tkF_nil];rfl,opensK_cons,show o1 _=0 from rfl]
    omega
   split at h
   ·have g1:=I.brk _ _ _ h
    have g2:=in_brk a 4
    omega
   split at h
   ·rename_i hs
    cases h
    have g3:=opens_isT hs
    rw [show o1 _=0 from rfl] at g3
    rw [in_low (.inr rfl),show tkF (Frm.mk 1 [] 0 [] [] [])=[(1,[116,114,117,101])] from by rw [tkF_nil];rfl,opensK_cons,show o1 _=0 from rfl,opensK_nil]
    omega
   split at h
   ·rename_i hs
    cases h
    have g3:=opens_isT hs
    rw [show o1 _=0 from rfl] at g3
    rw [in_low (.inr rfl),show tkF (Frm.mk 2 [] 0 [] [] [])=[(1,[102,97,108,115,101])] from by rw [tkF_nil];rfl,opensK_cons,show o1 _=0 from rfl,opensK_nil]
    omega
   cases h1:kwT kwAll l with
   | some k =>
    rw [h1] at h
    obtain ⟨x,l2,h2,h⟩:=Rs.bind_ok.1 h
    obtain ⟨b,l3,h3,h⟩:=Rs.bind_ok.1 h
    obtain ⟨f,l4,h4,h⟩:=Rs.bind_ok.1 h
    cases h
    have hk:=kwAll_range h1
    have g0:=opens_tail l
    have g1:opens l2<=opens l.tail:=by
     split at h2
     ·exact (number_opens h2).1
     ·cases h2;exact Nat.le_refl _
    have g2:=(binds_opens 5 _ _ _ h3).1
    have g3:=I.brk _ _ _ h4
    have ht:tightK k=0:=by unfold tightK;rw [if_neg (by omega),if_neg (by omega),if_neg (by omega)]
    rw [in_low (f:=.mk k [] x [] b [f]) (.inr ht),tkF_nil,if_neg (by omega),if_neg (by omega),if_neg (by omega),if_neg (by omega),if_neg (by omega),if_neg (by omega),if_neg (by omega),if_pos hk.1]
    rw [show tkAt [f] 0 0=tkF f from by rw [tkAt,if_neg (by omega)]]
    rw [opensK_cons,opensK_app,opensK_app,opensK_br]
    have g5:opensK (if 16<=k then [((2:Int),decI x)] else [])=0:=by
     split
     ·rw [opensK_cons,opensK_nil,o1_of (dec_notOpen x)]
     ·rfl
    have g6:o1 ((1,kwOf kwAll k):KT).2=0:=o1_of (kwAll_no k)
    rw [g5,g6]
    omega
   | none =>
    rw [h1] at h
    cases h2:kwT kwAtom l with
    | some k =>
     rw [h2] at h
     have hk:=kwAtom_range h2
     obtain ⟨g1,g2⟩:=atom_opens hk h
     have g0:=opens_tail l
     rw [in_low (.inr (by rw [g2];unfold tightK;rw [if_neg (by omega),if_neg (by omega),if_neg (by omega)]))]
     omega
    | none =>
     rw [h2] at h
     obtain ⟨g1,g2⟩:=cmp_opens h
     rw [in_low (.inr (by rw [g2];rfl))]
     exact g1
theorem parF_opens {l r:List Tok} {a:Frm} (h:parF l=.ok a r):opens r+opensK (tkF a)<=opens l:=(op_all _).form _ _ _ h

def dep1 (x:Bs):Int:=if x=[40] then 1 else if x=[41] then -1 else 0
def depK:List KT->Int
 | []=>0
 | x :: r=>dep1 x.2+depK r
theorem depK_app:∀ a b:List KT,depK (a++b)=depK a+depK b
 | [],b=>by simp [depK]
 | x :: r,b=>by rw [List.cons_append,depK,depK,depK_app r b];omega
def Bal (k:List KT):Prop:=depK k=0/\∀ n,0<=depK (k.take n)
theorem Bal.nil:Bal []:=⟨rfl,fun n=>by simp [depK]⟩
theorem Bal.app {a b:List KT} (ha:Bal a) (hb:Bal b):Bal (a++b):=by
 refine ⟨by rw [depK_app,ha.1,hb.1];rfl,fun n=>?_⟩
 rw [List.take_append,depK_app]
 have h1:=ha.2 n
 have h2:=hb.2 (n - a.length)
 omega
theorem Bal.one {x:KT} (h:dep1 x.2=0):Bal [x]:=by
 refine ⟨by rw [depK,depK,h];rfl,fun n=>?_⟩
 cases n with
 | zero=>exact Int.le_refl _
 | succ n=>rw [List.take_succ_cons,List.take_nil,depK,depK,h];decide
theorem Bal.cons {x:KT} {k:List KT} (h:dep1 x.2=0) (hk:Bal k):Bal (x :: k):=(Bal.one h).app hk
theorem Bal.br {k:List KT} (h:Bal k):Bal (tkBr k):=by
 unfold tkBr
 have e1:dep1 [40]=1:=by decide
 have e2:dep1 [41] = -1:=by decide
 refine ⟨by rw [depK,depK_app,depK,depK,h.1];show dep1 [40]+(0+(dep1 [41]+0))=0;rw [e1,e2];rfl,fun n=>?_⟩
 cases n with
 | zero=>exact Int.le_refl _
 | succ n =>
  rw [List.take_succ_cons,depK,List.take_append,depK_app]
  show 0<=dep1 [40]+_
  rw [e1]
  have h1:=h.2 n
  have h2 : -1<=depK ([((3,[41]):KT)].take (n - k.length)):=by
   cases n - k.length with
   | zero=>decide
   | succ m=>rw [List.take_succ_cons,List.take_nil,depK,depK];show -1<=dep1 [41]+0;rw [e2];decide
  omega
theorem dep_word {s:Bs} (h:wordB s=true):dep1 s=0:=by
 unfold dep1
 rw [if_neg (by rintro rfl;revert h;decide),if_neg (by rintro rfl;revert h;decide)]
theorem dep_named {s:Bs} (h:frmNamed s=true):dep1 s=0:=by
 rw [frmNamed_iff,nameB] at h
 simp only [Bool.and_eq_true] at h
 exact dep_word h.1
theorem dep_dec {n:Int} (h0:0<=n) (h1:n<=1099511627776):dep1 (decI n)=0:=by
 have h:=dec_num h0 h1
 unfold dep1
 rw [if_neg (by intro e;rw [e] at h;revert h;decide),if_neg (by intro e;rw [e] at h;revert h;decide)]
theorem term_bal {t:Trm} (ht:termedF t=true):Bal (tkTerm t):=by
 unfold tkTerm
 unfold termedF at ht
 by_cases h1:t.kind=1
 ·rw [if_pos h1] at ht ⊢
  simp only [Bool.and_eq_true,numberB,decide_eq_true_eq] at ht
  exact .one (dep_dec ht.2.1 ht.2.2)
 rw [if_neg h1] at ht ⊢
 simp only [Bool.and_eq_true,decide_eq_true_eq] at ht
 by_cases h2:t.kind=2
 ·rw [if_pos h2];exact .one (dep_named ht.1.2)
 ·rw [if_neg h2]
  exact .cons (dep_word (kwTerm_word (by omega) ht.1.1.2)) (Bal.br (k:=[(1,t.name)]) (.one (dep_named ht.1.2)))
theorem bind_bal {b:Bnd} (hb:bndOk b=true):Bal (tkBind b):=by
 unfold bndOk at hb
 simp only [Bool.and_eq_true,decide_eq_true_eq] at hb
 exact .cons (dep_named hb.1.1) (.cons (by decide) (.one (dep_word (kwSort_word hb.1.2 hb.2))))
theorem more_bal:∀ bs:List Bnd,bs.all bndOk=true->Bal (tkMore bs)
 | [],_=>.nil
 | b :: r,h=>by
  simp only [List.all_cons,Bool.and_eq_true] at h
  rw [tkMore]
  exact .cons (by decide) ((bind_bal h.1).app (more_bal r h.2))
theorem in_bal {f:Frm} (h:Bal (tkF f)) (k:Nat):Bal (tkIn f k):=by
 unfold tkIn
 split
 ·exact h.br
 ·exact h
theorem op_dep {s:Bs} (hs:cmpL.contains s=true):dep1 s=0:=by
 have hm:s∈cmpL:=by simpa using hs
 simp only [cmpL,List.mem_cons,List.not_mem_nil,or_false] at hm
 rcases hm with rfl | rfl | rfl | rfl | rfl | rfl <;> decide
theorem tk_bal:∀ f,wf f->Bal (tkF f):=by
 refine wf_ind ?const ?atom ?cmp ?not ?two ?quant
 case const =>
  rintro k (rfl | rfl)
  ·rw [tkF_nil];exact .one (by decide)
  ·rw [tkF_nil];exact .one (by decide)
 case atom =>
  intro k a b h1 h2 ha hb
  rw [show tkF (.mk k [] 0 [⟨2,a,0⟩,⟨2,b,0⟩] [] [])=(1,kwOf kwAtom k) :: tkBr [(1,a),(3,[44]),(1,b)] from by
   rw [tkF_two,if_neg (by omega),if_neg (by omega),if_neg (by omega),if_neg (by omega),if_neg (by omega),if_neg (by omega),if_neg (by omega),if_neg (by omega)];rfl]
  exact .cons (dep_word (kwAtom_word h1 h2)) (.br (.cons (dep_named ha) (.cons (by decide) (.one (dep_named hb)))))
 case cmp =>
  intro s t u hs ht hu
  rw [show tkF (.mk 9 s 0 [t,u] [] [])=tkTerm t++((3,s) :: tkTerm u) from by rw [tkF_two];rfl]
  exact (term_bal ht).app (.cons (op_dep hs) (term_bal hu))
 case not =>
  intro g _ H
  rw [show tkF (.mk 10 [] 0 [] [] [g])=(3,[33]) :: tkIn g 4 from by rw [tkF_nil];rfl]
  exact .cons (by decide) (in_bal H 4)
 case two =>
  intro k g h h1 h2 _ _ Hg Hh
  have hk:k=11∨k=12∨k=13:=by omega
  rcases hk with rfl | rfl | rfl
  ·rw [show tkF (.mk 11 [] 0 [] [] [g,h])=tkIn g 3++((3,[38]) :: tkIn h 4) from by rw [tkF_nil];rfl]
   exact (in_bal Hg 3).app (.cons (by decide) (in_bal Hh 4))
  ·rw [show tkF (.mk 12 [] 0 [] [] [g,h])=tkIn g 2++((3,[124]) :: tkIn h 3) from by rw [tkF_nil];rfl]
   exact (in_bal Hg 2).app (.cons (by decide) (in_bal Hh 3))
  ·rw [show tkF (.mk 13 [] 0 [] [] [g,h])=tkIn g 2++((3,[45,62]) :: tkIn h 1) from by rw [tkF_nil];rfl]
   exact (in_bal Hg 2).app (.cons (by decide) (in_bal Hh 1))
 case quant =>
  intro k n b bs g h1 h2 hn hm hz hl hb hbs _ H
  rw [show tkF (.mk k [] n [] (b :: bs) [g])=(1,kwOf kwAll k) :: ((if 16<=k then [(2,decI n)] else [])++((tkBind b++tkMore bs)++tkBr (tkF g))) from by
   rw [tkF_nil,if_neg (by omega),if_neg (by omega),if_neg (by omega),if_neg (by omega),if_neg (by omega),if_neg (by omega),if_neg (by omega),if_pos h1,tkBinds]
   rw [show tkAt [g] 0 0=tkF g from by rw [tkAt,if_neg (by omega)]]]
  refine .cons (dep_word (kwAll_word h1 h2)) (Bal.app ?_ (((bind_bal hb).app (more_bal bs hbs)).app H.br))
  split
  ·exact .one (dep_dec hn hm)
  ·exact .nil
end Go.Chalk
/- No pair of brackets of a canonical text is redundant. No program is named here. -/
namespace Go.Chalk
def matchGo:List Tok->Int->Nat->Int
 | [],_,_ => -1
 | t :: r,d,i=>if t.text=[40] then matchGo r (d+1) (i+1) else if t.text=[41] then (if d - 1=0 then (i:Int) else matchGo r (d - 1) (i+1)) else matchGo r d (i+1)
def dropIdx:List Tok->Nat->Nat->Nat->List Tok
 | [],_,_,_=>[]
 | t :: r,i,a,b=>if i ≠ a/\i ≠ b then t :: dropIdx r (i+1) a b else dropIdx r (i+1) a b
theorem matchGo_found:∀ (r:List Tok) (d:Int) (i:Nat),1<=d->d+depK (r.map kt)<=0->∃ r1 u r2,r=r1++u :: r2/\u.text=[41]/\matchGo r d i=((i+r1.length:Nat):Int)
 | [],d,i,h1,h2=>by simp [depK] at h2;omega
 | t :: r,d,i,h1,h2=>by
  rw [List.map_cons,depK] at h2
  have h2:d+(dep1 t.text+depK (r.map kt))<=0:=h2
  rw [matchGo]
  by_cases ho:t.text=[40]
  ·rw [if_pos ho]
   rw [ho,show dep1 [40]=1 from rfl] at h2
   obtain ⟨r1,u,r2,h3,h4,h5⟩:=matchGo_found r (d+1) (i+1) (by omega) (by omega)
   exact ⟨t :: r1,u,r2,by rw [h3];rfl,h4,by rw [h5,List.length_cons];congr 1;omega⟩
  rw [if_neg ho]
  by_cases hc:t.text=[41]
  ·rw [if_pos hc]
   rw [hc,show dep1 [41] = -1 from rfl] at h2
   by_cases hd:d - 1=0
   ·rw [if_pos hd];exact ⟨[],t,r,rfl,hc,rfl⟩
   ·rw [if_neg hd]
    obtain ⟨r1,u,r2,h3,h4,h5⟩:=matchGo_found r (d - 1) (i+1) (by omega) (by omega)
    exact ⟨t :: r1,u,r2,by rw [h3];rfl,h4,by rw [h5,List.length_cons];congr 1;omega⟩
  ·rw [if_neg hc]
   have:dep1 t.text=0:=by unfold dep1;rw [if_neg ho,if_neg hc]
   rw [this] at h2
   obtain ⟨r1,u,r2,h3,h4,h5⟩:=matchGo_found r d (i+1) (by omega) (by omega)
   exact ⟨t :: r1,u,r2,by rw [h3];rfl,h4,by rw [h5,List.length_cons];congr 1;omega⟩
theorem dropIdx_all:∀ (l:List Tok) (i a b:Nat),(a<i∨i+l.length<=a)->(b<i∨i+l.length<=b)->dropIdx l i a b=l
 | [],_,_,_,_,_=>rfl
 | t :: r,i,a,b,ha,hb=>by
  simp only [List.length_cons] at ha hb
  rw [dropIdx,if_pos (by omega),dropIdx_all r (i+1) a b (by omega) (by omega)]
theorem dropIdx_app:∀ (l m:List Tok) (i a b:Nat),dropIdx (l++m) i a b=dropIdx l i a b++dropIdx m (i+l.length) a b
 | [],m,i,a,b=>rfl
 | t :: r,m,i,a,b=>by
  rw [List.cons_append,dropIdx,dropIdx,dropIdx_app r m (i+1) a b,List.length_cons,show i+1+r.length=i+(r.length+1) from by omega]
  split
  ·rfl
  ·rfl
theorem dropIdx_two (p:List Tok) (t:Tok) (r1:List Tok) (u:Tok) (r2:List Tok):dropIdx (p++t :: (r1++u :: r2)) 0 p.length (p.length+1+r1.length)=p++(r1++r2):=by
 rw [dropIdx_app,dropIdx_all p _ _ _ (by omega) (by omega),dropIdx,if_neg (by omega),dropIdx_app,dropIdx_all r1 _ _ _ (by omega) (by omega),dropIdx,if_neg (by omega),dropIdx_all r2 _ _ _ (by omega) (by omega)]
theorem bal_split {k:List KT} (h:Bal k) {a b:List KT} (e:k=a++b):0<=depK a/\depK a+depK b=0:=by
 subst e
 have h1:=h.2 a.length
 rw [List.take_left' rfl] at h1
 have h2:=h.1
 rw [depK_app] at h2
 exact ⟨h1,h2⟩
theorem few_law {f:Frm} (hf:frmCheck f=0) (hl:(txtF f).length<=16384) {at_:Nat} {t:Tok} (ht:(tokensF (txtF f)).1[at_]?=some t) (ho:t.text=[40]) :
  (tokensF (txtF f)).2.2=0/\∃ e:Nat,at_<e/\e<(tokensF (txtF f)).1.length/\matchGo ((tokensF (txtF f)).1.drop at_) 0 at_=(e:Int) /\
   ((joinF (dropIdx (tokensF (txtF f)).1 0 at_ e)).2=2∨((joinF (dropIdx (tokensF (txtF f)).1 0 at_ e)).2=0 /\
    ((synForm (joinF (dropIdx (tokensF (txtF f)).1 0 at_ e)).1).2.2 ≠ 0∨(synForm (joinF (dropIdx (tokensF (txtF f)).1 0 at_ e)).1).1 ≠ some f))):=by
 obtain ⟨hw,_,_⟩:=frmCheck_wf hf
 obtain ⟨ts,h1,h2⟩:=lexS_all (txt_ok f hw).1
 have htk:tokensF (txtF f)=(ts++[⟨4,[],(txtF f).length⟩],0,0):=by rw [tokensF_small hl,h2]
 have hgood:=lexS_good (b:=txtF f) (at_:=0) (by rw [h2])
 rw [h2] at hgood
 obtain ⟨ts',n',h3,h4⟩:=hgood
 obtain ⟨h5,_⟩:=List.append_inj' h3 rfl
 subst h5
 rw [htk] at ht ⊢
 dsimp only at ht ⊢
 refine ⟨rfl,?_⟩
 have hlt:at_<ts.length:=by
  rcases Nat.lt_or_ge at_ ts.length with h | h
  ·exact h
  ·exfalso
   rw [List.getElem?_append_right h] at ht
   have:=List.mem_of_getElem? ht
   simp only [List.mem_singleton] at this
   rw [this] at ho;cases ho
 rw [List.getElem?_append_left hlt] at ht
 obtain ⟨p,r,hts,hp⟩:∃ p r,ts=p++t :: r/\p.length=at_:=by
  obtain ⟨_,hg⟩:=List.getElem?_eq_some_iff.1 ht
  refine ⟨ts.take at_,ts.drop (at_+1),?_,by rw [List.length_take];omega⟩
  rw [<- hg,<- List.drop_eq_getElem_cons hlt,List.take_append_drop]
 subst hp
 have hbal:=tk_bal f hw
 obtain ⟨b1,b2⟩:=bal_split (a:=p.map kt) (b:=(t :: r).map kt) hbal (by rw [<- List.map_append,<- hts,h1])
 rw [List.map_cons,depK] at b2
 have b2:depK (p.map kt)+(dep1 t.text+depK (r.map kt))=0:=b2
 rw [ho,show dep1 [40]=1 from rfl] at b2
 have e1:depK ((r++[(⟨4,[],(txtF f).length⟩:Tok)]).map kt)=depK (r.map kt):=by
  rw [List.map_append,depK_app]
  show depK (r.map kt)+depK [(4,[])]=_
  rw [show depK [((4:Int),([]:Bs))]=0 from rfl];omega
 obtain ⟨r1,u,r2,h6,h7,h8⟩:=matchGo_found (r++[⟨4,[],(txtF f).length⟩]) 1 (p.length+1) (Int.le_refl _) (by rw [e1];omega)
 have hu:∃ r3,r=r1++u :: r3/\r2=r3++[⟨4,[],(txtF f).length⟩]:=by
  have hne:r2 ≠ []:=by
   rintro rfl
   obtain ⟨_,h9⟩:=List.append_inj' h6 rfl
   simp only [List.cons.injEq,and_true] at h9
   rw [<- h9] at h7;cases h7
  obtain ⟨r3,e',rfl⟩:∃ r3 e',r2=r3++[e']:=⟨r2.dropLast,r2.getLast hne,(List.dropLast_concat_getLast hne).symm⟩
  rw [<- List.cons_append,<- List.append_assoc] at h6
  obtain ⟨h9,h10⟩:=List.append_inj' h6 rfl
  simp only [List.cons.injEq,and_true] at h10
  exact ⟨r3,h9,by rw [h10]⟩
 obtain ⟨r3,hr,hr2⟩:=hu
 have hdrop:(ts++[(⟨4,[],(txtF f).length⟩:Tok)]).drop p.length=t :: (r++[⟨4,[],(txtF f).length⟩]):=by
  rw [hts,List.append_assoc,List.drop_left' rfl];rfl
 refine ⟨p.length+1+r1.length,by omega,?_,?_,?_⟩
 ·rw [hts,hr];simp;omega
 ·rw [hdrop,matchGo,if_pos ho,show (0:Int)+1=1 from rfl,h8]
 have hless:dropIdx (ts++[(⟨4,[],(txtF f).length⟩:Tok)]) 0 p.length (p.length+1+r1.length)=(p++(r1++r3))++[⟨4,[],(txtF f).length⟩]:=by
  rw [hts,List.append_assoc,List.cons_append,h6,dropIdx_two,hr2];simp
 rw [hless]
 have hright:(p++(r1++r3)).all rightB=true:=by
  rw [List.all_eq_true]
  intro x hx
  refine (h4 x ?_).1
  rw [hts,hr]
  simp only [List.mem_append,List.mem_cons] at hx ⊢
  rcases hx with h | h | h
  ·exact .inl h
  ·exact .inr (.inr (.inl h))
  ·exact .inr (.inr (.inr (.inr h)))
 by_cases hbig:16384<(spaced ((p++(r1++r3)).map Tok.text)).length
 ·left
  unfold joinF
  simp only [List.getLast?_append,List.getLast?_singleton,Option.some_or,List.dropLast_concat,hright,and_self,if_true,hbig]
 right
 have hj:=joinF_ends (ts:=p++(r1++r3)) (n:=(txtF f).length) hright (by omega)
 rw [hj]
 refine ⟨rfl,?_⟩
 dsimp only
 obtain ⟨toks,n2,k1,k2⟩:=lex_spaced (p++(r1++r3)) hright 0 []
 rw [synForm_eq,tokensF_small (by omega),k1]
 dsimp only
 rw [if_neg (by simp),List.nil_append]
 cases hpf:parF (toks++[⟨4,[],n2⟩]) with
 | bad n=>left;simp
 | ok x l =>
  dsimp only
  by_cases he:isEnd l=false
  ·rw [if_pos he];left;simp
  rw [if_neg he]
  by_cases hc:frmCheck x ≠ 0
  ·rw [if_pos hc];left;exact hc
  rw [if_neg hc]
  right
  intro hxf
  simp only [Option.some.injEq] at hxf
  subst hxf
  have g:=parF_opens hpf
  have g1:opens (toks++[(⟨4,[],n2⟩:Tok)])=opens (p++(r1++r3)):=by
   rw [opens_app,opens_kt toks,k2,<- opens_kt];rfl
  have g2:opensK (tkF x)=opens (p++(r1++r3))+1:=by
   rw [<- h1,<- opens_kt,hts,hr]
   simp only [opens_app,opens_cons]
   rw [ho,h7,show o1 [40]=1 from rfl,show o1 [41]=0 from rfl]
   omega
  omega
end Go.Chalk
/- Where the parser fails: at a token, and the source before it is a viable prefix. No program is named here. -/
namespace Go.Chalk
def Valid (l:List Tok):Prop:=∃ ts e,l=ts++[e]/\(∀ t∈ts,t.kind ≠ 4)/\e.kind=4
theorem Valid.eat {l m:List Tok} (h:Valid l) (he:EatZ l m):Valid m:=by
 obtain ⟨ts,e,rfl,h1,h2⟩:=h
 obtain ⟨p,hp,hpl⟩:=he
 obtain ⟨l',rfl,rfl⟩:=ts_head h1 hpl hp h2
 exact ⟨l',e,rfl,fun t ht=>h1 t (by simp [ht]),h2⟩
theorem Valid.cons {l:List Tok} (h:Valid l):∃ t r,l=t :: r:=by
 obtain ⟨ts,e,rfl,_⟩:=h
 cases ts with
 | nil=>exact ⟨e,[],rfl⟩
 | cons t ts=>exact ⟨t,ts++[e],rfl⟩
def EndOk {α:Type} (P:List Tok->Rs α) (l:List Tok) (e:Tok):Prop:=P (l++[e])=.bad e.at_∨∃ a,P (l++[e])=.ok a [e]
def ViaAt {α:Type} (P:List Tok->Rs α) (l:List Tok):Prop:=∀ n,P l=.bad n->Valid l->∃ p t r,l=p++t :: r/\t.at_=n/\∀ q e,Kin p q->e.kind=4->EndOk P q e
def Calms (S:List Bs) (l:List Tok):Prop:=∀ s∈S,isT s l=false
theorem Calms.kin {S:List Bs} {p q r:List Tok} {e:Tok} (h:Calms S (p++r)) (hk:Kin p q) (he:e.kind=4):Calms S (q++[e]):=fun s hs=>isT_ext_false hk (h s hs) (isT_end s he [])
theorem via_bind' {α β:Type} {P:List Tok->Rs α} {f:α->List Tok->Rs β} {l:List Tok} (hP:ViaAt P l)
  (hX:∀ a p1 p2 t r,P (p1++(p2++t :: r))=.ok a (p2++t :: r)->∀ q1 q2 e,Kin p1 q1->Kin p2 q2->e.kind=4->l=p1++(p2++t :: r)->P (q1++(q2++[e]))=.ok a (q2++[e])) (he:∀ a m,P l=.ok a m->EatZ l m)
  (hf:∀ a m,P l=.ok a m->ViaAt (f a) m) (hE:∀ a e,e.kind=4->EndOk (f a) [] e):ViaAt (fun l=>(P l).bind f) l:=by
 intro n h hv
 have h:(P l).bind f=.bad n:=h
 cases hp:P l with
 | bad k =>
  rw [hp] at h
  cases h
  obtain ⟨p,t,r,h1,h2,h3⟩:=hP _ hp hv
  refine ⟨p,t,r,h1,h2,fun q e hk hek=>?_⟩
  rcases h3 q e hk hek with h4 | ⟨a,h4⟩
  ·left;show (P (q++[e])).bind f=_;rw [h4];rfl
  ·rcases hE a e hek with h5 | ⟨b,h5⟩
   ·left;show (P (q++[e])).bind f=_;rw [h4];exact h5
   ·right;exact ⟨b,by show (P (q++[e])).bind f=_;rw [h4];exact h5⟩
 | ok a m =>
  rw [hp] at h
  have hem:=he a m hp
  obtain ⟨p2,t,r,h1,h2,h3⟩:=hf a m hp n h (hv.eat hem)
  obtain ⟨p1,hp1,hl⟩:=hem
  refine ⟨p1++p2,t,r,by rw [hl,h1,List.append_assoc],h2,fun q e hk hek=>?_⟩
  obtain ⟨q1,q2,rfl,k1,k2⟩:=Kin.app hk
  rw [hl,h1] at hp
  have hx:=hX a p1 p2 t r hp q1 q2 e k1 k2 hek (by rw [hl,h1])
  have hred:(P (q1++q2++[e])).bind f=f a (q2++[e]):=by rw [List.append_assoc,hx];rfl
  rcases h3 q2 e k2 hek with h4 | ⟨b,h4⟩
  ·left;show (P (q1++q2++[e])).bind f=_;rw [hred,h4]
  ·right;exact ⟨b,by show (P (q1++q2++[e])).bind f=_;rw [hred,h4]⟩
theorem via_bind {α β:Type} {P:List Tok->Rs α} {f:α->List Tok->Rs β} (S:List Bs) {l:List Tok} (hP:ViaAt P l) (hX:ExtR P P (Calms S)) (hst:∀ a m,P l=.ok a m->Calms S m) (he:∀ a m,P l=.ok a m->EatZ l m)
  (hf:∀ a m,P l=.ok a m->ViaAt (f a) m) (hE:∀ a e,e.kind=4->EndOk (f a) [] e):ViaAt (fun l=>(P l).bind f) l :=
 via_bind' hP (fun a p1 p2 t r h q1 q2 e k1 k2 hek hl=>hX p1 _ a h q1 _ k1 ((hst a _ (by rw [hl];exact h)).kin k2 hek)) he hf hE
theorem via_head {α:Type} {P P1:List Tok->Rs α} {t:Tok} {r:List Tok} (h2:∀ t' r',kt t'=kt t->P (t' :: r')=P1 (t' :: r')) (h3:∀ e:Tok,e.kind=4->P [e]=.bad e.at_) (hv:ViaAt P1 (t :: r)):ViaAt P (t :: r):=by
 intro n h hval
 rw [h2 t r rfl] at h
 obtain ⟨p,u,s,h4,h5,h6⟩:=hv n h hval
 refine ⟨p,u,s,h4,h5,fun q e hk hek=>?_⟩
 cases p with
 | nil =>
  have:q=[]:=by simpa [Kin] using hk
  subst this
  exact .inl (h3 e hek)
 | cons y p =>
  obtain ⟨y',q',rfl,k1,k2⟩:=Kin.cons hk
  have hy:y=t:=by rw [List.cons_append,List.cons.injEq] at h4;exact h4.1.symm
  subst hy
  have:=h6 (y' :: q') e hk hek
  unfold EndOk at this ⊢
  rw [List.cons_append] at this ⊢
  rw [h2 y' _ k1];exact this
theorem via_one {α:Type} {P:List Tok->Rs α} (h1:∀ t r n,P (t :: r)=.bad n->n=t.at_) (h2:∀ e:Tok,e.kind=4->P [e]=.bad e.at_) (l:List Tok):ViaAt P l:=by
 intro n h hv
 obtain ⟨t,r,rfl⟩:=hv.cons
 refine ⟨[],t,r,rfl,(h1 t r n h).symm,fun q e hk hek=>?_⟩
 have:q=[]:=by simpa [Kin] using hk
 subst this
 exact .inl (h2 e hek)
theorem via_ret {α:Type} (a:α) (l:List Tok):ViaAt (fun l=>.ok a l) l:=fun n h=>by cases h
theorem via_tail {α:Type} {P:List Tok->Rs α} {t:Tok} {r:List Tok} (hv:t.kind ≠ 4) (h:ViaAt P r):∀ n,P r=.bad n->Valid (t :: r)->∃ p u s,t :: r=p++u :: s/\u.at_=n/\p ≠ []/\∀ q e,Kin p q->e.kind=4->EndOk (fun l=>P l.tail) q e:=by
 intro n hn hval
 obtain ⟨p,u,s,h1,h2,h3⟩:=h n hn (hval.eat ⟨[t],by simpa using hv,rfl⟩)
 refine ⟨t :: p,u,s,by rw [h1];rfl,h2,by simp,fun q e hk hek=>?_⟩
 obtain ⟨t',q',rfl,k1,k2⟩:=Kin.cons hk
 exact h3 q' e k2 hek
theorem want_at {s:Bs} {t:Tok} {r:List Tok} {n:Nat} (h:pWant s (t :: r)=.bad n):n=t.at_:=by
 unfold pWant at h
 split at h
 ·cases h
 ·cases h;rfl
theorem want_end (s:Bs) (e:Tok) (he:e.kind=4):pWant s [e]=.bad e.at_:=by rw [pWant,if_neg (by rw [isT_end s he];simp)];rfl
theorem via_want (s:Bs) (l:List Tok):ViaAt (pWant s) l:=via_one (fun _ _ _ h=>want_at h) (want_end s) l
theorem name_end (e:Tok) (he:e.kind=4):pName [e]=.bad e.at_:=by rw [pName,if_neg (by rw [he];simp)]
theorem via_name (l:List Tok):ViaAt pName l:=via_one (fun t r n h=>by
 rw [pName] at h
 split at h
 ·cases h
 ·cases h;rfl) name_end l
theorem number_end (x y:Int) (e:Tok) (he:e.kind=4):pNumber x y [e]=.bad e.at_:=by rw [pNumber,if_neg (by rw [he];simp)]
theorem via_number (x y:Int) (l:List Tok):ViaAt (pNumber x y) l:=via_one (fun t r n h=>by
 rw [pNumber] at h
 split at h
 ·cases h
 ·cases h;rfl) (number_end x y) l
theorem kwT_end (w:List (Bs×Int)) {e:Tok} (he:e.kind=4) (l:List Tok):kwT w (e :: l)=none:=by rw [kwT,if_neg (by omega)]
theorem opT_end {e:Tok} (he:e.kind=4) (l:List Tok):opT (e :: l)=none:=by rw [opT,if_neg (by omega)]
theorem via_kw (w:List (Bs×Int)) (l:List Tok):ViaAt (pOne w) l:=via_one (fun t r n h=>by
 unfold pOne at h
 cases ho:kwT w (t :: r) with
 | none=>rw [ho] at h;cases h;rfl
 | some k=>rw [ho] at h;cases h) (fun e he=>by rw [pOne,kwT_end w he];rfl) l
theorem via_op (l:List Tok):ViaAt pOp l:=via_one (fun t r n h=>by
 unfold pOp at h
 cases ho:opT (t :: r) with
 | none=>rw [ho] at h;cases h;rfl
 | some k=>rw [ho] at h;cases h) (fun e he=>by rw [pOp,opT_end he];rfl) l
theorem via_then {α β:Type} {P:List Tok->Rs α} {f:α->List Tok->Rs β} (h1:One P) (h2:∀ l,ViaAt P l) (hf:∀ a m,ViaAt (f a) m) (hE:∀ a e,e.kind=4->EndOk (f a) [] e) (l:List Tok):ViaAt (fun l=>(P l).bind f) l :=
 via_bind [] (h2 l) (fun p r a h q r' hk _=>h1.ext p r a h q r' hk trivial) (fun _ _ _ _ h=>absurd h (by simp)) (fun _ _ h=>h1.eat h) (fun a m _=>hf a m) hE
theorem endOk_ret {α:Type} (a:α) (e:Tok):EndOk (fun l=>.ok a l) [] e:=.inr ⟨a,rfl⟩
theorem endOk_bad {α β:Type} {P:List Tok->Rs α} {f:α->List Tok->Rs β} {e:Tok} (h:P [e]=.bad e.at_):EndOk (fun l=>(P l).bind f) [] e:=.inl (by show (P [e]).bind f=_;rw [h];rfl)
theorem via_pBind (l:List Tok):ViaAt pBind l:=by
 rw [pBind_eq]
 refine via_then name_one via_name (fun s m=>?_) (fun s e he=>endOk_bad (want_end _ e he)) l
 refine via_then (want_one _) (via_want _) (fun _ m=>?_) (fun _ e he=>endOk_bad (by rw [pOne,kwT_end _ he];rfl)) m
 exact via_then (one_one _) (via_kw _) (fun _ _=>via_ret _ _) (fun _ e _=>endOk_ret _ e) m
theorem pBind_end (e:Tok) (he:e.kind=4):pBind [e]=.bad e.at_:=by unfold pBind;rw [name_end e he];rfl
theorem via_pAtom (k:Int) (l:List Tok):ViaAt (pAtom k) l:=by
 unfold pAtom
 refine via_then (want_one _) (via_want _) (fun _ m=>?_) (fun _ e he=>endOk_bad (name_end e he)) l
 refine via_then name_one via_name (fun _ m=>?_) (fun _ e he=>endOk_bad (want_end _ e he)) m
 refine via_then (want_one _) (via_want _) (fun _ m=>?_) (fun _ e he=>endOk_bad (name_end e he)) m
 refine via_then name_one via_name (fun _ m=>?_) (fun _ e he=>endOk_bad (want_end _ e he)) m
 exact via_then (want_one _) (via_want _) (fun _ _=>via_ret _ _) (fun _ e _=>endOk_ret _ e) m
theorem pAtom_end (k:Int) (e:Tok) (he:e.kind=4):pAtom k [e]=.bad e.at_:=by unfold pAtom;rw [want_end _ e he];rfl
theorem pTerm_end (e:Tok) (he:e.kind=4):pTerm [e]=.bad e.at_:=by
 unfold pTerm
 dsimp only
 rw [if_neg (by omega),kwT_end _ he]
 dsimp only
 rw [name_end e he];rfl
theorem via_pTerm (l:List Tok):ViaAt pTerm l:=by
 intro n h hv
 obtain ⟨t,r,rfl⟩:=hv.cons
 revert n
 suffices hs:ViaAt pTerm (t :: r) from fun n h=>hs n h hv
 by_cases h2:t.kind=2
 ·refine via_head (P1:=fun l=>(pNumber 0 1099511627776 l).bind fun n l=>.ok ⟨1,[],n⟩ l) (fun t' r' hk=>?_) pTerm_end (via_then (number_one _ _) (via_number _ _) (fun _ _=>via_ret _ _) (fun _ e _=>endOk_ret _ e) _)
  simp only [kt,Prod.mk.injEq] at hk
  unfold pTerm
  dsimp only
  rw [if_pos (by omega)]
 ·cases ho:kwT kwTerm (t :: r) with
  | none =>
   refine via_head (P1:=fun l=>(pName l).bind fun s l=>.ok ⟨2,s,0⟩ l) (fun t' r' hk=>?_) pTerm_end (via_then name_one via_name (fun _ _=>via_ret _ _) (fun _ e _=>endOk_ret _ e) _)
   have ho':kwT kwTerm (t' :: r')=none:=by rw [kwT_kin hk (l:=r)];exact ho
   simp only [kt,Prod.mk.injEq] at hk
   unfold pTerm
   dsimp only
   rw [if_neg (by omega),ho']
  | some k =>
   refine via_head (P1:=fun l=>(pOne kwTerm l).bind fun k l=>(pWant [40] l).bind fun _ l=>(pName l).bind fun s l=>(pWant [41] l).bind fun _ l=>.ok ⟨k,s,0⟩ l) (fun t' r' hk=>?_) pTerm_end ?_
   ·have ho':kwT kwTerm (t' :: r')=some k:=by rw [kwT_kin hk (l:=r)];exact ho
    simp only [kt,Prod.mk.injEq] at hk
    unfold pTerm pOne
    dsimp only
    rw [if_neg (by omega),ho'];rfl
   ·refine via_then (one_one _) (via_kw _) (fun k m=>?_) (fun _ e he=>endOk_bad (want_end _ e he)) _
    refine via_then (want_one _) (via_want _) (fun _ m=>?_) (fun _ e he=>endOk_bad (name_end e he)) m
    refine via_then name_one via_name (fun _ m=>?_) (fun _ e he=>endOk_bad (want_end _ e he)) m
    exact via_then (want_one _) (via_want _) (fun _ _=>via_ret _ _) (fun _ e _=>endOk_ret _ e) m
theorem via_nol {α β:Type} {P:List Tok->Rs α} {f:α->List Tok->Rs β} (hX:ExtR P P (fun _=>True)) (he:∀ l a m,P l=.ok a m->EatZ l m) (h2:∀ l,ViaAt P l) (hf:∀ a m,ViaAt (f a) m) (hE:∀ a e,e.kind=4->EndOk (f a) [] e) (l:List Tok):ViaAt (fun l=>(P l).bind f) l :=
 via_bind [] (h2 l) (fun p r a h q r' hk _=>hX p r a h q r' hk trivial) (fun _ _ _ _ h=>absurd h (by simp)) (fun a m h=>he l a m h) (fun a m _=>hf a m) hE
theorem via_pCmp (l:List Tok):ViaAt pCmp l:=by
 rw [pCmp_eq]
 refine via_nol pTerm_ext (fun _ _ _ h=>(pTerm_eat h).z) via_pTerm (fun _ m=>?_) (fun _ e he=>endOk_bad (by rw [pOp,opT_end he];rfl)) l
 refine via_then op_one via_op (fun _ m=>?_) (fun _ e he=>endOk_bad (pTerm_end e he)) m
 exact via_nol pTerm_ext (fun _ _ _ h=>(pTerm_eat h).z) via_pTerm (fun _ _=>via_ret _ _) (fun _ e _=>endOk_ret _ e) m
theorem pCmp_end (e:Tok) (he:e.kind=4):pCmp [e]=.bad e.at_:=by unfold pCmp;rw [pTerm_end e he];rfl
theorem via_sign {α:Type} {A:List Tok->Rs α} {s:Bs} {a:α} {l:List Tok} (h:isT s l=true->ViaAt A l.tail):ViaAt (fun l=>if isT s l then A l.tail else .ok a l) l:=by
 intro n hn hv
 obtain ⟨t,r,rfl⟩:=hv.cons
 have hn:(if isT s (t :: r) then A r else .ok a (t :: r))=.bad n:=hn
 split at hn
 ·rename_i hs
  obtain ⟨p,u,m,h1,h2,h3,h4⟩:=via_tail (isT_kind hs) (h hs) n hn hv
  refine ⟨p,u,m,h1,h2,fun q e hk hek=>?_⟩
  cases p with
  | nil=>exact absurd rfl h3
  | cons y p =>
   have hy:y=t:=by rw [List.cons_append,List.cons.injEq] at h1;exact h1.1.symm
   subst hy
   have h5:=h4 q e hk hek
   obtain ⟨y',q',rfl,k1,k2⟩:=Kin.cons hk
   have hs':isT s (y' :: (q'++[e]))=true:=by rw [isT_kin k1 (l:=r)];exact hs
   unfold EndOk at h5 ⊢
   rw [List.cons_append] at h5 ⊢
   dsimp only at h5 ⊢
   rw [if_pos hs'];exact h5
 ·cases hn
theorem endOk_sign {α:Type} {A:List Tok->Rs α} {s:Bs} {a:α} {e:Tok} (he:e.kind=4):EndOk (fun l=>if isT s l then A l.tail else .ok a l) [] e:=.inr ⟨a,by
 show (if isT s [e] then _ else _)=_
 rw [if_neg (by rw [isT_end s he];simp)];rfl⟩
theorem pBinds_end (n:Nat) (e:Tok) (he:e.kind=4):pBinds (n+1) [e]=.bad e.at_:=by rw [pBinds,pBind_end e he];rfl
theorem via_pBinds:∀ (n:Nat) (l:List Tok),ViaAt (pBinds (n+1)) l
 | 0,l=>by
  have:pBinds (0+1)=fun l=>(pBind l).bind fun b l=>.ok [b] l:=by
   funext l
   rw [pBinds]
   congr 1
  rw [this]
  exact via_nol bind_ext (fun _ _ _ h=>(pBind_eat h).z) via_pBind (fun _ _=>via_ret _ _) (fun _ e _=>endOk_ret _ e) l
 | n+1,l=>by
  have:pBinds (n+1+1)=fun l=>(pBind l).bind fun b l=>if isT [44] l then ((pBinds (n+1) l.tail).bind fun r l=>.ok (b :: r) l) else .ok [b] l:=by
   funext l
   rw [pBinds]
   congr 1;funext b l
   cases h:isT [44] l with
   | true=>rw [if_neg (by simp),if_pos rfl]
   | false=>rw [if_pos (.inr rfl),if_neg (by simp)]
  rw [this]
  refine via_nol bind_ext (fun _ _ _ h=>(pBind_eat h).z) via_pBind (fun b m=>?_) (fun b e he=>endOk_sign (A:=fun l=>(pBinds (n+1) l).bind fun r l=>.ok (b :: r) l) he) l
  refine via_sign (A:=fun l=>(pBinds (n+1) l).bind fun r l=>.ok (b :: r) l) (fun _=>?_)
  refine via_bind' (via_pBinds n _) (fun a p1 p2 t r h q1 q2 e k1 k2 hek _=>pBinds_ext' n p1 _ a h q1 _ k1 ?_) (fun a k h=>(pBinds_eat n _ _ _ h).z) (fun _ _ _=>via_ret _ _) (fun _ e _=>endOk_ret _ e)
  cases p2 with
  | nil =>
   have:q2=[]:=by simpa [Kin] using k2
   subst this
   exact .inl (isT_end _ hek [])
  | cons y p2 =>
   obtain ⟨y',q3,rfl,k3,_⟩:=Kin.cons k2
   rw [List.cons_append,List.cons_append,isT_kin k3 (l:=p2++t :: r)]
   cases isT [44] (y :: (p2++t :: r)) with
   | true=>exact .inr rfl
   | false=>exact .inl rfl
theorem parUn_end (e:Tok) (he:e.kind=4):parUn [e]=.bad e.at_:=by
 rw [parUn_eq,if_neg (by rw [isT_end _ he];simp),if_neg (by rw [isT_end _ he];simp),if_neg (by rw [isT_end _ he];simp),if_neg (by rw [isT_end _ he];simp),kwT_end _ he,kwT_end _ he]
 exact pCmp_end e he
theorem parAnd_end (e:Tok) (he:e.kind=4):parAnd [e]=.bad e.at_:=by rw [parAnd_eq,parUn_end e he];rfl
theorem parOr_end (e:Tok) (he:e.kind=4):parOr [e]=.bad e.at_:=by rw [parOr_eq,parAnd_end e he];rfl
theorem parF_endB (e:Tok) (he:e.kind=4):parF [e]=.bad e.at_:=by rw [parF_eq,parOr_end e he];rfl
theorem parBrk_end (e:Tok) (he:e.kind=4):parBrk [e]=.bad e.at_:=by rw [parBrk_eq,want_end _ e he];rfl
theorem ands_end (f:Frm) (e:Tok) (he:e.kind=4):EndOk (parAnds f) [] e:=.inr ⟨f,by rw [List.nil_append,parAnds_eq,if_neg (by rw [isT_end _ he];simp)]⟩
theorem ors_end (f:Frm) (e:Tok) (he:e.kind=4):EndOk (parOrs f) [] e:=.inr ⟨f,by rw [List.nil_append,parOrs_eq,if_neg (by rw [isT_end _ he];simp)]⟩
theorem parUn_ext:ExtR parUn parUn (fun _=>True):=fun p r a h q r' hk hK=>(ext_all _).un p r a h q r' hk hK
theorem parBrk_ext:ExtR parBrk parBrk (fun _=>True):=fun p r a h q r' hk hK=>(ext_all _).brk p r a h q r' hk hK
theorem parAnd_ext:ExtR parAnd parAnd (fun l=>isT [38] l=false):=fun p r a h q r' hk hK=>(ext_all _).and p r a h q r' hk hK
theorem parOr_ext:ExtR parOr parOr (fun l=>isT [38] l=false/\isT [124] l=false):=fun p r a h q r' hk hK=>(ext_all _).or p r a h q r' hk hK
theorem parAnd_stop {l r:List Tok} {a:Frm} (h:parAnd l=.ok a r):isT [38] r=false:=(stop_all _).and _ _ _ h
theorem parOr_stop {l r:List Tok} {a:Frm} (h:parOr l=.ok a r):isT [38] r=false/\isT [124] r=false:=(stop_all _).or _ _ _ h
structure Via (N:Nat):Prop where
 form:∀ l,8*l.length+5<=N->ViaAt parF l
 or:∀ l,8*l.length+4<=N->ViaAt parOr l
 ors:∀ f l,8*l.length+1<=N->ViaAt (parOrs f) l
 and:∀ l,8*l.length+3<=N->ViaAt parAnd l
 ands:∀ f l,8*l.length+1<=N->ViaAt (parAnds f) l
 brk:∀ l,8*l.length+1<=N->ViaAt parBrk l
 un:∀ l,8*l.length+2<=N->ViaAt parUn l
theorem via_all:∀ N,Via N
 | 0=>⟨fun _ h=>by omega,fun _ h=>by omega,fun _ _ h=>by omega,fun _ h=>by omega,fun _ _ h=>by omega,fun _ h=>by omega,fun _ h=>by omega⟩
 | N+1=>by
  have I:=via_all N
  refine ⟨fun l h=>?_,fun l h=>?_,fun f l h=>?_,fun l h=>?_,fun f l h=>?_,fun l h=>?_,fun l h=>?_⟩
  ·rw [show parF=fun l=>(parOr l).bind fun f l=>if isT [45,62] l then (parF l.tail).bind fun g l=>.ok (node2 13 f g) l else .ok f l from funext parF_eq]
   refine via_bind [[38],[124]] (I.or l (by omega)) (fun p r a h q r' hk hc=>parOr_ext p r a h q r' hk ⟨hc _ (by simp),hc _ (by simp)⟩) (fun a m hm s hs=>?_) (fun a m hm=>(parOr_eat hm).z) (fun f m hm=>?_) (fun f e he=>endOk_sign (A:=fun l=>(parF l).bind fun g l=>.ok (node2 13 f g) l) he)
   ·have:=parOr_stop hm
    simp only [List.mem_cons,List.not_mem_nil,or_false] at hs
    rcases hs with rfl | rfl
    ·exact this.1
    ·exact this.2
   ·refine via_sign (A:=fun l=>(parF l).bind fun g l=>.ok (node2 13 f g) l) (fun hs=>?_)
    have h1:=(parOr_eat hm).len
    have h2:=(isT_eat hs).len
    exact via_bind [[38],[124],[45,62]] (I.form _ (by omega)) (fun p r a h q r' hk hc=>parF_ext p r a h q r' hk ⟨hc _ (by simp),hc _ (by simp),hc _ (by simp)⟩) (fun a m hm s hs=>by
     have:=parF_stop hm
     simp only [List.mem_cons,List.not_mem_nil,or_false] at hs
     rcases hs with rfl | rfl | rfl
     ·exact this.1
     ·exact this.2.1
     ·exact this.2.2) (fun a m hm=>(parF_eat hm).z) (fun _ _ _=>via_ret _ _) (fun _ e _=>endOk_ret _ e)
  ·rw [show parOr=fun l=>(parAnd l).bind fun f l=>parOrs f l from funext parOr_eq]
   refine via_bind [[38]] (I.and l (by omega)) (fun p r a h q r' hk hc=>parAnd_ext p r a h q r' hk (hc _ (by simp))) (fun a m hm s hs=>?_) (fun a m hm=>(parAnd_eat hm).z) (fun f m hm=>?_) (fun f e he=>ors_end f e he)
   ·simp only [List.mem_cons,List.not_mem_nil,or_false] at hs
    subst hs
    exact parAnd_stop hm
   ·have h1:=(parAnd_eat hm).len
    exact I.ors f m (by omega)
  ·rw [show parOrs f=fun l=>if isT [124] l then (parAnd l.tail).bind fun g l=>parOrs (node2 12 f g) l else .ok f l from funext (parOrs_eq f)]
   refine via_sign (A:=fun l=>(parAnd l).bind fun g l=>parOrs (node2 12 f g) l) (fun hs=>?_)
   have h2:=(isT_eat hs).len
   refine via_bind [[38]] (I.and _ (by omega)) (fun p r a h q r' hk hc=>parAnd_ext p r a h q r' hk (hc _ (by simp))) (fun a m hm s hs=>?_) (fun a m hm=>(parAnd_eat hm).z) (fun g m hm=>?_) (fun g e he=>ors_end _ e he)
   ·simp only [List.mem_cons,List.not_mem_nil,or_false] at hs
    subst hs
    exact parAnd_stop hm
   ·have h1:=(parAnd_eat hm).len
    exact I.ors _ m (by omega)
  ·rw [show parAnd=fun l=>(parUn l).bind fun f l=>parAnds f l from funext parAnd_eq]
   refine via_bind [] (I.un l (by omega)) (fun p r a h q r' hk _=>parUn_ext p r a h q r' hk trivial) (fun _ _ _ _ h=>absurd h (by simp)) (fun a m hm=>(parUn_eat hm).z) (fun f m hm=>?_) (fun f e he=>ands_end f e he)
   have h1:=(parUn_eat hm).len
   exact I.ands f m (by omega)
  ·rw [show parAnds f=fun l=>if isT [38] l then (parUn l.tail).bind fun g l=>parAnds (node2 11 f g) l else .ok f l from funext (parAnds_eq f)]
   refine via_sign (A:=fun l=>(parUn l).bind fun g l=>parAnds (node2 11 f g) l) (fun hs=>?_)
   have h2:=(isT_eat hs).len
   refine via_bind [] (I.un _ (by omega)) (fun p r a h q r' hk _=>parUn_ext p r a h q r' hk trivial) (fun _ _ _ _ h=>absurd h (by simp)) (fun a m hm=>(parUn_eat hm).z) (fun g m hm=>?_) (fun g e he=>ands_end _ e he)
   have h1:=(parUn_eat hm).len
   exact I.ands _ m (by omega)
  ·rw [show parBrk=fun l=>(pWant [40] l).bind fun _ l=>(parF l).bind fun f l=>(pWant [41] l).bind fun _ l=>.ok f l from funext parBrk_eq]
   refine via_bind [] (via_want _ l) (fun p r a h q r' hk _=>(want_one _).ext p r a h q r' hk trivial) (fun _ _ _ _ h=>absurd h (by simp)) (fun a m hm=>(pWant_eat hm).z) (fun _ m hm=>?_) (fun _ e he=>endOk_bad (parF_endB e he))
   have h1:=(pWant_eat hm).len
   refine via_bind [[38],[124],[45,62]] (I.form m (by omega)) (fun p r a h q r' hk hc=>parF_ext p r a h q r' hk ⟨hc _ (by simp),hc _ (by simp),hc _ (by simp)⟩) (fun a m hm s hs=>?_) (fun a m hm=>(parF_eat hm).z) (fun f m _=>?_) (fun _ e he=>endOk_bad (want_end _ e he))
   ·have:=parF_stop hm
    simp only [List.mem_cons,List.not_mem_nil,or_false] at hs
    rcases hs with rfl | rfl | rfl
    ·exact this.1
    ·exact this.2.1
    ·exact this.2.2
   ·exact via_then (want_one _) (via_want _) (fun _ _=>via_ret _ _) (fun _ e _=>endOk_ret _ e) m
  ·intro n hn hv
   obtain ⟨t,r,rfl⟩:=hv.cons
   revert n
   suffices hs:ViaAt parUn (t :: r) from fun n h=>hs n h hv
   by_cases b1:isT [33] (t :: r)=true
   ·refine via_head (P1:=fun l=>(pWant [33] l).bind fun _ l=>(parUn l).bind fun f l=>.ok (.mk 10 [] 0 [] [] [f]) l) (fun t' r' hk=>?_) parUn_end ?_
    ·have hb:isT [33] (t' :: r')=true:=by rw [isT_kin hk (l:=r)];exact b1
     rw [parUn_eq,if_pos hb,pWant,if_pos hb];rfl
    ·refine via_bind [] (via_want _ _) (fun p r a h q r' hk _=>(want_one _).ext p r a h q r' hk trivial) (fun _ _ _ _ h=>absurd h (by simp)) (fun a m hm=>(pWant_eat hm).z) (fun _ m hm=>?_) (fun _ e he=>endOk_bad (parUn_end e he))
     have h1:=(pWant_eat hm).len
     exact via_bind [] (I.un m (by omega)) (fun p r a h q r' hk _=>parUn_ext p r a h q r' hk trivial) (fun _ _ _ _ h=>absurd h (by simp)) (fun a m hm=>(parUn_eat hm).z) (fun _ _ _=>via_ret _ _) (fun _ e _=>endOk_ret _ e)
   have n1:isT [33] (t :: r)=false:=by simpa using b1
   by_cases b2:isT [40] (t :: r)=true
   ·refine via_head (P1:=parBrk) (fun t' r' hk=>?_) parUn_end (I.brk _ (by omega))
    rw [parUn_eq,if_neg (by rw [isT_kin hk (l:=r),n1];simp),if_pos (by rw [isT_kin hk (l:=r)];exact b2)]
   have n2:isT [40] (t :: r)=false:=by simpa using b2
   by_cases b3:isT [116,114,117,101] (t :: r)=true
   ·intro n h
    rw [parUn_eq,if_neg (by rw [n1];simp),if_neg (by rw [n2];simp),if_pos b3] at h;cases h
   have n3:isT [116,114,117,101] (t :: r)=false:=by simpa using b3
   by_cases b4:isT [102,97,108,115,101] (t :: r)=true
   ·intro n h
    rw [parUn_eq,if_neg (by rw [n1];simp),if_neg (by rw [n2];simp),if_neg (by rw [n3];simp),if_pos b4] at h;cases h
   have n4:isT [102,97,108,115,101] (t :: r)=false:=by simpa using b4
   have red:∀ t' r',kt t'=kt t->parUn (t' :: r')=(match kwT kwAll (t :: r) with
     | some k=>parQuant k r'
     | none=>match kwT kwAtom (t :: r) with
      | some k=>pAtom k r'
      | none=>pCmp (t' :: r')):=fun t' r' hk=>by
    rw [parUn_eq,if_neg (by rw [isT_kin hk (l:=r),n1];simp),if_neg (by rw [isT_kin hk (l:=r),n2];simp),if_neg (by rw [isT_kin hk (l:=r),n3];simp),if_neg (by rw [isT_kin hk (l:=r),n4];simp),kwT_kin hk (l:=r),kwT_kin hk (l:=r)]
    rfl
   cases h1:kwT kwAll (t :: r) with
   | some k =>
    refine via_head (P1:=fun l=>(pOne kwAll l).bind fun k l=>(if 16<=k then pNumber 0 1099511627776 l else .ok 0 l).bind fun x l=>(pBinds 6 l).bind fun b l=>(parBrk l).bind fun f l=>.ok (.mk k [] x [] b [f]) l) (fun t' r' hk=>?_) parUn_end ?_
    ·rw [red t' r' hk,h1,pOne,kwT_kin hk (l:=r),h1];rfl
    ·have hq:∀ (k x:Int) (m:List Tok),8*m.length+1<=N->ViaAt (fun l=>(pBinds 6 l).bind fun b l=>(parBrk l).bind fun f l=>Rs.ok (Frm.mk k [] x [] b [f]) l) m:=fun k x m hm=>by
      refine via_bind' (via_pBinds 5 _) (fun a p1 p2 t r h q1 q2 e k1 k2 hek _=>pBinds_ext' 5 p1 _ a h q1 _ k1 ?_) (fun a k h=>(pBinds_eat 5 _ _ _ h).z) (fun b m2 hb=>?_) (fun _ e he=>endOk_bad (parBrk_end e he))
      ·cases p2 with
       | nil =>
        have:q2=[]:=by simpa [Kin] using k2
        subst this
        exact .inl (isT_end _ hek [])
       | cons y p2 =>
        obtain ⟨y',q3,rfl,k3,_⟩:=Kin.cons k2
        rw [List.cons_append,List.cons_append,isT_kin k3 (l:=p2++t :: r)]
        cases isT [44] (y :: (p2++t :: r)) with
        | true=>exact .inr rfl
        | false=>exact .inl rfl
      ·have h5:=(pBinds_eat 5 _ _ _ hb).len
       exact via_bind [] (I.brk m2 (by omega)) (fun p r a h q r' hk _=>parBrk_ext p r a h q r' hk trivial) (fun _ _ _ _ h=>absurd h (by simp)) (fun a m hm=>(parBrk_eat hm).z) (fun _ _ _=>via_ret _ _) (fun _ e _=>endOk_ret _ e)
     refine via_bind [] (via_kw _ _) (fun p r a h q r' hk _=>(one_one _).ext p r a h q r' hk trivial) (fun _ _ _ _ h=>absurd h (by simp)) (fun a m hm=>(one_one _).eat hm) (fun k m hm=>?_) (fun k e he=>?_)
     ·have h4:=((one_one _).eat hm).len
      by_cases h16:16<=k
      ·simp only [if_pos h16]
       refine via_bind [] (via_number _ _ _) (fun p r a h q r' hk _=>(number_one _ _).ext p r a h q r' hk trivial) (fun _ _ _ _ h=>absurd h (by simp)) (fun a m hm=>(pNumber_eat hm).z) (fun x m2 hm2=>?_) (fun _ e he=>endOk_bad (pBinds_end 5 e he))
       have h5:=(pNumber_eat hm2).len
       exact hq k x m2 (by simp only [List.length_cons] at h h4;omega)
      ·simp only [if_neg h16]
       exact hq k 0 m (by simp only [List.length_cons] at h h4;omega)
     ·by_cases h16:16<=k
      ·simp only [if_pos h16];exact endOk_bad (number_end _ _ e he)
      ·simp only [if_neg h16];exact endOk_bad (P:=fun l=>pBinds 6 l) (pBinds_end 5 e he)
   | none =>
    cases h2:kwT kwAtom (t :: r) with
    | some k =>
     refine via_head (P1:=fun l=>(pOne kwAtom l).bind fun k l=>pAtom k l) (fun t' r' hk=>?_) parUn_end (via_then (one_one _) (via_kw _) (fun k m=>via_pAtom k m) (fun k e he=>.inl (pAtom_end k e he)) _)
     rw [red t' r' hk,h1,h2,pOne,kwT_kin hk (l:=r),h2];rfl
    | none =>
     refine via_head (P1:=pCmp) (fun t' r' hk=>?_) parUn_end (via_pCmp _)
     rw [red t' r' hk,h1,h2]
theorem via_form (l:List Tok):ViaAt parF l:=(via_all _).form l (Nat.le_refl _)
end Go.Chalk
/- A source cut at a token; where a formula's syntax error lies. No program is named here. -/
namespace Go.Chalk
theorem takeWhile_take (p:UInt8->Bool):∀ (l:Bs) (d:Nat),(l.takeWhile p).length<=d->(l.take d).takeWhile p=l.takeWhile p
 | [],d,_=>by simp
 | c :: r,d,h=>by
  rw [List.takeWhile_cons] at h ⊢
  cases hc:p c with
  | false =>
   cases d with
   | zero=>rw [List.take_zero];rfl
   | succ d=>rw [List.take_succ_cons,List.takeWhile_cons,hc];rfl
  | true =>
   rw [hc] at h
   cases d with
   | zero=>simp at h
   | succ d =>
    rw [List.take_succ_cons,List.takeWhile_cons,hc]
    simp only [if_true,List.length_cons] at h ⊢
    rw [takeWhile_take p r d (by omega)]
theorem dropWhile_take (p:UInt8->Bool) (l:Bs) (d:Nat) (h:(l.takeWhile p).length<=d):(l.take d).dropWhile p=(l.dropWhile p).take (d - (l.takeWhile p).length):=by
 rw [<- drop_takeWhile p (l.take d),takeWhile_take p l d h,<- drop_takeWhile p l,List.drop_take]
theorem find_less {α:Type} {p q:α->Bool} {s:α}:∀ {L:List α},L.find? p=some s->q s=true->(∀ x∈L,q x=true->p x=true)->L.find? q=some s
 | [],h,_,_=>by cases h
 | x :: L,h,hs,hq=>by
  rw [List.find?_cons] at h ⊢
  cases hx:p x with
  | true =>
   rw [hx] at h
   simp only [Option.some.injEq] at h
   subst h;rw [hs]
  | false =>
   rw [hx] at h
   have hqx:q x=false:=by
    cases hb:q x with
    | false=>rfl
    | true=>rw [hq x (by simp) hb] at hx;cases hx
   rw [hqx]
   exact find_less h hs (fun y hy=>hq y (by simp [hy]))
theorem sign_take {l:Bs} {d:Nat} (h:(signB l).isEmpty=false) (hd:(signB l).length<=d):signB (l.take d)=signB l:=by
 unfold signB at h hd ⊢
 cases hf:signsL.find? (fun s=>s.isPrefixOf l) with
 | none=>rw [hf] at h;simp at h
 | some s =>
  rw [hf] at hd
  simp only [Option.getD_some] at hd
  have hp:=List.find?_some hf
  rw [List.isPrefixOf_iff_prefix] at hp
  have h2:signsL.find? (fun s=>s.isPrefixOf (l.take d))=some s:=by
   refine find_less hf ?_ (fun x _ hx=>?_)
   ·rw [List.isPrefixOf_iff_prefix]
    exact List.prefix_take_iff.2 ⟨hp,hd⟩
   ·rw [List.isPrefixOf_iff_prefix] at hx ⊢
    exact hx.trans (List.take_prefix _ _)
  rw [h2]
theorem next_take {c:UInt8} {r:Bs} {d:Nat} (h:(nextF (c :: r)).2.2=true) (hd:(nextF (c :: r)).2.1.length<=d):nextF ((c :: r).take d)=nextF (c :: r):=by
 have hp:=next_pos h
 obtain ⟨d,rfl⟩:∃ k,d=k+1:=⟨d - 1,by omega⟩
 have hd0:=hd
 rw [nextF] at h hd
 have e0:(c :: r).take (d+1)=c :: r.take d:=List.take_succ_cons
 by_cases hs:smallB c=true
 ·rw [if_pos hs] at hd
  have h1:=takeWhile_take innerB (c :: r) (d+1) hd
  rw [e0] at h1 ⊢
  rw [nextF,nextF,if_pos hs,if_pos hs,h1]
 rw [if_neg hs] at h hd
 by_cases hg:digitB c=true
 ·rw [if_pos hg] at hd
  have h1:=takeWhile_take digitB (c :: r) (d+1) hd
  rw [e0] at h1 ⊢
  rw [nextF,nextF,if_neg hs,if_neg hs,if_pos hg,if_pos hg,h1]
 ·rw [if_neg hg] at h hd
  have h1:=sign_take (l:=c :: r) (d:=d+1) (by simpa using h) hd
  rw [e0] at h1 ⊢
  rw [nextF,nextF,if_neg hs,if_neg hs,if_neg hg,if_neg hg,h1]
theorem lex_cut:∀ (n:Nat) (l:Bs) (at_:Nat) (ts1:List Tok) (t:Tok) (ts2:List Tok),l.length<=n->(lexS l at_ []).2.2=0->(lexS l at_ []).1=ts1++t :: ts2 ->
  at_<=t.at_/\t.at_<=at_+l.length/\lexS (l.take (t.at_ - at_)) at_ []=(ts1++[⟨4,[],t.at_⟩],0,0)/\(∀ x∈ts1,x.at_<t.at_)/\(∀ x∈ts2,t.at_<=x.at_)
 | _,[],at_,ts1,t,ts2,_,_,h=>by
  rw [lexS_end] at h
  cases ts1 with
  | nil =>
   simp only [List.nil_append,List.cons.injEq] at h
   obtain ⟨rfl,rfl⟩:=h
   refine ⟨Nat.le_refl _,Nat.le_refl _,?_,by simp,by simp⟩
   rw [List.take_nil];rfl
  | cons y ts1=>simp at h
 | 0,c :: r,_,_,_,_,h,_,_=>by simp at h
 | n+1,c :: r,at_,ts1,t,ts2,h,h0,h1=>by
  simp only [List.length_cons] at h
  by_cases hw:whiteB c=true
  ·rw [lexS_white hw] at h0 h1
   obtain ⟨g1,g2,g3,g4,g5⟩:=lex_cut n r (at_+1) ts1 t ts2 (by omega) h0 h1
   refine ⟨by omega,by simp only [List.length_cons];omega,?_,g4,g5⟩
   rw [show t.at_ - at_=(t.at_ - (at_+1))+1 from by omega,List.take_succ_cons,lexS_white hw,g3]
  have hw':whiteB c=false:=by simpa using hw
  by_cases hh:hashB c=true
  ·rw [lexS_hash hh] at h0 h1
   have hc:lineB c=false:=by
    simp only [hashB,beq_iff_eq] at hh
    simp [lineB,hh]
   have hl:((c :: r).dropWhile (fun x=>!lineB x)).length<=r.length:=by
    rw [List.dropWhile_cons,if_pos (by simp [hc])]
    exact (List.dropWhile_sublist _).length_le
   have hsum:((c :: r).takeWhile (fun x=>!lineB x)).length+((c :: r).dropWhile (fun x=>!lineB x)).length=r.length+1:=by
    rw [<- List.length_append,List.takeWhile_append_dropWhile];rfl
   obtain ⟨g1,g2,g3,g4,g5⟩:=lex_cut n ((c :: r).dropWhile (fun x=>!lineB x)) (at_+((c :: r).takeWhile (fun x=>!lineB x)).length) ts1 t ts2 (by omega) h0 h1
   refine ⟨by omega,by simp only [List.length_cons];omega,?_,g4,g5⟩
   have hk:((c :: r).takeWhile (fun x=>!lineB x)).length<=t.at_ - at_:=by omega
   have hpos:0<((c :: r).takeWhile (fun x=>!lineB x)).length:=by
    rw [List.takeWhile_cons,if_pos (by simp [hc])];simp
   have e1:=takeWhile_take (fun x=>!lineB x) (c :: r) (t.at_ - at_) hk
   have e2:=dropWhile_take (fun x=>!lineB x) (c :: r) (t.at_ - at_) hk
   obtain ⟨d,hd⟩:∃ d,t.at_ - at_=d+1:=⟨t.at_ - at_ - 1,by omega⟩
   rw [hd,List.take_succ_cons] at e1 e2 ⊢
   rw [lexS_hash hh,e1,e2,<- hd,show t.at_ - at_ - ((c :: r).takeWhile (fun x=>!lineB x)).length=t.at_ - (at_+((c :: r).takeWhile (fun x=>!lineB x)).length) from by omega,g3]
  have hh':hashB c=false:=by simpa using hh
  cases hn:(nextF (c :: r)).2.2 with
  | false=>rw [lexS_bad hw' hh' hn] at h0;cases h0
  | true =>
   have hp:=next_pos hn
   simp only [List.length_cons] at hp
   rw [lexS_tok hw' hh' hn,lexS_acc] at h0 h1
   by_cases hc:¬ (lexS ((c :: r).drop (nextF (c :: r)).2.1.length) (at_+(nextF (c :: r)).2.1.length) []).2.2=0
   ·rw [if_neg hc] at h0;cases h0
   have hc:=Decidable.not_not.1 hc
   rw [if_pos hc] at h1
   dsimp only at h1
   rw [List.nil_append,List.singleton_append] at h1
   have hlen:((c :: r).drop (nextF (c :: r)).2.1.length).length=r.length+1 - (nextF (c :: r)).2.1.length:=by rw [List.length_drop,List.length_cons]
   cases ts1 with
   | nil =>
    rw [List.nil_append,List.cons.injEq] at h1
    obtain ⟨rfl,h2⟩:=h1
    refine ⟨Nat.le_refl _,Nat.le_add_right _ _,?_,by simp,fun x hx=>?_⟩
    ·dsimp only
     rw [Nat.sub_self,List.take_zero];rfl
    ·rw [<- h2] at hx
     obtain ⟨u,v,huv⟩:=List.append_of_mem hx
     have g1:=(lex_cut n _ _ u x v (by omega) hc huv).1
     dsimp only
     omega
   | cons y ts1 =>
    rw [List.cons_append,List.cons.injEq] at h1
    obtain ⟨rfl,h2⟩:=h1
    obtain ⟨g1,g2,g3,g4,g5⟩:=lex_cut n _ _ ts1 t ts2 (by omega) hc h2
    refine ⟨by omega,by simp only [List.length_cons];omega,?_,fun x hx=>?_,g5⟩
    ·have hd:(nextF (c :: r)).2.1.length<=t.at_ - at_:=by omega
     have e1:=next_take hn hd
     have e2:((c :: r).take (t.at_ - at_)).drop (nextF (c :: r)).2.1.length=((c :: r).drop (nextF (c :: r)).2.1.length).take (t.at_ - (at_+(nextF (c :: r)).2.1.length)):=by
      rw [List.drop_take];congr 1;omega
     obtain ⟨d,hd'⟩:∃ d,t.at_ - at_=d+1:=⟨t.at_ - at_ - 1,by omega⟩
     rw [hd',List.take_succ_cons] at e1 e2 ⊢
     rw [lexS_tok hw' hh' (by rw [e1];exact hn),e1,e2,lexS_acc,g3]
     simp
    ·rcases List.mem_cons.1 hx with rfl | hx
     ·dsimp only;omega
     ·exact g4 x hx
theorem places_law (b:Bs) (hb:b.length<=2000) (h:(synForm b).2.2=70):∃ ts1 t ts2,(tokensF b).2.2=0/\(tokensF b).1=ts1++t :: ts2/\t.at_=(synForm b).2.1/\t.at_<=b.length/\(∀ x∈ts1,x.at_<t.at_)/\(∀ x∈ts2,t.at_<=x.at_) /\
  tokensF (b.take t.at_)=(ts1++[⟨4,[],t.at_⟩],0,0)/\((synForm (b.take t.at_)).2.2 ≠ 70∨(synForm (b.take t.at_)).2.1=t.at_):=by
 have hlt:∀ n,(b.take n).length<=16384:=fun n=>by rw [List.length_take];omega
 rw [synForm_eq,tokensF_small (by omega)] at h ⊢
 by_cases h0:¬ (lexS b 0 []).2.2=0
 ·rw [if_pos h0] at h
  dsimp only at h
  exfalso
  rcases goF_shape (b.length+1) b 0 [] (by omega) with ⟨h1,_⟩ | ⟨_,h1,_⟩
  ·exact h0 h1
  ·have:(lexS b 0 []).2.2=50:=h1
   omega
 have h0:=Decidable.not_not.1 h0
 rw [if_neg (show ¬ (lexS b 0 []).2.2 ≠ 0 from by simp [h0])] at h ⊢
 obtain ⟨ts,n0,h5,h6⟩:=lexS_good h0
 have hv:Valid (lexS b 0 []).1:=⟨ts,⟨4,[],n0⟩,h5,fun t ht=>(h6 t ht).2,rfl⟩
 have fin:∀ (p:List Tok) (t:Tok) (r:List Tok),(lexS b 0 []).1=p++t :: r->EndOk parF p ⟨4,[],t.at_⟩ ->
   t.at_<=b.length/\(∀ x∈p,x.at_<t.at_)/\(∀ x∈r,t.at_<=x.at_)/\tokensF (b.take t.at_)=(p++[⟨4,[],t.at_⟩],0,0)/\((synForm (b.take t.at_)).2.2 ≠ 70∨(synForm (b.take t.at_)).2.1=t.at_):=fun p t r hl hE=>by
  obtain ⟨_,g2,g3,g4,g5⟩:=lex_cut b.length b 0 p t r (Nat.le_refl _) h0 hl
  rw [Nat.sub_zero] at g3
  rw [Nat.zero_add] at g2
  have ht:tokensF (b.take t.at_)=(p++[⟨4,[],t.at_⟩],0,0):=by rw [tokensF_small (hlt _),g3]
  refine ⟨g2,g4,g5,ht,?_⟩
  rw [synForm_eq,ht]
  dsimp only
  rw [if_neg (by simp)]
  rcases hE with h1 | ⟨a,h1⟩
  ·right;rw [h1]
  ·left
   rw [h1]
   dsimp only
   rw [if_neg (show ¬ isEnd [(⟨4,[],t.at_⟩:Tok)]=false from by rw [isEnd];simp)]
   by_cases hc:frmCheck a=0
   ·rw [if_neg (show ¬ frmCheck a ≠ 0 from by simp [hc])];simp
   ·rw [if_pos hc]
    dsimp only
    unfold frmCheck
    split
    ·decide
    ·split <;> decide
 cases hp:parF (lexS b 0 []).1 with
 | bad n =>
  obtain ⟨p,t,r,h1,h2,h3⟩:=via_form _ n hp hv
  obtain ⟨g1,g2,g3,g4,g5⟩:=fin p t r h1 (h3 p ⟨4,[],t.at_⟩ rfl rfl)
  exact ⟨p,t,r,h0,h1,h2,g1,g2,g3,g4,g5⟩
 | ok f l =>
  rw [hp] at h
  dsimp only at h ⊢
  cases he:isEnd l with
  | true =>
   rw [he,if_neg (by simp)] at h
   exfalso
   by_cases hc:frmCheck f=0
   ·rw [if_neg (show ¬ frmCheck f ≠ 0 from by simp [hc])] at h;simp at h
   ·rw [if_pos hc] at h
    dsimp only at h
    unfold frmCheck at h
    split at h
    ·simp at h
    ·split at h <;> simp at h
  | false =>
   rw [if_pos rfl]
   have hem:=parF_eat hp
   obtain ⟨t,r,rfl⟩:=(hv.eat hem.z).cons
   obtain ⟨p,_,_,hpl⟩:=hem
   have hx:=parF_ext p (t :: r) f (by rw [<- hpl];exact hp) p [⟨4,[],t.at_⟩] rfl ⟨rfl,rfl,rfl⟩
   obtain ⟨g1,g2,g3,g4,g5⟩:=fin p t r hpl (.inr ⟨f,hx⟩)
   exact ⟨p,t,r,h0,hpl,rfl,g1,g2,g3,g4,g5⟩
end Go.Chalk
