/- Joined texts: YLexH, YLexR, YLexS, YLexT, YLexU, YLexV, YTok. -/
import Derived.Test.YtpmalchlecnjbaaGreatDoorV28
import Derived.Lib.SlBytesConst
import Derived.Test.YtpmalchlecnjbaaGreatDoorV02
set_option maxHeartbeats 2000000
set_option maxRecDepth 100000
set_option linter.unusedVariables false
set_option linter.unusedSimpArgs false
/- live: the chapter's examples. -/
namespace Go.Proofs.YtpmalchlecnjbaaGreatDoor
open Go.RowKit Go.Chalk
end Go.Proofs.YtpmalchlecnjbaaGreatDoor
/- The reference: letter, digit, inner, Word, Numeral, Signs, Sign. -/
namespace Go.Chalk
open Go.RowKit Go.Proofs.YtpmalchlecnjbaaGreatDoor
theorem toList_getElem (s:ByteArray) (k:Nat) (h:k<s.size):s.data.toList[k]'(by simpa using h)=s[k]:=rfl
theorem take_next (s:ByteArray) (k:Nat) (h:k<s.size):s.data.toList.take (k+1)=s.data.toList.take k++[s[k]]:=by
 rw [List.take_succ_eq_append_getElem (by simpa using h)];rfl
theorem size_list (s:ByteArray):s.data.toList.length=s.size:=by simp
theorem word_specY {s:ByteArray} (h:s.data.toList.all innerB=true):wordB s.data.toList=(decide ((1:Int)<=(s.size:Int))&&decide ((s.size:Int)<=64)&&(if h:0<s.size then smallB s[0] else false)):=by
 have hl:=size_list s
 by_cases h0:0<s.size
 ·have hd:s.data.toList=s[0] :: s.data.toList.drop 1:=by
   have:=List.drop_eq_getElem_cons (l:=s.data.toList) (i:=0) (by omega)
   rw [List.drop_zero] at this
   exact this
  rw [hd] at h hl ⊢
  rw [wordB,h,hl]
  simp only [h0,dite_true]
  have e1:decide ((1:Int)<=(s.size:Int))=true:=by simp;omega
  have e2:decide ((s.size:Int)<=64)=decide (s.size<=64):=by rw [Bool.eq_iff_iff];simp only [decide_eq_true_eq];omega
  rw [e1,e2]
  cases smallB s[0] <;> simp
 ·have:s.data.toList=[]:=List.length_eq_zero_iff.1 (by omega)
  rw [this]
  have e1:decide ((1:Int)<=(s.size:Int))=false:=by simp;omega
  rw [e1];rfl
theorem fold_ge:∀ (l:Bs) (a:Nat),a*10 ^ l.length<=l.foldl (fun n c=>10*n+(c.toNat - 48)) a
 | [],a=>by simp
 | c :: r,a=>by
  rw [List.foldl_cons,List.length_cons,Nat.pow_succ]
  refine Nat.le_trans ?_ (fold_ge r _)
  rw [Nat.mul_comm (10 ^ r.length) 10,<- Nat.mul_assoc,Nat.mul_comm a 10]
  exact Nat.mul_le_mul_right _ (by omega)
theorem val_long {c:UInt8} {r:Bs} (h:digitB c=true) (h0:c.toNat ≠ 48) (hl:13<=r.length):1099511627776<valD (c :: r):=by
 unfold valD
 rw [List.foldl_cons]
 simp only [digitB,Bool.and_eq_true,decide_eq_true_eq] at h
 have h1:=fold_ge r (10*0+(c.toNat - 48))
 have h2:(10:Nat) ^ 13<=10 ^ r.length:=Nat.pow_le_pow_right (by decide) hl
 have h3:1*10 ^ r.length<=(10*0+(c.toNat - 48))*10 ^ r.length:=Nat.mul_le_mul_right _ (by omega)
 have h4:(10:Nat) ^ 13=10000000000000:=by decide
 omega
theorem val_snoc (l:Bs) (c:UInt8):valD (l++[c])=10*valD l+(c.toNat - 48):=by unfold valD;rw [List.foldl_append];rfl
theorem val_bound:∀ (n:Nat) (l:Bs),l.length=n->l.all digitB=true->valD l<10 ^ n
 | 0,l,hn,_=>by rw [List.length_eq_zero_iff.1 hn];decide
 | n+1,l,hn,h=>by
  rcases List.eq_nil_or_concat l with rfl | ⟨m,c,rfl⟩
  ·simp at hn
  ·rw [List.concat_eq_append] at *
   rw [List.all_append,Bool.and_eq_true] at h
   have ih:=val_bound n m (by simpa using hn) h.1
   have hc:digitB c=true:=by simpa using h.2
   simp only [digitB,Bool.and_eq_true,decide_eq_true_eq] at hc
   rw [val_snoc,Nat.pow_succ];omega
theorem num_spec {l:Bs} (h:l.all digitB=true) (h1:1<=l.length) (h2:l.length<=13) (hz:l.length=1∨(l[0]'(by omega)).toNat ≠ 48):numB l=decide ((valD l:Int)<=1099511627776):=by
 match l,h,h1,h2,hz with
 | c :: r,h,_,_,hz =>
  rw [numB,h]
  have e:(r.isEmpty||c.toNat != 48)=true:=by
   rcases hz with hz | hz
   ·have:r=[]:=List.length_eq_zero_iff.1 (by simpa using hz)
    rw [this];rfl
   ·have:(c.toNat != 48)=true:=by simpa using hz
    rw [this];simp
  rw [e]
  rw [Bool.eq_iff_iff];simp only [Bool.true_and,decide_eq_true_eq];omega
theorem num_long {l:Bs} (h:13<l.length):numB l=false:=by
 match l,h with
 | c :: r,h =>
  rw [numB]
  cases hd:(c :: r).all digitB
  ·simp
  ·cases hz:(r.isEmpty||c.toNat != 48)
   ·simp
   ·have hr:r.isEmpty=false:=by cases r <;> simp at h ⊢
    rw [hr] at hz
    have hc:digitB c=true:=by
     rw [List.all_cons,Bool.and_eq_true] at hd;exact hd.1
    have:=val_long hc (by simpa using hz) (Nat.le_of_lt_succ h)
    simp;omega
theorem num_zero {l:Bs} (h:1<l.length) (hz:(l[0]'(by omega)).toNat=48):numB l=false:=by
 match l,h,hz with
 | c :: d :: r,_,hz =>
  have hz':c.toNat=48:=hz
  rw [numB];simp [hz']
theorem num_bad {l:Bs} (h:l.all digitB=false):numB l=false:=by
 match l,h with
 | [],h=>simp at h
 | c :: r,h=>rw [numB,h];simp
end Go.Chalk
namespace Go.Proofs.YtpmalchlecnjbaaGreatDoor
open Go.RowKit Go.Chalk
theorem letter_any (c:UInt8) (w:World):Calls Tryz.prog 132 #[.int .u8 (c.toNat:Int)] w fun e w'=>e=.returned (.bool (smallB c))/\w'=w:=by
 have e1:smallB c=(decide ((97:Int)<=(c.toNat:Int))&&decide ((c.toNat:Int)<=122)):=by
  unfold smallB;rw [Bool.eq_iff_iff];simp only [Bool.and_eq_true,decide_eq_true_eq];omega
 rw [e1]
 clear e1
 generalize (c.toNat:Int)=n
 cases h1:decide ((97:Int)<=n)
 ·go_enter Tryz.func132,Tryz.ntmps132
  go_wp2_with fail
  go_ret
  exact ⟨by simp,rfl⟩
 ·go_enter Tryz.func132,Tryz.ntmps132
  go_wp2_with fail
  go_ret
  exact ⟨by simp,rfl⟩
theorem digit_any (c:UInt8) (w:World):Calls Tryz.prog 135 #[.int .u8 (c.toNat:Int)] w fun e w'=>e=.returned (.bool (digitB c))/\w'=w:=by
 have e1:digitB c=(decide ((48:Int)<=(c.toNat:Int))&&decide ((c.toNat:Int)<=57)):=by
  unfold digitB;rw [Bool.eq_iff_iff];simp only [Bool.and_eq_true,decide_eq_true_eq];omega
 rw [e1]
 clear e1
 generalize (c.toNat:Int)=n
 cases h1:decide ((48:Int)<=n)
 ·go_enter Tryz.func135,Tryz.ntmps135
  go_wp2_with fail
  go_ret
  exact ⟨by simp,rfl⟩
 ·go_enter Tryz.func135,Tryz.ntmps135
  go_wp2_with fail
  go_ret
  exact ⟨by simp,rfl⟩
theorem inner_anyY (c:UInt8) (w:World):Calls Tryz.prog 133 #[.int .u8 (c.toNat:Int)] w fun e w'=>e=.returned (.bool (innerB c))/\w'=w:=by
 have e1:innerB c=(smallB c||digitB c||((c.toNat:Int)==95)):=by
  unfold innerB
  have:(c.toNat==95)=((c.toNat:Int)==95):=by rw [Bool.eq_iff_iff];simp only [beq_iff_eq];omega
  rw [this]
 rw [e1]
 have HL:=Lh (letter_any c w)
 have HD:=Lh (digit_any c w)
 clear e1
 generalize (c.toNat:Int)=n at *
 cases h1:smallB c
 ·rw [h1] at HL
  cases h2:digitB c
  ·rw [h2] at HD
   clear h1 h2
   go_enter Tryz.func133,Tryz.ntmps133
   go_wp2_with (first | (go_at_call 132;refine HL.out.mono ?_;rintro e w' ⟨rfl,rfl⟩) | (go_at_call 135;refine HD.out.mono ?_;rintro e w' ⟨rfl,rfl⟩))
   go_ret
   exact ⟨by simp,rfl⟩
  ·rw [h2] at HD
   clear h1 h2
   go_enter Tryz.func133,Tryz.ntmps133
   go_wp2_with (first | (go_at_call 132;refine HL.out.mono ?_;rintro e w' ⟨rfl,rfl⟩) | (go_at_call 135;refine HD.out.mono ?_;rintro e w' ⟨rfl,rfl⟩))
   go_ret
   exact ⟨by simp,rfl⟩
 ·rw [h1] at HL
  clear h1
  go_enter Tryz.func133,Tryz.ntmps133
  go_wp2_with (first | (go_at_call 132;refine HL.out.mono ?_;rintro e w' ⟨rfl,rfl⟩))
  go_ret
  exact ⟨by simp,rfl⟩

theorem wordR_any (s:ByteArray) (w:World) (hs:s.size<=281474976710656):Calls Tryz.prog 134 #[.string s] w fun e w'=>e=.returned (.bool (wordB s.data.toList))/\w'=w:=by
 have HFL:Hid (∀ k (h:k<s.size),innerB s[k]=false->wordB s.data.toList=false):=fun k h hi=>by
  cases hl:s.data.toList with
  | nil=>rfl
  | cons c r =>
   rw [wordB]
   have:(c :: r).all innerB=false:=List.all_eq_false.2 ⟨s[k],by rw [<- hl,<- toList_getElem s k h];exact List.getElem_mem _,by simp [hi]⟩
   rw [this];simp
 have HWS:=Lh (word_specY (s:=s))
 go_enter Tryz.func134,Tryz.ntmps134
 go_wp2_with fail
 go_loop [6,3] (fun i _=>∃ k:Nat,k<=s.size/\i=.int .i64 k/\Hid ((s.data.toList.take k).all innerB=true)) (fun i _=>s.size - (intOf i).toNat)
 case atStart=>exact ⟨0,Nat.zero_le _,rfl,rfl⟩
 case round =>
  obtain ⟨k,hk,rfl,HA⟩:=hrel
  by_cases hlt:k<s.size
  ·have HC:=Lh (inner_anyY s[k] w)
   have HT:Hid ((s.data.toList.take (k+1)).all innerB=innerB s[k]):=by
    show _=_
    rw [take_next s k hlt,List.all_append,HA.out];simp
   have HF2:=Lh (HFL.out k hlt)
   cases hi:innerB s[k]
   ·rw [hi] at HC HF2
    clear hi
    go_wp2_with fail
    refine HC.out.mono ?_
    rintro e w' ⟨rfl,rfl⟩
    go_wp2_with fail
    go_ret
    exact ⟨by rw [HF2.out (by first | rfl | trivial)];rfl,rfl⟩
   ·rw [hi] at HC HT
    clear hi HF2
    go_wp2_with fail
    refine HC.out.mono ?_
    rintro e w' ⟨rfl,rfl⟩
    go_wp2_with fail
    go_round
    case rel=>exact ⟨k+1,by omega,by go_num,HT.out⟩
    case measure=>simp [intOf];omega
  ·have hall:=HA.out
   rw [List.take_of_length_le (by rw [size_list];omega)] at hall
   have hws:=HWS.out hall
   obtain rfl:k=s.size:=by omega
   by_cases h0:0<s.size
   ·simp only [h0,dite_true] at hws
    have HL:=Lh (letter_any s[0] w)
    have e1:decide ((1:Int)<=(s.size:Int))=true:=by simp;omega
    rw [e1] at hws
    cases e2:decide ((s.size:Int)<=64)
    ·rw [e2] at hws
     have HW:=Lh hws
     clear hws hall HFL HWS
     go_wp2_with fail
     go_ret
     exact ⟨by rw [HW.out];simp,rfl⟩
    ·rw [e2] at hws
     have HW:=Lh hws
     clear hws hall HFL HWS
     go_wp2_with (go_at_call 132;refine HL.out.mono ?_;rintro e w' ⟨rfl,rfl⟩)
     go_ret
     exact ⟨by rw [HW.out];simp,rfl⟩
   ·have e1:decide ((1:Int)<=(s.size:Int))=false:=by simp;omega
    rw [e1] at hws
    have HW:=Lh hws
    clear hws hall HFL HWS
    go_wp2_with fail
    go_ret
    exact ⟨by rw [HW.out];simp,rfl⟩

theorem numR_any (s:ByteArray) (w:World) (hs:s.size<=281474976710656):Calls Tryz.prog 136 #[.string s] w fun e w'=>e=.returned (.bool (numB s.data.toList))/\w'=w:=by
 have hl:=size_list s
 by_cases h1:s.size<1
 ·have hf:numB s.data.toList=false:=by rw [List.length_eq_zero_iff.1 (by omega:s.data.toList.length=0)];rfl
  have e1:decide ((s.size:Int)<1)=true:=by simp;omega
  rw [hf]
  clear hf hl h1
  go_enter Tryz.func136,Tryz.ntmps136
  go_wp2_with fail
  go_ret
  exact ⟨rfl,rfl⟩
 ·have e1:decide ((s.size:Int)<1)=false:=by simp;omega
  by_cases h2:13<s.size
  ·have hf:numB s.data.toList=false:=num_long (by omega)
   have e2:decide ((13:Int)<(s.size:Int))=true:=by simp;omega
   rw [hf]
   clear hf hl h1 h2
   go_enter Tryz.func136,Tryz.ntmps136
   go_wp2_with fail
   go_ret
   exact ⟨rfl,rfl⟩
  ·have e2:decide ((13:Int)<(s.size:Int))=false:=by simp;omega
   have h0:0<s.size:=by omega
   by_cases h3:1<s.size/\s[0].toNat=48
   ·have hf:numB s.data.toList=false:=num_zero (by omega) h3.2
    have e3:decide ((1:Int)<(s.size:Int))=true:=by simp;omega
    have e4:((s[0].toNat:Int)==48)=true:=by simp;omega
    rw [hf]
    clear hf hl h1 h2 h3
    go_enter Tryz.func136,Tryz.ntmps136
    go_wp2_with fail
    go_ret
    exact ⟨rfl,rfl⟩
   ·have hz:s.data.toList.length=1∨(s.data.toList[0]'(by omega)).toNat ≠ 48:=by
     by_cases h4:1<s.size
     ·exact .inr (fun h5=>h3 ⟨h4,h5⟩)
     ·exact .inl (by omega)
    have HSP:=Lh (fun h=>num_spec (l:=s.data.toList) h (by omega) (by omega) hz)
    have HBD:Hid (∀ k (h:k<s.size),digitB s[k]=false->numB s.data.toList=false):=fun k h hi=>num_bad (List.all_eq_false.2 ⟨s[k],by rw [<- toList_getElem s k h];exact List.getElem_mem _,by simp [hi]⟩)
    have hguard:(decide ((1:Int)<(s.size:Int))=false)∨(decide ((1:Int)<(s.size:Int))=true/\((s[0].toNat:Int)==48)=false):=by
     by_cases h4:1<s.size
     ·exact .inr ⟨by simp;omega,by simp;intro h5;exact h3 ⟨h4,by omega⟩⟩
     ·exact .inl (by simp;omega)
    have hb13:s.size<=13:=by omega
    clear hz h1 h2 h3 hl
    have e0:(s.size:Int)<=13:=by omega
    rcases hguard with e3 | ⟨e3,e4⟩
    all_goals
     go_enter Tryz.func136,Tryz.ntmps136
     go_wp2_with fail
     go_loop [25,3,4] (fun i nv _=>∃ k:Nat,k<=s.size/\i=.int .i64 k/\nv=.int .i64 (valD (s.data.toList.take k):Int)/\Hid ((s.data.toList.take k).all digitB=true)) (fun i _ _=>s.size - (intOf i).toNat)
     case atStart=>exact ⟨0,Nat.zero_le _,rfl,rfl,rfl⟩
     case round =>
      obtain ⟨k,hk,rfl,rfl,HA⟩:=hrel
      by_cases hlt:k<s.size
      ·have HC:=Lh (digit_any s[k] w)
       have hvb:=val_bound k (s.data.toList.take k) (by rw [List.length_take,size_list];omega) HA.out
       have hpw:(10:Nat) ^ k<=10 ^ 12:=Nat.pow_le_pow_right (by decide) (by omega)
       have hpe:(10:Nat) ^ 12=1000000000000:=by decide
       have HT:Hid ((s.data.toList.take (k+1)).all digitB=digitB s[k]/\valD (s.data.toList.take (k+1))=10*valD (s.data.toList.take k)+(s[k].toNat - 48)):=by
        show _/\_
        rw [take_next s k hlt,List.all_append,HA.out,val_snoc];simp
       have HF2:=Lh (HBD.out k hlt)
       have hvb2:valD (s.data.toList.take k)<1000000000000:=by omega
       clear hvb hpw hpe
       generalize valD (s.data.toList.take k)=vk at *
       cases hi:digitB s[k]
       ·rw [hi] at HC HF2
        clear hi
        go_wp2_with fail
        refine HC.out.mono ?_
        rintro e w' ⟨rfl,rfl⟩
        go_wp2_with fail
        go_ret
        exact ⟨by rw [HF2.out (by first | rfl | trivial)];rfl,rfl⟩
       ·rw [hi] at HC HT
        simp only [digitB,Bool.and_eq_true,decide_eq_true_eq] at hi
        have i1:(48:Int)<=(s[k].toNat:Int):=by omega
        have i2:(s[k].toNat:Int)<=57:=by omega
        have HE:Hid ((valD (s.data.toList.take (k+1)):Int)=10*(vk:Int)+((s[k].toNat:Int) - 48)):=by
         show _=_
         rw [HT.out.2];omega
        clear HF2 hi
        go_wp2_with fail
        refine HC.out.mono ?_
        rintro e w' ⟨rfl,rfl⟩
        go_wp2_with fail
        go_round
        case rel=>exact ⟨k+1,by omega,by go_num,by rw [HE.out],HT.out.1⟩
        case measure=>simp [intOf];omega
      ·have hall:=HA.out
       have htk:s.data.toList.take k=s.data.toList:=List.take_of_length_le (by rw [size_list];omega)
       rw [htk] at hall ⊢
       have HW:=Lh (HSP.out hall)
       clear hall htk HSP HBD
       go_wp2_with fail
       go_ret
       exact ⟨by rw [HW.out];rfl,rfl⟩
end Go.Proofs.YtpmalchlecnjbaaGreatDoor
/- The reference: Signs, Sign, may, pass. -/
namespace Go.Chalk
open Go.RowKit Go.Proofs.YtpmalchlecnjbaaGreatDoor
end Go.Chalk
namespace Go.Proofs.YtpmalchlecnjbaaGreatDoor
open Go.RowKit Go.Chalk
theorem signs_any (w:World):Calls Tryz.prog 137 #[] w fun e w'=>e=.returned (.slice (some ⟨w.heap.size,0,none⟩) 18 18)/\w'=w.alloc (.cells signVals.toArray 9):=by
 go_enter Tryz.func137,Tryz.ntmps137
 go_wp2_with fail
 go_ret
 exact ⟨rfl,rfl⟩
theorem signs_cells (w:World) (k:Nat) (hk:k<18):(w.alloc (.cells signVals.toArray 9)).cell? ⟨w.heap.size,k,none⟩=some (.string ⟨(signsL.getD k []).toArray⟩):=cH (heap_alloc_new _ _) (signVals_get k hk)

end Go.Proofs.YtpmalchlecnjbaaGreatDoor
/- The reference: pass. -/
namespace Go.Chalk
open Go.RowKit Go.Proofs.YtpmalchlecnjbaaGreatDoor
structure PassTo (l:Bs) (p p':Nat):Prop where
 le:p<=p'
 le':p'<=l.length
 same:∀ acc,lexS (l.drop p) p acc=lexS (l.drop p') p' acc
theorem PassTo.refl {l:Bs} {p:Nat} (h:p<=l.length):PassTo l p p:=⟨Nat.le_refl _,h,fun _=>rfl⟩
theorem PassTo.white {l:Bs} {p p':Nat} (h:PassTo l p p') (hlt:p'<l.length) (hw:whiteB l[p']=true):PassTo l p (p'+1) :=
 ⟨by have:=h.le;omega,hlt,fun acc=>by rw [h.same acc,List.drop_eq_getElem_cons hlt,lexS_white hw]⟩
def NoLine (l:Bs) (q k:Nat):Prop:=∀ i (h:i<l.length),q<=i->i<k->lineB l[i]=false
theorem takeWhile_upto:∀ (m:Bs) (n:Nat) (q:UInt8->Bool),n<=m.length->(∀ i (h:i<m.length),i<n->q m[i]=true)->(∀ h:n<m.length,q m[n]=false)->(m.takeWhile q).length=n
 | [],n,_,hn,_,_=>by simp at hn;simp [hn]
 | c :: r,0,q,_,_,h2=>by
  have:=h2 (by simp)
  simp only [List.getElem_cons_zero] at this
  rw [List.takeWhile_cons,this];rfl
 | c :: r,n+1,q,hn,h1,h2=>by
  have h0:=h1 0 (by simp) (by omega)
  simp only [List.getElem_cons_zero] at h0
  rw [List.takeWhile_cons,h0]
  simp only [if_true,List.length_cons,Nat.add_right_cancel_iff]
  refine takeWhile_upto r n q (by simpa using hn) (fun i h hi=>?_) (fun h=>?_)
  ·have:=h1 (i+1) (by simpa using h) (by omega)
   simpa using this
  ·have:=h2 (by simpa using h)
   simpa using this
theorem PassTo.remark {l:Bs} {p q k:Nat} (h:PassTo l p q) (hlt:q<l.length) (hh:hashB l[q]=true) (hqk:q<=k) (hk:k<=l.length) (hno:NoLine l q k) (hend:∀ h:k<l.length,lineB l[k]=true):PassTo l p k:=by
 refine ⟨by have:=h.le;omega,hk,fun acc=>?_⟩
 have htw:((l.drop q).takeWhile (fun x=>!lineB x)).length=k - q:=by
  refine takeWhile_upto _ _ _ (by rw [List.length_drop];omega) (fun i hi hik=>?_) (fun hi=>?_)
  ·rw [List.getElem_drop]
   rw [List.length_drop] at hi
   have:=hno (q+i) (by omega) (by omega) (by omega)
   rw [this];rfl
  ·rw [List.getElem_drop]
   rw [List.length_drop] at hi
   have:=hend (by omega)
   have e:q+(k - q)=k:=by omega
   simp only [e,this];rfl
 have hdw:=drop_run (fun x=>!lineB x) (l.drop q)
 rw [h.same acc,List.drop_eq_getElem_cons hlt,lexS_hash hh,<- List.drop_eq_getElem_cons hlt,htw,<- hdw,htw,List.drop_drop,show q+(k - q)=k from by omega]
def PassPost (l:Bs) (p:Nat) (w:World) (e:Ending) (w':World):Prop:=∃ p':Nat,e=.returned (.int .i64 p')/\PassTo l p p'/\(∀ h:p'<l.length,whiteB l[p']=false/\hashB l[p']=false)/\w'=w
end Go.Chalk
namespace Go.Proofs.YtpmalchlecnjbaaGreatDoor
open Go.RowKit Go.Chalk
theorem pass_any (l:Bs) (a:Option Addr) (b o cap:Nat) (p:Nat) (w:World) (hsb:SB w w.heap.size l a b o) (hp:p<=l.length) (hmax:l.length<=281474976710656) :
  Calls Tryz.prog 74 #[.slice a l.length cap,.int .i64 p] w (PassPost l p w):=by
 have HSB:=Lh hsb
 clear hsb
 go_enter Tryz.func74,Tryz.ntmps74
 go_wp2_with fail
 go_loop [1] (fun i=>∃ q:Nat,i=.int .i64 q/\q<=l.length/\PassTo l p q) (fun i=>l.length - (intOf i).toNat)
 case atStart=>exact ⟨p,rfl,hp,PassTo.refl hp⟩
 case round =>
  obtain ⟨q,rfl,hq,hP⟩:=hrel
  have HP:=Lh hP
  clear hP
  by_cases hlt:q<l.length
  ·obtain ⟨rfl,hbl⟩:=HSB.out.1 (by omega)
   have hcl:=HSB.out.2 q hlt
   by_cases hw:whiteB l[q]=true
   ·have HP2:=Lh (HP.out.white hlt hw)
    rcases white_three hw with h | h | h
    all_goals
     rw [h] at hcl
     clear h hw
     go_wp2_with fail
     go_round
     case rel=>exact ⟨q+1,by go_num,by omega,HP2.out⟩
     case measure=>simp [intOf];omega
   ·simp only [Bool.not_eq_true] at hw
    by_cases hh:hashB l[q]=true
    ·have h35:l[q].toNat=35:=by simpa [hashB] using hh
     rw [h35] at hcl
     have HHH:=Lh hh
     clear hw hh h35
     go_wp2_with fail
     go_loop [1] (fun i=>∃ k:Nat,i=.int .i64 k/\q<=k/\k<=l.length/\Hid (NoLine l q k)) (fun i=>l.length - (intOf i).toNat)
     case atStart=>exact ⟨q,rfl,Nat.le_refl _,hq,fun i _ h1 h2=>by omega⟩
     case round =>
      obtain ⟨k,rfl,hqk,hk,HNL⟩:=hrel
      by_cases hkl:k<l.length
      ·have hck:=HSB.out.2 k hkl
       cases hln:lineB l[k]
       ·have hne:((l[k].toNat:Int) != 10)=true:=by
         simp only [lineB,beq_eq_false_iff_ne] at hln
         rw [bne_iff_ne];omega
        have HN2:Hid (NoLine l q (k+1)):=fun i hi h1 h2=>by
         rcases Nat.lt_succ_iff_lt_or_eq.1 h2 with h | rfl
         ·exact HNL.out i hi h1 h
         ·exact hln
        clear hln
        generalize (l[k].toNat:Int)=ck at *
        go_wp2_with fail
        go_round
        case rel=>exact ⟨k+1,by go_num,by omega,by omega,HN2.out⟩
        case measure=>simp [intOf];omega
       ·have HP2:=Lh (HP.out.remark hlt HHH.out hqk hk HNL.out (fun _=>hln))
        have h10:l[k].toNat=10:=by simpa [lineB] using hln
        have hqk2:q<k:=by
         rcases Nat.lt_or_eq_of_le hqk with h | rfl
         ·exact h
         ·have h35:l[q].toNat=35:=by simpa [hashB] using HHH.out
          omega
        rw [h10] at hck
        clear hln h10
        go_wp2_with fail
        go_round
        case rel=>exact ⟨k,rfl,hk,HP2.out⟩
        case measure=>simp [intOf];omega
      ·have HP2:=Lh (HP.out.remark hlt HHH.out hqk hk HNL.out (fun h=>absurd h hkl))
       go_wp2_with fail
       go_round
       case rel=>exact ⟨k,rfl,hk,HP2.out⟩
       case measure=>simp [intOf];omega
    ·simp only [Bool.not_eq_true] at hh
     have h32:((l[q].toNat:Int)==32)=false:=by simp only [whiteB,Bool.or_eq_false_iff,beq_eq_false_iff_ne] at hw;simp;omega
     have h9:((l[q].toNat:Int)==9)=false:=by simp only [whiteB,Bool.or_eq_false_iff,beq_eq_false_iff_ne] at hw;simp;omega
     have h10:((l[q].toNat:Int)==10)=false:=by simp only [whiteB,Bool.or_eq_false_iff,beq_eq_false_iff_ne] at hw;simp;omega
     have h35:((l[q].toNat:Int)==35)=false:=by simp only [hashB,beq_eq_false_iff_ne] at hh;simp;omega
     have HFIN:Hid (PassPost l p w (.returned (.int .i64 (q:Int))) w):=⟨q,rfl,HP.out,fun _=>⟨hw,hh⟩,rfl⟩
     clear hw hh
     generalize (l[q].toNat:Int)=cq at *
     go_wp2_with fail
     go_ret
     exact HFIN.out
  ·have HFIN:Hid (PassPost l p w (.returned (.int .i64 (q:Int))) w):=⟨q,rfl,HP.out,fun h=>absurd h hlt,rfl⟩
   go_wp2_with fail
   go_ret
   exact HFIN.out
end Go.Proofs.YtpmalchlecnjbaaGreatDoor
/- The reference: one. -/
namespace Go.Chalk
open Go.RowKit Go.Proofs.YtpmalchlecnjbaaGreatDoor
def AllIn (q:UInt8->Bool) (l:Bs) (p k:Nat):Prop:=∀ i (h:i<l.length),p<=i->i<k->q l[i]=true
theorem AllIn.next {q:UInt8->Bool} {l:Bs} {p k:Nat} (h:AllIn q l p k) (hk:k<l.length) (hq:q l[k]=true):AllIn q l p (k+1):=fun i hi h1 h2=>by
 rcases Nat.lt_succ_iff_lt_or_eq.1 h2 with h' | rfl
 ·exact h i hi h1 h'
 ·exact hq
theorem AllIn.run {q:UInt8->Bool} {l:Bs} {p k:Nat} (h:AllIn q l p k) (hp:p<=k) (hk:k<=l.length) (hend:∀ h:k<l.length,q l[k]=false):(l.drop p).takeWhile q=(l.drop p).take (k - p):=by
 have hl:((l.drop p).takeWhile q).length=k - p:=by
  refine takeWhile_upto _ _ _ (by rw [List.length_drop];omega) (fun i hi hik=>?_) (fun hi=>?_)
  ·rw [List.length_drop] at hi
   rw [List.getElem_drop]
   exact h (p+i) (by omega) (by omega) (by omega)
  ·rw [List.length_drop] at hi
   rw [List.getElem_drop]
   have e:p+(k - p)=k:=by omega
   simp only [e]
   exact hend (by omega)
 rw [<- hl,takeWhile_takeY]
def OnePost (l:Bs) (p:Nat) (w:World) (e:Ending) (w':World):Prop:=∃ (k0:Int) (s0:Bs) (z0:Int) (ok:Bool),e=.returned (.tuple #[.agg #[.int .i64 k0,.string ⟨s0.toArray⟩,.int .i64 z0],.bool ok])/\(nextF (l.drop p)).2.2=ok /\
 (ok=true->k0=(nextF (l.drop p)).1/\s0=(nextF (l.drop p)).2.1/\z0=(p:Int))/\Below w.heap.size w w'
end Go.Chalk
namespace Go.Proofs.YtpmalchlecnjbaaGreatDoor
open Go.RowKit Go.Chalk
theorem one_word (l:Bs) (b o cap p:Nat) (w:World) (hsb:SB w w.heap.size l (some ⟨b,o,none⟩) b o) (hp:p<l.length) (hcap:l.length<=cap) (hmax:l.length<=281474976710656) (hsm:smallB l[p]=true) :
  Calls Tryz.prog 75 #[.slice (some ⟨b,o,none⟩) l.length cap,.int .i64 p] w (OnePost l p w):=by
 have hbl:=(hsb.1 (by omega)).2
 have hba:Below w.heap.size w (w.alloc (.cells #[.int .i64 0,.string ⟨#[]⟩,.int .i64 0] 51)):=(Below.refl _ _).alloc (Nat.le_refl _) _
 have hblk:=heap_alloc_new w (.cells #[.int .i64 0,.string ⟨#[]⟩,.int .i64 0] 51)
 have hs2:=hsb.below hba hba.size
 have h0:=hsb.2 p hp
 have HTX:Hid (∀ k,p<=k->k<=l.length->(convert 22 9 (.slice (some ⟨b,o+p,none⟩) (k - p) (cap - p))).run Tryz.prog (w.alloc (.cells #[.int .i64 0,.string ⟨#[]⟩,.int .i64 0] 51))=.ok (.string ⟨((l.drop p).take (k - p)).toArray⟩) (w.alloc (.cells #[.int .i64 0,.string ⟨#[]⟩,.int .i64 0] 51))):=fun k h1 h2=>by
  have hs3:SB (w.alloc (.cells #[.int .i64 0,.string ⟨#[]⟩,.int .i64 0] 51)) (w.alloc (.cells #[.int .i64 0,.string ⟨#[]⟩,.int .i64 0] 51)).heap.size ((l.drop p).take (k - p)) (some ⟨b,o+p,none⟩) b (o+p):=⟨fun _=>⟨rfl,Nat.lt_of_lt_of_le hbl hba.size⟩,(hs2.2.drop p).take _⟩
  have:=hs3.text (P:=Tryz.prog) 22 5 9 Tryz.underlying22 Tryz.underlying5 Tryz.underlying9 (cap - p)
  rwa [List.length_take,List.length_drop,Nat.min_eq_left (by omega)] at this
 have HS:=Lh hs2
 have HBA:=Lh hba
 have HBK:=Lh hblk
 have HLT:=Lh (letter_any l[p] (w.alloc (.cells #[.int .i64 0,.string ⟨#[]⟩,.int .i64 0] 51)))
 rw [hsm] at HLT
 have HIN:=Lh (fun (k:Nat) (h:k<l.length)=>inner_anyY l[k] (w.alloc (.cells #[.int .i64 0,.string ⟨#[]⟩,.int .i64 0] 51)))
 have HOK:Hid (∀ k,p<=k->k<=l.length->(l.drop p).takeWhile innerB=(l.drop p).take (k - p)->∀ W:World,Below w.heap.size w W->OnePost l p w (.returned (.tuple #[.agg #[.int .i64 1,.string ⟨((l.drop p).take (k - p)).toArray⟩,.int .i64 (p:Int)],.bool (wordB ((l.drop p).take (k - p)))])) W):=fun k h1 h2 ht W hb=>by
  have hn:nextF (l.drop p)=(1,(l.drop p).take (k - p),wordB ((l.drop p).take (k - p))):=by
   rw [List.drop_eq_getElem_cons hp] at ht ⊢
   rw [nextF,if_pos hsm,ht]
  exact ⟨_,_,_,_,rfl,by rw [hn],fun _=>by rw [hn];exact ⟨rfl,rfl,rfl⟩,hb⟩
 clear hsb hba hblk hs2
 generalize (l[p].toNat:Int)=cp at *
 go_enter Tryz.func75,Tryz.ntmps75
 go_wp2_with (first | (go_at_call 132;refine HLT.out.mono ?_;rintro e w' ⟨rfl,rfl⟩))
 generalize w.alloc (.cells #[.int .i64 0,.string ⟨#[]⟩,.int .i64 0] 51)=w1 at *
 clear h0
 go_loop [6] (fun i=>∃ k:Nat,i=.int .i64 k/\p<=k/\k<=l.length/\Hid (AllIn innerB l p k)) (fun i=>l.length - (intOf i).toNat)
 case atStart=>exact ⟨p,rfl,Nat.le_refl _,by omega,fun i _ h1 h2=>by omega⟩
 case round =>
  obtain ⟨k,rfl,hpk,hk,HAI⟩:=hrel
  by_cases hkl:k<l.length
  ·have hck:=HS.out.2 k hkl
   have HCK:=Lh (HIN.out k hkl)
   cases hin:innerB l[k]
   ·rw [hin] at HCK
    have hrun:=HAI.out.run hpk hk (fun _=>hin)
    have hpk2:p<k:=by
     rcases Nat.lt_or_eq_of_le hpk with h | rfl
     ·exact h
     ·have:innerB l[p]=true:=by simp [innerB,hsm]
      rw [this] at hin;cases hin
    have HFIN:=Lh (HOK.out k hpk hk hrun)
    have htx:=HTX.out k hpk hk
    have hdl:(⟨((l.drop p).take (k - p)).toArray⟩:ByteArray).data.toList=(l.drop p).take (k - p):=by simp
    have hwd:=wordR_any ⟨((l.drop p).take (k - p)).toArray⟩ w1 (by rw [size_mk,List.length_take];omega)
    rw [hdl] at hwd
    have HWD:=Lh hwd
    obtain ⟨f0,f1,f2,x0,x1,x2⟩:=res3 HBK.out
    clear hrun hwd hdl HOK HTX hin
    generalize (l.drop p).take (k - p)=tx at *
    generalize wordB tx=ok at *
    generalize (l[k].toNat:Int)=ck at *
    go_wp2_with (first | (go_at_call 134;refine HWD.out.mono ?_;rintro e w' ⟨rfl,rfl⟩) | (go_at_call 133;refine HCK.out.mono ?_;rintro e w' ⟨rfl,rfl⟩))
    refine bodyPost_ret (v:=.tuple #[.agg #[.int .i64 1,.string ⟨tx.toArray⟩,.int .i64 (p:Int)],.bool ok]) (by simp [results,Tryz.results75,go_sem, *]) rfl ?_
    exact HFIN.out _ (put3_below _ _ _ HBA.out (Nat.le_refl _))
   ·rw [hin] at HCK
    have HA2:=Lh (HAI.out.next hkl hin)
    clear hin
    generalize (l[k].toNat:Int)=ck at *
    go_wp2_with (go_at_call 133;refine HCK.out.mono ?_;rintro e w' ⟨rfl,rfl⟩)
    go_round
    case rel=>exact ⟨k+1,by go_num,by omega,by omega,HA2.out⟩
    case measure=>simp [intOf];omega
  ·have hrun:=HAI.out.run hpk hk (fun h=>absurd h hkl)
   have hpk2:p<k:=by
    rcases Nat.lt_or_eq_of_le hpk with h | rfl
    ·exact h
    ·omega
   have HFIN:=Lh (HOK.out k hpk hk hrun)
   have htx:=HTX.out k hpk hk
   have hdl:(⟨((l.drop p).take (k - p)).toArray⟩:ByteArray).data.toList=(l.drop p).take (k - p):=by simp
   have hwd:=wordR_any ⟨((l.drop p).take (k - p)).toArray⟩ w1 (by rw [size_mk,List.length_take];omega)
   rw [hdl] at hwd
   have HWD:=Lh hwd
   obtain ⟨f0,f1,f2,x0,x1,x2⟩:=res3 HBK.out
   clear hrun hwd hdl HOK HTX HS
   generalize (l.drop p).take (k - p)=tx at *
   generalize wordB tx=ok at *
   skip
   go_wp2_with (first | (go_at_call 134;refine HWD.out.mono ?_;rintro e w' ⟨rfl,rfl⟩))
   refine bodyPost_ret (v:=.tuple #[.agg #[.int .i64 1,.string ⟨tx.toArray⟩,.int .i64 (p:Int)],.bool ok]) (by simp [results,Tryz.results75,go_sem, *]) rfl ?_
   exact HFIN.out _ (put3_below _ _ _ HBA.out (Nat.le_refl _))

theorem one_num (l:Bs) (b o cap p:Nat) (w:World) (hsb:SB w w.heap.size l (some ⟨b,o,none⟩) b o) (hp:p<l.length) (hcap:l.length<=cap) (hmax:l.length<=281474976710656) (hsm:smallB l[p]=false) (hdg:digitB l[p]=true) :
  Calls Tryz.prog 75 #[.slice (some ⟨b,o,none⟩) l.length cap,.int .i64 p] w (OnePost l p w):=by
 have hbl:=(hsb.1 (by omega)).2
 have hba:Below w.heap.size w (w.alloc (.cells #[.int .i64 0,.string ⟨#[]⟩,.int .i64 0] 51)):=(Below.refl _ _).alloc (Nat.le_refl _) _
 have hblk:=heap_alloc_new w (.cells #[.int .i64 0,.string ⟨#[]⟩,.int .i64 0] 51)
 have hs2:=hsb.below hba hba.size
 have h0:=hsb.2 p hp
 have HTX:Hid (∀ k,p<=k->k<=l.length->(convert 22 9 (.slice (some ⟨b,o+p,none⟩) (k - p) (cap - p))).run Tryz.prog (w.alloc (.cells #[.int .i64 0,.string ⟨#[]⟩,.int .i64 0] 51))=.ok (.string ⟨((l.drop p).take (k - p)).toArray⟩) (w.alloc (.cells #[.int .i64 0,.string ⟨#[]⟩,.int .i64 0] 51))):=fun k h1 h2=>by
  have hs3:SB (w.alloc (.cells #[.int .i64 0,.string ⟨#[]⟩,.int .i64 0] 51)) (w.alloc (.cells #[.int .i64 0,.string ⟨#[]⟩,.int .i64 0] 51)).heap.size ((l.drop p).take (k - p)) (some ⟨b,o+p,none⟩) b (o+p):=⟨fun _=>⟨rfl,Nat.lt_of_lt_of_le hbl hba.size⟩,(hs2.2.drop p).take _⟩
  have:=hs3.text (P:=Tryz.prog) 22 5 9 Tryz.underlying22 Tryz.underlying5 Tryz.underlying9 (cap - p)
  rwa [List.length_take,List.length_drop,Nat.min_eq_left (by omega)] at this
 have HS:=Lh hs2
 have HBA:=Lh hba
 have HBK:=Lh hblk
 have HLT:=Lh (letter_any l[p] (w.alloc (.cells #[.int .i64 0,.string ⟨#[]⟩,.int .i64 0] 51)))
 rw [hsm] at HLT
 have HDG:=Lh (digit_any l[p] (w.alloc (.cells #[.int .i64 0,.string ⟨#[]⟩,.int .i64 0] 51)))
 rw [hdg] at HDG
 have HIN:=Lh (fun (k:Nat) (h:k<l.length)=>digit_any l[k] (w.alloc (.cells #[.int .i64 0,.string ⟨#[]⟩,.int .i64 0] 51)))
 have HOK:Hid (∀ k,p<=k->k<=l.length->(l.drop p).takeWhile digitB=(l.drop p).take (k - p)->∀ W:World,Below w.heap.size w W->OnePost l p w (.returned (.tuple #[.agg #[.int .i64 2,.string ⟨((l.drop p).take (k - p)).toArray⟩,.int .i64 (p:Int)],.bool (numB ((l.drop p).take (k - p)))])) W):=fun k h1 h2 ht W hb=>by
  have hn:nextF (l.drop p)=(2,(l.drop p).take (k - p),numB ((l.drop p).take (k - p))):=by
   rw [List.drop_eq_getElem_cons hp] at ht ⊢
   rw [nextF,if_neg (by simp [hsm]),if_pos hdg,ht]
  exact ⟨_,_,_,_,rfl,by rw [hn],fun _=>by rw [hn];exact ⟨rfl,rfl,rfl⟩,hb⟩
 clear hsb hba hblk hs2
 generalize (l[p].toNat:Int)=cp at *
 go_enter Tryz.func75,Tryz.ntmps75
 go_wp2_with (first | (go_at_call 132;refine HLT.out.mono ?_;rintro e w' ⟨rfl,rfl⟩) | (go_at_call 135;refine HDG.out.mono ?_;rintro e w' ⟨rfl,rfl⟩))
 generalize w.alloc (.cells #[.int .i64 0,.string ⟨#[]⟩,.int .i64 0] 51)=w1 at *
 clear h0
 go_loop [6] (fun i=>∃ k:Nat,i=.int .i64 k/\p<=k/\k<=l.length/\Hid (AllIn digitB l p k)) (fun i=>l.length - (intOf i).toNat)
 case atStart=>exact ⟨p,rfl,Nat.le_refl _,by omega,fun i _ h1 h2=>by omega⟩
 case round =>
  obtain ⟨k,rfl,hpk,hk,HAI⟩:=hrel
  by_cases hkl:k<l.length
  ·have hck:=HS.out.2 k hkl
   have HCK:=Lh (HIN.out k hkl)
   cases hin:digitB l[k]
   ·rw [hin] at HCK
    have hrun:=HAI.out.run hpk hk (fun _=>hin)
    have hpk2:p<k:=by
     rcases Nat.lt_or_eq_of_le hpk with h | rfl
     ·exact h
     ·rw [hdg] at hin;cases hin
    have HFIN:=Lh (HOK.out k hpk hk hrun)
    have htx:=HTX.out k hpk hk
    have hdl:(⟨((l.drop p).take (k - p)).toArray⟩:ByteArray).data.toList=(l.drop p).take (k - p):=by simp
    have hwd:=numR_any ⟨((l.drop p).take (k - p)).toArray⟩ w1 (by rw [size_mk,List.length_take];omega)
    rw [hdl] at hwd
    have HWD:=Lh hwd
    obtain ⟨f0,f1,f2,x0,x1,x2⟩:=res3 HBK.out
    clear hrun hwd hdl HOK HTX hin
    generalize (l.drop p).take (k - p)=tx at *
    generalize numB tx=ok at *
    generalize (l[k].toNat:Int)=ck at *
    go_wp2_with (first | (go_at_call 136;refine HWD.out.mono ?_;rintro e w' ⟨rfl,rfl⟩) | (go_at_call 135;refine HCK.out.mono ?_;rintro e w' ⟨rfl,rfl⟩))
    refine bodyPost_ret (v:=.tuple #[.agg #[.int .i64 2,.string ⟨tx.toArray⟩,.int .i64 (p:Int)],.bool ok]) (by simp [results,Tryz.results75,go_sem, *]) rfl ?_
    exact HFIN.out _ (put3_below _ _ _ HBA.out (Nat.le_refl _))
   ·rw [hin] at HCK
    have HA2:=Lh (HAI.out.next hkl hin)
    clear hin
    generalize (l[k].toNat:Int)=ck at *
    go_wp2_with (go_at_call 135;refine HCK.out.mono ?_;rintro e w' ⟨rfl,rfl⟩)
    go_round
    case rel=>exact ⟨k+1,by go_num,by omega,by omega,HA2.out⟩
    case measure=>simp [intOf];omega
  ·have hrun:=HAI.out.run hpk hk (fun h=>absurd h hkl)
   have hpk2:p<k:=by
    rcases Nat.lt_or_eq_of_le hpk with h | rfl
    ·exact h
    ·omega
   have HFIN:=Lh (HOK.out k hpk hk hrun)
   have htx:=HTX.out k hpk hk
   have hdl:(⟨((l.drop p).take (k - p)).toArray⟩:ByteArray).data.toList=(l.drop p).take (k - p):=by simp
   have hwd:=numR_any ⟨((l.drop p).take (k - p)).toArray⟩ w1 (by rw [size_mk,List.length_take];omega)
   rw [hdl] at hwd
   have HWD:=Lh hwd
   obtain ⟨f0,f1,f2,x0,x1,x2⟩:=res3 HBK.out
   clear hrun hwd hdl HOK HTX HS
   generalize (l.drop p).take (k - p)=tx at *
   generalize numB tx=ok at *
   skip
   go_wp2_with (first | (go_at_call 136;refine HWD.out.mono ?_;rintro e w' ⟨rfl,rfl⟩))
   refine bodyPost_ret (v:=.tuple #[.agg #[.int .i64 2,.string ⟨tx.toArray⟩,.int .i64 (p:Int)],.bool ok]) (by simp [results,Tryz.results75,go_sem, *]) rfl ?_
   exact HFIN.out _ (put3_below _ _ _ HBA.out (Nat.le_refl _))
end Go.Proofs.YtpmalchlecnjbaaGreatDoor
/- The reference: one (signs), whole. -/
namespace Go.Chalk
open Go.RowKit Go.Proofs.YtpmalchlecnjbaaGreatDoor
theorem prefix_take (s m:Bs):s.isPrefixOf m=(decide (s.length<=m.length)&&(m.take s.length==s)):=by
 rw [Bool.eq_iff_iff]
 simp only [List.isPrefixOf_iff_prefix,Bool.and_eq_true,decide_eq_true_eq,beq_iff_eq]
 constructor
 ·intro h
  exact ⟨h.length_le,(List.prefix_iff_eq_take.1 h).symm⟩
 ·rintro ⟨_,h⟩
  rw [List.prefix_iff_eq_take];exact h.symm
theorem sign_first (m:Bs) (k:Nat) (hk:k<18) (h:∀ j,j<k->(signsL.getD j []).isPrefixOf m=false) (hp:(signsL.getD k []).isPrefixOf m=true):signB m=signsL.getD k []:=by
 have hk':k<signsL.length:=hk
 have hf:signsL.find? (fun s=>s.isPrefixOf m)=some signsL[k]:=by
  rw [List.find?_eq_some_iff_getElem]
  refine ⟨by simpa [List.getD,hk'] using hp,k,hk',rfl,fun j hj=>?_⟩
  have:=h j hj
  have hj':j<signsL.length:=by omega
  simpa [List.getD,hj'] using this
 unfold signB
 rw [hf]
 simp [List.getD,hk']
theorem sign_never (m:Bs) (h:∀ j,j<18->(signsL.getD j []).isPrefixOf m=false):signB m=[]:=by
 have hf:signsL.find? (fun s=>s.isPrefixOf m)=none:=by
  rw [List.find?_eq_none]
  intro x hx
  obtain ⟨j,hj,rfl⟩:=List.getElem_of_mem hx
  have:=h j hj
  rw [List.getD_eq_getElem?_getD,List.getElem?_eq_getElem hj,Option.getD_some] at this
  rw [this];simp
 unfold signB
 rw [hf];rfl
theorem sign_len (k:Nat) (hk:k<18):1<=(signsL.getD k []).length/\(signsL.getD k []).length<=2:=by
 have:∀ k,k<18->1<=(signsL.getD k []).length/\(signsL.getD k []).length<=2:=by decide
 exact this k hk
end Go.Chalk
namespace Go.Proofs.YtpmalchlecnjbaaGreatDoor
open Go.RowKit Go.Chalk
theorem one_sign (l:Bs) (b o cap p:Nat) (w:World) (hsb:SB w w.heap.size l (some ⟨b,o,none⟩) b o) (hp:p<l.length) (hcap:l.length<=cap) (hmax:l.length<=281474976710656) (hsm:smallB l[p]=false) (hdg:digitB l[p]=false) :
  Calls Tryz.prog 75 #[.slice (some ⟨b,o,none⟩) l.length cap,.int .i64 p] w (OnePost l p w):=by
 have hbl:=(hsb.1 (by omega)).2
 have hba:Below w.heap.size w (w.alloc (.cells #[.int .i64 0,.string ⟨#[]⟩,.int .i64 0] 51)):=(Below.refl _ _).alloc (Nat.le_refl _) _
 have hblk:=heap_alloc_new w (.cells #[.int .i64 0,.string ⟨#[]⟩,.int .i64 0] 51)
 have h0:=hsb.2 p hp
 have HSB:=Lh hsb
 have HBA:=Lh hba
 have HBK:=Lh hblk
 have HLT:=Lh (letter_any l[p] (w.alloc (.cells #[.int .i64 0,.string ⟨#[]⟩,.int .i64 0] 51)))
 rw [hsm] at HLT
 have HDG:=Lh (digit_any l[p] (w.alloc (.cells #[.int .i64 0,.string ⟨#[]⟩,.int .i64 0] 51)))
 rw [hdg] at HDG
 have HSI:=Lh (signs_any (w.alloc (.cells #[.int .i64 0,.string ⟨#[]⟩,.int .i64 0] 51)))
 have HSC:=Lh (signs_cells (w.alloc (.cells #[.int .i64 0,.string ⟨#[]⟩,.int .i64 0] 51)))
 rw [World.size_alloc] at HSI HSC
 have HB2:Hid (Below w.heap.size w ((w.alloc (.cells #[.int .i64 0,.string ⟨#[]⟩,.int .i64 0] 51)).alloc (.cells signVals.toArray 9))):=hba.alloc hba.size _
 have HBK2:Hid (((w.alloc (.cells #[.int .i64 0,.string ⟨#[]⟩,.int .i64 0] 51)).alloc (.cells signVals.toArray 9)).heap[w.heap.size]?=some (.cells #[.int .i64 0,.string ⟨#[]⟩,.int .i64 0] 51 (0,0))):=(Below.heap_alloc _ _ _ (by simp)).trans hblk
 have hnx:nextF (l.drop p)=(3,signB (l.drop p),!(signB (l.drop p)).isEmpty):=by
  rw [List.drop_eq_getElem_cons hp,nextF,if_neg (by simp [hsm]),if_neg (by simp [hdg])]
 have HYES:Hid (∀ k,k<18->(∀ j,j<k->(signsL.getD j []).isPrefixOf (l.drop p)=false)->(signsL.getD k []).isPrefixOf (l.drop p)=true->∀ W:World,Below w.heap.size w W->OnePost l p w (.returned (.tuple #[.agg #[.int .i64 3,.string ⟨(signsL.getD k []).toArray⟩,.int .i64 (p:Int)],.bool true])) W):=fun k hk h1 h2 W hb=>by
  have e:=sign_first _ k hk h1 h2
  have hne:(signsL.getD k []).isEmpty=false:=by
   have:=(sign_len k hk).1
   cases hh:signsL.getD k [] with
   | nil=>rw [hh] at this;simp at this
   | cons=>rfl
  exact ⟨_,_,_,_,rfl,by rw [hnx,e,hne];rfl,fun _=>by rw [hnx,e];exact ⟨rfl,rfl,rfl⟩,hb⟩
 have HNO:Hid ((∀ j,j<18->(signsL.getD j []).isPrefixOf (l.drop p)=false)->∀ W:World,Below w.heap.size w W->OnePost l p w (.returned (.tuple #[.agg #[.int .i64 0,.string ⟨#[]⟩,.int .i64 0],.bool false])) W):=fun h W hb=>by
  have e:=sign_never _ h
  exact ⟨0,[],0,false,rfl,by rw [hnx,e];rfl,(fun h=>by cases h),hb⟩
 clear hsb hba hblk hnx
 generalize (l[p].toNat:Int)=cp at *
 go_enter Tryz.func75,Tryz.ntmps75
 go_wp2_with (first | (go_at_call 132;refine HLT.out.mono ?_;rintro e w' ⟨rfl,rfl⟩) | (go_at_call 135;refine HDG.out.mono ?_;rintro e w' ⟨rfl,rfl⟩))
 refine HSI.out.mono ?_
 rintro e w1 ⟨rfl,hw1⟩
 rw [<- hw1] at HSC HB2 HBK2
 clear hw1 HSI HBK h0
 go_wp2_with fail
 go_loopw [70,10] (fun i _ wr=>∃ k:Nat,k<=18/\i=.int .i64 k/\Hid (∀ j,j<k->(signsL.getD j []).isPrefixOf (l.drop p)=false)/\wr=w1) (fun i _ _=>18 - (intOf i).toNat)
 case atStart=>exact ⟨0,by omega,rfl,fun j hj=>absurd hj (by omega),rfl⟩
 case round =>
  obtain ⟨k,hk,rfl,HJ,rfl⟩:=hrel
  by_cases hlt:k<18
  ·have hcl:=HSC.out k hlt
   have hsl:=sign_len k hlt
   have HYK:=Lh (HYES.out k hlt HJ.out)
   have HPX:=Lh (prefix_take (signsL.getD k []) (l.drop p))
   generalize hsg:signsL.getD k []=sg at *
   have HSG:=Lh hsg
   clear hsg
   have hlt':decide ((k:Int)<18)=true:=by simp;omega
   have hpx:=HPX.out
   rw [List.length_drop] at hpx
   by_cases hfit:p+sg.length<=l.length
   ·have hf:decide ((p:Int)+(sg.length:Int)<=(l.length:Int))=true:=by simp;omega
    have hf2:decide (sg.length<=l.length - p)=true:=by simp;omega
    rw [hf2,Bool.true_and] at hpx
    have hs3:SB wr wr.heap.size ((l.drop p).take sg.length) (some ⟨b,o+p,none⟩) b (o+p):=⟨fun _=>⟨rfl,Nat.lt_of_lt_of_le hbl HB2.out.size⟩,((HSB.out.below HB2.out HB2.out.size).2.drop p).take _⟩
    have htx:=hs3.text (P:=Tryz.prog) 22 5 9 Tryz.underlying22 Tryz.underlying5 Tryz.underlying9 (cap - p)
    rw [List.length_take,List.length_drop,Nat.min_eq_left (by omega)] at htx
    clear hs3
    generalize (l.drop p).take sg.length=tk at *
    cases hpp:(tk==sg)
    ·rw [hpp] at hpx
     have HPP:=Lh hpx
     clear hpx
     go_wp2_with fail
     exact ⟨⟨k+1,by omega,by go_num,fun j hj=>by
      rcases Nat.lt_succ_iff_lt_or_eq.1 hj with h | rfl
      ·exact HJ.out j h
      ·rw [HSG.out];exact HPP.out,by first | rfl | trivial⟩,by simp [intOf];omega⟩
    ·rw [hpp] at hpx
     have HPP:=Lh hpx
     obtain ⟨f0,f1,f2,x0,x1,x2⟩:=res3 HBK2.out
     have hlt0:=World.block_lt_of_cell? _ _ x0
     clear hpx
     go_wp2_with fail
     refine bodyPost_ret (v:=.tuple #[.agg #[.int .i64 3,.string ⟨sg.toArray⟩,.int .i64 (p:Int)],.bool true]) (by simp [results,Tryz.results75,go_sem, *]) rfl ?_
     exact HYK.out HPP.out _ (put3_below _ _ _ HB2.out (Nat.le_refl _))
   ·have hf:decide ((p:Int)+(sg.length:Int)<=(l.length:Int))=false:=by simp;omega
    have hf2:decide (sg.length<=l.length - p)=false:=by simp;omega
    rw [hf2,Bool.false_and] at hpx
    have HPP:=Lh hpx
    clear hpx
    go_wp2_with fail
    exact ⟨⟨k+1,by omega,by go_num,fun j hj=>by
     rcases Nat.lt_succ_iff_lt_or_eq.1 hj with h | rfl
     ·exact HJ.out j h
     ·rw [HSG.out];exact HPP.out,by first | rfl | trivial⟩,by simp [intOf];omega⟩
  ·obtain rfl:k=18:=by omega
   obtain ⟨f0,f1,f2,x0,x1,x2⟩:=res3 HBK2.out
   go_wp2_with fail
   refine bodyPost_ret (v:=.tuple #[.agg #[.int .i64 0,.string ⟨#[]⟩,.int .i64 0],.bool false]) (by simp [results,Tryz.results75,go_sem, *]) rfl ?_
   exact HNO.out HJ.out _ (put3_below _ _ _ HB2.out (Nat.le_refl _))

theorem one_any (l:Bs) (b o cap p:Nat) (w:World) (hsb:SB w w.heap.size l (some ⟨b,o,none⟩) b o) (hp:p<l.length) (hcap:l.length<=cap) (hmax:l.length<=281474976710656) :
  Calls Tryz.prog 75 #[.slice (some ⟨b,o,none⟩) l.length cap,.int .i64 p] w (OnePost l p w):=by
 cases hs:smallB l[p]
 ·cases hd:digitB l[p]
  ·exact one_sign l b o cap p w hsb hp hcap hmax hs hd
  ·exact one_num l b o cap p w hsb hp hcap hmax hs hd
 ·exact one_word l b o cap p w hsb hp hcap hmax hs
end Go.Proofs.YtpmalchlecnjbaaGreatDoor
/- The reference's Tokens. (out of YLawTokens, by tools/gy.py) -/
namespace Go.Proofs.YtpmalchlecnjbaaGreatDoor
open Go.RowKit Go.Chalk
theorem tokensR_any (l:Bs) (a:Option Addr) (b o cap:Nat) (w:World) (hsb:SB w w.heap.size l a b o) (hcap:l.length<=cap) (hmax:l.length<=281474976710656) :
  Calls Tryz.prog 41 #[.slice a l.length cap] w (TkPost w 51 l):=by
 by_cases hbig:16384<l.length
 ·have hf:tokensF l=([],0,2):=by unfold tokensF;rw [if_pos hbig]
  have HF:=Lh (TkPost.mk' (w:=w) (w':=w) (e:=51) (v:=.slice none 0 0) hf (OwnT.nil _ _) (fun k hk=>by cases hk) (Below.refl _ _))
  have hbig':decide ((16384:Int)<(l.length:Int))=true:=by simp;omega
  clear hf hsb
  go_enter Tryz.func41,Tryz.ntmps41
  go_wp2_with fail
  go_ret3
  exact HF.out
 ·have hf:tokensF l=lexS l 0 []:=by unfold tokensF;rw [if_neg hbig]
  have hbig':decide ((16384:Int)<(l.length:Int))=false:=by simp;omega
  have hl:l.length<=16384:=by omega
  have HTF:=Lh hf
  have HSB:=Lh hsb
  have HPA:=Lh (pass_any l a b o cap 0 w hsb (Nat.zero_le _) hmax)
  obtain ⟨i0,hi,hz0,hz1,hz2⟩:=info_parts tok_info
  clear hf hsb hbig
  go_enter Tryz.func41,Tryz.ntmps41
  go_wp2_with fail
  refine HPA.out.mono ?_
  rintro e w' ⟨p0,rfl,hpt,hph,rfl⟩
  have HS0:Hid (lexS (l.drop p0) p0 []=lexS l 0 []):=by
   have:=hpt.same []
   rw [List.drop_zero] at this
   exact this.symm
  have hp0:=hpt.le'
  have HH0:=Lh hph
  clear hpt hph HPA
  go_wp2_with fail
  go_loopw [6,5,7,8] (fun i lv _ _ wr=>∃ (p:Nat) (q:Option Nat) (acc:List Tok),i=.int .i64 p/\p<=l.length/\acc.length<=p/\OwnT wr 51 lv q acc/\Hid (∀ k,q=some k->w'.heap.size<=k)/\Hid (lexS (l.drop p) p acc=lexS l 0 [])/\Hid (∀ h:p<l.length,whiteB l[p]=false/\hashB l[p]=false)/\Below w'.heap.size w' wr) (fun i _ _ _ _=>l.length - (intOf i).toNat)
  case atStart=>exact ⟨p0,none,[],rfl,hp0,Nat.zero_le _,OwnT.nil _ _,fun k hk=>(by cases hk),HS0.out,HH0.out,Below.refl _ _⟩
  case round =>
   obtain ⟨p,q,acc,rfl,hp,hal,hO,HQ,HSM,HHD,hb⟩:=hrel
   have HO:=Lh hO
   have HB:=Lh hb
   have hbs:=hb.size
   obtain ⟨la,lcap,rfl⟩:=hO.form
   obtain ⟨cs0,hrow,hds⟩:=hO.row
   have HROW:=Lh hrow
   have HDS:=Lh hds
   obtain ⟨kl,hkl⟩:∃ kl,kl=acc.length:=⟨_,rfl⟩
   rw [<- hkl] at HROW HO hal ⊢
   have HKL:=Lh hkl
   clear hO hrow hds hkl
   by_cases hlt:p<l.length
   ·obtain ⟨rfl,hbl⟩:=HSB.out.1 (by omega)
    have HON:=Lh (one_any l b o cap p wr (HSB.out.below hb hb.size) hlt hcap hmax)
    obtain ⟨hw,hh⟩:=HHD.out hlt
    have hsm:=HSM.out
    rw [List.drop_eq_getElem_cons hlt] at hsm
    clear hb
    go_wp2_with fail
    refine HON.out.mono ?_
    rintro e w3 ⟨k0,s0,z0,ok,rfl,hok,hval,hb3⟩
    have HB3:=Lh (HB.out.trans (hb3.mono hbs))
    have HO3:=Lh (HO.out.below hb3)
    have HRO3:=Lh (ownsRow_below HROW.out hb3)
    cases ok
    ·have hfin:tokensF l=([],p,50):=by
      rw [List.drop_eq_getElem_cons hlt] at hok
      rw [HTF.out,<- hsm,lexS_bad hw hh hok]
     have HFIN:=Lh hfin
     clear hfin hsm hok hval hb3 hw hh
     go_wp2_with fail
     go_ret3
     exact TkPost.mk' HFIN.out (OwnT.nil _ _) (fun k hk=>by cases hk) (HB3.out.alloc HB3.out.size _)
    ·obtain ⟨rfl,rfl,rfl⟩:=hval rfl
     have hpos:=next_pos hok
     rw [List.length_drop] at hpos
     have hok2:=hok
     rw [List.drop_eq_getElem_cons hlt] at hok2
     rw [lexS_tok hw hh hok2,<- List.drop_eq_getElem_cons hlt,List.drop_drop] at hsm
     have hkd:0<=(nextF (l.drop p)).1/\(nextF (l.drop p)).1<=4:=by
      rw [List.drop_eq_getElem_cons hlt,nextF];split
      ·simp
      ·split <;> simp
     have HNEW:=Lh hsm
     clear hsm hok hok2 hval hb3 hw hh
     generalize (nextF (l.drop p)).1=kd at *
     generalize (nextF (l.drop p)).2.1=tx at *
     have hpa:=fun (W:World) (h:Below w'.heap.size w' W)=>pass_any l (some ⟨b,o,none⟩) b o cap (p+tx.length) W (HSB.out.below h h.size) (by omega) hmax
     have HPA2:=Lh hpa
     clear hpa
     have hb4:Below w3.heap.size w3 ((w3.alloc (.cells #[.int .i64 kd,.string ⟨tx.toArray⟩,.int .i64 (p:Int)] 51)).alloc (.cells #[.int .i64 kd,.string ⟨tx.toArray⟩,.int .i64 (p:Int)] 51)):=((Below.refl _ _).alloc (Nat.le_refl _) _).alloc (by simp) _
     have HB4:=Lh hb4
     have HROW4:=Lh (ownsRow_below HRO3.out hb4)
     have HO4:=Lh (HO3.out.below hb4)
     have HQ4:Hid (∀ k,q=some k->k<w3.heap.size):=fun k hk=>Chalk.Own.row_lt HO3.out hk
     have HBX:Hid (((w3.alloc (.cells #[.int .i64 kd,.string ⟨tx.toArray⟩,.int .i64 (p:Int)] 51)).alloc (.cells #[.int .i64 kd,.string ⟨tx.toArray⟩,.int .i64 (p:Int)] 51)).heap[w3.heap.size]?=some (.cells #[.int .i64 kd,.string ⟨tx.toArray⟩,.int .i64 (p:Int)] 51 (0,0))):=(Below.heap_alloc _ _ _ (by simp)).trans (heap_alloc_new _ _)
     have HNW:Hid (((w3.alloc (.cells #[.int .i64 kd,.string ⟨tx.toArray⟩,.int .i64 (p:Int)] 51)).alloc (.cells #[.int .i64 kd,.string ⟨tx.toArray⟩,.int .i64 (p:Int)] 51)).heap[w3.heap.size+1]?=some (.cells #[.int .i64 kd,.string ⟨tx.toArray⟩,.int .i64 (p:Int)] 51 (0,0))):=by
      have:=heap_alloc_new (w3.alloc (.cells #[.int .i64 kd,.string ⟨tx.toArray⟩,.int .i64 (p:Int)] 51)) (.cells #[.int .i64 kd,.string ⟨tx.toArray⟩,.int .i64 (p:Int)] 51)
      rw [World.size_alloc] at this
      exact this
     clear hb4
     have hcast:(p:Int)+(tx.length:Int)=((p+tx.length:Nat):Int):=by omega
     have HCAST:=Lh hcast
     clear hcast
     go_upto_region 10 with (at_builtin;go_must (refine wpList_append_lies _ rfl _ _ 47 rfl 0 51 i0 _ 3 32 Tryz.underlying47 hi hz0 hz1 hz2 rfl (by decide) (.slice la kl lcap) _ _ rfl HROW4.out ⟨w3.heap.size+1,0,none⟩ 1 1 [.int .i64 kd,.string ⟨tx.toArray⟩,.int .i64 (p:Int)] rfl rfl (World.news_of_block HNW.out) (by simp [Value.oneCell']) (by omega) (by unfold maxLen;omega) (by omega) (Nat.zero_le _) (w3.heap.size+1+1) (by simp) ?_);intro g cp w5 hown hgrow hat hglt;have hpu:=OwnT.push ⟨kd,tx,p⟩ ⟨hkd.1,hkd.2,by show tx.length<=_;omega,by show p<=_;omega⟩ HO4.out HDS.out.nowhere (by rw [<- HKL.out];exact hown) hgrow (by simpa using hat);have HPU:=Lh hpu;clear hpu hown hgrow hat)
     obtain ⟨g1,g2,g3⟩:=HPU.out
     have hs3:=HB3.out.size
     have HB5:=Lh (HB3.out.trans ((HB4.out.mono hs3).trans (g2.below (by have:=HB4.out.size;omega) (fun k hk=>HQ.out k hk))))
     have hblk:=(g2.block w3.heap.size (by simp;omega) (fun h=>by have:=HQ4.out _ h;omega)).trans HBX.out
     have x1:w5.cell? ⟨w3.heap.size,1,none⟩=some (.string ⟨tx.toArray⟩):=cH hblk rfl
     have HPA3:=Lh (HPA2.out w5 HB5.out)
     rw [<- HCAST.out] at HPA3
     rw [<- HKL.out] at g1
     have HG1:=Lh g1
     have HG3:=Lh g3
     clear g1 g2 g3 hblk
     go_wp2_with fail
     refine HPA3.out.mono ?_
     rintro e w6 ⟨p',rfl,hpt,hph,rfl⟩
     have HPT:=Lh hpt
     have HPH:=Lh hph
     have hple:=hpt.le
     have hple':=hpt.le'
     clear hpt hph
     go_wp2_with fail
     refine ⟨⟨p',some g,acc++[⟨kd,tx,p⟩],rfl,hple',by have:=HKL.out;simp;omega,HG1.out,fun k hk=>?_,by rw [<- HNEW.out];exact (HPT.out.same _).symm,HPH.out,HB5.out⟩,by simp [intOf];omega⟩
     cases hk
     rcases HG3.out with h | h
     ·exact HQ.out _ h
     ·rw [h];simp;omega
   ·have hend:p=l.length:=by omega
    have hfin:tokensF l=(acc++[⟨4,[],l.length⟩],0,0):=by
     rw [HTF.out,<- HSM.out,hend,List.drop_length,lexS_end]
    have HFIN:=Lh hfin
    have HROW2:Hid ((wr.alloc (.cells #[.int .i64 4,.string ⟨#[]⟩,.int .i64 (l.length:Int)] 51)).ownsRow 0 51 3 (.slice la kl lcap) kl cs0):=ownsRow_below HROW.out ((Below.refl _ _).alloc (Nat.le_refl _) _)
    have HOWN2:Hid (OwnT (wr.alloc (.cells #[.int .i64 4,.string ⟨#[]⟩,.int .i64 (l.length:Int)] 51)) 51 (.slice la kl lcap) q acc):=HO.out.below ((Below.refl _ _).alloc (Nat.le_refl _) _)
    clear hfin hb hend
    go_wp2_with (at_builtin;go_must (refine wpList_append_lies _ rfl _ _ 47 rfl 0 51 i0 _ 3 32 Tryz.underlying47 hi hz0 hz1 hz2 rfl (by decide) (.slice la kl lcap) _ _ rfl HROW2.out ⟨wr.heap.size,0,none⟩ 1 1 [.int .i64 4,.string ⟨#[]⟩,.int .i64 (l.length:Int)] rfl rfl (World.news_of_block (heap_alloc_new wr _)) (by simp [Value.oneCell']) (by omega) (by unfold maxLen;omega) (by omega) (Nat.zero_le _) (wr.heap.size+1) (by simp) ?_);intro g cp w3 hown hgrow hat hglt;have HO3:=Lh hown;have HGR:=Lh hgrow;have HAT:=Lh hat;clear hown hgrow hat)
    go_ret3
    have hKL:=HKL.out
    subst hKL
    obtain ⟨g1,g2,g3⟩:=HOWN2.out.push ⟨4,[],l.length⟩ ⟨by show (0:Int)<=4;decide,by show (4:Int)<=4;decide,by simp,by show l.length<=_;omega⟩ HDS.out.nowhere HO3.out HGR.out (by simpa using HAT.out)
    refine TkPost.mk' (p:=0) HFIN.out g1 (fun k hk=>?_) (HB.out.trans ((((Below.refl _ _).alloc (Nat.le_refl _) _).mono hbs).trans (g2.below (by simp;omega) (fun k hk=>HQ.out k hk))))
    cases hk
    rcases g3 with h | h
    ·exact HQ.out _ h
    ·rw [h];simp;omega

end Go.Proofs.YtpmalchlecnjbaaGreatDoor
