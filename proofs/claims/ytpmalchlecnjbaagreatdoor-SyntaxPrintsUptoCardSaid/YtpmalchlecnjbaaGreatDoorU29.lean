/- Joined texts: YLexH, YLexR, YLexS, YLexT, YLexU, YLexV, YTok. -/
import Derived.Test.YtpmalchlecnjbaaGreatDoorU28
import Derived.Lib.SlBytesConst
import Derived.Test.YtpmalchlecnjbaaGreatDoorU02
set_option maxRecDepth 100000
set_option linter.unusedVariables false
set_option linter.unusedSimpArgs false
/- live: the chapter's examples. -/
namespace Go.Proofs.YtpmalchlecnjbaaGreatDoor
open Go.RowKit Go.Chalk
end Go.Proofs.YtpmalchlecnjbaaGreatDoor
/- The reference: letter, digit, inner, Word, Numeral, Signs, Sign. -/
namespace Go.Chalk
open Go.RowKit Go.Proofs.YtpmalchlecnjbaaGreatDoor
theorem toList_getElem (s:ByteArray) (k:Nat) (h:k<s.size):s.data.toList[k]'(by simpa using h)=s[k]:=rfl
theorem take_next (s:ByteArray) (k:Nat) (h:k<s.size):s.data.toList.take (k+1)=s.data.toList.take k++[s[k]]:=by
 rw [List.take_succ_eq_append_getElem (by simpa using h)];rfl
theorem size_list (s:ByteArray):s.data.toList.length=s.size:=by simp
theorem word_specY {s:ByteArray} (h:s.data.toList.all innerB=true):wordB s.data.toList=(decide ((1:Int)<=(s.size:Int))&&decide ((s.size:Int)<=64)&&(if h:0<s.size then smallB s[0] else false)):=by
 have hl:=size_list s
 by_cases h0:0<s.size
 ·have hd:s.data.toList=s[0] :: s.data.toList.drop 1:=by
   have:=List.drop_eq_getElem_cons (l:=s.data.toList) (i:=0) (by omega)
   rw [List.drop_zero] at this
   exact this
  rw [hd] at h hl ⊢
  rw [wordB,h,hl]
  simp only [h0,dite_true]
  have e1:decide ((1:Int)<=(s.size:Int))=true:=by simp;omega
  have e2:decide ((s.size:Int)<=64)=decide (s.size<=64):=by rw [Bool.eq_iff_iff];simp only [decide_eq_true_eq];omega
  rw [e1,e2]
  cases smallB s[0] <;> simp
 ·have:s.data.toList=[]:=List.length_eq_zero_iff.1 (by omega)
  rw [this]
  have e1:decide ((1:Int)<=(s.size:Int))=false:=by simp;omega
  rw [e1];rfl
end Go.Chalk
namespace Go.Proofs.YtpmalchlecnjbaaGreatDoor
open Go.RowKit Go.Chalk
theorem letter_any (c:UInt8) (w:World):Calls Tryz.prog 132 #[.int .u8 (c.toNat:Int)] w fun e w'=>e=.returned (.bool (smallB c))/\w'=w:=by
 have e1:smallB c=(decide ((97:Int)<=(c.toNat:Int))&&decide ((c.toNat:Int)<=122)):=by
  unfold smallB;rw [Bool.eq_iff_iff];simp only [Bool.and_eq_true,decide_eq_true_eq];omega
 rw [e1]
 clear e1
 generalize (c.toNat:Int)=n
 cases h1:decide ((97:Int)<=n)
 ·go_enter Tryz.func132,Tryz.ntmps132
  go_wp2_with fail
  go_ret
  exact ⟨by simp,rfl⟩
 ·go_enter Tryz.func132,Tryz.ntmps132
  go_wp2_with fail
  go_ret
  exact ⟨by simp,rfl⟩
theorem digit_any (c:UInt8) (w:World):Calls Tryz.prog 135 #[.int .u8 (c.toNat:Int)] w fun e w'=>e=.returned (.bool (digitB c))/\w'=w:=by
 have e1:digitB c=(decide ((48:Int)<=(c.toNat:Int))&&decide ((c.toNat:Int)<=57)):=by
  unfold digitB;rw [Bool.eq_iff_iff];simp only [Bool.and_eq_true,decide_eq_true_eq];omega
 rw [e1]
 clear e1
 generalize (c.toNat:Int)=n
 cases h1:decide ((48:Int)<=n)
 ·go_enter Tryz.func135,Tryz.ntmps135
  go_wp2_with fail
  go_ret
  exact ⟨by simp,rfl⟩
 ·go_enter Tryz.func135,Tryz.ntmps135
  go_wp2_with fail
  go_ret
  exact ⟨by simp,rfl⟩
theorem inner_anyY (c:UInt8) (w:World):Calls Tryz.prog 133 #[.int .u8 (c.toNat:Int)] w fun e w'=>e=.returned (.bool (innerB c))/\w'=w:=by
 have e1:innerB c=(smallB c||digitB c||((c.toNat:Int)==95)):=by
  unfold innerB
  have:(c.toNat==95)=((c.toNat:Int)==95):=by rw [Bool.eq_iff_iff];simp only [beq_iff_eq];omega
  rw [this]
 rw [e1]
 have HL:=Lh (letter_any c w)
 have HD:=Lh (digit_any c w)
 clear e1
 generalize (c.toNat:Int)=n at *
 cases h1:smallB c
 ·rw [h1] at HL
  cases h2:digitB c
  ·rw [h2] at HD
   clear h1 h2
   go_enter Tryz.func133,Tryz.ntmps133
   go_wp2_with (first | (go_at_call 132;refine HL.out.mono ?_;rintro e w' ⟨rfl,rfl⟩) | (go_at_call 135;refine HD.out.mono ?_;rintro e w' ⟨rfl,rfl⟩))
   go_ret
   exact ⟨by simp,rfl⟩
  ·rw [h2] at HD
   clear h1 h2
   go_enter Tryz.func133,Tryz.ntmps133
   go_wp2_with (first | (go_at_call 132;refine HL.out.mono ?_;rintro e w' ⟨rfl,rfl⟩) | (go_at_call 135;refine HD.out.mono ?_;rintro e w' ⟨rfl,rfl⟩))
   go_ret
   exact ⟨by simp,rfl⟩
 ·rw [h1] at HL
  clear h1
  go_enter Tryz.func133,Tryz.ntmps133
  go_wp2_with (first | (go_at_call 132;refine HL.out.mono ?_;rintro e w' ⟨rfl,rfl⟩))
  go_ret
  exact ⟨by simp,rfl⟩

theorem wordR_any (s:ByteArray) (w:World) (hs:s.size<=281474976710656):Calls Tryz.prog 134 #[.string s] w fun e w'=>e=.returned (.bool (wordB s.data.toList))/\w'=w:=by
 have HFL:Hid (∀ k (h:k<s.size),innerB s[k]=false->wordB s.data.toList=false):=fun k h hi=>by
  cases hl:s.data.toList with
  | nil=>rfl
  | cons c r =>
   rw [wordB]
   have:(c :: r).all innerB=false:=List.all_eq_false.2 ⟨s[k],by rw [<- hl,<- toList_getElem s k h];exact List.getElem_mem _,by simp [hi]⟩
   rw [this];simp
 have HWS:=Lh (word_specY (s:=s))
 go_enter Tryz.func134,Tryz.ntmps134
 go_wp2_with fail
 go_loop [6,3] (fun i _=>∃ k:Nat,k<=s.size/\i=.int .i64 k/\Hid ((s.data.toList.take k).all innerB=true)) (fun i _=>s.size - (intOf i).toNat)
 case atStart=>exact ⟨0,Nat.zero_le _,rfl,rfl⟩
 case round =>
  obtain ⟨k,hk,rfl,HA⟩:=hrel
  by_cases hlt:k<s.size
  ·have HC:=Lh (inner_anyY s[k] w)
   have HT:Hid ((s.data.toList.take (k+1)).all innerB=innerB s[k]):=by
    show _=_
    rw [take_next s k hlt,List.all_append,HA.out];simp
   have HF2:=Lh (HFL.out k hlt)
   cases hi:innerB s[k]
   ·rw [hi] at HC HF2
    clear hi
    go_wp2_with fail
    refine HC.out.mono ?_
    rintro e w' ⟨rfl,rfl⟩
    go_wp2_with fail
    go_ret
    exact ⟨by rw [HF2.out (by first | rfl | trivial)];rfl,rfl⟩
   ·rw [hi] at HC HT
    clear hi HF2
    go_wp2_with fail
    refine HC.out.mono ?_
    rintro e w' ⟨rfl,rfl⟩
    go_wp2_with fail
    go_round
    case rel=>exact ⟨k+1,by omega,by go_num,HT.out⟩
    case measure=>simp [intOf];omega
  ·have hall:=HA.out
   rw [List.take_of_length_le (by rw [size_list];omega)] at hall
   have hws:=HWS.out hall
   obtain rfl:k=s.size:=by omega
   by_cases h0:0<s.size
   ·simp only [h0,dite_true] at hws
    have HL:=Lh (letter_any s[0] w)
    have e1:decide ((1:Int)<=(s.size:Int))=true:=by simp;omega
    rw [e1] at hws
    cases e2:decide ((s.size:Int)<=64)
    ·rw [e2] at hws
     have HW:=Lh hws
     clear hws hall HFL HWS
     go_wp2_with fail
     go_ret
     exact ⟨by rw [HW.out];simp,rfl⟩
    ·rw [e2] at hws
     have HW:=Lh hws
     clear hws hall HFL HWS
     go_wp2_with (go_at_call 132;refine HL.out.mono ?_;rintro e w' ⟨rfl,rfl⟩)
     go_ret
     exact ⟨by rw [HW.out];simp,rfl⟩
   ·have e1:decide ((1:Int)<=(s.size:Int))=false:=by simp;omega
    rw [e1] at hws
    have HW:=Lh hws
    clear hws hall HFL HWS
    go_wp2_with fail
    go_ret
    exact ⟨by rw [HW.out];simp,rfl⟩

end Go.Proofs.YtpmalchlecnjbaaGreatDoor
/- The reference: Signs, Sign, may, pass. -/
namespace Go.Chalk
open Go.RowKit Go.Proofs.YtpmalchlecnjbaaGreatDoor
end Go.Chalk
namespace Go.Proofs.YtpmalchlecnjbaaGreatDoor
open Go.RowKit Go.Chalk
end Go.Proofs.YtpmalchlecnjbaaGreatDoor
/- The reference: pass. -/
namespace Go.Chalk
open Go.RowKit Go.Proofs.YtpmalchlecnjbaaGreatDoor
structure PassTo (l:Bs) (p p':Nat):Prop where
 le:p<=p'
 le':p'<=l.length
 same:∀ acc,lexS (l.drop p) p acc=lexS (l.drop p') p' acc
theorem PassTo.refl {l:Bs} {p:Nat} (h:p<=l.length):PassTo l p p:=⟨Nat.le_refl _,h,fun _=>rfl⟩
theorem takeWhile_upto:∀ (m:Bs) (n:Nat) (q:UInt8->Bool),n<=m.length->(∀ i (h:i<m.length),i<n->q m[i]=true)->(∀ h:n<m.length,q m[n]=false)->(m.takeWhile q).length=n
 | [],n,_,hn,_,_=>by simp at hn;simp [hn]
 | c :: r,0,q,_,_,h2=>by
  have:=h2 (by simp)
  simp only [List.getElem_cons_zero] at this
  rw [List.takeWhile_cons,this];rfl
 | c :: r,n+1,q,hn,h1,h2=>by
  have h0:=h1 0 (by simp) (by omega)
  simp only [List.getElem_cons_zero] at h0
  rw [List.takeWhile_cons,h0]
  simp only [if_true,List.length_cons,Nat.add_right_cancel_iff]
  refine takeWhile_upto r n q (by simpa using hn) (fun i h hi=>?_) (fun h=>?_)
  ·have:=h1 (i+1) (by simpa using h) (by omega)
   simpa using this
  ·have:=h2 (by simpa using h)
   simpa using this
end Go.Chalk
namespace Go.Proofs.YtpmalchlecnjbaaGreatDoor
open Go.RowKit Go.Chalk
end Go.Proofs.YtpmalchlecnjbaaGreatDoor
/- The reference: one. -/
namespace Go.Chalk
open Go.RowKit Go.Proofs.YtpmalchlecnjbaaGreatDoor
def AllIn (q:UInt8->Bool) (l:Bs) (p k:Nat):Prop:=∀ i (h:i<l.length),p<=i->i<k->q l[i]=true
theorem AllIn.next {q:UInt8->Bool} {l:Bs} {p k:Nat} (h:AllIn q l p k) (hk:k<l.length) (hq:q l[k]=true):AllIn q l p (k+1):=fun i hi h1 h2=>by
 rcases Nat.lt_succ_iff_lt_or_eq.1 h2 with h' | rfl
 ·exact h i hi h1 h'
 ·exact hq
theorem AllIn.run {q:UInt8->Bool} {l:Bs} {p k:Nat} (h:AllIn q l p k) (hp:p<=k) (hk:k<=l.length) (hend:∀ h:k<l.length,q l[k]=false):(l.drop p).takeWhile q=(l.drop p).take (k - p):=by
 have hl:((l.drop p).takeWhile q).length=k - p:=by
  refine takeWhile_upto _ _ _ (by rw [List.length_drop];omega) (fun i hi hik=>?_) (fun hi=>?_)
  ·rw [List.length_drop] at hi
   rw [List.getElem_drop]
   exact h (p+i) (by omega) (by omega) (by omega)
  ·rw [List.length_drop] at hi
   rw [List.getElem_drop]
   have e:p+(k - p)=k:=by omega
   simp only [e]
   exact hend (by omega)
 rw [<- hl,takeWhile_takeY]
end Go.Chalk
namespace Go.Proofs.YtpmalchlecnjbaaGreatDoor
open Go.RowKit Go.Chalk
end Go.Proofs.YtpmalchlecnjbaaGreatDoor
/- The reference: one (signs), whole. -/
namespace Go.Chalk
open Go.RowKit Go.Proofs.YtpmalchlecnjbaaGreatDoor
end Go.Chalk
namespace Go.Proofs.YtpmalchlecnjbaaGreatDoor
open Go.RowKit Go.Chalk
end Go.Proofs.YtpmalchlecnjbaaGreatDoor
/- The reference's Tokens. (out of YLawTokens, by tools/gy.py) -/
namespace Go.Proofs.YtpmalchlecnjbaaGreatDoor
open Go.RowKit Go.Chalk
end Go.Proofs.YtpmalchlecnjbaaGreatDoor
