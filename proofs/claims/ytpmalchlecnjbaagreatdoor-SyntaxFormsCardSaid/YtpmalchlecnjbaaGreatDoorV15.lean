/- Joined texts: YLexA. -/
import Derived.Test.YtpmalchlecnjbaaGreatDoorV09
import Derived.Test.YtpmalchlecnjbaaGreatDoorChecked
import Derived.Deep.QuietTactic
import Derived.BigQuiet
import Derived.Shelf.Abstract
set_option maxHeartbeats 1000000
set_option maxRecDepth 100000
set_option linter.unusedVariables false
set_option linter.unusedSimpArgs false
/- lex.of, run$1, slices.IndexFunc over bytes, run, word. -/
namespace Go.Proofs.YtpmalchlecnjbaaGreatDoor
open Go.RowKit Go.Chalk
def ofF (c:UInt8):Int:=if smallB c then 1 else if digitB c then 2 else if c.toNat==95 then 4 else 0
def kindB (k:Int) (c:UInt8):Bool:=if k=7 then innerB c else digitB c

theorem of_any (c:UInt8) (w:World):Calls Tryz.prog 108 #[.int .u8 (c.toNat:Int)] w fun e w'=>e=.returned (.int .u8 (ofF c))/\w'=w:=by
 have hb:=c.toNat_lt
 by_cases h1:smallB c=true
 ·have h:ofF c=1:=by simp [ofF,h1]
  rw [h]
  simp only [smallB,Bool.and_eq_true,decide_eq_true_eq] at h1
  obtain ⟨h1,h2⟩:=h1
  have e1:decide ((97:Int)<=(c.toNat:Int))=true:=by simp;omega
  have e2:decide ((c.toNat:Int)<=122)=true:=by simp;omega
  clear h
  go_enter Tryz.func108,Tryz.ntmps108
  go_wp2_with fail
  go_ret
  exact ⟨rfl,rfl⟩
 ·have h1':smallB c=false:=by simpa using h1
  by_cases h2:digitB c=true
  ·have h:ofF c=2:=by simp [ofF,h1',h2]
   rw [h]
   simp only [digitB,Bool.and_eq_true,decide_eq_true_eq] at h2
   obtain ⟨h2,h3⟩:=h2
   have e1:decide ((97:Int)<=(c.toNat:Int))=false:=by simp;omega
   have e2:decide ((48:Int)<=(c.toNat:Int))=true:=by simp;omega
   have e3:decide ((c.toNat:Int)<=57)=true:=by simp;omega
   clear h h1 h1'
   go_enter Tryz.func108,Tryz.ntmps108
   go_wp2_with fail
   go_ret
   exact ⟨rfl,rfl⟩
  ·have h2':digitB c=false:=by simpa using h2
   have e1:(decide ((97:Int)<=(c.toNat:Int))&&decide ((c.toNat:Int)<=122))=false:=by
    simp only [smallB] at h1'
    simp only [Bool.and_eq_false_iff,decide_eq_false_iff_not] at h1' ⊢
    omega
   have e2:(decide ((48:Int)<=(c.toNat:Int))&&decide ((c.toNat:Int)<=57))=false:=by
    simp only [digitB] at h2'
    simp only [Bool.and_eq_false_iff,decide_eq_false_iff_not] at h2' ⊢
    omega
   by_cases h3:c.toNat=95
   ·have h:ofF c=4:=by simp [ofF,h1',h2',h3]
    rw [h,h3]
    clear h e1 e2 h1 h2 h1' h2'
    go_enter Tryz.func108,Tryz.ntmps108
    go_wp2_with fail
    go_ret
    exact ⟨rfl,rfl⟩
   ·have h:ofF c=0:=by simp [ofF,h1',h2',h3]
    rw [h]
    have e3:((c.toNat:Int)==95)=false:=by simp;omega
    clear h h1 h2 h1' h2'
    by_cases g1:(97:Int)<=(c.toNat:Int) <;> by_cases g2:(48:Int)<=(c.toNat:Int)
    ·have e4:decide ((97:Int)<=(c.toNat:Int))=true:=by simpa using g1
     have e5:decide ((c.toNat:Int)<=122)=false:=by simpa [e4] using e1
     have e6:decide ((48:Int)<=(c.toNat:Int))=true:=by simpa using g2
     have e7:decide ((c.toNat:Int)<=57)=false:=by simpa [e6] using e2
     clear e1 e2 g1 g2
     go_enter Tryz.func108,Tryz.ntmps108
     go_wp2_with fail
     go_ret
     exact ⟨rfl,rfl⟩
    ·omega
    ·have e4:decide ((97:Int)<=(c.toNat:Int))=false:=by simpa using g1
     have e6:decide ((48:Int)<=(c.toNat:Int))=true:=by simpa using g2
     have e7:decide ((c.toNat:Int)<=57)=false:=by simpa [e6] using e2
     clear e1 e2 g1 g2
     go_enter Tryz.func108,Tryz.ntmps108
     go_wp2_with fail
     go_ret
     exact ⟨rfl,rfl⟩
    ·have e4:decide ((97:Int)<=(c.toNat:Int))=false:=by simpa using g1
     have e6:decide ((48:Int)<=(c.toNat:Int))=false:=by simpa using g2
     clear e1 e2 g1 g2
     go_enter Tryz.func108,Tryz.ntmps108
     go_wp2_with fail
     go_ret
     exact ⟨rfl,rfl⟩

theorem ofF_small (c:UInt8):(ofF c==1)=smallB c:=by
 unfold ofF;by_cases h1:smallB c=true
 ·simp [h1]
 ·simp only [Bool.not_eq_true] at h1;rw [h1];simp only [Bool.false_eq_true,if_false];split <;> (try split) <;> decide
theorem kind_of (k:Int) (hk:k=7∨k=2) (c:UInt8):(bits BinOp.and IntKind.u8 (ofF c) k==0) = !kindB k c:=by
 have hd:smallB c=true->digitB c=false:=by simp only [smallB,digitB];simp;omega
 rcases hk with rfl | rfl
 ·unfold kindB ofF innerB
  by_cases h1:smallB c=true
  ·simp [h1];decide
  ·simp only [Bool.not_eq_true] at h1
   by_cases h2:digitB c=true
   ·simp [h1,h2];decide
   ·simp only [Bool.not_eq_true] at h2
    by_cases h3:c.toNat=95
    ·simp [h1,h2,h3];decide
    ·have h3':(c.toNat==95)=false:=by simpa using h3
     simp only [h1,h2,h3',Bool.false_eq_true,if_false,Bool.or_false];decide
 ·unfold kindB ofF
  by_cases h1:smallB c=true
  ·simp [h1,hd h1];decide
  ·simp only [Bool.not_eq_true] at h1
   by_cases h2:digitB c=true
   ·simp [h1,h2];decide
   ·simp only [Bool.not_eq_true] at h2
    by_cases h3:c.toNat=95
    ·simp [h1,h2,h3];decide
    ·have h3':(c.toNat==95)=false:=by simpa using h3
     simp only [h1,h2,h3',Bool.false_eq_true,if_false,show ¬ ((2:Int)=7) from by decide];decide

theorem pred_any (k:Int) (hk:k=7∨k=2) (c:UInt8) (kb:Nat) (w:World) (hcell:w.cell? ⟨kb,0,none⟩=some (.int .u8 k)) :
  Calls Tryz.prog 156 #[.int .u8 (c.toNat:Int),.pointer (some ⟨kb,0,none⟩)] w fun e w'=>e=.returned (.bool (!kindB k c))/\Below w.heap.size w w':=by
 rw [<- kind_of k hk c]
 clear hk
 go_enter Tryz.func156,Tryz.ntmps156
 go_wp2_with fail
 go_quiet ((go_at_call 108;refine Calls.quiet_of_same (of_any _ _)))
 go_wp2_with fail
 go_ret
 exact ⟨rfl,below_drewN (Below.refl _ _) _⟩

def findBY (p:UInt8->Bool) (l:Bs):Int:=match l.findIdx? p with | some i=>i | none => -1

def PredB (f:FuncId) (lb:Array Value) (p:UInt8->Bool) (w:World):Prop :=
 ∀ (c:UInt8) (W:World),Below w.heap.size w W->Calls Tryz.prog f (#[.int .u8 (c.toNat:Int)]++lb) W fun e w'=>e=.returned (.bool (p c))/\Below W.heap.size W w'

theorem indexB_any (f:FuncId) (lb:Array Value) (p:UInt8->Bool) (l:Bs) (a:Option Addr) (b o cap:Nat) (w:World) (hsb:SB w w.heap.size l a b o) (hp:PredB f lb p w)
  (hent:∀ (args:Array Value) (w:World),(callFunc f args).run Tryz.prog w=.ok (.enter f args) w) (hmax:l.length<=281474976710656) :
  Calls Tryz.prog 155 #[.slice a l.length cap,.func (.func f) #[] lb] w fun e w'=>e=.returned (.int .i64 (findBY p l))/\Below w.heap.size w w':=by
 have HSB:=Lh hsb
 have HP:=Lh hp
 clear hsb hp
 go_enter Tryz.func155,Tryz.ntmps155
 go_wp2_with fail
 go_loopw [8,5] (fun i _ wr=>∃ j:Nat,j<=l.length/\i=.int .i64 j/\Hid ((l.take j).findIdx? p=none)/\Below w.heap.size w wr) (fun i _ _=>l.length - (intOf i).toNat)
 case atStart=>exact ⟨0,Nat.zero_le _,rfl,by simp [Hid],Below.refl _ _⟩
 case round =>
  obtain ⟨j,hj,rfl,HF,hb⟩:=hrel
  have hbs:=hb.size
  by_cases hlt:j<l.length
  ·obtain ⟨rfl,hbl⟩:=HSB.out.1 (by omega)
   have hcl:=(hb.cell (p:=⟨b,o+j,none⟩) hbl).trans (HSB.out.2 j hlt)
   have hcall:=HP.out l[j] wr hb
   have HC:=Lh hcall
   have hnext:(l.take (j+1)).findIdx? p=if p l[j] then some j else none:=by
    rw [List.take_succ_eq_append_getElem hlt,List.findIdx?_append,HF.out]
    simp [List.findIdx?_cons,Nat.min_eq_left hj]
   have hfound:p l[j]=true->findBY p l=j:=fun h=>by
    have:l.findIdx? p=some j:=by
     rw [List.findIdx?_eq_some_iff_getElem]
     refine ⟨hlt,h,fun k hk=>?_⟩
     have h0:=HF.out
     rw [List.findIdx?_eq_none_iff] at h0
     have:=h0 l[k] (List.mem_take_iff_getElem.2 ⟨k,by omega,rfl⟩)
     simpa using this
    simp [findBY,this]
   have HN:=Lh (aI hnext hfound)
   clear hcall hnext hfound
   go_wp2_with fail
   refine HC.out.mono ?_
   rintro e w' ⟨rfl,hb'⟩
   have hbb:=hb.trans (hb'.mono hbs)
   obtain ⟨hnext,hfound⟩:=HN.out
   generalize p l[j]=r at hnext hfound ⊢
   have HN2:=Lh (aI hnext hfound)
   clear hnext hfound hcl
   cases r
   ·go_wp2_with fail
    exact ⟨⟨j+1,by omega,by go_num,by have:=HN2.out.1;simpa [Hid] using this,hbb⟩,by simp [intOf];omega⟩
   ·go_wp2_with fail
    go_ret
    exact ⟨ret_intY (HN2.out.2 (by first | rfl | trivial)).symm,hbb⟩
  ·go_wp2_with fail
   go_ret
   have h0:=HF.out
   rw [List.take_of_length_le (by omega)] at h0
   exact ⟨ret_intY (by simp [findBY,h0]),hb⟩

theorem findB_run (q:UInt8->Bool):∀ l:Bs,(l.findIdx? (fun c=>!q c)=none/\(l.takeWhile q).length=l.length)∨∃ i:Nat,l.findIdx? (fun c=>!q c)=some i/\(l.takeWhile q).length=i
 | []=>.inl ⟨rfl,rfl⟩
 | c :: r=>by
  by_cases h:q c=true
  ·rcases findB_run q r with ⟨h1,h2⟩ | ⟨i,h1,h2⟩
   ·exact .inl (by simp [List.findIdx?_cons,h,h1,h2])
   ·exact .inr ⟨i+1,by simp [List.findIdx?_cons,h,h1,h2]⟩
  ·exact .inr ⟨0,by simp [List.findIdx?_cons,h]⟩

theorem run_any (k:Int) (hk:k=7∨k=2) (l:Bs) (a:Option Addr) (b o cap:Nat) (w:World) (hsb:SB w w.heap.size l a b o) (hmax:l.length<=281474976710656) :
  Calls Tryz.prog 109 #[.slice a l.length cap,.int .u8 k] w fun e w'=>e=.returned (.int .i64 ((l.takeWhile (kindB k)).length:Int))/\Below w.heap.size w w':=by
 have hba:Below w.heap.size w (w.alloc (.cells #[.int .u8 k] 133)):=(Below.refl _ _).alloc (Nat.le_refl _) _
 have hix:=indexB_any 156 #[.pointer (some ⟨w.heap.size,0,none⟩)] (fun c=>!kindB k c) l a b o cap (w.alloc (.cells #[.int .u8 k] 133)) (hsb.below hba (by simp)) (fun c W hW=>by
  refine (pred_any k hk c w.heap.size W ?_).mono fun e w' h=>h
  exact cH (boxed hW (by simp)) rfl) (enters_of Tryz.func156 (by kernel_rfl) rfl) hmax
 have HI:=Lh hix
 have HR:=Lh (findB_run (kindB k) l)
 clear hix hsb hba hk
 go_enter Tryz.func109,Tryz.ntmps109
 go_wp2_with fail
 refine HI.out.mono ?_
 rintro e w' ⟨rfl,hb⟩
 have HB:=Lh (Below.ahead hb (by simp))
 clear hb
 rcases HR.out with ⟨h1,h2⟩ | ⟨i,h1,h2⟩
 ·have e1:findBY (fun c=>!kindB k c) l = -1:=by simp [findBY,h1]
  rw [e1]
  have H2:=Lh h2
  clear h1 h2 e1
  go_wp2_with fail
  go_ret
  exact ⟨ret_intY (by rw [H2.out]),HB.out⟩
 ·have e1:findBY (fun c=>!kindB k c) l=i:=by simp [findBY,h1]
  rw [e1]
  have H2:=Lh h2
  clear h1 h2 e1
  have e2:decide ((0:Int)<=(i:Int))=true:=by simp
  go_wp2_with fail
  go_ret
  exact ⟨ret_intY (by rw [H2.out]),HB.out⟩

theorem takeWhile_len {q:UInt8->Bool}:∀ l:Bs,((l.takeWhile q).length==l.length)=l.all q
 | []=>rfl
 | c :: r=>by
  rw [List.takeWhile_cons,List.all_cons]
  by_cases h:q c=true
  ·rw [if_pos h,h,Bool.true_and,<- takeWhile_len r];simp
  ·simp only [Bool.not_eq_true] at h;rw [h];simp

theorem word_any (l:Bs) (a:Option Addr) (b o cap:Nat) (w:World) (hsb:SB w w.heap.size l a b o) (hmax:l.length<=281474976710656) :
  Calls Tryz.prog 110 #[.slice a l.length cap] w fun e w'=>e=.returned (.bool (wordB l))/\Below w.heap.size w w':=by
 cases l with
 | nil =>
  rw [List.length_nil]
  clear hsb
  go_enter Tryz.func110,Tryz.ntmps110
  go_wp2_with fail
  go_ret
  exact ⟨rfl,Below.refl _ _⟩
 | cons c r =>
  obtain ⟨rfl,hbl⟩:=hsb.1 (by simp)
  have h0:w.cell? ⟨b,o,none⟩=some (.int .u8 (c.toNat:Int)):=hsb.2 0 (by simp)
  have HR:=Lh (run_any 7 (.inl rfl) (c :: r) _ b o cap w hsb hmax)
  have hall:((((c :: r).takeWhile (kindB 7)).length:Int)==((c :: r).length:Int))=(c :: r).all innerB:=by
   have:kindB 7=innerB:=by funext x;rfl
   rw [this,<- takeWhile_len]
   rw [Bool.eq_iff_iff];simp only [beq_iff_eq];omega
  have hw:wordB (c :: r)=(smallB c&&(c :: r).all innerB&&decide ((c :: r).length<=64)):=rfl
  rw [hw,<- hall,<- ofF_small]
  have hlen:decide ((c :: r).length<=64)=decide (((c :: r).length:Int)<=64):=by
   rw [Bool.eq_iff_iff];simp only [decide_eq_true_eq];omega
  rw [hlen]
  have hpos:decide ((0:Int)<((c :: r).length:Int))=true:=by simp
  have hpos':(0:Int)<((c :: r).length:Int):=by simp
  clear hall hw hlen hsb
  generalize (c :: r).length=n at *
  generalize (((c :: r).takeWhile (kindB 7)).length:Int)=m at *
  have ho:(ofF c==1)=true∨(ofF c==1)=false:=by cases (ofF c==1) <;> simp
  rcases ho with ho | ho
  ·rw [ho]
   have hm:(m==(n:Int))=true∨(m==(n:Int))=false:=by cases (m==(n:Int)) <;> simp
   rcases hm with hm | hm
   ·rw [hm]
    go_enter Tryz.func110,Tryz.ntmps110
    go_wp2_with (first | (go_at_call 108;refine (of_any _ _).mono ?_;rintro e w' ⟨rfl,rfl⟩) | (go_at_call 109;refine HR.out.mono ?_;rintro e w' ⟨rfl,hb⟩))
    go_ret
    exact ⟨by simp,hb⟩
   ·rw [hm]
    go_enter Tryz.func110,Tryz.ntmps110
    go_wp2_with (first | (go_at_call 108;refine (of_any _ _).mono ?_;rintro e w' ⟨rfl,rfl⟩) | (go_at_call 109;refine HR.out.mono ?_;rintro e w' ⟨rfl,hb⟩))
    go_ret
    exact ⟨by simp,hb⟩
  ·rw [ho]
   go_enter Tryz.func110,Tryz.ntmps110
   go_wp2_with (first | (go_at_call 108;refine (of_any _ _).mono ?_;rintro e w' ⟨rfl,rfl⟩))
   go_ret
   exact ⟨by simp,Below.refl _ _⟩
end Go.Proofs.YtpmalchlecnjbaaGreatDoor
