/- Joined texts: RfA, R6A, R6B, R6C, R6D, R6E, R6F. -/
import Derived.Test.YtpmalchlecnjbaaGreatDoorV34
import Derived.Test.YtpmalchlecnjbaaGreatDoorV06
import Derived.Lib.IndexMore
import Derived.Laws.Concat
import Derived.Test.YtpmalchlecnjbaaGreatDoorV32
import Derived.Test.YtpmalchlecnjbaaGreatDoorV17
set_option maxHeartbeats 4000000
set_option maxRecDepth 100000
set_option linter.unusedVariables false
set_option linter.unusedSimpArgs false
/- The reference's school: stands, Named. -/
namespace Go.Chalk
open Go.RowKit
theorem contains_found {s sub:List UInt8} {i:Nat} (h1:i<=s.length) (h:Lib.occAt s sub i=true):Lib.contains s sub=true:=by
 unfold Lib.contains
 rcases Lib.index_spec s sub with ⟨_,h2⟩ | ⟨j,hj,_⟩
 ·rw [h2 i h1] at h;cases h
 ·rw [hj];simp
theorem contains_none {s sub:List UInt8} (h:∀ i,i+sub.length<=s.length->Lib.occAt s sub i=false) (h0:sub ≠ []):Lib.contains s sub=false:=by
 unfold Lib.contains
 rcases Lib.index_spec s sub with ⟨h2,_⟩ | ⟨j,hj,h3,h4,_⟩
 ·rw [h2];rfl
 ·rcases Lib.occAt_room h4 with h5 | h5
  ·rw [h j h5] at h4;cases h4
  ·exact absurd h5 h0
end Go.Chalk
namespace Go.Proofs.YtpmalchlecnjbaaGreatDoor
open Go.RowKit Go.Chalk
def GoodC (n:Int) (k:Nat):Prop:=(97<=n/\n<=122)∨(k ≠ 0/\((48<=n/\n<=57)∨n=95))
theorem good_inner {c:UInt8} {k:Nat}:GoodC (c.toNat:Int) k ↔ (innerB c=true/\(k=0->smallB c=true)):=by
 unfold GoodC innerB smallB digitB
 simp only [Bool.or_eq_true,Bool.and_eq_true,decide_eq_true_eq,beq_iff_eq]
 omega
theorem space_list (s:ByteArray):(⟨#[32]⟩++s++⟨#[32]⟩:ByteArray).data.toList=32 :: (s.data.toList++[32]):=by
 simp [ByteArray.data_append]
end Go.Proofs.YtpmalchlecnjbaaGreatDoor
/- The reference's formula: Word, stands, Name. (printed by gen_r6a.py) -/
namespace Go.Chalk
open Go.RowKit
theorem word_spec (s:ByteArray):wordB s.data.toList=(s.data.toList.all innerB&&(if h:0<s.size then smallB s[0] else false)&&(decide ((1:Int)<=(s.size:Int))&&decide ((s.size:Int)<=64))):=by
 have hl:s.data.toList.length=s.size:=by simp
 by_cases h0:0<s.size
 ·have hd:s.data.toList=s[0] :: s.data.toList.drop 1:=by
   have:=List.drop_eq_getElem_cons (l:=s.data.toList) (i:=0) (by omega)
   rw [List.drop_zero] at this
   exact this
  simp only [h0,dite_true]
  have e1:decide ((1:Int)<=(s.size:Int))=true:=by simp;omega
  have e2:decide ((s.size:Int)<=64)=decide (s.data.toList.length<=64):=by rw [Bool.eq_iff_iff];simp only [decide_eq_true_eq];omega
  rw [e1,e2]
  generalize s[0]=c at hd
  generalize s.data.toList.drop 1=r at hd
  rw [hd,wordB]
  cases smallB c <;> cases (c :: r).all innerB <;> cases decide ((c :: r).length<=64) <;> rfl
 ·have hn:s.data.toList=[]:=List.length_eq_zero_iff.1 (by omega)
  rw [hn]
  simp [h0,wordB]
theorem tw_app {s x:List UInt8} (h:s.all innerB=true):(s++32 :: x).takeWhile (fun c=>c != 32)=s:=by
 induction s with
 | nil=>rfl
 | cons c r ih =>
  rw [List.all_cons,Bool.and_eq_true] at h
  have hc:(c != 32)=true:=by
   cases hb:c != 32 with
   | true=>rfl
   | false =>
    have:c=32:=by simpa using hb
    rw [this] at h;exact absurd h.1 (by decide)
  rw [List.cons_append,List.takeWhile_cons,hc,ih h.2];rfl
theorem reserved_found {s:Bs} (hs:s.all innerB=true) (hne:s ≠ []):Lib.contains reservedS (32 :: (s++[32]))=reservedL.contains s:=by
 have key:∀ i:Fin 135,(reservedS.drop i.val).head?=some 32->(let t:=(reservedS.drop (i.val+1)).takeWhile (fun c=>c != 32);t=[]∨reservedL.contains t=true):=by decide +kernel
 have back:∀ t∈reservedL,Lib.contains reservedS (32 :: (t++[32]))=true:=by decide +kernel
 cases hb:reservedL.contains s with
 | true=>exact back s (by simpa using hb)
 | false =>
  refine contains_none (fun i hi=>?_) (by simp)
  cases ho:Lib.occAt reservedS (32 :: (s++[32])) i with
  | false=>rfl
  | true =>
   exfalso
   have hp:(32 :: (s++[32])).isPrefixOf (reservedS.drop i)=true:=ho
   rw [List.isPrefixOf_iff_prefix] at hp
   obtain ⟨x,hx⟩:=hp
   have hi2:i<135:=by
    simp only [List.length_cons,List.length_append,List.length_nil] at hi
    have:reservedS.length=135:=rfl
    omega
   have h1:=key ⟨i,hi2⟩ (by rw [<- hx];rfl)
   have h2:reservedS.drop (i+1)=s++32 :: x:=by
    have:reservedS.drop (i+1)=(reservedS.drop i).drop 1:=by rw [List.drop_drop]
    rw [this,<- hx];simp
   simp only [h2,tw_app hs] at h1
   rcases h1 with h1 | h1
   ·exact hne h1
   ·rw [hb] at h1;cases h1
def nameB' (s:Bs):Bool:=wordB s&&!(reservedL.contains s)
theorem frmNamed_iff' (s:Bs):frmNamed s=nameB' s:=by
 cases s with
 | nil=>rfl
 | cons c r =>
  rw [frmNamed,nameB',wordB,Bool.eq_iff_iff]
  simp only [Bool.and_eq_true,decide_eq_true_eq,List.all_cons]
  have hc:innerB c=true->(smallB c=true ↔ 97<=c.toNat):=by
   intro h
   simp only [innerB,smallB,digitB,Bool.or_eq_true,Bool.and_eq_true,decide_eq_true_eq,beq_iff_eq] at h ⊢
   constructor
   ·exact fun h=>h.1
   ·intro h97;rcases h with (h | h) | h
    ·exact h
    ·omega
    ·omega
  constructor
  ·rintro ⟨⟨⟨h1,h2⟩,h3,h4⟩,h5⟩
   exact ⟨⟨⟨(hc h3).2 h5,h3,h4⟩,h1⟩,h2⟩
  ·rintro ⟨⟨⟨h1,h3,h4⟩,h5⟩,h2⟩
   exact ⟨⟨⟨h5,h2⟩,h3,h4⟩,(hc h3).1 h1⟩
theorem frmNamed_word (s:Bs):frmNamed s=(wordB s&&!(Lib.contains reservedS (32 :: (s++[32])))):=by
 rw [frmNamed_iff',nameB']
 cases hw:wordB s with
 | false=>rfl
 | true =>
  cases s with
  | nil=>cases hw
  | cons c r =>
   rw [wordB] at hw
   simp only [Bool.and_eq_true] at hw
   rw [reserved_found hw.1.2 (by simp)]
end Go.Chalk
namespace Go.Proofs.YtpmalchlecnjbaaGreatDoor
open Go.RowKit Go.Chalk
theorem r6stands_any (x s:ByteArray) (w:World) (hx:x.size<=281474976710656) (hs:s.size<=281474976710656) :
  Calls Tryz.prog 193 #[.string x,.string s] w fun e w'=>e=.returned (.bool (Lib.contains x.data.toList s.data.toList))/\w'=w:=by
 go_enter Tryz.func193,Tryz.ntmps193
 go_wp2_with fail
 go_loop [5] (fun i=>∃ k:Nat,k<=x.size+1/\i=.int .i64 k/\Hid (∀ j,j<k->Lib.occAt x.data.toList s.data.toList j=false)) (fun i=>x.size+1 - (intOf i).toNat)
 case atStart=>exact ⟨0,Nat.zero_le _,rfl,Lh (fun j hj=>by omega)⟩
 case round =>
  obtain ⟨k,hk,rfl,HA⟩:=hrel
  by_cases hlt:k+s.size<=x.size
  ·have HOC:=Lh (Lib.occ_of_piece x s k hlt)
   have hkl:k<=x.data.toList.length:=by simp;omega
   have HFO:=Lh (contains_found (sub:=s.data.toList) hkl)
   clear hkl
   cases hoc:(x.extract k (k+s.size)).toList==s.toList
   ·have HN:Hid (∀ j,j<k+1->Lib.occAt x.data.toList s.data.toList j=false):=Lh (fun j hj=>by
     by_cases h:j=k
     ·subst h;rw [HOC.out,hoc]
     ·exact HA.out j (by omega))
    go_wp2_with fail
    go_round
    case rel=>exact ⟨k+1,by omega,by go_num,HN⟩
    case measure=>simp [intOf];omega
   ·have HN:=Lh (HFO.out (by rw [HOC.out,hoc]))
    go_wp2_with fail
    go_ret
    exact ⟨by rw [HN.out];rfl,rfl⟩
  ·have HN:Hid (Lib.contains x.data.toList s.data.toList=false):=Lh (by
    have hxl:x.data.toList.length=x.size:=by simp
    have hsl:s.data.toList.length=s.size:=by simp
    refine contains_none (fun i hi=>HA.out i (by omega)) (fun h=>?_)
    have:=HA.out 0 (by rw [h] at hsl;simp at hsl;omega)
    rw [h] at this
    simp [Lib.occAt] at this)
   go_wp2_with fail
   go_ret
   exact ⟨by rw [HN.out];rfl,rfl⟩
theorem r6word_any (s:ByteArray) (w:World) (hs:s.size<=1000000000):Calls Tryz.prog 192 #[.string s] w fun e w'=>e=.returned (.bool (wordB s.data.toList))/\w'=w:=by
 have HNS:=Lh (word_spec s)
 have HFL:Hid (∀ k (h:k<s.size),¬ GoodC (s[k].toNat:Int) k->wordB s.data.toList=false):=Lh (fun k h hg=>by
  rw [HNS.out]
  rw [good_inner] at hg
  by_cases h1:innerB s[k]=true
  ·have h2:k=0/\smallB s[k]=false:=by
    by_cases hk:k=0
    ·refine ⟨hk,?_⟩
     cases hsm:smallB s[k] with
     | false=>rfl
     | true=>exact absurd ⟨h1,fun _=>hsm⟩ hg
    ·exact absurd ⟨h1,fun h=>absurd h hk⟩ hg
   obtain ⟨rfl,h2⟩:=h2
   simp [h,h2]
  ·have:s.data.toList.all innerB=false:=List.all_eq_false.2 ⟨s[k],by
    have e:s.data.toList[k]'(by simpa using h)=s[k]:=rfl
    rw [<- e];exact List.getElem_mem _,h1⟩
   rw [this];simp)
 go_enter Tryz.func192,Tryz.ntmps192
 go_wp2_with fail
 go_loop [3,4,5] (fun i _ _=>∃ k:Nat,k<=s.size/\i=.int .i64 k/\Hid ((∀ j (h:j<s.size),j<k->innerB s[j]=true)/\(∀ h:0<s.size,0<k->smallB s[0]=true))) (fun i _ _=>s.size - (intOf i).toNat)
 case atStart=>exact ⟨0,Nat.zero_le _,rfl,Lh ⟨fun _ _ h=>by omega,fun _ h=>by omega⟩⟩
 case round =>
  obtain ⟨k,hk,rfl,HA⟩:=hrel
  by_cases hlt:k<s.size
  ·have HF2:=Lh (HFL.out k hlt)
   have HG:Hid (GoodC (s[k].toNat:Int) k->(∀ j (h:j<s.size),j<k+1->innerB s[j]=true)/\(∀ h:0<s.size,0<k+1->smallB s[0]=true)):=Lh (fun hg=>by
    obtain ⟨g1,g2⟩:=good_inner.1 hg
    refine ⟨fun j h hj=>?_,fun h _=>?_⟩
    ·by_cases e:j=k
     ·subst e;exact g1
     ·exact HA.out.1 j h (by omega)
    ·by_cases e:k=0
     ·subst e;exact g2 rfl
     ·exact HA.out.2 h (by omega))
   generalize hn:s[k].toNat=n at HF2 HG
   go_wp2_with fail
   all_goals first
    | (go_ret;exact ⟨by rw [HF2.out (by unfold GoodC;omega)];rfl,rfl⟩)
    | exact ⟨⟨k+1,by omega,by first | go_num | (congr 1;omega),Lh (HG.out (by unfold GoodC;omega))⟩,by simp [intOf];omega⟩
    | (rename_i hq;simp at hq;first | (exfalso;omega) | exact ⟨⟨k+1,by omega,by first | go_num | (congr 1;omega),Lh (HG.out (by unfold GoodC;omega))⟩,by simp [intOf];omega⟩)
    | (rename_i hq _;simp at hq;first | (exfalso;omega) | (go_ret;exact ⟨by rw [HF2.out (by unfold GoodC;omega)];rfl,rfl⟩))
    | (rename_i hq _ _;simp at hq;first | (exfalso;omega) | (go_ret;exact ⟨by rw [HF2.out (by unfold GoodC;omega)];rfl,rfl⟩))
  ·obtain rfl:k=s.size:=by omega
   have HE:Hid (wordB s.data.toList=(decide ((1:Int)<=(s.size:Int))&&decide ((s.size:Int)<=64))):=Lh (by
    rw [HNS.out]
    have h1:s.data.toList.all innerB=true:=List.all_eq_true.2 (fun c hc=>by
     obtain ⟨j,hj,rfl⟩:=List.mem_iff_getElem.1 hc
     have hj2:j<s.size:=by simpa using hj
     exact HA.out.1 j hj2 hj2)
    rw [h1]
    by_cases h0:0<s.size
    ·simp [h0,HA.out.2 h0 h0]
    ·have e1:decide ((1:Int)<=(s.size:Int))=false:=by simp;omega
     simp [h0,e1])
   by_cases h0:0<s.size
   ·by_cases h64:s.size<=64
    ·have e1:decide ((1:Int)<=(s.size:Int))=true:=by simp;omega
     have e2:decide ((s.size:Int)<=64)=true:=by simp;omega
     have HE2:Hid (wordB s.data.toList=true):=Lh (by rw [HE.out,e1,e2];rfl)
     go_wp2_with fail
     go_ret
     exact ⟨by rw [HE2.out];first | rfl | simp,rfl⟩
    ·have e1:decide ((1:Int)<=(s.size:Int))=true:=by simp;omega
     have e2:decide ((s.size:Int)<=64)=false:=by simp;omega
     have HE2:Hid (wordB s.data.toList=false):=Lh (by rw [HE.out,e1,e2];rfl)
     go_wp2_with fail
     go_ret
     exact ⟨by rw [HE2.out];first | rfl | simp,rfl⟩
   ·have e1:decide ((1:Int)<=(s.size:Int))=false:=by simp;omega
    have HE2:Hid (wordB s.data.toList=false):=Lh (by rw [HE.out,e1];rfl)
    go_wp2_with fail
    go_ret
    exact ⟨by rw [HE2.out];first | rfl | simp,rfl⟩
theorem r6name_any (s:ByteArray) (w:World) (hs:s.size<=1000000000):Calls Tryz.prog 170 #[.string s] w fun e w'=>e=.returned (.bool (frmNamed s.data.toList))/\w'=w:=by
 have hrs:(⟨reservedS.toArray⟩:ByteArray).data.toList=reservedS:=List.toList_toArray ..
 have HST:Hid (Calls Tryz.prog 193 #[.string ⟨reservedS.toArray⟩,.string (⟨#[32]⟩++s++⟨#[32]⟩)] w fun e w'=>e=.returned (.bool (Lib.contains reservedS (32 :: (s.data.toList++[32]))))/\w'=w):=Lh (by
  have h:=r6stands_any ⟨reservedS.toArray⟩ (⟨#[32]⟩++s++⟨#[32]⟩) w (by decide) (by have e:(⟨#[32]⟩:ByteArray).size=1:=rfl;simp only [ByteArray.size_append,e];omega)
  rw [hrs,space_list] at h
  exact h)
 have HE:=Lh (frmNamed_word s.data.toList)
 have HWD:=Lh (r6word_any s w hs)
 clear hrs
 generalize wordB s.data.toList=b1 at HE HWD
 generalize Lib.contains reservedS (32 :: (s.data.toList++[32]))=b2 at HE HST
 generalize frmNamed s.data.toList=b3 at HE ⊢
 go_enter Tryz.func170,Tryz.ntmps170
 go_wp2_with fail
 refine HWD.out.mono ?_
 rintro e w' ⟨rfl,rfl⟩
 cases b1
 ·go_wp2_with fail
  go_ret
  exact ⟨by rw [HE.out];rfl,rfl⟩
 ·go_wp2_with fail
  refine HST.out.mono ?_
  rintro e w' ⟨rfl,rfl⟩
  go_wp2_with fail
  go_ret
  exact ⟨by rw [HE.out];rfl,rfl⟩
end Go.Proofs.YtpmalchlecnjbaaGreatDoor
/- The reference's formula: Atom, Quantifies, sign, parts, term. -/
namespace Go.Chalk
def partsN (k:Int):Int:=match arityF k with | some n=>(n:Int) | none => -1
theorem partsN_len (k:Int) (n:Nat):((n:Int)==partsN k)=(arityF k==some n):=by
 unfold partsN
 cases h:arityF k with
 | none =>
  dsimp only
  rw [show ((none:Option Nat)==some n)=false from rfl,beq_eq_false_iff_ne]
  omega
 | some m =>
  dsimp only
  rw [show ((some m:Option Nat)==some n)=(m==n) from rfl,Bool.eq_iff_iff]
  simp only [beq_iff_eq];omega
end Go.Chalk
namespace Go.Proofs.YtpmalchlecnjbaaGreatDoor
open Go.RowKit Go.Chalk
theorem r6atom_any (n:Int) (w:World):Calls Tryz.prog 166 #[.int .i64 n] w fun e w'=>e=.returned (.bool (atomK n))/\w'=w:=by
 by_cases h1:3<=n
 ·by_cases h2:n<=9
  ·have e:atomK n=true:=by unfold atomK;simp [h1,h2]
   rw [e];clear e
   go_enter Tryz.func166,Tryz.ntmps166
   go_wp2_with fail
   go_ret
   exact ⟨rfl,rfl⟩
  ·have e:atomK n=false:=by unfold atomK;simp [h2]
   rw [e];clear e
   have h2':decide (n<=9)=false:=by simpa using h2
   go_enter Tryz.func166,Tryz.ntmps166
   go_wp2_with fail
   go_ret
   exact ⟨rfl,rfl⟩
 ·have e:atomK n=false:=by unfold atomK;simp [h1]
  rw [e];clear e
  have h1':decide (3<=n)=false:=by simpa using h1
  go_enter Tryz.func166,Tryz.ntmps166
  go_wp2_with fail
  go_ret
  exact ⟨rfl,rfl⟩
theorem r6quant_any (n:Int) (w:World):Calls Tryz.prog 169 #[.int .i64 n] w fun e w'=>e=.returned (.bool (quantK n))/\w'=w:=by
 by_cases h1:14<=n
 ·by_cases h2:n<=17
  ·have e:quantK n=true:=by unfold quantK;simp [h1,h2]
   rw [e];clear e
   go_enter Tryz.func169,Tryz.ntmps169
   go_wp2_with fail
   go_ret
   exact ⟨rfl,rfl⟩
  ·have e:quantK n=false:=by unfold quantK;simp [h2]
   rw [e];clear e
   have h2':decide (n<=17)=false:=by simpa using h2
   go_enter Tryz.func169,Tryz.ntmps169
   go_wp2_with fail
   go_ret
   exact ⟨rfl,rfl⟩
 ·have e:quantK n=false:=by unfold quantK;simp [h1]
  rw [e];clear e
  have h1':decide (14<=n)=false:=by simpa using h1
  go_enter Tryz.func169,Tryz.ntmps169
  go_wp2_with fail
  go_ret
  exact ⟨rfl,rfl⟩
theorem r6sign_any (s:Bs) (w:World):Calls Tryz.prog 168 #[.string ⟨s.toArray⟩] w fun e w'=>e=.returned (.bool (cmpL.contains s))/\w'=w:=by
 by_cases hc:s∈cmpL
 ·have e:cmpL.contains s=true:=by simpa using hc
  rw [e];clear e
  simp only [cmpL,List.mem_cons,List.not_mem_nil,or_false] at hc
  rcases hc with rfl | rfl | rfl | rfl | rfl | rfl
  all_goals
   go_enter Tryz.func168,Tryz.ntmps168
   go_wp2_with fail
   go_ret
   exact ⟨rfl,rfl⟩
 ·have e:cmpL.contains s=false:=by simpa using hc
  rw [e];clear e
  simp only [cmpL,List.mem_cons,List.not_mem_nil,or_false,not_or] at hc
  obtain ⟨h1,h2,h3,h4,h5,h6⟩:=hc
  have e1:(s==[61])=false:=by simpa using h1
  have e2:(s==[33,61])=false:=by simpa using h2
  have e3:(s==[60])=false:=by simpa using h3
  have e4:(s==[60,61])=false:=by simpa using h4
  have e5:(s==[62])=false:=by simpa using h5
  have e6:(s==[62,61])=false:=by simpa using h6
  clear h1 h2 h3 h4 h5 h6
  go_enter Tryz.func168,Tryz.ntmps168
  go_wp2_with fail
  go_ret
  exact ⟨rfl,rfl⟩
theorem r6parts_any (k:Int) (w:World):Calls Tryz.prog 140 #[.int .i64 k] w fun e w'=>e=.returned (.int .i64 (partsN k))/\w'=w:=by
 by_cases hA:k=10∨k=14∨k=15∨k=16∨k=17∨k=11∨k=12∨k=13∨k=1∨k=2
 ·rcases hA with rfl | rfl | rfl | rfl | rfl | rfl | rfl | rfl | rfl | rfl
  all_goals
   go_enter Tryz.func140,Tryz.ntmps140
   go_wp2_with fail
   go_ret
   exact ⟨rfl,rfl⟩
 ·have e10:(k==10)=false:=by simp;omega
  have e14:(k==14)=false:=by simp;omega
  have e15:(k==15)=false:=by simp;omega
  have e16:(k==16)=false:=by simp;omega
  have e17:(k==17)=false:=by simp;omega
  have e11:(k==11)=false:=by simp;omega
  have e12:(k==12)=false:=by simp;omega
  have e13:(k==13)=false:=by simp;omega
  have e1:(k==1)=false:=by simp;omega
  have e2:(k==2)=false:=by simp;omega
  have HA:=Lh (r6atom_any k w)
  have HP:Hid (partsN k=if atomK k then 0 else -1):=Lh (by
   unfold partsN arityF atomK
   by_cases h:k<1∨17<k
   ·rw [if_pos h]
    have:(decide (3<=k)&&decide (k<=9))=false:=by simp;omega
    rw [this];rfl
   ·rw [if_neg h,if_pos (by omega)]
    have:(decide (3<=k)&&decide (k<=9))=true:=by simp;omega
    rw [this];rfl)
  clear hA
  generalize partsN k=pn at HP ⊢
  generalize atomK k=b at HA HP
  go_enter Tryz.func140,Tryz.ntmps140
  go_wp2_with fail
  refine HA.out.mono ?_
  rintro e w' ⟨rfl,rfl⟩
  cases b
  ·go_wp2_with fail
   go_ret
   exact ⟨by rw [HP.out];rfl,rfl⟩
  ·go_wp2_with fail
   go_ret
   exact ⟨by rw [HP.out];rfl,rfl⟩
theorem r6term_any (t:Trm) (w:World) (hlen:t.name.length<=4000000) :
  Calls Tryz.prog 167 #[.agg #[.int .i64 t.kind,.string ⟨t.name.toArray⟩,.int .i64 t.n]] w fun e w'=>e=.returned (.bool (termedF t))/\Below w.heap.size w w':=by
 have hba:Below w.heap.size w (w.alloc (.cells #[.int .i64 t.kind,.string ⟨t.name.toArray⟩,.int .i64 t.n] 61)):=(Below.refl _ _).alloc (Nat.le_refl _) _
 have HB:=Lh hba
 clear hba
 obtain ⟨kind,name,n⟩:=t
 simp only at hlen HB ⊢
 by_cases h1:kind=1
 ·subst h1
  have e:termedF ⟨1,name,n⟩=(name.isEmpty&&numberB n):=by unfold termedF;simp
  rw [e]
  clear e
  cases name with
  | nil =>
   by_cases h2:0<=n
   ·by_cases h3:n<=1099511627776
    ·have e:numberB n=true:=by unfold numberB;simp [h2,h3]
     rw [e];clear e
     go_enter Tryz.func167,Tryz.ntmps167
     go_wp2_with fail
     go_ret
     exact ⟨rfl,HB.out⟩
    ·have e:numberB n=false:=by unfold numberB;simp [h3]
     have h3':decide (n<=1099511627776)=false:=by simpa using h3
     rw [e];clear e
     go_enter Tryz.func167,Tryz.ntmps167
     go_wp2_with fail
     go_ret
     exact ⟨rfl,HB.out⟩
   ·have e:numberB n=false:=by unfold numberB;simp [h2]
    have h2':decide (0<=n)=false:=by simpa using h2
    rw [e];clear e
    go_enter Tryz.func167,Tryz.ntmps167
    go_wp2_with fail
    go_ret
    exact ⟨rfl,HB.out⟩
  | cons c r =>
   have hsz:(⟨(c :: r).toArray⟩:ByteArray).size=r.length+1:=by rw [bs_size];rfl
   go_enter Tryz.func167,Tryz.ntmps167
   go_wp2_with fail
   go_ret
   exact ⟨by simp,HB.out⟩
 ·have h1':(kind==1)=false:=by simpa using h1
  have e:termedF ⟨kind,name,n⟩=(decide (2<=kind)&&decide (kind<=7)&&frmNamed name&&decide (n=0)):=by unfold termedF;rw [if_neg h1]
  rw [e]
  clear e
  by_cases h2:2<=kind
  ·by_cases h3:kind<=7
   ·have HN:=Lh (fun (W:World)=>r6name_any ⟨name.toArray⟩ W (by rw [bs_size];omega))
    rw [show (⟨name.toArray⟩:ByteArray).data.toList=name from List.toList_toArray ..] at HN
    simp only [h2,h3,decide_true,Bool.true_and]
    generalize frmNamed name=nm at HN ⊢
    go_enter Tryz.func167,Tryz.ntmps167
    go_wp2_with fail
    refine (HN.out _).mono ?_
    rintro e w1 ⟨rfl,rfl⟩
    cases nm
    ·go_wp2_with fail
     go_ret
     exact ⟨by simp,HB.out⟩
    ·go_wp2_with fail
     go_ret
     exact ⟨by simp;rfl,HB.out⟩
   ·have h3':decide (kind<=7)=false:=by simpa using h3
    go_enter Tryz.func167,Tryz.ntmps167
    go_wp2_with fail
    go_ret
    exact ⟨by simp,HB.out⟩
  ·have h2':decide (2<=kind)=false:=by simpa using h2
   go_enter Tryz.func167,Tryz.ntmps167
   go_wp2_with fail
   go_ret
   exact ⟨by simp [h2],HB.out⟩
end Go.Proofs.YtpmalchlecnjbaaGreatDoor
/- The reference's formula: terms, binds. -/
namespace Go.Chalk
open Go.RowKit
def twoR (kind:Int) (name:Bs):List Trm->Bool
 | [t,u]=>termedF t&&termedF u&&(if kind=9 then cmpL.contains name else name.isEmpty&&(t.kind==2)&&(u.kind==2))
 | _=>false
def termsR (kind:Int) (name:Bs) (terms:List Trm):Bool:=if atomK kind then twoR kind name terms else terms.isEmpty&&name.isEmpty
def bindsR (kind n:Int) (binds:List Bnd):Bool :=
 if quantK kind then binds.all bndOk&&decide (1<=binds.length)&&decide (binds.length<=6)&&((n==0)||(countK kind&&decide (0<n)&&decide (n<=1099511627776))) else binds.isEmpty&&(n==0)
theorem formR_eq (kind:Int) (name:Bs) (n:Int) (terms:List Trm) (binds:List Bnd) (l:List Frm):formedF (.mk kind name n terms binds l)=((arityF kind==some l.length)&&termsR kind name terms&&bindsR kind n binds):=by
 rw [formedF_mk,partsOk_mk]
 cases hr:(arityF kind==some l.length) with
 | false=>rfl
 | true =>
  unfold termsR bindsR
  cases ha:atomK kind with
  | true =>
   have hk:3<=kind/\kind<=9:=by unfold atomK at ha;simpa using ha
   have hq:quantK kind=false:=by unfold quantK;simp;omega
   have hc:countK kind=false:=by unfold countK;simp;omega
   have hnn:decide (n=0)=(n==0):=by rw [Bool.eq_iff_iff];simp
   rw [hq,hc,hnn]
   simp only [Bool.or_true,Bool.or_false,Bool.and_true,Bool.true_and,if_true,Bool.false_eq_true,if_false]
   have key:∀ t u:Trm,([t,u].all fun t=>termedF t&&(decide (kind=9)||decide (t.kind=2)))=(termedF t&&termedF u&&(decide (kind=9)||((t.kind==2)&&(u.kind==2)))):=fun t u=>by
    simp only [List.all_cons,List.all_nil,Bool.and_true]
    have e1:decide (t.kind=2)=(t.kind==2):=by rw [Bool.eq_iff_iff];simp
    have e2:decide (u.kind=2)=(u.kind==2):=by rw [Bool.eq_iff_iff];simp
    rw [e1,e2]
    cases termedF t <;> cases termedF u <;> cases decide (kind=9) <;> cases t.kind==2 <;> cases u.kind==2 <;> rfl
   match terms with
   | []=>simp [twoR]
   | [t]=>simp [twoR]
   | t :: u :: v :: r=>simp [twoR]
   | [t,u] =>
    rw [key,show twoR kind name [t,u]=(termedF t&&termedF u&&(if kind=9 then cmpL.contains name else name.isEmpty&&(t.kind==2)&&(u.kind==2))) from rfl]
    by_cases h9:kind=9
    ·rw [if_pos h9,decide_eq_true h9]
     cases cmpL.contains name <;> cases binds.isEmpty <;> cases (n==0) <;> simp [h9] <;> cases termedF t <;> cases termedF u <;> rfl
    ·rw [if_neg h9,if_neg (fun h=>h9 h.1),decide_eq_false h9]
     cases name.isEmpty <;> cases binds.isEmpty <;> cases (n==0) <;> simp <;> cases termedF t <;> cases termedF u <;> cases t.kind==2 <;> cases u.kind==2 <;> rfl
  | false =>
   have h9:¬ kind=9:=fun h=>by subst h;revert ha;decide
   rw [if_neg (fun h=>h9 h.1),decide_eq_false h9]
   cases hq:quantK kind with
   | true =>
    have hk:14<=kind/\kind<=17:=by unfold quantK at hq;simpa using hq
    simp only [Bool.or_true,Bool.or_false,Bool.and_true,Bool.true_and,if_true,Bool.false_eq_true,if_false]
    have e1:decide (0<binds.length)=decide (1<=binds.length):=by rw [Bool.eq_iff_iff];simp only [decide_eq_true_eq];omega
    rw [e1]
    have e2:(decide (n=0)||countK kind)=true->((decide (n=0)||countK kind)&&numberB n)=((n==0)||(countK kind&&decide (0<n)&&decide (n<=1099511627776))):=by
     intro h
     rw [h,Bool.true_and]
     unfold numberB
     by_cases h0:n=0
     ·subst h0;cases countK kind <;> rfl
     ·have hb:(n==0)=false:=by simpa using h0
      have hd:decide (n=0)=false:=by simpa using h0
      rw [hd,Bool.false_or] at h
      rw [hb,h,Bool.false_or,Bool.true_and,Bool.eq_iff_iff]
      simp only [Bool.and_eq_true,decide_eq_true_eq];omega
    have e3:(decide (n=0)||countK kind)=false->((n==0)||(countK kind&&decide (0<n)&&decide (n<=1099511627776)))=false:=by
     intro h
     rw [Bool.or_eq_false_iff] at h
     have hb:(n==0)=false:=by simpa using h.1
     rw [hb,h.2];rfl
    cases hc:(decide (n=0)||countK kind) with
    | true =>
     rw [<- e2 hc,hc]
     cases terms.isEmpty <;> cases name.isEmpty <;> cases decide (1<=binds.length) <;> cases decide (binds.length<=6) <;> cases binds.all bndOk <;> cases numberB n <;> rfl
    | false =>
     rw [e3 hc]
     cases terms.isEmpty <;> cases name.isEmpty <;> simp
   | false =>
    have hc:countK kind=false:=by
     cases hb:countK kind with
     | false=>rfl
     | true=>unfold countK at hb;unfold quantK at hq;simp at hb hq;omega
    have hnn:decide (n=0)=(n==0):=by rw [Bool.eq_iff_iff];simp
    rw [hc,hnn]
    simp only [Bool.or_true,Bool.or_false,Bool.and_true,Bool.true_and,if_true,Bool.false_eq_true,if_false]
    cases terms.isEmpty <;> cases name.isEmpty <;> cases binds.isEmpty <;> cases (n==0) <;> rfl
end Go.Chalk
namespace Go.Proofs.YtpmalchlecnjbaaGreatDoor
open Go.RowKit Go.Chalk
theorem r6terms_any (f:Frm) (x:FrmA) (w:World) (hx:FrmIn w (·<w.heap.size) f x) (hsm:FrmSm f) :
  Calls Tryz.prog 141 #[ndV (f,x)] w fun e w'=>e=.returned (.bool (termsR f.kind f.name f.terms))/\Below w.heap.size w w':=by
 have hba:Below w.heap.size w (w.alloc (.cells (x.cells f).toArray 28)):=(Below.refl _ _).alloc (Nat.le_refl _) _
 have HB:=Lh hba
 have HTM:=Lh (hx.terms.later hba (C:=w.heap.size) (Nat.le_refl _))
 have HSM:=Lh hsm
 clear hx hba
 obtain ⟨kind,name,n,terms,binds,fl⟩:=f
 simp only [ndV,FrmA.cells,SlA.val,Frm.kind,Frm.name,Frm.n,Frm.terms,Frm.binds,Frm.l] at HB HTM HSM ⊢
 unfold FrmSm at HSM
 simp only [Frm.terms,Frm.binds,Frm.l,Frm.name] at HSM
 have HA:=Lh (fun (W:World)=>r6atom_any kind W)
 have HR:Hid (termsR kind name terms=if atomK kind then twoR kind name terms else terms.isEmpty&&name.isEmpty):=Lh rfl
 generalize termsR kind name terms=res at HR ⊢
 obtain ⟨W0,hW0⟩:∃ W0,W0=w.alloc (.cells #[.int .i64 kind,.string ⟨name.toArray⟩,.int .i64 n,.slice x.t.a terms.length x.t.cap,.slice x.b.a binds.length x.b.cap,.slice x.l.a fl.length x.l.cap] 28):=⟨_,rfl⟩
 have hq:W0.heap[w.heap.size]?=some (.cells #[.int .i64 kind,.string ⟨name.toArray⟩,.int .i64 n,.slice x.t.a terms.length x.t.cap,.slice x.b.a binds.length x.b.cap,.slice x.l.a fl.length x.l.cap] 28 (0,0)):=by rw [hW0,heap_get,if_pos rfl]
 have hbw:Below w.heap.size w W0:=by rw [hW0];exact HB.out
 have htm:SlIn W0 (·<w.heap.size) (terms.map Trm.toD) x.t:=by rw [hW0];exact HTM.out
 have HK:Hid (∀ W,Below W0.heap.size W0 W->Below w.heap.size w W/\SlIn W (·<w.heap.size) (terms.map Trm.toD) x.t/\W.cell? ⟨w.heap.size,0,none⟩=some (.int .i64 kind)/\W.cell? ⟨w.heap.size,1,none⟩=some (.string ⟨name.toArray⟩)/\W.cell? ⟨w.heap.size,3,none⟩=some (.slice x.t.a terms.length x.t.cap)):=Lh (fun W hW=>by
  have hb:=(hW.block _ (gS hq).1).trans hq
  exact ⟨hbw.trans (hW.mono hbw.size),htm.later (hW.mono hbw.size) (Nat.le_refl _),cH hb rfl,cH hb rfl,cH hb rfl⟩)
 have HW0:=Lh hW0
 clear hW0 hq hbw htm HB HTM
 obtain ⟨_,_,c0,c1,c3⟩:=HK.out W0 (Below.refl _ _)
 go_enter Tryz.func141,Tryz.ntmps141
 go_upto_region 1 with fail
 rw [<- HW0.out]
 go_wp2_with fail
 refine (HA.out _).mono ?_
 rintro e w' ⟨rfl,hw⟩
 rw [hw]
 clear hw w'
 cases hak:atomK kind with
 | false =>
  have HR2:Hid (res=(terms.isEmpty&&name.isEmpty)):=Lh (by rw [HR.out,hak];rfl)
  clear HR hak
  cases terms with
  | nil =>
   cases name with
   | nil =>
    go_wp2_with fail
    go_ret
    exact ⟨by rw [HR2.out];rfl,(HK.out _ (Below.refl _ _)).1⟩
   | cons c r =>
    have hsz:(⟨(c :: r).toArray⟩:ByteArray).size=r.length+1:=by rw [bs_size];rfl
    go_wp2_with fail
    go_ret
    exact ⟨by rw [HR2.out];first | rfl | simp,(HK.out _ (Below.refl _ _)).1⟩
  | cons t r =>
   have h0:(((t :: r).length:Int)==0)=false:=by simp;omega
   go_wp2_with fail
   go_ret
   exact ⟨by rw [HR2.out];rfl,(HK.out _ (Below.refl _ _)).1⟩
 | true =>
  have HR2:Hid (res=twoR kind name terms):=Lh (by rw [HR.out,hak];rfl)
  clear HR hak
  rcases terms with _ | ⟨t,_ | ⟨u,_ | ⟨v,r⟩⟩⟩
  ·go_wp2_with fail
   go_ret
   exact ⟨by rw [HR2.out];rfl,(HK.out _ (Below.refl _ _)).1⟩
  ·go_wp2_with fail
   go_ret
   exact ⟨by rw [HR2.out];rfl,(HK.out _ (Below.refl _ _)).1⟩
  rotate_left
  ·have h3:(((t :: u :: v :: r).length:Int) != 2)=true:=by simp;omega
   go_wp2_with fail
   go_ret
   exact ⟨by rw [HR2.out];rfl,(HK.out _ (Below.refl _ _)).1⟩
  have HC:Hid (∀ W,Below W0.heap.size W0 W->x.t.a=some ⟨x.t.b,x.t.o,none⟩/\(W.cell? ⟨x.t.b,x.t.o,none⟩=some (.int .i64 t.kind)/\W.cell? ⟨x.t.b,x.t.o+1,none⟩=some (.string ⟨t.name.toArray⟩)/\W.cell? ⟨x.t.b,x.t.o+2,none⟩=some (.int .i64 t.n))/\(W.cell? ⟨x.t.b,x.t.o+3,none⟩=some (.int .i64 u.kind)/\W.cell? ⟨x.t.b,x.t.o+4,none⟩=some (.string ⟨u.name.toArray⟩)/\W.cell? ⟨x.t.b,x.t.o+5,none⟩=some (.int .i64 u.n))):=Lh (fun W hW=>by
   obtain ⟨h1,_,_,h4,_⟩:=SlIn.flat Trm.flatT (HK.out W hW).2.1
   obtain ⟨g0,g1,g2⟩:=h4.three 0 (by simp) rfl
   obtain ⟨k0,k1,k2⟩:=h4.three 1 (by simp) rfl
   exact ⟨(h1 (by simp)).1,⟨by simpa using g0,by simpa using g1,by simpa using g2⟩,⟨by simpa using k0,by simpa using k1,by simpa using k2⟩⟩)
  have HT:=Lh (fun (W:World)=>r6term_any t W (HSM.out.2.2.2.2.1 t (by simp)))
  have HU:=Lh (fun (W:World)=>r6term_any u W (HSM.out.2.2.2.2.1 u (by simp)))
  have HR3:Hid (res=(termedF t&&termedF u&&(if kind=9 then cmpL.contains name else name.isEmpty&&(t.kind==2)&&(u.kind==2)))):=Lh HR2.out
  clear HR2
  obtain ⟨hxa,⟨a0,a1,a2⟩,b0,b1,b2⟩:=HC.out W0 (Below.refl _ _)
  obtain ⟨tk,tn,tm⟩:=t
  obtain ⟨uk,un,um⟩:=u
  generalize termedF ⟨tk,tn,tm⟩=bt at HT HR3
  generalize termedF ⟨uk,un,um⟩=bu at HU HR3
  simp only at HT HU HC HR3 a0 a1 a2 b0 b1 b2
  simp only [hxa] at HK HC c3 ⊢
  go_wp2_with fail
  refine (HT.out _).mono ?_
  rintro e w1 ⟨rfl,hb1⟩
  have H1:=Lh hb1
  clear hb1 a0 a1 a2 b0 b1 b2 c0 c1 c3
  cases bt
  ·go_wp2_with fail
   go_ret
   exact ⟨by rw [HR3.out];rfl,(HK.out _ H1.out).1⟩
  obtain ⟨_,_,c0,c1,c3⟩:=HK.out w1 H1.out
  obtain ⟨_,⟨a0,a1,a2⟩,b0,b1,b2⟩:=HC.out w1 H1.out
  go_wp2_with fail
  refine (HU.out _).mono ?_
  rintro e w2 ⟨rfl,hb2⟩
  have H2:=Lh (H1.out.trans (hb2.mono H1.out.size))
  clear hb2 a0 a1 a2 b0 b1 b2 c0 c1 c3
  cases bu
  ·go_wp2_with fail
   go_ret
   exact ⟨by rw [HR3.out];rfl,(HK.out _ H2.out).1⟩
  obtain ⟨_,_,c0,c1,c3⟩:=HK.out w2 H2.out
  obtain ⟨_,⟨a0,a1,a2⟩,b0,b1,b2⟩:=HC.out w2 H2.out
  by_cases h9:kind=9
  ·have HR4:Hid (res=cmpL.contains name):=Lh (by rw [HR3.out,if_pos h9];rfl)
   have d9:(kind==9)=true:=by simpa using h9
   clear h9 HR3
   have HS:=Lh (fun (W:World)=>r6sign_any name W)
   generalize cmpL.contains name=cs at HS HR4
   go_wp2_with fail
   refine (HS.out _).mono ?_
   rintro e w3 ⟨rfl,rfl⟩
   go_wp2_with fail
   go_ret
   exact ⟨by rw [HR4.out];rfl,(HK.out _ H2.out).1⟩
  ·have HR4:Hid (res=(name.isEmpty&&(tk==2)&&(uk==2))):=Lh (by rw [HR3.out,if_neg h9];rfl)
   have d9:(kind==9)=false:=by simpa using h9
   clear h9 HR3
   cases name with
   | cons c r =>
    have hsz:(⟨(c :: r).toArray⟩:ByteArray).size=r.length+1:=by rw [bs_size];rfl
    go_wp2_with fail
    go_ret
    exact ⟨by rw [HR4.out];first | rfl | simp,(HK.out _ H2.out).1⟩
   | nil =>
    cases h1:(tk==2)
    ·go_wp2_with fail
     go_ret
     exact ⟨by rw [HR4.out,h1];rfl,(HK.out _ H2.out).1⟩
    ·have h1':tk=2:=by simpa using h1
     cases h2:(uk==2)
     ·go_wp2_with fail
      go_ret
      exact ⟨by rw [HR4.out,h1,h2];rfl,(HK.out _ H2.out).1⟩
     ·go_wp2_with fail
      go_ret
      exact ⟨by rw [HR4.out,h1,h2];rfl,(HK.out _ H2.out).1⟩
end Go.Proofs.YtpmalchlecnjbaaGreatDoor
/- The reference's formula: binds. -/
namespace Go.Chalk
open Go.RowKit
theorem bndR_step {l:List Bnd} {k:Nat} (hk:k<l.length) (h:(l.take k).all bndOk=true):(l.take (k+1)).all bndOk=bndOk l[k]:=by
 rw [List.take_succ_eq_append_getElem hk,List.all_append,h,Bool.true_and]
 simp
theorem bndR_bad {l:List Bnd} {k:Nat} (hk:k<l.length) (h:bndOk l[k]=false):l.all bndOk=false:=by
 cases hc:l.all bndOk with
 | false=>rfl
 | true=>rw [List.all_eq_true] at hc;rw [hc _ (List.getElem_mem hk)] at h;cases h
end Go.Chalk
namespace Go.Proofs.YtpmalchlecnjbaaGreatDoor
open Go.RowKit Go.Chalk
theorem r6binds_any (f:Frm) (x:FrmA) (w:World) (hx:FrmIn w (·<w.heap.size) f x) (hsm:FrmSm f) :
  Calls Tryz.prog 142 #[ndV (f,x)] w fun e w'=>e=.returned (.bool (bindsR f.kind f.n f.binds))/\Below w.heap.size w w':=by
 have hba:Below w.heap.size w (w.alloc (.cells (x.cells f).toArray 28)):=(Below.refl _ _).alloc (Nat.le_refl _) _
 have HB:=Lh hba
 have HTM:=Lh (hx.binds.later hba (C:=w.heap.size) (Nat.le_refl _))
 have HSM:=Lh hsm
 clear hx hba
 obtain ⟨kind,name,n,terms,binds,fl⟩:=f
 simp only [ndV,FrmA.cells,SlA.val,Frm.kind,Frm.name,Frm.n,Frm.terms,Frm.binds,Frm.l] at HB HTM HSM ⊢
 unfold FrmSm at HSM
 simp only [Frm.terms,Frm.binds,Frm.l,Frm.name] at HSM
 have HQ:=Lh (fun (W:World)=>r6quant_any kind W)
 have HR:Hid (bindsR kind n binds=if quantK kind then binds.all bndOk&&decide (1<=binds.length)&&decide (binds.length<=6)&&((n==0)||(countK kind&&decide (0<n)&&decide (n<=1099511627776))) else binds.isEmpty&&(n==0)):=Lh rfl
 generalize bindsR kind n binds=res at HR ⊢
 obtain ⟨W0,hW0⟩:∃ W0,W0=w.alloc (.cells #[.int .i64 kind,.string ⟨name.toArray⟩,.int .i64 n,.slice x.t.a terms.length x.t.cap,.slice x.b.a binds.length x.b.cap,.slice x.l.a fl.length x.l.cap] 28):=⟨_,rfl⟩
 have hq:W0.heap[w.heap.size]?=some (.cells #[.int .i64 kind,.string ⟨name.toArray⟩,.int .i64 n,.slice x.t.a terms.length x.t.cap,.slice x.b.a binds.length x.b.cap,.slice x.l.a fl.length x.l.cap] 28 (0,0)):=by rw [hW0,heap_get,if_pos rfl]
 have hbw:Below w.heap.size w W0:=by rw [hW0];exact HB.out
 have htm:SlIn W0 (·<w.heap.size) (binds.map Bnd.toD) x.b:=by rw [hW0];exact HTM.out
 have HK:Hid (∀ W,Below W0.heap.size W0 W->Below w.heap.size w W/\SlIn W (·<w.heap.size) (binds.map Bnd.toD) x.b/\W.cell? ⟨w.heap.size,0,none⟩=some (.int .i64 kind)/\W.cell? ⟨w.heap.size,2,none⟩=some (.int .i64 n)/\W.cell? ⟨w.heap.size,4,none⟩=some (.slice x.b.a binds.length x.b.cap)):=Lh (fun W hW=>by
  have hb:=(hW.block _ (gS hq).1).trans hq
  exact ⟨hbw.trans (hW.mono hbw.size),htm.later (hW.mono hbw.size) (Nat.le_refl _),cH hb rfl,cH hb rfl,cH hb rfl⟩)
 have HW0:=Lh hW0
 clear hW0 hq hbw htm HB HTM
 obtain ⟨_,_,c0,c2,c4⟩:=HK.out W0 (Below.refl _ _)
 go_enter Tryz.func142,Tryz.ntmps142
 go_upto_region 1 with fail
 rw [<- HW0.out]
 clear HW0
 go_wp2_with fail
 refine (HQ.out _).mono ?_
 rintro e w' ⟨rfl,hw⟩
 rw [hw]
 clear hw w'
 cases hqk:quantK kind with
 | false =>
  have HR2:Hid (res=(binds.isEmpty&&(n==0))):=Lh (by rw [HR.out,hqk];rfl)
  clear HR hqk
  cases binds with
  | nil =>
   cases hn:(n==0)
   ·go_wp2_with fail
    go_ret
    exact ⟨by rw [HR2.out,hn];rfl,(HK.out _ (Below.refl _ _)).1⟩
   ·go_wp2_with fail
    go_ret
    exact ⟨by rw [HR2.out,hn];rfl,(HK.out _ (Below.refl _ _)).1⟩
  | cons t r =>
   have h0:(((t :: r).length:Int)==0)=false:=by simp;omega
   go_wp2_with fail
   go_ret
   exact ⟨by rw [HR2.out];rfl,(HK.out _ (Below.refl _ _)).1⟩
 | true =>
  have HR2:Hid (res=(binds.all bndOk&&decide (1<=binds.length)&&decide (binds.length<=6)&&((n==0)||(countK kind&&decide (0<n)&&decide (n<=1099511627776))))):=Lh (by rw [HR.out,hqk];rfl)
  clear HR hqk c0 c2 c4
  have hbl2:binds.length<=2000000:=HSM.out.2.1
  go_upto_region 3 with fail
  go_wp2_with fail
  go_loopw [3] (fun i wr=>∃ k:Nat,k<=binds.length/\i=.int .i64 k/\Hid ((binds.take k).all bndOk=true)/\Hid (Below W0.heap.size W0 wr)) (fun i _=>binds.length - (intOf i).toNat)
  case atStart=>exact ⟨0,Nat.zero_le _,rfl,Lh rfl,Lh (Below.refl _ _)⟩
  case round =>
   obtain ⟨k,hk,rfl,HP,HBL⟩:=hrel
   obtain ⟨hbe,hsl,c0,c2,c4⟩:=HK.out wr HBL.out
   by_cases hlt:k<binds.length
   ·obtain ⟨h1,_,_,h4,_⟩:=SlIn.flat Bnd.flatT hsl
    obtain ⟨e0,e1⟩:=h4.two k hlt rfl
    have hxa:=(h1 (by omega)).1
    have HST:=Lh (bndR_step hlt HP.out)
    have HBD:=Lh (fun (h:bndOk binds[k]=false)=>bndR_bad hlt h)
    have HN:=Lh (fun (W:World)=>r6name_any ⟨binds[k].name.toArray⟩ W (by rw [bs_size];have:=HSM.out.2.2.2.2.2 _ (List.getElem_mem hlt);omega))
    rw [show (⟨binds[k].name.toArray⟩:ByteArray).data.toList=binds[k].name from List.toList_toArray ..] at HN
    have HOK:Hid (bndOk binds[k]=(frmNamed binds[k].name&&decide (1<=binds[k].sort)&&decide (binds[k].sort<=7))):=Lh rfl
    generalize bndOk binds[k]=ok at HST HBD HOK
    generalize binds[k]=bd at HN HOK e0 e1
    obtain ⟨nm,so⟩:=bd
    simp only at HN HOK e0 e1
    rw [hxa] at c4
    clear h1 h4 hsl hxa hbe
    generalize frmNamed nm=nok at HN HOK
    go_wp2_with fail
    refine (HN.out _).mono ?_
    rintro e w' ⟨rfl,hw⟩
    rw [hw]
    clear hw w'
    cases nok
    ·go_wp2_with fail
     go_ret
     exact ⟨by rw [HR2.out,HBD.out (by rw [HOK.out];rfl)];rfl,(HK.out _ HBL.out).1⟩
    ·by_cases g1:1<=so
     ·have d1:decide (so<1)=false:=by simp;omega
      by_cases g2:so<=7
      ·have d2:decide (7<so)=false:=by simp;omega
       have hok:ok=true:=by rw [HOK.out,decide_eq_true g1,decide_eq_true g2];rfl
       clear g1 g2
       go_wp2_with fail
       exact ⟨⟨k+1,by omega,by go_num,Lh (by rw [HST.out,hok]),HBL⟩,by simp [intOf];omega⟩
      ·have d2:7<so:=by omega
       have hok:ok=false:=by rw [HOK.out,decide_eq_false g2];simp
       clear g1 g2
       go_wp2_with fail
       go_ret
       exact ⟨by rw [HR2.out,HBD.out hok];rfl,(HK.out _ HBL.out).1⟩
     ·have d1:so<1:=by omega
      have hok:ok=false:=by rw [HOK.out,decide_eq_false g1];simp
      clear g1
      go_wp2_with fail
      go_ret
      exact ⟨by rw [HR2.out,HBD.out hok];rfl,(HK.out _ HBL.out).1⟩
   ·have hkl:k=binds.length:=by omega
    have HALL:Hid (binds.all bndOk=true):=Lh (by have:=HP.out;rw [hkl,List.take_length] at this;exact this)
    subst hkl
    have HCN:Hid (countK kind=((kind==16)||(kind==17))):=Lh (by unfold countK;rw [Bool.eq_iff_iff];simp)
    generalize countK kind=cn at HCN HR2
    generalize binds.all bndOk=al at HALL HR2
    have HBE:=Lh hbe
    clear hsl HP hbe HQ HSM HBL
    generalize hbl:binds.length=bl at *
    have HR3:Hid (res=(decide (1<=bl)&&decide (bl<=6)&&((n==0)||(((kind==16)||(kind==17))&&decide (0<n)&&decide (n<=1099511627776))))):=Lh (by rw [HR2.out,HALL.out,HCN.out];rfl)
    clear HR2 HALL HCN
    cases h16:(kind==16)
    ·cases h17:(kind==17)
     ·by_cases p1:(1:Int)<=bl
      ·by_cases p2:(bl:Int)<=6
       ·cases hn:(n==0)
        ·have HX:Hid (res=false):=Lh (by rw [HR3.out,hn,h16,h17];simp)
         clear HR3
         go_wp2_with fail
         go_ret
         exact ⟨by rw [HX.out];rfl,HBE.out⟩
        ·have HX:Hid (res=true):=Lh (by rw [HR3.out,hn,decide_eq_true (show 1<=bl by omega),decide_eq_true (show bl<=6 by omega)];rfl)
         clear HR3
         go_wp2_with fail
         go_ret
         exact ⟨by rw [HX.out];rfl,HBE.out⟩
       ·have HX:Hid (res=false):=Lh (by rw [HR3.out,decide_eq_false (show ¬ bl<=6 by omega)];simp)
        have d2:decide ((bl:Int)<=6)=false:=decide_eq_false p2
        clear HR3 p2
        go_wp2_with fail
        go_ret
        exact ⟨by rw [HX.out];rfl,HBE.out⟩
      ·have HX:Hid (res=false):=Lh (by rw [HR3.out,decide_eq_false (show ¬ 1<=bl by omega)];rfl)
       have d1:decide ((1:Int)<=bl)=false:=decide_eq_false p1
       clear HR3 p1
       go_wp2_with fail
       go_ret
       exact ⟨by rw [HX.out];rfl,HBE.out⟩
     ·by_cases p1:(1:Int)<=bl
      ·by_cases p2:(bl:Int)<=6
       ·cases hn:(n==0)
        ·by_cases q1:0<n
         ·by_cases q2:n<=1099511627776
          ·have HX:Hid (res=true):=Lh (by rw [HR3.out,hn,h16,h17,decide_eq_true (show 1<=bl by omega),decide_eq_true (show bl<=6 by omega),decide_eq_true q1,decide_eq_true q2];rfl)
           clear HR3
           go_wp2_with fail
           go_ret
           exact ⟨by rw [HX.out];rfl,HBE.out⟩
          ·have HX:Hid (res=false):=Lh (by rw [HR3.out,hn,decide_eq_false q2];simp)
           have d2:decide (n<=1099511627776)=false:=decide_eq_false q2
           clear HR3 q2
           go_wp2_with fail
           go_ret
           exact ⟨by rw [HX.out];rfl,HBE.out⟩
         ·have HX:Hid (res=false):=Lh (by rw [HR3.out,hn,decide_eq_false q1];simp)
          have d1:decide (0<n)=false:=decide_eq_false q1
          clear HR3 q1
          go_wp2_with fail
          go_ret
          exact ⟨by rw [HX.out];rfl,HBE.out⟩
        ·have HX:Hid (res=true):=Lh (by rw [HR3.out,hn,decide_eq_true (show 1<=bl by omega),decide_eq_true (show bl<=6 by omega)];rfl)
         clear HR3
         go_wp2_with fail
         go_ret
         exact ⟨by rw [HX.out];rfl,HBE.out⟩
       ·have HX:Hid (res=false):=Lh (by rw [HR3.out,decide_eq_false (show ¬ bl<=6 by omega)];simp)
        have d2:decide ((bl:Int)<=6)=false:=decide_eq_false p2
        clear HR3 p2
        go_wp2_with fail
        go_ret
        exact ⟨by rw [HX.out];rfl,HBE.out⟩
      ·have HX:Hid (res=false):=Lh (by rw [HR3.out,decide_eq_false (show ¬ 1<=bl by omega)];rfl)
       have d1:decide ((1:Int)<=bl)=false:=decide_eq_false p1
       clear HR3 p1
       go_wp2_with fail
       go_ret
       exact ⟨by rw [HX.out];rfl,HBE.out⟩
    ·by_cases p1:(1:Int)<=bl
     ·by_cases p2:(bl:Int)<=6
      ·cases hn:(n==0)
       ·by_cases q1:0<n
        ·by_cases q2:n<=1099511627776
         ·have HX:Hid (res=true):=Lh (by rw [HR3.out,hn,h16,decide_eq_true (show 1<=bl by omega),decide_eq_true (show bl<=6 by omega),decide_eq_true q1,decide_eq_true q2];rfl)
          clear HR3
          go_wp2_with fail
          go_ret
          exact ⟨by rw [HX.out];rfl,HBE.out⟩
         ·have HX:Hid (res=false):=Lh (by rw [HR3.out,hn,decide_eq_false q2];simp)
          have d2:decide (n<=1099511627776)=false:=decide_eq_false q2
          clear HR3 q2
          go_wp2_with fail
          go_ret
          exact ⟨by rw [HX.out];rfl,HBE.out⟩
        ·have HX:Hid (res=false):=Lh (by rw [HR3.out,hn,decide_eq_false q1];simp)
         have d1:decide (0<n)=false:=decide_eq_false q1
         clear HR3 q1
         go_wp2_with fail
         go_ret
         exact ⟨by rw [HX.out];rfl,HBE.out⟩
       ·have HX:Hid (res=true):=Lh (by rw [HR3.out,hn,decide_eq_true (show 1<=bl by omega),decide_eq_true (show bl<=6 by omega)];rfl)
        clear HR3
        go_wp2_with fail
        go_ret
        exact ⟨by rw [HX.out];rfl,HBE.out⟩
      ·have HX:Hid (res=false):=Lh (by rw [HR3.out,decide_eq_false (show ¬ bl<=6 by omega)];simp)
       have d2:decide ((bl:Int)<=6)=false:=decide_eq_false p2
       clear HR3 p2
       go_wp2_with fail
       go_ret
       exact ⟨by rw [HX.out];rfl,HBE.out⟩
     ·have HX:Hid (res=false):=Lh (by rw [HR3.out,decide_eq_false (show ¬ 1<=bl by omega)];rfl)
      have d1:decide ((1:Int)<=bl)=false:=decide_eq_false p1
      clear HR3 p1
      go_wp2_with fail
      go_ret
      exact ⟨by rw [HX.out];rfl,HBE.out⟩
end Go.Proofs.YtpmalchlecnjbaaGreatDoor
/- The reference's formula: form. -/
namespace Go.Chalk
open Go.RowKit
theorem allK_step {α:Type} {p:α->Bool} {l:List α} {k:Nat} (hk:k<l.length) (h:(l.take k).all p=true):(l.take (k+1)).all p=p l[k]:=by
 rw [List.take_succ_eq_append_getElem hk,List.all_append,h,Bool.true_and]
 simp
theorem allK_bad {α:Type} {p:α->Bool} {l:List α} {k:Nat} (hk:k<l.length) (h:p l[k]=false):l.all p=false:=by
 cases hc:l.all p with
 | false=>rfl
 | true=>rw [List.all_eq_true] at hc;rw [hc _ (List.getElem_mem hk)] at h;cases h
end Go.Chalk
namespace Go.Proofs.YtpmalchlecnjbaaGreatDoor
open Go.RowKit Go.Chalk
theorem allF_mk (kind:Int) (name:Bs) (n:Int) (terms:List Trm) (binds:List Bnd) (l:List Frm):(nodesF (.mk kind name n terms binds l)).all formedF=(((((l.length:Int)==partsN kind)&&termsR kind name terms)&&bindsR kind n binds)&&l.all (fun g=>(nodesF g).all formedF)):=by
 rw [nodesF,List.all_cons,formR_eq,partsN_len,nodesL_eq,List.all_flatten,List.all_map]
 rfl
theorem allF_kid {kind:Int} {name:Bs} {n:Int} {terms:List Trm} {binds:List Bnd} {l:List Frm} {g h:Frm} (hg:g∈l) (hh:h∈nodesF g):h∈nodesF (.mk kind name n terms binds l):=by
 rw [nodesF,nodesL_eq]
 exact List.mem_cons_of_mem _ (List.mem_flatten.2 ⟨_,List.mem_map.2 ⟨g,hg,rfl⟩,hh⟩)
theorem r6form_any (m:Nat):∀ (f:Frm) (y:FrmA) (w:World),f.size<=m->f.size<=2000000->(∀ g∈nodesF f,FrmSm g)->FrmIn w (·<w.heap.size) f y ->
  Calls Tryz.prog 78 #[ndV (f,y)] w fun e w'=>e=.returned (.bool ((nodesF f).all formedF))/\Below w.heap.size w w':=by
 induction m with
 | zero=>intro f _ _ h;have:=f.size_pos;omega
 | succ m ih =>
  rintro ⟨kind,name,n,terms,binds,fl⟩ y w hm hsz hsm hy
  rw [Frm.size] at hm hsz
  have hll:=length_le_fsizes fl
  have hba:Below w.heap.size w (w.alloc (.cells (y.cells (.mk kind name n terms binds fl)).toArray 28)):=(Below.refl _ _).alloc (Nat.le_refl _) _
  have hby:FrmBox (w.alloc (.cells (y.cells (.mk kind name n terms binds fl)).toArray 28)) w.heap.size (.mk kind name n terms binds fl) y:=by unfold FrmBox;rw [heap_get,if_pos rfl]
  have HFI:Hid (∀ (j:Nat) (hj:j<fl.length),∃ y1:FrmA,FrmIn w (·<w.heap.size) fl[j] y1/\CellsAt w y.l.b (y.l.o+j*6) (y1.cells fl[j])):=Lh (fun j hj=>hy.l.frm j hj)
  have HFS:Hid (SlAt (·<w.heap.size) y.l.a y.l.b y.l.o fl.length):=Lh (by have:=hy.l.at_;rw [List.length_map] at this;exact this)
  have HIH:=Lh (fun (j:Nat) (hj:j<fl.length) (y1:FrmA) (W:World) (hW:Below w.heap.size w W) (h1:FrmIn w (·<w.heap.size) fl[j] y1)=>ih fl[j] y1 W (by have:=size_le_fsizes fl j hj;omega) (by have:=size_le_fsizes fl j hj;omega) (fun g hg=>hsm g (allF_kid (List.getElem_mem hj) hg)) (h1.later hW hW.size))
  have hsm0:=hsm _ (by rw [nodesF];exact List.mem_cons_self ..)
  have HTM:=Lh (fun (W:World) (hW:Below w.heap.size w W)=>r6terms_any (.mk kind name n terms binds fl) y W (hy.later hW hW.size) hsm0)
  have HBN:=Lh (fun (W:World) (hW:Below w.heap.size w W)=>r6binds_any (.mk kind name n terms binds fl) y W (hy.later hW hW.size) hsm0)
  have HPT:=Lh (fun (W:World)=>r6parts_any kind W)
  have HRS:=Lh (allF_mk kind name n terms binds fl)
  generalize (nodesF (.mk kind name n terms binds fl)).all formedF=res at HRS ⊢
  obtain ⟨W0,hW0⟩:∃ W0,W0=w.alloc (.cells (y.cells (.mk kind name n terms binds fl)).toArray 28):=⟨_,rfl⟩
  have HK:Hid (∀ W,Below W0.heap.size W0 W->Below w.heap.size w W/\FrmBox W w.heap.size (.mk kind name n terms binds fl) y):=Lh (fun W hW=>by
   rw [hW0] at hW
   exact ⟨hba.trans (hW.mono hba.size),hby.below hW⟩)
  have HW0:=Lh hW0
  have HD0:Hid (Below W0.heap.size W0 W0.drew):=Lh (Below.refl _ _).drew
  clear ih hy hba hby hW0 hsm hsm0
  simp only [ndV,FrmA.cells,SlA.val,Frm.kind,Frm.name,Frm.n,Frm.terms,Frm.binds,Frm.l] at HTM HBN HW0 ⊢
  generalize partsN kind=pn at HPT HRS
  generalize termsR kind name terms=tb at HTM HRS
  generalize bindsR kind n binds=bb at HBN HRS
  obtain ⟨c0,c1,c2,c3,c4,c5⟩:=(HK.out _ HD0.out).2.cells
  simp only [Frm.kind,Frm.name,Frm.n,Frm.terms,Frm.binds,Frm.l] at c0 c1 c2 c3 c4 c5
  go_enter Tryz.func78,Tryz.ntmps78
  go_upto_region 1 with fail
  rw [<- HW0.out]
  clear HW0
  cases hpn:((fl.length:Int)==pn) with
  | false =>
   have d1:((fl.length:Int) != pn)=true:=by rw [bne,hpn];rfl
   have HR2:Hid (res=false):=Lh (by rw [HRS.out,hpn];rfl)
   clear hpn HRS
   go_region_law (go_simp;go_at_call 140;(with_reducible refine (HPT.out _).mono ?_);rintro e w2 ⟨rfl,hw2⟩;subst hw2)
   all_goals
    go_wp2_with fail
    go_ret
    exact ⟨by rw [HR2.out];rfl,(HK.out _ HD0.out).1⟩
  | true =>
   have d1:((fl.length:Int) != pn)=false:=by rw [bne,hpn];rfl
   cases tb with
   | false =>
    have HR2:Hid (res=false):=Lh (by rw [HRS.out,hpn];rfl)
    clear hpn HRS
    go_region_law (first | (go_simp;go_at_call 140;(with_reducible refine (HPT.out _).mono ?_);rintro e w2 ⟨rfl,hw2⟩;subst hw2) | (go_simp;go_at_call 141;(with_reducible refine (HTM.out _ (HK.out _ HD0.out).1).mono ?_);rintro e w1 ⟨rfl,hb1⟩;have H1:=Lh (HD0.out.trans (hb1.mono HD0.out.size));clear hb1 c0 c1 c2 c3 c4 c5;obtain ⟨c0,c1,c2,c3,c4,c5⟩:=(HK.out _ H1.out).2.cells;simp only [Frm.kind,Frm.name,Frm.n,Frm.terms,Frm.binds,Frm.l] at c0 c1 c2 c3 c4 c5))
    all_goals
     go_wp2_with fail
     go_ret
     exact ⟨by rw [HR2.out];rfl,(HK.out _ H1.out).1⟩
   | true =>
    cases bb with
    | false =>
     have HR2:Hid (res=false):=Lh (by rw [HRS.out,hpn];rfl)
     clear hpn HRS
     go_region_law (first | (go_simp;go_at_call 140;(with_reducible refine (HPT.out _).mono ?_);rintro e w2 ⟨rfl,hw2⟩;subst hw2) | (go_simp;go_at_call 141;(with_reducible refine (HTM.out _ (HK.out _ HD0.out).1).mono ?_);rintro e w1 ⟨rfl,hb1⟩;have H1:=Lh (HD0.out.trans (hb1.mono HD0.out.size));clear hb1 c0 c1 c2 c3 c4 c5;obtain ⟨c0,c1,c2,c3,c4,c5⟩:=(HK.out _ H1.out).2.cells;simp only [Frm.kind,Frm.name,Frm.n,Frm.terms,Frm.binds,Frm.l] at c0 c1 c2 c3 c4 c5) | (go_simp;go_at_call 142;(with_reducible refine (HBN.out _ (HK.out _ H1.out).1).mono ?_);rintro e w3 ⟨rfl,hb3⟩;have H3:=Lh (H1.out.trans (hb3.mono H1.out.size));clear hb3 c0 c1 c2 c3 c4 c5))
     all_goals
      go_wp2_with fail
      go_ret
      exact ⟨by rw [HR2.out];rfl,(HK.out _ H3.out).1⟩
    | true =>
     have HR2:Hid (res=fl.all (fun g=>(nodesF g).all formedF)):=Lh (by rw [HRS.out,hpn];rfl)
     clear hpn HRS
     go_region_law (first | (go_simp;go_at_call 140;(with_reducible refine (HPT.out _).mono ?_);rintro e w2 ⟨rfl,hw2⟩;subst hw2) | (go_simp;go_at_call 141;(with_reducible refine (HTM.out _ (HK.out _ HD0.out).1).mono ?_);rintro e w1 ⟨rfl,hb1⟩;have H1:=Lh (HD0.out.trans (hb1.mono HD0.out.size));clear hb1 c0 c1 c2 c3 c4 c5;obtain ⟨c0,c1,c2,c3,c4,c5⟩:=(HK.out _ H1.out).2.cells;simp only [Frm.kind,Frm.name,Frm.n,Frm.terms,Frm.binds,Frm.l] at c0 c1 c2 c3 c4 c5) | (go_simp;go_at_call 142;(with_reducible refine (HBN.out _ (HK.out _ H1.out).1).mono ?_);rintro e w3 ⟨rfl,hb3⟩;have H3:=Lh (H1.out.trans (hb3.mono H1.out.size));clear hb3 c0 c1 c2 c3 c4 c5))
     all_goals
      go_wp2_with fail
      go_loopw [3] (fun i wr=>∃ j:Nat,j<=fl.length/\i=.int .i64 j/\Below w.heap.size w wr/\Hid (FrmBox wr w.heap.size (.mk kind name n terms binds fl) y)/\Hid ((fl.take j).all (fun g=>(nodesF g).all formedF)=true)) (fun i _=>fl.length - (intOf i).toNat)
      case atStart=>exact ⟨0,Nat.zero_le _,rfl,(HK.out _ H3.out).1,Lh (HK.out _ H3.out).2,Lh rfl⟩
      case round =>
       obtain ⟨j,hj,rfl,hb,HBX,HP⟩:=hrel
       have HB0:=Lh hb
       obtain ⟨_,_,_,_,_,b5⟩:=HBX.out.cells
       simp only [Frm.l] at b5
       by_cases hlt:j<fl.length
       ·obtain ⟨y1,hy1,hy2⟩:=HFI.out j hlt
        obtain ⟨hxa,hFb⟩:=HFS.out (by omega)
        have HCL:=Lh (HIH.out j hlt y1 wr hb hy1)
        have HST:=Lh (allK_step hlt HP.out)
        have HBD:=Lh (fun h=>allK_bad (p:=fun g=>(nodesF g).all formedF) hlt h)
        obtain ⟨e0,e1,e2,e3,e4,e5⟩:=(hy2.agree (agree_of_below hb) hFb).six
        rw [hxa] at b5
        clear hy1 hy2 hFb hxa hb
        try simp only at HST HBD
        generalize fl[j]=fe at HCL e0 e1 e2 e3 e4 e5 HST HBD
        obtain ⟨kind1,name1,n1,terms1,binds1,fl1⟩:=fe
        generalize (nodesF (.mk kind1 name1 n1 terms1 binds1 fl1)).all formedF=fb at HCL HST HBD
        simp only [ndV,FrmA.cells,SlA.val,Frm.kind,Frm.name,Frm.n,Frm.terms,Frm.binds,Frm.l] at HCL e0 e1 e2 e3 e4 e5
        go_wp2_with fail
        refine HCL.out.mono ?_
        rintro e w1 ⟨rfl,hb1⟩
        have HC1:=Lh (aI (HB0.out.trans (hb1.mono HB0.out.size)) (HBX.out.below hb1))
        clear hb1 e0 e1 e2 e3 e4 e5 b5
        cases fb
        ·have HX:=Lh (HBD.out rfl)
         go_wp2_with fail
         go_ret
         exact ⟨by rw [HR2.out,HX.out];rfl,HC1.out.1⟩
        ·go_wp2_with fail
         exact ⟨⟨j+1,by omega,by go_num,HC1.out.1,Lh HC1.out.2,HST⟩,by simp [intOf];omega⟩
       ·have HX:Hid (fl.all (fun g=>(nodesF g).all formedF)=true):=Lh (by have:=HP.out;rw [List.take_of_length_le (by omega)] at this;exact this)
        clear hb
        go_wp2_with fail
        go_ret
        exact ⟨by rw [HR2.out,HX.out];rfl,HB0.out⟩
end Go.Proofs.YtpmalchlecnjbaaGreatDoor
/- The reference's formula: Size, Depth, Check. -/
namespace Go.Proofs.YtpmalchlecnjbaaGreatDoor
open Go.RowKit Go.Chalk
theorem r6size_any (m:Nat):∀ (f:Frm) (y:FrmA) (w:World),f.size<=m->f.size<=2000000->FrmIn w (·<w.heap.size) f y ->
  Calls Tryz.prog 17 #[ndV (f,y)] w fun e w'=>e=.returned (.int .i64 (f.size:Nat))/\Below w.heap.size w w':=by
 induction m with
 | zero=>intro f _ _ h;have:=f.size_pos;omega
 | succ m ih =>
  rintro ⟨kind,name,n,terms,binds,fl⟩ y w hm hsz hy
  rw [Frm.size] at hm hsz
  have hll:=length_le_fsizes fl
  have hba:Below w.heap.size w (w.alloc (.cells (y.cells (.mk kind name n terms binds fl)).toArray 28)):=(Below.refl _ _).alloc (Nat.le_refl _) _
  have hby:FrmBox (w.alloc (.cells (y.cells (.mk kind name n terms binds fl)).toArray 28)) w.heap.size (.mk kind name n terms binds fl) y:=by unfold FrmBox;rw [heap_get,if_pos rfl]
  have HFI:Hid (∀ (j:Nat) (hj:j<fl.length),∃ y1:FrmA,FrmIn w (·<w.heap.size) fl[j] y1/\CellsAt w y.l.b (y.l.o+j*6) (y1.cells fl[j])):=Lh (fun j hj=>hy.l.frm j hj)
  have HFS:Hid (SlAt (·<w.heap.size) y.l.a y.l.b y.l.o fl.length):=Lh (by have:=hy.l.at_;rw [List.length_map] at this;exact this)
  have HIH:=Lh (fun (j:Nat) (hj:j<fl.length) (y1:FrmA) (W:World) (hW:Below w.heap.size w W) (h1:FrmIn w (·<w.heap.size) fl[j] y1)=>ih fl[j] y1 W (by have:=size_le_fsizes fl j hj;omega) (by have:=size_le_fsizes fl j hj;omega) (h1.later hW hW.size))
  have HB:=Lh (aI hba hby)
  clear ih hy hba hby
  rw [Frm.size]
  simp only [ndV,FrmA.cells,SlA.val,Frm.kind,Frm.name,Frm.n,Frm.terms,Frm.binds,Frm.l] at HB ⊢
  go_enter Tryz.func17,Tryz.ntmps17
  go_wp2_with fail
  go_loopw [3,4] (fun nn i wr=>∃ (j:Nat),j<=fl.length/\i=.int .i64 j/\nn=.int .i64 (1+fsizes (fl.take j):Nat)/\Below w.heap.size w wr/\Hid (FrmBox wr w.heap.size (.mk kind name n terms binds fl) y)) (fun _ i _=>fl.length - (intOf i).toNat)
  case atStart=>exact ⟨0,Nat.zero_le _,rfl,rfl,HB.out.1,Lh HB.out.2⟩
  case round =>
   obtain ⟨j,hj,rfl,rfl,hb,HBX⟩:=hrel
   have HB0:=Lh hb
   obtain ⟨_,_,_,_,_,b5⟩:=HBX.out.cells
   simp only [Frm.l] at b5
   by_cases hlt:j<fl.length
   ·obtain ⟨y1,hy1,hy2⟩:=HFI.out j hlt
    obtain ⟨hxa,hFb⟩:=HFS.out (by omega)
    have HCL:=Lh (HIH.out j hlt y1 wr hb hy1)
    obtain ⟨e0,e1,e2,e3,e4,e5⟩:=(hy2.agree (agree_of_below hb) hFb).six
    rw [hxa] at b5
    clear hy1 hy2 hFb hxa hb
    have hs3:=fsizes_take_succ fl j hlt
    have hs4:=fsizes_take_le fl (j+1)
    have HS3:=Lh hs3
    generalize fsizes (fl.take j)=d1 at HS3 hs3 ⊢
    generalize fl[j]=fe at HCL HS3 hs3 e0 e1 e2 e3 e4 e5
    generalize fe.size=d2 at HS3 HCL hs3
    have hs5:1+d1+d2<=2000000:=by omega
    clear hs3 hs4
    obtain ⟨kind1,name1,n1,terms1,binds1,fl1⟩:=fe
    simp only [ndV,FrmA.cells,SlA.val,Frm.kind,Frm.name,Frm.n,Frm.terms,Frm.binds,Frm.l] at HCL e0 e1 e2 e3 e4 e5
    go_wp2_with fail
    refine HCL.out.mono ?_
    rintro e w1 ⟨rfl,hb1⟩
    have HC1:=Lh (aI (HB0.out.trans (hb1.mono HB0.out.size)) (HBX.out.below hb1))
    clear hb1 e0 e1 e2 e3 e4 e5 b5
    go_wp2_with fail
    refine ⟨⟨j+1,by omega,by go_num,?_,HC1.out.1,Lh HC1.out.2⟩,by simp [intOf];omega⟩
    rw [HS3.out]
    go_num
   ·clear hb
    have HE:Hid (fsizes (fl.take j)=fsizes fl):=Lh (by rw [List.take_of_length_le (by omega)])
    generalize fsizes (fl.take j)=d1 at HE ⊢
    go_wp2_with fail
    go_ret
    exact ⟨by rw [HE.out];rfl,HB0.out⟩
theorem r6depth_any (m:Nat):∀ (f:Frm) (y:FrmA) (w:World),f.size<=m->f.size<=2000000->FrmIn w (·<w.heap.size) f y ->
  Calls Tryz.prog 79 #[ndV (f,y)] w fun e w'=>e=.returned (.int .i64 (f.depth:Nat))/\Below w.heap.size w w':=by
 induction m with
 | zero=>intro f _ _ h;have:=f.size_pos;omega
 | succ m ih =>
  rintro ⟨kind,name,n,terms,binds,fl⟩ y w hm hsz hy
  rw [Frm.size] at hm hsz
  have hll:=length_le_fsizes fl
  have hba:Below w.heap.size w (w.alloc (.cells (y.cells (.mk kind name n terms binds fl)).toArray 28)):=(Below.refl _ _).alloc (Nat.le_refl _) _
  have hby:FrmBox (w.alloc (.cells (y.cells (.mk kind name n terms binds fl)).toArray 28)) w.heap.size (.mk kind name n terms binds fl) y:=by unfold FrmBox;rw [heap_get,if_pos rfl]
  have HFI:Hid (∀ (j:Nat) (hj:j<fl.length),∃ y1:FrmA,FrmIn w (·<w.heap.size) fl[j] y1/\CellsAt w y.l.b (y.l.o+j*6) (y1.cells fl[j])):=Lh (fun j hj=>hy.l.frm j hj)
  have HFS:Hid (SlAt (·<w.heap.size) y.l.a y.l.b y.l.o fl.length):=Lh (by have:=hy.l.at_;rw [List.length_map] at this;exact this)
  have HIH:=Lh (fun (j:Nat) (hj:j<fl.length) (y1:FrmA) (W:World) (hW:Below w.heap.size w W) (h1:FrmIn w (·<w.heap.size) fl[j] y1)=>ih fl[j] y1 W (by have:=size_le_fsizes fl j hj;omega) (by have:=size_le_fsizes fl j hj;omega) (h1.later hW hW.size))
  have HB:=Lh (aI hba hby)
  clear ih hy hba hby
  rw [Frm.depth]
  simp only [ndV,FrmA.cells,SlA.val,Frm.kind,Frm.name,Frm.n,Frm.terms,Frm.binds,Frm.l] at HB ⊢
  go_enter Tryz.func79,Tryz.ntmps79
  go_wp2_with fail
  go_loopw [3,4] (fun nn i wr=>∃ (j:Nat),j<=fl.length/\i=.int .i64 j/\nn=.int .i64 (fdepths (fl.take j):Nat)/\Below w.heap.size w wr/\Hid (FrmBox wr w.heap.size (.mk kind name n terms binds fl) y)) (fun _ i _=>fl.length - (intOf i).toNat)
  case atStart=>exact ⟨0,Nat.zero_le _,rfl,rfl,HB.out.1,Lh HB.out.2⟩
  case round =>
   obtain ⟨j,hj,rfl,rfl,hb,HBX⟩:=hrel
   have HB0:=Lh hb
   obtain ⟨_,_,_,_,_,b5⟩:=HBX.out.cells
   simp only [Frm.l] at b5
   by_cases hlt:j<fl.length
   ·obtain ⟨y1,hy1,hy2⟩:=HFI.out j hlt
    obtain ⟨hxa,hFb⟩:=HFS.out (by omega)
    have HCL:=Lh (HIH.out j hlt y1 wr hb hy1)
    obtain ⟨e0,e1,e2,e3,e4,e5⟩:=(hy2.agree (agree_of_below hb) hFb).six
    rw [hxa] at b5
    clear hy1 hy2 hFb hxa hb
    have hs3:=fdepths_take_succ fl j hlt
    have hs1:=size_le_fsizes fl j hlt
    have hd1:fdepths (fl.take j)<=2000000:=by have:=fdepths_sizes (fl.take j);have:=fsizes_take_le fl j;omega
    have hd2:(fl[j]).depth<=2000000:=by have:=Frm.depth_size fl[j];omega
    have HS3:=Lh hs3
    clear hs1 hs3
    generalize fdepths (fl.take j)=d1 at hd1 HS3 ⊢
    generalize fl[j]=fe at HCL HS3 hd2 e0 e1 e2 e3 e4 e5
    generalize fe.depth=d2 at hd2 HS3 HCL
    obtain ⟨kind1,name1,n1,terms1,binds1,fl1⟩:=fe
    simp only [ndV,FrmA.cells,SlA.val,Frm.kind,Frm.name,Frm.n,Frm.terms,Frm.binds,Frm.l] at HCL e0 e1 e2 e3 e4 e5
    go_wp2_with fail
    refine HCL.out.mono ?_
    rintro e w1 ⟨rfl,hb1⟩
    have HC1:=Lh (aI (HB0.out.trans (hb1.mono HB0.out.size)) (HBX.out.below hb1))
    clear hb1 e0 e1 e2 e3 e4 e5 b5
    go_wp2_with fail
    refine ⟨⟨j+1,by omega,by go_num,?_,HC1.out.1,Lh HC1.out.2⟩,by simp [intOf];omega⟩
    rw [HS3.out]
    first
     | go_num
     | (rcases Nat.lt_or_ge d1 d2 with h | h;(rw [if_pos h,Nat.max_eq_right (by omega)]);(rw [if_neg (by omega),Nat.max_eq_left (by omega)]))
   ·clear hb
    have hd1:fdepths (fl.take j)<=2000000:=by have:=fdepths_sizes (fl.take j);have:=fsizes_take_le fl j;omega
    have HE:Hid (fdepths (fl.take j)=fdepths fl):=Lh (by rw [List.take_of_length_le (by omega)])
    generalize fdepths (fl.take j)=d1 at hd1 HE ⊢
    go_wp2_with fail
    go_ret
    exact ⟨by rw [<- HE.out];go_num,HB0.out⟩
theorem r6check_any (f:Frm) (y:FrmA) (w:World) (hsz:f.size<=2000000) (hsm:∀ g∈nodesF f,FrmSm g) (hy:FrmIn w (·<w.heap.size) f y) :
  Calls Tryz.prog 43 #[ndV (f,y)] w fun e w'=>e=.returned (.int .i64 (frmCheck f))/\Below w.heap.size w w':=by
 have HFO:=Lh (fun (W:World) (hW:Below w.heap.size w W)=>r6form_any _ f y W (Nat.le_refl _) hsz hsm (hy.later hW hW.size))
 have HSZ:=Lh (fun (W:World) (hW:Below w.heap.size w W)=>r6size_any _ f y W (Nat.le_refl _) hsz (hy.later hW hW.size))
 have HDP:=Lh (fun (W:World) (hW:Below w.heap.size w W)=>r6depth_any _ f y W (Nat.le_refl _) hsz (hy.later hW hW.size))
 have HRS:Hid (frmCheck f=if (nodesF f).all formedF=false then 1 else if 256<f.size∨24<f.depth then 2 else 0):=Lh rfl
 generalize frmCheck f=res at HRS ⊢
 generalize (nodesF f).all formedF=fo at HFO HRS
 have hdz:=Frm.depth_size f
 generalize f.size=sz at HSZ HRS hsz hdz
 generalize f.depth=dp at HDP HRS hdz
 obtain ⟨W0,hW0⟩:∃ W0,W0=w.alloc (.cells (y.cells f).toArray 28):=⟨_,rfl⟩
 have hba:Below w.heap.size w W0:=by rw [hW0];exact (Below.refl _ _).alloc (Nat.le_refl _) _
 have hby:FrmBox W0 w.heap.size f y:=by unfold FrmBox;rw [hW0,heap_get,if_pos rfl]
 have HK:Hid (∀ W,Below W0.heap.size W0 W->Below w.heap.size w W/\FrmBox W w.heap.size f y):=Lh (fun W hW=>⟨hba.trans (hW.mono hba.size),hby.below hW⟩)
 have HW0:=Lh hW0
 clear hW0 hba hby hy hsm
 obtain ⟨kind,name,n,terms,binds,fl⟩:=f
 obtain ⟨c0,c1,c2,c3,c4,c5⟩:=(HK.out _ (Below.refl _ _)).2.cells
 simp only [ndV,FrmA.cells,SlA.val,Frm.kind,Frm.name,Frm.n,Frm.terms,Frm.binds,Frm.l] at HFO HSZ HDP HW0 c0 c1 c2 c3 c4 c5 ⊢
 go_enter Tryz.func43,Tryz.ntmps43
 go_upto_region 1 with fail
 rw [<- HW0.out]
 clear HW0
 go_wp2_with fail
 refine (HFO.out _ (HK.out _ (Below.refl _ _)).1).mono ?_
 rintro e w1 ⟨rfl,hb1⟩
 have H1:=Lh hb1
 clear hb1 c0 c1 c2 c3 c4 c5
 cases fo
 ·have HX:Hid (res=1):=Lh (by rw [HRS.out];rfl)
  go_wp2_with fail
  go_ret
  exact ⟨by rw [HX.out];rfl,(HK.out _ H1.out).1⟩
 obtain ⟨c0,c1,c2,c3,c4,c5⟩:=(HK.out _ H1.out).2.cells
 simp only [Frm.kind,Frm.name,Frm.n,Frm.terms,Frm.binds,Frm.l] at c0 c1 c2 c3 c4 c5
 go_wp2_with fail
 refine (HSZ.out _ (HK.out _ H1.out).1).mono ?_
 rintro e w2 ⟨rfl,hb2⟩
 have H2:=Lh (H1.out.trans (hb2.mono H1.out.size))
 clear hb2 c0 c1 c2 c3 c4 c5
 by_cases p1:(256:Int)<(sz:Int)
 ·have HX:Hid (res=2):=Lh (by rw [HRS.out,if_neg (by decide),if_pos (Or.inl (by omega))])
  go_wp2_with fail
  go_ret
  exact ⟨by rw [HX.out];rfl,(HK.out _ H2.out).1⟩
 have p1':decide ((256:Int)<(sz:Int))=false:=decide_eq_false p1
 have HRS2:Hid (res=if 24<dp then 2 else 0):=Lh (by
  rw [HRS.out,if_neg (by decide)]
  by_cases h:24<dp
  ·rw [if_pos h,if_pos (Or.inr h)]
  ·rw [if_neg h,if_neg (by omega)])
 clear p1 HRS
 obtain ⟨c0,c1,c2,c3,c4,c5⟩:=(HK.out _ H2.out).2.cells
 simp only [Frm.kind,Frm.name,Frm.n,Frm.terms,Frm.binds,Frm.l] at c0 c1 c2 c3 c4 c5
 go_wp2_with fail
 refine (HDP.out _ (HK.out _ H2.out).1).mono ?_
 rintro e w3 ⟨rfl,hb3⟩
 have H3:=Lh (H2.out.trans (hb3.mono H2.out.size))
 clear hb3 c0 c1 c2 c3 c4 c5
 by_cases p2:(24:Int)<(dp:Int)
 ·have HX:Hid (res=2):=Lh (by rw [HRS2.out,if_pos (by omega)])
  go_wp2_with fail
  go_ret
  exact ⟨by rw [HX.out];rfl,(HK.out _ H3.out).1⟩
 ·have HX:Hid (res=0):=Lh (by rw [HRS2.out,if_neg (by omega)])
  have p2':decide ((24:Int)<(dp:Int))=false:=decide_eq_false p2
  clear p2
  go_wp2_with fail
  go_ret
  exact ⟨by rw [HX.out];rfl,(HK.out _ H3.out).1⟩
end Go.Proofs.YtpmalchlecnjbaaGreatDoor
