/- Parts of the proof. -/
import Derived.Test.YtncnnbmeacpboaaGreatDoorQ06
import Derived.Lib.SlTrimSet
import Derived.Shelf.GgClosure.StringsIndexFunc
set_option linter.unusedVariables false
set_option linter.unusedSimpArgs false
namespace Go.aa
def jT(r:Nat):Bool:=(decide (97<=r)&&decide (r<=122))||(decide (48<=r)&&decide (r<=57))||r==95
theorem y9(s:ByteArray)(pos:Nat)(h:pos<s.size):jT (Utf8.decode s pos).1=aU (s[pos]'h)/\(aU (s[pos]'h)=true->(Utf8.decode s pos).2=1):=by
 by_cases ha:(s[pos]'h).toNat<128
 ·rw[decode_ascii s pos h ha];exact⟨rfl,fun _=>rfl⟩
 ·have hb:aU (s[pos]'h)=false:=by
   unfold aU dX jS;simp;omega
  rw[hb];refine⟨?_,fun h=>by cases h⟩;have e:s.get! pos=s[pos]'h:=by
   simp[ByteArray.get!,h];rfl
  rw[Lib.decode_at,e];generalize (s[pos]'h).toNat=b0 at ha;have big:128<=(Lib.decodeN (s.size-pos) b0 (s.get! (pos+1)).toNat (s.get! (pos+2)).toNat (s.get! (pos+3)).toNat).1:=by
   unfold Lib.decodeN;rw[if_neg ha]
   repeat' split
   all_goals(simp only;omega)
  unfold jT;simp;omega
theorem yc(s:ByteArray):∀(f pos:Nat),s.size-pos<=f->pos<=s.size->decide (0<=Lib.idxFuncFrom (fun r=>!(jT r)) true s f pos)=!((s.data.toList.drop pos).all aU)
 |0,pos,hf,hp=>by
  have el:s.data.toList.length=s.size:=by rw[Array.length_toList];rfl
  have:pos=s.data.toList.length:=by omega
  rw[this,List.drop_length];simp[Lib.idxFuncFrom]
 |f+1,pos,hf,hp=>by
  have el:s.data.toList.length=s.size:=by rw[Array.length_toList];rfl
  rw[Lib.idxFuncFrom];by_cases hlt:pos<s.size
  ·rw[if_pos hlt];obtain⟨h1,h2⟩:=y9 s pos hlt;have hd:s.data.toList.drop pos=s[pos]::s.data.toList.drop (pos+1):=by
    rw[List.drop_eq_getElem_cons (by omega)];rfl
   rw[hd,List.all_cons];by_cases hi:aU (s[pos]'hlt)=true
   ·rw[if_neg (by rw[h1,hi];decide),h2 hi,hi,Bool.true_and];exact yc s f (pos+1) (by omega) (by omega)
   ·have hi:aU (s[pos]'hlt)=false:=by simpa using hi
    rw[if_pos (by rw[h1,hi];rfl),hi];simp
  ·rw[if_neg hlt];have:pos=s.data.toList.length:=by omega
   rw[this,List.drop_length];rfl
theorem uQ(s:Bs):decide (0<=Lib.idxFunc (fun r=>!(jT r)) true ⟨s.toArray⟩)=!(s.all aU):=by
 have:=yc ⟨s.toArray⟩ (⟨s.toArray⟩:ByteArray).size 0 (by omega) (by omega);unfold Lib.idxFunc;rw[this];simp
def AX:Bs:=[97,98,99,100,101,102,103,104,105,106,107,108,109,110,111,112,113,114,115,116,117,118,119,120,121,122,48,49,50,51,52,53,54,55,56,57,95]
theorem NR:∀n:Fin 256,AX.contains (UInt8.ofNat n.val)=aU (UInt8.ofNat n.val):=by decide+kernel
theorem GC(c:UInt8):AX.contains c=aU c:=by
 have:=NR ⟨c.toNat,c.toNat_lt⟩;simpa using this
theorem ET(s:Bs):(Lib.trimS s AX).isEmpty=s.all aU:=by
 have key:∀(p:UInt8->Bool) (l:Bs),(l.dropWhile p=[])↔l.all p=true:=fun p l=>by
  induction l with
  |nil=>simp
  |cons x r ih=>rw[List.dropWhile_cons,List.all_cons];cases h:p x<;>simp[ih]
 have e:(fun c=>AX.contains c)=aU:=funext GC;rw[Bool.eq_iff_iff,List.isEmpty_iff];unfold Lib.trimS Lib.trimLeftS Lib.trimRightS;rw[e,key,List.all_reverse];constructor
 ·intro h;by_cases ha:s.all aU=true
  ·exact ha
  ·exfalso;have h1:s.reverse.dropWhile aU≠[]:=fun h0=>ha (by rw[key,List.all_reverse] at h0;exact h0);obtain⟨c,hc⟩:∃c,(s.reverse.dropWhile aU).head?=some c:=by
    cases hd:s.reverse.dropWhile aU with
    |nil=>exact absurd hd h1
    |cons c r=>exact⟨c,rfl⟩
   have h2:aU c=false:=by
    have:=List.head?_dropWhile_not aU s.reverse;rw[hc] at this;simpa using this
   have h3:c∈s.reverse.dropWhile aU:=List.mem_of_head? hc;have:=List.all_eq_true.1 h c h3;rw[h2] at this;cases this
 ·intro h;have:s.reverse.dropWhile aU=[]:=by rw[key,List.all_reverse];exact h
  rw[this];rfl
end Go.aa
