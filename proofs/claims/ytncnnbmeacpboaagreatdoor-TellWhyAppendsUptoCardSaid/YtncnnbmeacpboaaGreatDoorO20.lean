/- Parts of the proof. -/
import Derived.Test.YtncnnbmeacpboaaGreatDoorO06
import Derived.Lib.SlTrimSet
import Derived.Shelf.GgClosure.StringsIndexFunc
set_option linter.unusedVariables false
set_option linter.unusedSimpArgs false
namespace Go.aa
def iY(r:Nat):Bool:=(decide (97<=r)&&decide (r<=122))||(decide (48<=r)&&decide (r<=57))||r==95
theorem vK(s:ByteArray)(pos:Nat)(h:pos<s.size):iY (Utf8.decode s pos).1=bE (s[pos]'h)/\(bE (s[pos]'h)=true->(Utf8.decode s pos).2=1):=by
 by_cases ha:(s[pos]'h).toNat<128
 ·rw[decode_ascii s pos h ha];exact⟨rfl,fun _=>rfl⟩
 ·have hb:bE (s[pos]'h)=false:=by
   unfold bE kJ ku;simp;omega
  rw[hb];refine⟨?_,fun h=>by cases h⟩;have e:s.get! pos=s[pos]'h:=by
   simp[ByteArray.get!,h];rfl
  rw[Lib.decode_at,e];generalize (s[pos]'h).toNat=b0 at ha;have big:128<=(Lib.decodeN (s.size-pos) b0 (s.get! (pos+1)).toNat (s.get! (pos+2)).toNat (s.get! (pos+3)).toNat).1:=by
   unfold Lib.decodeN;rw[if_neg ha]
   repeat' split
   all_goals(simp only;omega)
  unfold iY;simp;omega
theorem uH(s:ByteArray):∀(f pos:Nat),s.size-pos<=f->pos<=s.size->decide (0<=Lib.idxFuncFrom (fun r=>!(iY r)) true s f pos)=!((s.data.toList.drop pos).all bE)
 |0,pos,hf,hp=>by
  have el:s.data.toList.length=s.size:=by rw[Array.length_toList];rfl
  have:pos=s.data.toList.length:=by omega
  rw[this,List.drop_length];simp[Lib.idxFuncFrom]
 |f+1,pos,hf,hp=>by
  have el:s.data.toList.length=s.size:=by rw[Array.length_toList];rfl
  rw[Lib.idxFuncFrom];by_cases hlt:pos<s.size
  ·rw[if_pos hlt];obtain⟨h1,h2⟩:=vK s pos hlt;have hd:s.data.toList.drop pos=s[pos]::s.data.toList.drop (pos+1):=by
    rw[List.drop_eq_getElem_cons (by omega)];rfl
   rw[hd,List.all_cons];by_cases hi:bE (s[pos]'hlt)=true
   ·rw[if_neg (by rw[h1,hi];decide),h2 hi,hi,Bool.true_and];exact uH s f (pos+1) (by omega) (by omega)
   ·have hi:bE (s[pos]'hlt)=false:=by simpa using hi
    rw[if_pos (by rw[h1,hi];rfl),hi];simp
  ·rw[if_neg hlt];have:pos=s.data.toList.length:=by omega
   rw[this,List.drop_length];rfl
theorem qY(s:Bs):decide (0<=Lib.idxFunc (fun r=>!(iY r)) true ⟨s.toArray⟩)=!(s.all bE):=by
 have:=uH ⟨s.toArray⟩ (⟨s.toArray⟩:ByteArray).size 0 (by omega) (by omega);unfold Lib.idxFunc;rw[this];simp
def xx:Bs:=[97,98,99,100,101,102,103,104,105,106,107,108,109,110,111,112,113,114,115,116,117,118,119,120,121,122,48,49,50,51,52,53,54,55,56,57,95]
theorem II:∀n:Fin 256,xx.contains (UInt8.ofNat n.val)=bE (UInt8.ofNat n.val):=by decide+kernel
theorem Cb(c:UInt8):xx.contains c=bE c:=by
 have:=II ⟨c.toNat,c.toNat_lt⟩;simpa using this
theorem Aq(s:Bs):(Lib.trimS s xx).isEmpty=s.all bE:=by
 have key:∀(p:UInt8->Bool) (l:Bs),(l.dropWhile p=[])↔l.all p=true:=fun p l=>by
  induction l with
  |nil=>simp
  |cons x r ih=>rw[List.dropWhile_cons,List.all_cons];cases h:p x<;>simp[ih]
 have e:(fun c=>xx.contains c)=bE:=funext Cb;rw[Bool.eq_iff_iff,List.isEmpty_iff];unfold Lib.trimS Lib.trimLeftS Lib.trimRightS;rw[e,key,List.all_reverse];constructor
 ·intro h;by_cases ha:s.all bE=true
  ·exact ha
  ·exfalso;have h1:s.reverse.dropWhile bE≠[]:=fun h0=>ha (by rw[key,List.all_reverse] at h0;exact h0);obtain⟨c,hc⟩:∃c,(s.reverse.dropWhile bE).head?=some c:=by
    cases hd:s.reverse.dropWhile bE with
    |nil=>exact absurd hd h1
    |cons c r=>exact⟨c,rfl⟩
   have h2:bE c=false:=by
    have:=List.head?_dropWhile_not bE s.reverse;rw[hc] at this;simpa using this
   have h3:c∈s.reverse.dropWhile bE:=List.mem_of_head? hc;have:=List.all_eq_true.1 h c h3;rw[h2] at this;cases this
 ·intro h;have:s.reverse.dropWhile bE=[]:=by rw[key,List.all_reverse];exact h
  rw[this];rfl
end Go.aa
