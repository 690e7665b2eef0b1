/- Joined texts: Named0. -/
import Derived.Test.YtpmalchlecnjbaaGreatDoorV06
import Derived.Laws.RangeString
import Derived.Lib.DecodeN
import Derived.Lib.SlTrimSet
import Derived.Shelf.GgClosure.StringsIndexFunc
set_option linter.unusedVariables false
set_option linter.unusedSimpArgs false
/- What strings.ContainsFunc, strings.Trim say of names. No program is named here. -/
namespace Go.Chalk
def cutS:Bs:=[97,98,99,100,101,102,103,104,105,106,107,108,109,110,111,112,113,114,115,116,117,118,119,120,121,122,48,49,50,51,52,53,54,55,56,57,95]
theorem cut_fin:∀ n:Fin 256,cutS.contains (UInt8.ofNat n.val)=innerB (UInt8.ofNat n.val):=by decide +kernel
theorem cut_inner (c:UInt8):cutS.contains c=innerB c:=by
 have:=cut_fin ⟨c.toNat,c.toNat_lt⟩
 simpa using this
theorem trim_inner (s:Bs):(Lib.trimS s cutS).isEmpty=s.all innerB:=by
 have key:∀ (p:UInt8->Bool) (l:Bs),(l.dropWhile p=[]) ↔ l.all p=true:=fun p l=>by
  induction l with
  | nil=>simp
  | cons x r ih=>rw [List.dropWhile_cons,List.all_cons];cases h:p x <;> simp [ih]
 have e:(fun c=>cutS.contains c)=innerB:=funext cut_inner
 rw [Bool.eq_iff_iff,List.isEmpty_iff]
 unfold Lib.trimS Lib.trimLeftS Lib.trimRightS
 rw [e,key,List.all_reverse]
 constructor
 ·intro h
  by_cases ha:s.all innerB=true
  ·exact ha
  ·exfalso
   have h1:s.reverse.dropWhile innerB ≠ []:=fun h0=>ha (by rw [key,List.all_reverse] at h0;exact h0)
   obtain ⟨c,hc⟩:∃ c,(s.reverse.dropWhile innerB).head?=some c:=by
    cases hd:s.reverse.dropWhile innerB with
    | nil=>exact absurd hd h1
    | cons c r=>exact ⟨c,rfl⟩
   have h2:innerB c=false:=by
    have:=List.head?_dropWhile_not innerB s.reverse
    rw [hc] at this
    simpa using this
   have h3:c∈s.reverse.dropWhile innerB:=List.mem_of_head? hc
   have:=List.all_eq_true.1 h c h3
   rw [h2] at this;cases this
 ·intro h
  have:s.reverse.dropWhile innerB=[]:=by rw [key,List.all_reverse];exact h
  rw [this];rfl
end Go.Chalk
