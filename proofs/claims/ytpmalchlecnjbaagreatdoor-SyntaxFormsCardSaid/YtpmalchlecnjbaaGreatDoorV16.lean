/- Joined texts: Maps. -/
import Derived.Test.YtpmalchlecnjbaaGreatDoorV04
import Derived.Test.YtpmalchlecnjbaaGreatDoorChecked
import Derived.MapKept
import Derived.ChangeKeysEq
import Derived.Test.YtpmalchlecnjbaaGreatDoorV13
set_option linter.unusedVariables false
set_option linter.unusedSimpArgs false
/- Maps that the call makes, as sets: of texts, of pairs of numbers. -/
namespace Go.Chalk
open Go.RowKit
def setL:Nat->List Bs->List MapEntry
 | _,[]=>[]
 | n,x :: r=>{ key:=.string ⟨x.toArray⟩,val:=.bool true,born:=n } :: setL (n+1) r
def SetAt (w:World) (b:Nat) (met:List Bs):Prop:=w.heap[b]?=some (.map (setL 0 met).toArray met.length)
theorem setL_append:∀ (l:List Bs) (n:Nat) (x:Bs),setL n (l++[x])=setL n l++[{ key:=.string ⟨x.toArray⟩,val:=.bool true,born:=n+l.length }]
 | [],n,x=>rfl
 | y :: r,n,x=>by rw [List.cons_append,setL,setL_append r,setL,List.cons_append,List.length_cons];congr 4;omega
theorem bs_beq (a b:Bs):((⟨a.toArray⟩:ByteArray)==⟨b.toArray⟩)=(a==b):=by
 rw [Bool.eq_iff_iff,MapKept.bytes_beq,beq_iff_eq]
 constructor
 ·intro h;simpa using h
 ·rintro rfl;rfl
theorem find_set (k:Bs):∀ (l:List Bs) (n i:Nat),(l.contains k=false/\Instr.findNow .string (.string ⟨k.toArray⟩) (setL n l) i=some none)∨(l.contains k=true/\∃ j,Instr.findNow .string (.string ⟨k.toArray⟩) (setL n l) i=some (some (j,.bool true)))
 | [],n,i=>.inl ⟨rfl,rfl⟩
 | x :: r,n,i=>by
  rw [setL,Instr.findNow]
  simp only [Instr.sameNow,bs_beq,List.contains_cons]
  cases h:(k==x)
  ·simp only [Bool.false_or];exact find_set k r (n+1) (i+1)
  ·exact .inr ⟨by simp,i,rfl⟩
theorem set_look {P:Program} (w:World) (T K E:TypeId) (b:Nat) (met:List Bs) (k:Bs) (hT:P.underlying T=some (.map K E)) (hK:P.underlying K=some .string) (hz:∀ w,(zeroValue E).run P w=.ok (.bool false) w) (h:SetAt w b met) :
  (Instr.lookup T (.map (some b)) (.string ⟨k.toArray⟩) false).run P w=.ok (.bool (met.contains k)) w:=by
 unfold Instr.lookup
 rcases find_set k met 0 0 with ⟨h1,h2⟩ | ⟨h1,j,h2⟩
 ·simp only [Sem.run_bind,run_underlying hT,Result.andThen_ok,MapKept.run_getObj_map h,Sem.run_pure,MapKept.run_checkKey (P:=P) hK (k:=.string ⟨k.toArray⟩) trivial,MapKept.run_findKey hK h2,hz,h1]
  rfl
 ·simp only [Sem.run_bind,run_underlying hT,Result.andThen_ok,MapKept.run_getObj_map h,Sem.run_pure,MapKept.run_checkKey (P:=P) hK (k:=.string ⟨k.toArray⟩) trivial,MapKept.run_findKey hK h2,h1]
  rfl
theorem set_put {P:Program} (w:World) (T K E:TypeId) (b:Nat) (met:List Bs) (k:Bs) (hT:P.underlying T=some (.map K E)) (hK:P.underlying K=some .string) (h:SetAt w b met) (hk:met.contains k=false) :
  (Instr.mapUpdate T (.map (some b)) (.string ⟨k.toArray⟩) (.bool true)).run P w=.ok () (w.putObj b (.map (setL 0 (met++[k])).toArray (met++[k]).length)):=by
 unfold Instr.mapUpdate
 rcases find_set k met 0 0 with ⟨h1,h2⟩ | ⟨h1,j,h2⟩
 ·simp only [Sem.run_bind,run_underlying hT,Result.andThen_ok,MapKept.run_getObj_map h,MapKept.run_checkKey (P:=P) hK (k:=.string ⟨k.toArray⟩) trivial,MapKept.run_findKey hK h2,MapKept.run_setObj_map _ h]
  rw [setL_append,Nat.zero_add,List.length_append,List.length_singleton]
  simp [World.putObj]
 ·rw [hk] at h1;cases h1
theorem setAt_new (w:World):SetAt (w.alloc (.map #[] 0)) w.heap.size []:=by
 show (w.heap.push _)[w.heap.size]?=_;simp [setL]

end Go.Chalk
namespace Go.Proofs.YtpmalchlecnjbaaGreatDoor
open Go.RowKit Go.Chalk
end Go.Proofs.YtpmalchlecnjbaaGreatDoor
