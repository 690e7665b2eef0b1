/- Joined texts: Maps. -/
import Derived.Test.YtncnnbmeacpboaaGreatDoorN04
import Derived.Test.YtncnnbmeacpboaaGreatDoorChecked
import Derived.MapKept
import Derived.ChangeKeysEq
import Derived.Test.YtncnnbmeacpboaaGreatDoorN12
set_option linter.unusedVariables false
set_option linter.unusedSimpArgs false
/- Maps that the call makes, as sets: of texts, of pairs of numbers. -/
namespace Go.Chalk
open Go.RowKit
def setL:Nat->List Bs->List MapEntry
 | _,[]=>[]
 | n,x :: r=>{ key:=.string ⟨x.toArray⟩,val:=.bool true,born:=n } :: setL (n+1) r
def SetAt (w:World) (b:Nat) (met:List Bs):Prop:=w.heap[b]?=some (.map (setL 0 met).toArray met.length)
theorem setL_append:∀ (l:List Bs) (n:Nat) (x:Bs),setL n (l++[x])=setL n l++[{ key:=.string ⟨x.toArray⟩,val:=.bool true,born:=n+l.length }]
 | [],n,x=>rfl
 | y :: r,n,x=>by rw [List.cons_append,setL,setL_append r,setL,List.cons_append,List.length_cons];congr 4;omega
theorem bs_beq (a b:Bs):((⟨a.toArray⟩:ByteArray)==⟨b.toArray⟩)=(a==b):=by
 rw [Bool.eq_iff_iff,MapKept.bytes_beq,beq_iff_eq]
 constructor
 ·intro h;simpa using h
 ·rintro rfl;rfl
theorem find_set (k:Bs):∀ (l:List Bs) (n i:Nat),(l.contains k=false/\Instr.findNow .string (.string ⟨k.toArray⟩) (setL n l) i=some none)∨(l.contains k=true/\∃ j,Instr.findNow .string (.string ⟨k.toArray⟩) (setL n l) i=some (some (j,.bool true)))
 | [],n,i=>.inl ⟨rfl,rfl⟩
 | x :: r,n,i=>by
  rw [setL,Instr.findNow]
  simp only [Instr.sameNow,bs_beq,List.contains_cons]
  cases h:(k==x)
  ·simp only [Bool.false_or];exact find_set k r (n+1) (i+1)
  ·exact .inr ⟨by simp,i,rfl⟩
theorem set_look {P:Program} (w:World) (T K E:TypeId) (b:Nat) (met:List Bs) (k:Bs) (hT:P.underlying T=some (.map K E)) (hK:P.underlying K=some .string) (hz:∀ w,(zeroValue E).run P w=.ok (.bool false) w) (h:SetAt w b met) :
  (Instr.lookup T (.map (some b)) (.string ⟨k.toArray⟩) false).run P w=.ok (.bool (met.contains k)) w:=by
 unfold Instr.lookup
 rcases find_set k met 0 0 with ⟨h1,h2⟩ | ⟨h1,j,h2⟩
 ·simp only [Sem.run_bind,run_underlying hT,Result.andThen_ok,MapKept.run_getObj_map h,Sem.run_pure,MapKept.run_checkKey (P:=P) hK (k:=.string ⟨k.toArray⟩) trivial,MapKept.run_findKey hK h2,hz,h1]
  rfl
 ·simp only [Sem.run_bind,run_underlying hT,Result.andThen_ok,MapKept.run_getObj_map h,Sem.run_pure,MapKept.run_checkKey (P:=P) hK (k:=.string ⟨k.toArray⟩) trivial,MapKept.run_findKey hK h2,h1]
  rfl
theorem set_put {P:Program} (w:World) (T K E:TypeId) (b:Nat) (met:List Bs) (k:Bs) (hT:P.underlying T=some (.map K E)) (hK:P.underlying K=some .string) (h:SetAt w b met) (hk:met.contains k=false) :
  (Instr.mapUpdate T (.map (some b)) (.string ⟨k.toArray⟩) (.bool true)).run P w=.ok () (w.putObj b (.map (setL 0 (met++[k])).toArray (met++[k]).length)):=by
 unfold Instr.mapUpdate
 rcases find_set k met 0 0 with ⟨h1,h2⟩ | ⟨h1,j,h2⟩
 ·simp only [Sem.run_bind,run_underlying hT,Result.andThen_ok,MapKept.run_getObj_map h,MapKept.run_checkKey (P:=P) hK (k:=.string ⟨k.toArray⟩) trivial,MapKept.run_findKey hK h2,MapKept.run_setObj_map _ h]
  rw [setL_append,Nat.zero_add,List.length_append,List.length_singleton]
  simp [World.putObj]
 ·rw [hk] at h1;cases h1
theorem setAt_new (w:World):SetAt (w.alloc (.map #[] 0)) w.heap.size []:=by
 show (w.heap.push _)[w.heap.size]?=_;simp [setL]

def pairV (p:Int×Int):Value:=.agg #[.int .i64 p.1,.int .i64 p.2]
def pairL:Nat->List (Int×Int)->List MapEntry
 | _,[]=>[]
 | n,x :: r=>{ key:=pairV x,val:=.bool true,born:=n } :: pairL (n+1) r
def PairAt (w:World) (b:Nat) (met:List (Int×Int)):Prop:=w.heap[b]?=some (.map (pairL 0 met).toArray met.length)
theorem pairL_append:∀ (l:List (Int×Int)) (n:Nat) (x:Int×Int),pairL n (l++[x])=pairL n l++[{ key:=pairV x,val:=.bool true,born:=n+l.length }]
 | [],n,x=>rfl
 | y :: r,n,x=>by rw [List.cons_append,pairL,pairL_append r,pairL,List.cons_append,List.length_cons];congr 4;omega
structure PairOk (P:Program) (K:TypeId):Prop where
 key:∃ d,P.underlying K=some d/\d ≠ .string/\d ≠ .bool/\∀ k,d ≠ .int k
 check:∀ (e:Bool) (p:Int×Int) (w:World),(Instr.checkKey e 10000 K (pairV p)).run P w=.ok () w
 equal:∀ (p q:Int×Int) (w:World),(Op.equal K (pairV p) (pairV q)).run P w=.ok (p==q) w
theorem ask_pair {P:Program} {K:TypeId} (hP:PairOk P K) (k:Int×Int) (w:World):∀ (l:List (Int×Int)) (n i:Nat),(l.contains k=false/\(Instr.findAsking K (pairV k) (pairL n l) i).run P w=.ok none w)∨(l.contains k=true/\∃ j,(Instr.findAsking K (pairV k) (pairL n l) i).run P w=.ok (some (j,.bool true)) w)
 | [],n,i=>.inl ⟨rfl,rfl⟩
 | x :: r,n,i=>by
  rw [pairL,Instr.findAsking]
  simp only [Sem.run_bind,hP.equal,Result.andThen_ok,List.contains_cons]
  cases h:(k==x)
  ·simp only [Bool.false_or,Bool.false_eq_true,if_false];exact ask_pair hP k w r (n+1) (i+1)
  ·exact .inr ⟨by simp,i,rfl⟩
theorem find_pair {P:Program} {K:TypeId} (hP:PairOk P K) (k:Int×Int) (w:World) (l:List (Int×Int)):(l.contains k=false/\(Instr.findKey K (pairV k) (pairL 0 l)).run P w=.ok none w)∨(l.contains k=true/\∃ j,(Instr.findKey K (pairV k) (pairL 0 l)).run P w=.ok (some (j,.bool true)) w):=by
 obtain ⟨d,hd,h1,h2,h3⟩:=hP.key
 unfold Instr.findKey
 simp only [Sem.run_bind,run_underlying hd,Result.andThen_ok]
 cases l with
 | nil=>exact .inl ⟨rfl,rfl⟩
 | cons x r =>
  have:Instr.findNow d (pairV k) (pairL 0 (x :: r)) 0=none:=by
   rw [pairL,Instr.findNow]
   have:Instr.sameNow d (pairV k) (pairV x)=none:=by
    unfold pairV Instr.sameNow
    cases d <;> simp_all
   rw [this]
  rw [this]
  exact ask_pair hP k w (x :: r) 0 0
theorem pair_look {P:Program} (w:World) (T K E:TypeId) (b:Nat) (met:List (Int×Int)) (k:Int×Int) (hT:P.underlying T=some (.map K E)) (hP:PairOk P K) (hz:∀ w,(zeroValue E).run P w=.ok (.bool false) w) (h:PairAt w b met) :
  (Instr.lookup T (.map (some b)) (pairV k) false).run P w=.ok (.bool (met.contains k)) w:=by
 unfold Instr.lookup
 rcases find_pair hP k w met with ⟨h1,h2⟩ | ⟨h1,j,h2⟩
 ·simp only [Sem.run_bind,run_underlying hT,Result.andThen_ok,MapKept.run_getObj_map h,Sem.run_pure,hP.check,h2,hz,h1]
  rfl
 ·simp only [Sem.run_bind,run_underlying hT,Result.andThen_ok,MapKept.run_getObj_map h,Sem.run_pure,hP.check,h2,h1]
  rfl
theorem pair_put {P:Program} (w:World) (T K E:TypeId) (b:Nat) (met:List (Int×Int)) (k:Int×Int) (hT:P.underlying T=some (.map K E)) (hP:PairOk P K) (h:PairAt w b met) (hk:met.contains k=false) :
  (Instr.mapUpdate T (.map (some b)) (pairV k) (.bool true)).run P w=.ok () (w.putObj b (.map (pairL 0 (met++[k])).toArray (met++[k]).length)):=by
 unfold Instr.mapUpdate
 rcases find_pair hP k w met with ⟨h1,h2⟩ | ⟨h1,j,h2⟩
 ·simp only [Sem.run_bind,run_underlying hT,Result.andThen_ok,MapKept.run_getObj_map h,hP.check,h2,MapKept.run_setObj_map _ h]
  rw [pairL_append,Nat.zero_add,List.length_append,List.length_singleton]
  simp [World.putObj]
 ·rw [hk] at h1;cases h1
end Go.Chalk
namespace Go.Proofs.YtncnnbmeacpboaaGreatDoor
open Go.RowKit Go.Chalk
theorem infoInt2:(Tryz.prog.info? 3).map (fun i=>(i.zero,i.size,i.bytes))=some (some (.int .i64 0),1,8):=by kernel_rfl
theorem pairOk:PairOk Tryz.prog 126 where
 key:=⟨_,Tryz.underlying126,by simp,by simp,by simp⟩
 check:=fun e p w=>by unfold pairV;kernel_rfl
 equal:=fun p q w=>by
  obtain ⟨a,b⟩:=p
  obtain ⟨c,d⟩:=q
  obtain ⟨i0,hi,_,_,_⟩:=info_parts infoInt2
  have hc:Tryz.prog.cellsOf 3=1:=by kernel_rfl
  have p0:∀ (x y:Int) (w:World),(part 3 #[.int .i64 x,.int .i64 y] 0).run Tryz.prog w=.ok (.int .i64 x) w:=fun _ _ _=>by kernel_rfl
  have p1:∀ (x y:Int) (w:World),(part 3 #[.int .i64 x,.int .i64 y] 1).run Tryz.prog w=.ok (.int .i64 y) w:=fun _ _ _=>by kernel_rfl
  have pe:∀ (x y:Int) (w:World),(Op.equalIn 9999 3 (.int .i64 x) (.int .i64 y)).run Tryz.prog w=.ok (x==y) w:=fun x y w=>run_equalIn_int w 9998 3 .i64 .i64 x y Tryz.underlying3
  unfold Op.equal Op.maxDepth pairV
  rw [show (10000:Nat)=9999+1 from rfl,run_equalIn_array w 9999 _ _ Tryz.underlying126 hi,hc,show List.range 2=[0,1] from rfl]
  simp only [Op.eqItems,Sem.run_bind,Nat.mul_one,p0,p1,pe,Result.andThen_ok]
  by_cases h1:a=c <;> by_cases h2:b=d <;> simp [h1,h2,p1,pe]
end Go.Proofs.YtncnnbmeacpboaaGreatDoor
