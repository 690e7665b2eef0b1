/- Parts of the proof. -/
import Derived.Test.YtncnnbmeacpboaaGreatDoorChecked
import Derived.Test.YtncnnbmeacpboaaGreatDoorQ12
set_option linter.unusedVariables false
set_option linter.unusedSimpArgs false
namespace Go.aa
open Go.RowKit
variable {P:Program}
def wE:Nat->List Bs->List MapEntry
 |_,[]=>[]
 |n,x::r=>{ key:=.string ⟨x.toArray⟩,val:=.bool true,born:=n}::wE (n+1) r
def uI(w:World)(b:Nat)(met:List Bs):Prop:=w.heap[b]?=some (.map (wE 0 met).toArray met.length)
theorem tq:∀(l:List Bs) (n:Nat) (x:Bs),wE n (l++[x])=wE n l++[{ key:=.string ⟨x.toArray⟩,val:=.bool true,born:=n+l.length}]
 |[],n,x=>rfl
 |y::r,n,x=>by rw[List.cons_append,wE,tq r,wE,List.cons_append,List.length_cons];congr 4;omega
theorem J6(a b:Bs):((⟨a.toArray⟩:ByteArray)==⟨b.toArray⟩)=(a==b):=by
 rw[Bool.eq_iff_iff,MapKept.bytes_beq,beq_iff_eq];constructor
 ·intro h;simpa using h
 ·rintro rfl;rfl
theorem uY(k:Bs):∀(l:List Bs) (n i:Nat),(l.contains k=false/\Instr.findNow .string (.string ⟨k.toArray⟩) (wE n l) i=some none)∨(l.contains k=true/\∃j,Instr.findNow .string (.string ⟨k.toArray⟩) (wE n l) i=some (some (j,.bool true)))
 |[],n,i=>.inl ⟨rfl,rfl⟩
 |x::r,n,i=>by
  rw[wE,Instr.findNow];simp only[Instr.sameNow,J6,List.contains_cons];cases h:(k==x)
  ·simp only[Bool.false_or];exact uY k r (n+1) (i+1)
  ·exact .inr ⟨by simp,i,rfl⟩
theorem Cx(w:World)(T K E:TypeId)(b:Nat)(met:List Bs)(k:Bs)(hT:P.underlying T=some (.map K E))(hK:P.underlying K=some .string)(hz:∀w,(zeroValue E).run P w=.ok (.bool false) w)(h:uI w b met):
  (Instr.lookup T (.map (some b)) (.string ⟨k.toArray⟩) false).run P w=.ok (.bool (met.contains k)) w:=by
 unfold Instr.lookup;rcases uY k met 0 0 with⟨h1,h2⟩|⟨h1,j,h2⟩
 ·simp only[Sem.run_bind,run_underlying hT,Result.andThen_ok,MapKept.run_getObj_map h,Sem.run_pure,MapKept.run_checkKey (P:=P) hK (k:=.string ⟨k.toArray⟩) trivial,MapKept.run_findKey hK h2,hz,h1];rfl
 ·simp only[Sem.run_bind,run_underlying hT,Result.andThen_ok,MapKept.run_getObj_map h,Sem.run_pure,MapKept.run_checkKey (P:=P) hK (k:=.string ⟨k.toArray⟩) trivial,MapKept.run_findKey hK h2,h1];rfl
theorem FU(w:World)(T K E:TypeId)(b:Nat)(met:List Bs)(k:Bs)(hT:P.underlying T=some (.map K E))(hK:P.underlying K=some .string)(h:uI w b met)(hk:met.contains k=false):
  (Instr.mapUpdate T (.map (some b)) (.string ⟨k.toArray⟩) (.bool true)).run P w=.ok () (w.putObj b (.map (wE 0 (met++[k])).toArray (met++[k]).length)):=by
 unfold Instr.mapUpdate;rcases uY k met 0 0 with⟨h1,h2⟩|⟨h1,j,h2⟩
 ·simp only[Sem.run_bind,run_underlying hT,Result.andThen_ok,MapKept.run_getObj_map h,MapKept.run_checkKey (P:=P) hK (k:=.string ⟨k.toArray⟩) trivial,MapKept.run_findKey hK h2,MapKept.run_setObj_map _ h];rw[tq,Nat.zero_add,List.length_append,List.length_singleton];simp[World.putObj]
 ·rw[hk] at h1;cases h1
theorem IE(w:World):uI (w.alloc (.map #[] 0)) w.heap.size []:=by
 show(w.heap.push _)[w.heap.size]?=_;simp[wE]
def jv(p:Int×Int):Value:=.agg #[.int .i64 p.1,.int .i64 p.2]
def lh:Nat->List (Int×Int)->List MapEntry
 |_,[]=>[]
 |n,x::r=>{ key:=jv x,val:=.bool true,born:=n}::lh (n+1) r
def yV(w:World)(b:Nat)(met:List (Int×Int)):Prop:=w.heap[b]?=some (.map (lh 0 met).toArray met.length)
theorem qX:∀(l:List (Int×Int)) (n:Nat) (x:Int×Int),lh n (l++[x])=lh n l++[{ key:=jv x,val:=.bool true,born:=n+l.length}]
 |[],n,x=>rfl
 |y::r,n,x=>by rw[List.cons_append,lh,qX r,lh,List.cons_append,List.length_cons];congr 4;omega
structure uG (P:Program) (K:TypeId):Prop where
 key:∃d,P.underlying K=some d/\d≠ .string/\d≠ .bool/\∀k,d≠ .int k
 check:∀(e:Bool) (p:Int×Int) (w:World),(Instr.checkKey e 10000 K (jv p)).run P w=.ok () w
 equal:∀(p q:Int×Int) (w:World),(Op.equal K (jv p) (jv q)).run P w=.ok (p==q) w
theorem AL{P:Program}{K:TypeId}(hP:uG P K)(k:Int×Int)(w:World):∀(l:List (Int×Int)) (n i:Nat),(l.contains k=false/\(Instr.findAsking K (jv k) (lh n l) i).run P w=.ok none w)∨(l.contains k=true/\∃j,(Instr.findAsking K (jv k) (lh n l) i).run P w=.ok (some (j,.bool true)) w)
 |[],n,i=>.inl ⟨rfl,rfl⟩
 |x::r,n,i=>by
  rw[lh,Instr.findAsking];simp only[Sem.run_bind,hP.equal,Result.andThen_ok,List.contains_cons];cases h:(k==x)
  ·simp only[Bool.false_or,Bool.false_eq_true,if_false];exact AL hP k w r (n+1) (i+1)
  ·exact .inr ⟨by simp,i,rfl⟩
theorem xW{K:TypeId}(hP:uG P K)(k:Int×Int)(w:World)(l:List (Int×Int)):(l.contains k=false/\(Instr.findKey K (jv k) (lh 0 l)).run P w=.ok none w)∨(l.contains k=true/\∃j,(Instr.findKey K (jv k) (lh 0 l)).run P w=.ok (some (j,.bool true)) w):=by
 obtain⟨d,hd,h1,h2,h3⟩:=hP.key;unfold Instr.findKey;simp only[Sem.run_bind,run_underlying hd,Result.andThen_ok];cases l with
 |nil=>exact .inl ⟨rfl,rfl⟩
 |cons x r=>
  have:Instr.findNow d (jv k) (lh 0 (x::r)) 0=none:=by
   rw[lh,Instr.findNow];have:Instr.sameNow d (jv k) (jv x)=none:=by
    unfold jv Instr.sameNow;cases d<;>simp_all
   rw[this]
  rw[this];exact AL hP k w (x::r) 0 0
theorem Ih(w:World)(T K E:TypeId)(b:Nat)(met:List (Int×Int))(k:Int×Int)(hT:P.underlying T=some (.map K E))(hP:uG P K)(hz:∀w,(zeroValue E).run P w=.ok (.bool false) w)(h:yV w b met):
  (Instr.lookup T (.map (some b)) (jv k) false).run P w=.ok (.bool (met.contains k)) w:=by
 unfold Instr.lookup;rcases xW hP k w met with⟨h1,h2⟩|⟨h1,j,h2⟩
 ·simp only[Sem.run_bind,run_underlying hT,Result.andThen_ok,MapKept.run_getObj_map h,Sem.run_pure,hP.check,h2,hz,h1];rfl
 ·simp only[Sem.run_bind,run_underlying hT,Result.andThen_ok,MapKept.run_getObj_map h,Sem.run_pure,hP.check,h2,h1];rfl
theorem Mc(w:World)(T K E:TypeId)(b:Nat)(met:List (Int×Int))(k:Int×Int)(hT:P.underlying T=some (.map K E))(hP:uG P K)(h:yV w b met)(hk:met.contains k=false):
  (Instr.mapUpdate T (.map (some b)) (jv k) (.bool true)).run P w=.ok () (w.putObj b (.map (lh 0 (met++[k])).toArray (met++[k]).length)):=by
 unfold Instr.mapUpdate;rcases xW hP k w met with⟨h1,h2⟩|⟨h1,j,h2⟩
 ·simp only[Sem.run_bind,run_underlying hT,Result.andThen_ok,MapKept.run_getObj_map h,hP.check,h2,MapKept.run_setObj_map _ h];rw[qX,Nat.zero_add,List.length_append,List.length_singleton];simp[World.putObj]
 ·rw[hk] at h1;cases h1
end Go.aa
namespace Go.Proofs.YtncnnbmeacpboaaGreatDoor
open Go.RowKit Go.aa
variable {P:Program}
theorem K6:(Tryz.prog.info? 3).map (fun i=>(i.zero,i.size,i.bytes))=some (some (.int .i64 0),1,8):=by kernel_rfl
theorem Ma:uG Tryz.prog 126 where
 key:=⟨_,Tryz.underlying126,by simp,by simp,by simp⟩
 check:=fun e p w=>by unfold jv;kernel_rfl
 equal:=fun p q w=>by
  obtain⟨a,b⟩:=p;obtain⟨c,d⟩:=q;obtain⟨i0,hi,_,_,_⟩:=info_parts K6;have hc:Tryz.prog.cellsOf 3=1:=by kernel_rfl
  have p0:∀(x y:Int) (w:World),(part 3 #[.int .i64 x,.int .i64 y] 0).run Tryz.prog w=.ok (.int .i64 x) w:=fun _ _ _=>by kernel_rfl
  have p1:∀(x y:Int) (w:World),(part 3 #[.int .i64 x,.int .i64 y] 1).run Tryz.prog w=.ok (.int .i64 y) w:=fun _ _ _=>by kernel_rfl
  have pe:∀(x y:Int) (w:World),(Op.equalIn 9999 3 (.int .i64 x) (.int .i64 y)).run Tryz.prog w=.ok (x==y) w:=fun x y w=>run_equalIn_int w 9998 3 .i64 .i64 x y Tryz.underlying3;unfold Op.equal Op.maxDepth jv;rw[show(10000:Nat)=9999+1 from rfl,run_equalIn_array w 9999 _ _ Tryz.underlying126 hi,hc,show List.range 2=[0,1] from rfl];simp only[Op.eqItems,Sem.run_bind,Nat.mul_one,p0,p1,pe,Result.andThen_ok];by_cases h1:a=c<;>by_cases h2:b=d<;>simp[h1,h2,p1,pe]
end Go.Proofs.YtncnnbmeacpboaaGreatDoor
