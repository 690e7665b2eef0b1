/- Parts of the proof. -/
import Derived.Test.YtncnnbmeacpboaaGreatDoorQ04
import Derived.Test.YtncnnbmeacpboaaGreatDoorChecked
import Derived.Shelf.Abstract
set_option maxHeartbeats 1000000
set_option maxRecDepth 100000
set_option linter.unusedVariables false
set_option linter.unusedSimpArgs false
namespace Go.aa
open Go.RowKit
variable {p:Nat->Bool} {n:Nat}
def jc(p:Nat->Bool)(n:Nat):Int:=match(List.range n).find? p with|some i=>i|none=> -1
theorem fA{j:Nat}(hj:j<n)(h:p j=true)(h0:∀i,i<j->p i=false):jc p n=j:=by
 have:(List.range n).find? p=some j:=by
  rw[List.find?_eq_some_iff_getElem];exact⟨h,j,by simpa using hj,by simp,fun i hi=>by simpa using h0 i hi⟩
 unfold jc;rw[this]
theorem fw(h0:∀i,i<n->p i=false):jc p n= -1:=by
 have:(List.range n).find? p=none:=by
  rw[List.find?_eq_none];intro x hx;simp at hx;simp[h0 x hx]
 unfold jc;rw[this]
theorem iy(p:Nat->Bool)(n:Nat):decide (jc p n≥0)=(List.range n).any p:=by
 unfold jc;cases h:(List.range n).find? p with
 |none=>
  rw[List.find?_eq_none] at h;simp only[show((-1:Int)≥0)=False from by simp,decide_false];exact(List.any_eq_false.2 (fun x hx=>by simpa using h x hx)).symm
 |some i=>
  simp only[show((i:Int)≥0)=True from by simp,decide_true];exact(List.any_eq_true.2 ⟨i,List.mem_of_find?_eq_some h,List.find?_some h⟩).symm
abbrev dC(w:World)(b:Bool)(e:Ending)(w':World):Prop:=e=.returned (.bool b)/\Below w.heap.size w w'
end Go.aa
namespace Go.Proofs.YtncnnbmeacpboaaGreatDoor
open Go.RowKit Go.aa
variable {p:Nat->Bool} {n:Nat}
theorem xD(f:FuncId)(lb:Array Value)(p:Nat->Bool)(n:Nat)(c0 c1 c2 c3:Nat->Value)(a:Option Addr)(b o cap:Nat)(w:World)(hsl:gT (·<w.heap.size) a b o n)(hc:∀j,j<n->w.cell? ⟨b,o+j*4,none⟩=some (c0 j)/\w.cell? ⟨b,o+j*4+1,none⟩=some (c1 j)/\w.cell? ⟨b,o+j*4+2,none⟩=some (c2 j)/\w.cell? ⟨b,o+j*4+3,none⟩=some (c3 j))(hp:∀j,j<n->∀W,Below w.heap.size w W->Calls Tryz.prog f (#[.agg #[c0 j,c1 j,c2 j,c3 j]]++lb) W (dC W (p j)))(hent:∀(args:Array Value) (w:World),(callFunc f args).run Tryz.prog w=.ok (.enter f args) w)(hmax:n<=2000000):
  Calls Tryz.prog 107 #[.slice a n cap,.func (.func f) #[] lb] w fun e w'=>e=.returned (.int .i64 (jc p n))/\Below w.heap.size w w':=by
 have HC:=Lh hc;have HP:=Lh hp;clear hc hp;go_enter Tryz.func107,Tryz.ntmps107;go_wp2_with fail;go_loopw [8,5] (fun i _ wr=>∃j:Nat,j<=n/\i=.int .i64 j/\Hid (∀i,i<j->p i=false)/\Below w.heap.size w wr) (fun i _ _=>n-(intOf i).toNat)
 case atStart=>exact⟨0,Nat.zero_le _,rfl,Lh (fun i hi=>by omega),Below.refl _ _⟩
 case round=>
  obtain⟨j,hj,rfl,HF,hb⟩:=hrel;have hbs:=hb.size;by_cases hlt:j<n
  ·obtain⟨rfl,hbl⟩:=hsl (by omega);obtain⟨q0,q1,q2,q3⟩:=HC.out j hlt;have e0:=(hb.cell (p:=⟨b,o+j*4,none⟩) hbl).trans q0;have e1:=(hb.cell (p:=⟨b,o+j*4+1,none⟩) hbl).trans q1;have e2:=(hb.cell (p:=⟨b,o+j*4+2,none⟩) hbl).trans q2;have e3:=(hb.cell (p:=⟨b,o+j*4+3,none⟩) hbl).trans q3;have fZ:=Lh (HP.out j hlt wr hb);have HN:=Lh (fun(h:p j=true)=>fA hlt h HF.out);have HM:=Lh (fun(h:p j=false) (i:Nat) (hi:i<j+1)=>(by
    by_cases hij:i=j
    ·rw[hij];exact h
    ·exact HF.out i (by omega):p i=false))
   clear q0 q1 q2 q3;go_wp2_with fail;refine fZ.out.mono ?_;rintro e w' ⟨rfl,hb'⟩;have hbb:=hb.trans (hb'.mono hbs);generalize hr:p j=r at HN HM ⊢;have HR:=Lh hr;clear hr;cases r
   ·go_wp2_with fail;exact⟨⟨j+1,by omega,by go_num,Lh (HM.out (by first|rfl|trivial)),hbb⟩,by simp[intOf];omega⟩
   ·go_wp2_with fail;go_ret;exact⟨aQ (HN.out (by first|rfl|trivial)).symm,hbb⟩
  ·go_wp2_with fail;go_ret;exact⟨aQ (fw (fun i hi=>HF.out i (by omega))).symm,hb⟩
theorem rH(f:FuncId)(lb:Array Value)(p:Nat->Bool)(n:Nat)(c0 c1 c2 c3:Nat->Value)(a:Option Addr)(b o cap:Nat)(w:World)(hsl:gT (·<w.heap.size) a b o n)(hc:∀j,j<n->w.cell? ⟨b,o+j*4,none⟩=some (c0 j)/\w.cell? ⟨b,o+j*4+1,none⟩=some (c1 j)/\w.cell? ⟨b,o+j*4+2,none⟩=some (c2 j)/\w.cell? ⟨b,o+j*4+3,none⟩=some (c3 j))(hp:∀j,j<n->∀W,Below w.heap.size w W->Calls Tryz.prog f (#[.agg #[c0 j,c1 j,c2 j,c3 j]]++lb) W (dC W (p j)))(hent:∀(args:Array Value) (w:World),(callFunc f args).run Tryz.prog w=.ok (.enter f args) w)(hmax:n<=2000000):
  Calls Tryz.prog 68 #[.slice a n cap,.func (.func f) #[] lb] w fun e w'=>e=.returned (.bool ((List.range n).any p))/\Below w.heap.size w w':=by
 have HI:=Lh (xD f lb p n c0 c1 c2 c3 a b o cap w hsl hc hp hent hmax);clear hsl hc hp hent;have HF:=Lh (iy p n);go_enter Tryz.func68,Tryz.ntmps68;go_wp2_with fail;refine HI.out.mono ?_;rintro e w' ⟨rfl,hb⟩;go_wp2_with fail;go_ret;exact⟨bT HF.out,hb⟩
theorem xC(f:FuncId)(lb:Array Value)(p:Nat->Bool)(n:Nat)(c0 c1:Nat->Value)(a:Option Addr)(b o cap:Nat)(w:World)(hsl:gT (·<w.heap.size) a b o n)(hc:∀j,j<n->w.cell? ⟨b,o+j*2,none⟩=some (c0 j)/\w.cell? ⟨b,o+j*2+1,none⟩=some (c1 j))(hp:∀j,j<n->∀W,Below w.heap.size w W->Calls Tryz.prog f (#[.agg #[c0 j,c1 j]]++lb) W (dC W (p j)))(hent:∀(args:Array Value) (w:World),(callFunc f args).run Tryz.prog w=.ok (.enter f args) w)(hmax:n<=2000000):
  Calls Tryz.prog 108 #[.slice a n cap,.func (.func f) #[] lb] w fun e w'=>e=.returned (.int .i64 (jc p n))/\Below w.heap.size w w':=by
 have HC:=Lh hc;have HP:=Lh hp;clear hc hp;go_enter Tryz.func108,Tryz.ntmps108;go_wp2_with fail;go_loopw [8,5] (fun i _ wr=>∃j:Nat,j<=n/\i=.int .i64 j/\Hid (∀i,i<j->p i=false)/\Below w.heap.size w wr) (fun i _ _=>n-(intOf i).toNat)
 case atStart=>exact⟨0,Nat.zero_le _,rfl,Lh (fun i hi=>by omega),Below.refl _ _⟩
 case round=>
  obtain⟨j,hj,rfl,HF,hb⟩:=hrel;have hbs:=hb.size;by_cases hlt:j<n
  ·obtain⟨rfl,hbl⟩:=hsl (by omega);obtain⟨q0,q1⟩:=HC.out j hlt;have e0:=(hb.cell (p:=⟨b,o+j*2,none⟩) hbl).trans q0;have e1:=(hb.cell (p:=⟨b,o+j*2+1,none⟩) hbl).trans q1;have fZ:=Lh (HP.out j hlt wr hb);have HN:=Lh (fun(h:p j=true)=>fA hlt h HF.out);have HM:=Lh (fun(h:p j=false) (i:Nat) (hi:i<j+1)=>(by
    by_cases hij:i=j
    ·rw[hij];exact h
    ·exact HF.out i (by omega):p i=false))
   clear q0 q1;go_wp2_with fail;refine fZ.out.mono ?_;rintro e w' ⟨rfl,hb'⟩;have hbb:=hb.trans (hb'.mono hbs);generalize hr:p j=r at HN HM ⊢;have HR:=Lh hr;clear hr;cases r
   ·go_wp2_with fail;exact⟨⟨j+1,by omega,by go_num,Lh (HM.out (by first|rfl|trivial)),hbb⟩,by simp[intOf];omega⟩
   ·go_wp2_with fail;go_ret;exact⟨aQ (HN.out (by first|rfl|trivial)).symm,hbb⟩
  ·go_wp2_with fail;go_ret;exact⟨aQ (fw (fun i hi=>HF.out i (by omega))).symm,hb⟩
theorem rG(f:FuncId)(lb:Array Value)(p:Nat->Bool)(n:Nat)(c0 c1:Nat->Value)(a:Option Addr)(b o cap:Nat)(w:World)(hsl:gT (·<w.heap.size) a b o n)(hc:∀j,j<n->w.cell? ⟨b,o+j*2,none⟩=some (c0 j)/\w.cell? ⟨b,o+j*2+1,none⟩=some (c1 j))(hp:∀j,j<n->∀W,Below w.heap.size w W->Calls Tryz.prog f (#[.agg #[c0 j,c1 j]]++lb) W (dC W (p j)))(hent:∀(args:Array Value) (w:World),(callFunc f args).run Tryz.prog w=.ok (.enter f args) w)(hmax:n<=2000000):
  Calls Tryz.prog 69 #[.slice a n cap,.func (.func f) #[] lb] w fun e w'=>e=.returned (.bool ((List.range n).any p))/\Below w.heap.size w w':=by
 have HI:=Lh (xC f lb p n c0 c1 a b o cap w hsl hc hp hent hmax);clear hsl hc hp hent;have HF:=Lh (iy p n);go_enter Tryz.func69,Tryz.ntmps69;go_wp2_with fail;refine HI.out.mono ?_;rintro e w' ⟨rfl,hb⟩;go_wp2_with fail;go_ret;exact⟨bT HF.out,hb⟩
theorem xA(f:FuncId)(lb:Array Value)(p:Nat->Bool)(n:Nat)(c0 c1:Nat->Value)(a:Option Addr)(b o cap:Nat)(w:World)(hsl:gT (·<w.heap.size) a b o n)(hc:∀j,j<n->w.cell? ⟨b,o+j*2,none⟩=some (c0 j)/\w.cell? ⟨b,o+j*2+1,none⟩=some (c1 j))(hp:∀j,j<n->∀W,Below w.heap.size w W->Calls Tryz.prog f (#[.agg #[c0 j,c1 j]]++lb) W (dC W (p j)))(hent:∀(args:Array Value) (w:World),(callFunc f args).run Tryz.prog w=.ok (.enter f args) w)(hmax:n<=2000000):
  Calls Tryz.prog 109 #[.slice a n cap,.func (.func f) #[] lb] w fun e w'=>e=.returned (.int .i64 (jc p n))/\Below w.heap.size w w':=by
 have HC:=Lh hc;have HP:=Lh hp;clear hc hp;go_enter Tryz.func109,Tryz.ntmps109;go_wp2_with fail;go_loopw [8,5] (fun i _ wr=>∃j:Nat,j<=n/\i=.int .i64 j/\Hid (∀i,i<j->p i=false)/\Below w.heap.size w wr) (fun i _ _=>n-(intOf i).toNat)
 case atStart=>exact⟨0,Nat.zero_le _,rfl,Lh (fun i hi=>by omega),Below.refl _ _⟩
 case round=>
  obtain⟨j,hj,rfl,HF,hb⟩:=hrel;have hbs:=hb.size;by_cases hlt:j<n
  ·obtain⟨rfl,hbl⟩:=hsl (by omega);obtain⟨q0,q1⟩:=HC.out j hlt;have e0:=(hb.cell (p:=⟨b,o+j*2,none⟩) hbl).trans q0;have e1:=(hb.cell (p:=⟨b,o+j*2+1,none⟩) hbl).trans q1;have fZ:=Lh (HP.out j hlt wr hb);have HN:=Lh (fun(h:p j=true)=>fA hlt h HF.out);have HM:=Lh (fun(h:p j=false) (i:Nat) (hi:i<j+1)=>(by
    by_cases hij:i=j
    ·rw[hij];exact h
    ·exact HF.out i (by omega):p i=false))
   clear q0 q1;go_wp2_with fail;refine fZ.out.mono ?_;rintro e w' ⟨rfl,hb'⟩;have hbb:=hb.trans (hb'.mono hbs);generalize hr:p j=r at HN HM ⊢;have HR:=Lh hr;clear hr;cases r
   ·go_wp2_with fail;exact⟨⟨j+1,by omega,by go_num,Lh (HM.out (by first|rfl|trivial)),hbb⟩,by simp[intOf];omega⟩
   ·go_wp2_with fail;go_ret;exact⟨aQ (HN.out (by first|rfl|trivial)).symm,hbb⟩
  ·go_wp2_with fail;go_ret;exact⟨aQ (fw (fun i hi=>HF.out i (by omega))).symm,hb⟩
theorem rE(f:FuncId)(lb:Array Value)(p:Nat->Bool)(n:Nat)(c0 c1:Nat->Value)(a:Option Addr)(b o cap:Nat)(w:World)(hsl:gT (·<w.heap.size) a b o n)(hc:∀j,j<n->w.cell? ⟨b,o+j*2,none⟩=some (c0 j)/\w.cell? ⟨b,o+j*2+1,none⟩=some (c1 j))(hp:∀j,j<n->∀W,Below w.heap.size w W->Calls Tryz.prog f (#[.agg #[c0 j,c1 j]]++lb) W (dC W (p j)))(hent:∀(args:Array Value) (w:World),(callFunc f args).run Tryz.prog w=.ok (.enter f args) w)(hmax:n<=2000000):
  Calls Tryz.prog 70 #[.slice a n cap,.func (.func f) #[] lb] w fun e w'=>e=.returned (.bool ((List.range n).any p))/\Below w.heap.size w w':=by
 have HI:=Lh (xA f lb p n c0 c1 a b o cap w hsl hc hp hent hmax);clear hsl hc hp hent;have HF:=Lh (iy p n);go_enter Tryz.func70,Tryz.ntmps70;go_wp2_with fail;refine HI.out.mono ?_;rintro e w' ⟨rfl,hb⟩;go_wp2_with fail;go_ret;exact⟨bT HF.out,hb⟩
theorem xB(f:FuncId)(lb:Array Value)(p:Nat->Bool)(n:Nat)(c0 c1 c2:Nat->Value)(a:Option Addr)(b o cap:Nat)(w:World)(hsl:gT (·<w.heap.size) a b o n)(hc:∀j,j<n->w.cell? ⟨b,o+j*3,none⟩=some (c0 j)/\w.cell? ⟨b,o+j*3+1,none⟩=some (c1 j)/\w.cell? ⟨b,o+j*3+2,none⟩=some (c2 j))(hp:∀j,j<n->∀W,Below w.heap.size w W->Calls Tryz.prog f (#[.agg #[c0 j,c1 j,c2 j]]++lb) W (dC W (p j)))(hent:∀(args:Array Value) (w:World),(callFunc f args).run Tryz.prog w=.ok (.enter f args) w)(hmax:n<=2000000):
  Calls Tryz.prog 110 #[.slice a n cap,.func (.func f) #[] lb] w fun e w'=>e=.returned (.int .i64 (jc p n))/\Below w.heap.size w w':=by
 have HC:=Lh hc;have HP:=Lh hp;clear hc hp;go_enter Tryz.func110,Tryz.ntmps110;go_wp2_with fail;go_loopw [8,5] (fun i _ wr=>∃j:Nat,j<=n/\i=.int .i64 j/\Hid (∀i,i<j->p i=false)/\Below w.heap.size w wr) (fun i _ _=>n-(intOf i).toNat)
 case atStart=>exact⟨0,Nat.zero_le _,rfl,Lh (fun i hi=>by omega),Below.refl _ _⟩
 case round=>
  obtain⟨j,hj,rfl,HF,hb⟩:=hrel;have hbs:=hb.size;by_cases hlt:j<n
  ·obtain⟨rfl,hbl⟩:=hsl (by omega);obtain⟨q0,q1,q2⟩:=HC.out j hlt;have e0:=(hb.cell (p:=⟨b,o+j*3,none⟩) hbl).trans q0;have e1:=(hb.cell (p:=⟨b,o+j*3+1,none⟩) hbl).trans q1;have e2:=(hb.cell (p:=⟨b,o+j*3+2,none⟩) hbl).trans q2;have fZ:=Lh (HP.out j hlt wr hb);have HN:=Lh (fun(h:p j=true)=>fA hlt h HF.out);have HM:=Lh (fun(h:p j=false) (i:Nat) (hi:i<j+1)=>(by
    by_cases hij:i=j
    ·rw[hij];exact h
    ·exact HF.out i (by omega):p i=false))
   clear q0 q1 q2;go_wp2_with fail;refine fZ.out.mono ?_;rintro e w' ⟨rfl,hb'⟩;have hbb:=hb.trans (hb'.mono hbs);generalize hr:p j=r at HN HM ⊢;have HR:=Lh hr;clear hr;cases r
   ·go_wp2_with fail;exact⟨⟨j+1,by omega,by go_num,Lh (HM.out (by first|rfl|trivial)),hbb⟩,by simp[intOf];omega⟩
   ·go_wp2_with fail;go_ret;exact⟨aQ (HN.out (by first|rfl|trivial)).symm,hbb⟩
  ·go_wp2_with fail;go_ret;exact⟨aQ (fw (fun i hi=>HF.out i (by omega))).symm,hb⟩
theorem rF(f:FuncId)(lb:Array Value)(p:Nat->Bool)(n:Nat)(c0 c1 c2:Nat->Value)(a:Option Addr)(b o cap:Nat)(w:World)(hsl:gT (·<w.heap.size) a b o n)(hc:∀j,j<n->w.cell? ⟨b,o+j*3,none⟩=some (c0 j)/\w.cell? ⟨b,o+j*3+1,none⟩=some (c1 j)/\w.cell? ⟨b,o+j*3+2,none⟩=some (c2 j))(hp:∀j,j<n->∀W,Below w.heap.size w W->Calls Tryz.prog f (#[.agg #[c0 j,c1 j,c2 j]]++lb) W (dC W (p j)))(hent:∀(args:Array Value) (w:World),(callFunc f args).run Tryz.prog w=.ok (.enter f args) w)(hmax:n<=2000000):
  Calls Tryz.prog 71 #[.slice a n cap,.func (.func f) #[] lb] w fun e w'=>e=.returned (.bool ((List.range n).any p))/\Below w.heap.size w w':=by
 have HI:=Lh (xB f lb p n c0 c1 c2 a b o cap w hsl hc hp hent hmax);clear hsl hc hp hent;have HF:=Lh (iy p n);go_enter Tryz.func71,Tryz.ntmps71;go_wp2_with fail;refine HI.out.mono ?_;rintro e w' ⟨rfl,hb⟩;go_wp2_with fail;go_ret;exact⟨bT HF.out,hb⟩
theorem xE(f:FuncId)(lb:Array Value)(p:Nat->Bool)(n:Nat)(c0 c1 c2:Nat->Value)(a:Option Addr)(b o cap:Nat)(w:World)(hsl:gT (·<w.heap.size) a b o n)(hc:∀j,j<n->w.cell? ⟨b,o+j*3,none⟩=some (c0 j)/\w.cell? ⟨b,o+j*3+1,none⟩=some (c1 j)/\w.cell? ⟨b,o+j*3+2,none⟩=some (c2 j))(hp:∀j,j<n->∀W,Below w.heap.size w W->Calls Tryz.prog f (#[.agg #[c0 j,c1 j,c2 j]]++lb) W (dC W (p j)))(hent:∀(args:Array Value) (w:World),(callFunc f args).run Tryz.prog w=.ok (.enter f args) w)(hmax:n<=2000000):
  Calls Tryz.prog 186 #[.slice a n cap,.func (.func f) #[] lb] w fun e w'=>e=.returned (.int .i64 (jc p n))/\Below w.heap.size w w':=by
 have HC:=Lh hc;have HP:=Lh hp;clear hc hp;go_enter Tryz.func186,Tryz.ntmps186;go_wp2_with fail;go_loopw [8,5] (fun i _ wr=>∃j:Nat,j<=n/\i=.int .i64 j/\Hid (∀i,i<j->p i=false)/\Below w.heap.size w wr) (fun i _ _=>n-(intOf i).toNat)
 case atStart=>exact⟨0,Nat.zero_le _,rfl,Lh (fun i hi=>by omega),Below.refl _ _⟩
 case round=>
  obtain⟨j,hj,rfl,HF,hb⟩:=hrel;have hbs:=hb.size;by_cases hlt:j<n
  ·obtain⟨rfl,hbl⟩:=hsl (by omega);obtain⟨q0,q1,q2⟩:=HC.out j hlt;have e0:=(hb.cell (p:=⟨b,o+j*3,none⟩) hbl).trans q0;have e1:=(hb.cell (p:=⟨b,o+j*3+1,none⟩) hbl).trans q1;have e2:=(hb.cell (p:=⟨b,o+j*3+2,none⟩) hbl).trans q2;have fZ:=Lh (HP.out j hlt wr hb);have HN:=Lh (fun(h:p j=true)=>fA hlt h HF.out);have HM:=Lh (fun(h:p j=false) (i:Nat) (hi:i<j+1)=>(by
    by_cases hij:i=j
    ·rw[hij];exact h
    ·exact HF.out i (by omega):p i=false))
   clear q0 q1 q2;go_wp2_with fail;refine fZ.out.mono ?_;rintro e w' ⟨rfl,hb'⟩;have hbb:=hb.trans (hb'.mono hbs);generalize hr:p j=r at HN HM ⊢;have HR:=Lh hr;clear hr;cases r
   ·go_wp2_with fail;exact⟨⟨j+1,by omega,by go_num,Lh (HM.out (by first|rfl|trivial)),hbb⟩,by simp[intOf];omega⟩
   ·go_wp2_with fail;go_ret;exact⟨aQ (HN.out (by first|rfl|trivial)).symm,hbb⟩
  ·go_wp2_with fail;go_ret;exact⟨aQ (fw (fun i hi=>HF.out i (by omega))).symm,hb⟩
theorem rJ(f:FuncId)(lb:Array Value)(p:Nat->Bool)(n:Nat)(c0 c1 c2:Nat->Value)(a:Option Addr)(b o cap:Nat)(w:World)(hsl:gT (·<w.heap.size) a b o n)(hc:∀j,j<n->w.cell? ⟨b,o+j*3,none⟩=some (c0 j)/\w.cell? ⟨b,o+j*3+1,none⟩=some (c1 j)/\w.cell? ⟨b,o+j*3+2,none⟩=some (c2 j))(hp:∀j,j<n->∀W,Below w.heap.size w W->Calls Tryz.prog f (#[.agg #[c0 j,c1 j,c2 j]]++lb) W (dC W (p j)))(hent:∀(args:Array Value) (w:World),(callFunc f args).run Tryz.prog w=.ok (.enter f args) w)(hmax:n<=2000000):
  Calls Tryz.prog 161 #[.slice a n cap,.func (.func f) #[] lb] w fun e w'=>e=.returned (.bool ((List.range n).any p))/\Below w.heap.size w w':=by
 have HI:=Lh (xE f lb p n c0 c1 c2 a b o cap w hsl hc hp hent hmax);clear hsl hc hp hent;have HF:=Lh (iy p n);go_enter Tryz.func161,Tryz.ntmps161;go_wp2_with fail;refine HI.out.mono ?_;rintro e w' ⟨rfl,hb⟩;go_wp2_with fail;go_ret;exact⟨bT HF.out,hb⟩
theorem xz(f:FuncId)(lb:Array Value)(p:Nat->Bool)(n:Nat)(c0 c1:Nat->Value)(a:Option Addr)(b o cap:Nat)(w:World)(hsl:gT (·<w.heap.size) a b o n)(hc:∀j,j<n->w.cell? ⟨b,o+j*2,none⟩=some (c0 j)/\w.cell? ⟨b,o+j*2+1,none⟩=some (c1 j))(hp:∀j,j<n->∀W,Below w.heap.size w W->Calls Tryz.prog f (#[.agg #[c0 j,c1 j]]++lb) W (dC W (p j)))(hent:∀(args:Array Value) (w:World),(callFunc f args).run Tryz.prog w=.ok (.enter f args) w)(hmax:n<=2000000):
  Calls Tryz.prog 148 #[.slice a n cap,.func (.func f) #[] lb] w fun e w'=>e=.returned (.int .i64 (jc p n))/\Below w.heap.size w w':=by
 have HC:=Lh hc;have HP:=Lh hp;clear hc hp;go_enter Tryz.func148,Tryz.ntmps148;go_wp2_with fail;go_loopw [8,5] (fun i _ wr=>∃j:Nat,j<=n/\i=.int .i64 j/\Hid (∀i,i<j->p i=false)/\Below w.heap.size w wr) (fun i _ _=>n-(intOf i).toNat)
 case atStart=>exact⟨0,Nat.zero_le _,rfl,Lh (fun i hi=>by omega),Below.refl _ _⟩
 case round=>
  obtain⟨j,hj,rfl,HF,hb⟩:=hrel;have hbs:=hb.size;by_cases hlt:j<n
  ·obtain⟨rfl,hbl⟩:=hsl (by omega);obtain⟨q0,q1⟩:=HC.out j hlt;have e0:=(hb.cell (p:=⟨b,o+j*2,none⟩) hbl).trans q0;have e1:=(hb.cell (p:=⟨b,o+j*2+1,none⟩) hbl).trans q1;have fZ:=Lh (HP.out j hlt wr hb);have HN:=Lh (fun(h:p j=true)=>fA hlt h HF.out);have HM:=Lh (fun(h:p j=false) (i:Nat) (hi:i<j+1)=>(by
    by_cases hij:i=j
    ·rw[hij];exact h
    ·exact HF.out i (by omega):p i=false))
   clear q0 q1;go_wp2_with fail;refine fZ.out.mono ?_;rintro e w' ⟨rfl,hb'⟩;have hbb:=hb.trans (hb'.mono hbs);generalize hr:p j=r at HN HM ⊢;have HR:=Lh hr;clear hr;cases r
   ·go_wp2_with fail;exact⟨⟨j+1,by omega,by go_num,Lh (HM.out (by first|rfl|trivial)),hbb⟩,by simp[intOf];omega⟩
   ·go_wp2_with fail;go_ret;exact⟨aQ (HN.out (by first|rfl|trivial)).symm,hbb⟩
  ·go_wp2_with fail;go_ret;exact⟨aQ (fw (fun i hi=>HF.out i (by omega))).symm,hb⟩
theorem lZ(f:FuncId)(lb:Array Value)(p:Nat->Bool)(n:Nat)(c0 c1:Nat->Value)(a:Option Addr)(b o cap:Nat)(w:World)(hsl:gT (·<w.heap.size) a b o n)(hc:∀j,j<n->w.cell? ⟨b,o+j*2,none⟩=some (c0 j)/\w.cell? ⟨b,o+j*2+1,none⟩=some (c1 j))(hp:∀j,j<n->∀W,Below w.heap.size w W->Calls Tryz.prog f (#[.agg #[c0 j,c1 j]]++lb) W (dC W (p j)))(hent:∀(args:Array Value) (w:World),(callFunc f args).run Tryz.prog w=.ok (.enter f args) w)(hmax:n<=2000000):
  Calls Tryz.prog 113 #[.slice a n cap,.func (.func f) #[] lb] w fun e w'=>e=.returned (.bool ((List.range n).any p))/\Below w.heap.size w w':=by
 have HI:=Lh (xz f lb p n c0 c1 a b o cap w hsl hc hp hent hmax);clear hsl hc hp hent;have HF:=Lh (iy p n);go_enter Tryz.func113,Tryz.ntmps113;go_wp2_with fail;refine HI.out.mono ?_;rintro e w' ⟨rfl,hb⟩;go_wp2_with fail;go_ret;exact⟨bT HF.out,hb⟩
end Go.Proofs.YtncnnbmeacpboaaGreatDoor
