/- Parts of the proof. -/
import Derived.Test.YtncnnbmeacpboaaGreatDoorQ20
import Derived.Test.YtncnnbmeacpboaaGreatDoorQ23
import Derived.Test.YtncnnbmeacpboaaGreatDoorChecked
import Derived.Laws.EntriesVeiled
set_option maxHeartbeats 1000000
set_option maxRecDepth 100000
set_option linter.unusedVariables false
set_option linter.unusedSimpArgs false
namespace Go.aa
theorem heap_alloc_new'(w:World)(o:Obj):(w.alloc o).heap[w.heap.size]?=some o:=by
 show(w.heap.push o)[w.heap.size]?=_;simp
end Go.aa
namespace Go.Proofs.YtncnnbmeacpboaaGreatDoor
open Go.RowKit Go.aa
theorem G7(r:Nat)(w:World):Calls Tryz.prog 103 #[.int .i32 r] w fun e w'=>e=.returned (.bool (jT r))/\w=w':=by
 have hx:(jT r=true/\((97<=r/\r<=122)∨(48<=r/\r<=57)∨r=95))∨(jT r=false/\¬(97<=r/\r<=122)/\¬(48<=r/\r<=57)/\r≠95):=by
  unfold jT;by_cases h1:97<=r/\r<=122
  ·left;exact⟨by simp[h1.1,h1.2],.inl h1⟩
  ·by_cases h2:48<=r/\r<=57
   ·left;exact⟨by simp[h2.1,h2.2],.inr (.inl h2)⟩
   ·by_cases h3:r=95
    ·left;exact⟨by simp[h3],.inr (.inr h3)⟩
    ·right;exact⟨by simp;omega,h1,h2,h3⟩
 obtain⟨b,hb⟩:∃b,b=jT r:=⟨_,rfl⟩;rw[<-hb] at hx ⊢;clear hb;rcases hx with⟨rfl,h|h|rfl⟩|⟨rfl,h1,h2,h3⟩
 ·have a1:(97:Int)<=(r:Int):=by omega
  have a2:(r:Int)<=122:=by omega
  clear h;go_enter Tryz.func103,Tryz.ntmps103;go_wp2;go_ret;exact⟨rfl,rfl⟩
 ·have a1:decide ((97:Int)<=(r:Int))=false:=by simp;omega
  have a2:(48:Int)<=(r:Int):=by omega
  have a3:(r:Int)<=57:=by omega
  clear h;go_enter Tryz.func103,Tryz.ntmps103;go_wp2;go_ret;exact⟨rfl,rfl⟩
 ·go_enter Tryz.func103,Tryz.ntmps103;go_wp2;go_ret;exact⟨rfl,rfl⟩
 ·have a4:((r:Int)==95)=false:=by simp;omega
  by_cases c1:97<=r
  ·have a1:(97:Int)<=(r:Int):=by omega
   have a2:decide ((r:Int)<=122)=false:=by simp;omega
   have a3:decide ((r:Int)<=57)=false:=by simp;omega
   have a5:(48:Int)<=(r:Int):=by omega
   clear h1 h2 h3 c1;go_enter Tryz.func103,Tryz.ntmps103;go_wp2;go_ret;exact⟨rfl,rfl⟩
  ·have a1:decide ((97:Int)<=(r:Int))=false:=by simp;omega
   by_cases c2:48<=r
   ·have a5:(48:Int)<=(r:Int):=by omega
    have a3:decide ((r:Int)<=57)=false:=by simp;omega
    clear h1 h2 h3 c1 c2;go_enter Tryz.func103,Tryz.ntmps103;go_wp2;go_ret;exact⟨rfl,rfl⟩
   ·have a5:decide ((48:Int)<=(r:Int))=false:=by simp;omega
    clear h1 h2 h3 c1 c2;go_enter Tryz.func103,Tryz.ntmps103;go_wp2;go_ret;exact⟨rfl,rfl⟩
theorem OE(r B:Nat)(w:World)(hB:w.cell? ⟨B,0,none⟩=some (.func (.func 103) #[] #[])):Calls Tryz.prog 104 #[.int .i32 r,.pointer (some ⟨B,0,none⟩)] w fun e w'=>e=.returned (.bool (!(jT r)))/\w=w':=by
 go_enter Tryz.func104,Tryz.ntmps104;go_wp2_with (go_at_call 103;refine(G7 _ _).mono ?_;rintro e w' ⟨rfl,rfl⟩);go_ret;exact⟨rfl,rfl⟩
theorem Ie(B:Nat)(w:World)(hB:w.cell? ⟨B,0,none⟩=some (.func (.func 103) #[] #[]))(hlt:B<w.heap.size):PredGrows Tryz.prog 104 #[.pointer (some ⟨B,0,none⟩)] (fun r=>!(jT r)) w:=fun W x _ hb=>
 (OE x B W ((hb.cell (p:=⟨B,0,none⟩) hlt).trans hB)).mono fun _ _ ⟨h1,h2⟩=>⟨h1,h2▸Below.refl _ _⟩
theorem Hu(s:Bs)(m:Int)(w:World)(hm:w.cell? ⟨5,0,none⟩=some (.int .i64 m))(hlen:s.length<=4000000):Calls Tryz.prog 61 #[.string ⟨s.toArray⟩] w fun e w'=>e=.returned (.bool (df s))/\Below w.heap.size w w':=by
 have Od:∀(fn:Fn) (first cap:Array Value) (w:World),(Instr.makeFunc fn first cap).run Tryz.prog w=.ok (.func fn first cap) w:=fun _ _ _ _=>rfl;cases s with
 |nil=>
  have e:df []=false:=rfl;rw[e];clear e;go_enter Tryz.func61,Tryz.ntmps61;go_wp2_with fail;go_ret;exact⟨rfl,(Below.refl _ _).alloc (Nat.le_refl _) _⟩
 |cons c r=>
  have hsz:(⟨(c::r).toArray⟩:ByteArray).size=r.length+1:=by rw[aZ];rfl
  have hg0:(⟨(c::r).toArray⟩:ByteArray)[0]'(by rw[hsz];omega)=c:=rfl;by_cases h1:64<r.length+1
  ·have e:df (c::r)=false:=by
    have:¬(c::r).length<=64:=by simp;omega
    simp only[df,this,decide_false,Bool.false_and]
   rw[e];clear e hm;have h1':(64:Int)<(r.length:Int)+1:=by omega
   go_enter Tryz.func61,Tryz.ntmps61;go_wp2_with fail;go_ret;exact⟨rfl,(Below.refl _ _).alloc (Nat.le_refl _) _⟩
  have hl:(c::r).length<=64:=by simp;omega
  have h1':decide ((64:Int)<(r.length:Int)+1)=false:=by simp;omega
  by_cases h2:c.toNat<97
  ·have e:df (c::r)=false:=by
    have:¬97<=c.toNat:=by omega
    simp only[df,this,decide_false,Bool.false_and,Bool.and_false]
   rw[e];clear e hm hl h1;have h2':(c.toNat:Int)<97:=by omega
   go_enter Tryz.func61,Tryz.ntmps61;go_wp2_with fail;go_ret;exact⟨rfl,(Below.refl _ _).alloc (Nat.le_refl _) _⟩
  have h2':decide ((c.toNat:Int)<97)=false:=by simp;omega
  have cz:Below w.heap.size w (w.alloc (.cells #[.func (.func 103) #[] #[]] 170)):=(Below.refl _ _).alloc (Nat.le_refl _) _;have hcf:=Tryz.strings_ContainsFunc_grows 104 #[.pointer (some ⟨w.heap.size,0,none⟩)] (enters_of Tryz.func104 (by kernel_rfl) rfl) (fun r=>!(jT r)) ⟨(c::r).toArray⟩ (w.alloc (.cells #[.func (.func 103) #[] #[]] 170)) (Ie w.heap.size _ (cH (heap_alloc_new' _ _) rfl) (by simp));rw[uQ] at hcf;have JH:=Lh hcf;have HB:=Lh cz;have HM:=Lh hm;have e0:df (c::r)=((c::r).all aU&&!(Lib.contains bf (32::((c::r)++[32])))):=by
   have g2:97<=c.toNat:=by omega
   simp only[df,hl,g2,decide_true,Bool.true_and]
  rw[e0];generalize hal:(c::r).all aU=al at JH ⊢;clear e0 hcf cz hm hal h1 h2;cases al
  ·go_enter Tryz.func61,Tryz.ntmps61;go_wp2_with fail;refine JH.out.mono ?_;rintro e w1 ⟨rfl,hb⟩;have HB1:=Lh hb;clear hb;go_wp2_with fail;go_ret;exact⟨rfl,HB.out.trans (HB1.out.mono HB.out.size)⟩
  ·have hs1:∀W,(Op.stringOp .add ⟨#[32]⟩ ⟨(c::r).toArray⟩).run Tryz.prog W=.ok (.string ⟨(32::(c::r)).toArray⟩) W:=fun W=>run_string_add_lists W [32] (c::r) (by simp) (by simp at hl ⊢;omega);have hs2:∀W,(Op.stringOp .add ⟨(32::(c::r)).toArray⟩ ⟨#[32]⟩).run Tryz.prog W=.ok (.string ⟨(32::((c::r)++[32])).toArray⟩) W:=fun W=>run_string_add_lists W (32::(c::r)) [32] (by simp at hl ⊢;omega) (by simp);go_enter Tryz.func61,Tryz.ntmps61;go_wp2_with fail;refine JH.out.mono ?_;rintro e w1 ⟨rfl,hb⟩;have HB1:=Lh hb;clear hb;have hm1:w1.cell? ⟨5,0,none⟩=some (.int .i64 m):=(HB1.out.cell (p:=⟨5,0,none⟩) (Nat.lt_of_lt_of_le (World.block_lt_of_cell? w ⟨5,0,none⟩ HM.out) HB.out.size)).trans ((HB.out.cell (p:=⟨5,0,none⟩) (World.block_lt_of_cell? w ⟨5,0,none⟩ HM.out)).trans HM.out);have Pg:=Lh (Tryz.strings_Contains ⟨bf.toArray⟩ ⟨(32::c::(r++[32])).toArray⟩ m w1 (by decide) hm1);clear hm1;go_wp2_with fail;refine Pg.out.mono ?_;rintro e w2 ⟨rfl,rfl⟩;have hcl:(Lib.contains (⟨bf.toArray⟩:ByteArray).data.toList (⟨(32::c::(r++[32])).toArray⟩:ByteArray).data.toList)=Lib.contains bf (32::c::(r++[32])):=rfl;rw[hcl];obtain⟨ct,hct⟩:∃ct,Lib.contains bf (32::c::(r++[32]))=ct:=⟨_,rfl⟩;rw[hct];have UX:=Lh hct;clear hct hcl;go_wp2_with fail;go_ret;exact⟨bT (by rw[<-UX.out];simp),HB.out.trans (HB1.out.mono HB.out.size)⟩
end Go.Proofs.YtncnnbmeacpboaaGreatDoor
