/- Parts of the proof. -/
import Derived.Test.YtncnnbmeacpboaaGreatDoorQ04
import Derived.Test.YtncnnbmeacpboaaGreatDoorQ03
set_option linter.unusedVariables false
set_option linter.unusedSimpArgs false
namespace Go.aa
open Go.RowKit
section
variable {P:Program} (w:World)
theorem pI{o:Oper}{act:Act}{K:Act->World->Prop}{Q:Exit->Act->World->Prop}(s x:Operand)(t:TypeId)(ho:o.op=.call { callee:=.builtin .append,args:=#[s,x],argTypes:=#[t,t]})(e:TypeId)(i:TypeInfo)(z:Value)(size bytes:Nat)(ht:P.underlying t=some (.slice e))(hi:P.info? e=some i)(hz:i.zero=some z)(hsize:i.size=size)(hby:i.bytes=bytes)(hzs:z.cells.size=size)(hsz:0<size)(v u:Value)(F:Nat->Prop)(r:Option Nat)(xs ys:List D)(hs:act.eval s=v)(hx:act.eval x=u)(own:Own w F e size v r xs)(src:bg w F (.sl ys) [u])(hw:bO ys=ys.length*size)(h63:xs.length+ys.length<=maxLen)(hbytes:(xs.length+ys.length)*bytes<=140737488355328)(h:∀a cap r' w',Own w' F e size (.slice a (xs.length+ys.length) cap) r' (xs++ys)->Mod (fun k=>r=some k) w w'->(r'=r∨r'=some w.heap.size)->K (act.put o.dst (.slice a (xs.length+ys.length) cap)) w'):o.wp P act w K Q:=by
 obtain⟨a,cap,hv⟩:=own.form;by_cases hm:ys.length=0
 ·have hnil:ys=[]:=List.length_eq_zero_iff.1 hm;subst hnil;rw[bg] at src;obtain⟨a',_,_,cap',hu,_⟩:=src;simp at hu;have hle:xs.length<=cap:=by
   obtain⟨cs,hrow,_⟩:=own.cells;rcases hrow.2 with⟨e',hn⟩|⟨g',c',cur,e',_,_,hc,_⟩
   ·omega
   ·rw[hv] at e';simp at e';omega
  have hr:=tY (P:=P) w t o.type e i ht hi a a' xs.length cap cap' hle;unfold Oper.wp execOp;simp only[ho,resolve,invoke,builtin,Sem.run_bind,Sem.run_pure,Result.andThen_ok,List.map_toArray,List.map_cons,List.map_nil,hs,hx,hv,hu,hr];have own':=own;rw[hv] at own';exact h a cap r w (by rw[List.append_nil];exact own') (Mod.refl _ _) (.inl rfl)
 ·obtain⟨b,o',cap',cs,rfl,hds,hc,hone,_⟩:=src.source (by omega);obtain⟨cs0,hrow,hds0⟩:=own.cells;have hl:=au.length _ _ hds;rw[hw] at hl;refine wp_append_lies w s x t ho 0 e i z size bytes ht hi hz hsize hby hzs hsz v xs.length cs0 hs hrow ⟨b,o',none⟩ ys.length cap' cs hx hl hc hone (by omega) h63 hbytes (Nat.zero_le _) w.heap.size rfl ?_;intro g c' w' hown hgrow hat hlt;obtain⟨g1,g2,g3⟩:=own.appended hds0 hown hgrow (by rcases hat with h|h;exact .inl h.symm;exact .inr (by rw[h];rfl)) hds;exact h (some ⟨g,0,none⟩) c' _ w' g1 g2 g3
theorem mX{ops:Array Oper}{o:Oper}{act:Act}{K:Act->World->Prop}{Q:Exit->Act->World->Prop}{E:Prop}(hgd:o.guard=none)(s x:Operand)(t:TypeId)(ho:o.op=.call { callee:=.builtin .append,args:=#[s,x],argTypes:=#[t,t]})(e:TypeId)(i:TypeInfo)(z:Value)(size bytes:Nat)(ht:P.underlying t=some (.slice e))(hi:P.info? e=some i)(hz:i.zero=some z)(hsize:i.size=size)(hby:i.bytes=bytes)(hzs:z.cells.size=size)(hsz:0<size)(v u:Value)(F:Nat->Prop)(r:Option Nat)(xs ys:List D)(hs:act.eval s=v)(hx:act.eval x=u)(own:Own w F e size v r xs)(src:bg w F (.sl ys) [u])(hw:bO ys=ys.length*size)(h63:xs.length+ys.length<=maxLen)(hbytes:(xs.length+ys.length)*bytes<=140737488355328)(h:∀a cap r' w',Own w' F e size (.slice a (xs.length+ys.length) cap) r' (xs++ys)->Mod (fun k=>r=some k) w w'->(r'=r∨r'=some w.heap.size)->K (act.put o.dst (.slice a (xs.length+ys.length) cap)) w'):
  if Region.wanted o (yielded ops act.tmps)=true then Oper.wp P o act w K Q else E:=by
 have hwn:Region.wanted o (yielded ops act.tmps)=true:=by simp[Region.wanted,hgd]
 rw[if_pos hwn];exact pI w s x t ho e i z size bytes ht hi hz hsize hby hzs hsz v u F r xs ys hs hx own src hw h63 hbytes h
theorem eP{ops:Array Oper}{rest:List Oper}{o:Oper}{act:Act}{Q:Exit->Act->World->Prop}(hgd:Region.wanted o (yielded ops act.tmps)=true)(s x:Operand)(t:TypeId)(ho:o.op=.call { callee:=.builtin .append,args:=#[s,x],argTypes:=#[t,t]})(e:TypeId)(i:TypeInfo)(z:Value)(size bytes:Nat)(ht:P.underlying t=some (.slice e))(hi:P.info? e=some i)(hz:i.zero=some z)(hsize:i.size=size)(hby:i.bytes=bytes)(hzs:z.cells.size=size)(hsz:0<size)(v u:Value)(F:Nat->Prop)(r:Option Nat)(xs ys:List D)(hs:act.eval s=v)(hx:act.eval x=u)(own:Own w F e size v r xs)(src:bg w F (.sl ys) [u])(hw:bO ys=ys.length*size)(h63:xs.length+ys.length<=maxLen)(hbytes:(xs.length+ys.length)*bytes<=140737488355328)(h:∀a cap r' w',Own w' F e size (.slice a (xs.length+ys.length) cap) r' (xs++ys)->Mod (fun k=>r=some k) w w'->(r'=r∨r'=some w.heap.size)->wpList P ops Q rest (act.put o.dst (.slice a (xs.length+ys.length) cap)) w'):wpList P ops Q (o::rest) act w:=
 wpList_step fun K hK=>by
  rw[if_pos hgd];exact pI w s x t ho e i z size bytes ht hi hz hsize hby hzs hsz v u F r xs ys hs hx own src hw h63 hbytes (fun a cap r' w' h1 h2 h3=>hK _ _ (h a cap r' w' h1 h2 h3))
end
end Go.aa
