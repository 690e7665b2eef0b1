/- Parts of the proof. -/
import Derived.Test.YtncnnbmeacpboaaGreatDoorQ17
import Derived.Deep.QuietTactic
set_option maxHeartbeats 2000000
set_option maxRecDepth 100000
set_option linter.unusedVariables false
set_option linter.unusedSimpArgs false
namespace Go.aa
open Go.RowKit
variable {P B n:Nat} {u:TypeId} {w w':World} {cs:Array Value} {f:Nat×Nat} {l:Bs} {v:Value} {xs:List Value}
structure Wr (P:Nat) (u:TypeId) (w w':World):Prop where
 os:w'.os=w.os
 tape:w'.tape=w.tape
 output:w'.output=w.output
 size:w.heap.size<=w'.heap.size
 low:∀k,k<P->w'.heap[k]?=w.heap[k]?
 high:∀k,P<k->k<w.heap.size->(∀cs f,w.heap[k]?≠some (.cells cs u f))->w'.heap[k]?=w.heap[k]?
theorem Wr.refl(P:Nat)(u:TypeId)(w:World):Wr P u w w:=⟨rfl,rfl,rfl,Nat.le_refl _,fun _ _=>rfl,fun _ _ _ _=>rfl⟩
theorem Wr.trans{P:Nat}{u:TypeId}{a b c:World}(h:Wr P u a b)(k:Wr P u b c):Wr P u a c:=
 ⟨k.os.trans h.os,k.tape.trans h.tape,k.output.trans h.output,Nat.le_trans h.size k.size,fun i hi=>(k.low i hi).trans (h.low i hi),fun i hi hs hn=>by
  have e:=h.high i hi hs hn;exact(k.high i hi (Nat.lt_of_lt_of_le hs h.size) (by rw[e];exact hn)).trans e⟩
theorem Wr.of_below(h:Below w.heap.size w w')(hP:P<=w.heap.size):Wr P u w w':=⟨h.os,h.tape,h.output,h.size,fun k hk=>h.block k (by omega),fun k _ hk _=>h.block k hk⟩
theorem Wr.alloc{P:Nat}{u:TypeId}{a w:World}(h:Wr P u a w)(hP:P<=w.heap.size)(o:Obj):Wr P u a (w.alloc o):=h.trans (.of_below ((Below.refl _ _).alloc (Nat.le_refl _) _) hP)
theorem Wr.below(h:Wr P u w w'):Below P w w':=⟨h.os,h.tape,h.output,h.size,h.low⟩
theorem Wr.kept{b:Nat}{T:TypeId}(h:Wr P u w w')(hb:w.heap[b]?=some (.cells cs T f))(hT:T≠u)(hP:b≠P):w'.heap[b]?=some (.cells cs T f):=by
 have hl:=(gS hb).1;rcases Nat.lt_or_ge b P with h1|h1
 ·exact(h.low b h1).trans hb
 ·exact(h.high b (by omega) hl (fun cs' f' e=>by rw[hb] at e;cases e;exact hT rfl)).trans hb
end Go.aa
namespace Go.Proofs.YtncnnbmeacpboaaGreatDoor
open Go.RowKit Go.aa
variable {P B n:Nat} {u:TypeId} {w w':World} {cs:Array Value} {f:Nat×Nat} {l:Bs} {v:Value} {xs:List Value}
def iB(w:World)(P:Nat)(l:Bs):Prop:=
 ∃p v,(p=.pointer none∨p=.pointer (some ⟨P,0,none⟩))/\w.heap[P]?=some (.cells #[p,v] 142 (0,0))/\w.ownsRow (P+1) 5 1 v l.length (Lib.byteCells l)/\(v=.slice none 0 0↔l=[])
theorem iB.lt(h:iB w P l):P<w.heap.size:=by obtain⟨_,_,_,h,_⟩:=h;exact(gS h).1
theorem F3(w:World):iB (w.alloc (.cells #[.pointer none,.slice none 0 0] 142)) w.heap.size []:=
 ⟨_,_,.inl rfl,heap_alloc_new _ _,World.ownsRow_nil _ _ _ _,by simp⟩
theorem oK(h:w.ownsRow B u 1 v n xs)(hk:∀k,v.ownBlock=some k->w'.heap[k]?=w.heap[k]?):w'.ownsRow B u 1 v n xs:=by
 obtain⟨h1,h2⟩:=h;refine⟨h1,?_⟩;rcases h2 with h2|⟨g,cap,cur,hv,hg,hh,rest⟩
 ·exact .inl h2
 ·exact .inr ⟨g,cap,cur,hv,hg,(hk g (by rw[hv];rfl)).trans hh,rest⟩
theorem iB.below(h:iB w P l)(hb:Below w.heap.size w w'):iB w' P l:=by
 obtain⟨p,v,h1,h2,h3,h4⟩:=h;exact⟨p,v,h1,(hb.block P (gS h2).1).trans h2,oK h3 (fun k hk=>hb.block k (h3.lt k hk).2),h4⟩
theorem iB.alloc{w:World}{P:Nat}{l:Bs}(h:iB w P l)(o:Obj):iB (w.alloc o) P l:=h.below ((Below.refl _ _).alloc (Nat.le_refl _) _)
theorem sN:(Tryz.prog.info? 140).map (·.size)=some 2:=by kernel_rfl
theorem liesBuilder:liesAt Tryz.prog Tryz.prog.depth 142 (2/Tryz.prog.cellsOf 142) 0 140 1=true:=by kernel_rfl
theorem infoByte:(Tryz.prog.info? 5).map (fun i=>(i.zero,i.size,i.bytes))=some (some (.int .u8 0),1,1):=by kernel_rfl
theorem Dt(b:Nat)(w:World)(h0:w.cell? ⟨b,0,none⟩=some (.pointer (some ⟨b,0,none⟩))):
  Calls Tryz.prog 129 #[.pointer (some ⟨b,0,none⟩)] w fun e w'=>e=.returned (.tuple #[])/\w'=w:=by
 obtain⟨j,hj,_⟩:=Option.map_eq_some_iff.1 sN;go_enter Tryz.func129,Tryz.ntmps129;go_wp2;rw[Lib.run_neq_ptr_same w _ Tryz.underlying138 hj];go_wp2;go_end0;exact⟨rfl,rfl⟩
theorem AV(b:Nat)(w:World)(h0:w.cell? ⟨b,0,none⟩=some (.pointer none))(hsh:w.shape? b=some (142,2))(hfz:w.frozen? ⟨b,0,none⟩=false):
  Calls Tryz.prog 129 #[.pointer (some ⟨b,0,none⟩)] w fun e w'=>e=.returned (.tuple #[])/\w'=w.setCell ⟨b,0,none⟩ (.pointer (some ⟨b,0,none⟩)):=by
 obtain⟨j,hj,hjs⟩:=Option.map_eq_some_iff.1 sN;have hl:=liesBuilder;go_enter Tryz.func129,Tryz.ntmps129;go_wp2;rw[Lib.run_to_unsafe w ⟨b,0,none⟩ Tryz.underlying138 Tryz.underlying214 hj (by rw[hjs];decide) hsh (Nat.zero_lt_succ 1)];simp only[Result.andThen];rw[Oper.upon_value];go_wp2;rw[run_callFunc_extern Tryz.func168 (by kernel_rfl) (by kernel_rfl) (by kernel_rfl) (e:=Extern.AbiNoEscape.same) (by kernel_rfl)];rw[Lib.run_noEscape];simp only[Result.andThen];rw[Oper.upon_value];go_wp2;rw[Lib.run_from_unsafe w ⟨b,0,none⟩ Tryz.underlying214 Tryz.underlying138 hj hsh hl];simp only[Result.andThen];rw[Oper.upon_value];go_wp2;go_end0;exact⟨rfl,rfl⟩
theorem Gx(P:Nat)(l:Bs)(w:World)(h:iB w P l):
  Calls Tryz.prog 129 #[.pointer (some ⟨P,0,none⟩)] w fun e w'=>e=.returned (.tuple #[])/\(∃v,w'.heap[P]?=some (.cells #[.pointer (some ⟨P,0,none⟩),v] 142 (0,0))/\w'.ownsRow (P+1) 5 1 v l.length (Lib.byteCells l)/\(v=.slice none 0 0↔l=[]))/\aa.Mod (fun k=>k=P) w w':=by
 obtain⟨p,v,hp,h2,h3,h4⟩:=h;rcases hp with rfl|rfl
 ·refine(AV P w (cH h2 rfl) (by simp[World.shape?,h2]) (fH h2)).mono ?_;rintro e w' ⟨rfl,rfl⟩;refine⟨rfl,⟨v,aW (i:=0) _ h2,oK h3 (fun k hk=>?_),h4⟩,(aa.Mod.refl (fun k=>k=P) w).setCell (p:=⟨P,0,none⟩) (fun _=>rfl) _⟩;have:=(h3.lt k hk).1;exact Below.heap_setCell _ _ _ _ (by show k≠P;omega)
 ·refine(Dt P w (cH h2 rfl)).mono ?_;rintro e w' ⟨rfl,rfl⟩;exact⟨rfl,⟨v,h2,h3,h4⟩,aa.Mod.refl _ _⟩
def bK(w:World)(P:Nat)(l s:Bs)(e:Ending)(w':World):Prop:=e=.returned (.tuple #[])/\iB w' P (l++s)/\Wr P 5 w w'
theorem Mm(h:w.ownsRow B 5 1 v n xs)(hb:w.heap[P]?=some (.cells cs 142 f)):v.ownBlock≠some P:=by
 intro e;obtain⟨_,⟨rfl,_⟩|⟨g,cap,cur,rfl,_,hh,_⟩⟩:=h
 ·simp[Value.ownBlock] at e
 ·simp only[Value.ownBlock,Option.some.injEq] at e;subst e;rw[hb] at hh;cases hh
theorem tZ(P:Nat)(l s:Bs)(w:World)(h:iB w P l)(hlen:l.length+s.length<=140737488355328):
  Calls Tryz.prog 78 #[.pointer (some ⟨P,0,none⟩),.string ⟨s.toArray⟩] w fun e w'=>e=.returned (.tuple #[.int .i64 s.length,.nilIface])/\iB w' P (l++s)/\Wr P 5 w w':=by
 obtain⟨i0,hi,hz0,hz1,hz2⟩:=info_parts infoByte;have HC:=Lh (Gx P l w h);have ny:=h.lt;have hss:(⟨s.toArray⟩:ByteArray).size=s.length:=aZ s;have Jt:=Lh hss;clear h hss;go_enter Tryz.func78,Tryz.ntmps78;go_wp2_with (go_at_call 129;refine HC.out.mono ?_);rintro e w1 ⟨rfl,⟨v,hbk,hown,hnil⟩,hm1⟩;have hs1:=hm1.size;have c0:w1.cell? ⟨P,0,none⟩=some (.pointer (some ⟨P,0,none⟩)):=cH hbk rfl;have c1:w1.cell? ⟨P,1,none⟩=some v:=cH hbk rfl;have H1:=Lh (aI hbk (aI hnil (aI hm1 (Mm hown hbk))));have hlt1:P<w1.heap.size:=by omega
 clear hbk hnil hm1 HC;go_wp2_with (at_builtin;refine Lib.wpList_append_own_string _ rfl _ _ 71 9 rfl (P+1) 5 i0 Tryz.underlying71 Tryz.underlying9 hi hz0 hz1 hz2 _ _ _ rfl hown _ rfl ?c3 ?c4 ?c5 ?_)
 case c3=>rw[Jt.out];unfold maxLen;omega
 case c4=>rw[Jt.out];omega
 case c5=>omega
 intro v' w2 hown' hgrow hnil';obtain⟨hbk,hnil,hm1,hne⟩:=H1.out;have hb2:w2.heap[P]?=some (.cells #[.pointer (some ⟨P,0,none⟩),v] 142 (0,0)):=(hgrow.block P hlt1 (fun e=>hne e.symm)).trans hbk;have d0:w2.cell? ⟨P,0,none⟩=some (.pointer (some ⟨P,0,none⟩)):=cH hb2 rfl;have d1:w2.cell? ⟨P,1,none⟩=some v:=cH hb2 rfl;have f1:w2.frozen? ⟨P,1,none⟩=false:=fH hb2;have hne':=Mm hown' hb2;have hfin:iB (w2.setCell ⟨P,1,none⟩ v') P (l++s)/\Wr P 5 w (w2.setCell ⟨P,1,none⟩ v'):=by
  refine⟨⟨_,v',.inr rfl,aW (i:=1) _ hb2,?_,?_⟩,?_⟩
  ·rw[List.length_append,Lib.byteCells_append];exact oK (show w2.ownsRow (P+1) 5 1 v' (l.length+s.length) (Lib.byteCells l++Lib.byteCells s) from hown') (fun k hk=>Below.heap_setCell _ _ _ _ (fun e=>hne' (by rw[hk];exact congrArg some e)))
  ·rw[hnil',hnil,List.append_eq_nil_iff]
  ·have hz:=hgrow.size;refine⟨hgrow.os.trans hm1.os,hgrow.tape.trans hm1.tape,hgrow.output.trans hm1.output,by rw[show(w2.setCell ⟨P,1,none⟩ v').heap.size=w2.heap.size from by simp];omega,fun k hk=>?_,fun k hk hk2 hkn=>?_⟩
   ·rw[Below.heap_setCell _ _ _ _ (by show k≠P;omega),hgrow.block k (by omega) (fun e=>by have:=(hown.lt k e.symm).1;omega)];exact hm1.block k (by omega) (by omega)
   ·have e1:=hm1.block k hk2 (by omega);rw[Below.heap_setCell _ _ _ _ (by show k≠P;omega),hgrow.block k (by omega) (fun e=>?_)]
    ·exact e1
    ·obtain⟨_,⟨rfl,_⟩|⟨g,cap,cur,rfl,_,hh,_⟩⟩:=hown
     ·cases e
     ·simp only[Value.ownBlock,Option.some.injEq] at e;subst e;exact hkn _ _ (e1.symm.trans hh)
 obtain⟨ao,n',cap,rfl⟩:∃ao n' cap,v'=.slice ao n' cap:=by
  rcases hown'.2 with⟨hv,_⟩|⟨g,cap,cur,hv,_⟩
  ·exact⟨_,_,_,hv⟩
  ·exact⟨_,_,_,hv⟩
 have HF:=Lh hfin;clear hfin hnil' hown' hgrow hbk hnil hm1 hne hne' hown Jt;have hsl:(⟨s.toArray⟩:ByteArray).size=s.length:=aZ s;go_wp2;go_ret2;exact⟨by simp[aZ],HF.out⟩
theorem IQ{g:Nat}{xs:List Bs}{U:TypeId}(hg:w.heap[g]?=some (.cells (xs.map (fun x=>Value.string ⟨x.toArray⟩)).toArray U (0,0)))(j:Nat)(hj:j<xs.length):w.cell? ⟨g,j,none⟩=some (.string ⟨xs[j].toArray⟩):=
 cH hg (by simp[hj])
theorem GL(xs:List Bs)(j:Nat)(hj:j<xs.length):(xs.take (j+1)).flatten=(xs.take j).flatten++xs[j]:=by
 rw[List.take_succ_eq_append_getElem hj,List.flatten_append];simp
theorem NU(xs:List Bs)(j:Nat):(xs.take j).flatten.length<=xs.flatten.length:=by
 have:=congrArg (fun l:List Bs=>l.flatten.length) (List.take_append_drop j xs);simp only[List.flatten_append,List.length_append] at this;omega
theorem OQ(P g:Nat)(xs:List Bs)(l:Bs)(w:World)(h:iB w P l)(hg:w.heap[g]?=some (.cells (xs.map (fun x=>Value.string ⟨x.toArray⟩)).toArray 9 (0,0)))(hn:xs.length<=1000)(hlen:l.length+xs.flatten.length<=140737488355328):
  Calls Tryz.prog 120 #[.pointer (some ⟨P,0,none⟩),.slice (some ⟨g,0,none⟩) xs.length xs.length] w (bK w P l xs.flatten):=by
 have ZF:g≠P:=by
  rintro rfl;obtain⟨p,v,_,h2,_⟩:=h;rw[hg] at h2;simp only[Option.some.injEq,Obj.cells.injEq] at h2;exact absurd h2.2.1 (by decide)
 have HG:=Lh hg;have H0:=Lh h;have HL:=Lh hlen;clear h hg hlen;go_enter Tryz.func120,Tryz.ntmps120;go_wp2_with fail;go_loopw [8] (fun s8 wr=>∃j:Nat,j<=xs.length/\s8=.int .i64 j/\Hid (iB wr P (l++(xs.take j).flatten))/\Hid (Wr P 5 w wr)) (fun s8 _=>xs.length-(intOf s8).toNat)
 case atStart=>exact⟨0,Nat.zero_le _,rfl,by simpa using H0,Lh (Wr.refl _ _ _)⟩
 case round=>
  obtain⟨j,hj,rfl,HA,HW⟩:=hrel;by_cases hlt:j<xs.length
  ·have hgr:=HW.out.kept HG.out (by decide) ZF;have hcl:=IQ hgr j hlt;have hfl:=GL xs j hlt;have HC:=Lh (tZ P (l++(xs.take j).flatten) xs[j] wr HA.out (by
    have:=NU xs (j+1);rw[hfl] at this;have:=HL.out;simp only[List.length_append] at*;omega))
   have RZ:=Lh hfl;clear hgr hfl;go_wp2_with (go_at_call 78;refine HC.out.mono ?_;rintro e w2 ⟨rfl,hA2,hW2⟩;have HA2:=Lh hA2;have HW2:=Lh hW2;clear hA2 hW2);exact⟨⟨j+1,by omega,by go_num,by rw[RZ.out,<-List.append_assoc];exact HA2,Lh (HW.out.trans HW2.out)⟩,by simp[intOf];omega⟩
  ·go_wp2_with fail;go_end0;have ug:j=xs.length:=by omega
   subst ug;have hA:=HA.out;rw[List.take_length] at hA;exact⟨rfl,hA,HW.out⟩
theorem uj(P:Nat)(xs:List Bs)(l:Bs)(w:World)(h:iB w P l)(hn:xs.length<=1000)(hlen:l.length+xs.flatten.length<=140737488355328):
  Calls Tryz.prog 120 #[.pointer (some ⟨P,0,none⟩),.slice (some ⟨w.heap.size,0,none⟩) xs.length xs.length] (w.alloc (.cells (xs.map (fun x=>Value.string ⟨x.toArray⟩)).toArray 9)) (bK w P l xs.flatten):=by
 refine(OQ P w.heap.size xs l _ (h.alloc _) (heap_alloc_new _ _) hn hlen).mono ?_;rintro e w' ⟨rfl,h1,h2⟩;exact⟨rfl,h1,(Wr.of_below ((Below.refl _ _).alloc (Nat.le_refl _) _) (Nat.le_of_lt h.lt)).trans h2⟩
end Go.Proofs.YtncnnbmeacpboaaGreatDoor
