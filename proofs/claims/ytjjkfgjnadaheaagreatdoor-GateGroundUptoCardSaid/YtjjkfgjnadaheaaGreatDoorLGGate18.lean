/- Joined texts: TypH, EvA, EvB, EvC, EvD, Box, RefM, RefF, GWk. -/
import Derived.Test.YtjjkfgjnadaheaaGreatDoorG23
import Derived.Test.YtjjkfgjnadaheaaGreatDoorG10
import Derived.Deep.RegionHeld3
import Derived.Test.YtjjkfgjnadaheaaGreatDoorLGGate3
set_option maxHeartbeats 2000000
set_option maxRecDepth 100000
set_option linter.unusedVariables false
set_option linter.unusedSimpArgs false
/- types: Rules. -/
namespace Go.Chalk
open Go.RowKit
theorem RulIn.later {w w':World} {r:Rul} {x:RulA} {B C:Nat} (h:RulIn w (·<B) r x) (hb:Below B w w') (hC:B<=C):RulIn w' (·<C) r x:=(h.agree (agree_of_below hb)).mono (fun _ hk=>Nat.lt_of_lt_of_le hk hC)
end Go.Chalk
namespace Go.Proofs.YtjjkfgjnadaheaaGreatDoor
open Go.RowKit Go.Chalk
end Go.Proofs.YtjjkfgjnadaheaaGreatDoor
/- week.Check. -/
namespace Go.Proofs.YtjjkfgjnadaheaaGreatDoor
open Go.RowKit Go.Chalk
def SchBox (W:World) (b:Nat) (s:Schl) (x:SchA):Prop:=W.heap[b]?=some (.cells (x.cells s).toArray 28 (0,0))
theorem SchBox.cells {W:World} {b:Nat} {s:Schl} {x:SchA} (h:SchBox W b s x):W.cell? ⟨b,0,none⟩=some (.slice x.slots.a s.slots.length x.slots.cap)/\W.cell? ⟨b,1,none⟩=some (.slice x.rooms.a s.rooms.length x.rooms.cap)/\W.cell? ⟨b,2,none⟩=some (.slice x.people.a s.people.length x.people.cap)/\W.cell? ⟨b,3,none⟩=some (.slice x.groups.a s.groups.length x.groups.cap)/\W.cell? ⟨b,4,none⟩=some (.slice x.lessons.a s.lessons.length x.lessons.cap) :=
 ⟨cH h rfl,cH h rfl,cH h rfl,cH h rfl,cH h rfl⟩
theorem SchBox.below {W W':World} {b:Nat} {s:Schl} {x:SchA} (h:SchBox W b s x) (hb:Below W.heap.size W W'):SchBox W' b s x:=(hb.block _ (gS h).1).trans h
theorem SchBox.lt {W:World} {b:Nat} {s:Schl} {x:SchA} (h:SchBox W b s x):b<W.heap.size:=(gS h).1

theorem lost_any (p:Plc) (s:Schl) (x:SchA) (q:Nat) (w:World) (hq:SchBox w q s x) :
  Calls Tryz.prog 95 #[.agg #[.int .i64 p.slot,.int .i64 p.room],.pointer (some ⟨q,0,none⟩)] w (Answers w (lostB s p)):=by
 obtain ⟨slot,room⟩:=p
 have hb:=hq.below ((Below.refl _ _).alloc (Nat.le_refl _) (.cells #[.int .i64 slot,.int .i64 room] 99))
 obtain ⟨c0,c1,_,_,_⟩:=hb.cells
 clear hq hb
 unfold lostB
 simp only
 have HA:=Lh (fun W=>wwithin_any slot s.slots.length W)
 have HR:=Lh (fun W=>wwithin_any room s.rooms.length W)
 generalize (decide (0<=slot)&&decide (slot<(s.slots.length:Int)))=a at HA ⊢
 generalize (decide (0<=room)&&decide (room<(s.rooms.length:Int)))=b at HR ⊢
 cases a
 ·go_enter Tryz.func95,Tryz.ntmps95
  go_wp2_with fail
  refine (HA.out _).mono ?_
  rintro e w' ⟨rfl,rfl⟩
  go_wp2_with fail
  go_ret
  exact ⟨by simp,(Below.refl _ _).alloc (Nat.le_refl _) _⟩
 ·go_enter Tryz.func95,Tryz.ntmps95
  go_wp2_with fail
  refine (HA.out _).mono ?_
  rintro e w' ⟨rfl,rfl⟩
  go_wp2_with fail
  refine (HR.out _).mono ?_
  rintro e w' ⟨rfl,rfl⟩
  go_wp2_with fail
  go_ret
  exact ⟨by simp,(Below.refl _ _).alloc (Nat.le_refl _) _⟩
theorem places_lost (l:List Plc) (y:SlA) (s:Schl) (x:SchA) (q:Nat) (w:World) (hy:SlIn w (·<w.heap.size) (l.map Plc.toD) y) (hl:l.length<=2000000) (hq:SchBox w q s x) :
  Calls Tryz.prog 96 #[.slice y.a l.length y.cap,.func (.func 95) #[] #[.pointer (some ⟨q,0,none⟩)]] w fun e w'=>e=.returned (.bool (l.any (lostB s)))/\Below w.heap.size w w':=by
 obtain ⟨g1,_,_,g4,_⟩:=hy.flat Plc.flatT
 rw [<- any_range]
 refine containsFunc_Plc 95 #[.pointer (some ⟨q,0,none⟩)] (fun j=>(l[j]?.map (lostB s)).getD false) l.length (fun j=>.int .i64 ((l[j]?.map (·.slot)).getD 0)) (fun j=>.int .i64 ((l[j]?.map (·.room)).getD 0)) y.a y.b y.o y.cap w g1 ?_ ?_ (fun _ _=>enters_of Tryz.func95 (by kernel_rfl) rfl _ _) hl
 ·intro j hj
  have h:=g4.two j hj rfl
  rw [List.getElem?_eq_getElem hj]
  exact h
 ·intro j hj W hW
  rw [List.getElem?_eq_getElem hj]
  exact lost_any l[j] s x q W (hq.below hW)

theorem wcheck_any (s:Schl) (x:SchA) (l:List Plc) (y:SlA) (w:World) (hI:ItoaAt) (hs:SchIn w (·<w.heap.size) s x) (hf:SchFit s) (hy:SlIn w (·<w.heap.size) (l.map Plc.toD) y) (hl:l.length<=2000000) (hg:GG w) :
  Calls Tryz.prog 51 #[.agg (x.cells s).toArray,.agg #[.slice y.a l.length y.cap]] w fun e w'=>e=.returned (.int .i64 (weekCheck s l))/\Below w.heap.size w w':=by
 have hba:Below w.heap.size w ((w.alloc (.cells (x.cells s).toArray 28)).alloc (.cells #[.slice y.a l.length y.cap] 50)):=((Below.refl _ _).alloc (Nat.le_refl _) _).alloc (by simp) _
 have hbx:SchBox ((w.alloc (.cells (x.cells s).toArray 28)).alloc (.cells #[.slice y.a l.length y.cap] 50)) w.heap.size s x:=by unfold SchBox;rw [heap_get,if_neg (by simp),heap_get,if_pos rfl]
 have hby:((w.alloc (.cells (x.cells s).toArray 28)).alloc (.cells #[.slice y.a l.length y.cap] 50)).heap[w.heap.size+1]?=some (.cells #[.slice y.a l.length y.cap] 50 (0,0)):=by rw [heap_get,if_pos (by simp)]
 have HSC:=Lh (scheck_any s x _ hI (hs.later hba hba.size) hf (hg.below hba))
 have HPL:=Lh (fun (W:World) (hW:Below w.heap.size w W) (hq:SchBox W w.heap.size s x)=>places_lost l y s x w.heap.size W (hy.later hW hW.size) hl hq)
 have HR:Hid (weekCheck s l=if schCheck s ≠ 0 then schCheck s else if l.length ≠ s.lessons.length∨l.any (lostB s)=true then 40 else 0):=Lh rfl
 have HB:=Lh (aI hba (aI hbx hby))
 have hmf:∀ (fn:Fn) (first cap:Array Value) (w:World),(Instr.makeFunc fn first cap).run Tryz.prog w=.ok (.func fn first cap) w:=fun _ _ _ _=>rfl
 clear hs hy hg hf hba hbx hby hI
 generalize weekCheck s l=res at HR ⊢
 generalize schCheck s=sc at HSC HR
 generalize l.any (lostB s)=an at HPL HR
 simp only [SchA.cells,SlA.val] at HSC HB ⊢
 have hd:(sc ≠ 0/\(sc != 0)=true)∨(sc=0/\(sc != 0)=false):=by by_cases h:sc=0 <;> simp [h]
 go_enter Tryz.func51,Tryz.ntmps51
 go_wp2_with fail
 refine HSC.out.mono ?_
 rintro e w1 ⟨rfl,hb1⟩
 have HB1:=Lh (aI (HB.out.1.trans (hb1.mono HB.out.1.size)) (aI (HB.out.2.1.below hb1) ((hb1.block (w.heap.size+1) (by simp)).trans HB.out.2.2)))
 clear hb1
 rcases hd with ⟨d1,d2⟩ | ⟨d1,d2⟩
 ·have HD:=Lh d1
  clear d1
  go_wp2_with fail
  go_ret
  exact ⟨ret_int (by rw [HR.out,if_pos HD.out]),HB1.out.1⟩
 subst d1
 clear d2
 have b4:=HB1.out.2.1.cells.2.2.2.2
 have c0:w1.cell? ⟨w.heap.size+1,0,none⟩=some (.slice y.a l.length y.cap):=cH HB1.out.2.2 rfl
 have hle:(l.length ≠ s.lessons.length/\((l.length:Int) != (s.lessons.length:Int))=true)∨(l.length=s.lessons.length/\((l.length:Int) != (s.lessons.length:Int))=false):=by
  by_cases h:l.length=s.lessons.length
  ·exact .inr ⟨h,by simp;omega⟩
  ·exact .inl ⟨h,by simp;omega⟩
 rcases hle with ⟨d1,d2⟩ | ⟨d1,d2⟩
 ·have HD:=Lh d1
  clear d1
  go_wp2_with fail
  go_ret
  exact ⟨ret_int (by rw [HR.out,if_neg (by simp),if_pos (.inl HD.out)]),HB1.out.1⟩
 have hpw:=HPL.out w1 HB1.out.1 HB1.out.2.1
 have HPW:=Lh hpw
 have HD:=Lh d1
 clear d1 hpw
 go_wp2_with fail
 refine HPW.out.mono ?_
 rintro e w2 ⟨rfl,hb2⟩
 have HB2:=Lh (HB1.out.1.trans (hb2.mono HB1.out.1.size))
 clear hb2
 cases an
 ·go_wp2_with fail
  go_ret
  exact ⟨ret_int (by rw [HR.out,if_neg (by simp),if_neg (by rw [HD.out];simp)]),HB2.out⟩
 ·go_wp2_with fail
  go_ret
  exact ⟨ret_int (by rw [HR.out,if_neg (by simp),if_pos (.inr (by first | rfl | trivial))]),HB2.out⟩
end Go.Proofs.YtjjkfgjnadaheaaGreatDoor
/- eval: binds, sizes, many. -/
namespace Go.Chalk
open Go.RowKit
theorem sizesF_take {s:Schl} {l:List Bnd} {j:Nat} (hj:j<l.length):sizesF s (l.take (j+1))=sizesF s (l.take j)++[schCount s l[j].sort]:=by
 unfold sizesF;rw [List.take_succ_eq_append_getElem hj,List.map_append];rfl
theorem evBinds_take {l:List Ev} {j:Nat} (hj:j<l.length):evBinds (l.take (j+1))=evBinds (l.take j)++[⟨l[j].name,l[j].sort⟩]:=by
 unfold evBinds;rw [List.take_succ_eq_append_getElem hj,List.map_append];rfl
def nats (l:List Nat):List Int:=l.map (fun (n:Nat)=>(n:Int))
theorem nats_append (a b:List Nat):nats (a++b)=nats a++nats b:=by simp [nats]
@[simp] theorem nats_length (a:List Nat):(nats a).length=a.length:=by simp [nats]
theorem fold_take {l:List Nat} {j:Nat} (hj:j<l.length):(l.take (j+1)).foldl timesF 1=timesF ((l.take j).foldl timesF 1) l[j]:=by
 rw [List.take_succ_eq_append_getElem hj,List.foldl_append];rfl
theorem nats_one (k:Nat):dints (nats [k])=[D.int .i64 k]:=rfl
variable {P:Program}
theorem wpList_append_one' {W0:World} {B:Nat} (hB:W0.heap.size=B) {lo:Nat} {F:Nat->Prop} {ops:Array Oper} {rest:List Oper} {o:Oper} {a:Act} {Q:Exit->Act->World->Prop} (hgd:o.guard=none) (s x:Operand) (t:TypeId)
  (ho:o.op=.call { callee:=.builtin .append,args:=#[s,x],argTypes:=#[t,t] }) (e:TypeId) (i:TypeInfo) (z:Value) (size bytes:Nat) (ht:P.underlying t=some (.slice e)) (hi:P.info? e=some i) (hz:i.zero=some z)
  (hsize:i.size=size) (hby:i.bytes=bytes) (hzs:z.cells.size=size) (hsz:0<size) (v:Value) (xs:List D) (y:D) (cs:List Value) (T:TypeId) (hs:a.eval s=v) (hx:a.eval x=.slice (some ⟨B,0,none⟩) 1 1)
  (hv:Onto1 W0 lo F e size v xs) (hd:DsAt W0 F [y] cs) (hlo:lo<=W0.heap.size) (hw:y.width=size) (hwx:widths xs=xs.length*size) (h63:xs.length+1<=maxLen) (hbytes:(xs.length+1)*bytes<=140737488355328)
  (h:∀ ao cap w',Onto1 w' lo F e size (.slice ao (xs.length+1) cap) (xs++[y])->Below lo W0 w'->wpList P ops Q rest (a.put o.dst (.slice ao (xs.length+1) cap)) w') :
  wpList P ops Q (o :: rest) a (W0.alloc (.cells cs.toArray T)) :=
 wpList_append_one hgd s x t ho e i z size bytes ht hi hz hsize hby hzs hsz v xs y cs T hs (by rw [hx,hB]) hv hd hlo hw hwx h63 hbytes h
def OwnN (w:World) (lo:Nat) (F:Nat->Prop) (e:TypeId) (sz:Nat) (v:Value) (xs:List D):Prop:=∃ r,Own w F e sz v r xs/\∀ k,r=some k->lo<=k
theorem OwnN.onto {w:World} {lo:Nat} {F:Nat->Prop} {e:TypeId} {sz:Nat} {v:Value} {xs:List D} (h:OwnN w lo F e sz v xs):Onto1 w lo F e sz v xs:=.inr h
theorem OwnN.nil (w:World) (lo:Nat) (F:Nat->Prop) (e:TypeId) (sz:Nat) (lt:∀ k,F k->k<w.heap.size):OwnN w lo F e sz (.slice none 0 0) []:=⟨none,Own.nil _ _ _ _ lt,fun _ h=>by cases h⟩
theorem OwnN.below {w w':World} {lo:Nat} {F:Nat->Prop} {e:TypeId} {sz:Nat} {v:Value} {xs:List D} (h:OwnN w lo F e sz v xs) (hb:Below w.heap.size w w'):OwnN w' lo F e sz v xs:=by
 obtain ⟨r,h1,h2⟩:=h;exact ⟨r,h1.below hb,h2⟩
theorem OwnN.form {w:World} {lo:Nat} {F:Nat->Prop} {e:TypeId} {sz:Nat} {v:Value} {xs:List D} (h:OwnN w lo F e sz v xs):∃ a cap,v=.slice a xs.length cap:=by
 obtain ⟨r,h1,_⟩:=h;exact h1.form
theorem wpList_append_oneO {W0:World} {B:Nat} (hB:W0.heap.size=B) {lo:Nat} {F:Nat->Prop} {ops:Array Oper} {rest:List Oper} {o:Oper} {a:Act} {Q:Exit->Act->World->Prop} (hgd:o.guard=none) (s x:Operand) (t:TypeId)
  (ho:o.op=.call { callee:=.builtin .append,args:=#[s,x],argTypes:=#[t,t] }) (e:TypeId) (i:TypeInfo) (z:Value) (size bytes:Nat) (ht:P.underlying t=some (.slice e)) (hi:P.info? e=some i) (hz:i.zero=some z)
  (hsize:i.size=size) (hby:i.bytes=bytes) (hzs:z.cells.size=size) (hsz:0<size) (v:Value) (xs:List D) (y:D) (cs:List Value) (T:TypeId) (hs:a.eval s=v) (hx:a.eval x=.slice (some ⟨B,0,none⟩) 1 1)
  (hv:OwnN W0 lo F e size v xs) (hd:DsAt W0 F [y] cs) (hlo:lo<=W0.heap.size) (hw:y.width=size) (h63:xs.length+1<=maxLen) (hbytes:(xs.length+1)*bytes<=140737488355328)
  (h:∀ ao cap w',OwnN w' lo F e size (.slice ao (xs.length+1) cap) (xs++[y])->Below lo W0 w'->wpList P ops Q rest (a.put o.dst (.slice ao (xs.length+1) cap)) w') :
  wpList P ops Q (o :: rest) a (W0.alloc (.cells cs.toArray T)):=by
 obtain ⟨r,h1,h2⟩:=hv
 have hb:Below W0.heap.size W0 (W0.alloc (.cells cs.toArray T)):=(Below.refl _ _).alloc (Nat.le_refl _) _
 have hnb:(W0.alloc (.cells cs.toArray T)).heap[W0.heap.size]?=some (.cells cs.toArray T (0,0)):=boxed (B:=W0.heap.size+1) (Below.refl _ _) (by omega)
 have hnews:∀ j u,cs[j]?=some u->(W0.alloc (.cells cs.toArray T)).cell? ((⟨W0.heap.size,0,none⟩:Addr).add j)=some u:=fun j u hu=>by
  have hc:=cH (i:=j) hnb (v:=u) (by simpa using hu)
  unfold Addr.add
  by_cases h0:j=0
  ·subst h0;simpa using hc
  ·rw [if_neg h0];simpa using hc
 have hlen:cs.length=1*size:=by
  have:=DsAt.length _ _ hd
  rw [this];simp [widths,hw]
 have hd':DsAt (W0.alloc (.cells cs.toArray T)) F [y] cs:=DsAt.agree ((agree_of_below hb).mono h1.lt) _ _ hd
 have h1':=h1.alloc (.cells cs.toArray T)
 obtain ⟨cs0,k1,k2⟩:=h1'.cells
 refine wpList_append_lies (W0.alloc (.cells cs.toArray T)) hgd s x t ho 0 e i z size bytes ht hi hz hsize hby hzs hsz v xs.length cs0 hs k1 ⟨W0.heap.size,0,none⟩ 1 1 cs (by rw [hx,hB]) hlen hnews (DsAt.one _ _ hd) (by omega) h63 hbytes (Nat.zero_le _) _ rfl (fun g cap w' hown hgr hat hlt=>?_)
 obtain ⟨g1,g2,g3⟩:=h1'.appended (ys:=[y]) k2 hown hgr (by rcases hat with h | h;exact .inl h.symm;exact .inr (by rw [h];rfl)) hd'
 have hm0:Mod (fun k=>r=some k) W0 w':=(Mod.of_below (S:=fun k=>r=some k) hb).trans g2 (fun _ _ h=>h)
 refine h _ _ _ ⟨_,g1,fun k hk=>?_⟩ (hm0.below hlo (fun k hk=>h2 k hk))
 rcases g3 with g3 | g3
 ·rw [g3] at hk;exact h2 k hk
 ·rw [g3] at hk;simp at hk;omega
end Go.Chalk
namespace Go.Proofs.YtjjkfgjnadaheaaGreatDoor
open Go.RowKit Go.Chalk
theorem count_le {s:Schl} (hsm:SchSmall s) (sort:Int):schCount s sort<=2000000:=by
 have h1:=hsm.slots;have h2:=hsm.rooms;have h3:=hsm.people;have h4:=hsm.groups;have h5:=hsm.lessons
 rw [schCount_eq]
 repeat' split
 all_goals omega

theorem ebinds_any (l:List Ev) (x:SlA) (w:World) (hx:SlIn w (·<w.heap.size) (l.map Ev.toD) x) (hl:l.length<=2000000) :
  Calls Tryz.prog 54 #[.slice x.a l.length x.cap] w fun e w'=>∃ v,e=.returned v/\Onto1 w' w.heap.size (fun _=>False) 149 2 v ((evBinds l).map Bnd.toD)/\Below w.heap.size w w':=by
 obtain ⟨g1,_,_,g4,g5⟩:=hx.flat Ev.flatT
 have HC:=Lh g4
 have HFN:=Lh g5
 obtain ⟨i0,hi,hz0,hz1,hz2⟩:=info_parts infoBnd
 clear hx g4 g5
 go_enter Tryz.func54,Tryz.ntmps54
 go_wp2_with fail
 go_loopw [3,8] (fun v i wr=>∃ j:Nat,j<=l.length/\i=.int .i64 j/\Below w.heap.size w wr/\Hid (Onto1 wr w.heap.size (fun _=>False) 149 2 v ((evBinds (l.take j)).map Bnd.toD))) (fun _ i _=>l.length - (intOf i).toNat)
 case atStart=>exact ⟨0,Nat.zero_le _,rfl,Below.refl _ _,Lh (Onto1.nil _ _ _ _ _ (fun _ h=>h.elim))⟩
 case round =>
  obtain ⟨j,hj,rfl,hb,HO⟩:=hrel
  by_cases hlt:j<l.length
  ·obtain ⟨oa,ocap,ho⟩:=HO.out.form
   subst ho
   have hlen:((evBinds (l.take j)).map Bnd.toD).length=j:=by simp [evBinds];omega
   rw [hlen] at HO ⊢
   obtain ⟨hxa,hbl⟩:=g1 (by omega)
   obtain ⟨q0,q1,q2⟩:=HC.out.three j hlt rfl
   have e0:=(hb.cell (p:=⟨x.b,x.o+j*3,none⟩) hbl).trans q0
   have e1:=(hb.cell (p:=⟨x.b,x.o+j*3+1,none⟩) hbl).trans q1
   have e2:=(hb.cell (p:=⟨x.b,x.o+j*3+2,none⟩) hbl).trans q2
   have HFJ:=Lh (HFN.out _ (List.getElem_mem hlt))
   have HT:=Lh (evBinds_take hlt)
   have hb1:Below wr.heap.size wr (wr.alloc (.cells #[.string ⟨l[j].name.toArray⟩,.int .i64 l[j].sort,.int .i64 l[j].at_] 76)):=(Below.refl _ _).alloc (Nat.le_refl _) _
   have HO1:=Lh (HO.out.below hb1)
   have HB1:=Lh (hb.trans (hb1.mono hb.size))
   have HLN:=Lh hlen
   rw [hxa]
   clear q0 q1 q2 hb1 hlen
   generalize evBinds (l.take j)=bs at HO HO1 HT HLN
   generalize l[j]=ev at HFJ HT HO1 HB1 e0 e1 e2
   obtain ⟨nm,so,at_⟩:=ev
   simp only at HT HO1 HB1 e0 e1 e2
   go_wp2_with (at_builtin;go_must (refine wpList_append_one' (B:=wr.heap.size+1) (by simp) rfl _ _ 31 rfl 149 i0 _ 2 24 Tryz.underlying31 hi hz0 hz1 hz2 rfl (by decide) (.slice oa j ocap) (bs.map Bnd.toD) (Bnd.toD ⟨nm,so⟩) [.string ⟨nm.toArray⟩,.int .i64 so] 149 rfl rfl HO1.out (DsAt.flat1 (Bnd.flatT.flat _) ⟨HFJ.out.1,HFJ.out.2.1,trivial⟩) (by have:=HB1.out.size;omega) rfl (by rw [widths_map Bnd.flatT,List.length_map]) (by rw [HLN.out];unfold maxLen;omega) (by rw [HLN.out];omega) ?_);intro ao cap w5 hon hb5;rw [HLN.out] at hon ⊢;have HON:=Lh (aI hon (HB1.out.trans hb5));clear hon hb5)
   refine ⟨⟨j+1,by omega,by go_num,HON.out.2,Lh ?_⟩,by simp [intOf];omega⟩
   rw [HT.out,List.map_append];exact HON.out.1
  ·have HL:Hid (l.take j=l):=Lh (List.take_of_length_le (by omega))
   go_wp2_with fail
   go_ret
   refine ⟨_,rfl,?_,hb⟩
   have:=HO.out
   rw [HL.out] at this;exact this

theorem esizes_any (s:Schl) (x:SchA) (l:List Bnd) (y:SlA) (w:World) (hI:ItoaAt) (hs:SchIn w (·<w.heap.size) s x) (hsm:SchSmall s) (hy:SlIn w (·<w.heap.size) (l.map Bnd.toD) y) (hl:l.length<=2000000) :
  Calls Tryz.prog 176 #[.agg (x.cells s).toArray,.slice y.a l.length y.cap] w fun e w'=>∃ v,e=.returned v/\OwnN w' (w.heap.size+1) (fun _=>False) 3 1 v (dints (nats (sizesF s l)))/\Below w.heap.size w w':=by
 obtain ⟨g1,_,_,g4,_⟩:=hy.flat Bnd.flatT
 have HC:=Lh g4
 have HCT:=Lh (fun (sort:Int) (W:World) (hW:Below w.heap.size w W)=>count_any s x sort W hI (hs.later hW hW.size) hsm)
 have HLE:=Lh (fun sort=>count_le hsm sort)
 have hbx:SchBox (w.alloc (.cells (x.cells s).toArray 28)) w.heap.size s x:=by unfold SchBox;rw [heap_get,if_pos rfl]
 have HBX:=Lh hbx
 obtain ⟨i0,hi,hz0,hz1,hz2⟩:=info_parts infoInt
 clear hy hs g4 hsm hI hbx
 simp only [SchA.cells,SlA.val] at HCT HBX ⊢
 go_enter Tryz.func176,Tryz.ntmps176
 go_wp2_with fail
 go_loopw [5,10] (fun v i wr=>∃ j:Nat,j<=l.length/\i=.int .i64 j/\Below w.heap.size w wr/\Hid (SchBox wr w.heap.size s x)/\Hid (OwnN wr (w.heap.size+1) (fun _=>False) 3 1 v (dints (nats (sizesF s (l.take j)))))) (fun _ i _=>l.length - (intOf i).toNat)
 case atStart=>exact ⟨0,Nat.zero_le _,rfl,(Below.refl _ _).alloc (Nat.le_refl _) _,HBX,Lh (OwnN.nil _ _ _ _ _ (fun _ h=>h.elim))⟩
 case round =>
  obtain ⟨j,hj,rfl,hb,HBX,HO⟩:=hrel
  by_cases hlt:j<l.length
  ·obtain ⟨oa,ocap,ho⟩:=HO.out.form
   subst ho
   have hlen:(dints (nats (sizesF s (l.take j)))).length=j:=by simp [sizesF];omega
   rw [hlen] at HO ⊢
   obtain ⟨hxa,hbl⟩:=g1 (by omega)
   obtain ⟨q0,q1⟩:=HC.out.two j hlt rfl
   have e0:=(hb.cell (p:=⟨y.b,y.o+j*2,none⟩) hbl).trans q0
   have e1:=(hb.cell (p:=⟨y.b,y.o+j*2+1,none⟩) hbl).trans q1
   have HT:=Lh (sizesF_take (s:=s) hlt)
   have hb1:Below wr.heap.size wr (wr.alloc (.cells #[.string ⟨l[j].name.toArray⟩,.int .i64 l[j].sort] 149)):=(Below.refl _ _).alloc (Nat.le_refl _) _
   have HO1:=Lh (HO.out.below hb1)
   have HB1:=Lh (hb.trans (hb1.mono hb.size))
   have hsb:=HBX.out.below hb1
   have HSB:=Lh hsb
   obtain ⟨c0,c1,c2,c3,c4⟩:=hsb.cells
   have HLN:=Lh hlen
   have HCJ:=Lh (HCT.out l[j].sort _ HB1.out)
   rw [hxa]
   clear q0 q1 hb1 hlen hsb
   generalize sizesF s (l.take j)=bs at HO HO1 HT HLN
   generalize l[j]=ev at HT HO1 HB1 HSB HCJ e0 e1 c0 c1 c2 c3 c4
   obtain ⟨nm,so⟩:=ev
   simp only at HT HO1 HB1 HSB HCJ e0 e1 c0 c1 c2 c3 c4
   have HLS:=Lh (HLE.out so)
   generalize schCount s so=k at HCJ HT HLS
   go_wp2_with fail
   refine HCJ.out.mono ?_
   rintro e w1 ⟨rfl,hb2⟩
   have HO2:=Lh (HO1.out.below hb2)
   have HB2:=Lh (aI (HB1.out.trans (hb2.mono HB1.out.size)) (HSB.out.below hb2))
   clear hb2
   go_wp2_with (at_builtin;go_must (refine wpList_append_oneO rfl rfl _ _ 90 rfl 3 i0 _ 1 8 Tryz.underlying90 hi hz0 hz1 hz2 rfl (by decide) (.slice oa j ocap) (dints (nats bs)) (.int .i64 k) [.int .i64 k] 3 rfl rfl HO2.out (DsAt.flat1 (x:=.int .i64 k) rfl (I64.wf (by have:=HLS.out;exact i64_small (by omega) (by omega)))) (by have:=HB2.out.2.lt;omega) rfl (by rw [HLN.out];unfold maxLen;omega) (by rw [HLN.out];omega) ?_);intro ao cap w5 hon hb5;rw [HLN.out] at hon ⊢;have HON:=Lh (aI hon (aI (HB2.out.1.trans (hb5.mono (by omega))) (show SchBox w5 w.heap.size s x from (hb5.block _ (by omega)).trans HB2.out.2)));clear hon hb5)
   refine ⟨⟨j+1,by omega,by go_num,HON.out.2.1,Lh HON.out.2.2,Lh ?_⟩,by simp [intOf];omega⟩
   rw [HT.out,nats_append,dints_append,nats_one];exact HON.out.1
  ·have HL:Hid (l.take j=l):=Lh (List.take_of_length_le (by omega))
   go_wp2_with fail
   go_ret
   refine ⟨_,rfl,?_,hb⟩
   have:=HO.out
   rw [HL.out] at this;exact this
end Go.Proofs.YtjjkfgjnadaheaaGreatDoor
/- eval: many, broad. -/
namespace Go.Chalk
open Go.RowKit
theorem sizesF_le {s:Schl} {l:List Bnd} (h:∀ sort,schCount s sort<=2000000):∀ k∈sizesF s l,k<=2000000:=fun k hk=>by
 unfold sizesF at hk
 obtain ⟨b,_,rfl⟩:=List.mem_map.1 hk
 exact h b.sort
theorem timesF_le (a b:Nat):timesF a b<=1048577:=by unfold timesF;omega
theorem broadL_snoc (s:Schl):∀ (l:List Frm) (f:Frm) (n:Nat),broadL s (l++[f]) n=min (broadL s l n+broadF s f) 1048577
 | [],f,n=>by rw [List.nil_append,broadL,broadL,broadL]
 | g :: r,f,n=>by rw [List.cons_append,broadL,broadL_snoc s r f,broadL]
theorem broadL_take {s:Schl} {l:List Frm} {j:Nat} (hj:j<l.length):broadL s (l.take (j+1)) 0=min (broadL s (l.take j) 0+broadF s l[j]) 1048577:=by
 rw [List.take_succ_eq_append_getElem hj,broadL_snoc]
theorem broadL_le (s:Schl) (l:List Frm) (j:Nat):broadL s (l.take j) 0<=1048577:=by
 induction j with
 | zero=>simp [broadL]
 | succ j ih =>
  by_cases h:j<l.length
  ·rw [broadL_take h];omega
  ·rw [List.take_of_length_le (by omega)]
   rw [List.take_of_length_le (by omega)] at ih;exact ih
end Go.Chalk
namespace Go.Proofs.YtjjkfgjnadaheaaGreatDoor
open Go.RowKit Go.Chalk
theorem many_any (s:Schl) (x:SchA) (l:List Bnd) (y:SlA) (w:World) (hI:ItoaAt) (hs:SchIn w (·<w.heap.size) s x) (hsm:SchSmall s) (hy:SlIn w (·<w.heap.size) (l.map Bnd.toD) y) (hl:l.length<=2000000) :
  Calls Tryz.prog 104 #[.agg (x.cells s).toArray,.slice y.a l.length y.cap] w fun e w'=>e=.returned (.int .i64 (manyF s l))/\Below w.heap.size w w':=by
 have hba:Below w.heap.size w (w.alloc (.cells (x.cells s).toArray 28)):=(Below.refl _ _).alloc (Nat.le_refl _) _
 have HSZ:=Lh (esizes_any s x l y _ hI (hs.later hba hba.size) hsm (hy.later hba hba.size) hl)
 have hle:=sizesF_le (l:=l) (fun sort=>count_le hsm sort)
 have hln:(sizesF s l).length=l.length:=by simp [sizesF]
 have HM:Hid (manyF s l=(sizesF s l).foldl timesF 1):=Lh rfl
 have HB:=Lh hba
 clear hs hy hba hI hsm
 generalize manyF s l=res at HM ⊢
 generalize sizesF s l=sz at *
 simp only [SchA.cells,SlA.val] at HSZ HB ⊢
 go_enter Tryz.func104,Tryz.ntmps104
 go_wp2_with fail
 refine HSZ.out.mono ?_
 rintro e w1 ⟨v,rfl,hon,hb⟩
 have HW:=Lh (HB.out.trans (hb.mono HB.out.size))
 obtain ⟨x0,rfl,hx0⟩:=hon.onto.sl (by rw [dints_widths];simp)
 obtain ⟨k1,_,_,_,k5⟩:=hx0.ints
 rw [show (dints (nats sz)).length=sz.length from by simp]
 rw [nats_length] at k1
 have HC:=Lh k5
 have HLE:=Lh hle
 have HLN:=Lh hln
 clear hb hon hx0 k5 hle hln
 simp only [SlA.val]
 go_wp2_with fail
 go_loop [5,12] (fun n i=>∃ j:Nat,j<=sz.length/\i=.int .i64 j/\n=.int .i64 ((sz.take j).foldl timesF 1:Nat)) (fun _ i=>sz.length - (intOf i).toNat)
 case atStart=>exact ⟨0,Nat.zero_le _,rfl,rfl⟩
 case round =>
  obtain ⟨j,hj,rfl,rfl⟩:=hrel
  have hszl:sz.length<=2000000:=by rw [HLN.out];exact hl
  by_cases hlt:j<sz.length
  ·obtain ⟨hxa,_⟩:=k1 (by omega)
   have e0:=HC.out j (by simpa using hlt)
   rw [show (nats sz)[j]'(by simpa using hlt)=(sz[j]:Int) from by simp [nats]] at e0
   have hk:=HLE.out _ (List.getElem_mem hlt)
   have hn:(sz.take j).foldl timesF 1<=1048577:=fold_times_le 0 _ _ (by omega)
   have HT:=Lh (fold_take hlt)
   rw [hxa]
   generalize (sz.take j).foldl timesF 1=n at HT hn
   generalize sz[j]=k at HT hk e0
   go_wp2_with (go_at_call 103;refine (times_any n k (by omega) (by omega) _).mono ?_;rintro e w' ⟨rfl,rfl⟩)
   go_round
   case rel=>exact ⟨j+1,by omega,by go_num,by rw [HT.out]⟩
   case measure=>simp [intOf];omega
  ·have HL:Hid (sz.take j=sz):=Lh (List.take_of_length_le (by omega))
   go_wp2_with fail
   go_ret
   exact ⟨ret_int (by rw [HM.out,HL.out]),HW.out⟩

theorem broad_any (s:Schl) (x:SchA) (hI:ItoaAt) (hsm:SchSmall s) (m:Nat):∀ (f:Frm) (y:FrmA) (w:World),f.size<=m->f.size<=2000000->(∀ g∈nodesF f,g.binds.length<=2000000)->SchIn w (·<w.heap.size) s x->FrmIn w (·<w.heap.size) f y ->
  Calls Tryz.prog 55 #[.agg (x.cells s).toArray,ndV (f,y)] w fun e w'=>e=.returned (.int .i64 (broadF s f))/\Below w.heap.size w w':=by
 induction m with
 | zero=>intro f _ _ h;have:=f.size_pos;omega
 | succ m ih =>
  rintro ⟨kind,name,n,terms,binds,fl⟩ y w hm hsz hnd hs hy
  rw [Frm.size] at hm hsz
  have hll:=length_le_fsizes fl
  have hba:Below w.heap.size w ((w.alloc (.cells (x.cells s).toArray 28)).alloc (.cells (y.cells (.mk kind name n terms binds fl)).toArray 34)):=((Below.refl _ _).alloc (Nat.le_refl _) _).alloc (by simp) _
  have hbx:SchBox ((w.alloc (.cells (x.cells s).toArray 28)).alloc (.cells (y.cells (.mk kind name n terms binds fl)).toArray 34)) w.heap.size s x:=by unfold SchBox;rw [heap_get,if_neg (by simp),heap_get,if_pos rfl]
  have hby:((w.alloc (.cells (x.cells s).toArray 28)).alloc (.cells (y.cells (.mk kind name n terms binds fl)).toArray 34)).heap[w.heap.size+1]?=some (.cells (y.cells (.mk kind name n terms binds fl)).toArray 34 (0,0)):=by rw [heap_get,if_pos (by simp)]
  have HFI:Hid (∀ (j:Nat) (hj:j<fl.length),∃ y1:FrmA,FrmIn w (·<w.heap.size) fl[j] y1/\CellsAt w y.l.b (y.l.o+j*6) (y1.cells fl[j])):=Lh (fun j hj=>hy.l.frm j hj)
  have HFS:Hid (SlAt (·<w.heap.size) y.l.a y.l.b y.l.o fl.length):=Lh (by have:=hy.l.at_;rw [List.length_map] at this;exact this)
  have HIH:=Lh (fun (j:Nat) (hj:j<fl.length) (y1:FrmA) (W:World) (hW:Below w.heap.size w W) (h1:FrmIn w (·<w.heap.size) fl[j] y1)=>ih fl[j] y1 W (by have:=size_le_fsizes fl j hj;omega) (by have:=size_le_fsizes fl j hj;omega) (fun g hg=>hnd g (by
   rw [nodesF]
   exact List.mem_cons_of_mem _ (by rw [nodesL_eq];exact List.mem_flatten.2 ⟨_,List.mem_map.2 ⟨_,List.getElem_mem hj,rfl⟩,hg⟩))) (hs.later hW hW.size) (h1.later hW hW.size))
  have HMY:=Lh (fun (W:World) (hW:Below w.heap.size w W)=>many_any s x binds y.b W hI (hs.later hW hW.size) hsm (hy.binds.later hW hW.size) (show binds.length<=2000000 from hnd (.mk kind name n terms binds fl) (by rw [nodesF];exact List.mem_cons_self ..)))
  have HR:Hid (broadF s (.mk kind name n terms binds fl)=min (timesF (broadL s fl 0) (manyF s binds)+1) 1048577):=Lh (by rw [broadF])
  have hmy:=manyF_le s binds
  have HB:=Lh (aI hba (aI hbx hby))
  clear ih hnd hs hy hba hbx hby
  generalize broadF s (.mk kind name n terms binds fl)=res at HR ⊢
  generalize manyF s binds=my at HMY HR hmy
  simp only [ndV,SchA.cells,FrmA.cells,SlA.val,Frm.kind,Frm.name,Frm.n,Frm.terms,Frm.binds,Frm.l] at HB HMY ⊢
  go_enter Tryz.func55,Tryz.ntmps55
  go_wp2_with fail
  go_loopw [5,11] (fun nn i wr=>∃ j:Nat,j<=fl.length/\i=.int .i64 j/\nn=.int .i64 (broadL s (fl.take j) 0:Nat)/\Below w.heap.size w wr/\Hid (SchBox wr w.heap.size s x/\wr.heap[w.heap.size+1]?=some (.cells #[.int .i64 kind,.string ⟨name.toArray⟩,.int .i64 n,.slice y.t.a terms.length y.t.cap,.slice y.b.a binds.length y.b.cap,.slice y.l.a fl.length y.l.cap] 34 (0,0)))) (fun _ i _=>fl.length - (intOf i).toNat)
  case atStart=>exact ⟨0,Nat.zero_le _,rfl,rfl,HB.out.1,Lh HB.out.2⟩
  case round =>
   obtain ⟨j,hj,rfl,rfl,hb,HBX⟩:=hrel
   have hbn:=broadL_le s fl j
   by_cases hlt:j<fl.length
   ·obtain ⟨y1,hy1,hy2⟩:=HFI.out j hlt
    obtain ⟨hxa,hFb⟩:=HFS.out (by omega)
    obtain ⟨e0,e1,e2,e3,e4,e5⟩:=(hy2.agree (agree_of_below hb) hFb).six
    have hbr:Below wr.heap.size wr (wr.alloc (.cells (y1.cells fl[j]).toArray 34)):=(Below.refl _ _).alloc (Nat.le_refl _) _
    have hbw:=hb.trans (hbr.mono hb.size)
    have HCL:=Lh (HIH.out j hlt y1 _ hbw hy1)
    have hsb:=HBX.out.1.below hbr
    obtain ⟨c0,c1,c2,c3,c4⟩:=hsb.cells
    have HS1:=Lh (aI hbw (aI hsb ((hbr.block _ (gS HBX.out.2).1).trans HBX.out.2)))
    have HT:=Lh (broadL_take (s:=s) hlt)
    have hbf:=broadF_le s fl[j]
    rw [hxa] at HBX HS1 ⊢
    clear hy1 hy2 hFb hbr hbw hsb
    generalize broadL s (fl.take j) 0=nn at HT hbn
    generalize broadF s fl[j]=bf at HT HCL hbf
    generalize fl[j]=fe at HCL HS1 e0 e1 e2 e3 e4 e5 c0 c1 c2 c3 c4
    obtain ⟨kind1,name1,n1,terms1,binds1,fl1⟩:=fe
    simp only [ndV,SchA.cells,FrmA.cells,SlA.val,Frm.kind,Frm.name,Frm.n,Frm.terms,Frm.binds,Frm.l] at HCL HS1 e0 e1 e2 e3 e4 e5 c0 c1 c2 c3 c4
    go_wp2_with fail
    refine HCL.out.mono ?_
    rintro e w1 ⟨rfl,hb1⟩
    have HB1:=Lh (aI (HS1.out.1.trans (hb1.mono HS1.out.1.size)) (aI (HS1.out.2.1.below hb1) ((hb1.block _ (gS HS1.out.2.2).1).trans HS1.out.2.2)))
    clear hb1
    go_wp2_with fail
    refine ⟨⟨j+1,by omega,by go_num,?_,HB1.out.1,Lh HB1.out.2⟩,by simp [intOf];omega⟩
    rw [HT.out]
    refine congrArg (Value.int .i64) ?_
    omega
   ·have HL:Hid (broadL s (fl.take j) 0=broadL s fl 0):=Lh (by rw [List.take_of_length_le (by omega)])
    obtain ⟨c0,c1,c2,c3,c4⟩:=HBX.out.1.cells
    have f4:wr.cell? ⟨w.heap.size+1,4,none⟩=some (.slice y.b.a binds.length y.b.cap):=cH HBX.out.2 rfl
    have HMW:=Lh (HMY.out wr hb)
    rw [<- HL.out] at HR
    generalize broadL s (fl.take j) 0=nn at HR hbn
    go_wp2_with fail
    refine HMW.out.mono ?_
    rintro e w1 ⟨rfl,hb1⟩
    have HB1:=Lh (hb.trans (hb1.mono hb.size))
    have htl:=timesF_le nn my
    clear hb1 HL
    go_wp2_with (go_at_call 103;refine (times_any nn my (by omega) (by omega) _).mono ?_;rintro e w' ⟨rfl,rfl⟩)
    go_ret
    exact ⟨ret_int (by rw [HR.out];omega),HB1.out⟩
end Go.Proofs.YtjjkfgjnadaheaaGreatDoor
/- eval: may. -/
namespace Go.Proofs.YtjjkfgjnadaheaaGreatDoor
open Go.RowKit Go.Chalk
theorem may1_any (ev:Ev) (s:Schl) (x:SchA) (q:Nat) (w:World) (hI:ItoaAt) (hsm:SchSmall s) (hs:SchIn w (·<w.heap.size) s x) (hq:SchBox w q s x) :
  Calls Tryz.prog 97 #[.agg #[.string ⟨ev.name.toArray⟩,.int .i64 ev.sort,.int .i64 ev.at_],.pointer (some ⟨q,0,none⟩)] w (Answers w (evOdd s ev)):=by
 obtain ⟨name,sort,at_⟩:=ev
 have hba:Below w.heap.size w (w.alloc (.cells #[.string ⟨name.toArray⟩,.int .i64 sort,.int .i64 at_] 76)):=(Below.refl _ _).alloc (Nat.le_refl _) _
 have HB:=Lh hba.drew
 have hct:=count_any s x sort _ hI (hs.later hba.drew hba.drew.size) hsm
 obtain ⟨c0,c1,c2,c3,c4⟩:=(hq.below hba).cells
 have HQ:Hid (∀ W',Below (w.alloc (.cells #[.string ⟨name.toArray⟩,.int .i64 sort,.int .i64 at_] 76)).drew.heap.size (w.alloc (.cells #[.string ⟨name.toArray⟩,.int .i64 sort,.int .i64 at_] 76)).drew W'->W'.cell? ⟨w.heap.size,2,none⟩=some (.int .i64 at_)) :=
  Lh (fun W' hb=>by
   have h0:(w.alloc (.cells #[.string ⟨name.toArray⟩,.int .i64 sort,.int .i64 at_] 76)).drew.heap[w.heap.size]?=some (.cells #[.string ⟨name.toArray⟩,.int .i64 sort,.int .i64 at_] 76 (0,0)):=heap_alloc_new' w _
   exact cH ((hb.block w.heap.size (gS h0).1).trans h0) rfl)
 have hcl:=count_le hsm sort
 have HR:Hid (evOdd s ⟨name,sort,at_⟩=(decide (at_<0)||decide ((schCount s sort:Int)<=at_))):=Lh rfl
 clear hba hs hq hI hsm
 generalize evOdd s ⟨name,sort,at_⟩=res at HR ⊢
 generalize schCount s sort=k at hct hcl HR
 simp only [SchA.cells,SlA.val] at hct ⊢
 have HCT:=Lh hct
 clear hct
 by_cases h0:at_<0
 ·have HRR:Hid (res=true):=Lh (by rw [HR.out];simp [h0])
  clear HR HCT
  go_enter Tryz.func97,Tryz.ntmps97
  go_wp2_with fail
  go_quiet (fail)
  go_wp2_with fail
  go_ret
  exact ⟨ret_bool (by rw [HRR.out]),((Below.refl _ _).alloc (Nat.le_refl _) _).trans ⟨rfl,rfl,rfl,Nat.le_refl _,fun _ _=>rfl⟩⟩
 ·have h0':decide (at_<0)=false:=by simpa using h0
  have HRR:Hid (res=decide ((k:Int)<=at_)):=Lh (by rw [HR.out,h0',Bool.false_or])
  clear HR h0
  go_enter Tryz.func97,Tryz.ntmps97
  go_wp2_with fail
  go_region_with (go_at_call 98;refine HCT.out.mono ?_;rintro e w' ⟨rfl,hb⟩;have q2:=HQ.out _ hb;have HW:=Lh hb;clear hb)
  all_goals
   go_wp2_with fail
   go_ret
   exact ⟨ret_bool (by rw [HRR.out]),HB.out.trans (HW.out.mono HB.out.size)⟩
theorem env_odd (l:List Ev) (y:SlA) (s:Schl) (x:SchA) (q:Nat) (w:World) (hI:ItoaAt) (hsm:SchSmall s) (hs:SchIn w (·<w.heap.size) s x) (hy:SlIn w (·<w.heap.size) (l.map Ev.toD) y) (hl:l.length<=2000000) (hq:SchBox w q s x) :
  Calls Tryz.prog 100 #[.slice y.a l.length y.cap,.func (.func 97) #[] #[.pointer (some ⟨q,0,none⟩)]] w fun e w'=>e=.returned (.bool (l.any (evOdd s)))/\Below w.heap.size w w':=by
 obtain ⟨g1,_,_,g4,_⟩:=hy.flat Ev.flatT
 rw [<- any_range]
 refine containsFunc_Ev 97 #[.pointer (some ⟨q,0,none⟩)] (fun j=>(l[j]?.map (evOdd s)).getD false) l.length (fun j=>.string ⟨(l[j]?.map (·.name.toArray)).getD #[]⟩) (fun j=>.int .i64 ((l[j]?.map (·.sort)).getD 0)) (fun j=>.int .i64 ((l[j]?.map (·.at_)).getD 0)) y.a y.b y.o y.cap w g1 ?_ ?_ (fun _ _=>enters_of Tryz.func97 (by kernel_rfl) rfl _ _) hl
 ·intro j hj
  have h:=g4.three j hj rfl
  rw [List.getElem?_eq_getElem hj]
  exact h
 ·intro j hj W hW
  rw [List.getElem?_eq_getElem hj]
  exact may1_any l[j] s x q W hI hsm (hs.later hW hW.size) (hq.below hW)

theorem emay_any (s:Schl) (x:SchA) (l:List Ev) (y:SlA) (w:World) (hI:ItoaAt) (hsm:SchSmall s) (hs:SchIn w (·<w.heap.size) s x) (hy:SlIn w (·<w.heap.size) (l.map Ev.toD) y) (hl:l.length<=1500000) (hmax:∀ e∈l,e.name.length<=4000000) (hg:GG w) :
  Calls Tryz.prog 52 #[.agg (x.cells s).toArray,.slice y.a l.length y.cap] w fun e w'=>e=.returned (.bool (evMay s l))/\Below w.heap.size w w':=by
 have hba:Below w.heap.size w (w.alloc (.cells (x.cells s).toArray 28)):=(Below.refl _ _).alloc (Nat.le_refl _) _
 have hbx:SchBox (w.alloc (.cells (x.cells s).toArray 28)) w.heap.size s x:=by unfold SchBox;rw [heap_get,if_pos rfl]
 have HBN:=Lh (ebinds_any l y _ (hy.later hba hba.size) (by omega))
 have HOD:=Lh (fun (W:World) (hW:Below w.heap.size w W) (hq:SchBox W w.heap.size s x)=>env_odd l y s x w.heap.size W hI hsm (hs.later hW hW.size) (hy.later hW hW.size) (by omega) hq)
 have HTM:=Lh (fun (W:World) (hW:Below w.heap.size w W) (x0:SlA) (h:SlIn W (·<W.heap.size) ((evBinds l).map Bnd.toD) x0)=>tterm_any (evBinds l) x0 ⟨1,[],0⟩ W h (by simp [evBinds];exact hl) (fun b hb=>by
  unfold evBinds at hb
  obtain ⟨e,he,rfl⟩:=List.mem_map.1 hb
  exact hmax e he) ⟨i64_small (by decide) (by decide),by simp,i64_small (by decide) (by decide)⟩ (hg.below hW))
 have ht:typTerm (evBinds l) ⟨1,[],0⟩=if mayA (evBinds l)=false then (0,1) else (8,0):=by
  unfold typTerm
  have h1:termedF ⟨1,[],0⟩=true:=by decide
  have h2:sortF (evBinds l) ⟨1,[],0⟩=(8,0):=by unfold sortF;rw [if_pos rfl]
  rw [h1,h2]
  cases mayA (evBinds l) <;> simp
 have hbl:(evBinds l).length=l.length:=by simp [evBinds]
 have HBL:=Lh hbl
 have HT:=Lh ht
 have HR:Hid (evMay s l=(mayA (evBinds l)&&!(l.any (evOdd s)))):=Lh rfl
 have HB:=Lh (aI hba hbx)
 have hmf:∀ (fn:Fn) (first cap:Array Value) (w:World),(Instr.makeFunc fn first cap).run Tryz.prog w=.ok (.func fn first cap) w:=fun _ _ _ _=>rfl
 clear hs hy hg hba hbx hI hsm hmax ht hbl
 generalize evMay s l=res at HR ⊢
 generalize l.any (evOdd s)=od at HOD HR
 generalize mayA (evBinds l)=my at HT HR
 generalize typTerm (evBinds l) ⟨1,[],0⟩=tt at HTM HT
 simp only [SchA.cells,SlA.val] at HBN HB ⊢
 go_enter Tryz.func52,Tryz.ntmps52
 go_wp2_with fail
 refine HBN.out.mono ?_
 rintro e w1 ⟨v,rfl,hon,hb1⟩
 obtain ⟨x0,rfl,hx0⟩:=hon.sl (by rw [widths_map Bnd.flatT,List.length_map])
 have HB1:=Lh (aI (HB.out.1.trans (hb1.mono HB.out.1.size)) (HB.out.2.below hb1))
 have HTT:=Lh (HTM.out w1 HB1.out.1 x0 hx0)
 rw [List.length_map]
 rw [HBL.out] at HTT ⊢
 clear hon hx0 hb1
 simp only [SlA.val]
 go_wp2_with fail
 refine HTT.out.mono ?_
 rintro e w2 ⟨rfl,hb2⟩
 have HB2:=Lh (aI (HB1.out.1.trans (hb2.mono HB1.out.1.size)) (HB1.out.2.below hb2))
 have HOW:=Lh (HOD.out w2 HB2.out.1 HB2.out.2)
 clear hb2
 cases my
 ·obtain rfl:tt=(0,1):=HT.out
  go_wp2_with fail
  go_ret
  exact ⟨ret_bool (by rw [HR.out];rfl),HB2.out.1⟩
 ·obtain rfl:tt=(8,0):=HT.out
  go_wp2_with fail
  refine HOW.out.mono ?_
  rintro e w3 ⟨rfl,hb3⟩
  have HB3:=Lh (HB2.out.1.trans (hb3.mono HB2.out.1.size))
  clear hb3
  go_wp2_with fail
  go_ret
  exact ⟨ret_bool (by rw [HR.out];simp),HB3.out⟩
end Go.Proofs.YtjjkfgjnadaheaaGreatDoor
/- A list that grows in a box, while its elements lead into memory that is taken over round by round. -/
namespace Go.Chalk
open Go.RowKit
variable {P:Program}
def BoxOwn (W:World) (H:Nat) (t e:TypeId) (sz lo:Nat) (xs:List D) (T:Nat->Prop):Prop :=
 ∃ (v:Value) (r:Option Nat),W.heap[H]?=some (.cells #[v] t (0,0))/\T H/\(∀ k,r=some k->T k/\k ≠ H)/\(∀ k,T k->lo<=k/\k<W.heap.size)/\Chalk.Own W (fun k=>T k/\k ≠ H/\r ≠ some k) e sz v r xs
theorem BoxOwn.kept {W W':World} {H:Nat} {t e:TypeId} {sz lo:Nat} {xs:List D} {T S:Nat->Prop} (h:BoxOwn W H t e sz lo xs T) (hm:Mod S W W') (hS:∀ k,S k->¬ T k):BoxOwn W' H t e sz lo xs T:=by
 obtain ⟨v,r,h1,h2,h3,h4,h5⟩:=h
 exact ⟨v,r,heap_kept h1 hm (fun h=>hS _ h h2),h2,h3,fun k hk=>⟨(h4 k hk).1,Nat.lt_of_lt_of_le (h4 k hk).2 hm.size⟩,h5.kept hm (fun k hk hk'=>hS k hk' hk.1) (fun k hk hk'=>hS k hk' (h3 k hk).1)⟩
theorem BoxOwn.stab {N H:Nat} {t e:TypeId} {sz lo:Nat} {xs:Nat->List D}:Stab N (fun i T W=>BoxOwn W H t e sz lo (xs i) T):=fun _ _ _ _ _ h hm hS=>h.kept hm (fun k hk=>(hS k hk).2)
theorem BoxOwn.take {W:World} {H:Nat} {t e:TypeId} {sz lo:Nat} {xs:List D} {T S:Nat->Prop} (h:BoxOwn W H t e sz lo xs T) (hS:∀ k,S k->lo<=k/\k<W.heap.size/\¬ T k):BoxOwn W H t e sz lo xs (fun k=>T k∨S k):=by
 obtain ⟨v,r,h1,h2,h3,h4,h5⟩:=h
 refine ⟨v,r,h1,.inl h2,fun k hk=>⟨.inl (h3 k hk).1,(h3 k hk).2⟩,fun k hk=>?_,h5.widen (fun k hk=>⟨.inl hk.1,hk.2⟩) (fun k hk hk'=>hk'.2.2 hk) (fun k hk=>?_)⟩
 ·rcases hk with hk | hk
  ·exact h4 k hk
  ·exact ⟨(hS k hk).1,(hS k hk).2.1⟩
 ·rcases hk.1 with hk | hk
  ·exact (h4 k hk).2
  ·exact (hS k hk).2.1
theorem BoxOwn.read {W:World} {H:Nat} {t e:TypeId} {sz lo:Nat} {xs:List D} {T:Nat->Prop} (h:BoxOwn W H t e sz lo xs T) (hw:widths xs=xs.length*sz):∃ x:SlA,W.heap[H]?=some (.cells #[x.val xs.length] t (0,0))/\SlIn W T xs x:=by
 obtain ⟨v,r,h1,h2,h3,h4,h5⟩:=h
 obtain ⟨x,e,hx⟩:=DAt.sl_iff.1 (h5.read (G:=T) (fun k hk=>hk.1) (fun k hk=>(h3 k hk).1) hw)
 simp only [List.cons.injEq,and_true] at e
 exact ⟨x,by rw [h1,e],hx⟩
theorem BoxOwn.low {W:World} {H:Nat} {t e:TypeId} {sz lo:Nat} {xs:List D} {T:Nat->Prop} (h:BoxOwn W H t e sz lo xs T):∀ k,T k->lo<=k/\k<W.heap.size:=by
 obtain ⟨_,_,_,_,_,h4,_⟩:=h;exact h4
end Go.Chalk
/- The reference's Count, Many and Broad: they answer a number that is not great. -/
namespace Go.Proofs.YtjjkfgjnadaheaaGreatDoor
open Go.RowKit Go.Chalk
end Go.Proofs.YtjjkfgjnadaheaaGreatDoor
/- The reference's Size and Few of a formula: they answer. -/
namespace Go.Proofs.YtjjkfgjnadaheaaGreatDoor
open Go.RowKit Go.Chalk
def FrmBox (W:World) (b:Nat) (f:Frm) (y:FrmA):Prop:=W.heap[b]?=some (.cells (y.cells f).toArray 34 (0,0))
theorem FrmBox.below {W W':World} {b:Nat} {f:Frm} {y:FrmA} (h:FrmBox W b f y) (hb:Below W.heap.size W W'):FrmBox W' b f y:=(hb.block _ (gS h).1).trans h
theorem FrmBox.lt {W:World} {b:Nat} {f:Frm} {y:FrmA} (h:FrmBox W b f y):b<W.heap.size:=(gS h).1
theorem FrmBox.cells {W:World} {b:Nat} {f:Frm} {y:FrmA} (h:FrmBox W b f y):W.cell? ⟨b,0,none⟩=some (.int .i64 f.kind)/\W.cell? ⟨b,1,none⟩=some (.string ⟨f.name.toArray⟩)/\W.cell? ⟨b,2,none⟩=some (.int .i64 f.n)/\W.cell? ⟨b,3,none⟩=some (.slice y.t.a f.terms.length y.t.cap)/\W.cell? ⟨b,4,none⟩=some (.slice y.b.a f.binds.length y.b.cap)/\W.cell? ⟨b,5,none⟩=some (.slice y.l.a f.l.length y.l.cap) :=
 ⟨cH h rfl,cH h rfl,cH h rfl,cH h rfl,cH h rfl,cH h rfl⟩

theorem rsize_any (m:Nat):∀ (f:Frm) (y:FrmA) (w:World),f.size<=m->f.size<=2000000->FrmIn w (·<w.heap.size) f y ->
  Calls Tryz.prog 27 #[ndV (f,y)] w fun e w'=>∃ n:Int,e=.returned (.int .i64 n)/\Below w.heap.size w w':=by
 induction m with
 | zero=>intro f _ _ h;have:=f.size_pos;omega
 | succ m ih =>
  rintro ⟨kind,name,n,terms,binds,fl⟩ y w hm hsz hy
  rw [Frm.size] at hm hsz
  have hll:=length_le_fsizes fl
  have hba:Below w.heap.size w (w.alloc (.cells (y.cells (.mk kind name n terms binds fl)).toArray 34)):=(Below.refl _ _).alloc (Nat.le_refl _) _
  have hby:FrmBox (w.alloc (.cells (y.cells (.mk kind name n terms binds fl)).toArray 34)) w.heap.size (.mk kind name n terms binds fl) y:=by unfold FrmBox;rw [heap_get,if_pos rfl]
  have HFI:Hid (∀ (j:Nat) (hj:j<fl.length),∃ y1:FrmA,FrmIn w (·<w.heap.size) fl[j] y1/\CellsAt w y.l.b (y.l.o+j*6) (y1.cells fl[j])):=Lh (fun j hj=>hy.l.frm j hj)
  have HFS:Hid (SlAt (·<w.heap.size) y.l.a y.l.b y.l.o fl.length):=Lh (by have:=hy.l.at_;rw [List.length_map] at this;exact this)
  have HIH:=Lh (fun (j:Nat) (hj:j<fl.length) (y1:FrmA) (W:World) (hW:Below w.heap.size w W) (h1:FrmIn w (·<w.heap.size) fl[j] y1)=>ih fl[j] y1 W (by have:=size_le_fsizes fl j hj;omega) (by have:=size_le_fsizes fl j hj;omega) (h1.later hW hW.size))
  have HB:=Lh (aI hba hby)
  clear ih hy hba hby
  simp only [ndV,FrmA.cells,SlA.val,Frm.kind,Frm.name,Frm.n,Frm.terms,Frm.binds,Frm.l] at HB ⊢
  go_enter Tryz.func27,Tryz.ntmps27
  go_wp2_with fail
  go_loopw [3,4] (fun nn i wr=>∃ (j:Nat) (q:Int),j<=fl.length/\i=.int .i64 j/\nn=.int .i64 q/\Below w.heap.size w wr/\Hid (FrmBox wr w.heap.size (.mk kind name n terms binds fl) y)) (fun _ i _=>fl.length - (intOf i).toNat)
  case atStart=>exact ⟨0,1,Nat.zero_le _,rfl,rfl,HB.out.1,Lh HB.out.2⟩
  case round =>
   obtain ⟨j,q,hj,rfl,rfl,hb,HBX⟩:=hrel
   have HB0:=Lh hb
   obtain ⟨_,_,_,_,_,b5⟩:=HBX.out.cells
   simp only [Frm.l] at b5
   by_cases hlt:j<fl.length
   ·obtain ⟨y1,hy1,hy2⟩:=HFI.out j hlt
    obtain ⟨hxa,hFb⟩:=HFS.out (by omega)
    have HCL:=Lh (HIH.out j hlt y1 wr hb hy1)
    obtain ⟨e0,e1,e2,e3,e4,e5⟩:=(hy2.agree (agree_of_below hb) hFb).six
    rw [hxa] at b5
    clear hy1 hy2 hFb hxa hb
    generalize fl[j]=fe at HCL e0 e1 e2 e3 e4 e5
    obtain ⟨kind1,name1,n1,terms1,binds1,fl1⟩:=fe
    simp only [ndV,FrmA.cells,SlA.val,Frm.kind,Frm.name,Frm.n,Frm.terms,Frm.binds,Frm.l] at HCL e0 e1 e2 e3 e4 e5
    go_wp2_with fail
    refine HCL.out.mono ?_
    rintro e w1 ⟨q1,rfl,hb1⟩
    have HC1:=Lh (aI (HB0.out.trans (hb1.mono HB0.out.size)) (HBX.out.below hb1))
    clear hb1 e0 e1 e2 e3 e4 e5 b5
    go_wp2_with fail
    exact ⟨⟨j+1,_,by omega,by go_num,rfl,HC1.out.1,Lh HC1.out.2⟩,by simp [intOf];omega⟩
   ·clear hb
    go_wp2_with fail
    go_ret
    exact ⟨q,rfl,HB0.out⟩

end Go.Proofs.YtjjkfgjnadaheaaGreatDoor
/- week: At, In. (written by tools/gen_gwk.py) -/
namespace Go.Proofs.YtjjkfgjnadaheaaGreatDoor
open Go.RowKit Go.Chalk
attribute [local go_sem] Oper.semAt_some
theorem mul_fit (a b:Nat) (ha:a<=2000000) (hb:b<=2000000) (i:Int) (h1:0<=i) (h2:i<=a):0<=i*(b:Int)/\i*(b:Int)<=4000000000000:=⟨Int.mul_nonneg h1 (by omega),by
 have h5:i*(b:Int)<=2000000*2000000:=Int.mul_le_mul (by omega) (by omega) (by omega) (by omega)
 omega⟩

theorem wat_any (s:Schl) (x:SchA) (i j:Int) (w:World) (hs1:s.lessons.length<=2000000) (hs2:s.slots.length<=2000000) (hs3:s.rooms.length<=2000000) :
  Calls Tryz.prog 44 #[.agg (x.cells s).toArray,.int .i64 i,.int .i64 j] w fun e w'=>e=.returned (.int .i64 (wkAt s i j))/\Below w.heap.size w w':=by
 have HWI:=Lh (fun n k W=>wwithin_any n k W)
 simp only [SchA.cells,SlA.val]
 unfold wkAt
 by_cases hi:0<=i/\i<(s.lessons.length:Int)
 ·have hi':(decide (0<=i)&&decide (i<(s.lessons.length:Int)))=true:=by simpa using hi
  by_cases hj:0<=j/\j<(s.slots.length:Int)
  ·have hj':(decide (0<=j)&&decide (j<(s.slots.length:Int)))=true:=by simpa using hj
   rw [if_pos ⟨hi,hj⟩]
   have hmu:=mul_fit _ _ hs1 hs2 i hi.1 (by omega)
   have hmv:=mul_fit _ _ hs1 hs2 s.lessons.length (by omega) (by omega)
   have hm0:=hmu.1
   have hm1:=hmu.2
   have hv0:=hmv.1
   have hv1:=hmv.2
   have hj0:=hj.1
   have hj1:=hj.2
   clear hi hj hmu hmv
   generalize hml:i*(s.slots.length:Int)=ml at hm0 hm1 ⊢
   clear hv0 hv1
   go_enter Tryz.func44,Tryz.ntmps44
   go_wp2_with (first | (go_at_call 93;refine (HWI.out _ _ _).mono ?_;rintro e w' ⟨rfl,rfl⟩;rw [hi']) | (go_at_call 93;refine (HWI.out _ _ _).mono ?_;rintro e w' ⟨rfl,rfl⟩;rw [hj']) | fail)
   go_ret
   exact ⟨rfl,(Below.refl _ _).alloc (Nat.le_refl _) _⟩
  ·have hj':(decide (0<=j)&&decide (j<(s.slots.length:Int)))=false:=by
    rw [Bool.eq_false_iff];intro h;simp at h;exact hj h
   rw [if_neg (fun h=>hj h.2)]
   clear hi hj
   go_enter Tryz.func44,Tryz.ntmps44
   go_wp2_with (first | (go_at_call 93;refine (HWI.out _ _ _).mono ?_;rintro e w' ⟨rfl,rfl⟩;rw [hi']) | (go_at_call 93;refine (HWI.out _ _ _).mono ?_;rintro e w' ⟨rfl,rfl⟩;rw [hj']) | fail)
   go_ret
   exact ⟨rfl,(Below.refl _ _).alloc (Nat.le_refl _) _⟩
 ·have hi':(decide (0<=i)&&decide (i<(s.lessons.length:Int)))=false:=by
   rw [Bool.eq_false_iff];intro h;simp at h;exact hi h
  rw [if_neg (fun h=>hi h.1)]
  have hj':True:=trivial
  clear hi
  go_enter Tryz.func44,Tryz.ntmps44
  go_wp2_with (first | (go_at_call 93;refine (HWI.out _ _ _).mono ?_;rintro e w' ⟨rfl,rfl⟩;rw [hi']) | fail)
  go_ret
  exact ⟨rfl,(Below.refl _ _).alloc (Nat.le_refl _) _⟩

theorem win_any (s:Schl) (x:SchA) (i j:Int) (w:World) (hs1:s.lessons.length<=2000000) (hs2:s.slots.length<=2000000) (hs3:s.rooms.length<=2000000) :
  Calls Tryz.prog 46 #[.agg (x.cells s).toArray,.int .i64 i,.int .i64 j] w fun e w'=>e=.returned (.int .i64 (wkIn s i j))/\Below w.heap.size w w':=by
 have HWI:=Lh (fun n k W=>wwithin_any n k W)
 simp only [SchA.cells,SlA.val]
 unfold wkIn
 by_cases hi:0<=i/\i<(s.lessons.length:Int)
 ·have hi':(decide (0<=i)&&decide (i<(s.lessons.length:Int)))=true:=by simpa using hi
  by_cases hj:0<=j/\j<(s.rooms.length:Int)
  ·have hj':(decide (0<=j)&&decide (j<(s.rooms.length:Int)))=true:=by simpa using hj
   rw [if_pos ⟨hi,hj⟩]
   have hmu:=mul_fit _ _ hs1 hs3 i hi.1 (by omega)
   have hmv:=mul_fit _ _ hs1 hs2 s.lessons.length (by omega) (by omega)
   have hm0:=hmu.1
   have hm1:=hmu.2
   have hv0:=hmv.1
   have hv1:=hmv.2
   have hj0:=hj.1
   have hj1:=hj.2
   clear hi hj hmu hmv
   generalize hml:i*(s.rooms.length:Int)=ml at hm0 hm1 ⊢
   generalize hmv:(s.lessons.length:Int)*(s.slots.length:Int)=mv at hv0 hv1 ⊢
   go_enter Tryz.func46,Tryz.ntmps46
   go_wp2_with (first | (go_at_call 93;refine (HWI.out _ _ _).mono ?_;rintro e w' ⟨rfl,rfl⟩;rw [hi']) | (go_at_call 93;refine (HWI.out _ _ _).mono ?_;rintro e w' ⟨rfl,rfl⟩;rw [hj']) | fail)
   go_ret
   exact ⟨rfl,(Below.refl _ _).alloc (Nat.le_refl _) _⟩
  ·have hj':(decide (0<=j)&&decide (j<(s.rooms.length:Int)))=false:=by
    rw [Bool.eq_false_iff];intro h;simp at h;exact hj h
   rw [if_neg (fun h=>hj h.2)]
   clear hi hj
   go_enter Tryz.func46,Tryz.ntmps46
   go_wp2_with (first | (go_at_call 93;refine (HWI.out _ _ _).mono ?_;rintro e w' ⟨rfl,rfl⟩;rw [hi']) | (go_at_call 93;refine (HWI.out _ _ _).mono ?_;rintro e w' ⟨rfl,rfl⟩;rw [hj']) | fail)
   go_ret
   exact ⟨rfl,(Below.refl _ _).alloc (Nat.le_refl _) _⟩
 ·have hi':(decide (0<=i)&&decide (i<(s.lessons.length:Int)))=false:=by
   rw [Bool.eq_false_iff];intro h;simp at h;exact hi h
  rw [if_neg (fun h=>hi h.1)]
  have hj':True:=trivial
  clear hi
  go_enter Tryz.func46,Tryz.ntmps46
  go_wp2_with (first | (go_at_call 93;refine (HWI.out _ _ _).mono ?_;rintro e w' ⟨rfl,rfl⟩;rw [hi']) | fail)
  go_ret
  exact ⟨rfl,(Below.refl _ _).alloc (Nat.le_refl _) _⟩
end Go.Proofs.YtjjkfgjnadaheaaGreatDoor
