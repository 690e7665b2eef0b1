/- Joined texts: RefN, RfA, RfB, RfC, RfD, RfE, RfF. -/
import Derived.Test.YtjjkfgjnadaheaaGreatDoorB28
import Derived.Test.YtjjkfgjnadaheaaGreatDoorB27
import Derived.Test.YtjjkfgjnadaheaaGreatDoorB06
import Derived.Lib.IndexMore
import Derived.Laws.Concat
import Derived.Deep.QuietTactic
import Derived.BigQuiet
import Derived.Deep.RegionHeld3
set_option maxHeartbeats 8000000
set_option maxRecDepth 100000
set_option linter.unusedVariables false
set_option linter.unusedSimpArgs false
/- The reference's Names and Count. -/
namespace Go.Proofs.YtjjkfgjnadaheaaGreatDoor
open Go.RowKit Go.Chalk
def strD (n:Bs):D:=.str ⟨n.toArray⟩
theorem strD_flat:FlatT strD 1:=⟨fun _=>rfl,fun _=>rfl⟩
theorem infoStr0:(Tryz.prog.info? 9).map (fun i=>(i.zero,i.size,i.bytes))=some (some (.string ByteArray.empty),1,16):=by kernel_rfl
theorem str_take {ns:List Bs} {j:Nat} (hj:j<ns.length):(ns.take (j+1)).map strD=(ns.take j).map strD++[strD ns[j]]:=by rw [List.take_succ_eq_append_getElem hj,List.map_append];rfl
theorem rnames_none (s:Schl) (x:SchA) (sort:Int) (w:World) (h:¬ (1<=sort/\sort<=7)) :
  Calls Tryz.prog 165 #[.agg (x.cells s).toArray,.int .i64 sort] w fun e w'=>∃ x0:SlA,e=.returned (.slice x0.a 0 x0.cap)/\SlIn w' (·<w'.heap.size) [] x0/\Below w.heap.size w w':=by
 have k1:(sort==1)=false:=by simp;omega
 have k2:(sort==2)=false:=by simp;omega
 have k3:(sort==3)=false:=by simp;omega
 have k4:(sort==4)=false:=by simp;omega
 have k5:(sort==5)=false:=by simp;omega
 have k6:(sort==6)=false:=by simp;omega
 have k7:(sort==7)=false:=by simp;omega
 clear h
 simp only [SchA.cells,SlA.val]
 go_enter Tryz.func165,Tryz.ntmps165
 go_wp2_with fail
 go_ret
 exact ⟨⟨none,0,0,0⟩,rfl,SlIn.nil (Nat.zero_le _) _ _ _,(Below.refl _ _).alloc (Nat.le_refl _) _⟩

theorem rnames_1 (s:Schl) (x:SchA) (w:World) (hs:SlIn w (·<w.heap.size) (s.lessons.map Lsn.toD) x.lessons) (hl:s.lessons.length<=2000000) (hN:∀ (j:Nat) (hj:j<s.lessons.length),w.cell? ⟨x.lessons.b,x.lessons.o+j*3,none⟩=some (.string ⟨s.lessons[j].name.toArray⟩)/\s.lessons[j].name.length<=maxLen) :
  Calls Tryz.prog 165 #[.agg (x.cells s).toArray,.int .i64 1] w fun e w'=>∃ x0:SlA,e=.returned (.slice x0.a (s.lessons.map Lsn.name).length x0.cap)/\SlIn w' (·<w'.heap.size) ((s.lessons.map Lsn.name).map strD) x0/\Below w.heap.size w w':=by
 have HSL:=Lh hs.at_
 have HN:=Lh hN
 have hbx:SchBox (w.alloc (.cells (x.cells s).toArray 28)) w.heap.size s x:=by unfold SchBox;rw [heap_get,if_pos rfl]
 have HBX:=Lh hbx
 obtain ⟨i0,hi,hz0,hz1,hz2⟩:=info_parts infoStr0
 obtain ⟨ns,hns⟩:∃ ns,ns=s.lessons.map Lsn.name:=⟨_,rfl⟩
 have hln:ns.length=s.lessons.length:=by rw [hns,List.length_map]
 have HNS:=Lh (aI hns (aI hln hl))
 rw [<- hns]
 clear hs hN hbx hns hln hl
 simp only [SchA.cells,SlA.val] at HBX ⊢
 go_enter Tryz.func165,Tryz.ntmps165
 go_wp2_with fail
 go_loopw [5,6] (fun v i wr=>∃ j:Nat,j<=s.lessons.length/\i=.int .i64 j/\Below w.heap.size w wr/\Hid (SchBox wr w.heap.size s x)/\Hid (OwnN wr (w.heap.size+1) (fun _=>False) 9 1 v ((ns.take j).map strD))) (fun _ i _=>s.lessons.length - (intOf i).toNat)
 case atStart=>exact ⟨0,Nat.zero_le _,rfl,(Below.refl _ _).alloc (Nat.le_refl _) _,HBX,Lh (OwnN.nil _ _ _ _ _ (fun _ h=>h.elim))⟩
 case round =>
  obtain ⟨j,hj,rfl,hb,HBX,HO⟩:=hrel
  obtain ⟨c0,c1,c2,c3,c4⟩:=HBX.out.cells
  obtain ⟨oa,ocap,ho⟩:=HO.out.form
  subst ho
  have hlen:((ns.take j).map strD).length=j:=by rw [List.length_map,List.length_take];have:=HNS.out.2.1;omega
  rw [hlen] at HO ⊢
  have HLN:=Lh hlen
  clear hlen
  by_cases hlt:j<s.lessons.length
  ·obtain ⟨hxa,hbl⟩:=HSL.out (by rw [List.length_map];omega)
   obtain ⟨q0,q1⟩:=HN.out j hlt
   have e0:=(hb.cell (p:=⟨x.lessons.b,x.lessons.o+j*3,none⟩) hbl).trans q0
   have hjn:j<ns.length:=by have:=HNS.out.2.1;omega
   have hnj:ns[j]=s.lessons[j].name:=by have h:=HNS.out.1;subst h;simp
   have HT:=Lh (str_take hjn)
   rw [hnj] at HT
   have HF:=Lh (DsAt.flat1 (w:=wr) (F:=fun _=>False) (x:=strD s.lessons[j].name) rfl (by show (⟨(s.lessons[j].name).toArray⟩:ByteArray).size<=maxLen;rw [bs_size];exact q1))
   have HB1:=Lh hb
   have hlm:=HNS.out.2.2
   rw [hxa] at c4
   clear q0 q1 hjn hnj hxa
   generalize s.lessons[j].name=nm at HT HF e0
   go_wp2_with (at_builtin;go_must (refine wpList_append_oneO rfl rfl _ _ 227 rfl 9 i0 _ 1 16 Tryz.underlying227 hi hz0 hz1 hz2 rfl (by decide) (.slice oa j ocap) ((ns.take j).map strD) (strD nm) [.string ⟨nm.toArray⟩] 9 rfl rfl HO.out HF.out (by have:=HBX.out.lt;omega) rfl (by rw [HLN.out];unfold maxLen;omega) (by rw [HLN.out];omega) ?_);intro ao cap w5 hon hb5;rw [HLN.out] at hon ⊢;have HON:=Lh (aI hon (aI (HB1.out.trans (hb5.mono (by omega))) (show SchBox w5 w.heap.size s x from (hb5.block _ (by omega)).trans HBX.out)));clear hon hb5)
   refine ⟨⟨j+1,by omega,by go_num,HON.out.2.1,Lh HON.out.2.2,Lh ?_⟩,by simp [intOf];omega⟩
   rw [HT.out];exact HON.out.1
  ·have HL:Hid (ns.take j=ns/\j=ns.length):=Lh ⟨List.take_of_length_le (by have:=HNS.out.2.1;omega),by have:=HNS.out.2.1;omega⟩
   have HB1:=Lh hb
   go_wp2_with fail
   go_ret
   have h:=HO.out
   rw [HL.out.1] at h
   obtain ⟨x0,h0,h1⟩:=h.onto.sl (by rw [widths_map strD_flat,List.length_map])
   rw [List.length_map,<- HL.out.2] at h0
   refine ⟨x0,?_,h1,HB1.out⟩
   show Ending.returned (.slice oa j ocap)=_
   rw [h0,SlA.val,<- HL.out.2]

theorem rnames_2 (s:Schl) (x:SchA) (w:World) (hs:SlIn w (·<w.heap.size) (s.slots.map Slt.toD) x.slots) (hl:s.slots.length<=2000000) (hN:∀ (j:Nat) (hj:j<s.slots.length),w.cell? ⟨x.slots.b,x.slots.o+j*3,none⟩=some (.string ⟨s.slots[j].name.toArray⟩)/\s.slots[j].name.length<=maxLen) :
  Calls Tryz.prog 165 #[.agg (x.cells s).toArray,.int .i64 2] w fun e w'=>∃ x0:SlA,e=.returned (.slice x0.a (s.slots.map Slt.name).length x0.cap)/\SlIn w' (·<w'.heap.size) ((s.slots.map Slt.name).map strD) x0/\Below w.heap.size w w':=by
 have HSL:=Lh hs.at_
 have HN:=Lh hN
 have hbx:SchBox (w.alloc (.cells (x.cells s).toArray 28)) w.heap.size s x:=by unfold SchBox;rw [heap_get,if_pos rfl]
 have HBX:=Lh hbx
 obtain ⟨i0,hi,hz0,hz1,hz2⟩:=info_parts infoStr0
 obtain ⟨ns,hns⟩:∃ ns,ns=s.slots.map Slt.name:=⟨_,rfl⟩
 have hln:ns.length=s.slots.length:=by rw [hns,List.length_map]
 have HNS:=Lh (aI hns (aI hln hl))
 rw [<- hns]
 clear hs hN hbx hns hln hl
 simp only [SchA.cells,SlA.val] at HBX ⊢
 go_enter Tryz.func165,Tryz.ntmps165
 go_wp2_with fail
 go_loopw [5,7] (fun v i wr=>∃ j:Nat,j<=s.slots.length/\i=.int .i64 j/\Below w.heap.size w wr/\Hid (SchBox wr w.heap.size s x)/\Hid (OwnN wr (w.heap.size+1) (fun _=>False) 9 1 v ((ns.take j).map strD))) (fun _ i _=>s.slots.length - (intOf i).toNat)
 case atStart=>exact ⟨0,Nat.zero_le _,rfl,(Below.refl _ _).alloc (Nat.le_refl _) _,HBX,Lh (OwnN.nil _ _ _ _ _ (fun _ h=>h.elim))⟩
 case round =>
  obtain ⟨j,hj,rfl,hb,HBX,HO⟩:=hrel
  obtain ⟨c0,c1,c2,c3,c4⟩:=HBX.out.cells
  obtain ⟨oa,ocap,ho⟩:=HO.out.form
  subst ho
  have hlen:((ns.take j).map strD).length=j:=by rw [List.length_map,List.length_take];have:=HNS.out.2.1;omega
  rw [hlen] at HO ⊢
  have HLN:=Lh hlen
  clear hlen
  by_cases hlt:j<s.slots.length
  ·obtain ⟨hxa,hbl⟩:=HSL.out (by rw [List.length_map];omega)
   obtain ⟨q0,q1⟩:=HN.out j hlt
   have e0:=(hb.cell (p:=⟨x.slots.b,x.slots.o+j*3,none⟩) hbl).trans q0
   have hjn:j<ns.length:=by have:=HNS.out.2.1;omega
   have hnj:ns[j]=s.slots[j].name:=by have h:=HNS.out.1;subst h;simp
   have HT:=Lh (str_take hjn)
   rw [hnj] at HT
   have HF:=Lh (DsAt.flat1 (w:=wr) (F:=fun _=>False) (x:=strD s.slots[j].name) rfl (by show (⟨(s.slots[j].name).toArray⟩:ByteArray).size<=maxLen;rw [bs_size];exact q1))
   have HB1:=Lh hb
   have hlm:=HNS.out.2.2
   rw [hxa] at c0
   clear q0 q1 hjn hnj hxa
   generalize s.slots[j].name=nm at HT HF e0
   go_wp2_with (at_builtin;go_must (refine wpList_append_oneO rfl rfl _ _ 227 rfl 9 i0 _ 1 16 Tryz.underlying227 hi hz0 hz1 hz2 rfl (by decide) (.slice oa j ocap) ((ns.take j).map strD) (strD nm) [.string ⟨nm.toArray⟩] 9 rfl rfl HO.out HF.out (by have:=HBX.out.lt;omega) rfl (by rw [HLN.out];unfold maxLen;omega) (by rw [HLN.out];omega) ?_);intro ao cap w5 hon hb5;rw [HLN.out] at hon ⊢;have HON:=Lh (aI hon (aI (HB1.out.trans (hb5.mono (by omega))) (show SchBox w5 w.heap.size s x from (hb5.block _ (by omega)).trans HBX.out)));clear hon hb5)
   refine ⟨⟨j+1,by omega,by go_num,HON.out.2.1,Lh HON.out.2.2,Lh ?_⟩,by simp [intOf];omega⟩
   rw [HT.out];exact HON.out.1
  ·have HL:Hid (ns.take j=ns/\j=ns.length):=Lh ⟨List.take_of_length_le (by have:=HNS.out.2.1;omega),by have:=HNS.out.2.1;omega⟩
   have HB1:=Lh hb
   go_wp2_with fail
   go_ret
   have h:=HO.out
   rw [HL.out.1] at h
   obtain ⟨x0,h0,h1⟩:=h.onto.sl (by rw [widths_map strD_flat,List.length_map])
   rw [List.length_map,<- HL.out.2] at h0
   refine ⟨x0,?_,h1,HB1.out⟩
   show Ending.returned (.slice oa j ocap)=_
   rw [h0,SlA.val,<- HL.out.2]

theorem rnames_3 (s:Schl) (x:SchA) (w:World) (hs:SlIn w (·<w.heap.size) (s.rooms.map Rom.toD) x.rooms) (hl:s.rooms.length<=2000000) (hN:∀ (j:Nat) (hj:j<s.rooms.length),w.cell? ⟨x.rooms.b,x.rooms.o+j*4,none⟩=some (.string ⟨s.rooms[j].name.toArray⟩)/\s.rooms[j].name.length<=maxLen) :
  Calls Tryz.prog 165 #[.agg (x.cells s).toArray,.int .i64 3] w fun e w'=>∃ x0:SlA,e=.returned (.slice x0.a (s.rooms.map Rom.name).length x0.cap)/\SlIn w' (·<w'.heap.size) ((s.rooms.map Rom.name).map strD) x0/\Below w.heap.size w w':=by
 have HSL:=Lh hs.at_
 have HN:=Lh hN
 have hbx:SchBox (w.alloc (.cells (x.cells s).toArray 28)) w.heap.size s x:=by unfold SchBox;rw [heap_get,if_pos rfl]
 have HBX:=Lh hbx
 obtain ⟨i0,hi,hz0,hz1,hz2⟩:=info_parts infoStr0
 obtain ⟨ns,hns⟩:∃ ns,ns=s.rooms.map Rom.name:=⟨_,rfl⟩
 have hln:ns.length=s.rooms.length:=by rw [hns,List.length_map]
 have HNS:=Lh (aI hns (aI hln hl))
 rw [<- hns]
 clear hs hN hbx hns hln hl
 simp only [SchA.cells,SlA.val] at HBX ⊢
 go_enter Tryz.func165,Tryz.ntmps165
 go_wp2_with fail
 go_loopw [5,8] (fun v i wr=>∃ j:Nat,j<=s.rooms.length/\i=.int .i64 j/\Below w.heap.size w wr/\Hid (SchBox wr w.heap.size s x)/\Hid (OwnN wr (w.heap.size+1) (fun _=>False) 9 1 v ((ns.take j).map strD))) (fun _ i _=>s.rooms.length - (intOf i).toNat)
 case atStart=>exact ⟨0,Nat.zero_le _,rfl,(Below.refl _ _).alloc (Nat.le_refl _) _,HBX,Lh (OwnN.nil _ _ _ _ _ (fun _ h=>h.elim))⟩
 case round =>
  obtain ⟨j,hj,rfl,hb,HBX,HO⟩:=hrel
  obtain ⟨c0,c1,c2,c3,c4⟩:=HBX.out.cells
  obtain ⟨oa,ocap,ho⟩:=HO.out.form
  subst ho
  have hlen:((ns.take j).map strD).length=j:=by rw [List.length_map,List.length_take];have:=HNS.out.2.1;omega
  rw [hlen] at HO ⊢
  have HLN:=Lh hlen
  clear hlen
  by_cases hlt:j<s.rooms.length
  ·obtain ⟨hxa,hbl⟩:=HSL.out (by rw [List.length_map];omega)
   obtain ⟨q0,q1⟩:=HN.out j hlt
   have e0:=(hb.cell (p:=⟨x.rooms.b,x.rooms.o+j*4,none⟩) hbl).trans q0
   have hjn:j<ns.length:=by have:=HNS.out.2.1;omega
   have hnj:ns[j]=s.rooms[j].name:=by have h:=HNS.out.1;subst h;simp
   have HT:=Lh (str_take hjn)
   rw [hnj] at HT
   have HF:=Lh (DsAt.flat1 (w:=wr) (F:=fun _=>False) (x:=strD s.rooms[j].name) rfl (by show (⟨(s.rooms[j].name).toArray⟩:ByteArray).size<=maxLen;rw [bs_size];exact q1))
   have HB1:=Lh hb
   have hlm:=HNS.out.2.2
   rw [hxa] at c1
   clear q0 q1 hjn hnj hxa
   generalize s.rooms[j].name=nm at HT HF e0
   go_wp2_with (at_builtin;go_must (refine wpList_append_oneO rfl rfl _ _ 227 rfl 9 i0 _ 1 16 Tryz.underlying227 hi hz0 hz1 hz2 rfl (by decide) (.slice oa j ocap) ((ns.take j).map strD) (strD nm) [.string ⟨nm.toArray⟩] 9 rfl rfl HO.out HF.out (by have:=HBX.out.lt;omega) rfl (by rw [HLN.out];unfold maxLen;omega) (by rw [HLN.out];omega) ?_);intro ao cap w5 hon hb5;rw [HLN.out] at hon ⊢;have HON:=Lh (aI hon (aI (HB1.out.trans (hb5.mono (by omega))) (show SchBox w5 w.heap.size s x from (hb5.block _ (by omega)).trans HBX.out)));clear hon hb5)
   refine ⟨⟨j+1,by omega,by go_num,HON.out.2.1,Lh HON.out.2.2,Lh ?_⟩,by simp [intOf];omega⟩
   rw [HT.out];exact HON.out.1
  ·have HL:Hid (ns.take j=ns/\j=ns.length):=Lh ⟨List.take_of_length_le (by have:=HNS.out.2.1;omega),by have:=HNS.out.2.1;omega⟩
   have HB1:=Lh hb
   go_wp2_with fail
   go_ret
   have h:=HO.out
   rw [HL.out.1] at h
   obtain ⟨x0,h0,h1⟩:=h.onto.sl (by rw [widths_map strD_flat,List.length_map])
   rw [List.length_map,<- HL.out.2] at h0
   refine ⟨x0,?_,h1,HB1.out⟩
   show Ending.returned (.slice oa j ocap)=_
   rw [h0,SlA.val,<- HL.out.2]

theorem rnames_4 (s:Schl) (x:SchA) (w:World) (hs:SlIn w (·<w.heap.size) (s.people.map Psn.toD) x.people) (hl:s.people.length<=2000000) (hN:∀ (j:Nat) (hj:j<s.people.length),w.cell? ⟨x.people.b,x.people.o+j*2,none⟩=some (.string ⟨s.people[j].name.toArray⟩)/\s.people[j].name.length<=maxLen) :
  Calls Tryz.prog 165 #[.agg (x.cells s).toArray,.int .i64 4] w fun e w'=>∃ x0:SlA,e=.returned (.slice x0.a (s.people.map Psn.name).length x0.cap)/\SlIn w' (·<w'.heap.size) ((s.people.map Psn.name).map strD) x0/\Below w.heap.size w w':=by
 have HSL:=Lh hs.at_
 have HN:=Lh hN
 have hbx:SchBox (w.alloc (.cells (x.cells s).toArray 28)) w.heap.size s x:=by unfold SchBox;rw [heap_get,if_pos rfl]
 have HBX:=Lh hbx
 obtain ⟨i0,hi,hz0,hz1,hz2⟩:=info_parts infoStr0
 obtain ⟨ns,hns⟩:∃ ns,ns=s.people.map Psn.name:=⟨_,rfl⟩
 have hln:ns.length=s.people.length:=by rw [hns,List.length_map]
 have HNS:=Lh (aI hns (aI hln hl))
 rw [<- hns]
 clear hs hN hbx hns hln hl
 simp only [SchA.cells,SlA.val] at HBX ⊢
 go_enter Tryz.func165,Tryz.ntmps165
 go_wp2_with fail
 go_loopw [5,9] (fun v i wr=>∃ j:Nat,j<=s.people.length/\i=.int .i64 j/\Below w.heap.size w wr/\Hid (SchBox wr w.heap.size s x)/\Hid (OwnN wr (w.heap.size+1) (fun _=>False) 9 1 v ((ns.take j).map strD))) (fun _ i _=>s.people.length - (intOf i).toNat)
 case atStart=>exact ⟨0,Nat.zero_le _,rfl,(Below.refl _ _).alloc (Nat.le_refl _) _,HBX,Lh (OwnN.nil _ _ _ _ _ (fun _ h=>h.elim))⟩
 case round =>
  obtain ⟨j,hj,rfl,hb,HBX,HO⟩:=hrel
  obtain ⟨c0,c1,c2,c3,c4⟩:=HBX.out.cells
  obtain ⟨oa,ocap,ho⟩:=HO.out.form
  subst ho
  have hlen:((ns.take j).map strD).length=j:=by rw [List.length_map,List.length_take];have:=HNS.out.2.1;omega
  rw [hlen] at HO ⊢
  have HLN:=Lh hlen
  clear hlen
  by_cases hlt:j<s.people.length
  ·obtain ⟨hxa,hbl⟩:=HSL.out (by rw [List.length_map];omega)
   obtain ⟨q0,q1⟩:=HN.out j hlt
   have e0:=(hb.cell (p:=⟨x.people.b,x.people.o+j*2,none⟩) hbl).trans q0
   have hjn:j<ns.length:=by have:=HNS.out.2.1;omega
   have hnj:ns[j]=s.people[j].name:=by have h:=HNS.out.1;subst h;simp
   have HT:=Lh (str_take hjn)
   rw [hnj] at HT
   have HF:=Lh (DsAt.flat1 (w:=wr) (F:=fun _=>False) (x:=strD s.people[j].name) rfl (by show (⟨(s.people[j].name).toArray⟩:ByteArray).size<=maxLen;rw [bs_size];exact q1))
   have HB1:=Lh hb
   have hlm:=HNS.out.2.2
   rw [hxa] at c2
   clear q0 q1 hjn hnj hxa
   generalize s.people[j].name=nm at HT HF e0
   go_wp2_with (at_builtin;go_must (refine wpList_append_oneO rfl rfl _ _ 227 rfl 9 i0 _ 1 16 Tryz.underlying227 hi hz0 hz1 hz2 rfl (by decide) (.slice oa j ocap) ((ns.take j).map strD) (strD nm) [.string ⟨nm.toArray⟩] 9 rfl rfl HO.out HF.out (by have:=HBX.out.lt;omega) rfl (by rw [HLN.out];unfold maxLen;omega) (by rw [HLN.out];omega) ?_);intro ao cap w5 hon hb5;rw [HLN.out] at hon ⊢;have HON:=Lh (aI hon (aI (HB1.out.trans (hb5.mono (by omega))) (show SchBox w5 w.heap.size s x from (hb5.block _ (by omega)).trans HBX.out)));clear hon hb5)
   refine ⟨⟨j+1,by omega,by go_num,HON.out.2.1,Lh HON.out.2.2,Lh ?_⟩,by simp [intOf];omega⟩
   rw [HT.out];exact HON.out.1
  ·have HL:Hid (ns.take j=ns/\j=ns.length):=Lh ⟨List.take_of_length_le (by have:=HNS.out.2.1;omega),by have:=HNS.out.2.1;omega⟩
   have HB1:=Lh hb
   go_wp2_with fail
   go_ret
   have h:=HO.out
   rw [HL.out.1] at h
   obtain ⟨x0,h0,h1⟩:=h.onto.sl (by rw [widths_map strD_flat,List.length_map])
   rw [List.length_map,<- HL.out.2] at h0
   refine ⟨x0,?_,h1,HB1.out⟩
   show Ending.returned (.slice oa j ocap)=_
   rw [h0,SlA.val,<- HL.out.2]

theorem rnames_5 (s:Schl) (x:SchA) (w:World) (hs:SlIn w (·<w.heap.size) (s.groups.map Grp.toD) x.groups) (hl:s.groups.length<=2000000) (hN:∀ (j:Nat) (hj:j<s.groups.length),w.cell? ⟨x.groups.b,x.groups.o+j*2,none⟩=some (.string ⟨s.groups[j].name.toArray⟩)/\s.groups[j].name.length<=maxLen) :
  Calls Tryz.prog 165 #[.agg (x.cells s).toArray,.int .i64 5] w fun e w'=>∃ x0:SlA,e=.returned (.slice x0.a (s.groups.map Grp.name).length x0.cap)/\SlIn w' (·<w'.heap.size) ((s.groups.map Grp.name).map strD) x0/\Below w.heap.size w w':=by
 have HSL:=Lh hs.at_
 have HN:=Lh hN
 have hbx:SchBox (w.alloc (.cells (x.cells s).toArray 28)) w.heap.size s x:=by unfold SchBox;rw [heap_get,if_pos rfl]
 have HBX:=Lh hbx
 obtain ⟨i0,hi,hz0,hz1,hz2⟩:=info_parts infoStr0
 obtain ⟨ns,hns⟩:∃ ns,ns=s.groups.map Grp.name:=⟨_,rfl⟩
 have hln:ns.length=s.groups.length:=by rw [hns,List.length_map]
 have HNS:=Lh (aI hns (aI hln hl))
 rw [<- hns]
 clear hs hN hbx hns hln hl
 simp only [SchA.cells,SlA.val] at HBX ⊢
 go_enter Tryz.func165,Tryz.ntmps165
 go_wp2_with fail
 go_loopw [5,10] (fun v i wr=>∃ j:Nat,j<=s.groups.length/\i=.int .i64 j/\Below w.heap.size w wr/\Hid (SchBox wr w.heap.size s x)/\Hid (OwnN wr (w.heap.size+1) (fun _=>False) 9 1 v ((ns.take j).map strD))) (fun _ i _=>s.groups.length - (intOf i).toNat)
 case atStart=>exact ⟨0,Nat.zero_le _,rfl,(Below.refl _ _).alloc (Nat.le_refl _) _,HBX,Lh (OwnN.nil _ _ _ _ _ (fun _ h=>h.elim))⟩
 case round =>
  obtain ⟨j,hj,rfl,hb,HBX,HO⟩:=hrel
  obtain ⟨c0,c1,c2,c3,c4⟩:=HBX.out.cells
  obtain ⟨oa,ocap,ho⟩:=HO.out.form
  subst ho
  have hlen:((ns.take j).map strD).length=j:=by rw [List.length_map,List.length_take];have:=HNS.out.2.1;omega
  rw [hlen] at HO ⊢
  have HLN:=Lh hlen
  clear hlen
  by_cases hlt:j<s.groups.length
  ·obtain ⟨hxa,hbl⟩:=HSL.out (by rw [List.length_map];omega)
   obtain ⟨q0,q1⟩:=HN.out j hlt
   have e0:=(hb.cell (p:=⟨x.groups.b,x.groups.o+j*2,none⟩) hbl).trans q0
   have hjn:j<ns.length:=by have:=HNS.out.2.1;omega
   have hnj:ns[j]=s.groups[j].name:=by have h:=HNS.out.1;subst h;simp
   have HT:=Lh (str_take hjn)
   rw [hnj] at HT
   have HF:=Lh (DsAt.flat1 (w:=wr) (F:=fun _=>False) (x:=strD s.groups[j].name) rfl (by show (⟨(s.groups[j].name).toArray⟩:ByteArray).size<=maxLen;rw [bs_size];exact q1))
   have HB1:=Lh hb
   have hlm:=HNS.out.2.2
   rw [hxa] at c3
   clear q0 q1 hjn hnj hxa
   generalize s.groups[j].name=nm at HT HF e0
   go_wp2_with (at_builtin;go_must (refine wpList_append_oneO rfl rfl _ _ 227 rfl 9 i0 _ 1 16 Tryz.underlying227 hi hz0 hz1 hz2 rfl (by decide) (.slice oa j ocap) ((ns.take j).map strD) (strD nm) [.string ⟨nm.toArray⟩] 9 rfl rfl HO.out HF.out (by have:=HBX.out.lt;omega) rfl (by rw [HLN.out];unfold maxLen;omega) (by rw [HLN.out];omega) ?_);intro ao cap w5 hon hb5;rw [HLN.out] at hon ⊢;have HON:=Lh (aI hon (aI (HB1.out.trans (hb5.mono (by omega))) (show SchBox w5 w.heap.size s x from (hb5.block _ (by omega)).trans HBX.out)));clear hon hb5)
   refine ⟨⟨j+1,by omega,by go_num,HON.out.2.1,Lh HON.out.2.2,Lh ?_⟩,by simp [intOf];omega⟩
   rw [HT.out];exact HON.out.1
  ·have HL:Hid (ns.take j=ns/\j=ns.length):=Lh ⟨List.take_of_length_le (by have:=HNS.out.2.1;omega),by have:=HNS.out.2.1;omega⟩
   have HB1:=Lh hb
   go_wp2_with fail
   go_ret
   have h:=HO.out
   rw [HL.out.1] at h
   obtain ⟨x0,h0,h1⟩:=h.onto.sl (by rw [widths_map strD_flat,List.length_map])
   rw [List.length_map,<- HL.out.2] at h0
   refine ⟨x0,?_,h1,HB1.out⟩
   show Ending.returned (.slice oa j ocap)=_
   rw [h0,SlA.val,<- HL.out.2]

theorem rnames_lit (s:Schl) (x:SchA) (sort:Int) (w:World) (h:sort=6∨sort=7) :
  Calls Tryz.prog 165 #[.agg (x.cells s).toArray,.int .i64 sort] w fun e w'=>∃ x0:SlA,e=.returned (.slice x0.a (schNames s sort).length x0.cap)/\SlIn w' (·<w'.heap.size) ((schNames s sort).map strD) x0/\Below w.heap.size w w':=by
 have one:∀ (W:World) (F:Nat->Prop) (l:List Bs),(∀ n∈l,n.length<=maxLen)->DsAt W F (l.map strD) (l.map (fun n=>Value.string ⟨n.toArray⟩)):=fun W F l hl=>by
  induction l with
  | nil=>rw [List.map_nil,List.map_nil,DsAt]
  | cons n r ih =>
   rw [List.map_cons,List.map_cons,DsAt]
   exact ⟨[_],_,rfl,by unfold strD;rw [DAt];exact ⟨rfl,by rw [bs_size];exact hl n (by simp)⟩,ih (fun m hm=>hl m (by simp [hm]))⟩
 have ONE:=Lh one
 clear one
 simp only [SchA.cells,SlA.val]
 have e6:schNames s 6=(List.range 7).map (fun i=>[100,97,121,UInt8.ofNat (48+i)]):=by unfold schNames;rw [if_neg (by decide),if_neg (by decide),if_neg (by decide),if_neg (by decide),if_neg (by decide),if_pos rfl]
 have e7:schNames s 7=(List.range 8).map (fun i=>[104,111,117,115,101,UInt8.ofNat (48+i)]):=by unfold schNames;rw [if_neg (by decide),if_neg (by decide),if_neg (by decide),if_neg (by decide),if_neg (by decide),if_neg (by decide),if_pos rfl]
 have E6:=Lh e6
 have E7:=Lh e7
 clear e6 e7
 rcases h with rfl | rfl
 ·go_enter Tryz.func165,Tryz.ntmps165
  go_wp2_with fail
  go_ret
  have hb:Below w.heap.size w (w.alloc (.cells #[.slice x.slots.a s.slots.length x.slots.cap,.slice x.rooms.a s.rooms.length x.rooms.cap,.slice x.people.a s.people.length x.people.cap,.slice x.groups.a s.groups.length x.groups.cap,.slice x.lessons.a s.lessons.length x.lessons.cap] 28)):=(Below.refl _ _).alloc (Nat.le_refl _) _
  exact ⟨⟨some ⟨w.heap.size+1,0,none⟩,w.heap.size+1,0,7⟩,rfl,SlIn.lit (cs:=(schNames s 6).map (fun n=>Value.string ⟨n.toArray⟩)) (by rw [heap_get,if_pos (by simp)];rfl) (ONE.out _ _ _ (by rw [E6.out];decide)) (by simp) (by rw [E6.out];decide) (by decide),hb.alloc (by simp) _⟩
 ·go_enter Tryz.func165,Tryz.ntmps165
  go_wp2_with fail
  go_ret
  have hb:Below w.heap.size w (w.alloc (.cells #[.slice x.slots.a s.slots.length x.slots.cap,.slice x.rooms.a s.rooms.length x.rooms.cap,.slice x.people.a s.people.length x.people.cap,.slice x.groups.a s.groups.length x.groups.cap,.slice x.lessons.a s.lessons.length x.lessons.cap] 28)):=(Below.refl _ _).alloc (Nat.le_refl _) _
  exact ⟨⟨some ⟨w.heap.size+1,0,none⟩,w.heap.size+1,0,8⟩,rfl,SlIn.lit (cs:=(schNames s 7).map (fun n=>Value.string ⟨n.toArray⟩)) (by rw [heap_get,if_pos (by simp)];rfl) (ONE.out _ _ _ (by rw [E7.out];decide)) (by simp) (by rw [E7.out];decide) (by decide),hb.alloc (by simp) _⟩

theorem rnames_any (s:Schl) (x:SchA) (sort:Int) (w:World) (hs:SchIn w (·<w.heap.size) s x) (hsm:SchSmall s) :
  Calls Tryz.prog 165 #[.agg (x.cells s).toArray,.int .i64 sort] w fun e w'=>∃ x0:SlA,e=.returned (.slice x0.a (schNames s sort).length x0.cap)/\SlIn w' (·<w'.heap.size) ((schNames s sort).map strD) x0/\Below w.heap.size w w':=by
 by_cases h1:sort=1
 ·subst h1
  exact rnames_1 s x w hs.lessons hsm.lessons (fun j hj=>by
   obtain ⟨_,_,_,_,h3,h4⟩:=hs.lessons.lsn j hj
   exact ⟨h4.three.1,h3⟩)
 by_cases h2:sort=2
 ·subst h2
  exact rnames_2 s x w hs.slots hsm.slots (fun j hj=>by
   obtain ⟨_,_,_,h4,h5⟩:=hs.slots.flat Slt.flatT
   have h6:=h5 _ (List.getElem_mem hj)
   refine ⟨(CellsAt.three (h4 j hj)).1,?_⟩
   have h7:=h6.1
   rwa [D.fine,bs_size] at h7)
 by_cases h3:sort=3
 ·subst h3
  exact rnames_3 s x w hs.rooms hsm.rooms (fun j hj=>by
   obtain ⟨_,_,_,_,h3,h4⟩:=hs.rooms.rom j hj
   exact ⟨h4.four.1,h3⟩)
 by_cases h4:sort=4
 ·subst h4
  exact rnames_4 s x w hs.people hsm.people (fun j hj=>by
   obtain ⟨_,_,h3,h4⟩:=hs.people.psn j hj
   exact ⟨h4.two.1,h3⟩)
 by_cases h5:sort=5
 ·subst h5
  exact rnames_5 s x w hs.groups hsm.groups (fun j hj=>by
   obtain ⟨_,_,_,h4,h5⟩:=hs.groups.flat Grp.flatT
   have h6:=h5 _ (List.getElem_mem hj)
   refine ⟨(CellsAt.two (h4 j hj)).1,?_⟩
   have h7:=h6.1
   rwa [D.fine,bs_size] at h7)
 by_cases h6:sort=6∨sort=7
 ·exact rnames_lit s x sort w h6
 have e:schNames s sort=[]:=by unfold schNames;rw [if_neg h1,if_neg h2,if_neg h3,if_neg h4,if_neg h5,if_neg (by omega),if_neg (by omega)]
 rw [e]
 exact rnames_none s x sort w (by omega)
end Go.Proofs.YtjjkfgjnadaheaaGreatDoor
/- The reference's school: stands, Named. -/
namespace Go.Chalk
open Go.RowKit
theorem contains_found {s sub:List UInt8} {i:Nat} (h1:i<=s.length) (h:Lib.occAt s sub i=true):Lib.contains s sub=true:=by
 unfold Lib.contains
 rcases Lib.index_spec s sub with ⟨_,h2⟩ | ⟨j,hj,_⟩
 ·rw [h2 i h1] at h;cases h
 ·rw [hj];simp
theorem contains_none {s sub:List UInt8} (h:∀ i,i+sub.length<=s.length->Lib.occAt s sub i=false) (h0:sub ≠ []):Lib.contains s sub=false:=by
 unfold Lib.contains
 rcases Lib.index_spec s sub with ⟨h2,_⟩ | ⟨j,hj,h3,h4,_⟩
 ·rw [h2];rfl
 ·rcases Lib.occAt_room h4 with h5 | h5
  ·rw [h j h5] at h4;cases h4
  ·exact absurd h5 h0
end Go.Chalk
namespace Go.Proofs.YtjjkfgjnadaheaaGreatDoor
open Go.RowKit Go.Chalk
theorem rstands_any (x s:ByteArray) (w:World) (hx:x.size<=281474976710656) (hs:s.size<=281474976710656) :
  Calls Tryz.prog 248 #[.string x,.string s] w fun e w'=>e=.returned (.bool (Lib.contains x.data.toList s.data.toList))/\w'=w:=by
 go_enter Tryz.func248,Tryz.ntmps248
 go_wp2_with fail
 go_loop [5] (fun i=>∃ k:Nat,k<=x.size+1/\i=.int .i64 k/\Hid (∀ j,j<k->Lib.occAt x.data.toList s.data.toList j=false)) (fun i=>x.size+1 - (intOf i).toNat)
 case atStart=>exact ⟨0,Nat.zero_le _,rfl,Lh (fun j hj=>by omega)⟩
 case round =>
  obtain ⟨k,hk,rfl,HA⟩:=hrel
  by_cases hlt:k+s.size<=x.size
  ·have HOC:=Lh (Lib.occ_of_piece x s k hlt)
   have hkl:k<=x.data.toList.length:=by simp;omega
   have HFO:=Lh (contains_found (sub:=s.data.toList) hkl)
   clear hkl
   cases hoc:(x.extract k (k+s.size)).toList==s.toList
   ·have HN:Hid (∀ j,j<k+1->Lib.occAt x.data.toList s.data.toList j=false):=Lh (fun j hj=>by
     by_cases h:j=k
     ·subst h;rw [HOC.out,hoc]
     ·exact HA.out j (by omega))
    go_wp2_with fail
    go_round
    case rel=>exact ⟨k+1,by omega,by go_num,HN⟩
    case measure=>simp [intOf];omega
   ·have HN:=Lh (HFO.out (by rw [HOC.out,hoc]))
    go_wp2_with fail
    go_ret
    exact ⟨by rw [HN.out];rfl,rfl⟩
  ·have HN:Hid (Lib.contains x.data.toList s.data.toList=false):=Lh (by
    have hxl:x.data.toList.length=x.size:=by simp
    have hsl:s.data.toList.length=s.size:=by simp
    refine contains_none (fun i hi=>HA.out i (by omega)) (fun h=>?_)
    have:=HA.out 0 (by rw [h] at hsl;simp at hsl;omega)
    rw [h] at this
    simp [Lib.occAt] at this)
   go_wp2_with fail
   go_ret
   exact ⟨by rw [HN.out];rfl,rfl⟩
theorem named_spec (s:ByteArray):schNamed s.data.toList=(s.data.toList.all innerB&&(if h:0<s.size then smallB s[0] else false)&&(decide ((1:Int)<=(s.size:Int))&&decide ((s.size:Int)<=64))&&!(Lib.contains reservedS (32 :: (s.data.toList++[32])))):=by
 have hl:s.data.toList.length=s.size:=by simp
 by_cases h0:0<s.size
 ·have hd:s.data.toList=s[0] :: s.data.toList.drop 1:=by
   have:=List.drop_eq_getElem_cons (l:=s.data.toList) (i:=0) (by omega)
   rw [List.drop_zero] at this
   exact this
  simp only [h0,dite_true]
  have e1:decide ((1:Int)<=(s.size:Int))=true:=by simp;omega
  have e2:decide ((s.size:Int)<=64)=decide (s.data.toList.length<=64):=by rw [Bool.eq_iff_iff];simp only [decide_eq_true_eq];omega
  rw [e1,e2]
  generalize s[0]=c at hd
  generalize s.data.toList.drop 1=r at hd
  rw [hd,schNamed]
  have e3:((c :: r).all innerB&&smallB c)=(decide (97<=c.toNat)&&(c :: r).all innerB):=by
   rw [Bool.eq_iff_iff]
   simp only [Bool.and_eq_true,decide_eq_true_eq,List.all_cons,smallB]
   constructor
   ·rintro ⟨h1,h2,h3⟩;exact ⟨h2,h1⟩
   ·rintro ⟨h1,h2,h3⟩
    refine ⟨⟨h2,h3⟩,h1,?_⟩
    unfold innerB smallB digitB at h2
    simp at h2
    omega
  rw [e3]
  cases decide (97<=c.toNat) <;> cases (c :: r).all innerB <;> cases decide ((c :: r).length<=64) <;> rfl
 ·have hn:s.data.toList=[]:=List.length_eq_zero_iff.1 (by omega)
  rw [hn]
  simp [h0,schNamed]
def GoodC (n:Int) (k:Nat):Prop:=(97<=n/\n<=122)∨(k ≠ 0/\((48<=n/\n<=57)∨n=95))
theorem good_inner {c:UInt8} {k:Nat}:GoodC (c.toNat:Int) k ↔ (innerB c=true/\(k=0->smallB c=true)):=by
 unfold GoodC innerB smallB digitB
 simp only [Bool.or_eq_true,Bool.and_eq_true,decide_eq_true_eq,beq_iff_eq]
 omega
theorem space_list (s:ByteArray):(⟨#[32]⟩++s++⟨#[32]⟩:ByteArray).data.toList=32 :: (s.data.toList++[32]):=by
 simp [ByteArray.data_append]
theorem rnamed_any (s:ByteArray) (w:World) (hs:s.size<=1000000000):Calls Tryz.prog 224 #[.string s] w fun e w'=>e=.returned (.bool (schNamed s.data.toList))/\w'=w:=by
 have HNS:=Lh (named_spec s)
 have HFL:Hid (∀ k (h:k<s.size),¬ GoodC (s[k].toNat:Int) k->schNamed s.data.toList=false):=Lh (fun k h hg=>by
  rw [HNS.out]
  rw [good_inner] at hg
  by_cases h1:innerB s[k]=true
  ·have h2:k=0/\smallB s[k]=false:=by
    by_cases hk:k=0
    ·refine ⟨hk,?_⟩
     cases hsm:smallB s[k] with
     | false=>rfl
     | true=>exact absurd ⟨h1,fun _=>hsm⟩ hg
    ·exact absurd ⟨h1,fun h=>absurd h hk⟩ hg
   obtain ⟨rfl,h2⟩:=h2
   simp [h,h2]
  ·have:s.data.toList.all innerB=false:=List.all_eq_false.2 ⟨s[k],by
    have e:s.data.toList[k]'(by simpa using h)=s[k]:=rfl
    rw [<- e];exact List.getElem_mem _,h1⟩
   rw [this];simp)
 have hrs:(⟨reservedS.toArray⟩:ByteArray).data.toList=reservedS:=List.toList_toArray ..
 have HST:Hid (s.size<=64->Calls Tryz.prog 248 #[.string ⟨reservedS.toArray⟩,.string (⟨#[32]⟩++s++⟨#[32]⟩)] w fun e w'=>e=.returned (.bool (Lib.contains reservedS (32 :: (s.data.toList++[32]))))/\w'=w):=Lh (fun hs64=>by
  have h:=rstands_any ⟨reservedS.toArray⟩ (⟨#[32]⟩++s++⟨#[32]⟩) w (by decide) (by have e:(⟨#[32]⟩:ByteArray).size=1:=rfl;simp only [ByteArray.size_append,e];omega)
  rw [hrs,space_list] at h
  exact h)
 clear hrs
 go_enter Tryz.func224,Tryz.ntmps224
 go_wp2_with fail
 go_loop [3,4,5] (fun i _ _=>∃ k:Nat,k<=s.size/\i=.int .i64 k/\Hid ((∀ j (h:j<s.size),j<k->innerB s[j]=true)/\(∀ h:0<s.size,0<k->smallB s[0]=true))) (fun i _ _=>s.size - (intOf i).toNat)
 case atStart=>exact ⟨0,Nat.zero_le _,rfl,Lh ⟨fun _ _ h=>by omega,fun _ h=>by omega⟩⟩
 case round =>
  obtain ⟨k,hk,rfl,HA⟩:=hrel
  by_cases hlt:k<s.size
  ·have HF2:=Lh (HFL.out k hlt)
   have HG:Hid (GoodC (s[k].toNat:Int) k->(∀ j (h:j<s.size),j<k+1->innerB s[j]=true)/\(∀ h:0<s.size,0<k+1->smallB s[0]=true)):=Lh (fun hg=>by
    obtain ⟨g1,g2⟩:=good_inner.1 hg
    refine ⟨fun j h hj=>?_,fun h _=>?_⟩
    ·by_cases e:j=k
     ·subst e;exact g1
     ·exact HA.out.1 j h (by omega)
    ·by_cases e:k=0
     ·subst e;exact g2 rfl
     ·exact HA.out.2 h (by omega))
   generalize hn:s[k].toNat=n at HF2 HG
   go_wp2_with fail
   all_goals first
    | (go_ret;exact ⟨by rw [HF2.out (by unfold GoodC;omega)];rfl,rfl⟩)
    | exact ⟨⟨k+1,by omega,by first | go_num | (congr 1;omega),Lh (HG.out (by unfold GoodC;omega))⟩,by simp [intOf];omega⟩
    | (rename_i hq;simp at hq;first | (exfalso;omega) | exact ⟨⟨k+1,by omega,by first | go_num | (congr 1;omega),Lh (HG.out (by unfold GoodC;omega))⟩,by simp [intOf];omega⟩)
    | (rename_i hq _;simp at hq;first | (exfalso;omega) | (go_ret;exact ⟨by rw [HF2.out (by unfold GoodC;omega)];rfl,rfl⟩))
    | (rename_i hq _ _;simp at hq;first | (exfalso;omega) | (go_ret;exact ⟨by rw [HF2.out (by unfold GoodC;omega)];rfl,rfl⟩))
  ·obtain rfl:k=s.size:=by omega
   have HA2:Hid (s.data.toList.all innerB=true/\(∀ h:0<s.size,smallB s[0]=true)):=Lh ⟨List.all_eq_true.2 (fun c hc=>by
    obtain ⟨j,hj,rfl⟩:=List.mem_iff_getElem.1 hc
    have hj2:j<s.size:=by simpa using hj
    exact HA.out.1 j hj2 hj2),fun h=>HA.out.2 h h⟩
   by_cases h0:0<s.size
   ·by_cases h64:s.size<=64
    ·have HST2:=Lh (HST.out h64)
     have HE:Hid (schNamed s.data.toList = !(Lib.contains reservedS (32 :: (s.data.toList++[32])))):=Lh (by
      rw [HNS.out,HA2.out.1]
      have e1:decide ((1:Int)<=(s.size:Int))=true:=by simp;omega
      have e2:decide ((s.size:Int)<=64)=true:=by simp;omega
      simp only [h0,dite_true,HA2.out.2 h0,e1,e2,Bool.true_and])
     have e1:(1:Int)<=(s.size:Int):=by omega
     have e2:(s.size:Int)<=64:=by omega
     generalize Lib.contains reservedS (32 :: (s.data.toList++[32]))=b at HST2 HE
     go_wp2_with fail
     refine HST2.out.mono ?_
     rintro e w' ⟨rfl,rfl⟩
     go_wp2_with fail
     go_ret
     exact ⟨by rw [HE.out];rfl,rfl⟩
    ·have HE:Hid (schNamed s.data.toList=false):=Lh (by
      rw [HNS.out]
      have e2:decide ((s.size:Int)<=64)=false:=by simp;omega
      rw [e2];simp)
     have e1:(1:Int)<=(s.size:Int):=by omega
     have e2:decide ((s.size:Int)<=64)=false:=by simp;omega
     clear h64
     go_wp2_with fail
     go_ret
     exact ⟨by rw [HE.out];rfl,rfl⟩
   ·have HE:Hid (schNamed s.data.toList=false):=Lh (by
     rw [HNS.out]
     simp [h0])
    have e1:decide ((1:Int)<=(s.size:Int))=false:=by simp;omega
    go_wp2_with fail
    go_ret
    exact ⟨by rw [HE.out];rfl,rfl⟩
end Go.Proofs.YtjjkfgjnadaheaaGreatDoor
/- The reference's school: places, named. -/
namespace Go.Chalk
open Go.RowKit
def lastOf:List Int->Int->Int
 | [],last=>last
 | x :: r,_=>lastOf r x
theorem placesGo_append (n:Int):∀ (a b:List Int) (last:Int),placesGo n (a++b) last=(placesGo n a last&&placesGo n b (lastOf a last))
 | [],b,last=>by simp [placesGo,lastOf]
 | x :: r,b,last=>by
  rw [List.cons_append,placesGo,placesGo,lastOf]
  split
  ·rfl
  ·exact placesGo_append n r b x
theorem placesGo_last (n:Int):∀ (a:List Int) (last:Int),placesGo n a last=true->last<=lastOf a last/\(a ≠ []->last<lastOf a last)
 | [],last,_=>⟨Int.le_refl _,fun h=>absurd rfl h⟩
 | x :: r,last,h=>by
  rw [placesGo] at h
  split at h
  ·cases h
  ·rename_i hc
   have:=(placesGo_last n r x h).1
   rw [lastOf]
   exact ⟨by omega,fun _=>by omega⟩
theorem lastOf_take:∀ (l:List Int) (k:Nat) (last:Int) (hk:k<l.length),lastOf (l.take (k+1)) last=l[k]
 | x :: r,0,last,_=>by simp [lastOf]
 | x :: r,k+1,last,hk=>by
  rw [List.take_succ_cons,lastOf,lastOf_take r k x (by simpa using hk)];rfl
theorem places_step {l:List Int} {n:Int} {k:Nat} (hk:k<l.length) (h:placesB (l.take k) n=true) :
  placesB (l.take (k+1)) n = !(decide (l[k]<0)||decide (n<=l[k])||(decide (0<k)&&decide (l[k]<=(l[k - 1]?.getD 0)))):=by
 unfold placesB at h ⊢
 rw [List.take_succ_eq_append_getElem hk,placesGo_append,h,Bool.true_and]
 simp only [placesGo]
 cases k with
 | zero =>
  simp only [List.take_zero,lastOf]
  rw [Bool.eq_iff_iff]
  simp
  omega
 | succ k =>
  have h1:=lastOf_take l k (-1) (by omega)
  have h2:=(placesGo_last n _ _ h).2 (fun he=>by
   rw [List.take_eq_nil_iff] at he
   rcases he with he | he
   ·omega
   ·rw [he] at hk;simp at hk)
  rw [h1] at h2 ⊢
  rw [Nat.add_sub_cancel,List.getElem?_eq_getElem (show k<l.length by omega),Option.getD_some]
  rw [Bool.eq_iff_iff]
  simp
  omega
theorem places_bad {l:List Int} {n:Int} {k:Nat} (h:placesB (l.take k) n=false):placesB l n=false:=by
 unfold placesB at h ⊢
 have:=placesGo_append n (l.take k) (l.drop k) (-1)
 rw [List.take_append_drop,h] at this
 rw [this];rfl
end Go.Chalk
namespace Go.Proofs.YtjjkfgjnadaheaaGreatDoor
open Go.RowKit Go.Chalk
theorem bdrewN {B:Nat} {w w':World} (h:Below B w w') (n:Nat):Below B w (w'.drewN n):=⟨h.os,h.tape,h.output,h.size,h.block⟩
theorem drewN_of {w wr:World} (h:∃ m,wr=w.drewN m) (n:Nat):∃ m,wr.drewN n=w.drewN m:=by
 obtain ⟨m,rfl⟩:=h
 exact ⟨m+n,World.drewN_drewN ..⟩
theorem rplaces_q (l:List Int) (x:SlA) (n:Int) (w:World) (hx:SlIn w (·<w.heap.size) (dints l) x) (hl:l.length<=2000000) :
  Calls Tryz.prog 166 #[.slice x.a l.length x.cap,.int .i64 n] w fun e w'=>e=.returned (.bool (placesB l n))/\∃ m,w'=w.drewN m:=by
 obtain ⟨h1,_,_,_,h2⟩:=hx.ints
 have HX:=Lh (aI h1 h2)
 clear hx h1 h2
 go_enter Tryz.func166,Tryz.ntmps166
 go_wp2_with fail
 go_loopw [5] (fun i wr=>∃ k:Nat,k<=l.length/\i=.int .i64 k/\Hid (placesB (l.take k) n=true)/\Hid (∃ m,wr=w.drewN m)) (fun i _=>l.length - (intOf i).toNat)
 case atStart=>exact ⟨0,Nat.zero_le _,rfl,Lh rfl,Lh ⟨0,rfl⟩⟩
 case round =>
  obtain ⟨k,hk,rfl,HP,HM⟩:=hrel
  have HB:Hid (Below w.heap.size w wr):=Lh (by obtain ⟨m,hm⟩:=HM.out;rw [hm];exact bdrewN (Below.refl _ _) m)
  by_cases hlt:k<l.length
  ·obtain ⟨hxa,hxb⟩:=HX.out.1 (by omega)
   have e0:=(HB.out.cell (p:=⟨x.b,x.o+k,none⟩) hxb).trans (HX.out.2 k hlt)
   have HS:=Lh (places_step hlt HP.out)
   have HBD:=Lh (fun (h:placesB (l.take (k+1)) n=false)=>places_bad h)
   have hw1:IntKind.i64.wrap ((k:Int) - 1)=(k:Int) - 1:=IntWalk.i64_in _ (by omega)
   have i1:(0:Int)<=(k:Int):=by omega
   have i2:(k:Int)<(l.length:Int):=by omega
   rw [hxa]
   generalize hy:l[k]=y at e0 HS
   clear hy
   by_cases p1:y<0
   ·have HF:=Lh (HBD.out (by rw [HS.out,decide_eq_true p1];simp))
    go_wp2_with fail
    go_quiet (fail)
    go_wp2_with fail
    go_ret
    exact ⟨by rw [HF.out];rfl,(drewN_of HM.out _)⟩
   have q1:decide (y<0)=false:=decide_eq_false p1
   by_cases p2:n<=y
   ·have HF:=Lh (HBD.out (by rw [HS.out,decide_eq_true p2];simp))
    clear p1
    go_wp2_with fail
    go_quiet (fail)
    go_wp2_with fail
    go_ret
    exact ⟨by rw [HF.out];rfl,(drewN_of HM.out _)⟩
   have q2:decide (n<=y)=false:=decide_eq_false p2
   by_cases h0:k=0
   ·subst h0
    have HT:Hid (placesB (l.take (0+1)) n=true):=Lh (by rw [HS.out,q1,q2];simp)
    rw [Nat.add_zero] at e0
    have i6:(0:Int)<(l.length:Int):=by omega
    clear p1 p2 i1 i2
    go_wp2_with fail
    go_quiet (fail)
    go_wp2_with fail
    exact ⟨⟨1,by omega,by go_num,HT,Lh (drewN_of HM.out _)⟩,by simp [intOf];omega⟩
   ·obtain ⟨j,rfl⟩:∃ j,k=j+1:=⟨k - 1,by omega⟩
    have e1:=(HB.out.cell (p:=⟨x.b,x.o+j,none⟩) hxb).trans (HX.out.2 j (by omega))
    rw [Nat.add_sub_cancel,List.getElem?_eq_getElem (show j<l.length by omega),Option.getD_some] at HS
    generalize l[j]=z at e1 HS
    have i3:(0:Int)<(j:Int)+1:=by omega
    have i4:(0:Int)<=(j:Int):=by omega
    have i5:(j:Int)<(l.length:Int):=by omega
    by_cases p3:y<=z
    ·have HF:=Lh (HBD.out (by rw [HS.out,decide_eq_true p3];simp))
     clear p1 p2
     go_wp2_with fail
     go_quiet (fail)
     go_wp2_with fail
     go_ret
     exact ⟨by rw [HF.out];rfl,(drewN_of HM.out _)⟩
    ·have q3:decide (y<=z)=false:=decide_eq_false p3
     have HT:Hid (placesB (l.take (j+1+1)) n=true):=Lh (by rw [HS.out,q1,q2,q3];simp)
     clear p1 p2 p3
     go_wp2_with fail
     go_quiet (fail)
     go_wp2_with fail
     exact ⟨⟨j+1+1,by omega,by go_num,HT,Lh (drewN_of HM.out _)⟩,by simp [intOf];omega⟩
  ·obtain rfl:k=l.length:=by omega
   have HT:=Lh (show placesB l n=true by have:=HP.out;rwa [List.take_length] at this)
   go_wp2_with fail
   go_ret
   exact ⟨by rw [HT.out];rfl,HM.out⟩
theorem rplaces_any (l:List Int) (x:SlA) (n:Int) (w:World) (hx:SlIn w (·<w.heap.size) (dints l) x) (hl:l.length<=2000000) :
  Calls Tryz.prog 166 #[.slice x.a l.length x.cap,.int .i64 n] w fun e w'=>e=.returned (.bool (placesB l n))/\Below w.heap.size w w' :=
 (rplaces_q l x n w hx hl).mono fun _ _ ⟨he,m,hm⟩=>⟨he,by rw [hm];exact bdrewN (Below.refl _ _) m⟩
end Go.Proofs.YtjjkfgjnadaheaaGreatDoor
/- The reference's school: named, slots. -/
namespace Go.Chalk
open Go.RowKit
theorem goNames_append:∀ (a b met:List Bs),goNames met (a++b)=(goNames met a&&goNames (met++a) b)
 | [],b,met=>by simp [goNames]
 | x :: r,b,met=>by
  rw [List.cons_append,goNames,goNames,goNames_append r b (met++[x])]
  simp [Bool.and_assoc]
theorem names_step {l:List Bs} {k:Nat} (hk:k<l.length) (h:goNames [] (l.take k)=true):goNames [] (l.take (k+1))=(!((l.take k).contains l[k])&&schNamed l[k]):=by
 rw [List.take_succ_eq_append_getElem hk,goNames_append,h,Bool.true_and,List.nil_append]
 simp [goNames]
theorem names_bad {l:List Bs} {k:Nat} (h:goNames [] (l.take k)=false):goNames [] l=false:=by
 have:=goNames_append (l.take k) (l.drop k) []
 rw [List.take_append_drop,h] at this
 rw [this];rfl
def timeK (x:Slt):Int×Int:=(x.day,x.hour)
theorem goTimes_append:∀ (a b:List Slt) (met:List (Int×Int)),goTimes met (a++b)=(goTimes met a&&goTimes (met++a.map timeK) b)
 | [],b,met=>by simp [goTimes]
 | x :: r,b,met=>by
  rw [List.cons_append,goTimes,goTimes,goTimes_append r b]
  simp [Bool.and_assoc,timeK]
theorem times_step {l:List Slt} {k:Nat} (hk:k<l.length) (h:goTimes [] (l.take k)=true) :
  goTimes [] (l.take (k+1))=(!(((l.take k).map timeK).contains (timeK l[k]))&&withinB l[k].day 6&&withinB l[k].hour 11):=by
 rw [List.take_succ_eq_append_getElem hk,goTimes_append,h,Bool.true_and,List.nil_append]
 simp [goTimes,timeK,Bool.and_assoc]
theorem times_bad {l:List Slt} {k:Nat} (h:goTimes [] (l.take k)=false):goTimes [] l=false:=by
 have:=goTimes_append (l.take k) (l.drop k) []
 rw [List.take_append_drop,h] at this
 rw [this];rfl
end Go.Chalk
namespace Go.Proofs.YtjjkfgjnadaheaaGreatDoor
open Go.RowKit Go.Chalk
theorem rnamedl_any (l:List Bs) (x:SlA) (w:World) (hx:SlIn w (·<w.heap.size) (l.map strD) x) (hl:l.length<=2000000) (hn:∀ n∈l,n.length<=4000000) :
  Calls Tryz.prog 164 #[.slice x.a l.length x.cap] w fun e w'=>e=.returned (.bool (goNames [] l))/\Below w.heap.size w w':=by
 obtain ⟨h1,_,_,h2,_⟩:=hx.flat strD_flat
 have HX:=Lh (aI h1 (fun (j:Nat) (hj:j<l.length)=>h2.one j hj (c0:=.string ⟨l[j].toArray⟩) rfl))
 have HN:=Lh hn
 clear hx h1 h2 hn
 go_enter Tryz.func164,Tryz.ntmps164
 go_wp2_with fail
 go_loopw [3] (fun i wr=>∃ k:Nat,k<=l.length/\i=.int .i64 k/\Hid (goNames [] (l.take k)=true)/\Hid (Below w.heap.size w wr)) (fun i _=>l.length - (intOf i).toNat)
 case atStart=>exact ⟨0,Nat.zero_le _,rfl,Lh rfl,Lh (Below.refl _ _)⟩
 case round =>
  obtain ⟨k,hk,rfl,HP,HB⟩:=hrel
  by_cases hlt:k<l.length
  ·obtain ⟨hxa,hxb⟩:=HX.out.1 (by omega)
   have e0:=(HB.out.cell (p:=⟨x.b,x.o+k*1,none⟩) hxb).trans (HX.out.2 k hlt)
   rw [Nat.mul_one] at e0
   have HS:=Lh (names_step hlt HP.out)
   have HBD:=Lh (fun (h:goNames [] (l.take (k+1))=false)=>names_bad h)
   have HCN:Hid ((l.take k).contains l[k]=true ↔ ∃ j,∃ h:j<l.length,j<k/\l[j]=l[k]):=Lh (by
    rw [List.contains_iff_mem,List.mem_take_iff_getElem]
    constructor
    ·rintro ⟨j,hj,he⟩;exact ⟨j,by omega,by omega,he⟩
    ·rintro ⟨j,h,hj,he⟩;exact ⟨j,by omega,he⟩)
   have hsz:=HN.out l[k] (List.getElem_mem hlt)
   have HNA:=Lh (fun (W:World)=>rnamed_any ⟨l[k].toArray⟩ W (by rw [bs_size];omega))
   have hxa0:=Lh hxa
   rw [hxa]
   generalize hy:l[k]=y at e0 HS HNA HCN
   have HY:=Lh hy
   clear hy hsz
   simp only [List.toList_toArray] at HNA
   cases hnm:schNamed y
   ·have HF:=Lh (HBD.out (by rw [HS.out,hnm];simp))
    rw [hnm] at HNA
    clear hnm
    go_wp2_with fail
    refine (HNA.out _).mono ?_
    rintro e w2 ⟨rfl,rfl⟩
    go_wp2_with fail
    go_ret
    exact ⟨by rw [HF.out];rfl,HB.out⟩
   ·rw [hnm] at HNA HS
    clear hnm
    go_wp2_with fail
    refine (HNA.out _).mono ?_
    rintro e w2 ⟨rfl,rfl⟩
    go_wp2_with fail
    go_loopw [4] (fun i wq=>∃ j:Nat,j<=k/\i=.int .i64 j/\Hid (∀ (i:Nat) (h:i<l.length),i<j->l[i] ≠ y)/\Hid (Below w.heap.size w wq)) (fun i _=>k - (intOf i).toNat)
    case atStart=>exact ⟨0,Nat.zero_le _,rfl,Lh (fun _ _ h=>by omega),HB⟩
    case round =>
     obtain ⟨j,hj,rfl,HD,HQ⟩:=hrel
     by_cases hjk:j<k
     ·have e1:=(HQ.out.cell (p:=⟨x.b,x.o+j*1,none⟩) hxb).trans (HX.out.2 j (by omega))
      have e2:=(HQ.out.cell (p:=⟨x.b,x.o+k*1,none⟩) hxb).trans (HX.out.2 k hlt)
      rw [HY.out] at e2
      rw [Nat.mul_one] at e1 e2
      have i1:(0:Int)<=(j:Int):=by omega
      have i2:(j:Int)<(l.length:Int):=by omega
      have i3:(0:Int)<=(k:Int):=by omega
      have i4:(k:Int)<(l.length:Int):=by omega
      generalize hz:l[j]=z at e1
      have HZ:=Lh hz
      clear hz e0
      by_cases hq:z=y
      ·subst hq
       have HF:=Lh (HBD.out (by rw [HS.out,HCN.out.2 ⟨j,by omega,hjk,HZ.out⟩];simp))
       go_wp2_with fail
       go_quiet (fail)
       go_wp2_with fail
       go_ret
       exact ⟨by rw [HF.out];rfl,bdrewN HQ.out _⟩
      ·have HD2:Hid (∀ (i:Nat) (h:i<l.length),i<j+1->l[i] ≠ y):=Lh (fun i h hi=>by
        by_cases e:i=j
        ·subst e;rw [HZ.out];exact hq
        ·exact HD.out i h (by omega))
       have hne:(z==y)=false:=by simpa using hq
       clear hq
       go_wp2_with fail
       go_quiet (fail)
       go_wp2_with fail
       exact ⟨⟨j+1,by omega,by go_num,HD2,Lh (bdrewN HQ.out _)⟩,by simp [intOf];omega⟩
     ·obtain rfl:j=k:=by omega
      have HT:Hid (goNames [] (l.take (j+1))=true):=Lh (by
       rw [HS.out]
       have:(l.take j).contains y=false:=by
        cases hc:(l.take j).contains y with
        | false=>rfl
        | true =>
         obtain ⟨i,h,hi,he⟩:=HCN.out.1 hc
         exact absurd he (HD.out i h hi)
       rw [this];rfl)
      go_wp2_with fail
      exact ⟨⟨j+1,by omega,by go_num,HT,HQ⟩,by simp [intOf];omega⟩
  ·obtain rfl:k=l.length:=by omega
   have HT:=Lh (show goNames [] l=true by have:=HP.out;rwa [List.take_length] at this)
   go_wp2_with fail
   go_ret
   exact ⟨by rw [HT.out];rfl,HB.out⟩
theorem rslots_any (l:List Slt) (x:SlA) (w:World) (hx:SlIn w (·<w.heap.size) (l.map Slt.toD) x) (hl:l.length<=2000000) :
  Calls Tryz.prog 167 #[.slice x.a l.length x.cap] w fun e w'=>e=.returned (.bool (goTimes [] l&&decide (0<l.length)))/\Below w.heap.size w w':=by
 obtain ⟨h1,_,_,h2,_⟩:=hx.flat Slt.flatT
 have HX:=Lh (aI h1 (fun (j:Nat) (hj:j<l.length)=>h2.three j hj rfl))
 clear hx h1 h2
 go_enter Tryz.func167,Tryz.ntmps167
 go_wp2_with fail
 go_loopw [3] (fun i wr=>∃ k:Nat,k<=l.length/\i=.int .i64 k/\Hid (goTimes [] (l.take k)=true)/\Hid (Below w.heap.size w wr)) (fun i _=>l.length - (intOf i).toNat)
 case atStart=>exact ⟨0,Nat.zero_le _,rfl,Lh rfl,Lh (Below.refl _ _)⟩
 case round =>
  obtain ⟨k,hk,rfl,HP,HB⟩:=hrel
  by_cases hlt:k<l.length
  ·obtain ⟨hxa,hxb⟩:=HX.out.1 (by omega)
   obtain ⟨_,c1,c2⟩:=HX.out.2 k hlt
   have HY12:=Lh (aI c1 c2)
   have e1:=(HB.out.cell (p:=⟨x.b,x.o+k*3+1,none⟩) hxb).trans c1
   have e2:=(HB.out.cell (p:=⟨x.b,x.o+k*3+2,none⟩) hxb).trans c2
   have HS:=Lh (times_step hlt HP.out)
   have HBD:=Lh (fun (h:goTimes [] (l.take (k+1))=false)=>times_bad h)
   have HCN:Hid (((l.take k).map timeK).contains (timeK l[k])=true ↔ ∃ j,∃ h:j<l.length,j<k/\l[j].day=l[k].day/\l[j].hour=l[k].hour):=Lh (by
    rw [List.contains_iff_mem,List.mem_map]
    constructor
    ·rintro ⟨y,hy,he⟩
     obtain ⟨j,hj,rfl⟩:=List.mem_take_iff_getElem.1 hy
     simp only [timeK,Prod.mk.injEq] at he
     exact ⟨j,by omega,by omega,he⟩
    ·rintro ⟨j,h,hj,he⟩
     exact ⟨l[j],List.mem_take_iff_getElem.2 ⟨j,by omega,rfl⟩,by simp only [timeK,Prod.mk.injEq];exact he⟩)
   have HW:Hid (∀ n m:Int,withinB n m=true ↔ 0<=n/\n<=m):=Lh (fun n m=>by unfold withinB;simp)
   have i1:(0:Int)<=(k:Int):=by omega
   have i2:(k:Int)<(l.length:Int):=by omega
   rw [hxa]
   clear c1 c2
   generalize (((l.take k).map timeK).contains (timeK l[k]))=cb at HS HCN
   generalize hd:l[k].day=dy at e1 HS HCN HY12
   generalize hh:l[k].hour=hr at e2 HS HCN HY12
   clear hd hh
   by_cases hg:(0<=dy/\dy<=6)/\0<=hr/\hr<=11
   ·obtain ⟨⟨g1,g2⟩,g3,g4⟩:=hg
    have HS2:Hid (goTimes [] (l.take (k+1)) = !cb):=Lh (by rw [HS.out,(HW.out dy 6).2 ⟨g1,g2⟩,(HW.out hr 11).2 ⟨g3,g4⟩];simp)
    have d1:decide (dy<0)=false:=by simp;omega
    have d2:decide (6<dy)=false:=by simp;omega
    have d3:decide (hr<0)=false:=by simp;omega
    have d4:decide (11<hr)=false:=by simp;omega
    clear g1 g2 g3 g4 HS HW
    go_wp2_with fail
    clear d1 d2 d3 d4
    go_loopw [4] (fun i wq=>∃ j:Nat,j<=k/\i=.int .i64 j/\Hid (∀ (i:Nat) (h:i<l.length),i<j->¬ (l[i].day=dy/\l[i].hour=hr))/\Hid (Below w.heap.size w wq)) (fun i _=>k - (intOf i).toNat)
    case atStart=>exact ⟨0,Nat.zero_le _,rfl,Lh (fun _ _ h=>by omega),HB⟩
    case round =>
     obtain ⟨j,hj,rfl,HD,HQ⟩:=hrel
     by_cases hjk:j<k
     ·obtain ⟨_,p1,p2⟩:=HX.out.2 j (by omega)
      have q1:=(HQ.out.cell (p:=⟨x.b,x.o+j*3+1,none⟩) hxb).trans p1
      have q2:=(HQ.out.cell (p:=⟨x.b,x.o+j*3+2,none⟩) hxb).trans p2
      have q3:=(HQ.out.cell (p:=⟨x.b,x.o+k*3+1,none⟩) hxb).trans HY12.out.1
      have q4:=(HQ.out.cell (p:=⟨x.b,x.o+k*3+2,none⟩) hxb).trans HY12.out.2
      have i3:(0:Int)<=(j:Int):=by omega
      have i4:(j:Int)<(l.length:Int):=by omega
      have HZ:Hid (l[j].day=l[j].day/\l[j].hour=l[j].hour):=Lh ⟨rfl,rfl⟩
      generalize hz:l[j].day=zd at q1
      generalize hz2:l[j].hour=zh at q2
      have HZZ:=Lh (aI hz hz2)
      clear hz hz2 e1 e2 p1 p2 HZ
      by_cases hq:zd=dy
      ·subst hq
       by_cases hq2:zh=hr
       ·subst hq2
        have HF:=Lh (HBD.out (by rw [HS2.out,HCN.out.2 ⟨j,by omega,hjk,HZZ.out⟩];rfl))
        go_wp2_with fail
        go_quiet (fail)
        go_wp2_with fail
        go_ret
        exact ⟨by rw [HF.out];rfl,bdrewN HQ.out _⟩
       ·have HD2:Hid (∀ (i:Nat) (h:i<l.length),i<j+1->¬ (l[i].day=zd/\l[i].hour=hr)):=Lh (fun i h hi=>by
         by_cases e:i=j
         ·subst e;rw [HZZ.out.2];exact fun h=>hq2 h.2
         ·exact HD.out i h (by omega))
        have hne:(zh==hr)=false:=by simpa using hq2
        clear hq2
        go_wp2_with fail
        go_quiet (fail)
        go_wp2_with fail
        exact ⟨⟨j+1,by omega,by go_num,HD2,Lh (bdrewN HQ.out _)⟩,by simp [intOf];omega⟩
      ·have HD2:Hid (∀ (i:Nat) (h:i<l.length),i<j+1->¬ (l[i].day=dy/\l[i].hour=hr)):=Lh (fun i h hi=>by
        by_cases e:i=j
        ·subst e;rw [HZZ.out.1];exact fun h=>hq h.1
        ·exact HD.out i h (by omega))
       have hne:(zd==dy)=false:=by simpa using hq
       clear hq
       go_wp2_with fail
       go_quiet (fail)
       go_wp2_with fail
       exact ⟨⟨j+1,by omega,by go_num,HD2,Lh (bdrewN HQ.out _)⟩,by simp [intOf];omega⟩
     ·obtain rfl:j=k:=by omega
      have HT:Hid (goTimes [] (l.take (j+1))=true):=Lh (by
       rw [HS2.out]
       cases cb with
       | false=>rfl
       | true =>
        obtain ⟨i,h,hi,he⟩:=HCN.out.1 rfl
        exact absurd he (HD.out i h hi))
      go_wp2_with fail
      exact ⟨⟨j+1,by omega,by go_num,HT,HQ⟩,by simp [intOf];omega⟩
   ·have HF:=Lh (HBD.out (by
     rw [HS.out]
     have:¬ (withinB dy 6=true/\withinB hr 11=true):=by rw [HW.out,HW.out];exact hg
     cases h1:withinB dy 6 <;> cases h2:withinB hr 11 <;> simp_all))
    by_cases g1:dy<0
    ·clear hg
     go_wp2_with fail
     go_ret
     exact ⟨by rw [HF.out];rfl,HB.out⟩
    have d1:decide (dy<0)=false:=decide_eq_false g1
    by_cases g2:6<dy
    ·clear hg g1
     go_wp2_with fail
     go_ret
     exact ⟨by rw [HF.out];rfl,HB.out⟩
    have d2:decide (6<dy)=false:=decide_eq_false g2
    by_cases g3:hr<0
    ·clear hg g1 g2
     go_wp2_with fail
     go_ret
     exact ⟨by rw [HF.out];rfl,HB.out⟩
    have d3:decide (hr<0)=false:=decide_eq_false g3
    have d4:11<hr:=by omega
    clear hg g1 g2 g3
    go_wp2_with fail
    go_ret
    exact ⟨by rw [HF.out];rfl,HB.out⟩
  ·obtain rfl:k=l.length:=by omega
   have HT:=Lh (show goTimes [] l=true by have:=HP.out;rwa [List.take_length] at this)
   go_wp2_with fail
   go_ret
   exact ⟨by rw [HT.out,Bool.true_and];congr 2,HB.out⟩
end Go.Proofs.YtjjkfgjnadaheaaGreatDoor
/- The reference's school: may, Check. -/
namespace Go.Chalk
open Go.RowKit
def mayF (s:Schl):Bool :=
 (goNames [] (schNames s 1)&&goNames [] (schNames s 2)&&goNames [] (schNames s 3)&&goNames [] (schNames s 4)&&goNames [] (schNames s 5)) &&
 !(s.rooms.any (badRoom s.slots.length))&&!(s.people.any (badPerson s.slots.length))&&!(s.groups.any badGroup)&&!(s.lessons.any (badLesson s.people.length s.groups.length)) &&
 (goTimes [] s.slots&&decide (0<s.slots.length))&&decide (0<s.rooms.length)
theorem mayF_iff (s:Schl):mayF s=true ↔ (∀ k,k<5->goNames [] (schNames s ((k:Nat)+1:Int))=true)/\(∀ j (h:j<s.rooms.length),badRoom s.slots.length s.rooms[j]=false)/\(∀ j (h:j<s.people.length),badPerson s.slots.length s.people[j]=false) /\
  (∀ j (h:j<s.groups.length),badGroup s.groups[j]=false)/\(∀ j (h:j<s.lessons.length),badLesson s.people.length s.groups.length s.lessons[j]=false)/\((goTimes [] s.slots&&decide (0<s.slots.length))&&decide (0<s.rooms.length))=true:=by
 have ha:∀ {α:Type} (l:List α) (p:α->Bool),(!(l.any p))=true ↔ ∀ j (h:j<l.length),p l[j]=false:=fun l p=>by
  rw [Bool.not_eq_true',List.any_eq_false]
  constructor
  ·intro h j hj;simpa using h _ (List.getElem_mem hj)
  ·intro h x hx
   obtain ⟨j,hj,rfl⟩:=List.mem_iff_getElem.1 hx
   simp [h j hj]
 have hn:(goNames [] (schNames s 1)&&goNames [] (schNames s 2)&&goNames [] (schNames s 3)&&goNames [] (schNames s 4)&&goNames [] (schNames s 5))=true ↔ ∀ k,k<5->goNames [] (schNames s ((k:Nat)+1:Int))=true:=by
  simp only [Bool.and_eq_true]
  constructor
  ·rintro ⟨⟨⟨⟨h1,h2⟩,h3⟩,h4⟩,h5⟩ k hk
   match k,hk with
   | 0,_=>exact h1
   | 1,_=>exact h2
   | 2,_=>exact h3
   | 3,_=>exact h4
   | 4,_=>exact h5
  ·intro h;exact ⟨⟨⟨⟨h 0 (by omega),h 1 (by omega)⟩,h 2 (by omega)⟩,h 3 (by omega)⟩,h 4 (by omega)⟩
 unfold mayF
 rw [Bool.and_assoc _ (goTimes [] s.slots&&decide (0<s.slots.length)) _,Bool.and_eq_true,Bool.and_eq_true,Bool.and_eq_true,Bool.and_eq_true,Bool.and_eq_true,hn,ha,ha,ha,ha]
 simp only [and_assoc]
theorem check_may (s:Schl):schCheck s=if mayF s=false then 1 else if 50<s.slots.length∨32<s.rooms.length∨64<s.people.length∨64<s.groups.length∨64<s.lessons.length then 2 else 0:=by
 unfold schCheck mayF
 generalize (goNames [] (schNames s 1)&&goNames [] (schNames s 2)&&goNames [] (schNames s 3)&&goNames [] (schNames s 4)&&goNames [] (schNames s 5))=a
 generalize goTimes [] s.slots=b
 generalize s.rooms.any _=c1
 generalize s.people.any _=c2
 generalize s.groups.any _=c3
 generalize s.lessons.any _=c4
 generalize s.slots.length=n1
 generalize s.rooms.length=n2
 rcases Nat.eq_zero_or_pos n1 with h1 | h1 <;> rcases Nat.eq_zero_or_pos n2 with h2 | h2
 ·subst h1;subst h2;cases a <;> cases b <;> cases c1 <;> cases c2 <;> cases c3 <;> cases c4 <;> simp
 ·subst h1;cases a <;> cases b <;> cases c1 <;> cases c2 <;> cases c3 <;> cases c4 <;> simp
 ·subst h2;cases a <;> cases b <;> cases c1 <;> cases c2 <;> cases c3 <;> cases c4 <;> simp
 ·have e1:¬ (n1=0∨n2=0):=by omega
  have e2:decide (0<n1)=true:=decide_eq_true h1
  have e3:decide (0<n2)=true:=decide_eq_true h2
  rw [e2,e3,if_neg e1]
  cases a <;> cases b <;> cases c1 <;> cases c2 <;> cases c3 <;> cases c4 <;> simp
end Go.Chalk
namespace Go.Proofs.YtjjkfgjnadaheaaGreatDoor
open Go.RowKit Go.Chalk
theorem rmay_any (s:Schl) (x:SchA) (w:World) (hs:SchIn w (·<w.heap.size) s x) (hf:SchFit s) :
  Calls Tryz.prog 94 #[.agg (x.cells s).toArray] w fun e w'=>e=.returned (.bool (mayF s))/\Below w.heap.size w w':=by
 obtain ⟨W0,hW0⟩:∃ W0,W0=w.alloc (.cells (x.cells s).toArray 28):=⟨_,rfl⟩
 have hb0:Below w.heap.size w W0:=by rw [hW0];exact (Below.refl _ _).alloc (Nat.le_refl _) _
 have hz0:W0.heap.size=w.heap.size+1:=by rw [hW0];simp
 have hq0:SchBox W0 w.heap.size s x:=by rw [hW0];unfold SchBox;rw [heap_get,if_pos rfl]
 have HE:Hid (∀ W,Below W0.heap.size W0 W->Below w.heap.size w W/\(W.cell? ⟨w.heap.size,0,none⟩=some (.slice x.slots.a s.slots.length x.slots.cap)/\W.cell? ⟨w.heap.size,1,none⟩=some (.slice x.rooms.a s.rooms.length x.rooms.cap)/\W.cell? ⟨w.heap.size,2,none⟩=some (.slice x.people.a s.people.length x.people.cap)/\W.cell? ⟨w.heap.size,3,none⟩=some (.slice x.groups.a s.groups.length x.groups.cap)/\W.cell? ⟨w.heap.size,4,none⟩=some (.slice x.lessons.a s.lessons.length x.lessons.cap))):=Lh (fun W hW=>⟨hb0.trans (hW.mono hb0.size),(hq0.below hW).cells⟩)
 have HNS:=Lh (fun (sort:Int) (W:World) (hW:Below w.heap.size w W)=>rnames_any s x sort W (hs.later hW hW.size) hf.toSchSmall)
 have HNL:Hid (∀ sort,(schNames s sort).length<=2000000):=Lh (fun sort=>by
  have h1:=hf.toSchSmall.lessons;have h2:=hf.toSchSmall.slots;have h3:=hf.toSchSmall.rooms;have h4:=hf.toSchSmall.people;have h5:=hf.toSchSmall.groups
  show schCount s sort<=_
  rw [schCount_eq];repeat' split
  all_goals omega)
 have HNN:=Lh hf.names
 have HPL:=Lh (fun (l:List Int) (y:SlA) (n:Int) (W:World) (hy:SlIn W (·<W.heap.size) (dints l) y) (hl:l.length<=2000000)=>rplaces_any l y n W hy hl)
 have HSL:=Lh (fun (W:World) (hW:Below w.heap.size w W)=>rslots_any s.slots x.slots W (hs.slots.later hW hW.size) hf.toSchSmall.slots)
 have HFT:=Lh hf
 have HS:=Lh hs
 have HMI:=Lh (mayF_iff s)
 have HMF:Hid (∀ P:Prop,¬ P->((mayF s=true)->P)->mayF s=false):=Lh (fun P hP h=>by
  cases hm:mayF s with
  | false=>rfl
  | true=>exact absurd (h hm) hP)
 have HW0:=Lh hW0
 have HZ0:=Lh hz0
 clear hb0 hz0 hq0 hW0 hs hf
 generalize mayF s=res at HMI HMF ⊢
 simp only [SchA.cells,SlA.val] at HNS HW0 ⊢
 go_enter Tryz.func94,Tryz.ntmps94
 go_wp2_with fail
 rw [<- HW0.out]
 go_wp2_with fail
 go_loopw [3] (fun i wr=>∃ k:Nat,k<=5/\i=.int .i64 ((k:Int)+1)/\Hid (∀ j,j<k->goNames [] (schNames s ((j:Nat)+1:Int))=true)/\Hid (Below W0.heap.size W0 wr)) (fun i _=>6 - (intOf i).toNat)
 case atStart=>exact ⟨0,Nat.zero_le _,rfl,Lh (fun j h=>by omega),Lh (Below.refl _ _)⟩
 case round =>
  obtain ⟨k,hk,rfl,HP,HB⟩:=hrel
  by_cases hlt:k<5
  ·obtain ⟨_,c0,c1,c2,c3,c4⟩:=HE.out wr HB.out
   have HNC:=Lh (HNS.out ((k:Int)+1) wr (HE.out wr HB.out).1)
   have hle:(k:Int)+1<=5:=by omega
   have HNL2:=Lh (HNL.out ((k:Int)+1))
   have HNN2:=Lh (HNN.out ((k:Int)+1))
   have HPK:Hid (goNames [] (schNames s ((k:Int)+1))=true->∀ j,j<k+1->goNames [] (schNames s ((j:Nat)+1:Int))=true):=Lh (fun h j hj=>by
    by_cases e:j=k
    ·subst e;exact h
    ·exact HP.out j (by omega))
   have HFK:Hid (goNames [] (schNames s ((k:Int)+1))=false->res=false):=Lh (fun h=>HMF.out (goNames [] (schNames s ((k:Int)+1))=true) (by rw [h];decide) (fun hm=>(HMI.out.1 hm).1 k hlt))
   generalize schNames s ((k:Int)+1)=ns at HNC HNL2 HNN2 HPK HFK
   go_wp2_with fail
   refine HNC.out.mono ?_
   rintro e w2 ⟨y,rfl,hy,hb2⟩
   have H2:=Lh (HB.out.trans (hb2.mono HB.out.size))
   have HND:=Lh (rnamedl_any ns y w2 hy HNL2.out HNN2.out)
   clear hy hb2 c0 c1 c2 c3 c4
   go_wp2_with fail
   refine HND.out.mono ?_
   rintro e w3 ⟨rfl,hb3⟩
   have H3:=Lh (H2.out.trans (hb3.mono H2.out.size))
   clear hb3
   cases hg:goNames [] ns
   ·have HF:=Lh (HFK.out hg)
    go_wp2_with fail
    go_ret
    exact ⟨by rw [HF.out];rfl,(HE.out _ H3.out).1⟩
   ·have HT:=Lh (HPK.out hg)
    go_wp2_with fail
    exact ⟨⟨k+1,by omega,by go_num,HT,H3⟩,by simp [intOf];omega⟩
  ·obtain rfl:k=5:=by omega
   obtain ⟨wo,hwo⟩:∃ wo,wo=wr:=⟨_,rfl⟩
   subst hwo
   obtain ⟨_,c0,c1,c2,c3,c4⟩:=HE.out wo HB.out
   have hsb:w.heap.size<wo.heap.size:=by have:=HB.out.size;have:=HZ0.out;omega
   clear hlt hk
   rw [show (((5:Nat):Int)+1)=6 from rfl]
   go_wp2_with fail
   clear c0 c1 c2 c3 c4 hsb
   go_loopw [4] (fun i wr=>∃ k:Nat,k<=s.rooms.length/\i=.int .i64 k/\Hid (∀ j (h:j<s.rooms.length),j<k->badRoom s.slots.length s.rooms[j]=false)/\Hid (Below W0.heap.size W0 wr)) (fun i _=>s.rooms.length - (intOf i).toNat)
   case atStart=>exact ⟨0,Nat.zero_le _,rfl,Lh (fun j _ h=>by omega),HB⟩
   case round =>
    obtain ⟨k,hk,rfl,HP2,HB2⟩:=hrel
    obtain ⟨_,c0,c1,c2,c3,c4⟩:=HE.out wr HB2.out
    have hsb:w.heap.size<wr.heap.size:=by have:=HB2.out.size;have:=HZ0.out;omega
    have hm1:=HFT.out.toSchSmall.rooms
    by_cases hlt:k<s.rooms.length
    ·obtain ⟨y,hy,_,_,_,hc⟩:=HS.out.rooms.rom k hlt
     obtain ⟨hxa,hxb⟩:=HS.out.rooms.at_ (by rw [List.length_map];omega)
     have hbw:=(HE.out wr HB2.out).1
     obtain ⟨e0,e1,e2,e3⟩:=(hc.agree (agree_of_below hbw) hxb).four
     have hxb2:x.rooms.b<wr.heap.size:=Nat.lt_of_lt_of_le hxb hbw.size
     have HSH:=Lh (HFT.out.shut _ (List.getElem_mem hlt))
     have HPC:=Lh (fun (W:World) (hW:Below w.heap.size w W)=>HPL.out s.rooms[k].shut y s.slots.length W (hy.later hW hW.size) HSH.out)
     have HBR:Hid (badRoom s.slots.length s.rooms[k]=(!(withinB s.rooms[k].house 7)||!(withinB s.rooms[k].seats 1000)||!(placesB s.rooms[k].shut s.slots.length))):=Lh rfl
     have HPK:Hid (badRoom s.slots.length s.rooms[k]=false->∀ j (h:j<s.rooms.length),j<k+1->badRoom s.slots.length s.rooms[j]=false):=Lh (fun h j h2 hj=>by
      by_cases e:j=k
      ·subst e;exact h
      ·exact HP2.out j h2 (by omega))
     have HFK:Hid (badRoom s.slots.length s.rooms[k]=true->res=false):=Lh (fun h=>HMF.out (badRoom s.slots.length s.rooms[k]=false) (by rw [h];decide) (fun hm=>(HMI.out.1 hm).2.1 k hlt))
     have HW:Hid (∀ n m:Int,withinB n m=true ↔ 0<=n/\n<=m):=Lh (fun n m=>by unfold withinB;simp)
     have HBA:=Lh (fun (o:Obj)=>HB2.out.trans (((Below.refl wr.heap.size wr).alloc (Nat.le_refl _) o).mono HB2.out.size))
     have i1:(0:Int)<=(k:Int):=by omega
     have i2:(k:Int)<(s.rooms.length:Int):=by omega
     rw [hxa] at c1
     clear hy hc hbw hxa
     generalize badRoom s.slots.length s.rooms[k]=br at HBR HPK HFK
     generalize placesB s.rooms[k].shut s.slots.length=pb at HPC HBR
     generalize s.rooms[k].shut.length=sl at e3 HPC
     generalize s.rooms[k].house=ho at e1 HBR
     generalize s.rooms[k].seats=se at e2 HBR
     generalize (⟨(s.rooms[k]).name.toArray⟩:ByteArray)=nm at e0
     by_cases g1:ho<0
     ·have HF:=Lh (HFK.out (by rw [HBR.out,(by cases h:withinB ho 7 with | false=>rfl | true=>(have:=(HW.out _ _).1 h;omega):withinB ho 7=false)];rfl))
      go_wp2_with fail
      go_ret
      exact ⟨by rw [HF.out];rfl,(HE.out _ (HBA.out _)).1⟩
     have d1:decide (ho<0)=false:=decide_eq_false g1
     by_cases g2:7<ho
     ·have HF:=Lh (HFK.out (by rw [HBR.out,(by cases h:withinB ho 7 with | false=>rfl | true=>(have:=(HW.out _ _).1 h;omega):withinB ho 7=false)];rfl))
      clear g1
      go_wp2_with fail
      go_ret
      exact ⟨by rw [HF.out];rfl,(HE.out _ (HBA.out _)).1⟩
     have d2:decide (7<ho)=false:=decide_eq_false g2
     have f1:=(HW.out ho 7).2 ⟨by omega,by omega⟩
     by_cases g3:se<0
     ·have HF:=Lh (HFK.out (by rw [HBR.out,f1,(by cases h:withinB se 1000 with | false=>rfl | true=>(have:=(HW.out _ _).1 h;omega):withinB se 1000=false)];rfl))
      clear g1 g2 f1
      go_wp2_with fail
      go_ret
      exact ⟨by rw [HF.out];rfl,(HE.out _ (HBA.out _)).1⟩
     have d3:decide (se<0)=false:=decide_eq_false g3
     by_cases g4:1000<se
     ·have HF:=Lh (HFK.out (by rw [HBR.out,f1,(by cases h:withinB se 1000 with | false=>rfl | true=>(have:=(HW.out _ _).1 h;omega):withinB se 1000=false)];rfl))
      clear g1 g2 g3 f1
      go_wp2_with fail
      go_ret
      exact ⟨by rw [HF.out];rfl,(HE.out _ (HBA.out _)).1⟩
     have d4:decide (1000<se)=false:=decide_eq_false g4
     have f2:=(HW.out se 1000).2 ⟨by omega,by omega⟩
     have HBR2:=Lh (show br = !pb by rw [HBR.out,f1,f2];simp)
     clear g1 g2 g3 g4 f1 f2
     go_wp2_with fail
     refine (HPC.out _ (HE.out _ (HBA.out _)).1).mono ?_
     rintro e w2 ⟨rfl,hb2⟩
     have H2:=Lh ((HBA.out _).trans (hb2.mono (HBA.out _).size))
     clear hb2 d1 d2 d3 d4 e0 e1 e2 e3 c0 c1 c2 c3 c4
     cases pb
     ·have HF:=Lh (HFK.out (by rw [HBR2.out];rfl))
      go_wp2_with fail
      go_ret
      exact ⟨by rw [HF.out];rfl,(HE.out _ H2.out).1⟩
     ·have HT:=Lh (HPK.out (by rw [HBR2.out];rfl))
      go_wp2_with fail
      exact ⟨⟨k+1,by omega,by go_num,HT,H2⟩,by simp [intOf];omega⟩
    ·obtain rfl:k=s.rooms.length:=by omega
     have HPR:Hid (∀ j (h:j<s.rooms.length),badRoom s.slots.length s.rooms[j]=false):=Lh (fun j h=>HP2.out j h h)
     obtain ⟨wo2,hwo⟩:∃ wo,wo=wr:=⟨_,rfl⟩
     subst hwo
     clear hlt hk
     go_wp2_with fail
     clear c0 c1 c2 c3 c4 hsb
     go_loopw [6] (fun i wr=>∃ k:Nat,k<=s.people.length/\i=.int .i64 k/\Hid (∀ j (h:j<s.people.length),j<k->badPerson s.slots.length s.people[j]=false)/\Hid (Below W0.heap.size W0 wr)) (fun i _=>s.people.length - (intOf i).toNat)
     case atStart=>exact ⟨0,Nat.zero_le _,rfl,Lh (fun j _ h=>by omega),HB2⟩
     case round =>
      obtain ⟨k,hk,rfl,HP3,HB3⟩:=hrel
      obtain ⟨_,c0,c1,c2,c3,c4⟩:=HE.out wr HB3.out
      have hm1:=HFT.out.toSchSmall.people
      by_cases hlt:k<s.people.length
      ·obtain ⟨y,hy,_,hc⟩:=HS.out.people.psn k hlt
       obtain ⟨hxa,hxb⟩:=HS.out.people.at_ (by rw [List.length_map];omega)
       have hbw:=(HE.out wr HB3.out).1
       have HCC:=Lh (aI hxb hc)
       have HSH:=Lh (HFT.out.away _ (List.getElem_mem hlt))
       have HPC:=Lh (fun (W:World) (hW:Below w.heap.size w W)=>HPL.out s.people[k].away y s.slots.length W (hy.later hW hW.size) HSH.out)
       have HBR:Hid (badPerson s.slots.length s.people[k] = !(placesB s.people[k].away s.slots.length)):=Lh rfl
       have HPK:Hid (badPerson s.slots.length s.people[k]=false->∀ j (h:j<s.people.length),j<k+1->badPerson s.slots.length s.people[j]=false):=Lh (fun h j h2 hj=>by
        by_cases e:j=k
        ·subst e;exact h
        ·exact HP3.out j h2 (by omega))
       have HFK:Hid (badPerson s.slots.length s.people[k]=true->res=false):=Lh (fun h=>HMF.out (badPerson s.slots.length s.people[k]=false) (by rw [h];decide) (fun hm=>(HMI.out.1 hm).2.2.1 k hlt))
       have HXA:=Lh hxa
       have i1:(0:Int)<=(k:Int):=by omega
       have i2:(k:Int)<(s.people.length:Int):=by omega
       generalize badPerson s.slots.length s.people[k]=br at HBR HPK HFK
       generalize placesB s.people[k].away s.slots.length=pb at HPC HBR
       have hc2:=HCC.out.2
       generalize s.people[k].away.length=sl at hc2 HPC HCC
       have HK:Hid (∀ W,Below wr.heap.size wr W->W.cell? ⟨w.heap.size,0,none⟩=some (.slice x.slots.a s.slots.length x.slots.cap)/\W.cell? ⟨w.heap.size,2,none⟩=some (.slice (some ⟨x.people.b,x.people.o,none⟩) s.people.length x.people.cap)/\W.cell? ⟨x.people.b,x.people.o+k*2+1,none⟩=some (.slice y.a sl y.cap)):=Lh (fun W hW=>by
        obtain ⟨hw1,q0,q1,q2,q3,q4⟩:=HE.out W (HB3.out.trans (hW.mono HB3.out.size))
        rw [HXA.out] at q2
        exact ⟨q0,q2,((HCC.out.2.agree (agree_of_below hw1) HCC.out.1).two).2⟩)
       clear hy hc hbw hxa hc2
       go_wp2_with fail
       clear c0 c1 c2 c3 c4
       go_region_held3 (fun w'=>w'.cell? ⟨w.heap.size,0,none⟩=some (.slice x.slots.a s.slots.length x.slots.cap)/\w'.cell? ⟨w.heap.size,2,none⟩=some (.slice (some ⟨x.people.b,x.people.o,none⟩) s.people.length x.people.cap)/\w'.cell? ⟨x.people.b,x.people.o+k*2+1,none⟩=some (.slice y.a sl y.cap)) ((refine HK.out _ ?_;first | exact HC1.out | exact (Below.refl _ _).drew | fail))
        (first | (go_at_call 166;refine (HPC.out _ (HE.out _ HB3.out).1.drew).mono ?_;rintro e w2 ⟨rfl,hbb⟩;have HC1:=Lh ((Below.refl wr.heap.size wr).drew.trans hbb:Below wr.heap.size wr _);clear hbb))
       all_goals
        have H2:=Lh (HB3.out.trans (HC1.out.mono HB3.out.size))
        cases pb
        ·have HF:=Lh (HFK.out (by rw [HBR.out];rfl))
         go_wp2_with fail
         go_ret
         exact ⟨by rw [HF.out];rfl,(HE.out _ H2.out).1⟩
        ·have HT:=Lh (HPK.out (by rw [HBR.out];rfl))
         go_wp2_with fail
         exact ⟨⟨k+1,by omega,by go_num,HT,H2⟩,by simp [intOf];omega⟩
      ·obtain rfl:k=s.people.length:=by omega
       have HPE:Hid (∀ j (h:j<s.people.length),badPerson s.slots.length s.people[j]=false):=Lh (fun j h=>HP3.out j h h)
       obtain ⟨wo3,hwo⟩:∃ wo,wo=wr:=⟨_,rfl⟩
       subst hwo
       clear hlt hk
       go_wp2_with fail
       clear c0 c1 c2 c3 c4
       go_loopw [7] (fun i wr=>∃ k:Nat,k<=s.groups.length/\i=.int .i64 k/\Hid (∀ j (h:j<s.groups.length),j<k->badGroup s.groups[j]=false)/\Hid (Below W0.heap.size W0 wr)) (fun i _=>s.groups.length - (intOf i).toNat)
       case atStart=>exact ⟨0,Nat.zero_le _,rfl,Lh (fun j _ h=>by omega),HB3⟩
       case round =>
        obtain ⟨k,hk,rfl,HP4,HB4⟩:=hrel
        obtain ⟨_,c0,c1,c2,c3,c4⟩:=HE.out wr HB4.out
        have hm1:=HFT.out.toSchSmall.groups
        by_cases hlt:k<s.groups.length
        ·obtain ⟨hxa,hxb⟩:=HS.out.groups.at_ (by rw [List.length_map];omega)
         have hbw:=(HE.out wr HB4.out).1
         obtain ⟨_,_,_,hgf,_⟩:=HS.out.groups.flat Grp.flatT
         obtain ⟨_,p1⟩:=hgf.two k hlt rfl
         have e1:=(hbw.cell (p:=⟨x.groups.b,x.groups.o+k*2+1,none⟩) hxb).trans p1
         have HBR:Hid (badGroup s.groups[k] = !(withinB s.groups[k].size 1000)):=Lh rfl
         have HPK:Hid (badGroup s.groups[k]=false->∀ j (h:j<s.groups.length),j<k+1->badGroup s.groups[j]=false):=Lh (fun h j h2 hj=>by
          by_cases e:j=k
          ·subst e;exact h
          ·exact HP4.out j h2 (by omega))
         have HFK:Hid (badGroup s.groups[k]=true->res=false):=Lh (fun h=>HMF.out (badGroup s.groups[k]=false) (by rw [h];decide) (fun hm=>(HMI.out.1 hm).2.2.2.1 k hlt))
         have HW:Hid (∀ n m:Int,withinB n m=true ↔ 0<=n/\n<=m):=Lh (fun n m=>by unfold withinB;simp)
         have i1:(0:Int)<=(k:Int):=by omega
         have i2:(k:Int)<(s.groups.length:Int):=by omega
         rw [hxa] at c3
         clear hbw hxa hgf p1
         generalize badGroup s.groups[k]=br at HBR HPK HFK
         generalize s.groups[k].size=se at e1 HBR
         by_cases g3:se<0
         ·have HF:=Lh (HFK.out (by rw [HBR.out,(by cases h:withinB se 1000 with | false=>rfl | true=>(have:=(HW.out _ _).1 h;omega):withinB se 1000=false)];rfl))
          go_wp2_with fail
          go_ret
          exact ⟨by rw [HF.out];rfl,(HE.out _ HB4.out).1⟩
         have d3:decide (se<0)=false:=decide_eq_false g3
         by_cases g4:1000<se
         ·have HF:=Lh (HFK.out (by rw [HBR.out,(by cases h:withinB se 1000 with | false=>rfl | true=>(have:=(HW.out _ _).1 h;omega):withinB se 1000=false)];rfl))
          clear g3
          go_wp2_with fail
          go_ret
          exact ⟨by rw [HF.out];rfl,(HE.out _ HB4.out).1⟩
         have d4:decide (1000<se)=false:=decide_eq_false g4
         have HT:=Lh (HPK.out (by rw [HBR.out,(HW.out se 1000).2 ⟨by omega,by omega⟩];rfl))
         clear g3 g4
         go_wp2_with fail
         exact ⟨⟨k+1,by omega,by go_num,HT,HB4⟩,by simp [intOf];omega⟩
        ·obtain rfl:k=s.groups.length:=by omega
         have HGR:Hid (∀ j (h:j<s.groups.length),badGroup s.groups[j]=false):=Lh (fun j h=>HP4.out j h h)
         obtain ⟨wo4,hwo⟩:∃ wo,wo=wr:=⟨_,rfl⟩
         subst hwo
         clear hlt hk
         go_wp2_with fail
         clear c0 c1 c2 c3 c4
         go_loopw [8] (fun i wr=>∃ k:Nat,k<=s.lessons.length/\i=.int .i64 k/\Hid (∀ j (h:j<s.lessons.length),j<k->badLesson s.people.length s.groups.length s.lessons[j]=false)/\Hid (Below W0.heap.size W0 wr)) (fun i _=>s.lessons.length - (intOf i).toNat)
         case atStart=>exact ⟨0,Nat.zero_le _,rfl,Lh (fun j _ h=>by omega),HB4⟩
         case round =>
          obtain ⟨k,hk,rfl,HP5,HB5⟩:=hrel
          obtain ⟨_,c0,c1,c2,c3,c4⟩:=HE.out wr HB5.out
          have hm1:=HFT.out.toSchSmall.lessons
          by_cases hlt:k<s.lessons.length
          ·obtain ⟨y,z,hy,hz,_,hc⟩:=HS.out.lessons.lsn k hlt
           obtain ⟨hxa,hxb⟩:=HS.out.lessons.at_ (by rw [List.length_map];omega)
           have HCC:=Lh (aI hxb hc)
           have HSH:=Lh (aI (HFT.out.who _ (List.getElem_mem hlt)) (HFT.out.grps _ (List.getElem_mem hlt)))
           have hbw:=(HE.out wr HB5.out).1
           have HP1:=Lh (fun (n:Nat)=>rplaces_q s.lessons[k].who y s.people.length (wr.drewN n) (hy.later (bdrewN hbw n) hbw.size) HSH.out.1)
           have HP2':=Lh (fun (n:Nat)=>rplaces_q s.lessons[k].groups z s.groups.length (wr.drewN n) (hz.later (bdrewN hbw n) hbw.size) HSH.out.2)
           obtain ⟨_,e1,e2⟩:=(hc.agree (agree_of_below hbw) hxb).three
           have HBR:Hid (badLesson s.people.length s.groups.length s.lessons[k]=(!(placesB s.lessons[k].who s.people.length)||!(placesB s.lessons[k].groups s.groups.length))):=Lh rfl
           have HPK:Hid (badLesson s.people.length s.groups.length s.lessons[k]=false->∀ j (h:j<s.lessons.length),j<k+1->badLesson s.people.length s.groups.length s.lessons[j]=false):=Lh (fun h j h2 hj=>by
            by_cases e:j=k
            ·subst e;exact h
            ·exact HP5.out j h2 (by omega))
           have HFK:Hid (badLesson s.people.length s.groups.length s.lessons[k]=true->res=false):=Lh (fun h=>HMF.out (badLesson s.people.length s.groups.length s.lessons[k]=false) (by rw [h];decide) (fun hm=>(HMI.out.1 hm).2.2.2.2.1 k hlt))
           have HXA:=Lh hxa
           have i1:(0:Int)<=(k:Int):=by omega
           have i2:(k:Int)<(s.lessons.length:Int):=by omega
           generalize badLesson s.people.length s.groups.length s.lessons[k]=br at HBR HPK HFK
           generalize placesB s.lessons[k].who s.people.length=pb at HP1 HBR
           generalize placesB s.lessons[k].groups s.groups.length=pc at HP2' HBR
           generalize s.lessons[k].who.length=sl at e1 HP1
           generalize s.lessons[k].groups.length=sl2 at e2 HP2'
           rw [hxa] at c4
           clear hy hz hc hxa hbw HCC HXA
           cases pb
           ·have HF:=Lh (HFK.out (by rw [HBR.out];rfl))
            go_wp2_with fail
            go_quiet (first | (go_at_call 166;with_reducible refine Calls.quiet_of (HP1.out _)))
            go_wp2_with fail
            go_ret
            exact ⟨by rw [HF.out];rfl,(HE.out _ (bdrewN HB5.out _)).1⟩
           ·cases pc
            ·have HF:=Lh (HFK.out (by rw [HBR.out];rfl))
             go_wp2_with fail
             go_quiet (first | (go_at_call 166;with_reducible refine Calls.quiet_of (HP1.out _)) | (go_at_call 166;with_reducible refine Calls.quiet_of (HP2'.out _)))
             go_wp2_with fail
             go_ret
             exact ⟨by rw [HF.out];rfl,(HE.out _ (bdrewN HB5.out _)).1⟩
            ·have HT:=Lh (HPK.out (by rw [HBR.out];rfl))
             go_wp2_with fail
             go_quiet (first | (go_at_call 166;with_reducible refine Calls.quiet_of (HP1.out _)) | (go_at_call 166;with_reducible refine Calls.quiet_of (HP2'.out _)))
             go_wp2_with fail
             exact ⟨⟨k+1,by omega,by go_num,HT,Lh (bdrewN HB5.out _)⟩,by simp [intOf];omega⟩
          ·obtain rfl:k=s.lessons.length:=by omega
           have HT:Hid (res=((goTimes [] s.slots&&decide (0<s.slots.length))&&decide (0<s.rooms.length))):=Lh (by
            rw [Bool.eq_iff_iff,HMI.out]
            constructor
            ·exact fun h=>h.2.2.2.2.2
            ·exact fun h=>⟨fun j hj=>HP.out j hj,HPR.out,HPE.out,HGR.out,fun j hj=>HP5.out j hj hj,h⟩)
           have HSC:=Lh (HSL.out wr (HE.out wr HB5.out).1)
           generalize (goTimes [] s.slots&&decide (0<s.slots.length))=gb at HT HSC
           clear hlt hk
           go_wp2_with fail
           refine HSC.out.mono ?_
           rintro e w2 ⟨rfl,hb2⟩
           have H2:=Lh (HB5.out.trans (hb2.mono HB5.out.size))
           clear hb2 c0 c1 c2 c3 c4
           obtain ⟨_,c0,c1,c2,c3,c4⟩:=HE.out w2 H2.out
           have hr0:decide ((0:Int)<(s.rooms.length:Int))=decide (0<s.rooms.length):=by rw [Bool.eq_iff_iff];simp
           have HR0:=Lh hr0
           clear hr0
           cases gb
           ·go_wp2_with fail
            go_ret
            exact ⟨by rw [HT.out];rfl,(HE.out _ H2.out).1⟩
           ·go_wp2_with fail
            go_ret
            exact ⟨by rw [HT.out,<- HR0.out];rfl,(HE.out _ H2.out).1⟩
end Go.Proofs.YtjjkfgjnadaheaaGreatDoor
/- The reference's school: Check. -/
namespace Go.Proofs.YtjjkfgjnadaheaaGreatDoor
open Go.RowKit Go.Chalk
theorem rcheck_any (s:Schl) (x:SchA) (w:World) (hs:SchIn w (·<w.heap.size) s x) (hf:SchFit s) :
  Calls Tryz.prog 47 #[.agg (x.cells s).toArray] w fun e w'=>e=.returned (.int .i64 (schCheck s))/\Below w.heap.size w w':=by
 obtain ⟨W0,hW0⟩:∃ W0,W0=w.alloc (.cells (x.cells s).toArray 28):=⟨_,rfl⟩
 have hb0:Below w.heap.size w W0:=by rw [hW0];exact (Below.refl _ _).alloc (Nat.le_refl _) _
 have hq0:SchBox W0 w.heap.size s x:=by rw [hW0];unfold SchBox;rw [heap_get,if_pos rfl]
 have HM:=Lh (rmay_any s x W0 (hs.later hb0 hb0.size) hf)
 have HR:=Lh (check_may s)
 have HB:=Lh (aI hb0 hq0)
 have HW0:=Lh hW0
 obtain ⟨c0,c1,c2,c3,c4⟩:=hq0.cells
 clear hb0 hq0 hW0 hs hf
 generalize schCheck s=res at HR ⊢
 generalize mayF s=mf at HM HR
 simp only [SchA.cells,SlA.val] at HM HW0 ⊢
 go_enter Tryz.func47,Tryz.ntmps47
 go_wp2_with fail
 rw [<- HW0.out]
 refine HM.out.mono ?_
 rintro e w1 ⟨rfl,hb1⟩
 have H1:=Lh (aI (HB.out.1.trans (hb1.mono HB.out.1.size)) (HB.out.2.below hb1))
 clear hb1 c0 c1 c2 c3 c4
 cases mf
 ·have HF:Hid (res=1):=Lh (by rw [HR.out,if_pos rfl])
  go_wp2_with fail
  go_ret
  exact ⟨by rw [HF.out];rfl,H1.out.1⟩
 have HR2:Hid (res=if 50<s.slots.length∨32<s.rooms.length∨64<s.people.length∨64<s.groups.length∨64<s.lessons.length then 2 else 0):=Lh (by rw [HR.out,if_neg (by decide)])
 obtain ⟨c0,c1,c2,c3,c4⟩:=H1.out.2.cells
 by_cases hbig:50<s.slots.length∨32<s.rooms.length∨64<s.people.length∨64<s.groups.length∨64<s.lessons.length
 ·have HF:Hid (res=2):=Lh (by rw [HR2.out,if_pos hbig])
  clear HR HR2
  go_wp2_with fail
  all_goals first
   | (go_ret;exact ⟨by rw [HF.out];rfl,H1.out.1⟩)
   | (exfalso;omega)
 ·have HF:Hid (res=0):=Lh (by rw [HR2.out,if_neg hbig])
  have d0:decide ((50:Int)<(s.slots.length:Int))=false:=by simp;omega
  have d1:decide ((32:Int)<(s.rooms.length:Int))=false:=by simp;omega
  have d2:decide ((64:Int)<(s.people.length:Int))=false:=by simp;omega
  have d3:decide ((64:Int)<(s.groups.length:Int))=false:=by simp;omega
  have d4:decide ((64:Int)<(s.lessons.length:Int))=false:=by simp;omega
  clear hbig HR HR2
  go_wp2_with fail
  go_ret
  exact ⟨by rw [HF.out];rfl,H1.out.1⟩
end Go.Proofs.YtjjkfgjnadaheaaGreatDoor
/- The reference's week: At, In. -/
namespace Go.Proofs.YtjjkfgjnadaheaaGreatDoor
open Go.RowKit Go.Chalk
theorem rat_any (s:Schl) (x:SchA) (i j:Int) (w:World) (hs1:s.lessons.length<=2000000) (hs2:s.slots.length<=2000000) (hs3:s.rooms.length<=2000000) :
  Calls Tryz.prog 48 #[.agg (x.cells s).toArray,.int .i64 i,.int .i64 j] w fun e w'=>e=.returned (.int .i64 (wkAt s i j))/\Below w.heap.size w w':=by
 simp only [SchA.cells,SlA.val]
 unfold wkAt
 by_cases hc:(0<=i/\i<(s.lessons.length:Int))/\0<=j/\j<(s.slots.length:Int)
 ·rw [if_pos hc]
  obtain ⟨⟨a1,a2⟩,a3,a4⟩:=hc
  have d1:decide (i<0)=false:=by simp;omega
  have d2:decide ((s.lessons.length:Int)<=i)=false:=by simp;omega
  have d3:decide (j<0)=false:=by simp;omega
  have d4:decide ((s.slots.length:Int)<=j)=false:=by simp;omega
  have hmu:=mul_fit _ _ hs1 hs2 i a1 (by omega)
  have hmv:=mul_fit _ _ hs1 hs2 s.lessons.length (by omega) (by omega)
  have hm0:=hmu.1
  have hm1:=hmu.2
  have hv0:=hmv.1
  have hv1:=hmv.2
  clear hmu hmv
  generalize hml:i*(s.slots.length:Int)=ml at hm0 hm1 ⊢
  clear hv0 hv1
  go_enter Tryz.func48,Tryz.ntmps48
  go_wp2_with fail
  go_ret
  exact ⟨ret_int (by omega),(Below.refl _ _).alloc (Nat.le_refl _) _⟩
 ·rw [if_neg hc]
  by_cases b1:i<0
  ·go_enter Tryz.func48,Tryz.ntmps48
   go_wp2_with fail
   go_ret
   exact ⟨rfl,(Below.refl _ _).alloc (Nat.le_refl _) _⟩
  have d1:decide (i<0)=false:=decide_eq_false b1
  by_cases b2:(s.lessons.length:Int)<=i
  ·clear b1 hc
   go_enter Tryz.func48,Tryz.ntmps48
   go_wp2_with fail
   go_ret
   exact ⟨rfl,(Below.refl _ _).alloc (Nat.le_refl _) _⟩
  have d2:decide ((s.lessons.length:Int)<=i)=false:=decide_eq_false b2
  by_cases b3:j<0
  ·clear b1 b2 hc
   go_enter Tryz.func48,Tryz.ntmps48
   go_wp2_with fail
   go_ret
   exact ⟨rfl,(Below.refl _ _).alloc (Nat.le_refl _) _⟩
  have d3:decide (j<0)=false:=decide_eq_false b3
  have b4:(s.slots.length:Int)<=j:=by omega
  clear b1 b2 b3 hc
  go_enter Tryz.func48,Tryz.ntmps48
  go_wp2_with fail
  go_ret
  exact ⟨rfl,(Below.refl _ _).alloc (Nat.le_refl _) _⟩
theorem rin_any (s:Schl) (x:SchA) (i j:Int) (w:World) (hs1:s.lessons.length<=2000000) (hs2:s.slots.length<=2000000) (hs3:s.rooms.length<=2000000) :
  Calls Tryz.prog 49 #[.agg (x.cells s).toArray,.int .i64 i,.int .i64 j] w fun e w'=>e=.returned (.int .i64 (wkIn s i j))/\Below w.heap.size w w':=by
 simp only [SchA.cells,SlA.val]
 unfold wkIn
 by_cases hc:(0<=i/\i<(s.lessons.length:Int))/\0<=j/\j<(s.rooms.length:Int)
 ·rw [if_pos hc]
  obtain ⟨⟨a1,a2⟩,a3,a4⟩:=hc
  have d1:decide (i<0)=false:=by simp;omega
  have d2:decide ((s.lessons.length:Int)<=i)=false:=by simp;omega
  have d3:decide (j<0)=false:=by simp;omega
  have d4:decide ((s.rooms.length:Int)<=j)=false:=by simp;omega
  have hmu:=mul_fit _ _ hs1 hs3 i a1 (by omega)
  have hmv:=mul_fit _ _ hs1 hs2 s.lessons.length (by omega) (by omega)
  have hm0:=hmu.1
  have hm1:=hmu.2
  have hv0:=hmv.1
  have hv1:=hmv.2
  clear hmu hmv
  generalize hml:i*(s.rooms.length:Int)=ml at hm0 hm1 ⊢
  generalize hmm:(s.lessons.length:Int)*(s.slots.length:Int)=mm at hv0 hv1 ⊢
  go_enter Tryz.func49,Tryz.ntmps49
  go_wp2_with fail
  go_ret
  exact ⟨ret_int (by omega),(Below.refl _ _).alloc (Nat.le_refl _) _⟩
 ·rw [if_neg hc]
  by_cases b1:i<0
  ·go_enter Tryz.func49,Tryz.ntmps49
   go_wp2_with fail
   go_ret
   exact ⟨rfl,(Below.refl _ _).alloc (Nat.le_refl _) _⟩
  have d1:decide (i<0)=false:=decide_eq_false b1
  by_cases b2:(s.lessons.length:Int)<=i
  ·clear b1 hc
   go_enter Tryz.func49,Tryz.ntmps49
   go_wp2_with fail
   go_ret
   exact ⟨rfl,(Below.refl _ _).alloc (Nat.le_refl _) _⟩
  have d2:decide ((s.lessons.length:Int)<=i)=false:=decide_eq_false b2
  by_cases b3:j<0
  ·clear b1 b2 hc
   go_enter Tryz.func49,Tryz.ntmps49
   go_wp2_with fail
   go_ret
   exact ⟨rfl,(Below.refl _ _).alloc (Nat.le_refl _) _⟩
  have d3:decide (j<0)=false:=decide_eq_false b3
  have b4:(s.rooms.length:Int)<=j:=by omega
  clear b1 b2 b3 hc
  go_enter Tryz.func49,Tryz.ntmps49
  go_wp2_with fail
  go_ret
  exact ⟨rfl,(Below.refl _ _).alloc (Nat.le_refl _) _⟩
end Go.Proofs.YtjjkfgjnadaheaaGreatDoor
