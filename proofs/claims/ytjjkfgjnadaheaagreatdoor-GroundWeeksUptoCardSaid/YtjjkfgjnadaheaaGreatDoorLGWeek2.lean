/- Joined texts: GFewT, GOnly, GOneP, GWeekP, GOf. -/
import Derived.Test.YtjjkfgjnadaheaaGreatDoorB43
import Derived.Test.YtjjkfgjnadaheaaGreatDoorB09
import Derived.Test.YtjjkfgjnadaheaaGreatDoorB12
import Derived.Test.YtjjkfgjnadaheaaGreatDoorB45
import Derived.Test.YtjjkfgjnadaheaaGreatDoorB07
import Derived.Test.YtjjkfgjnadaheaaGreatDoorB08
import Derived.Test.YtjjkfgjnadaheaaGreatDoorB35
import Derived.Test.YtjjkfgjnadaheaaGreatDoorB40
set_option linter.unusedVariables false
set_option linter.unusedSimpArgs false
set_option maxHeartbeats 8000000
set_option maxRecDepth 100000

/- The reference's Few of a school: where it says yes, the school is small. -/
namespace Go.Proofs.YtjjkfgjnadaheaaGreatDoor
open Go.RowKit Go.Chalk
def FewB (s:Schl) (e:Ending):Prop:=∃ b:Bool,e=.returned (.bool b)/\(b=true->s.lessons.length<=5/\s.slots.length<=6/\s.rooms.length<=4)
theorem rfew10_tight (s:Schl) (x:SchA) (w:World) (hs:SchIn w (·<w.heap.size) s x) (hsm:s.lessons.length<=2000000) :
  Calls Tryz.prog 15 #[.agg (x.cells s).toArray] w fun e w'=>FewB s e/\Below w.heap.size w w':=by
 have hba:Below w.heap.size w (w.alloc (.cells (x.cells s).toArray 28)):=(Below.refl _ _).alloc (Nat.le_refl _) _
 have hbx:SchBox (w.alloc (.cells (x.cells s).toArray 28)) w.heap.size s x:=by unfold SchBox;rw [heap_get,if_pos rfl]
 have HB:=Lh (aI hba hbx)
 have HS:=Lh hs
 have HSM:=Lh hsm
 obtain ⟨c0,c1,c2,c3,c4⟩:=hbx.cells
 clear hs hsm hba hbx
 simp only [SchA.cells,SlA.val] at HB c0 c1 c2 c3 c4 ⊢
 go_enter Tryz.func15,Tryz.ntmps15
 go_wp2_with fail
 clear c0 c1 c2 c3 c4
 go_loopw [8] (fun i wr=>∃ (j:Nat),j<=s.lessons.length/\i=.int .i64 j/\Below w.heap.size w wr/\Hid (SchBox wr w.heap.size s x)) (fun i _=>s.lessons.length - (intOf i).toNat)
 case atStart=>exact ⟨0,Nat.zero_le _,rfl,HB.out.1,Lh HB.out.2⟩
 case round =>
  obtain ⟨j,hj,rfl,hb,HBX⟩:=hrel
  have HB0:=Lh hb
  have hsm:=HSM.out
  by_cases hlt:j<s.lessons.length
  ·obtain ⟨y1,y2,_,_,_,hy2⟩:=HS.out.lessons.lsn j hlt
   obtain ⟨hxa,hFb⟩:=HS.out.lessons.at_ (by rw [List.length_map];omega)
   obtain ⟨e0,e1,e2⟩:=(hy2.agree (agree_of_below hb) hFb).three
   have hlt2:x.lessons.b<wr.heap.size:=Nat.lt_of_lt_of_le hFb hb.size
   simp only [SlA.val] at e1 e2
   generalize (s.lessons[j]).who.length=sl at e1
   generalize (s.lessons[j]).groups.length=sl2 at e2
   rw [hxa]
   clear hy2 hFb hxa hb
   go_wp2_with fail
   all_goals first
    | (go_ret;exact ⟨⟨_,rfl,fun h=>by cases h⟩,HB0.out.alloc HB0.out.size _⟩)
    | exact ⟨⟨j+1,by omega,by go_num,HB0.out.alloc HB0.out.size _,Lh (HBX.out.below ((Below.refl _ _).alloc (Nat.le_refl _) _))⟩,by simp [intOf];omega⟩
  ·have HV:Hid True:=Lh trivial
   obtain ⟨c0,c1,c2,c3,c4⟩:=HBX.out.cells
   clear hb
   by_cases h1:(s.lessons.length:Int)<=5
   rotate_left
   ·have h1':decide ((s.lessons.length:Int)<=5)=false:=decide_eq_false h1
    clear h1
    go_wp2_with fail
    all_goals
     go_ret
     exact ⟨⟨_,rfl,fun h=>by cases h⟩,HB0.out⟩
   have h1':decide ((s.lessons.length:Int)<=5)=true:=decide_eq_true h1
   have H1:=Lh h1
   clear h1
   by_cases h2:(s.slots.length:Int)<=6
   rotate_left
   ·have h2':decide ((s.slots.length:Int)<=6)=false:=decide_eq_false h2
    clear h2
    go_wp2_with fail
    all_goals
     go_ret
     exact ⟨⟨_,rfl,fun h=>by cases h⟩,HB0.out⟩
   have h2':decide ((s.slots.length:Int)<=6)=true:=decide_eq_true h2
   have H2:=Lh h2
   clear h2
   by_cases h3:(s.rooms.length:Int)<=4
   rotate_left
   ·have h3':decide ((s.rooms.length:Int)<=4)=false:=decide_eq_false h3
    clear h3
    go_wp2_with fail
    all_goals
     go_ret
     exact ⟨⟨_,rfl,fun h=>by cases h⟩,HB0.out⟩
   have h3':decide ((s.rooms.length:Int)<=4)=true:=decide_eq_true h3
   have H3:=Lh h3
   clear h3
   have HF:Hid (s.lessons.length<=5/\s.slots.length<=6/\s.rooms.length<=4):=Lh (by have:=H1.out;have:=H2.out;have:=H3.out;omega)
   go_wp2_with fail
   all_goals
    go_ret
    exact ⟨⟨_,rfl,fun _=>HF.out⟩,HB0.out⟩
end Go.Proofs.YtjjkfgjnadaheaaGreatDoor
/- week.only, and the functions that week.Of hands to it. -/
namespace Go.Proofs.YtjjkfgjnadaheaaGreatDoor
open Go.RowKit Go.Chalk
theorem only_any (fo fi:FuncId) (lo li:Array Value) (g:Nat->Int) (p:Nat->Bool) (n:Nat) (w:World)
  (ho:∀ j,j<n->∀ W,Below w.heap.size w W->Calls Tryz.prog fo (#[.int .i64 (j:Int)]++lo) W fun e W'=>e=.returned (.int .i64 (g j))/\Below W.heap.size W W')
  (hi:∀ j,j<n->∀ W,Below w.heap.size w W->Calls Tryz.prog fi (#[.int .i64 (g j)]++li) W (Answers W (p j)))
  (heo:∀ (args:Array Value) (w:World),(callFunc fo args).run Tryz.prog w=.ok (.enter fo args) w)
  (hei:∀ (args:Array Value) (w:World),(callFunc fi args).run Tryz.prog w=.ok (.enter fi args) w) (hmax:n<=2000000) :
  Calls Tryz.prog 70 #[.int .i64 (n:Int),.func (.func fo) #[] lo,.func (.func fi) #[] li] w fun e w'=>e=.returned (.tuple #[.int .i64 (lastI p n:Nat),.bool (decide ((List.range n).countP p=1))])/\Below w.heap.size w w':=by
 have HO:=Lh ho
 have HI:=Lh hi
 clear ho hi
 have HL:Hid (∀ j,lastI p (j+1)=if p j then j else lastI p j):=Lh (fun j=>rfl)
 have HC:Hid (∀ j,(List.range (j+1)).countP p=(List.range j).countP p+if p j then 1 else 0):=Lh (fun j=>by
  rw [List.range_succ,List.countP_append,List.countP_singleton])
 have HLE:Hid (∀ j,lastI p j<=j):=Lh (fun j=>by
  induction j with
  | zero=>exact Nat.le_refl _
  | succ j ih=>rw [lastI];split <;> omega)
 have HCE:Hid (∀ j,(List.range j).countP p<=j):=Lh (fun j=>by
  have:=List.countP_le_length (p:=p) (l:=List.range j);simpa using this)
 go_enter Tryz.func70,Tryz.ntmps70
 go_wp2_with fail
 go_loopw [11,6,8,9] (fun i a m _ wr=>∃ j la cm:Nat,j<=n/\i=.int .i64 j/\a=.int .i64 la/\m=.int .i64 cm/\Hid (la=lastI p j)/\Hid (cm=(List.range j).countP p)/\Below w.heap.size w wr) (fun i _ _ _ _=>n - (intOf i).toNat)
 case atStart=>exact ⟨0,0,0,Nat.zero_le _,rfl,rfl,rfl,Lh rfl,Lh rfl,Below.refl _ _⟩
 case round =>
  obtain ⟨j,la,cm,hj,rfl,rfl,rfl,H1,H2,hb⟩:=hrel
  have hbs:=hb.size
  have HB:=Lh hb
  by_cases hlt:j<n
  ·have HCO:=Lh (HO.out j hlt wr hb)
   have HCI:=Lh (fun W hW=>HI.out j hlt W hW)
   have hcm:cm<=2000000:=by have:=H2.out;have:=HCE.out j;omega
   have e1:=HL.out j
   have e2:=HC.out j
   rw [<- H1.out] at e1
   rw [<- H2.out] at e2
   have HE:=Lh (aI e1 e2)
   clear e1 e2 hb
   generalize g j=gj at HCO HCI
   generalize p j=pj at HCI HE
   go_wp2_with fail
   refine HCO.out.mono ?_
   rintro e w2 ⟨rfl,hb2⟩
   have H3:=Lh (HB.out.trans (hb2.mono HB.out.size))
   clear hb2
   go_wp2_with fail
   refine (HCI.out w2 H3.out).mono ?_
   rintro e w3 ⟨rfl,hb3⟩
   have H4:=Lh (H3.out.trans (hb3.mono H3.out.size))
   clear hb3
   cases pj
   ·have HE1:Hid (la=lastI p (j+1)):=Lh (by rw [HE.out.1];rfl)
    have HE2:Hid (cm=(List.range (j+1)).countP p):=Lh (by rw [HE.out.2];rfl)
    go_wp2_with fail
    exact ⟨⟨j+1,la,cm,by omega,by go_num,rfl,rfl,HE1,HE2,H4.out⟩,by simp [intOf];omega⟩
   ·have HE1:Hid (j=lastI p (j+1)):=Lh (by rw [HE.out.1];rfl)
    have HE2:Hid (cm+1=(List.range (j+1)).countP p):=Lh (by rw [HE.out.2];rfl)
    go_wp2_with fail
    exact ⟨⟨j+1,j,cm+1,by omega,by go_num,by go_num,by go_num,HE1,HE2,H4.out⟩,by simp [intOf];omega⟩
  ·obtain rfl:j=n:=by omega
   have HF:Hid (decide ((cm:Int)=1)=decide ((List.range j).countP p=1)/\((la:Nat):Int)=((lastI p j:Nat):Int)):=Lh ⟨by rw [<- H2.out,Bool.eq_iff_iff];simp;omega,by rw [<- H1.out]⟩
   clear hb
   go_wp2_with fail
   go_ret2
   refine ⟨?_,HB.out⟩
   rw [<- HF.out.1,<- HF.out.2]
   congr
def BoolBox (W:World) (b:Nat) (n:Nat) (u:SlA):Prop:=W.heap[b]?=some (.cells #[.slice u.a n u.cap] 51 (0,0))
theorem BoolBox.below {W W':World} {b n:Nat} {u:SlA} (h:BoolBox W b n u) (hb:Below W.heap.size W W'):BoolBox W' b n u:=(hb.block _ (gS h).1).trans h
theorem bool_at {a:List Bool} {u:SlA} {w:World} (hu:SlIn w (·<w.heap.size) (dbools a) u):SlAt (·<w.heap.size) u.a u.b u.o a.length/\∀ j (h:j<a.length),w.cell? ⟨u.b,u.o+j,none⟩=some (.bool a[j]):=by
 have h1:=hu.at_
 have h2:=hu.row
 rw [show dbools a=a.map D.bool from rfl] at h1 h2
 have hr:=RowAt.flat (f:=D.bool) (sz:=1) ⟨fun _=>rfl,fun _=>rfl⟩ h2
 refine ⟨by simpa using h1,fun j hj=>?_⟩
 have:=hr.1.one j hj (c0:=.bool a[j]) rfl
 simpa using this
theorem of1_any (a:List Bool) (u:SlA) (v q:Nat) (w:World) (hu:SlIn w (·<w.heap.size) (dbools a) u) (ha:a.length<=2000000) (hv:v<=2000000) (hq:BoolBox w q a.length u) :
  Calls Tryz.prog 69 #[.int .i64 (v:Int),.pointer (some ⟨q,0,none⟩)] w (Answers w (bitG a (v:Int))):=by
 obtain ⟨h1,h2⟩:=bool_at hu
 have hbt:bitG a (v:Int)=a.getD v false:=by unfold bitG;simp
 rw [hbt]
 have c0:w.cell? ⟨q,0,none⟩=some (.slice u.a a.length u.cap):=cH hq rfl
 clear hu hq hbt
 by_cases h:v<a.length
 ·obtain ⟨hxa,hF⟩:=h1 (by omega)
  have e0:=h2 v h
  have hg:a.getD v false=a[v]:=by simp [List.getD,h]
  rw [hg]
  clear hg h2
  rw [hxa] at c0
  generalize a[v]=bv at e0 ⊢
  go_enter Tryz.func69,Tryz.ntmps69
  go_wp2_with fail
  go_ret
  exact ⟨rfl,Below.refl _ _⟩
 ·have hg:a.getD v false=false:=by simp [List.getD,h]
  rw [hg]
  have hd:decide ((v:Int)<(a.length:Int))=false:=by simp;omega
  clear hg h2
  go_enter Tryz.func69,Tryz.ntmps69
  go_wp2_with fail
  go_ret
  exact ⟨rfl,Below.refl _ _⟩
theorem of2_any (s:Schl) (x:SchA) (i j qs ql:Nat) (w:World) (hf:SchSmall s) (hs:SchBox w qs s x) (hl:w.heap[ql]?=some (.cells #[.int .i64 (i:Int)] 3 (0,0))) :
  Calls Tryz.prog 71 #[.int .i64 (j:Int),.pointer (some ⟨qs,0,none⟩),.pointer (some ⟨ql,0,none⟩)] w fun e w'=>e=.returned (.int .i64 (wkAt s i j))/\Below w.heap.size w w':=by
 have HAT:=Lh (fun W=>wat_any s x i j W hf.lessons hf.slots hf.rooms)
 obtain ⟨a0,a1,a2,a3,a4⟩:=hs.cells
 have b0:w.cell? ⟨ql,0,none⟩=some (.int .i64 (i:Int)):=cH hl rfl
 simp only [SchA.cells,SlA.val] at HAT
 clear hs hl
 go_enter Tryz.func71,Tryz.ntmps71
 go_wp2_with fail
 refine (HAT.out _).mono ?_
 rintro e w2 ⟨rfl,hb⟩
 go_wp2_with fail
 go_ret
 exact ⟨rfl,hb⟩
theorem of3_any (s:Schl) (x:SchA) (i j qs ql:Nat) (w:World) (hf:SchSmall s) (hs:SchBox w qs s x) (hl:w.heap[ql]?=some (.cells #[.int .i64 (i:Int)] 3 (0,0))) :
  Calls Tryz.prog 72 #[.int .i64 (j:Int),.pointer (some ⟨qs,0,none⟩),.pointer (some ⟨ql,0,none⟩)] w fun e w'=>e=.returned (.int .i64 (wkIn s i j))/\Below w.heap.size w w':=by
 have HAT:=Lh (fun W=>win_any s x i j W hf.lessons hf.slots hf.rooms)
 obtain ⟨a0,a1,a2,a3,a4⟩:=hs.cells
 have b0:w.cell? ⟨ql,0,none⟩=some (.int .i64 (i:Int)):=cH hl rfl
 simp only [SchA.cells,SlA.val] at HAT
 clear hs hl
 go_enter Tryz.func72,Tryz.ntmps72
 go_wp2_with fail
 refine (HAT.out _).mono ?_
 rintro e w2 ⟨rfl,hb⟩
 go_wp2_with fail
 go_ret
 exact ⟨rfl,hb⟩
theorem wk_nat {s:Schl} (h:s.slots.length<=50/\s.rooms.length<=32/\s.lessons.length<=64) (i j:Nat):(∃ v:Nat,wkAt s i j=(v:Int)/\v<=2000000)/\∃ v:Nat,wkIn s i j=(v:Int)/\v<=2000000:=by
 obtain ⟨h1,h2,h3⟩:=h
 constructor
 ·unfold wkAt
  split
  ·rename_i hc
   have:i*s.slots.length<=64*50:=Nat.mul_le_mul (by omega) h1
   exact ⟨i*s.slots.length+j+1,by push_cast;rfl,by omega⟩
  ·exact ⟨0,rfl,by omega⟩
 ·unfold wkIn
  split
  ·rename_i hc
   have q1:i*s.rooms.length<=64*32:=Nat.mul_le_mul (by omega) h2
   have q2:s.lessons.length*s.slots.length<=64*50:=Nat.mul_le_mul h3 h1
   exact ⟨s.lessons.length*s.slots.length+i*s.rooms.length+j+1,by push_cast;rfl,by omega⟩
  ·exact ⟨0,rfl,by omega⟩
theorem enters_of2:(∀ (args:Array Value) (w:World),(callFunc 71 args).run Tryz.prog w=.ok (.enter 71 args) w)/\(∀ (args:Array Value) (w:World),(callFunc 72 args).run Tryz.prog w=.ok (.enter 72 args) w)/\(∀ (args:Array Value) (w:World),(callFunc 69 args).run Tryz.prog w=.ok (.enter 69 args) w) :=
 ⟨fun _ _=>enters_of Tryz.func71 (by kernel_rfl) rfl _ _,fun _ _=>enters_of Tryz.func72 (by kernel_rfl) rfl _ _,fun _ _=>enters_of Tryz.func69 (by kernel_rfl) rfl _ _⟩
theorem only_slots (s:Schl) (x:SchA) (a:List Bool) (u:SlA) (j qs qb ql:Nat) (w:World) (hf:SchSmall s) (hsm:s.slots.length<=50/\s.rooms.length<=32/\s.lessons.length<=64) (hs:SchBox w qs s x) (hb:BoolBox w qb a.length u) (hu:SlIn w (·<w.heap.size) (dbools a) u) (ha:a.length<=2000000) (hl:w.heap[ql]?=some (.cells #[.int .i64 (j:Int)] 3 (0,0))) :
  Calls Tryz.prog 70 #[.int .i64 (s.slots.length:Int),.func (.func 71) #[] #[.pointer (some ⟨qs,0,none⟩),.pointer (some ⟨ql,0,none⟩)],.func (.func 69) #[] #[.pointer (some ⟨qb,0,none⟩)]] w fun e w'=>e=.returned (.tuple #[.int .i64 (lastI (slotP s a j) s.slots.length:Nat),.bool (decide ((List.range s.slots.length).countP (slotP s a j)=1))])/\Below w.heap.size w w':=by
 refine only_any 71 69 _ _ (fun k=>wkAt s j k) (slotP s a j) s.slots.length w (fun k _ W hW=>?_) (fun k _ W hW=>?_) enters_of2.1 enters_of2.2.2 (by omega)
 ·exact of2_any s x j k qs ql W hf (hs.below hW) ((hW.block _ (gS hl).1).trans hl)
 ·obtain ⟨v,hv,hv2⟩:=(wk_nat hsm j k).1
  have:=of1_any a u v qb W (hu.later hW hW.size) ha hv2 (hb.below hW)
  unfold slotP
  rw [hv]
  exact this
theorem only_rooms (s:Schl) (x:SchA) (a:List Bool) (u:SlA) (j qs qb ql:Nat) (w:World) (hf:SchSmall s) (hsm:s.slots.length<=50/\s.rooms.length<=32/\s.lessons.length<=64) (hs:SchBox w qs s x) (hb:BoolBox w qb a.length u) (hu:SlIn w (·<w.heap.size) (dbools a) u) (ha:a.length<=2000000) (hl:w.heap[ql]?=some (.cells #[.int .i64 (j:Int)] 3 (0,0))) :
  Calls Tryz.prog 70 #[.int .i64 (s.rooms.length:Int),.func (.func 72) #[] #[.pointer (some ⟨qs,0,none⟩),.pointer (some ⟨ql,0,none⟩)],.func (.func 69) #[] #[.pointer (some ⟨qb,0,none⟩)]] w fun e w'=>e=.returned (.tuple #[.int .i64 (lastI (roomP s a j) s.rooms.length:Nat),.bool (decide ((List.range s.rooms.length).countP (roomP s a j)=1))])/\Below w.heap.size w w':=by
 refine only_any 72 69 _ _ (fun k=>wkIn s j k) (roomP s a j) s.rooms.length w (fun k _ W hW=>?_) (fun k _ W hW=>?_) enters_of2.2.1 enters_of2.2.2 (by omega)
 ·exact of3_any s x j k qs ql W hf (hs.below hW) ((hW.block _ (gS hl).1).trans hl)
 ·obtain ⟨v,hv,hv2⟩:=(wk_nat hsm j k).2
  have:=of1_any a u v qb W (hu.later hW hW.size) ha hv2 (hb.below hW)
  unfold roomP
  rw [hv]
  exact this
end Go.Proofs.YtjjkfgjnadaheaaGreatDoor
/- GroundOne: the plain law. -/
namespace Go.Chalk
open Go.RowKit
theorem split_formed {kind:Int} (hk:kind=14∨kind=15) {name:Bs} {n:Int} {b:Bnd} {r:List Bnd} {g:Frm} (hr:r ≠ []) (h:(nodesF (.mk kind name n [] (b :: r) [g])).all formedF=true):(nodesF (.mk kind name n [] [b] [.mk kind name n [] r [g]])).all formedF=true:=by
 obtain ⟨h1,h2⟩:=node_formed.1 h
 have hq:quantK kind=true:=by rcases hk with rfl | rfl <;> decide
 rw [formed_quant hq,partsOk_mk] at h1
 simp only [Bool.and_eq_true,List.all_cons,decide_eq_true_eq,List.length_cons] at h1
 obtain ⟨⟨⟨⟨⟨q1,q2⟩,q3⟩,q4⟩,q5⟩,⟨⟨_,q6⟩,q7,q8⟩,q9⟩:=h1
 have hl:0<r.length:=List.length_pos_iff.2 hr
 refine node_formed.2 ⟨?_,?_⟩
 ·rw [formed_quant hq,partsOk_mk]
  simp only [Bool.and_eq_true,List.all_cons,decide_eq_true_eq,List.length_cons,List.length_nil,List.all_nil]
  exact ⟨⟨⟨⟨⟨q1,q2⟩,by simp [hq]⟩,q4⟩,q5⟩,⟨⟨by omega,by omega⟩,q7,trivial⟩,q9⟩
 ·rw [nodesL,nodesL,List.append_nil]
  refine node_formed.2 ⟨?_,h2⟩
  rw [formed_quant hq,partsOk_mk]
  simp only [Bool.and_eq_true,decide_eq_true_eq]
  exact ⟨⟨⟨⟨⟨q1,q2⟩,by simp [hq]⟩,q4⟩,q5⟩,⟨⟨hl,by omega⟩,q8⟩,q9⟩
theorem split_walk {kind:Int} {name:Bs} {n:Int} {b:Bnd} {r:List Bnd} {g:Frm} {e:List Bnd} (h:walkF e (.mk kind name n [] (b :: r) [g])=0):walkF e (.mk kind name n [] [b] [.mk kind name n [] r [g]])=0:=by
 rw [walkF_nil] at h ⊢
 simp only [bindAll] at h ⊢
 by_cases h0:(findB e b.name).isSome=true
 ·rw [if_pos h0] at h;cases h
 ·rw [if_neg h0] at h ⊢
  simp only [walkL]
  rw [walkF_nil,h];simp
theorem split_val (s:Schl) (w:List Plc) (env:List Ev) {kind:Int} (hk:kind=14∨kind=15) (name:Bs) (n:Int) (b:Bnd) (r:List Bnd) (g:Frm) :
  holdsF s w env (.mk kind name n [] [b] [.mk kind name n [] r [g]])=holdsF s w env (.mk kind name n [] (b :: r) [g]):=by
 have e1:sizesF s [b]=[schCount s b.sort]:=rfl
 have e2:sizesF s (b :: r)=schCount s b.sort :: sizesF s r:=rfl
 have e3:∀ (i:Nat) (u:List Nat),withF (withF env [b] [i]) r u=withF env (b :: r) (i :: u):=fun i u=>by
  rw [with_cons env b r i u];rfl
 rcases hk with rfl | rfl
 ·have hin:∀ i:Nat,holdsAt s w (withF env [b] [i]) [.mk 14 name n [] r [g]] 0=(tuplesF (sizesF s r)).all (fun u=>holdsAt s w (withF env (b :: r) (i :: u)) [g] 0):=fun i=>by
   rw [holdsAt,holdsF_nil]
   simp only [Int.reduceEq,↓reduceIte,quant_all,e3]
  rw [holdsF_nil,holdsF_nil]
  simp only [Int.reduceEq,↓reduceIte,quant_all]
  rw [e1,tuples_one,e2,tuplesF,List.all_map,List.all_flatMap]
  simp only [Function.comp_def,hin,List.all_map]
 ·have hin:∀ i:Nat,holdsAt s w (withF env [b] [i]) [.mk 15 name n [] r [g]] 0=(tuplesF (sizesF s r)).any (fun u=>holdsAt s w (withF env (b :: r) (i :: u)) [g] 0):=fun i=>by
   rw [holdsAt,holdsF_nil]
   simp only [Int.reduceEq,↓reduceIte,quant_any,e3]
  rw [holdsF_nil,holdsF_nil]
  simp only [Int.reduceEq,↓reduceIte,quant_any]
  rw [e1,tuples_one,e2,tuplesF,List.any_map,List.any_flatMap]
  simp only [Function.comp_def,hin,List.any_map]
def splitF (f:Frm) (b:Bnd) (r:List Bnd):Frm:=.mk f.kind f.name f.n f.terms [b] [.mk f.kind f.name f.n f.terms r f.l]
theorem gTree_zero {s:Schl} {env:List Ev} {f:Frm} (h:(gTreeF s env f).2 ≠ 0):(gTreeF s env f).1=zeroTr:=by
 revert h
 unfold gTreeF
 split
 ·exact fun _=>rfl
 split
 ·exact fun h=>absurd rfl h
 ·exact fun _=>rfl
theorem gTree_good {s:Schl} {env:List Ev} {f:Frm} (h:(gTreeF s env f).2=0):HoldsOk s (firstW s) env f/\gTreeF s env f=(gtF s env f,0)/\(gtF s env f).size<=65536:=by
 revert h
 unfold gTreeF
 split
 ·rename_i h;exact fun h0=>absurd h0 h
 split
 ·rename_i h1 h2;exact fun _=>⟨evHolds_ok.1 (Decidable.byContradiction h1),rfl,h2⟩
 ·intro h;cases h
theorem wkTrue_good {s:Schl} {l:List Plc} (h:(wkTrueF s l).2=0):weekCheck s l=0/\wkTrueF s l=(trueK s l l.length,0):=by
 revert h
 unfold wkTrueF
 split
 ·rename_i h;exact fun h0=>absurd h0 h
 ·rename_i h;exact fun _=>⟨Decidable.byContradiction h,rfl⟩
theorem quant_parts {s:Schl} {w:List Plc} {env:List Ev} {f:Frm} (hk:f.kind=14∨f.kind=15) (h:HoldsOk s w env f):∃ g,f=.mk f.kind f.name f.n [] f.binds [g]:=by
 obtain ⟨kind,name,n,terms,binds,l⟩:=f
 simp only [Frm.kind,Frm.name,Frm.n,Frm.binds] at hk ⊢
 obtain ⟨p1,p2,p3,p4,p5⟩:=parts_of (node_formed.1 h.formed).1
 have ht:terms=[]:=by
  rcases p2 with h | h
  ·exact h
  ·unfold atomK at h;simp at h;omega
 have hl:l.length=1:=by rcases arity_cases p1 with ⟨h1,h2⟩ | ⟨h1,h2⟩ | ⟨h1,h2⟩ | ⟨h1,h2⟩ <;> omega
 obtain ⟨g,rfl⟩:=List.length_eq_one_iff.1 hl
 exact ⟨g,by rw [ht]⟩
theorem gone_plain (s:Schl) (l:List Plc) (env:List Ev) (f:Frm) (b:Bnd) (r:List Bnd) (hk:f.kind=14∨f.kind=15) (hb:f.binds=b :: r) (hr:r ≠ []) :
  ((gTreeF s env f).2 ≠ 0->(gTreeF s env f).1=zeroTr)/\((gTreeF s env f).2=0->(gTreeF s env f).1.size<=65536/\(gTreeF s env f).1.kind ≠ 0/\((wkTrueF s l).2=0->(gTreeF s env (splitF f b r)).2=2∨((gTreeF s env (splitF f b r)).2=0/\(gTreeF s env (splitF f b r)).1.size<=65536/\valG (gTreeF s env f).1 (wkTrueF s l).1=valG (gTreeF s env (splitF f b r)).1 (wkTrueF s l).1))):=by
 refine ⟨gTree_zero,fun h=>?_⟩
 obtain ⟨ho,e1,e2⟩:=gTree_good h
 obtain ⟨g,hf⟩:=quant_parts hk ho
 rw [hb] at hf
 have hsp:splitF f b r=.mk f.kind f.name f.n [] [b] [.mk f.kind f.name f.n [] r [g]]:=by
  have h1:f.terms=[]:=by rw [hf];rfl
  have h2:f.l=[g]:=by rw [hf];rfl
  unfold splitF;rw [h1,h2]
 have hfo:=ho.formed
 have hwa:=ho.walk
 rw [hf] at hfo hwa
 have k1:=split_formed hk hr hfo
 have k2:=split_walk hwa
 rw [e1]
 refine ⟨e2,?_,fun hw=>?_⟩
 ·rw [hf]
  rcases hk with hk | hk <;> rw [hk,gtF] <;> simp [Tr.kind]
 ·obtain ⟨hw1,hw2⟩:=wkTrue_good hw
  rw [hw2]
  have hor:=evHolds_or ho.week ho.may k1 k2
  rw [<- hsp] at hor
  by_cases h0:(gTreeF s env (splitF f b r)).2=0
  ·obtain ⟨go,g1,g2⟩:=gTree_good h0
   right
   rw [g1]
   refine ⟨rfl,g2,?_⟩
   have ta:=trueW_true hw1
   rw [gt_val s l _ ta ho.week f.size f env (Nat.le_refl _) (ho.week_swap hw1),gt_val s l _ ta ho.week _ (splitF f b r) env (Nat.le_refl _) (go.week_swap hw1),hsp,split_val s l env hk,<- hf]
  ·left
   unfold gTreeF at h0 ⊢
   rcases hor with ⟨_,_,_,e⟩ | ⟨_,e⟩
   ·rw [e] at h0 ⊢
    simp only [ne_eq,not_true_eq_false,if_false] at h0 ⊢
    split
    ·rename_i h3;rw [if_pos h3] at h0;exact absurd rfl h0
    ·rfl
   ·rw [e];rfl
end Go.Chalk
/- GroundWeeks: the plain law. -/
namespace Go.Chalk
open Go.RowKit
theorem gweeks_plain (s:Schl) (x:List Bool) (hs:schCheck s=0) (hx:x.length=wkVars s+1) (h0:x.getD 0 false=false) :
  ((frameF s).all (valG · x)=true->(ofF s x).2=0/\wkTrueF s (ofF s x).1=(x,0))/\((frameF s).all (valG · x)=false->(ofF s x).2=40/\(ofF s x).1=[]):=by
 rw [frame_all]
 unfold ofF
 rw [if_neg (by simp [hs])]
 constructor
 ·intro h
  rw [if_pos h]
  refine ⟨rfl,?_⟩
  have hw:=weekF_check hs h
  unfold wkTrueF
  rw [if_neg (by simp [hw])]
  simp only
  rw [trueW_unique (trueW_true hw) (trueW_weekF hx h0 h)]
 ·intro h
  rw [if_neg (by simp [h])]
  exact ⟨rfl,rfl⟩
def padB (n:Nat) (a:List Bool):List Bool:=false :: (a.take n++List.replicate (n - a.length) false)
theorem padB_len (n:Nat) (a:List Bool):(padB n a).length=n+1:=by
 unfold padB;simp;omega
theorem padB_zero (n:Nat) (a:List Bool):(padB n a).getD 0 false=false:=rfl
end Go.Chalk
/- week.Of. -/
namespace Go.Chalk
open Go.RowKit
def pcells:List Plc->List Value
 | []=>[]
 | p :: r=>.int .i64 p.slot :: .int .i64 p.room :: pcells r
theorem pcells_len:∀ l:List Plc,(pcells l).length=l.length*2
 | []=>rfl
 | p :: r=>by rw [pcells,List.length_cons,List.length_cons,pcells_len r,List.length_cons];omega
theorem pcells_repl:∀ n:Nat,pcells (List.replicate n ⟨0,0⟩)=(List.replicate n [Value.int .i64 0,Value.int .i64 0]).flatten
 | 0=>rfl
 | n+1=>by rw [List.replicate_succ,List.replicate_succ,pcells,pcells_repl n];rfl
theorem pcells_set:∀ (l:List Plc) (j:Nat) (p:Plc),pcells (l.set j p)=((pcells l).set (j*2) (.int .i64 p.slot)).set (j*2+1) (.int .i64 p.room)
 | [],j,p=>by simp [pcells]
 | q :: r,0,p=>by simp [pcells]
 | q :: r,j+1,p=>by
  rw [List.set_cons_succ,pcells,pcells,pcells_set r j p]
  rw [show (j+1)*2=j*2+1+1 by omega,show j*2+1+1+1=(j*2+1)+1+1 by omega]
  simp only [List.set_cons_succ]
theorem DsAt.pcells {w:World} {F:Nat->Prop}:∀ {l:List Plc},(∀ p∈l,p.toD.fine)->DsAt w F (l.map Plc.toD) (pcells l)
 | [],_=>by rw [List.map_nil,Chalk.pcells,DsAt]
 | p :: r,h=>by
  rw [List.map_cons,Chalk.pcells,DsAt]
  exact ⟨[.int .i64 p.slot,.int .i64 p.room],Chalk.pcells r,rfl,(DAt.flat _ _ (Plc.flatT.flat p)).2 ⟨rfl,h p (by simp)⟩,DsAt.pcells (fun q hq=>h q (by simp [hq]))⟩
def weekK (s:Schl) (a:List Bool):Nat->List Plc
 | 0=>List.replicate s.lessons.length ⟨0,0⟩
 | j+1=>(weekK s a j).set j ⟨(lastI (slotP s a j) s.slots.length:Nat),(lastI (roomP s a j) s.rooms.length:Nat)⟩
theorem weekK_len (s:Schl) (a:List Bool):∀ j,(weekK s a j).length=s.lessons.length
 | 0=>by simp [weekK]
 | j+1=>by rw [weekK,List.length_set,weekK_len s a j]
theorem weekK_get (s:Schl) (a:List Bool):∀ (j i:Nat),i<j->(h:i<s.lessons.length)->(weekK s a j)[i]'(by rw [weekK_len];exact h)=⟨(lastI (slotP s a i) s.slots.length:Nat),(lastI (roomP s a i) s.rooms.length:Nat)⟩
 | j+1,i,hij,h=>by
  simp only [weekK,List.getElem_set]
  split
  ·rename_i e;subst e;rfl
  ·exact weekK_get s a j i (by omega) h
theorem weekK_all (s:Schl) (a:List Bool):weekK s a s.lessons.length=weekF s a:=by
 refine List.ext_getElem (by rw [weekK_len];simp [weekF]) (fun i h1 h2=>?_)
 rw [weekK_len] at h1
 rw [weekK_get s a _ i h1 h1]
 simp [weekF]
end Go.Chalk
namespace Go.Proofs.YtjjkfgjnadaheaaGreatDoor
open Go.RowKit Go.Chalk
def OfP (w:World) (r:List Plc×Int) (e:Ending) (w':World):Prop:=∃ u:SlA,e=.returned (.tuple #[.agg #[.slice u.a r.1.length u.cap],.int .i64 r.2])/\SlIn w' (·<w'.heap.size) (r.1.map Plc.toD) u/\Below w.heap.size w w'
theorem wof_any (s:Schl) (x:SchA) (a:List Bool) (u:SlA) (w:World) (hI:ItoaAt) (hf:SchFit s) (hg:GG w) (hs:SchIn w (·<w.heap.size) s x) (hu:SlIn w (·<w.heap.size) (dbools a) u) (ha:a.length<=2000000) :
  Calls Tryz.prog 24 #[.agg (x.cells s).toArray,.slice u.a a.length u.cap] w (OfP w (ofF s a)):=by
 obtain ⟨W0,hW0⟩:∃ W0,W0=((w.alloc (.cells (x.cells s).toArray 28)).alloc (.cells #[.slice u.a a.length u.cap] 51)).alloc (.cells #[.slice none 0 0] 50):=⟨_,rfl⟩
 have hb0:Below w.heap.size w W0:=by rw [hW0];exact (((Below.refl _ _).alloc (Nat.le_refl _) _).alloc (by simp) _).alloc (by simp;omega) _
 have hz0:W0.heap.size=w.heap.size+3:=by rw [hW0];simp
 have hq0:SchBox W0 w.heap.size s x:=by rw [hW0];unfold SchBox;rw [heap_get,if_neg (by first | (simp;done) | (simp;omega)),heap_get,if_neg (by first | (simp;done) | (simp;omega)),heap_get,if_pos rfl]
 have hq1:BoolBox W0 (w.heap.size+1) a.length u:=by rw [hW0];unfold BoolBox;rw [heap_get,if_neg (by first | (simp;done) | (simp;omega)),heap_get,if_pos (by simp)]
 have hq2:W0.heap[w.heap.size+1+1]?=some (.cells #[.slice none 0 0] 50 (0,0)):=by rw [hW0,heap_get,if_pos (by simp)]
 have HCK:=Lh (scheck_any s x W0 hI (hs.later hb0 hb0.size) hf (hg.below hb0))
 have HB:=Lh (aI hb0 (aI hq0 (aI hq1 (aI hq2 hz0))))
 have HW0:=Lh hW0
 have HU:=Lh hu
 have HSM:=Lh hf.toSchSmall
 have HSC:Hid (schCheck s=0->s.slots.length<=50/\s.rooms.length<=32/\s.lessons.length<=64):=Lh (fun h=>sch_small h)
 have HR:Hid (ofF s a=if schCheck s ≠ 0 then ([],schCheck s) else if (List.range s.lessons.length).all (uniqB s a) then (weekF s a,0) else ([],40)):=Lh rfl
 have hmf:∀ (fn:Fn) (first cap:Array Value) (w:World),(Instr.makeFunc fn first cap).run Tryz.prog w=.ok (.func fn first cap) w:=fun _ _ _ _=>rfl
 have HRES:Hid (∀ (S:Nat->Prop) (W:World) (c:Int),Chalk.Mod S W0 W->(∀ k,S k->k=w.heap.size+1+1∨W0.heap.size<=k)->OfP w ([],c) (.returned (.tuple #[.agg #[.slice none 0 0],.int .i64 c])) W):=Lh (fun S W c hm hS =>
  ⟨⟨none,0,0,0⟩,rfl,SlIn.nil (Nat.zero_le _) _ _ _,hb0.trans (hm.below hb0.size (fun k hk=>by have:=hS k hk;have:=hb0.size;omega))⟩)
 obtain ⟨a0,a1,a2,a3,a4⟩:=hq0.cells
 clear hb0 hz0 hq0 hq1 hq2 hW0 hI hf hg hs hu
 generalize ofF s a=res at HR ⊢
 generalize schCheck s=sc at HCK HSC HR
 simp only [SchA.cells,SlA.val] at HCK HW0 a0 a1 a2 a3 a4 ⊢
 go_enter Tryz.func24,Tryz.ntmps24
 go_wp2_with fail
 rw [<- HW0.out]
 refine HCK.out.mono ?_
 rintro e w1 ⟨rfl,hb1⟩
 have H1:=Lh (aI hb1 (aI (HB.out.2.1.below hb1) (aI (HB.out.2.2.1.below hb1) ((hb1.block _ (gS HB.out.2.2.2.1).1).trans HB.out.2.2.2.1))))
 clear hb1 a0 a1 a2 a3 a4
 by_cases h1:sc ≠ 0
 ·have d1:(sc != 0)=true:=by simpa using h1
  have HE:Hid (res=([],sc)):=Lh (by rw [HR.out,if_pos h1])
  have x0:w1.cell? ⟨w.heap.size+1+1,0,none⟩=some (.slice none 0 0):=cH H1.out.2.2.2 rfl
  have f0:w1.frozen? ⟨w.heap.size+1+1,0,none⟩=false:=fH H1.out.2.2.2
  have hlr:w.heap.size+1+1<w1.heap.size:=(gS H1.out.2.2.2).1
  clear h1
  go_wp2_with fail
  obtain ⟨W2,hW2⟩:∃ W2,W2=w1.setCell ⟨w.heap.size+1+1,0,none⟩ (.slice none 0 0):=⟨_,rfl⟩
  rw [<- hW2]
  have y0:W2.cell? ⟨w.heap.size+1+1,0,none⟩=some (.slice none 0 0):=by rw [hW2];exact cH (box_store (i:=0) (.slice none 0 0) H1.out.2.2.2) rfl
  refine bodyPost_ret (v:=.tuple #[.agg #[.slice none 0 0],.int .i64 sc]) (by simp [results,Tryz.results24,go_sem,y0]) rfl ?_
  rw [HE.out]
  exact HRES.out (fun k=>k=w.heap.size+1+1) W2 sc (by rw [hW2];exact Chalk.Mod.setCell (S:=fun k=>k=w.heap.size+1+1) (Chalk.Mod.of_below H1.out.1) (fun _=>rfl) _) (fun k hk=>.inl hk)
 obtain rfl:sc=0:=by omega
 have HE:Hid (res=if (List.range s.lessons.length).all (uniqB s a) then (weekF s a,0) else ([],40)):=Lh (by rw [HR.out,if_neg h1])
 have HSC2:=Lh (HSC.out rfl)
 clear h1
 obtain ⟨a0,a1,a2,a3,a4⟩:=H1.out.2.1.cells
 have hln:s.lessons.length<=64:=HSC2.out.2.2
 have hmk:=make_plcs s.lessons.length (by omega)
 have hlw1:w.heap.size<w1.heap.size:=(gS H1.out.2.1).1
 have HLN:=Lh hln
 go_upto_region 6 with fail
 obtain ⟨W3,hW3⟩:∃ W3,W3=(w1.alloc (.cells (List.replicate s.lessons.length [Value.int .i64 0,Value.int .i64 0]).flatten.toArray 99)).alloc (.cells #[.slice (some ⟨w1.heap.size,0,none⟩) s.lessons.length s.lessons.length] 50):=⟨_,rfl⟩
 rw [<- hW3]
 have hb3:Below w1.heap.size w1 W3:=by rw [hW3];exact ((Below.refl _ _).alloc (Nat.le_refl _) _).alloc (by simp) _
 have hz3:W3.heap.size=w1.heap.size+2:=by rw [hW3];simp
 have hp3:W3.heap[w1.heap.size]?=some (.cells (pcells (weekK s a 0)).toArray 99 (0,0)):=by rw [hW3,heap_get,if_neg (by first | (simp;done) | (simp;omega)),heap_get,if_pos rfl,weekK,pcells_repl]
 have hk3:W3.heap[w1.heap.size+1]?=some (.cells #[.slice (some ⟨w1.heap.size,0,none⟩) s.lessons.length s.lessons.length] 50 (0,0)):=by rw [hW3,heap_get,if_pos (by simp)]
 have H3:=Lh (aI hb3 (aI hz3 (aI hp3 (aI hk3 (aI (H1.out.2.1.below hb3) (aI (H1.out.2.2.1.below hb3) ((hb3.block _ (gS H1.out.2.2.2).1).trans H1.out.2.2.2)))))))
 have HZ1:Hid (w.heap.size+3<=w1.heap.size):=Lh (by have:=H1.out.1.size;have:=HB.out.2.2.2.2;omega)
 have HU3:=Lh (HU.out.later (HB.out.1.trans ((H1.out.1.mono HB.out.1.size).trans (hb3.mono (Nat.le_trans HB.out.1.size H1.out.1.size)))) (Nat.le_trans HB.out.1.size (Nat.le_trans H1.out.1.size hb3.size)))
 have k0:W3.cell? ⟨w1.heap.size+1,0,none⟩=some (.slice (some ⟨w1.heap.size,0,none⟩) s.lessons.length s.lessons.length):=cH hk3 rfl
 clear hW3 hb3 hz3 hp3 hk3 hmk a0 a1 a2 a3 a4 hln
 go_wp2_with fail
 clear k0
 go_loopw [29] (fun i wr=>∃ j:Nat,j<=s.lessons.length/\i=.int .i64 j/\Hid (Chalk.Mod (fun k=>k=w1.heap.size) W3 wr/\wr.heap[w1.heap.size]?=some (.cells (pcells (weekK s a j)).toArray 99 (0,0))/\(List.range j).all (uniqB s a)=true)) (fun i _=>s.lessons.length - (intOf i).toNat)
 case atStart=>exact ⟨0,Nat.zero_le _,rfl,Lh ⟨Chalk.Mod.refl _ _,H3.out.2.2.1,rfl⟩⟩
 case round =>
  obtain ⟨j,hj,rfl,HRR⟩:=hrel
  have hln:s.lessons.length<=64:=HLN.out
  by_cases hlt:j<s.lessons.length
  ·obtain ⟨WA,hWA⟩:∃ WA,WA=wr.alloc (.cells #[.int .i64 (j:Int)] 3):=⟨_,rfl⟩
   have hbA:Below wr.heap.size wr WA:=by rw [hWA];exact (Below.refl _ _).alloc (Nat.le_refl _) _
   have hzA:WA.heap.size=wr.heap.size+1:=by rw [hWA];simp
   have hkA:WA.heap[wr.heap.size]?=some (.cells #[.int .i64 (j:Int)] 3 (0,0)):=by rw [hWA,heap_get,if_pos rfl]
   have hmA:Chalk.Mod (fun k=>k=w1.heap.size) W3 WA:=HRR.out.1.trans (Chalk.Mod.of_below (S:=fun k=>k=w1.heap.size) hbA) (fun _ _ h=>h)
   have hz1:=HZ1.out
   have hsA:SchBox WA w.heap.size s x:=heap_kept H3.out.2.2.2.2.1 hmA (by omega)
   have hbbA:BoolBox WA (w.heap.size+1) a.length u:=heap_kept H3.out.2.2.2.2.2.1 hmA (by omega)
   have huA:SlIn WA (·<WA.heap.size) (dbools a) u:=(HU.out.agree (fun k (hk:k<w.heap.size)=>by
    have e1:=(HB.out.1.trans (H1.out.1.mono HB.out.1.size)).block k hk
    have e2:=H3.out.1.block k (by have:=HB.out.1.size;have:=H1.out.1.size;omega)
    have e3:=hmA.block k (by have:=H3.out.2.1;omega) (by omega)
    exact (e3.trans e2).trans e1)).mono (fun k (hk:k<w.heap.size)=>by have:=hmA.size;have:=H3.out.2.1;omega)
   have hpA:=(hbA.block _ (gS HRR.out.2.1).1).trans HRR.out.2.1
   have HA:=Lh (aI hmA (aI hsA (aI hbbA (aI huA (aI hkA (aI hpA hzA))))))
   have HO1:=Lh (only_slots s x a u j w.heap.size (w.heap.size+1) wr.heap.size WA HSM.out HSC2.out hsA hbbA huA ha hkA)
   have HO2:=Lh (fun (W:World) (hW:Below WA.heap.size WA W)=>only_rooms s x a u j w.heap.size (w.heap.size+1) wr.heap.size W HSM.out HSC2.out (hsA.below hW) (hbbA.below hW) (huA.later hW hW.size) ha ((hW.block _ (gS hkA).1).trans hkA))
   have HUQ:Hid (uniqB s a j=(decide ((List.range s.slots.length).countP (slotP s a j)=1)&&decide ((List.range s.rooms.length).countP (roomP s a j)=1))):=Lh rfl
   have HWK:Hid (weekK s a (j+1)=(weekK s a j).set j ⟨(lastI (slotP s a j) s.slots.length:Nat),(lastI (roomP s a j) s.rooms.length:Nat)⟩):=Lh rfl
   generalize decide ((List.range s.slots.length).countP (slotP s a j)=1)=u1 at HO1 HUQ
   generalize decide ((List.range s.rooms.length).countP (roomP s a j)=1)=u2 at HO2 HUQ
   generalize lastI (slotP s a j) s.slots.length=l1 at HO1 HWK
   generalize lastI (roomP s a j) s.rooms.length=l2 at HO2 HWK
   obtain ⟨a0,a1,a2,a3,a4⟩:=SchBox.cells (heap_kept H3.out.2.2.2.2.1 HRR.out.1 (by omega):SchBox wr w.heap.size s x)
   have hlszr:w.heap.size<wr.heap.size:=by have:=HRR.out.1.size;have:=H3.out.2.1;omega
   have hWA':=hWA.symm
   have HWA:=Lh hWA'
   have hlsz:w.heap.size<WA.heap.size:=by have:=hmA.size;have:=H3.out.2.1;omega
   clear hWA hWA' hbA hzA hkA hmA hsA hbbA huA hpA
   go_wp2_with fail
   rw [HWA.out]
   refine HO1.out.mono ?_
   rintro e w4 ⟨rfl,hb4⟩
   have H4:=Lh hb4
   clear a0 a1 a2 a3 a4 hlszr
   obtain ⟨a0,a1,a2,a3,a4⟩:=(HA.out.2.1.below hb4).cells
   have hlsz4:w.heap.size<w4.heap.size:=Nat.lt_of_lt_of_le hlsz hb4.size
   clear hb4
   go_wp2_with fail
   refine (HO2.out w4 H4.out).mono ?_
   rintro e w5 ⟨rfl,hb5⟩
   have H5:=Lh (H4.out.trans (hb5.mono H4.out.size))
   clear hb5 a0 a1 a2 a3 a4 hlsz hlsz4
   have hm5:Chalk.Mod (fun k=>k=w1.heap.size) W3 w5:=HA.out.1.trans (Chalk.Mod.of_below (S:=fun k=>k=w1.heap.size) H5.out) (fun _ _ h=>h)
   have hr5:w5.heap[w.heap.size+1+1]?=some (.cells #[.slice none 0 0] 50 (0,0)):=heap_kept H3.out.2.2.2.2.2.2 hm5 (by have:=HZ1.out;omega)
   have hk5:=heap_kept H3.out.2.2.2.1 hm5 (by omega)
   have hp5:=(H5.out.block _ (gS HA.out.2.2.2.2.2.1).1).trans HA.out.2.2.2.2.2.1
   have hl5:=(H5.out.block _ (gS HA.out.2.2.2.2.1).1).trans HA.out.2.2.2.2.1
   have HF5:=Lh (aI hm5 (aI hr5 (aI hk5 (aI hp5 hl5))))
   by_cases hu:u1=true/\u2=true
   rotate_left
   ·have HE2:Hid (res=([],40)):=Lh (by
     rw [HE.out,if_neg]
     rw [Bool.not_eq_true,List.all_eq_false]
     refine ⟨j,by simpa using hlt,?_⟩
     rw [HUQ.out]
     cases u1 <;> cases u2 <;> simp at hu ⊢)
    have x0:w5.cell? ⟨w.heap.size+1+1,0,none⟩=some (.slice none 0 0):=cH hr5 rfl
    have f0:w5.frozen? ⟨w.heap.size+1+1,0,none⟩=false:=fH hr5
    have hlr:w.heap.size+1+1<w5.heap.size:=(gS hr5).1
    clear hm5 hr5 hk5 hp5 hl5
    have hcs:u1=false∨(u1=true/\u2=false):=by cases u1 <;> cases u2 <;> simp at hu ⊢
    clear hu
    rcases hcs with rfl | ⟨rfl,rfl⟩
    all_goals
     go_wp2_with fail
     obtain ⟨W2,hW2⟩:∃ W2,W2=w5.setCell ⟨w.heap.size+1+1,0,none⟩ (.slice none 0 0):=⟨_,rfl⟩
     rw [<- hW2]
     have y0:W2.cell? ⟨w.heap.size+1+1,0,none⟩=some (.slice none 0 0):=by rw [hW2];exact cH (box_store (i:=0) (.slice none 0 0) HF5.out.2.1) rfl
     refine bodyPost_ret (v:=.tuple #[.agg #[.slice none 0 0],.int .i64 40]) (by simp [results,Tryz.results24,go_sem,y0]) rfl ?_
     rw [HE2.out]
     have hm03:Chalk.Mod (fun k=>k=w.heap.size+1+1∨W0.heap.size<=k) W0 w5:=(Chalk.Mod.of_below (S:=fun k=>k=w.heap.size+1+1∨W0.heap.size<=k) (H1.out.1.trans (H3.out.1.mono H1.out.1.size))).trans HF5.out.1 (fun k _ h=>.inr (by have:=H1.out.1.size;omega))
     exact HRES.out (fun k=>k=w.heap.size+1+1∨W0.heap.size<=k) W2 40 (by rw [hW2];exact hm03.setCell (fun _=>.inl rfl) _) (fun k hk=>hk)
   ·obtain ⟨rfl,rfl⟩:=hu
    have hpl:(pcells (weekK s a j)).length=s.lessons.length*2:=by rw [pcells_len,weekK_len]
    have xc0:w5.cell? ⟨w1.heap.size,j*2,none⟩=some ((pcells (weekK s a j))[j*2]'(by omega)):=cH hp5 (by simp)
    have xc1:w5.cell? ⟨w1.heap.size,j*2+1,none⟩=some ((pcells (weekK s a j))[j*2+1]'(by omega)):=cH hp5 (by simp)
    generalize (pcells (weekK s a j))[j*2]'(by omega)=z0 at xc0
    generalize (pcells (weekK s a j))[j*2+1]'(by omega)=z1 at xc1
    have xf0:w5.frozen? ⟨w1.heap.size,j*2,none⟩=false:=fH hp5
    have xf1:w5.frozen? ⟨w1.heap.size,j*2+1,none⟩=false:=fH hp5
    have k0:w5.cell? ⟨w1.heap.size+1,0,none⟩=some (.slice (some ⟨w1.heap.size,0,none⟩) s.lessons.length s.lessons.length):=cH hk5 rfl
    have b0:w5.cell? ⟨wr.heap.size,0,none⟩=some (.int .i64 (j:Int)):=cH hl5 rfl
    clear hm5 hr5 hk5 hp5 hl5 hpl
    go_wp2_with fail
    have hp6:=box_store (i:=j*2+1) (.int .i64 (l2:Int)) (box_store (i:=j*2) (.int .i64 (l1:Int)) HF5.out.2.2.2.1)
    have hm6:Chalk.Mod (fun k=>k=w1.heap.size) W3 ((w5.setCell ⟨w1.heap.size,j*2,none⟩ (.int .i64 (l1:Int))).setCell ⟨w1.heap.size,j*2+1,none⟩ (.int .i64 (l2:Int))):=Chalk.Mod.setCell (Chalk.Mod.setCell HF5.out.1 (fun _=>rfl) _) (fun _=>rfl) _
    refine ⟨⟨j+1,by omega,by go_num,Lh ⟨hm6,?_,?_⟩⟩,by simp [intOf];omega⟩
    ·rw [hp6,HWK.out,pcells_set]
     simp
    ·rw [List.range_succ,List.all_append,HRR.out.2.2]
     simp [HUQ.out]
  ·obtain rfl:j=s.lessons.length:=by omega
   have hk:=heap_kept H3.out.2.2.2.1 HRR.out.1 (by omega)
   have hr:=heap_kept H3.out.2.2.2.2.2.2 HRR.out.1 (by have:=HZ1.out;omega)
   have k0:wr.cell? ⟨w1.heap.size+1,0,none⟩=some (.slice (some ⟨w1.heap.size,0,none⟩) s.lessons.length s.lessons.length):=cH hk rfl
   have x0:wr.cell? ⟨w.heap.size+1+1,0,none⟩=some (.slice none 0 0):=cH hr rfl
   have f0:wr.frozen? ⟨w.heap.size+1+1,0,none⟩=false:=fH hr
   have hlr:w.heap.size+1+1<wr.heap.size:=(gS hr).1
   have HE2:Hid (res=(weekF s a,0)):=Lh (by rw [HE.out,if_pos HRR.out.2.2])
   have HR5:=Lh hr
   clear hk hr hlt hj
   go_wp2_with fail
   obtain ⟨W2,hW2⟩:∃ W2,W2=wr.setCell ⟨w.heap.size+1+1,0,none⟩ (.slice (some ⟨w1.heap.size,0,none⟩) s.lessons.length s.lessons.length):=⟨_,rfl⟩
   rw [<- hW2]
   have y0:W2.cell? ⟨w.heap.size+1+1,0,none⟩=some (.slice (some ⟨w1.heap.size,0,none⟩) s.lessons.length s.lessons.length):=by rw [hW2];exact cH (box_store (i:=0) (.slice (some ⟨w1.heap.size,0,none⟩) s.lessons.length s.lessons.length) HR5.out) rfl
   refine bodyPost_ret (v:=.tuple #[.agg #[.slice (some ⟨w1.heap.size,0,none⟩) s.lessons.length s.lessons.length],.int .i64 0]) (by simp [results,Tryz.results24,go_sem,y0]) rfl ?_
   rw [HE2.out]
   have hwl:(weekF s a).length=s.lessons.length:=by simp [weekF]
   have hm03:Chalk.Mod (fun k=>k=w.heap.size+1+1∨W0.heap.size<=k) W0 wr:=(Chalk.Mod.of_below (S:=fun k=>k=w.heap.size+1+1∨W0.heap.size<=k) (H1.out.1.trans (H3.out.1.mono H1.out.1.size))).trans HRR.out.1 (fun k _ h=>.inr (by have:=H1.out.1.size;omega))
   have hm2:Chalk.Mod (fun k=>k=w.heap.size+1+1∨W0.heap.size<=k) W0 W2:=by rw [hW2];exact hm03.setCell (fun _=>.inl rfl) _
   have hp2:W2.heap[w1.heap.size]?=some (.cells (pcells (weekK s a s.lessons.length)).toArray 99 (0,0)):=by
    rw [hW2]
    exact heap_kept HRR.out.2.1 (Chalk.Mod.setCell (S:=fun k=>k=w.heap.size+1+1) (Chalk.Mod.refl _ _) (fun _=>rfl) _) (by have:=HZ1.out;omega)
   refine ⟨⟨some ⟨w1.heap.size,0,none⟩,w1.heap.size,0,s.lessons.length⟩,by rw [hwl],?_,HB.out.1.trans (hm2.below HB.out.1.size (fun k hk=>by have:=HB.out.1.size;omega))⟩
   have hsl:=HLN.out
   rw [weekK_all] at hp2
   have hfine:∀ p∈weekF s a,p.toD.fine:=fun p hp=>by
    unfold weekF at hp
    obtain ⟨i,hi,rfl⟩:=List.mem_map.1 hp
    have e1:∀ (q:Nat->Bool) (n:Nat),lastI q n<=n:=fun q n=>by
     induction n with
     | zero=>exact Nat.le_refl _
     | succ n ih=>rw [lastI];split <;> omega
    have e2:=e1 (slotP s a i) s.slots.length
    have e3:=e1 (roomP s a i) s.rooms.length
    obtain ⟨b1,b2,_⟩:=HSC2.out
    exact ⟨I64.wf (show I64 ((lastI (slotP s a i) s.slots.length:Nat):Int) by unfold I64;omega),I64.wf (show I64 ((lastI (roomP s a i) s.rooms.length:Nat):Int) by unfold I64;omega),trivial⟩
   exact SlIn.lit hp2 (DsAt.pcells hfine) (gS hp2).1 (by simp [hwl]) (by unfold maxLen;omega)
end Go.Proofs.YtjjkfgjnadaheaaGreatDoor
