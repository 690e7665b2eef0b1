/- Joined texts: UWhy, UEx, ULv, ULive, UFew, UCnt, UTim, UGlp, UGl. -/
import Derived.Test.YtncnnbmeacpboaaGreatDoorLGl13
import Derived.Test.YtncnnbmeacpboaaGreatDoorLGl9
import Derived.Test.YtncnnbmeacpboaaGreatDoorN32
import Derived.Deep.QuietTactic
import Derived.Deep.CutRange
import Derived.Test.YtncnnbmeacpboaaGreatDoorLGl3
import Derived.Test.YtncnnbmeacpboaaGreatDoorN13
import Derived.Deep.RegionHeld3
set_option maxHeartbeats 8000000
set_option maxRecDepth 100000
set_option linter.unusedVariables false
set_option linter.unusedSimpArgs false
/- tell.Why. (written by tools/gen_uwhy.py) -/
namespace Go.Chalk
open Go.RowKit
theorem num_look2 {P:Program} (w:World) (T K E:TypeId) (b:Nat) (t:List (Int×Value)) (k:Int) (z:Value) (hT:P.underlying T=some (.map K E)) (hK:P.underlying K=some (.int .i64)) (hz:∀ w,(zeroValue E).run P w=.ok z w) (h:NumAt w b t) :
  (Instr.lookup T (.map (some b)) (.int .i64 k) true).run P w=.ok (.tuple #[(numGet t k).getD z,.bool (numGet t k).isSome]) w:=by
 unfold Instr.lookup
 rcases find_num k z t 0 0 with ⟨h1,h2,_⟩ | ⟨u,j,h1,h2,_⟩
 ·simp only [Sem.run_bind,run_underlying hT,Result.andThen_ok,MapKept.run_getObj_map h,Sem.run_pure,MapKept.run_checkKey (P:=P) hK (k:=.int .i64 k) rfl,MapKept.run_findKey hK h2,hz,h1]
  rfl
 ·simp only [Sem.run_bind,run_underlying hT,Result.andThen_ok,MapKept.run_getObj_map h,Sem.run_pure,MapKept.run_checkKey (P:=P) hK (k:=.int .i64 k) rfl,MapKept.run_findKey hK h2,h1]
  rfl
structure WhyA where
 c:SlA
 f:SlA
abbrev WhyA.cells (y:WhyA) (d:WhyD):List Value:=[.int .i64 d.kind,.slice y.c.a d.cores.length y.c.cap,.slice y.f.a d.fixes.length y.f.cap]
def lastT:List (Int×Value):=[(1,.string ⟨lastAll.toArray⟩),(3,.string ⟨lastMore.toArray⟩)]
theorem lastT_get (k:Int):numGet lastT k=(whyLast 1 3 k).map (fun s=>.string ⟨s.toArray⟩):=by
 unfold numGet lastT whyLast
 by_cases h1:k=1
 ·subst h1;rfl
 ·by_cases h3:k=3
  ·subst h3;rfl
  ·have e1:((1:Int)==k)=false:=by simpa using fun e=>h1 e.symm
   have e3:((3:Int)==k)=false:=by simpa using fun e=>h3 e.symm
   simp [List.find?_cons,e1,e3,h1,h3]
theorem whyLast_len {k:Int} {s:Bs} (h:whyLast 1 3 k=some s):s.length<=1000:=by
 unfold whyLast at h
 split at h
 ·obtain rfl:=Option.some.inj h;decide
 ·split at h
  ·obtain rfl:=Option.some.inj h;decide
  ·cases h
theorem setsGo_all {s:Schl} {l:List Rul} {X:List Ins} {ahead:Bs}:∀ {q:List (List Int)},(setsGo s l X ahead q).2=0->(setsGo s l X ahead q).1=setsA s l X ahead q
 | [],_=>rfl
 | p :: r,h=>by
  rw [setsGo] at h ⊢
  by_cases h1:(byRuleF s l (pickF X p)).2=0
  ·rw [if_neg (by simpa using h1)] at h ⊢
   by_cases h2:(setsGo s l X ahead r).2=0
   ·rw [if_neg (by simpa using h2),setsGo_all h2];simp [setsA]
   ·rw [if_pos h2] at h;exact absurd h h2
  ·rw [if_pos h1] at h;exact absurd h h1
theorem sets_len {s:Schl} {l:List Rul} {X:List Ins} {ahead:Bs} {q:List (List Int)} (hl:l.length<=1000) (hq:q.length<=1000) (hp:∀ p∈q,p.length<=1000) (h:(setsGo s l X ahead q).2=0):(setsGo s l X ahead q).1.length<=1001001000:=by
 rw [setsGo_all h]
 exact Nat.le_trans (setsA_len hl q hp) (Nat.le_trans (Nat.mul_le_mul_right _ hq) (by decide))
theorem below_mod7 {B:Nat} {S:Nat->Prop} {a b c:World} (h:Below B a b) (k:Mod S b c) (hB:B<=b.heap.size) (hS:∀ i,S i->B<=i):Below B a c:=h.trans (k.below hB hS)
end Go.Chalk
namespace Go.Proofs.YtncnnbmeacpboaaGreatDoor
open Go.RowKit Go.Chalk
attribute [local go_sem] Oper.semAt_some
theorem why_any (s:Schl) (x:SchA) (l:List Rul) (z:SlA) (xs:List Inx) (xa:SlA) (d:WhyD) (y:WhyA) (w:World) (hI:ItoaAt) (hs:SchIn w (·<w.heap.size) s x) (hf:SchFit s) (hz:SlIn w (·<w.heap.size) (l.map Rul.toD) z) (hl:l.length<=1000) (hfr:∀ r∈l,RulFit r)
  (hx:SlIn w (·<w.heap.size) (xs.map Inx.toD) xa) (hxl:xs.length<=1000000) (hbl:∀ i∈xs,i.binds.length<=2000000) (hc:SlIn w (·<w.heap.size) (dsets d.cores) y.c) (hfx:SlIn w (·<w.heap.size) (dsets d.fixes) y.f) (hcl:d.cores.length<=1000) (hfl:d.fixes.length<=1000)
  (hcp:∀ p∈d.cores,p.length<=1000) (hfp:∀ p∈d.fixes,p.length<=1000) (hg:GS w) :
  Calls Tryz.prog 15 #[.agg (x.cells s).toArray,.slice z.a l.length z.cap,.slice xa.a xs.length xa.cap,.agg (y.cells d).toArray] w (ElsP w (whyF 1 3 s l (xs.map Inx.ins) d)):=by
 obtain ⟨R,hR⟩:∃ R,R=whyF 1 3 s l (xs.map Inx.ins) d:=⟨_,rfl⟩
 rw [<- hR]
 obtain ⟨BS,hBS⟩:∃ BS,BS=w.heap.size:=⟨_,rfl⟩
 obtain ⟨LB,hLB⟩:∃ LB,LB=BS+1:=⟨_,rfl⟩
 obtain ⟨XB,hXB⟩:∃ XB,XB=BS+1+1:=⟨_,rfl⟩
 obtain ⟨YB,hYB⟩:∃ YB,YB=BS+1+1+1:=⟨_,rfl⟩
 obtain ⟨W1,hW1⟩:∃ W1,W1=w.alloc (.cells (x.cells s).toArray 28):=⟨_,rfl⟩
 obtain ⟨W2,hW2⟩:∃ W2,W2=W1.alloc (.cells #[.slice z.a l.length z.cap] 29):=⟨_,rfl⟩
 obtain ⟨W3,hW3⟩:∃ W3,W3=W2.alloc (.cells #[.slice xa.a xs.length xa.cap] 38):=⟨_,rfl⟩
 obtain ⟨W4,hW4⟩:∃ W4,W4=W3.alloc (.cells (y.cells d).toArray 45):=⟨_,rfl⟩
 have hs1:W1.heap.size=BS+1:=by rw [hW1,hBS];simp
 have hs2:W2.heap.size=BS+2:=by rw [hW2];simp [hs1]
 have hs3:W3.heap.size=BS+3:=by rw [hW3];simp [hs2]
 have hs4:W4.heap.size=BS+4:=by rw [hW4];simp [hs3]
 have hb4:Below w.heap.size w W4:=by rw [hW4,hW3,hW2,hW1];exact ((((Below.refl _ _).alloc (Nat.le_refl _) _).alloc (by simp) _).alloc (by simp;omega) _).alloc (by simp;omega) _
 have g1:W4.heap[BS]?=some (.cells #[.slice x.slots.a s.slots.length x.slots.cap,.slice x.rooms.a s.rooms.length x.rooms.cap,.slice x.people.a s.people.length x.people.cap,.slice x.groups.a s.groups.length x.groups.cap,.slice x.lessons.a s.lessons.length x.lessons.cap] 28 (0,0)):=by rw [hW4,heap_get,if_neg (by omega),hW3,heap_get,if_neg (by omega),hW2,heap_get,if_neg (by omega),hW1,heap_get,if_pos hBS]
 have g2:W4.heap[LB]?=some (.cells #[.slice z.a l.length z.cap] 29 (0,0)):=by rw [hW4,heap_get,if_neg (by omega),hW3,heap_get,if_neg (by omega),hW2,heap_get,if_pos (by omega)]
 have g3:W4.heap[XB]?=some (.cells #[.slice xa.a xs.length xa.cap] 38 (0,0)):=by rw [hW4,heap_get,if_neg (by omega),hW3,heap_get,if_pos (by omega)]
 have g4:W4.heap[YB]?=some (.cells #[.int .i64 d.kind,.slice y.c.a d.cores.length y.c.cap,.slice y.f.a d.fixes.length y.f.cap] 45 (0,0)):=by rw [hW4,heap_get,if_pos (by omega)]
 have HRT:=Lh (tright_any s x l z W4 hI (hs.later hb4 hb4.size) hf (hz.later hb4 hb4.size) (by omega) hfr (hg.below hb4).gg)
 have HDAT:Hid (∀ W,Below BS w W->SchIn W (·<BS) s x/\SlIn W (·<BS) (l.map Rul.toD) z/\SlIn W (·<BS) (xs.map Inx.toD) xa/\SlIn W (·<BS) (dsets d.cores) y.c/\SlIn W (·<BS) (dsets d.fixes) y.f):=Lh (fun W hW=>by
  rw [hBS] at hW ⊢
  exact ⟨hs.agree (agree_of_below hW),hz.agree (agree_of_below hW),hx.agree (agree_of_below hW),hc.agree (agree_of_below hW),hfx.agree (agree_of_below hW)⟩)
 have HPUT:=Lh (fun (h0:okF s l=0) (lo OB:Nat) (ahead:Bs) (sets:List (List Int)) (sa:SlA) (outs:List Bs) (v0:Value) (W:World) (hb:Below w.heap.size w W) (hE:WhyE W BS lo s x l z xs xa XB BS LB) (hOB:BS+4<=OB/\OB<lo) (ho:W.heap[OB]?=some (.cells #[v0] 47 (0,0))) (hown:OwnN W lo (fun _=>False) 9 1 v0 (outs.map dstr)) (hol:outs.length<=4000000000) (hss:SlIn W (·<BS) (dsets sets) sa) (hsl:sets.length<=1000) (hpl:∀ p∈sets,p.length<=1000) (hodd:sets.any (oddSet (xs.map Inx.ins))=false) (hah:ahead.length<=1000)=>why2_any w BS lo s x l z xs xa XB BS LB OB ahead sets sa outs v0 W hI hf hl hfr hbl hxl hg hb h0 hE (by omega) ho hown hol hss hsl hpl hodd hah)
 have HLL:=Lh hl
 have HL:=Lh (aI hcl (aI hfl (aI hcp hfp)))
 have HK:=Lh (aI hb4 (aI g1 (aI g2 (aI g3 (aI g4 (aI hs4 (aI hBS (aI hLB (aI hXB hYB)))))))))
 have HW:=Lh (aI hW1 (aI hW2 (aI hW3 hW4)))
 obtain ⟨ok,hok⟩:∃ ok,ok=okF s l:=⟨_,rfl⟩
 rw [<- hok] at HRT HPUT
 have HOK:=Lh hok
 have HR:=Lh hR
 simp only [SchA.cells,SlA.val,WhyA.cells] at HRT HW ⊢
 have d0:W4.cell? ⟨BS,0,none⟩=some (.slice x.slots.a s.slots.length x.slots.cap):=cH g1 rfl
 have d1:W4.cell? ⟨BS,1,none⟩=some (.slice x.rooms.a s.rooms.length x.rooms.cap):=cH g1 rfl
 have d2:W4.cell? ⟨BS,2,none⟩=some (.slice x.people.a s.people.length x.people.cap):=cH g1 rfl
 have d3:W4.cell? ⟨BS,3,none⟩=some (.slice x.groups.a s.groups.length x.groups.cap):=cH g1 rfl
 have d4:W4.cell? ⟨BS,4,none⟩=some (.slice x.lessons.a s.lessons.length x.lessons.cap):=cH g1 rfl
 have l0:W4.cell? ⟨LB,0,none⟩=some (.slice z.a l.length z.cap):=cH g2 rfl
 clear hs hf hz hfr hx hbl hg hok hR hc hfx hcp hfp g1 g2 g3 g4 hI hs1 hs2 hs3 hs4 hb4 hW1 hW2 hW3 hW4
 go_enter Tryz.func15,Tryz.ntmps15
 go_upto_region 1 with fail
 rw [<- HW.out.1,<- HW.out.2.1,<- HW.out.2.2.1,<- HW.out.2.2.2,<- hBS,<- hYB,<- hXB,<- hLB]
 clear hBS hLB hXB hYB
 go_wp2_with fail
 refine HRT.out.mono ?_
 rintro e w5 ⟨rfl,hb5⟩
 have hKB:=HK.out.2.2.2.2.2
 have hb5w:=HK.out.1.trans (hb5.mono HK.out.1.size)
 have k3:=(hb5.block _ (gS HK.out.2.2.2.1).1).trans HK.out.2.2.2.1
 have k4:=(hb5.block _ (gS HK.out.2.2.2.2.1).1).trans HK.out.2.2.2.2.1
 have k1:=(hb5.block _ (gS HK.out.2.1).1).trans HK.out.2.1
 have k2:=(hb5.block _ (gS HK.out.2.2.1).1).trans HK.out.2.2.1
 have H5:=Lh (aI hb5w (aI k1 (aI k2 (aI k3 (aI k4 hb5.size)))))
 clear hb5 hb5w k1 k2 k3 k4 hKB d0 d1 d2 d3 d4 l0 HRT
 by_cases h0:ok=0
 rotate_left
 ·have h1:(ok==0)=false:=by simpa using h0
  have HRE:Hid (R=([],ok)):=Lh (by rw [HR.out,whyF,<- HOK.out,if_pos h0])
  go_wp2_with fail
  go_ret2
  exact ElsP.nil HRE.out H5.out.1
 subst h0
 obtain ⟨X,hX⟩:∃ X,X=xs.map Inx.ins:=⟨_,rfl⟩
 have HRX:Hid (R=match whyLast 1 3 d.kind with | none=>([],1) | some last=>if (d.cores.any (oddSet X)||d.fixes.any (oddSet X))=true then ([],1) else if (setsGo s l X aheadCores d.cores).2 ≠ 0 then ([],(setsGo s l X aheadCores d.cores).2) else if (setsGo s l X aheadFixes d.fixes).2 ≠ 0 then ([],(setsGo s l X aheadFixes d.fixes).2) else ((setsGo s l X aheadCores d.cores).1++((setsGo s l X aheadFixes d.fixes).1++[last]),0)):=Lh (by rw [HR.out,whyF,<- HOK.out,if_neg (by decide),hX];cases whyLast 1 3 d.kind <;> rfl)
 have HODD:Hid (∀ (q:List (List Int)) (qa:SlA) (W:World),Below w5.heap.size w5 W->SlIn W (·<W.heap.size) (dsets q) qa->q.length<=1000->(∀ p∈q,p.length<=1000)->Calls Tryz.prog 35 #[.slice qa.a q.length qa.cap,.func (.func 32) #[] #[.pointer (some ⟨XB,0,none⟩)]] W fun e w'=>e=.returned (.bool (q.any (oddSet X)))/\Below W.heap.size W w'):=Lh (fun q qa W hW h1 h2 h3=>whyodd_any q qa X xa.cap XB xa.a W h1 (by omega) (fun p hp=>by have:=h3 p hp;omega) (by
  have k3:=(hW.block _ (gS H5.out.2.2.2.1).1).trans H5.out.2.2.2.1
  rw [show X.length=xs.length by rw [hX,List.length_map]]
  exact cH k3 rfl))
 have HXX:=Lh hX
 clear HR hX
 have hmm := @run_makeMap Tryz.prog
 have hmf:∀ (fn:Fn) (first cap:Array Value) (w:World),(Instr.makeFunc fn first cap).run Tryz.prog w=.ok (.func fn first cap) w:=fun _ _ _ _=>rfl
 have hn0:=numAt_new w5
 have hp1:=num_put (P:=Tryz.prog) (w5.alloc (.map #[] 0)) 80 _ _ w5.heap.size [] 1 (.string ⟨lastAll.toArray⟩) Tryz.underlying80 Tryz.underlying3 hn0
 obtain ⟨W7,hW7⟩:∃ W7,W7=(w5.alloc (.map #[] 0)).putObj w5.heap.size (.map (numEs 0 (numPut [] 1 (.string ⟨lastAll.toArray⟩))).toArray (numPut [] 1 (.string ⟨lastAll.toArray⟩)).length):=⟨_,rfl⟩
 have hn7:NumAt W7 w5.heap.size [(1,.string ⟨lastAll.toArray⟩)]:=by rw [hW7];exact numAt_put (t:=[(1,.string ⟨lastAll.toArray⟩)]) (by simp)
 rw [<- hW7] at hp1
 have hs7:W7.heap.size=w5.heap.size+1:=by rw [hW7];simp
 have hM7:Chalk.Mod (fun k=>k=w5.heap.size) w5 W7:=by rw [hW7];exact ((Chalk.Mod.refl (fun k=>k=w5.heap.size) w5).alloc _).trans (Chalk.Mod.putObj _ _ _) (fun k _ hk=>hk)
 have hp2:=num_put (P:=Tryz.prog) W7 80 _ _ w5.heap.size [(1,.string ⟨lastAll.toArray⟩)] 3 (.string ⟨lastMore.toArray⟩) Tryz.underlying80 Tryz.underlying3 hn7
 obtain ⟨W8,hW8⟩:∃ W8,W8=W7.putObj w5.heap.size (.map (numEs 0 (numPut [(1,.string ⟨lastAll.toArray⟩)] 3 (.string ⟨lastMore.toArray⟩))).toArray (numPut [(1,.string ⟨lastAll.toArray⟩)] 3 (.string ⟨lastMore.toArray⟩)).length):=⟨_,rfl⟩
 have hn8:NumAt W8 w5.heap.size lastT:=by rw [hW8];exact numAt_put (t:=lastT) (by omega)
 rw [<- hW8] at hp2
 have hM8:Chalk.Mod (fun k=>k=w5.heap.size) w5 W8:=by rw [hW8];exact hM7.trans (Chalk.Mod.putObj _ _ _) (fun k _ hk=>hk)
 have hs8:W8.heap.size=w5.heap.size+1:=by rw [hW8];simp [hs7]
 have hlk:=num_look2 (P:=Tryz.prog) W8 80 _ _ w5.heap.size lastT d.kind (.string ⟨#[]⟩) Tryz.underlying80 Tryz.underlying3 Tryz.zeroValue9 hn8
 rw [lastT_get] at hlk
 have hb8:Below w5.heap.size w5 W8:=hM8.below (Nat.le_refl _) (fun k hk=>by omega)
 have H8:=Lh (aI hb8 hs8)
 have k4:=(hb8.block _ (gS H5.out.2.2.2.2.1).1).trans H5.out.2.2.2.2.1
 have y0:W8.cell? ⟨YB,0,none⟩=some (.int .i64 d.kind):=cH k4 rfl
 have y1:W8.cell? ⟨YB,1,none⟩=some (.slice y.c.a d.cores.length y.c.cap):=cH k4 rfl
 have y2:W8.cell? ⟨YB,2,none⟩=some (.slice y.f.a d.fixes.length y.f.cap):=cH k4 rfl
 have e1:(⟨lastAll.toArray⟩:ByteArray)=⟨#[116,104,97,116,32,105,115,32,97,108,108]⟩:=rfl
 have e2:(⟨lastMore.toArray⟩:ByteArray)=⟨#[116,104,101,114,101,32,109,97,121,32,98,101,32,109,111,114,101]⟩:=rfl
 rw [e1] at hp1
 rw [e2] at hp2
 clear hn0 hW7 hn7 hs7 hM7 hW8 hn8 hM8 hs8 hb8 k4 e1 e2
 have HLST:=Lh (fun (s:Bs) (h:whyLast 1 3 d.kind=some s)=>whyLast_len h)
 generalize whyLast 1 3 d.kind=wl at hlk HRX HLST
 cases wl with
 | none =>
  simp only [Option.map_none,Option.getD_none,Option.isSome_none] at hlk
  have HRE:Hid (R=([],1)):=Lh HRX.out
  go_wp2_with fail
  go_ret2
  exact ElsP.nil HRE.out (H5.out.1.trans (H8.out.1.mono H5.out.1.size))
 | some last =>
  simp only [Option.map_some,Option.getD_some,Option.isSome_some] at hlk
  simp only at HRX
  have HLAST:=Lh (HLST.out last rfl)
  have HYC:Hid (∀ W,Below w5.heap.size w5 W->W.cell? ⟨YB,1,none⟩=some (.slice y.c.a d.cores.length y.c.cap)/\W.cell? ⟨YB,2,none⟩=some (.slice y.f.a d.fixes.length y.f.cap)/\Below w.heap.size w W/\SlIn W (·<W.heap.size) (dsets d.cores) y.c/\SlIn W (·<W.heap.size) (dsets d.fixes) y.f):=Lh (fun W hW=>by
   have k4:=(hW.block _ (gS H5.out.2.2.2.2.1).1).trans H5.out.2.2.2.2.1
   have hb:=H5.out.1.trans (hW.mono H5.out.1.size)
   have hBS:=HK.out.2.2.2.2.2.2.1
   have hda:=HDAT.out W (by rw [hBS];exact hb)
   have hsz:=hb.size
   exact ⟨cH k4 rfl,cH k4 rfl,hb,hda.2.2.2.1.mono (fun k hk=>by omega),hda.2.2.2.2.mono (fun k hk=>by omega)⟩)
  have HC1:=Lh (HODD.out d.cores y.c W8 H8.out.1 (HYC.out W8 H8.out.1).2.2.2.1 HL.out.1 HL.out.2.2.1)
  have HC2:=Lh (fun (W:World) (hW:Below w5.heap.size w5 W)=>HODD.out d.fixes y.f W hW (HYC.out W hW).2.2.2.2 HL.out.2.1 HL.out.2.2.2)
  obtain ⟨b1,hb1⟩:∃ b1,b1=d.cores.any (oddSet X):=⟨_,rfl⟩
  obtain ⟨b2,hb2⟩:∃ b2,b2=d.fixes.any (oddSet X):=⟨_,rfl⟩
  rw [<- hb1] at HC1 HRX
  rw [<- hb2] at HRX
  simp only [<- hb2] at HC2
  have HB1:=Lh hb1
  have HB2:=Lh hb2
  clear hb1 hb2
  go_wp2_with fail
  refine HC1.out.mono ?_
  rintro e w9 ⟨rfl,hb9⟩
  have H9:=Lh (H8.out.1.trans (hb9.mono H8.out.1.size))
  clear hb9 y0 y1 y2 hlk hp1 hp2 HC1
  cases b1
  rotate_left
  ·have HRE:Hid (R=([],1)):=Lh (HRX.out.trans (if_pos rfl))
   go_wp2_with fail
   go_ret2
   exact ElsP.nil HRE.out (H5.out.1.trans (H9.out.mono H5.out.1.size))
  obtain ⟨y1,y2,_⟩:=HYC.out w9 H9.out
  have HC2:=Lh (HC2.out w9 H9.out)
  go_wp2_with fail
  refine HC2.out.mono ?_
  rintro e w10 ⟨rfl,hb10⟩
  have H10:=Lh (H9.out.trans (hb10.mono H9.out.size))
  clear hb10 y1 y2 HC2
  cases b2
  rotate_left
  ·have HRE:Hid (R=([],1)):=Lh (HRX.out.trans (if_pos rfl))
   go_wp2_with fail
   go_ret2
   exact ElsP.nil HRE.out (H5.out.1.trans (H10.out.mono H5.out.1.size))
  have HRY:=Lh (HRX.out.trans (if_neg (by decide)))
  obtain ⟨OB,hOB⟩:∃ OB,OB=w10.heap.size:=⟨_,rfl⟩
  obtain ⟨W20,hW20⟩:∃ W20,W20=w10.alloc (.cells #[.slice none 0 0] 47):=⟨_,rfl⟩
  have hs20:W20.heap.size=OB+1:=by rw [hW20,hOB];simp
  have hb20:Below w5.heap.size w5 W20:=H10.out.trans ((show Below w10.heap.size w10 W20 by rw [hW20];exact (Below.refl _ _).alloc (Nat.le_refl _) _).mono H10.out.size)
  have k20:W20.heap[OB]?=some (.cells #[.slice none 0 0] 47 (0,0)):=by rw [hW20,heap_get,if_pos hOB]
  have hsk:=HK.out.2.2.2.2.2
  have hs5:=H5.out.2.2.2.2.2
  have hs10:=H10.out.size
  have hbw20:Below w.heap.size w W20:=H5.out.1.trans (hb20.mono H5.out.1.size)
  have hda:=HDAT.out W20 (by rw [hsk.2.1];exact hbw20)
  have hE20:WhyE W20 BS (OB+1) s x l z xs xa XB BS LB:=⟨hda.1,hda.2.1,hda.2.2.1,(hb20.block _ (gS H5.out.2.2.2.1).1).trans H5.out.2.2.2.1,(hb20.block _ (gS H5.out.2.1).1).trans H5.out.2.1,(hb20.block _ (gS H5.out.2.2.1).1).trans H5.out.2.2.1,by omega⟩
  have hoX:∀ q:List (List Int),q.any (oddSet X)=q.any (oddSet (xs.map Inx.ins)):=fun q=>by rw [HXX.out]
  have HP1:=Lh (HPUT.out (by first | rfl | trivial) (OB+1) OB aheadCores d.cores y.c [] (.slice none 0 0) W20 hbw20 hE20 (by omega) k20 (OwnN.nil _ _ _ _ _ (fun _ h=>h.elim)) (by simp) hda.2.2.2.1 HL.out.1 HL.out.2.2.1 (by rw [<- hoX];exact HB1.out.symm) (by decide))
  rw [<- HXX.out] at HP1
  have HP2:Hid (∀ (W:World) (outs:List Bs) (v0:Value),Chalk.Mod (fun k=>k=OB∨OB+1<=k) W20 W->W.heap[OB]?=some (.cells #[v0] 47 (0,0))->OwnN W (OB+1) (fun _=>False) 9 1 v0 (outs.map dstr)->outs.length<=4000000000->Calls Tryz.prog 36 #[.string ⟨aheadFixes.toArray⟩,.slice y.f.a d.fixes.length y.f.cap,.pointer (some ⟨XB,0,none⟩),.pointer (some ⟨BS,0,none⟩),.pointer (some ⟨LB,0,none⟩),.pointer (some ⟨OB,0,none⟩)] W (WhP W OB (OB+1) outs (setsGo s l X aheadFixes d.fixes))):=Lh (fun W outs v0 hM hk ho hol=>by
   have hbW:=below_mod7 hbw20 hM (by omega) (fun i hi=>by omega)
   have hda2:=HDAT.out W (by rw [hsk.2.1];exact hbW)
   rw [HXX.out]
   exact HPUT.out (by first | rfl | trivial) (OB+1) OB aheadFixes d.fixes y.f outs v0 W hbW (hE20.kept hM (by omega) (by omega) (by omega) (by omega)) (by omega) hk ho hol hda2.2.2.2.2 HL.out.2.1 HL.out.2.2.2 (by rw [<- hoX];exact HB2.out.symm) (by decide))
  have HKY:=Lh ((hb20.block _ (gS H5.out.2.2.2.2.1).1).trans H5.out.2.2.2.2.1)
  have H20:=Lh (aI hbw20 (aI hs20 (show YB<OB/\BS<=OB/\w.heap.size=BS by omega)))
  obtain ⟨S1,hS1⟩:∃ S1,S1=setsGo s l X aheadCores d.cores:=⟨_,rfl⟩
  obtain ⟨S2,hS2⟩:∃ S2,S2=setsGo s l X aheadFixes d.fixes:=⟨_,rfl⟩
  have HS1L:Hid (S1.2=0->S1.1.length<=1001001000):=Lh (by rw [hS1];exact fun h=>sets_len HLL.out HL.out.1 HL.out.2.2.1 h)
  have HS2L:Hid (S2.2=0->S2.1.length<=1001001000):=Lh (by rw [hS2];exact fun h=>sets_len HLL.out HL.out.2.1 HL.out.2.2.2 h)
  rw [<- hS1] at HP1 HRY
  rw [<- hS2] at HP2 HRY
  have HOB:=Lh hOB
  have HW20:=Lh hW20
  have y1:W20.cell? ⟨YB,1,none⟩=some (.slice y.c.a d.cores.length y.c.cap):=cH HKY.out rfl
  have hent:∀ args w,(callFunc 36 args).run Tryz.prog w=.ok (.enter 36 args) w:=enters_of Tryz.func36 (by kernel_rfl) rfl
  have ea1:(⟨aheadCores.toArray⟩:ByteArray)=⟨#[116,104,101,115,101,32,99,97,110,39,116,32,98,101,32,116,111,103,101,116,104,101,114,58]⟩:=rfl
  have ea2:(⟨aheadFixes.toArray⟩:ByteArray)=⟨#[119,105,116,104,111,117,116,32,116,104,101,115,101,32,116,104,101,114,101,32,105,115,32,97,32,119,101,101,107,58]⟩:=rfl
  rw [ea1] at HP1
  rw [ea2] at HP2
  clear hs20 hb20 k20 hsk hs5 hs10 hbw20 hda hE20 hoX hS1 hS2 hOB hW20 ea1 ea2 HPUT HODD HYC
  go_upto_region 9 with fail
  rw [<- HW20.out,<- HOB.out]
  go_wp2_with fail
  refine HP1.out.mono ?_
  rintro e w21 ⟨rfl,hM21,ho21⟩
  rw [List.nil_append] at ho21
  obtain ⟨l1,er1⟩:=S1
  obtain ⟨l2,er2⟩:=S2
  simp only at ho21 HRY HS1L HS2L HP2 ⊢
  have ky:=heap_kept HKY.out hM21 (by have:=H20.out.2.2.1;omega)
  have H21:=Lh (aI hM21 (aI ho21 ky))
  have hb21:=below_mod7 H20.out.1 hM21 (by have:=H20.out;omega) (fun i hi=>by have:=H20.out;omega)
  have HBW21:=Lh hb21
  clear y1 hM21 ho21 hb21 HP1
  by_cases her1:er1=0
  rotate_left
  ·have her2':(er1==0)=false:=by simpa using her1
   have HRE:=Lh (HRY.out.trans (if_pos her1))
   clear ky
   go_wp2_with fail
   go_ret2
   exact ElsP.nil HRE.out HBW21.out
  subst her1
  have HRZ:=Lh (HRY.out.trans (if_neg (by decide)))
  obtain ⟨v1,hv1,hw1⟩:=H21.out.2.1 rfl
  have HP2W:=Lh (HP2.out w21 l1 v1 H21.out.1 hv1 hw1 (by have:=HS1L.out (by first | rfl | trivial);omega))
  have y2:w21.cell? ⟨YB,2,none⟩=some (.slice y.f.a d.fixes.length y.f.cap):=cH ky rfl
  clear ky hv1 hw1 HP2 HRY
  go_wp2_with fail
  refine HP2W.out.mono ?_
  rintro e w22 ⟨rfl,hM22,ho22⟩
  simp only at ho22 ⊢
  have hb22:=below_mod7 HBW21.out hM22 (by have:=H20.out;have:=H21.out.1.size;omega) (fun i hi=>by have:=H20.out;omega)
  have H22:=Lh (aI hM22 (aI ho22 hb22))
  have HS22:=Lh (Nat.le_trans H21.out.1.size hM22.size)
  clear y2 hM22 ho22 hb22 HP2W
  by_cases her2:er2=0
  rotate_left
  ·have her2':(er2==0)=false:=by simpa using her2
   have HRE:=Lh (HRZ.out.trans (if_pos her2))
   go_wp2_with fail
   go_ret2
   exact ElsP.nil HRE.out H22.out.2.2
  subst her2
  have HRF:=Lh (HRZ.out.trans (if_neg (by decide)))
  obtain ⟨v2,hv2,hw2⟩:=H22.out.2.1 rfl
  obtain ⟨va,vcap,hvf⟩:=hw2.form
  rw [List.length_map] at hvf
  obtain ⟨OL,hOL⟩:∃ OL,OL=l1++l2:=⟨_,rfl⟩
  rw [<- hOL] at hvf hw2
  have holl:OL.length<=2002002000:=by rw [hOL,List.length_append];have:=HS1L.out (by first | rfl | trivial);have:=HS2L.out (by first | rfl | trivial);omega
  obtain ⟨on,hon⟩:∃ on,on=OL.length:=⟨_,rfl⟩
  rw [<- hon] at hvf holl
  subst hvf
  obtain ⟨i0,hi,hz0,hz1,hz2⟩:=info_parts infoStr
  have c0:w22.cell? ⟨OB,0,none⟩=some (.slice va on vcap):=cH hv2 rfl
  have HO:=Lh (aI hw2 (aI hon holl))
  have HOL:=Lh hOL
  clear hv2 hw2 hon holl hOL
  go_wp2_with (at_builtin;go_must (refine wpList_append_oneO (B:=w22.heap.size) rfl rfl _ _ 47 rfl 9 i0 _ 1 16 Tryz.underlying47 hi hz0 hz1 hz2 rfl (by decide) (.slice va on vcap) (OL.map dstr) (dstr last) [.string ⟨last.toArray⟩] 9 rfl rfl HO.out.1 (dstr_at (by have:=HLAST.out;unfold maxLen;omega)) (by have:=HS22.out;have:=H20.out.2.1;omega) rfl (by rw [List.length_map,<- HO.out.2.1];have:=HO.out.2.2;unfold maxLen;omega) (by rw [List.length_map,<- HO.out.2.1];have:=HO.out.2.2;omega) ?_);intro ao cap w23 hon23 hb23;rw [List.length_map,<- HO.out.2.1] at hon23 ⊢;have H23:=Lh (aI hon23 hb23);clear hon23 hb23)
  go_ret2
  refine ⟨_,by rw [HRF.out];rfl,?_,H22.out.2.2.trans (H23.out.2.mono (by have:=H20.out;omega))⟩
  rw [HRF.out]
  obtain ⟨x0,hx0,hx1⟩:=H23.out.1.onto.sl (by rw [show OL.map dstr++[dstr last]=(OL++[last]).map dstr by simp,widths_map dstr_flat];simp)
  rw [show OL.map dstr++[dstr last]=(l1++(l2++[last])).map dstr by rw [HOL.out];simp] at hx0 hx1
  exact ⟨x0,by rw [SlA.val,List.length_map] at hx0;rw [hx0];rfl,hx1⟩
end Go.Proofs.YtncnnbmeacpboaaGreatDoor
/- The law's example. (written by tools/gen_uex.py) -/
namespace Go.Chalk
open Go.RowKit
def ex7S:Schl:={ slots:=[⟨[109,111,110,49],0,0⟩],rooms:=[⟨[114],0,0,[]⟩],people:=[],groups:=[],lessons:=[⟨[109,97,116,104],[],[]⟩] }
def ex7R:Rul:=⟨[103,111,110,101],true,0,[⟨[108],1⟩,⟨[115],2⟩],.mk 13 [] 0 [] [] [.mk 3 [] 0 [⟨2,[108],0⟩,⟨2,[115],0⟩] [] [],.mk 9 [60] 0 [⟨4,[115],0⟩,⟨1,[],3⟩] [] []]⟩
theorem DsAt.cons7 {w:World} {F:Nat->Prop} {x:D} {r:List D} {cs ds:List Value} (h:DAt w F x cs) (k:DsAt w F r ds):DsAt w F (x :: r) (cs++ds):=by rw [DsAt];exact ⟨cs,ds,rfl,h,k⟩
theorem DsAt.one_of7 {w:World} {F:Nat->Prop} {x:D} {cs:List Value} (h:DAt w F x cs):DsAt w F [x] cs:=by rw [DsAt];exact ⟨cs,[],(List.append_nil _).symm,h,by rw [DsAt]⟩
def put5 (W:World) (g o:Nat) (v0 v1 v2 v3 v4:Value):World:=((((W.setCell ⟨g,o,none⟩ v0).setCell ⟨g,o+1,none⟩ v1).setCell ⟨g,o+2,none⟩ v2).setCell ⟨g,o+3,none⟩ v3).setCell ⟨g,o+4,none⟩ v4
theorem put5_heap {W:World} {g:Nat} {e:TypeId} {c0 c1 c2 c3 c4:Value} (h:W.heap[g]?=some (.cells #[c0,c1,c2,c3,c4] e (0,0))) (v0 v1 v2 v3 v4:Value):(put5 W g 0 v0 v1 v2 v3 v4).heap[g]?=some (.cells #[v0,v1,v2,v3,v4] e (0,0)):=by
 unfold put5
 exact box_store _ (box_store _ (box_store _ (box_store _ (box_store _ h))))
theorem put5_mod (W:World) (g o:Nat) (v0 v1 v2 v3 v4:Value):Mod (fun k=>k=g) W (put5 W g o v0 v1 v2 v3 v4):=by
 unfold put5
 exact (((((Mod.refl (fun k=>k=g) _).setCell (p:=⟨g,o,none⟩) (fun _=>rfl) _).setCell (p:=⟨g,o+1,none⟩) (fun _=>rfl) _).setCell (p:=⟨g,o+2,none⟩) (fun _=>rfl) _).setCell (p:=⟨g,o+3,none⟩) (fun _=>rfl) _).setCell (p:=⟨g,o+4,none⟩) (fun _=>rfl) _
end Go.Chalk
namespace Go.Proofs.YtncnnbmeacpboaaGreatDoor
open Go.RowKit Go.Chalk
attribute [local go_sem] Oper.semAt_some
theorem example7_any (w:World):Calls Tryz.prog 20 #[] w fun e w'=>∃ (x:SchA) (z:SlA),e=.returned (.tuple #[.agg (x.cells ex7S).toArray,.slice z.a 1 z.cap])/\SchIn w' (·<w'.heap.size) ex7S x/\SlIn w' (·<w'.heap.size) ([ex7R].map Rul.toD) z/\Below w.heap.size w w':=by
 obtain ⟨BR,hBR⟩:∃ BR,BR=w.heap.size:=⟨_,rfl⟩
 obtain ⟨W0,hW0⟩:∃ W0,W0=w.alloc (.cells #[.slice none 0 0,.slice none 0 0,.slice none 0 0,.slice none 0 0,.slice none 0 0] 28):=⟨_,rfl⟩
 have hb0:Below w.heap.size w W0:=by rw [hW0];exact (Below.refl _ _).alloc (Nat.le_refl _) _
 have k0:W0.heap[BR]?=some (.cells #[.slice none 0 0,.slice none 0 0,.slice none 0 0,.slice none 0 0,.slice none 0 0] 28 (0,0)):=by rw [hW0,heap_get,if_pos hBR]
 have hl0:BR<W0.heap.size:=(gS k0).1
 obtain ⟨A1,hA1⟩:∃ A1,A1=W0.heap.size:=⟨_,rfl⟩
 obtain ⟨A2,hA2⟩:∃ A2,A2=W0.heap.size+1:=⟨_,rfl⟩
 obtain ⟨A3,hA3⟩:∃ A3,A3=W0.heap.size+1+1:=⟨_,rfl⟩
 obtain ⟨A4,hA4⟩:∃ A4,A4=W0.heap.size+1+1+1:=⟨_,rfl⟩
 obtain ⟨W1,hW1⟩:∃ W1,W1=(((W0.alloc (.cells #[.string ⟨#[109,111,110,49]⟩,.int .i64 0,.int .i64 0] 86)).alloc (.cells #[.string ⟨#[114]⟩,.int .i64 0,.int .i64 0,.slice none 0 0] 88)).alloc (.cells #[.string ⟨#[109,97,116,104]⟩,.slice none 0 0,.slice none 0 0] 90)).alloc (.cells #[.slice (some ⟨W0.heap.size,0,none⟩) 1 1,.slice (some ⟨W0.heap.size+1,0,none⟩) 1 1,.slice none 0 0,.slice none 0 0,.slice (some ⟨W0.heap.size+1+1,0,none⟩) 1 1] 28):=⟨_,rfl⟩
 have hzW1:W1.heap.size=W0.heap.size+4:=by rw [hW1];simp
 have kA1:W1.heap[A1]?=some (.cells #[.string ⟨#[109,111,110,49]⟩,.int .i64 0,.int .i64 0] 86 (0,0)):=by
  rw [hW1,hA1]
  simp only [heap_get,World.size_alloc]
  repeat (first | rw [if_pos trivial] | rw [if_pos (by omega)] | rw [if_neg (by omega)])
 have kA2:W1.heap[A2]?=some (.cells #[.string ⟨#[114]⟩,.int .i64 0,.int .i64 0,.slice none 0 0] 88 (0,0)):=by
  rw [hW1,hA2]
  simp only [heap_get,World.size_alloc]
  repeat (first | rw [if_pos trivial] | rw [if_pos (by omega)] | rw [if_neg (by omega)])
 have kA3:W1.heap[A3]?=some (.cells #[.string ⟨#[109,97,116,104]⟩,.slice none 0 0,.slice none 0 0] 90 (0,0)):=by
  rw [hW1,hA3]
  simp only [heap_get,World.size_alloc]
  repeat (first | rw [if_pos trivial] | rw [if_pos (by omega)] | rw [if_neg (by omega)])
 have kA4:W1.heap[A4]?=some (.cells #[.slice (some ⟨W0.heap.size,0,none⟩) 1 1,.slice (some ⟨W0.heap.size+1,0,none⟩) 1 1,.slice none 0 0,.slice none 0 0,.slice (some ⟨W0.heap.size+1+1,0,none⟩) 1 1] 28 (0,0)):=by
  rw [hW1,hA4]
  simp only [heap_get,World.size_alloc]
  repeat (first | rw [if_pos trivial] | rw [if_pos (by omega)] | rw [if_neg (by omega)])
 have hbW1:Below W0.heap.size W0 W1:=by rw [hW1];exact (((((Below.refl _ _).alloc (by simp) _).alloc (by simp <;> omega) _).alloc (by simp <;> omega) _).alloc (by simp <;> omega) _)
 rw [<- hA3,<- hA2,<- hA1] at kA4
 have hlW1:A1<W1.heap.size/\A2<W1.heap.size/\A3<W1.heap.size/\A4<W1.heap.size:=by omega
 obtain ⟨C1,hC1⟩:∃ C1,C1=W1.heap.size:=⟨_,rfl⟩
 obtain ⟨C2,hC2⟩:∃ C2,C2=W1.heap.size+1:=⟨_,rfl⟩
 obtain ⟨W2,hW2⟩:∃ W2,W2=(W1.alloc (.cells #[.int .i64 2,.string ⟨#[108]⟩,.int .i64 0,.int .i64 2,.string ⟨#[115]⟩,.int .i64 0] 92)).alloc (.cells #[.int .i64 3,.string ⟨#[]⟩,.int .i64 0,.slice (some ⟨W1.heap.size,0,none⟩) 2 2,.slice none 0 0,.slice none 0 0] 64):=⟨_,rfl⟩
 have hzW2:W2.heap.size=W1.heap.size+2:=by rw [hW2];simp
 have kC1:W2.heap[C1]?=some (.cells #[.int .i64 2,.string ⟨#[108]⟩,.int .i64 0,.int .i64 2,.string ⟨#[115]⟩,.int .i64 0] 92 (0,0)):=by
  rw [hW2,hC1]
  simp only [heap_get,World.size_alloc]
  repeat (first | rw [if_pos trivial] | rw [if_pos (by omega)] | rw [if_neg (by omega)])
 have kC2:W2.heap[C2]?=some (.cells #[.int .i64 3,.string ⟨#[]⟩,.int .i64 0,.slice (some ⟨W1.heap.size,0,none⟩) 2 2,.slice none 0 0,.slice none 0 0] 64 (0,0)):=by
  rw [hW2,hC2]
  simp only [heap_get,World.size_alloc]
  repeat (first | rw [if_pos trivial] | rw [if_pos (by omega)] | rw [if_neg (by omega)])
 have hbW2:Below W1.heap.size W1 W2:=by rw [hW2];exact (((Below.refl _ _).alloc (by simp) _).alloc (by simp <;> omega) _)
 rw [<- hC1] at kC2
 have hlW2:C1<W2.heap.size/\C2<W2.heap.size:=by omega
 obtain ⟨D1,hD1⟩:∃ D1,D1=W2.heap.size:=⟨_,rfl⟩
 obtain ⟨D2,hD2⟩:∃ D2,D2=W2.heap.size+1:=⟨_,rfl⟩
 obtain ⟨W3,hW3⟩:∃ W3,W3=(W2.alloc (.cells #[.int .i64 4,.string ⟨#[115]⟩,.int .i64 0,.int .i64 1,.string ⟨#[]⟩,.int .i64 3] 92)).alloc (.cells #[.int .i64 9,.string ⟨#[60]⟩,.int .i64 0,.slice (some ⟨W2.heap.size,0,none⟩) 2 2,.slice none 0 0,.slice none 0 0] 64):=⟨_,rfl⟩
 have hzW3:W3.heap.size=W2.heap.size+2:=by rw [hW3];simp
 have kD1:W3.heap[D1]?=some (.cells #[.int .i64 4,.string ⟨#[115]⟩,.int .i64 0,.int .i64 1,.string ⟨#[]⟩,.int .i64 3] 92 (0,0)):=by
  rw [hW3,hD1]
  simp only [heap_get,World.size_alloc]
  repeat (first | rw [if_pos trivial] | rw [if_pos (by omega)] | rw [if_neg (by omega)])
 have kD2:W3.heap[D2]?=some (.cells #[.int .i64 9,.string ⟨#[60]⟩,.int .i64 0,.slice (some ⟨W2.heap.size,0,none⟩) 2 2,.slice none 0 0,.slice none 0 0] 64 (0,0)):=by
  rw [hW3,hD2]
  simp only [heap_get,World.size_alloc]
  repeat (first | rw [if_pos trivial] | rw [if_pos (by omega)] | rw [if_neg (by omega)])
 have hbW3:Below W2.heap.size W2 W3:=by rw [hW3];exact (((Below.refl _ _).alloc (by simp) _).alloc (by simp <;> omega) _)
 rw [<- hD1] at kD2
 have hlW3:D1<W3.heap.size/\D2<W3.heap.size:=by omega
 obtain ⟨E1,hE1⟩:∃ E1,E1=W3.heap.size:=⟨_,rfl⟩
 obtain ⟨E2,hE2⟩:∃ E2,E2=W3.heap.size+1:=⟨_,rfl⟩
 obtain ⟨E3,hE3⟩:∃ E3,E3=W3.heap.size+1+1:=⟨_,rfl⟩
 obtain ⟨W4,hW4⟩:∃ W4,W4=((W3.alloc (.cells #[.string ⟨#[108]⟩,.int .i64 1,.string ⟨#[115]⟩,.int .i64 2] 94)).alloc (.cells #[.int .i64 3,.string ⟨#[]⟩,.int .i64 0,.slice (some ⟨C1,0,none⟩) 2 2,.slice none 0 0,.slice none 0 0,.int .i64 9,.string ⟨#[60]⟩,.int .i64 0,.slice (some ⟨D1,0,none⟩) 2 2,.slice none 0 0,.slice none 0 0] 64)).alloc (.cells #[.string ⟨#[103,111,110,101]⟩,.bool true,.int .i64 0,.slice (some ⟨W3.heap.size,0,none⟩) 2 2,.int .i64 13,.string ⟨#[]⟩,.int .i64 0,.slice none 0 0,.slice none 0 0,.slice (some ⟨W3.heap.size+1,0,none⟩) 2 2] 66):=⟨_,rfl⟩
 have hzW4:W4.heap.size=W3.heap.size+3:=by rw [hW4];simp
 have kE1:W4.heap[E1]?=some (.cells #[.string ⟨#[108]⟩,.int .i64 1,.string ⟨#[115]⟩,.int .i64 2] 94 (0,0)):=by
  rw [hW4,hE1]
  simp only [heap_get,World.size_alloc]
  repeat (first | rw [if_pos trivial] | rw [if_pos (by omega)] | rw [if_neg (by omega)])
 have kE2:W4.heap[E2]?=some (.cells #[.int .i64 3,.string ⟨#[]⟩,.int .i64 0,.slice (some ⟨C1,0,none⟩) 2 2,.slice none 0 0,.slice none 0 0,.int .i64 9,.string ⟨#[60]⟩,.int .i64 0,.slice (some ⟨D1,0,none⟩) 2 2,.slice none 0 0,.slice none 0 0] 64 (0,0)):=by
  rw [hW4,hE2]
  simp only [heap_get,World.size_alloc]
  repeat (first | rw [if_pos trivial] | rw [if_pos (by omega)] | rw [if_neg (by omega)])
 have kE3:W4.heap[E3]?=some (.cells #[.string ⟨#[103,111,110,101]⟩,.bool true,.int .i64 0,.slice (some ⟨W3.heap.size,0,none⟩) 2 2,.int .i64 13,.string ⟨#[]⟩,.int .i64 0,.slice none 0 0,.slice none 0 0,.slice (some ⟨W3.heap.size+1,0,none⟩) 2 2] 66 (0,0)):=by
  rw [hW4,hE3]
  simp only [heap_get,World.size_alloc]
  repeat (first | rw [if_pos trivial] | rw [if_pos (by omega)] | rw [if_neg (by omega)])
 have hbW4:Below W3.heap.size W3 W4:=by rw [hW4];exact ((((Below.refl _ _).alloc (by simp) _).alloc (by simp <;> omega) _).alloc (by simp <;> omega) _)
 rw [<- hE2,<- hE1] at kE3
 have hlW4:E1<W4.heap.size/\E2<W4.heap.size/\E3<W4.heap.size:=by omega
 have hb14:Below W1.heap.size W1 W4:=(hbW2.trans (hbW3.mono hbW2.size)).trans (hbW4.mono (Nat.le_trans hbW2.size hbW3.size))
 have hb24:Below W2.heap.size W2 W4:=hbW3.trans (hbW4.mono hbW3.size)
 have hbw4:Below w.heap.size w W4:=(hb0.trans (hbW1.mono hb0.size)).trans (hb14.mono (Nat.le_trans hb0.size hbW1.size))
 have hr4:W4.heap[BR]?=some (.cells #[.slice none 0 0,.slice none 0 0,.slice none 0 0,.slice none 0 0,.slice none 0 0] 28 (0,0)):=(hb14.block BR (by omega)).trans ((hbW1.block BR hl0).trans k0)
 have mA1:=(hb14.block A1 (by omega)).trans kA1
 have mA2:=(hb14.block A2 (by omega)).trans kA2
 have mA3:=(hb14.block A3 (by omega)).trans kA3
 have mA4:=(hb14.block A4 (by omega)).trans kA4
 have mC1:=(hb24.block C1 (by omega)).trans kC1
 have mC2:=(hb24.block C2 (by omega)).trans kC2
 have mD1:=(hbW4.block D1 (by omega)).trans kD1
 have mD2:=(hbW4.block D2 (by omega)).trans kD2
 have HF:Hid (∀ W,Chalk.Mod (fun k=>k=BR) W4 W->SchIn W (·<W.heap.size) ex7S ⟨⟨some ⟨A1,0,none⟩,A1,0,1⟩,⟨some ⟨A2,0,none⟩,A2,0,1⟩,⟨none,0,0,0⟩,⟨none,0,0,0⟩,⟨some ⟨A3,0,none⟩,A3,0,1⟩⟩/\DsAt W (·<W.heap.size) ([ex7R].map Rul.toD) [.string ⟨#[103,111,110,101]⟩,.bool true,.int .i64 0,.slice (some ⟨E1,0,none⟩) 2 2,.int .i64 13,.string ⟨#[]⟩,.int .i64 0,.slice none 0 0,.slice none 0 0,.slice (some ⟨E2,0,none⟩) 2 2]):=Lh (fun W hM=>by
  have hsz:=hM.size
  have hst:∀ b:Bs,b.length<=4->(⟨b.toArray⟩:ByteArray).size<=maxLen:=fun b hb=>by rw [bs_size];unfold maxLen;omega
  have hi:∀ n:Int,0<=n->n<=13->(Lit.int .i64 n).wf=true:=fun n h1 h2=>I64.wf (by unfold I64;omega)
  have nA1:=heap_kept mA1 hM (by omega)
  have nA2:=heap_kept mA2 hM (by omega)
  have nA3:=heap_kept mA3 hM (by omega)
  have nC1:=heap_kept mC1 hM (by omega)
  have nD1:=heap_kept mD1 hM (by omega)
  have nE1:=heap_kept kE1 hM (by omega)
  have nE2:=heap_kept kE2 hM (by omega)
  have dI:∀ n:Int,0<=n->n<=13->DAt W (·<W.heap.size) (.int .i64 n) [.int .i64 n]:=fun n h1 h2=>by rw [DAt];exact ⟨rfl,hi n h1 h2⟩
  have dS:∀ b:Bs,b.length<=4->DAt W (·<W.heap.size) (.str ⟨b.toArray⟩) [.string ⟨b.toArray⟩]:=fun b hb=>by rw [DAt];exact ⟨rfl,hst b hb⟩
  have dN:DAt W (·<W.heap.size) (.sl []) [.slice none 0 0]:=DAt.sl_iff.2 ⟨⟨none,0,0,0⟩,rfl,SlIn.nil (Nat.zero_le _) _ _ _⟩
  have lt:∀ k,k<W4.heap.size->k<W.heap.size:=fun k hk=>by omega
  have s1:SlIn W (·<W.heap.size) (ex7S.slots.map Slt.toD) ⟨some ⟨A1,0,none⟩,A1,0,1⟩:=SlIn.lit nA1 (DsAt.one_of7 (x:=Slt.toD ⟨[109,111,110,49],0,0⟩) (by rw [Slt.toD,DAt];exact DsAt.cons7 (dS _ (by decide)) (DsAt.cons7 (dI 0 (by decide) (by decide)) (DsAt.cons7 (dI 0 (by decide) (by decide)) rfl)))) (lt _ (by omega)) (by decide) (by decide)
  have s2:SlIn W (·<W.heap.size) (ex7S.rooms.map Rom.toD) ⟨some ⟨A2,0,none⟩,A2,0,1⟩:=SlIn.lit nA2 (DsAt.one_of7 (x:=Rom.toD ⟨[114],0,0,[]⟩) (by rw [Rom.toD,DAt];exact DsAt.cons7 (dS _ (by decide)) (DsAt.cons7 (dI 0 (by decide) (by decide)) (DsAt.cons7 (dI 0 (by decide) (by decide)) (DsAt.cons7 dN rfl))))) (lt _ (by omega)) (by decide) (by decide)
  have s3:SlIn W (·<W.heap.size) (ex7S.lessons.map Lsn.toD) ⟨some ⟨A3,0,none⟩,A3,0,1⟩:=SlIn.lit nA3 (DsAt.one_of7 (x:=Lsn.toD ⟨[109,97,116,104],[],[]⟩) (by rw [Lsn.toD,DAt];exact DsAt.cons7 (dS _ (by decide)) (DsAt.cons7 dN (DsAt.cons7 dN rfl)))) (lt _ (by omega)) (by decide) (by decide)
  have dT:∀ (k:Int) (b:Bs) (n:Int),0<=k->k<=13->b.length<=4->0<=n->n<=13->DAt W (·<W.heap.size) (Trm.toD ⟨k,b,n⟩) [.int .i64 k,.string ⟨b.toArray⟩,.int .i64 n]:=fun k b n h1 h2 h3 h4 h5=>by rw [Trm.toD,DAt];exact DsAt.cons7 (dI k h1 h2) (DsAt.cons7 (dS b h3) (DsAt.cons7 (dI n h4 h5) rfl))
  have t1:SlIn W (·<W.heap.size) ([(⟨2,[108],0⟩:Trm),⟨2,[115],0⟩].map Trm.toD) ⟨some ⟨C1,0,none⟩,C1,0,2⟩:=SlIn.lit nC1 (DsAt.cons7 (dT 2 [108] 0 (by decide) (by decide) (by decide) (by decide) (by decide)) (DsAt.one_of7 (dT 2 [115] 0 (by decide) (by decide) (by decide) (by decide) (by decide)))) (lt _ (by omega)) (by decide) (by decide)
  have t2:SlIn W (·<W.heap.size) ([(⟨4,[115],0⟩:Trm),⟨1,[],3⟩].map Trm.toD) ⟨some ⟨D1,0,none⟩,D1,0,2⟩:=SlIn.lit nD1 (DsAt.cons7 (dT 4 [115] 0 (by decide) (by decide) (by decide) (by decide) (by decide)) (DsAt.one_of7 (dT 1 [] 3 (by decide) (by decide) (by decide) (by decide) (by decide)))) (lt _ (by omega)) (by decide) (by decide)
  have dB:∀ (b:Bs) (n:Int),b.length<=4->0<=n->n<=13->DAt W (·<W.heap.size) (Bnd.toD ⟨b,n⟩) [.string ⟨b.toArray⟩,.int .i64 n]:=fun b n h3 h4 h5=>by rw [Bnd.toD,DAt];exact DsAt.cons7 (dS b h3) (DsAt.cons7 (dI n h4 h5) rfl)
  have b1:SlIn W (·<W.heap.size) ([(⟨[108],1⟩:Bnd),⟨[115],2⟩].map Bnd.toD) ⟨some ⟨E1,0,none⟩,E1,0,2⟩:=SlIn.lit nE1 (DsAt.cons7 (dB [108] 1 (by decide) (by decide) (by decide)) (DsAt.one_of7 (dB [115] 2 (by decide) (by decide) (by decide)))) (lt _ (by omega)) (by decide) (by decide)
  have nl:∀ (xs:List D),xs=[]->SlIn W (·<W.heap.size) xs ⟨none,0,0,0⟩:=fun xs h=>by subst h;exact SlIn.nil (Nat.zero_le _) _ _ _
  have i7:∀ n:Int,0<=n->n<=13->I64 n:=fun n h1 h2=>by unfold I64;omega
  have f3:DAt W (·<W.heap.size) (Frm.mk 3 [] 0 [⟨2,[108],0⟩,⟨2,[115],0⟩] [] []).toD [.int .i64 3,.string ⟨#[]⟩,.int .i64 0,.slice (some ⟨C1,0,none⟩) 2 2,.slice none 0 0,.slice none 0 0]:=FrmIn.iff.2 ⟨⟨⟨some ⟨C1,0,none⟩,C1,0,2⟩,⟨none,0,0,0⟩,⟨none,0,0,0⟩⟩,rfl,⟨i7 _ (by decide) (by decide),by decide,i7 _ (by decide) (by decide),t1,nl _ rfl,nl _ rfl⟩⟩
  have f9:DAt W (·<W.heap.size) (Frm.mk 9 [60] 0 [⟨4,[115],0⟩,⟨1,[],3⟩] [] []).toD [.int .i64 9,.string ⟨#[60]⟩,.int .i64 0,.slice (some ⟨D1,0,none⟩) 2 2,.slice none 0 0,.slice none 0 0]:=FrmIn.iff.2 ⟨⟨⟨some ⟨D1,0,none⟩,D1,0,2⟩,⟨none,0,0,0⟩,⟨none,0,0,0⟩⟩,rfl,⟨i7 _ (by decide) (by decide),by decide,i7 _ (by decide) (by decide),t2,nl _ rfl,nl _ rfl⟩⟩
  have fl:SlIn W (·<W.heap.size) ([(Frm.mk 3 [] 0 [⟨2,[108],0⟩,⟨2,[115],0⟩] [] []),.mk 9 [60] 0 [⟨4,[115],0⟩,⟨1,[],3⟩] [] []].map Frm.toD) ⟨some ⟨E2,0,none⟩,E2,0,2⟩:=SlIn.lit nE2 (DsAt.cons7 f3 (DsAt.one_of7 f9)) (lt _ (by omega)) (by decide) (by decide)
  refine ⟨⟨s1,s2,nl _ rfl,nl _ rfl,s3⟩,DsAt.one_of7 (RulIn.iff.2 ⟨⟨⟨some ⟨E1,0,none⟩,E1,0,2⟩,⟨⟨none,0,0,0⟩,⟨none,0,0,0⟩,⟨some ⟨E2,0,none⟩,E2,0,2⟩⟩⟩,rfl,⟨by decide,i7 _ (by decide) (by decide),b1,⟨i7 _ (by decide) (by decide),by decide,i7 _ (by decide) (by decide),nl _ rfl,nl _ rfl,fl⟩⟩⟩)⟩)
 have HC:Hid (∀ W,Chalk.Mod (fun k=>k=BR) W4 W->W.cell? ⟨A4,0,none⟩=some (.slice (some ⟨A1,0,none⟩) 1 1)/\W.cell? ⟨A4,1,none⟩=some (.slice (some ⟨A2,0,none⟩) 1 1)/\W.cell? ⟨A4,2,none⟩=some (.slice none 0 0)/\W.cell? ⟨A4,3,none⟩=some (.slice none 0 0)/\W.cell? ⟨A4,4,none⟩=some (.slice (some ⟨A3,0,none⟩) 1 1)/\W.cell? ⟨E3,0,none⟩=some (.string ⟨#[103,111,110,101]⟩)/\W.cell? ⟨E3,1,none⟩=some (.bool true)/\W.cell? ⟨E3,2,none⟩=some (.int .i64 0)/\W.cell? ⟨E3,3,none⟩=some (.slice (some ⟨E1,0,none⟩) 2 2)/\W.cell? ⟨E3,4,none⟩=some (.int .i64 13)/\W.cell? ⟨E3,5,none⟩=some (.string ⟨#[]⟩)/\W.cell? ⟨E3,6,none⟩=some (.int .i64 0)/\W.cell? ⟨E3,7,none⟩=some (.slice none 0 0)/\W.cell? ⟨E3,8,none⟩=some (.slice none 0 0)/\W.cell? ⟨E3,9,none⟩=some (.slice (some ⟨E2,0,none⟩) 2 2)):=Lh (fun W hM=>by
  have h1:=heap_kept mA4 hM (by omega)
  have h2:=heap_kept kE3 hM (by omega)
  exact ⟨cH h1 rfl,cH h1 rfl,cH h1 rfl,cH h1 rfl,cH h1 rfl,cH h2 rfl,cH h2 rfl,cH h2 rfl,cH h2 rfl,cH h2 rfl,cH h2 rfl,cH h2 rfl,cH h2 rfl,cH h2 rfl,cH h2 rfl⟩)
 have FIN:Hid (∀ (R:Nat) (W:World),Chalk.Mod (fun k=>k=BR) W4 W->W4.heap.size<=R->W.heap[R]?=some (.cells #[.string ⟨#[103,111,110,101]⟩,.bool true,.int .i64 0,.slice (some ⟨E1,0,none⟩) 2 2,.int .i64 13,.string ⟨#[]⟩,.int .i64 0,.slice none 0 0,.slice none 0 0,.slice (some ⟨E2,0,none⟩) 2 2] 66 (0,0))->∃ (x:SchA) (z:SlA),Ending.returned (.tuple #[.agg #[.slice (some ⟨A1,0,none⟩) 1 1,.slice (some ⟨A2,0,none⟩) 1 1,.slice none 0 0,.slice none 0 0,.slice (some ⟨A3,0,none⟩) 1 1],.slice (some ⟨R,0,none⟩) 1 1])=.returned (.tuple #[.agg (x.cells ex7S).toArray,.slice z.a 1 z.cap])/\SchIn W (·<W.heap.size) ex7S x/\SlIn W (·<W.heap.size) ([ex7R].map Rul.toD) z/\Below w.heap.size w W):=Lh (fun R W hM hR hh=>⟨⟨⟨some ⟨A1,0,none⟩,A1,0,1⟩,⟨some ⟨A2,0,none⟩,A2,0,1⟩,⟨none,0,0,0⟩,⟨none,0,0,0⟩,⟨some ⟨A3,0,none⟩,A3,0,1⟩⟩,⟨some ⟨R,0,none⟩,R,0,1⟩,rfl,(HF.out W hM).1,SlIn.lit hh (HF.out W hM).2 (gS hh).1 (by decide) (by decide),hbw4.trans (hM.below hbw4.size (fun k hk=>by omega))⟩)
 have HBW:=Lh (aI hbw4 (aI hr4 (show w.heap.size<=BR by omega)))
 have q3:∀ i v,(#[.int .i64 3,.string ⟨#[]⟩,.int .i64 0,.slice (some ⟨C1,0,none⟩) 2 2,.slice none 0 0,.slice none 0 0]:Array Value)[i]?=some v->W3.cell? ⟨C2,i,none⟩=some v:=fun i v h=>cH ((hbW3.block C2 (by omega)).trans kC2) h
 have q9:∀ i v,(#[.int .i64 9,.string ⟨#[60]⟩,.int .i64 0,.slice (some ⟨D1,0,none⟩) 2 2,.slice none 0 0,.slice none 0 0]:Array Value)[i]?=some v->W3.cell? ⟨D2,i,none⟩=some v:=fun i v h=>cH kD2 h
 have c0:=q3 0 _ rfl
 have c1:=q3 1 _ rfl
 have c2:=q3 2 _ rfl
 have c3:=q3 3 _ rfl
 have c4:=q3 4 _ rfl
 have c5:=q3 5 _ rfl
 have d0:=q9 0 _ rfl
 have d1:=q9 1 _ rfl
 have d2:=q9 2 _ rfl
 have d3:=q9 3 _ rfl
 have d4:=q9 4 _ rfl
 have d5:=q9 5 _ rfl
 have lC2:C2<W3.heap.size:=by omega
 have lD2:D2<W3.heap.size:=by omega
 clear q3 q9 hb14 hb24 hbw4 hr4 mA1 mA2 mA3 mA4 mC1 mC2 mD1 mD2 kA1 kA2 kA3 kA4 kC1 kC2 kD1 kD2 kE1 kE2 kE3 hb0 k0 hl0 hbW1 hbW2 hbW3 hbW4 hlW1 hlW2 hlW3 hlW4 hzW1 hzW2 hzW3 hzW4
 have HW:=Lh (aI hW0 (aI hW1 (aI hW2 (aI hW3 hW4))))
 have HL0:=Lh hBR
 have HL1:=Lh (aI hA4 (aI hA3 (aI hA2 hA1)))
 have HL2:=Lh (aI hC2 hC1)
 have HL3:=Lh (aI hD2 hD1)
 have HL4:=Lh (aI hE3 (aI hE2 hE1))
 clear hW0 hW1 hW2 hW3 hW4 hBR hA1 hA2 hA3 hA4 hC1 hC2 hD1 hD2 hE1 hE2 hE3
 go_enter Tryz.func20,Tryz.ntmps20
 go_upto_region 1 with fail
 rw [<- HW.out.1,<- HL0.out]
 go_upto_region 2 with fail
 rw [<- HW.out.2.1,<- HL1.out.1,<- HL1.out.2.1,<- HL1.out.2.2.1,<- HL1.out.2.2.2]
 go_upto_region 3 with fail
 rw [<- HW.out.2.2.1,<- HL2.out.1,<- HL2.out.2]
 go_upto_region 4 with fail
 rw [<- HW.out.2.2.2.1,<- HL3.out.1,<- HL3.out.2]
 go_upto_region 5 with fail
 rw [<- HW.out.2.2.2.2,<- HL4.out.1,<- HL4.out.2.1,<- HL4.out.2.2]
 refine wp_region_U 4 (S:=fun W=>Chalk.Mod (fun k=>k=BR) W4 W) (by kernel_rfl) (Chalk.Mod.refl _ _).drew (fun hHeld=>?_)
 refine tkH (i:=0) rfl hHeld HC ?_
 refine tkH (i:=1) rfl hHeld HC ?_
 refine ready_U (rs:=[2,3]) (by kernel_rfl) (by simp) ?_
 refine cons_U (i:=2) rfl (fun K hK=>?_) (cons_U (i:=3) rfl (fun K hK=>?_) nil_U)
 ·go_simp
  obtain ⟨W5,hW5⟩:∃ W5,W5=W4.alloc (.cells #[.string ⟨#[103,111,110,101]⟩,.bool true,.int .i64 0,.slice (some ⟨E1,0,none⟩) 2 2,.int .i64 13,.string ⟨#[]⟩,.int .i64 0,.slice none 0 0,.slice none 0 0,.slice (some ⟨E2,0,none⟩) 2 2] 66):=⟨_,rfl⟩
  rw [<- hW5]
  have HM5:=Lh (show Chalk.Mod (fun k=>k=BR) W4 W5 by rw [hW5];exact (Chalk.Mod.refl _ _).alloc _)
  have HK5:=Lh (show W5.heap[W4.heap.size]?=some (.cells #[.string ⟨#[103,111,110,101]⟩,.bool true,.int .i64 0,.slice (some ⟨E1,0,none⟩) 2 2,.int .i64 13,.string ⟨#[]⟩,.int .i64 0,.slice none 0 0,.slice none 0 0,.slice (some ⟨E2,0,none⟩) 2 2] 66 (0,0)) by rw [hW5,heap_get,if_pos rfl])
  have r5:W5.heap[BR]?=some (.cells #[.slice none 0 0,.slice none 0 0,.slice none 0 0,.slice none 0 0,.slice none 0 0] 28 (0,0)):=by rw [hW5,heap_get,if_neg (by have:=(gS HBW.out.2.1).1;omega)];exact HBW.out.2.1
  clear hW5
  refine hK.out _ _ (HM5.out.drew) fun hHeld=>?_
  clear hK K
  try simp only [Act.put,ub1,ub2,ub3]
  have x0:W5.cell? ⟨BR,0,none⟩=some (.slice none 0 0):=cH r5 rfl
  have x1:W5.cell? ⟨BR,1,none⟩=some (.slice none 0 0):=cH r5 rfl
  have x2:W5.cell? ⟨BR,2,none⟩=some (.slice none 0 0):=cH r5 rfl
  have x3:W5.cell? ⟨BR,3,none⟩=some (.slice none 0 0):=cH r5 rfl
  have x4:W5.cell? ⟨BR,4,none⟩=some (.slice none 0 0):=cH r5 rfl
  have f0:W5.frozen? ⟨BR,0,none⟩=false:=fH r5
  have f1:W5.frozen? ⟨BR,1,none⟩=false:=fH r5
  have f2:W5.frozen? ⟨BR,2,none⟩=false:=fH r5
  have f3:W5.frozen? ⟨BR,3,none⟩=false:=fH r5
  have f4:W5.frozen? ⟨BR,4,none⟩=false:=fH r5
  have hlr:BR<W5.heap.size:=(gS r5).1
  refine ready_U (rs:=[3]) (by kernel_rfl) (by simp) ?_
  refine cons_U rfl (fun K hK=>?_) nil_U
  have HQ5:=Lh (aI (put5_heap r5 (.slice (some ⟨A1,0,none⟩) 1 1) (.slice (some ⟨A2,0,none⟩) 1 1) (.slice none 0 0) (.slice none 0 0) (.slice (some ⟨A3,0,none⟩) 1 1)) (put5_mod W5 BR 0 (.slice (some ⟨A1,0,none⟩) 1 1) (.slice (some ⟨A2,0,none⟩) 1 1) (.slice none 0 0) (.slice none 0 0) (.slice (some ⟨A3,0,none⟩) 1 1)))
  unfold put5 at HQ5
  simp only [Nat.zero_add] at HQ5
  clear r5
  go_simp
  clear x0 x1 x2 x3 x4 f0 f1 f2 f3 f4 hlr
  generalize ((((W5.setCell _ _).setCell _ _).setCell _ _).setCell _ _).setCell _ _=W6 at HQ5 ⊢
  have HM6:=Lh (HM5.out.trans HQ5.out.2 (fun _ _ h=>h))
  have HK6:=Lh (heap_kept HK5.out HQ5.out.2 (by have:=(gS HBW.out.2.1).1;omega))
  have r6:=HQ5.out.1
  refine hK.out _ _ (HM6.out.drew) fun hHeld=>?_
  clear hK K
  try simp only [Act.put,ub1,ub2,ub3]
  refine ready_U (rs:=[4]) (by kernel_rfl) (by simp) ?_
  refine cons_V rfl (by kernel_rfl) (fun K hK=>?_) nil_U
  go_simp
  refine hK.out _ _ ?_
  clear hK K
  try simp only [Act.put,ub1,ub2,ub3]
  refine done_U (by kernel_rfl) ?_ _
  have y0:W6.cell? ⟨BR,0,none⟩=some (.slice (some ⟨A1,0,none⟩) 1 1):=cH r6 rfl
  have y1:W6.cell? ⟨BR,1,none⟩=some (.slice (some ⟨A2,0,none⟩) 1 1):=cH r6 rfl
  have y2:W6.cell? ⟨BR,2,none⟩=some (.slice none 0 0):=cH r6 rfl
  have y3:W6.cell? ⟨BR,3,none⟩=some (.slice none 0 0):=cH r6 rfl
  have y4:W6.cell? ⟨BR,4,none⟩=some (.slice (some ⟨A3,0,none⟩) 1 1):=cH r6 rfl
  go_wp2_with fail
  refine bodyPost_ret (v:=.tuple #[.agg #[.slice (some ⟨A1,0,none⟩) 1 1,.slice (some ⟨A2,0,none⟩) 1 1,.slice none 0 0,.slice none 0 0,.slice (some ⟨A3,0,none⟩) 1 1],.slice (some ⟨W4.heap.size,0,none⟩) 1 1]) (by simp [results,Tryz.results20,go_sem,y0,y1,y2,y3,y4]) rfl ?_
  exact FIN.out _ _ (by first | exact HM6.out | exact HM6.out.drew | exact HM6.out.drew.drew) (Nat.le_refl _) HK6.out
 ·have r5:W4.heap[BR]?=some (.cells #[.slice none 0 0,.slice none 0 0,.slice none 0 0,.slice none 0 0,.slice none 0 0] 28 (0,0)):=HBW.out.2.1
  have x0:W4.cell? ⟨BR,0,none⟩=some (.slice none 0 0):=cH r5 rfl
  have x1:W4.cell? ⟨BR,1,none⟩=some (.slice none 0 0):=cH r5 rfl
  have x2:W4.cell? ⟨BR,2,none⟩=some (.slice none 0 0):=cH r5 rfl
  have x3:W4.cell? ⟨BR,3,none⟩=some (.slice none 0 0):=cH r5 rfl
  have x4:W4.cell? ⟨BR,4,none⟩=some (.slice none 0 0):=cH r5 rfl
  have f0:W4.frozen? ⟨BR,0,none⟩=false:=fH r5
  have f1:W4.frozen? ⟨BR,1,none⟩=false:=fH r5
  have f2:W4.frozen? ⟨BR,2,none⟩=false:=fH r5
  have f3:W4.frozen? ⟨BR,3,none⟩=false:=fH r5
  have f4:W4.frozen? ⟨BR,4,none⟩=false:=fH r5
  have hlr:BR<W4.heap.size:=(gS r5).1
  have HQ5:=Lh (aI (put5_heap r5 (.slice (some ⟨A1,0,none⟩) 1 1) (.slice (some ⟨A2,0,none⟩) 1 1) (.slice none 0 0) (.slice none 0 0) (.slice (some ⟨A3,0,none⟩) 1 1)) (put5_mod W4 BR 0 (.slice (some ⟨A1,0,none⟩) 1 1) (.slice (some ⟨A2,0,none⟩) 1 1) (.slice none 0 0) (.slice none 0 0) (.slice (some ⟨A3,0,none⟩) 1 1)))
  unfold put5 at HQ5
  simp only [Nat.zero_add] at HQ5
  clear r5
  go_simp
  clear x0 x1 x2 x3 x4 f0 f1 f2 f3 f4 hlr
  generalize ((((W4.setCell _ _).setCell _ _).setCell _ _).setCell _ _).setCell _ _=W6 at HQ5 ⊢
  have HM6:=Lh HQ5.out.2
  have r6:=HQ5.out.1
  refine hK.out _ _ (HM6.out.drew) fun hHeld=>?_
  clear hK K
  try simp only [Act.put,ub1,ub2,ub3]
  refine ready_U (rs:=[2]) (by kernel_rfl) (by simp) ?_
  refine cons_U rfl (fun K hK=>?_) nil_U
  go_simp
  obtain ⟨W5,hW5⟩:∃ W5,W5=W6.alloc (.cells #[.string ⟨#[103,111,110,101]⟩,.bool true,.int .i64 0,.slice (some ⟨E1,0,none⟩) 2 2,.int .i64 13,.string ⟨#[]⟩,.int .i64 0,.slice none 0 0,.slice none 0 0,.slice (some ⟨E2,0,none⟩) 2 2] 66):=⟨_,rfl⟩
  rw [<- hW5]
  have HM7:=Lh (show Chalk.Mod (fun k=>k=BR) W4 W5 by rw [hW5];exact HM6.out.alloc _)
  have HK7:=Lh (show W5.heap[W6.heap.size]?=some (.cells #[.string ⟨#[103,111,110,101]⟩,.bool true,.int .i64 0,.slice (some ⟨E1,0,none⟩) 2 2,.int .i64 13,.string ⟨#[]⟩,.int .i64 0,.slice none 0 0,.slice none 0 0,.slice (some ⟨E2,0,none⟩) 2 2] 66 (0,0)) by rw [hW5,heap_get,if_pos rfl])
  have r7:W5.heap[BR]?=some (.cells #[.slice (some ⟨A1,0,none⟩) 1 1,.slice (some ⟨A2,0,none⟩) 1 1,.slice none 0 0,.slice none 0 0,.slice (some ⟨A3,0,none⟩) 1 1] 28 (0,0)):=by rw [hW5,heap_get,if_neg (by have:=(gS r6).1;omega)];exact r6
  clear hW5 r6
  have r6:=r7
  clear r7
  refine hK.out _ _ (HM7.out.drew) fun hHeld=>?_
  clear hK K
  try simp only [Act.put,ub1,ub2,ub3]
  refine ready_U (rs:=[4]) (by kernel_rfl) (by simp) ?_
  refine cons_V rfl (by kernel_rfl) (fun K hK=>?_) nil_U
  go_simp
  refine hK.out _ _ ?_
  clear hK K
  try simp only [Act.put,ub1,ub2,ub3]
  refine done_U (by kernel_rfl) ?_ _
  have y0:W5.cell? ⟨BR,0,none⟩=some (.slice (some ⟨A1,0,none⟩) 1 1):=cH r6 rfl
  have y1:W5.cell? ⟨BR,1,none⟩=some (.slice (some ⟨A2,0,none⟩) 1 1):=cH r6 rfl
  have y2:W5.cell? ⟨BR,2,none⟩=some (.slice none 0 0):=cH r6 rfl
  have y3:W5.cell? ⟨BR,3,none⟩=some (.slice none 0 0):=cH r6 rfl
  have y4:W5.cell? ⟨BR,4,none⟩=some (.slice (some ⟨A3,0,none⟩) 1 1):=cH r6 rfl
  go_wp2_with fail
  refine bodyPost_ret (v:=.tuple #[.agg #[.slice (some ⟨A1,0,none⟩) 1 1,.slice (some ⟨A2,0,none⟩) 1 1,.slice none 0 0,.slice none 0 0,.slice (some ⟨A3,0,none⟩) 1 1],.slice (some ⟨W6.heap.size,0,none⟩) 1 1]) (by simp [results,Tryz.results20,go_sem,y0,y1,y2,y3,y4]) rfl ?_
  exact FIN.out _ _ (by first | exact HM7.out | exact HM7.out.drew | exact HM7.out.drew.drew) HM6.out.size HK7.out
end Go.Proofs.YtncnnbmeacpboaaGreatDoor
/- The law's example, told: what tell answers. -/
namespace Go.Chalk
open Go.RowKit
def wantL:Bs:=[103,111,110,101,32,40,108,32,61,32,109,97,116,104,44,32,115,32,61,32,109,111,110,49,41,58,32,97,116,40,109,97,116,104,44,32,109,111,110,49,41,32,45,62,32,104,111,117,114,40,109,111,110,49,41,32,60,32,51]
def headL:Bs:=[104,97,114,100,32,103,111,110,101,58]
def togL:Bs:=[116,104,101,115,101,32,99,97,110,39,116,32,98,101,32,116,111,103,101,116,104,101,114,58]
def allL:Bs:=[116,104,97,116,32,105,115,32,97,108,108]
theorem xl_inst:instF ex7S [ex7R] ⟨0,[0,0]⟩=(wantL,0):=by decide +kernel
theorem xl_insts:instsF ex7S [ex7R] [⟨0,[0,0]⟩]=([headL,32 :: 32 :: wantL],0):=by decide +kernel
theorem xl_why:whyF 1 3 ex7S [ex7R] [⟨0,[0,0]⟩] ⟨1,[[0]],[]⟩=([togL,headL,32 :: 32 :: wantL,allL],0):=by decide +kernel
theorem xl_inst1:instF ex7S [ex7R] ⟨0,[0,1]⟩=([],1):=by decide +kernel
theorem xl_why1:whyF 1 3 ex7S [ex7R] [⟨0,[0,0]⟩] ⟨1,[[1]],[]⟩=([],1):=by decide +kernel
def noT7:Tr:=.mk 0 0 0 []
def ex7I:Inx:=⟨0,[0,0],noT7⟩
end Go.Chalk
namespace Go.Proofs.YtncnnbmeacpboaaGreatDoor
open Go.RowKit Go.Chalk
theorem noT7_at {W:World} {F:Nat->Prop}:DAt W F noT7.toD [.int .i64 0,.int .i64 0,.int .i64 0,.slice none 0 0]:=by
 rw [noT7,Tr.toD,DAt]
 have dI:DAt W F (.int .i64 0) [.int .i64 0]:=by rw [DAt];exact ⟨rfl,by decide⟩
 have dN:DAt W F (.sl []) [.slice none 0 0]:=DAt.sl_iff.2 ⟨⟨none,0,0,0⟩,rfl,SlIn.nil (Nat.zero_le _) _ _ _⟩
 exact DsAt.cons7 dI (DsAt.cons7 dI (DsAt.cons7 dI (DsAt.one_of7 dN)))
theorem ex7S_fit:SchFit ex7S:=by
 refine ⟨⟨by decide,by decide,by decide,by decide,by decide⟩,fun sort=>?_,by decide,by decide,by decide,by decide⟩
 unfold schNames
 repeat' split
 all_goals decide
theorem ex7R_fit:∀ r∈[ex7R],RulFit r:=by
 intro r hr
 rw [List.mem_singleton.1 hr]
 exact ⟨by decide,by decide,by decide,⟨by decide,by unfold FrmSm;decide +kernel⟩⟩
structure LvT (w W:World) (x:SchA) (z:SlA) (SB IB XB:Nat):Prop where
 box:W.heap[SB]?=some (.cells (x.cells ex7S).toArray 28 (0,0))
 sch:SchIn W (·<W.heap.size) ex7S x
 rul:SlIn W (·<W.heap.size) ([ex7R].map Rul.toD) z
 ints:W.heap[IB]?=some (.cells #[.int .i64 0,.int .i64 0] 3 (0,0))
 inst:W.heap[XB]?=some (.cells #[.int .i64 0,.slice (some ⟨IB,0,none⟩) 2 2,.int .i64 0,.int .i64 0,.int .i64 0,.slice none 0 0] 35 (0,0))
 bel:Below w.heap.size w W
 gs:GS W
theorem LvT.later {w W W':World} {x:SchA} {z:SlA} {SB IB XB:Nat} (h:LvT w W x z SB IB XB) (hb:Below W.heap.size W W'):LvT w W' x z SB IB XB :=
 ⟨(hb.block _ (gS h.box).1).trans h.box,h.sch.later hb hb.size,h.rul.later hb hb.size,(hb.block _ (gS h.ints).1).trans h.ints,(hb.block _ (gS h.inst).1).trans h.inst,h.bel.trans (hb.mono h.bel.size),h.gs.below hb⟩
theorem ints_two {W:World} {B:Nat} {a b:Int} (ha:I64 a) (hb:I64 b) (h:W.heap[B]?=some (.cells #[.int .i64 a,.int .i64 b] 3 (0,0))):SlIn W (·<W.heap.size) (dints [a,b]) ⟨some ⟨B,0,none⟩,B,0,2⟩:=by
 have dI:∀ n,I64 n->DAt W (·<W.heap.size) (.int .i64 n) [.int .i64 n]:=fun n hn=>by rw [DAt];exact ⟨rfl,hn.wf⟩
 exact SlIn.lit h (DsAt.cons7 (dI _ ha) (DsAt.one_of7 (dI _ hb))) (gS h).1 (by simp) (by decide)
theorem sets_one {W:World} {C B:Nat} {a:Int} (ha:I64 a) (h:W.heap[B]?=some (.cells #[.int .i64 a] 3 (0,0))) (k:W.heap[C]?=some (.cells #[.slice (some ⟨B,0,none⟩) 1 1] 30 (0,0))):SlIn W (·<W.heap.size) (dsets [[a]]) ⟨some ⟨C,0,none⟩,C,0,1⟩:=by
 have dI:DAt W (·<W.heap.size) (.int .i64 a) [.int .i64 a]:=by rw [DAt];exact ⟨rfl,ha.wf⟩
 have s1:SlIn W (·<W.heap.size) (dints [a]) ⟨some ⟨B,0,none⟩,B,0,1⟩:=SlIn.lit h (DsAt.one_of7 dI) (gS h).1 (by simp) (by decide)
 exact SlIn.lit k (DsAt.one_of7 (DAt.sl_iff.2 ⟨_,rfl,s1⟩)) (gS k).1 (by simp [dsets]) (by decide)
theorem i7_0:I64 0:=by unfold I64;omega
theorem i7_1:I64 1:=by unfold I64;omega
theorem inx_two {W:World} {B:Nat} {b:Int} (hb:I64 b) (h:W.heap[B]?=some (.cells #[.int .i64 0,.int .i64 b] 3 (0,0))):InxIn W (·<W.heap.size) ⟨0,[0,b],noT7⟩ ⟨⟨some ⟨B,0,none⟩,B,0,2⟩,0,0,0,none,0,0⟩ :=
 ⟨i7_0,ints_two i7_0 hb h,noT7_at⟩
theorem LvT.xs {w W:World} {x:SchA} {z:SlA} {SB IB XB:Nat} (h:LvT w W x z SB IB XB):SlIn W (·<W.heap.size) ([ex7I].map Inx.toD) ⟨some ⟨XB,0,none⟩,XB,0,1⟩:=by
 exact SlIn.lit h.inst (DsAt.one_of7 (InxIn.iff.2 ⟨_,rfl,inx_two i7_0 h.ints⟩)) (gS h.inst).1 (by decide) (by decide)
section
variable {w W:World} {x:SchA} {z:SlA} {SB IB XB:Nat} (hI:ItoaAt) (h:LvT w W x z SB IB XB)
include hI h
theorem lv_inst:Calls Tryz.prog 10 #[.agg (x.cells ex7S).toArray,.slice z.a 1 z.cap,.agg #[.int .i64 0,.slice (some ⟨IB,0,none⟩) 2 2,.int .i64 0,.int .i64 0,.int .i64 0,.slice none 0 0]] W fun e w'=>e=.returned (.tuple #[.string ⟨wantL.toArray⟩,.int .i64 0])/\Below W.heap.size W w':=by
 have c:=inst_any ex7S x [ex7R] z ex7I ⟨⟨some ⟨IB,0,none⟩,IB,0,2⟩,0,0,0,none,0,0⟩ W hI h.sch ex7S_fit h.rul (by decide) ex7R_fit (inx_two i7_0 h.ints) (by decide) h.gs
 rw [show instF ex7S [ex7R] ex7I.ins=(wantL,0) from xl_inst] at c
 exact c
theorem lv_inst1 {B:Nat} (hB:W.heap[B]?=some (.cells #[.int .i64 0,.int .i64 1] 3 (0,0))):Calls Tryz.prog 10 #[.agg (x.cells ex7S).toArray,.slice z.a 1 z.cap,.agg #[.int .i64 0,.slice (some ⟨B,0,none⟩) 2 2,.int .i64 0,.int .i64 0,.int .i64 0,.slice none 0 0]] W fun e w'=>e=.returned (.tuple #[.string ⟨#[]⟩,.int .i64 1])/\Below W.heap.size W w':=by
 have c:=inst_any ex7S x [ex7R] z ⟨0,[0,1],noT7⟩ ⟨⟨some ⟨B,0,none⟩,B,0,2⟩,0,0,0,none,0,0⟩ W hI h.sch ex7S_fit h.rul (by decide) ex7R_fit (inx_two i7_1 hB) (by decide) h.gs
 rw [show instF ex7S [ex7R] (Inx.mk 0 [0,1] noT7).ins=([],1) from xl_inst1] at c
 exact c
theorem lv_insts:Calls Tryz.prog 13 #[.agg (x.cells ex7S).toArray,.slice z.a 1 z.cap,.slice (some ⟨XB,0,none⟩) 1 1] W fun e w'=>∃ v:SlA,e=.returned (.tuple #[.slice v.a 2 v.cap,.int .i64 0])/\SlIn w' (·<w'.heap.size) ([headL,32 :: 32 :: wantL].map dstr) v/\Below W.heap.size W w':=by
 have c:=insts_any ex7S x [ex7R] z [ex7I] ⟨some ⟨XB,0,none⟩,XB,0,1⟩ W hI h.sch ex7S_fit h.rul (by decide) ex7R_fit h.xs (by decide) (by decide) h.gs
 rw [show instsF ex7S [ex7R] ([ex7I].map Inx.ins)=([headL,32 :: 32 :: wantL],0) from xl_insts] at c
 exact c.mono fun e w' ⟨v,h1,⟨y,h2,h3⟩,h4⟩=>⟨y,by rw [h1,h2];rfl,h3.mono (fun k hk=>hk.2),h4⟩
theorem lv_why {B C:Nat} (hB:W.heap[B]?=some (.cells #[.int .i64 0] 3 (0,0))) (hC:W.heap[C]?=some (.cells #[.slice (some ⟨B,0,none⟩) 1 1] 30 (0,0))):Calls Tryz.prog 15 #[.agg (x.cells ex7S).toArray,.slice z.a 1 z.cap,.slice (some ⟨XB,0,none⟩) 1 1,.agg #[.int .i64 1,.slice (some ⟨C,0,none⟩) 1 1,.slice none 0 0]] W fun e w'=>∃ v:SlA,e=.returned (.tuple #[.slice v.a 4 v.cap,.int .i64 0])/\SlIn w' (·<w'.heap.size) ([togL,headL,32 :: 32 :: wantL,allL].map dstr) v/\Below W.heap.size W w':=by
 have c:=why_any ex7S x [ex7R] z [ex7I] ⟨some ⟨XB,0,none⟩,XB,0,1⟩ ⟨1,[[0]],[]⟩ ⟨⟨some ⟨C,0,none⟩,C,0,1⟩,⟨none,0,0,0⟩⟩ W hI h.sch ex7S_fit h.rul (by decide) ex7R_fit h.xs (by decide) (by decide) (sets_one i7_0 hB hC) (SlIn.nil (Nat.zero_le _) _ _ _) (by decide) (by decide) (by decide) (by decide) h.gs
 rw [show whyF 1 3 ex7S [ex7R] ([ex7I].map Inx.ins) ⟨1,[[0]],[]⟩=([togL,headL,32 :: 32 :: wantL,allL],0) from xl_why] at c
 exact c.mono fun e w' ⟨v,h1,⟨y,h2,h3⟩,h4⟩=>⟨y,by rw [h1,h2];rfl,h3,h4⟩
theorem lv_why1 {B C:Nat} (hB:W.heap[B]?=some (.cells #[.int .i64 1] 3 (0,0))) (hC:W.heap[C]?=some (.cells #[.slice (some ⟨B,0,none⟩) 1 1] 30 (0,0))):Calls Tryz.prog 15 #[.agg (x.cells ex7S).toArray,.slice z.a 1 z.cap,.slice (some ⟨XB,0,none⟩) 1 1,.agg #[.int .i64 1,.slice (some ⟨C,0,none⟩) 1 1,.slice none 0 0]] W fun e w'=>∃ v,e=.returned (.tuple #[v,.int .i64 1])/\Below W.heap.size W w':=by
 have c:=why_any ex7S x [ex7R] z [ex7I] ⟨some ⟨XB,0,none⟩,XB,0,1⟩ ⟨1,[[1]],[]⟩ ⟨⟨some ⟨C,0,none⟩,C,0,1⟩,⟨none,0,0,0⟩⟩ W hI h.sch ex7S_fit h.rul (by decide) ex7R_fit h.xs (by decide) (by decide) (sets_one i7_1 hB hC) (SlIn.nil (Nat.zero_le _) _ _ _) (by decide) (by decide) (by decide) (by decide) h.gs
 rw [show whyF 1 3 ex7S [ex7R] ([ex7I].map Inx.ins) ⟨1,[[1]],[]⟩=([],1) from xl_why1] at c
 exact c.mono fun e w' ⟨v,h1,_,h4⟩=>⟨v,h1,h4⟩
end
end Go.Proofs.YtncnnbmeacpboaaGreatDoor
/- The law's live. (written by tools/gen_ulive.py) -/
namespace Go.Proofs.YtncnnbmeacpboaaGreatDoor
open Go.RowKit Go.Chalk
attribute [local go_sem] Oper.semAt_some
theorem live31_any (w:World) (hI:ItoaAt) (hg:GS w):Calls Tryz.prog 8 #[] w fun e w'=>e=.returned (.bool true)/\Below w.heap.size w w':=by
 have HI:=Lh hI
 have HG:=Lh hg
 clear hI hg
 go_enter Tryz.func8,Tryz.ntmps8
 go_wp2_with fail
 refine (example7_any _).mono ?_
 rintro e w1 ⟨x,z,rfl,h1,h2,b1⟩
 have H1:=Lh (aI h1 (aI h2 b1))
 clear h1 h2 b1
 go_upto_region 3 with fail
 obtain ⟨SB,hSB⟩:∃ SB,SB=w1.heap.size:=⟨_,rfl⟩
 obtain ⟨IB,hIB⟩:∃ IB,IB=w1.heap.size+1:=⟨_,rfl⟩
 obtain ⟨XB,hXB⟩:∃ XB,XB=w1.heap.size+1+1:=⟨_,rfl⟩
 obtain ⟨W3,hW3⟩:∃ W3,W3=((w1.alloc (.cells #[.slice x.slots.a ex7S.slots.length x.slots.cap,.slice x.rooms.a ex7S.rooms.length x.rooms.cap,.slice x.people.a ex7S.people.length x.people.cap,.slice x.groups.a ex7S.groups.length x.groups.cap,.slice x.lessons.a ex7S.lessons.length x.lessons.cap] 28)).alloc (.cells #[.int .i64 0,.int .i64 0] 3)).alloc (.cells #[.int .i64 0,.slice (some ⟨w1.heap.size+1,0,none⟩) 2 2,.int .i64 0,.int .i64 0,.int .i64 0,.slice none 0 0] 35):=⟨_,rfl⟩
 have hb3:Below w1.heap.size w1 W3:=by rw [hW3];exact (((Below.refl _ _).alloc (Nat.le_refl _) _).alloc (by simp) _).alloc (by simp <;> omega) _
 have L3:LvT w W3 x z SB IB XB:=by
  refine ⟨?_,H1.out.1.later hb3 hb3.size,H1.out.2.1.later hb3 hb3.size,?_,?_,H1.out.2.2.trans (hb3.mono H1.out.2.2.size),(HG.out.below H1.out.2.2).below hb3⟩
  ·rw [hW3,heap_get,if_neg (by simp <;> omega),heap_get,if_neg (by simp <;> omega),heap_get,if_pos hSB]
  ·rw [hW3,heap_get,if_neg (by simp <;> omega),heap_get,if_pos (by simp <;> omega)]
  ·rw [hW3,heap_get,if_pos (by simp <;> omega),hIB]
 rw [<- hW3,<- hXB,<- hIB,<- hSB]
 have L3:=Lh L3
 clear hb3 hW3 hSB hIB hXB H1
 try (generalize Value.tuple _=tt)
 have HC3:Hid (∀ W,Below W3.heap.size W3 W->W.cell? ⟨SB,0,none⟩=some (.slice x.slots.a ex7S.slots.length x.slots.cap)/\W.cell? ⟨SB,1,none⟩=some (.slice x.rooms.a ex7S.rooms.length x.rooms.cap)/\W.cell? ⟨SB,2,none⟩=some (.slice x.people.a ex7S.people.length x.people.cap)/\W.cell? ⟨SB,3,none⟩=some (.slice x.groups.a ex7S.groups.length x.groups.cap)/\W.cell? ⟨SB,4,none⟩=some (.slice x.lessons.a ex7S.lessons.length x.lessons.cap)/\W.cell? ⟨XB,0,none⟩=some (.int .i64 0)/\W.cell? ⟨XB,1,none⟩=some (.slice (some ⟨IB,0,none⟩) 2 2)/\W.cell? ⟨XB,2,none⟩=some (.int .i64 0)/\W.cell? ⟨XB,3,none⟩=some (.int .i64 0)/\W.cell? ⟨XB,4,none⟩=some (.int .i64 0)/\W.cell? ⟨XB,5,none⟩=some (.slice none 0 0)):=Lh (fun W hB=>by
  have h:=L3.out.later hB
  have h1:=h.box
  have h2:=h.inst
  exact ⟨cH h1 rfl,cH h1 rfl,cH h1 rfl,cH h1 rfl,cH h1 rfl,cH h2 rfl,cH h2 rfl,cH h2 rfl,cH h2 rfl,cH h2 rfl,cH h2 rfl⟩)
 refine wp_region_U 10 (S:=fun W=>Below W3.heap.size W3 W) (by kernel_rfl) (Below.refl _ _).drew (fun hHeld=>?_)
 refine tkH (i:=0) rfl hHeld HC3 ?_
 refine tkH (i:=1) rfl hHeld HC3 ?_
 refine tkH (i:=2) rfl hHeld HC3 ?_
 refine tkH (i:=3) rfl hHeld HC3 ?_
 refine tkH (i:=4) rfl hHeld HC3 ?_
 refine ready_U (rs:=[5]) (by kernel_rfl) (by simp) ?_
 refine cons_U rfl (fun K hK=>?_) nil_U
 go_simp
 refine (lv_inst HI.out (L3.out.later hHeld)).mono ?_
 rintro e w4 ⟨rfl,hb⟩
 have B4:=Lh (hHeld.trans (hb.mono hHeld.size))
 clear hb
 go_simp
 refine hK.out _ _ (B4.out) fun hHeld=>?_
 clear hK K
 try simp only [Act.put,ub1,ub2,ub3]
 refine tkH (i:=6) rfl hHeld HC3 ?_
 refine tkH (i:=7) rfl hHeld HC3 ?_
 refine tkH (i:=8) rfl hHeld HC3 ?_
 refine tkH (i:=9) rfl hHeld HC3 ?_
 refine ready_U (rs:=[10]) (by kernel_rfl) (by simp) ?_
 refine cons_V rfl (by kernel_rfl) (fun K hK=>?_) nil_U
 go_simp
 refine hK.out _ _ ?_
 clear hK K
 try simp only [Act.put,ub1,ub2,ub3]
 refine done_U (by kernel_rfl) ?_ _
 have L4:=Lh (L3.out.later B4.out)
 clear hHeld HC3 B4 L3
 have c0:w4.cell? ⟨SB,0,none⟩=some (.slice x.slots.a ex7S.slots.length x.slots.cap):=cH L4.out.box rfl
 have c1:w4.cell? ⟨SB,1,none⟩=some (.slice x.rooms.a ex7S.rooms.length x.rooms.cap):=cH L4.out.box rfl
 have c2:w4.cell? ⟨SB,2,none⟩=some (.slice x.people.a ex7S.people.length x.people.cap):=cH L4.out.box rfl
 have c3:w4.cell? ⟨SB,3,none⟩=some (.slice x.groups.a ex7S.groups.length x.groups.cap):=cH L4.out.box rfl
 have c4:w4.cell? ⟨SB,4,none⟩=some (.slice x.lessons.a ex7S.lessons.length x.lessons.cap):=cH L4.out.box rfl
 go_wp2_with fail
 refine (lv_insts HI.out L4.out).mono ?_
 rintro e w5 ⟨v,rfl,hv,hb⟩
 have L5:=Lh (aI (L4.out.later hb) hv)
 clear hb hv c0 c1 c2 c3 c4 L4
 have c0:w5.cell? ⟨SB,0,none⟩=some (.slice x.slots.a ex7S.slots.length x.slots.cap):=cH L5.out.1.box rfl
 have c1:w5.cell? ⟨SB,1,none⟩=some (.slice x.rooms.a ex7S.rooms.length x.rooms.cap):=cH L5.out.1.box rfl
 have c2:w5.cell? ⟨SB,2,none⟩=some (.slice x.people.a ex7S.people.length x.people.cap):=cH L5.out.1.box rfl
 have c3:w5.cell? ⟨SB,3,none⟩=some (.slice x.groups.a ex7S.groups.length x.groups.cap):=cH L5.out.1.box rfl
 have c4:w5.cell? ⟨SB,4,none⟩=some (.slice x.lessons.a ex7S.lessons.length x.lessons.cap):=cH L5.out.1.box rfl
 go_wp2_with fail
 obtain ⟨W6,hW6⟩:∃ W6,W6=(w5.alloc (.cells #[.int .i64 0] 3)).alloc (.cells #[.slice (some ⟨w5.heap.size,0,none⟩) 1 1] 30):=⟨_,rfl⟩
 have bW6:Below w5.heap.size w5 W6:=by rw [hW6];exact ((Below.refl _ _).alloc (Nat.le_refl _) _).alloc (by simp) _
 have kW6:W6.heap[w5.heap.size]?=some (.cells #[.int .i64 0] 3 (0,0)):=by rw [hW6,heap_get,if_neg (by simp),heap_get,if_pos rfl]
 have qW6:W6.heap[w5.heap.size+1]?=some (.cells #[.slice (some ⟨w5.heap.size,0,none⟩) 1 1] 30 (0,0)):=by rw [hW6,heap_get,if_pos (by simp)]
 rw [<- hW6]
 refine (lv_why HI.out (L5.out.1.later bW6) kW6 qW6).mono ?_
 rintro e w7 ⟨v2,rfl,hv,hb⟩
 have b57:=bW6.trans (hb.mono bW6.size)
 have L7:=Lh (aI (L5.out.1.later b57) (aI (L5.out.2.later b57 b57.size) hv))
 clear hb hv c0 c1 c2 c3 c4 L5 bW6 kW6 qW6 hW6 b57
 have c0:w7.cell? ⟨SB,0,none⟩=some (.slice x.slots.a ex7S.slots.length x.slots.cap):=cH L7.out.1.box rfl
 have c1:w7.cell? ⟨SB,1,none⟩=some (.slice x.rooms.a ex7S.rooms.length x.rooms.cap):=cH L7.out.1.box rfl
 have c2:w7.cell? ⟨SB,2,none⟩=some (.slice x.people.a ex7S.people.length x.people.cap):=cH L7.out.1.box rfl
 have c3:w7.cell? ⟨SB,3,none⟩=some (.slice x.groups.a ex7S.groups.length x.groups.cap):=cH L7.out.1.box rfl
 have c4:w7.cell? ⟨SB,4,none⟩=some (.slice x.lessons.a ex7S.lessons.length x.lessons.cap):=cH L7.out.1.box rfl
 go_wp2_with fail
 obtain ⟨W8,hW8⟩:∃ W8,W8=w7.alloc (.cells #[.int .i64 0,.int .i64 1] 3):=⟨_,rfl⟩
 have b8:Below w7.heap.size w7 W8:=by rw [hW8];exact (Below.refl _ _).alloc (Nat.le_refl _) _
 have k8:W8.heap[w7.heap.size]?=some (.cells #[.int .i64 0,.int .i64 1] 3 (0,0)):=by rw [hW8,heap_get,if_pos rfl]
 rw [<- hW8]
 refine (lv_inst1 HI.out (L7.out.1.later b8) k8).mono ?_
 rintro e w9 ⟨rfl,hb⟩
 have b79:=b8.trans (hb.mono b8.size)
 have L9:=Lh (aI (L7.out.1.later b79) (aI (L7.out.2.1.later b79 b79.size) (L7.out.2.2.later b79 b79.size)))
 clear hb c0 c1 c2 c3 c4 L7 b8 k8 hW8 b79
 have c0:w9.cell? ⟨SB,0,none⟩=some (.slice x.slots.a ex7S.slots.length x.slots.cap):=cH L9.out.1.box rfl
 have c1:w9.cell? ⟨SB,1,none⟩=some (.slice x.rooms.a ex7S.rooms.length x.rooms.cap):=cH L9.out.1.box rfl
 have c2:w9.cell? ⟨SB,2,none⟩=some (.slice x.people.a ex7S.people.length x.people.cap):=cH L9.out.1.box rfl
 have c3:w9.cell? ⟨SB,3,none⟩=some (.slice x.groups.a ex7S.groups.length x.groups.cap):=cH L9.out.1.box rfl
 have c4:w9.cell? ⟨SB,4,none⟩=some (.slice x.lessons.a ex7S.lessons.length x.lessons.cap):=cH L9.out.1.box rfl
 go_wp2_with fail
 obtain ⟨WA,hWA⟩:∃ WA,WA=(w9.alloc (.cells #[.int .i64 1] 3)).alloc (.cells #[.slice (some ⟨w9.heap.size,0,none⟩) 1 1] 30):=⟨_,rfl⟩
 have bWA:Below w9.heap.size w9 WA:=by rw [hWA];exact ((Below.refl _ _).alloc (Nat.le_refl _) _).alloc (by simp) _
 have kWA:WA.heap[w9.heap.size]?=some (.cells #[.int .i64 1] 3 (0,0)):=by rw [hWA,heap_get,if_neg (by simp),heap_get,if_pos rfl]
 have qWA:WA.heap[w9.heap.size+1]?=some (.cells #[.slice (some ⟨w9.heap.size,0,none⟩) 1 1] 30 (0,0)):=by rw [hWA,heap_get,if_pos (by simp)]
 rw [<- hWA]
 refine (lv_why1 HI.out (L9.out.1.later bWA) kWA qWA).mono ?_
 rintro e wb ⟨v3,rfl,hb⟩
 have b9b:=bWA.trans (hb.mono bWA.size)
 have LB:=Lh (aI (L9.out.1.later b9b) (aI (L9.out.2.1.later b9b b9b.size) (L9.out.2.2.later b9b b9b.size)))
 clear hb c0 c1 c2 c3 c4 L9 bWA kWA qWA hWA b9b
 go_upto_region 11 with fail
 obtain ⟨va,vb,vo,vc⟩:=v
 obtain ⟨ua,ub,uo,uc⟩:=v2
 obtain ⟨n1,_,_,n4,_⟩:=LB.out.2.1.flat dstr_flat
 obtain ⟨m1,_,_,m4,_⟩:=LB.out.2.2.flat dstr_flat
 have va1:=(n1 (by decide)).1
 have ua1:=(m1 (by decide)).1
 have ln:=(n1 (by decide)).2
 have lm:=(m1 (by decide)).2
 dsimp only at va1 ua1 n4 m4 ln lm
 subst va1 ua1
 have HC11:Hid (∀ W,Below wb.heap.size wb W->W.cell? ⟨vb,vo,none⟩=some (.string ⟨#[104,97,114,100,32,103,111,110,101,58]⟩)/\W.cell? ⟨vb,vo+1,none⟩=some (.string ⟨#[32,32,103,111,110,101,32,40,108,32,61,32,109,97,116,104,44,32,115,32,61,32,109,111,110,49,41,58,32,97,116,40,109,97,116,104,44,32,109,111,110,49,41,32,45,62,32,104,111,117,114,40,109,111,110,49,41,32,60,32,51]⟩)/\W.cell? ⟨ub,uo,none⟩=some (.string ⟨#[116,104,101,115,101,32,99,97,110,39,116,32,98,101,32,116,111,103,101,116,104,101,114,58]⟩)/\W.cell? ⟨ub,uo+1,none⟩=some (.string ⟨#[104,97,114,100,32,103,111,110,101,58]⟩)/\W.cell? ⟨ub,uo+2,none⟩=some (.string ⟨#[32,32,103,111,110,101,32,40,108,32,61,32,109,97,116,104,44,32,115,32,61,32,109,111,110,49,41,58,32,97,116,40,109,97,116,104,44,32,109,111,110,49,41,32,45,62,32,104,111,117,114,40,109,111,110,49,41,32,60,32,51]⟩)/\W.cell? ⟨ub,uo+3,none⟩=some (.string ⟨#[116,104,97,116,32,105,115,32,97,108,108]⟩)):=Lh (fun W hB=>by
  have cv:=fun q=>hB.cell (p:=⟨vb,q,none⟩) ln
  have cu:=fun q=>hB.cell (p:=⟨ub,q,none⟩) lm
  exact ⟨(cv _).trans (n4 0 (by decide) 0 (by decide)),(cv _).trans (n4 1 (by decide) 0 (by decide)),(cu _).trans (m4 0 (by decide) 0 (by decide)),(cu _).trans (m4 1 (by decide) 0 (by decide)),(cu _).trans (m4 2 (by decide) 0 (by decide)),(cu _).trans (m4 3 (by decide) 0 (by decide))⟩)
 clear n1 n4 m1 m4
 have ew:(⟨wantL.toArray⟩:ByteArray)=⟨#[103,111,110,101,32,40,108,32,61,32,109,97,116,104,44,32,115,32,61,32,109,111,110,49,41,58,32,97,116,40,109,97,116,104,44,32,109,111,110,49,41,32,45,62,32,104,111,117,114,40,109,111,110,49,41,32,60,32,51]⟩:=rfl
 dsimp only at LB ⊢
 simp only [ew]
 refine wp_region_U 55 (S:=fun W=>Below wb.heap.size wb W) (by kernel_rfl) (Below.refl _ _).drew (fun hHeld=>?_)
 refine tkH (i:=0) rfl hHeld HC11 ?_
 refine tkH (i:=1) rfl hHeld HC11 ?_
 refine tkH (i:=2) rfl hHeld HC11 ?_
 refine tkH (i:=3) rfl hHeld HC11 ?_
 refine tkH (i:=4) rfl hHeld HC11 ?_
 refine tkH (i:=5) rfl hHeld HC11 ?_
 refine tkH (i:=6) rfl hHeld HC11 ?_
 refine tkH (i:=7) rfl hHeld HC11 ?_
 refine tkH (i:=8) rfl hHeld HC11 ?_
 refine tkH (i:=9) rfl hHeld HC11 ?_
 refine tkH (i:=10) rfl hHeld HC11 ?_
 refine tkH (i:=11) rfl hHeld HC11 ?_
 refine tkH (i:=12) rfl hHeld HC11 ?_
 refine tkH (i:=13) rfl hHeld HC11 ?_
 refine tkH (i:=14) rfl hHeld HC11 ?_
 try simp only [show (⟨#[32,32]⟩:ByteArray)++⟨#[103,111,110,101,32,40,108,32,61,32,109,97,116,104,44,32,115,32,61,32,109,111,110,49,41,58,32,97,116,40,109,97,116,104,44,32,109,111,110,49,41,32,45,62,32,104,111,117,114,40,109,111,110,49,41,32,60,32,51]⟩=⟨#[32,32,103,111,110,101,32,40,108,32,61,32,109,97,116,104,44,32,115,32,61,32,109,111,110,49,41,58,32,97,116,40,109,97,116,104,44,32,109,111,110,49,41,32,45,62,32,104,111,117,114,40,109,111,110,49,41,32,60,32,51]⟩ from by decide +kernel]
 refine tkH (i:=15) rfl hHeld HC11 ?_
 refine tkH (i:=16) rfl hHeld HC11 ?_
 refine tkH (i:=17) rfl hHeld HC11 ?_
 refine tkH (i:=18) rfl hHeld HC11 ?_
 refine tkH (i:=19) rfl hHeld HC11 ?_
 refine tkH (i:=20) rfl hHeld HC11 ?_
 refine tkH (i:=21) rfl hHeld HC11 ?_
 refine tkH (i:=22) rfl hHeld HC11 ?_
 refine tkH (i:=23) rfl hHeld HC11 ?_
 refine tkH (i:=24) rfl hHeld HC11 ?_
 refine tkH (i:=25) rfl hHeld HC11 ?_
 refine tkH (i:=26) rfl hHeld HC11 ?_
 refine tkH (i:=27) rfl hHeld HC11 ?_
 refine tkH (i:=28) rfl hHeld HC11 ?_
 refine tkH (i:=29) rfl hHeld HC11 ?_
 refine tkH (i:=30) rfl hHeld HC11 ?_
 refine tkH (i:=31) rfl hHeld HC11 ?_
 refine tkH (i:=32) rfl hHeld HC11 ?_
 refine tkH (i:=33) rfl hHeld HC11 ?_
 refine tkH (i:=34) rfl hHeld HC11 ?_
 refine tkH (i:=35) rfl hHeld HC11 ?_
 refine tkH (i:=36) rfl hHeld HC11 ?_
 refine tkH (i:=37) rfl hHeld HC11 ?_
 refine tkH (i:=38) rfl hHeld HC11 ?_
 refine tkH (i:=39) rfl hHeld HC11 ?_
 refine tkH (i:=40) rfl hHeld HC11 ?_
 refine tkH (i:=41) rfl hHeld HC11 ?_
 refine tkH (i:=42) rfl hHeld HC11 ?_
 refine tkH (i:=43) rfl hHeld HC11 ?_
 refine tkH (i:=44) rfl hHeld HC11 ?_
 refine tkH (i:=45) rfl hHeld HC11 ?_
 refine tkH (i:=46) rfl hHeld HC11 ?_
 refine tkH (i:=47) rfl hHeld HC11 ?_
 refine tkH (i:=48) rfl hHeld HC11 ?_
 refine tkH (i:=49) rfl hHeld HC11 ?_
 refine tkH (i:=50) rfl hHeld HC11 ?_
 refine tkH (i:=51) rfl hHeld HC11 ?_
 refine tkH (i:=52) rfl hHeld HC11 ?_
 refine tkH (i:=53) rfl hHeld HC11 ?_
 refine tkH (i:=54) rfl hHeld HC11 ?_
 refine ready_U (rs:=[55]) (by kernel_rfl) (by simp) ?_
 refine cons_V rfl (by kernel_rfl) (fun K hK=>?_) nil_U
 go_simp
 refine hK.out _ _ ?_
 clear hK K
 try simp only [Act.put,ub1,ub2,ub3]
 refine done_U (by kernel_rfl) ?_ _
 go_wp2_with fail
 exact bodyPost_ret (v:=.bool true) (by simp [results,Tryz.results8,go_sem]) rfl ⟨rfl,LB.out.1.bel.drew⟩
end Go.Proofs.YtncnnbmeacpboaaGreatDoor
/- Reference 31's Few. (written by tools/gen_ufew.py) -/
namespace Go.Proofs.YtncnnbmeacpboaaGreatDoor
open Go.RowKit Go.Chalk
attribute [local go_sem] Oper.semAt_some
theorem rfew31_any (s:Schl) (x:SchA) (l:List Rul) (z:SlA) (xs:List Inx) (xa:SlA) (w:World) (hs:SchIn w (·<w.heap.size) s x) (hsm:SchSmall s) (hz:SlIn w (·<w.heap.size) (l.map Rul.toD) z) (hl:l.length<=2000000) (hfr:∀ r∈l,RulFit r) (hx:SlIn w (·<w.heap.size) (xs.map Inx.toD) xa) (hxl:xs.length<=2000000) (hbl:∀ i∈xs,i.binds.length<=2000000) :
  Calls Tryz.prog 9 #[.agg (x.cells s).toArray,.slice z.a l.length z.cap,.slice xa.a xs.length xa.cap] w fun e w'=>∃ b:Bool,e=.returned (.bool b)/\(b=true->l.length<=12/\xs.length<=40)/\Below w.heap.size w w':=by
 have HX:=Lh hx
 have HZ:=Lh hz
 have HS:=Lh hs
 have HSM:=Lh hsm
 have HFR:=Lh hfr
 have HLN:=Lh (aI hl (aI hxl hbl))
 obtain ⟨SB,hSB⟩:∃ SB,SB=w.heap.size:=⟨_,rfl⟩
 obtain ⟨W0,hW0⟩:∃ W0,W0=w.alloc (.cells #[.slice x.slots.a s.slots.length x.slots.cap,.slice x.rooms.a s.rooms.length x.rooms.cap,.slice x.people.a s.people.length x.people.cap,.slice x.groups.a s.groups.length x.groups.cap,.slice x.lessons.a s.lessons.length x.lessons.cap] 28):=⟨_,rfl⟩
 have hb0:Below w.heap.size w W0:=by rw [hW0];exact (Below.refl _ _).alloc (Nat.le_refl _) _
 have k0:W0.heap[SB]?=some (.cells #[.slice x.slots.a s.slots.length x.slots.cap,.slice x.rooms.a s.rooms.length x.rooms.cap,.slice x.people.a s.people.length x.people.cap,.slice x.groups.a s.groups.length x.groups.cap,.slice x.lessons.a s.lessons.length x.lessons.cap] 28 (0,0)):=by rw [hW0,heap_get,if_pos hSB]
 have HB:=Lh (aI hb0 k0)
 have HW0:=Lh (aI hW0 hSB)
 clear hx hz hs hsm hfr hl hxl hbl hb0 k0 hW0 hSB
 simp only [SchA.cells,SlA.val]
 go_enter Tryz.func9,Tryz.ntmps9
 go_wp2_with fail
 try rw [<- HW0.out.2]
 rw [<- HW0.out.1]
 go_loop [7] (fun i=>∃ j:Nat,j<=xs.length/\i=.int .i64 j) (fun i=>xs.length - (intOf i).toNat)
 case atStart=>exact ⟨0,Nat.zero_le _,rfl⟩
 case round =>
  obtain ⟨j,hj,rfl⟩:=hrel
  have hle:=HLN.out.2.1
  obtain ⟨v,hv⟩:∃ v,v=(decide (j<xs.length)&&decide (j<60)):=⟨_,rfl⟩
  have HV:=Lh hv
  clear hv
  have hcase:Hid ((j<xs.length/\j<60)∨(j<xs.length/\¬ j<60)∨¬ j<xs.length):=Lh (by omega)
  go_upto_region 2 with fail
  go_cut [16] from 9 to 25 (fun u w'=>u=.bool v/\w'=W0)
  case first =>
   rcases hcase.out with ⟨p1,p2⟩ | ⟨p1,p2⟩ | p1
   ·have hv:v=true:=by rw [HV.out];simp [p1,p2]
    subst hv
    go_wp2_with fail
    all_goals (go_meet;exact ⟨by first | rfl | (congr 1;simp;omega) | (exfalso;simp at p1';omega),rfl⟩)
   ·have hv:v=false:=by rw [HV.out];simp [p2]
    subst hv
    have p2':decide ((j:Int)<60)=false:=decide_eq_false (by omega)
    clear p2
    go_wp2_with fail
    all_goals (go_meet;exact ⟨by first | rfl | (congr 1;simp;omega) | (exfalso;simp at p1';omega),rfl⟩)
   ·have hv:v=false:=by rw [HV.out];simp [p1]
    subst hv
    have p1':decide ((j:Int)<(xs.length:Int))=false:=decide_eq_false (by omega)
    clear p1
    go_wp2_with fail
    all_goals (go_meet;exact ⟨by first | rfl | (congr 1;simp;omega) | (exfalso;simp at p1';omega),rfl⟩)
  case rest =>
   obtain ⟨rfl,rfl⟩:=hcut
   cases v
   rotate_left
   ·have hlt:j<xs.length:=by
     have h:=HV.out
     rcases hcase.out with ⟨p1,p2⟩ | ⟨p1,p2⟩ | p1
     ·exact p1
     ·exact p1
     ·rw [decide_eq_false p1] at h;simp at h
    clear HV hcase
    obtain ⟨y,hy1,hy2⟩:=HX.out.inx j hlt
    obtain ⟨hxa,hFb⟩:=HX.out.at_ (by rw [List.length_map];omega)
    obtain ⟨q0,q1,_⟩:=CellsAt.six hy2
    have e1:=(HB.out.1.cell (p:=⟨xa.b,xa.o+j*6+1,none⟩) hFb).trans q1
    have hbn:xs[j].binds.length<=2000000:=HLN.out.2.2 _ (List.getElem_mem _)
    generalize xs[j].binds=bl at e1 hbn
    obtain ⟨xaa,xab,xao,xac⟩:=xa
    dsimp only at hxa e1 ⊢
    subst hxa
    simp only [SlA.val] at e1
    clear q0 q1 hy1 hy2 hFb
    by_cases hq:(12:Int)<(bl.length:Int)
    ·go_wp2_with fail
     go_ret
     exact .inl ⟨rfl,HB.out.1⟩
    ·have hq':decide ((12:Int)<(bl.length:Int))=false:=decide_eq_false hq
     clear hq
     go_wp2_with fail
     go_round
     case rel=>exact ⟨j+1,by omega,by go_num⟩
     case measure=>simp [intOf];omega
   ·clear HV hcase
    go_wp2_with fail
    have HB2:Hid (∀ W,Below wc.heap.size wc W->Below w.heap.size w W/\(W.cell? ⟨SB,0,none⟩=some (.slice x.slots.a s.slots.length x.slots.cap)/\W.cell? ⟨SB,1,none⟩=some (.slice x.rooms.a s.rooms.length x.rooms.cap)/\W.cell? ⟨SB,2,none⟩=some (.slice x.people.a s.people.length x.people.cap)/\W.cell? ⟨SB,3,none⟩=some (.slice x.groups.a s.groups.length x.groups.cap)/\W.cell? ⟨SB,4,none⟩=some (.slice x.lessons.a s.lessons.length x.lessons.cap))):=Lh (fun W hW=>by
     have h:=(hW.block _ (gS HB.out.2).1).trans HB.out.2
     exact ⟨HB.out.1.trans (hW.mono HB.out.1.size),cH h rfl,cH h rfl,cH h rfl,cH h rfl,cH h rfl⟩)
    go_loopw [8] (fun i wr=>∃ j:Nat,j<=l.length/\i=.int .i64 j/\Hid (Below wc.heap.size wc wr)) (fun i _=>l.length - (intOf i).toNat)
    case atStart=>exact ⟨0,Nat.zero_le _,rfl,Lh (Below.refl _ _)⟩
    case round =>
     obtain ⟨j,hj,rfl,HW⟩:=hrel
     have hle:=HLN.out.1
     obtain ⟨v,hv⟩:∃ v,v=(decide (j<l.length)&&decide (j<20)):=⟨_,rfl⟩
     have HV:=Lh hv
     clear hv
     have hcase:Hid ((j<l.length/\j<20)∨(j<l.length/\¬ j<20)∨¬ j<l.length):=Lh (by omega)
     go_upto_region 7 with fail
     go_cut [33] from 26 to 60 (fun u w'=>u=.bool v/\w'=wr)
     case first =>
      rcases hcase.out with ⟨p1,p2⟩ | ⟨p1,p2⟩ | p1
      ·have hv:v=true:=by rw [HV.out];simp [p1,p2]
       subst hv
       go_wp2_with fail
       all_goals (go_meet;exact ⟨by first | rfl | (congr 1;simp;omega) | (exfalso;simp at p1';omega),rfl⟩)
      ·have hv:v=false:=by rw [HV.out];simp [p2]
       subst hv
       have p2':decide ((j:Int)<20)=false:=decide_eq_false (by omega)
       clear p2
       go_wp2_with fail
       all_goals (go_meet;exact ⟨by first | rfl | (congr 1;simp;omega) | (exfalso;simp at p1';omega),rfl⟩)
      ·have hv:v=false:=by rw [HV.out];simp [p1]
       subst hv
       have p1':decide ((j:Int)<(l.length:Int))=false:=decide_eq_false (by omega)
       clear p1
       go_wp2_with fail
       all_goals (go_meet;exact ⟨by first | rfl | (congr 1;simp;omega) | (exfalso;simp at p1';omega),rfl⟩)
     case rest =>
      obtain ⟨rfl,rfl⟩:=hcut
      cases v
      rotate_left
      ·have hlt:j<l.length:=by
        have h:=HV.out
        rcases hcase.out with ⟨p1,p2⟩ | ⟨p1,p2⟩ | p1
        ·exact p1
        ·exact p1
        ·rw [decide_eq_false p1] at h;simp at h
       clear HV hcase
       have hbw:=(HB2.out _ HW.out).1
       obtain ⟨y,hy1,hy2⟩:=(HZ.out.later hbw hbw.size).rul j hlt
       obtain ⟨hza,hFb⟩:=HZ.out.at_ (by rw [List.length_map];omega)
       have hft:=HFR.out _ (List.getElem_mem hlt)
       obtain ⟨zaa,zab,zao,zac⟩:=z
       dsimp only at hza hFb hy2 ⊢
       subst hza
       obtain ⟨q0,q1,q2,q3,q4,q5,q6,q7,q8,q9⟩:=CellsAt.ten hy2
       have HK:Hid (∀ W,Below wc.heap.size wc W->W.cell? ⟨zab,zao+j*10,none⟩=some (.string ⟨l[j].name.toArray⟩)/\W.cell? ⟨zab,zao+j*10+3,none⟩=some (y.each.val l[j].each.length)):=Lh (fun W hW=>by
        have hz1:zab<wc.heap.size:=Nat.lt_of_lt_of_le hFb hbw.size
        exact ⟨(hW.cell (p:=⟨zab,zao+j*10,none⟩) hz1).trans q0,(hW.cell (p:=⟨zab,zao+j*10+3,none⟩) hz1).trans q3⟩)
       have H8:=Lh (rfew8_any l[j].body.size l[j].body y.body _ (Nat.le_refl _) hft.body.size hy1.body)
       have hbn:l[j].each.length<=1500000:=hft.len
       have hnn:l[j].name.length<=4000000:=hft.name
       simp only [ndV,FrmA.cells,SlA.val] at H8 q4 q5 q6 q7 q8 q9 HK
       clear hy1 hy2 hft q0 q1 q2 q3 hFb hbw
       go_wp2_with fail
       refine H8.out.mono ?_
       rintro e w1 ⟨b1,rfl,hb1⟩
       obtain ⟨e0,e3⟩:=HK.out w1 hb1
       have H1:=Lh (HW.out.trans (hb1.mono HW.out.size))
       clear H8 q4 q5 q6 q7 q8 q9 hb1 HK
       cases b1
       ·go_wp2_with fail
        go_ret
        exact ⟨false,rfl,fun h=>by simp at h,(HB2.out _ H1.out).1⟩
       generalize l[j].each.length=en at e3 hbn
       generalize l[j].name=nm at e0 hnn
       by_cases p1:(12:Int)<(en:Int)
       ·go_wp2_with fail
        go_ret
        exact ⟨false,rfl,fun h=>by simp at h,(HB2.out _ H1.out).1⟩
       have p1':decide ((12:Int)<(en:Int))=false:=decide_eq_false p1
       clear p1
       by_cases p2:(100:Int)<(nm.length:Int)
       ·go_wp2_with fail
        go_ret
        exact ⟨false,rfl,fun h=>by simp at h,(HB2.out _ H1.out).1⟩
       have p2':decide ((100:Int)<(nm.length:Int))=false:=decide_eq_false p2
       clear p2
       go_wp2_with fail
       go_round
       case rel=>exact ⟨j+1,by omega,by go_num,H1⟩
       case measure=>simp [intOf];omega
      ·clear HV hcase
       obtain ⟨hbw,c0,c1,c2,c3,c4⟩:=HB2.out _ HW.out
       have H3:=Lh (rfew3_any s x _ (HS.out.later hbw hbw.size) HSM.out)
       simp only [SchA.cells,SlA.val] at H3
       clear hbw
       go_wp2_with fail
       refine H3.out.mono ?_
       rintro e w1 ⟨b1,rfl,hb1⟩
       have H1:=Lh (HW.out.trans (hb1.mono HW.out.size))
       clear H3 c0 c1 c2 c3 c4 hb1
       have hlx:=HLN.out.2.1
       cases b1
       ·go_wp2_with fail
        go_ret
        exact ⟨false,rfl,fun h=>by simp at h,(HB2.out _ H1.out).1⟩
       by_cases p1:(l.length:Int)<=12
       rotate_left
       ·have p1':decide ((l.length:Int)<=12)=false:=decide_eq_false p1
        clear p1
        go_wp2_with fail
        go_ret
        exact ⟨false,rfl,fun h=>by simp at h,(HB2.out _ H1.out).1⟩
       by_cases p2:(xs.length:Int)<=40
       rotate_left
       ·have p2':decide ((xs.length:Int)<=40)=false:=decide_eq_false p2
        clear p2
        go_wp2_with fail
        go_ret
        exact ⟨false,rfl,fun h=>by simp at h,(HB2.out _ H1.out).1⟩
       go_wp2_with fail
       go_ret
       exact ⟨true,rfl,fun _=>⟨by omega,by omega⟩,(HB2.out _ H1.out).1⟩
end Go.Proofs.YtncnnbmeacpboaaGreatDoor
/- Law 31's count: how often a text stands in a list. -/
namespace Go.Chalk
theorem cntB_snoc (t:Bs) (l:List Bs) (j:Nat) (h:j<l.length):cntB t (l.take (j+1))=cntB t (l.take j)+(if l[j]=t then 1 else 0):=by
 unfold cntB
 rw [List.take_succ_eq_append_getElem h,List.map_append,List.sum_append]
 simp
theorem cntB_le (t:Bs):∀ l:List Bs,cntB t l<=l.length
 | []=>by simp [cntB]
 | x :: r=>by
  have:=cntB_le t r
  unfold cntB at this ⊢
  simp only [List.map_cons,List.sum_cons,List.length_cons]
  split <;> omega
end Go.Chalk
namespace Go.Proofs.YtncnnbmeacpboaaGreatDoor
open Go.RowKit Go.Chalk
attribute [local go_sem] Oper.semAt_some
theorem count7_any (l:List Bs) (y:SlA) (t:Bs) (w:World) (hy:SlIn w (·<w.heap.size) (l.map dstr) y) (hl:l.length<=4000000000) :
  Calls Tryz.prog 18 #[.slice y.a l.length y.cap,.string ⟨t.toArray⟩] w fun e w'=>e=.returned (.int .i64 (cntB t l:Nat))/\Below w.heap.size w w':=by
 obtain ⟨n1,_,_,n4,_⟩:=hy.flat dstr_flat
 obtain ⟨ya,yb,yo,yc⟩:=y
 dsimp only at n1 n4 ⊢
 have HC:Hid (∀ j (h:j<l.length),w.cell? ⟨yb,yo+j,none⟩=some (.string ⟨l[j].toArray⟩)):=Lh (fun j h=>by have:=n4 j h 0 (by simp [dstr,D.vals]);simpa [dstr,D.vals] using this)
 have HA:=Lh n1
 have HL:=Lh hl
 clear hy n1 n4 hl
 go_enter Tryz.func18,Tryz.ntmps18
 go_wp2_with fail
 go_loopw [5,6] (fun nv ix wr=>∃ j:Nat,j<=l.length/\ix=.int .i64 j/\nv=.int .i64 (cntB t (l.take j):Nat)/\wr=w) (fun _ ix _=>l.length - (intOf ix).toNat)
 case atStart=>exact ⟨0,Nat.zero_le _,rfl,by simp [cntB],rfl⟩
 case round =>
  obtain ⟨j,hj,rfl,rfl,rfl⟩:=hrel
  have hll:=HL.out
  by_cases hlt:j<l.length
  ·have hc:=HC.out j hlt
   have ha:=(HA.out (by omega)).1
   subst ha
   have hsn:=cntB_snoc t l j hlt
   have hcl:=cntB_le t (l.take j)
   rw [List.length_take] at hcl
   have HSN:=Lh hsn
   clear hsn
   obtain ⟨u,hu⟩:∃ u,u=l[j]:=⟨_,rfl⟩
   rw [<- hu] at hc HSN
   clear hu
   generalize hk:cntB t (l.take j)=c at hcl HSN ⊢
   by_cases hq:u=t
   ·subst hq
    go_wp2_with fail
    go_round
    case rel=>exact ⟨j+1,by omega,by go_num,by rw [HSN.out,if_pos rfl];go_num,trivial⟩
    case measure=>simp [intOf];omega
   ·have hq2:(u==t)=false:=by simpa using hq
    go_wp2_with fail
    go_round
    case rel=>exact ⟨j+1,by omega,by go_num,by rw [HSN.out,if_neg hq];rfl,trivial⟩
    case measure=>simp [intOf];omega
  ·have hje:j=l.length:=by omega
   subst hje
   rw [List.take_length]
   go_wp2_with fail
   go_ret
   exact ⟨rfl,Below.refl _ _⟩
end Go.Proofs.YtncnnbmeacpboaaGreatDoor
/- Law 31's times, walked. (written by tools/gen_utim.py) -/
namespace Go.Chalk
def timF (s:Schl) (l:List Rul) (x:List Ins) (t:Bs):Nat:=(x.map (fun i=>if (instF s l i).1=t then 1 else 0)).sum
theorem timF_snoc (s:Schl) (l:List Rul) (xs:List Inx) (t:Bs) (j:Nat) (h:j<xs.length):timF s l ((xs.take (j+1)).map Inx.ins) t=timF s l ((xs.take j).map Inx.ins) t+(if (instF s l xs[j].ins).1=t then 1 else 0):=by
 unfold timF
 rw [List.take_succ_eq_append_getElem h,List.map_append,List.map_append,List.sum_append]
 simp
theorem timF_le (s:Schl) (l:List Rul) (t:Bs):∀ x:List Ins,timF s l x t<=x.length
 | []=>by simp [timF]
 | i :: r=>by
  have:=timF_le s l t r
  unfold timF at this ⊢
  simp only [List.map_cons,List.sum_cons,List.length_cons]
  split <;> omega
end Go.Chalk
namespace Go.Proofs.YtncnnbmeacpboaaGreatDoor
open Go.RowKit Go.Chalk
attribute [local go_sem] Oper.semAt_some
theorem times7_any (s:Schl) (x:SchA) (l:List Rul) (z:SlA) (xs:List Inx) (xa:SlA) (t:Bs) (w:World) (hI:ItoaAt) (hs:SchIn w (·<w.heap.size) s x) (hf:SchFit s) (hz:SlIn w (·<w.heap.size) (l.map Rul.toD) z) (hl:l.length<=2000000) (hfr:∀ r∈l,RulFit r) (hx:SlIn w (·<w.heap.size) (xs.map Inx.toD) xa) (hxl:xs.length<=2000000) (hbl:∀ i∈xs,i.binds.length<=2000000) (hg:GS w) :
  Calls Tryz.prog 19 #[.agg (x.cells s).toArray,.slice z.a l.length z.cap,.slice xa.a xs.length xa.cap,.string ⟨t.toArray⟩] w fun e w'=>e=.returned (.int .i64 (timF s l (xs.map Inx.ins) t:Nat))/\Below w.heap.size w w':=by
 have HI:=Lh hI
 have HFT:=Lh (aI hf hfr)
 have HLN:=Lh (aI hl (aI hxl hbl))
 obtain ⟨SB,hSB⟩:∃ SB,SB=w.heap.size:=⟨_,rfl⟩
 obtain ⟨W0,hW0⟩:∃ W0,W0=w.alloc (.cells #[.slice x.slots.a s.slots.length x.slots.cap,.slice x.rooms.a s.rooms.length x.rooms.cap,.slice x.people.a s.people.length x.people.cap,.slice x.groups.a s.groups.length x.groups.cap,.slice x.lessons.a s.lessons.length x.lessons.cap] 28):=⟨_,rfl⟩
 have hb0:Below w.heap.size w W0:=by rw [hW0];exact (Below.refl _ _).alloc (Nat.le_refl _) _
 have k0:W0.heap[SB]?=some (.cells #[.slice x.slots.a s.slots.length x.slots.cap,.slice x.rooms.a s.rooms.length x.rooms.cap,.slice x.people.a s.people.length x.people.cap,.slice x.groups.a s.groups.length x.groups.cap,.slice x.lessons.a s.lessons.length x.lessons.cap] 28 (0,0)):=by rw [hW0,heap_get,if_pos hSB]
 have HC:Hid (∀ W,Below W0.heap.size W0 W->Below w.heap.size w W/\W.cell? ⟨SB,0,none⟩=some (.slice x.slots.a s.slots.length x.slots.cap)/\W.cell? ⟨SB,1,none⟩=some (.slice x.rooms.a s.rooms.length x.rooms.cap)/\W.cell? ⟨SB,2,none⟩=some (.slice x.people.a s.people.length x.people.cap)/\W.cell? ⟨SB,3,none⟩=some (.slice x.groups.a s.groups.length x.groups.cap)/\W.cell? ⟨SB,4,none⟩=some (.slice x.lessons.a s.lessons.length x.lessons.cap)):=Lh (fun W hW=>by
  have h0:=(hW.block _ (gS k0).1).trans k0
  exact ⟨hb0.trans (hW.mono hb0.size),cH h0 rfl,cH h0 rfl,cH h0 rfl,cH h0 rfl,cH h0 rfl⟩)
 have HSE:Hid (∀ W,Below w.heap.size w W->SchIn W (·<W.heap.size) s x/\SlIn W (·<W.heap.size) (l.map Rul.toD) z/\SlIn W (·<W.heap.size) (xs.map Inx.toD) xa/\GS W):=Lh (fun W hW=>⟨hs.later hW hW.size,hz.later hW hW.size,hx.later hW hW.size,hg.below hW⟩)
 have HXA:=Lh (show 0<xs.length->xa.a=some ⟨xa.b,xa.o,none⟩/\xa.b<w.heap.size from fun h=>hx.at_ (by rwa [List.length_map]))
 have HW0:=Lh (aI hW0 hSB)
 clear hI hs hf hz hfr hx hg hl hxl hbl hb0 k0 hW0 hSB
 simp only [SchA.cells,SlA.val]
 go_enter Tryz.func19,Tryz.ntmps19
 go_wp2_with fail
 try rw [<- HW0.out.2]
 rw [<- HW0.out.1]
 go_loopw [9,10] (fun nv ix wr=>∃ j:Nat,j<=xs.length/\ix=.int .i64 j/\nv=.int .i64 (timF s l ((xs.take j).map Inx.ins) t:Nat)/\Hid (Below W0.heap.size W0 wr)) (fun _ ix _=>xs.length - (intOf ix).toNat)
 case atStart=>exact ⟨0,Nat.zero_le _,rfl,by simp [timF],Lh (Below.refl _ _)⟩
 case round =>
  obtain ⟨j,hj,rfl,rfl,HW⟩:=hrel
  have hll:=HLN.out.2.1
  by_cases hlt:j<xs.length
  ·have hbw:=(HC.out _ HW.out).1
   obtain ⟨y,hy1,hy2⟩:=(HSE.out _ hbw).2.2.1.inx j hlt
   obtain ⟨q0,q1,q2,q3,q4,q5⟩:=CellsAt.six hy2
   have hxa:=HXA.out (by omega)
   have hsn:=timF_snoc s l xs t j hlt
   have hcl:=timF_le s l t ((xs.take j).map Inx.ins)
   rw [List.length_map,List.length_take] at hcl
   have HSN:=Lh hsn
   have HY:=Lh hy1
   have HBN:=Lh (HLN.out.2.2 _ (List.getElem_mem hlt))
   have HR:Hid (∀ W,Below wr.heap.size wr W->W.cell? ⟨SB,0,none⟩=some (.slice x.slots.a s.slots.length x.slots.cap)/\W.cell? ⟨SB,1,none⟩=some (.slice x.rooms.a s.rooms.length x.rooms.cap)/\W.cell? ⟨SB,2,none⟩=some (.slice x.people.a s.people.length x.people.cap)/\W.cell? ⟨SB,3,none⟩=some (.slice x.groups.a s.groups.length x.groups.cap)/\W.cell? ⟨SB,4,none⟩=some (.slice x.lessons.a s.lessons.length x.lessons.cap)/\W.cell? ⟨xa.b,xa.o+j*6,none⟩=some (.int .i64 xs[j].rule)/\W.cell? ⟨xa.b,xa.o+j*6+1,none⟩=some (.slice y.b.a xs[j].binds.length y.b.cap)/\W.cell? ⟨xa.b,xa.o+j*6+2,none⟩=some (.int .i64 y.k0)/\W.cell? ⟨xa.b,xa.o+j*6+3,none⟩=some (.int .i64 y.k1)/\W.cell? ⟨xa.b,xa.o+j*6+4,none⟩=some (.int .i64 y.k2)/\W.cell? ⟨xa.b,xa.o+j*6+5,none⟩=some (.slice y.a y.n y.cap)):=Lh (fun W hW=>by
    obtain ⟨_,c0,c1,c2,c3,c4⟩:=HC.out W (HW.out.trans (hW.mono HW.out.size))
    have cx:=fun q=>hW.cell (p:=⟨xa.b,q,none⟩) (Nat.lt_of_lt_of_le hxa.2 hbw.size)
    exact ⟨c0,c1,c2,c3,c4,(cx _).trans q0,(cx _).trans q1,(cx _).trans q2,(cx _).trans q3,(cx _).trans q4,(cx _).trans q5⟩)
   clear hsn hy1 hy2 q0 q1 q2 q3 q4 q5
   obtain ⟨xaa,xab,xao,xac⟩:=xa
   dsimp only at hxa HR ⊢
   have hxa1:=hxa.1
   clear hxa
   subst hxa1
   clear hbw
   generalize hk:timF s l ((xs.take j).map Inx.ins) t=c at hcl HSN ⊢
   go_upto_region 5 with fail
   refine wp_region_U 11 (S:=fun W=>Below wr.heap.size wr W) (by kernel_rfl) (Below.refl _ _).drew (fun hHeld=>?_)
   refine tkH (i:=0) rfl hHeld HR ?_
   refine tkH (i:=1) rfl hHeld HR ?_
   refine tkH (i:=2) rfl hHeld HR ?_
   refine tkH (i:=3) rfl hHeld HR ?_
   refine tkH (i:=4) rfl hHeld HR ?_
   refine tkH (i:=5) rfl hHeld HR ?_
   refine ready_U (rs:=[6]) (by kernel_rfl) (by simp) ?_
   refine cons_U rfl (fun K hK=>?_) nil_U
   go_simp
   have hbh:=HW.out.trans (hHeld.mono HW.out.size)
   have hSS:=HSE.out _ (HC.out _ hbh).1
   refine (inst_any s x l z xs[j] y _ HI.out hSS.1 HFT.out.1 hSS.2.1 HLN.out.1 HFT.out.2 ((HY.out.agree (agree_of_below hHeld)).mono (fun _ hk=>Nat.lt_of_lt_of_le hk hHeld.size)) HBN.out hSS.2.2.2).mono ?_
   rintro e w4 ⟨rfl,hb⟩
   have B4:=Lh (hHeld.trans (hb.mono hHeld.size))
   clear hb hSS hbh
   go_simp
   refine hK.out _ _ (B4.out) fun hHeld=>?_
   clear hK K
   try simp only [Act.put,ub1,ub2,ub3]
   refine tkH (i:=7) rfl hHeld HR ?_
   refine tkH (i:=8) rfl hHeld HR ?_
   refine tkH (i:=9) rfl hHeld HR ?_
   refine tkH (i:=10) rfl hHeld HR ?_
   refine ready_U (rs:=[11]) (by kernel_rfl) (by simp) ?_
   refine cons_V rfl (by kernel_rfl) (fun K hK=>?_) nil_U
   go_simp
   refine hK.out _ _ ?_
   clear hK K
   try simp only [Act.put,ub1,ub2,ub3]
   refine done_U (by kernel_rfl) ?_ _
   have HB4:=Lh (HW.out.trans (B4.out.mono HW.out.size))
   obtain ⟨u,hu⟩:∃ u,u=instF s l xs[j].ins:=⟨_,rfl⟩
   simp only [<- hu] at HSN ⊢
   clear hu HY HBN HR B4 hHeld
   obtain ⟨ub,uc⟩:=u
   simp only at HSN ⊢
   by_cases hq:ub=t
   ·subst hq
    go_wp2_with fail
    go_round
    case rel=>exact ⟨j+1,by omega,by go_num,by rw [HSN.out,if_pos rfl];go_num,HB4⟩
    case measure=>simp [intOf];omega
   ·have hq2:(ub==t)=false:=by simpa using hq
    go_wp2_with fail
    go_round
    case rel=>exact ⟨j+1,by omega,by go_num,by rw [HSN.out,if_neg hq];rfl,HB4⟩
    case measure=>simp [intOf];omega
  ·have hje:j=xs.length:=by omega
   subst hje
   rw [List.take_length]
   go_wp2_with fail
   go_ret
   exact ⟨rfl,(HC.out _ HW.out).1⟩
end Go.Proofs.YtncnnbmeacpboaaGreatDoor
/- TellGroupedLines: counting the headings. -/
namespace Go.Chalk
def rulN (x:List Ins) (k:Nat):Nat:=(x.filter (isR k)).length
theorem rulN_snoc (xs:List Inx) (k j:Nat) (h:j<xs.length):rulN ((xs.take (j+1)).map Inx.ins) k=rulN ((xs.take j).map Inx.ins) k+(if xs[j].rule=(k:Int) then 1 else 0):=by
 unfold rulN
 rw [List.take_succ_eq_append_getElem h,List.map_append,List.filter_append,List.length_append]
 congr 1
 by_cases hq:xs[j].rule=(k:Int)
 ·simp [isR,Inx.ins,hq]
 ·simp [isR,Inx.ins,hq]
theorem rulN_le (x:List Ins) (k:Nat):rulN x k<=x.length:=List.length_filter_le _ _
theorem rulN_any (x:List Ins) (k:Nat):x.any (isR k)=decide (0<rulN x k):=by
 unfold rulN
 induction x with
 | nil=>rfl
 | cons i r ih =>
  rw [List.any_cons,List.filter_cons,ih]
  cases isR k i <;> simp
theorem headsN_snoc (x:List Ins):∀ (n k:Nat),headsN x k (n+1)=headsN x k n+(if x.any (isR (k+n)) then 1 else 0)
 | 0,k=>by simp [headsN]
 | n+1,k=>by
  rw [headsN,headsN_snoc x n (k+1),headsN]
  rw [show k+1+n=k+(n+1) by omega]
  omega
theorem headsN_le (x:List Ins):∀ (n k:Nat),headsN x k n<=n
 | 0,_=>Nat.le_refl _
 | n+1,k=>by have:=headsN_le x n (k+1);rw [headsN];split <;> omega
theorem insts_bad7 {s:Schl} {l:List Rul} {x:List Ins} (h:(instsF s l x).2 ≠ 0):(instsF s l x).1=[]:=by
 unfold instsF at h ⊢
 by_cases h0:okF s l=0
 ·rw [if_neg (by simpa using h0)] at h ⊢
  unfold byRuleF at h ⊢
  by_cases h1:sentsErr s l x=0
  ·rw [if_neg (by simpa using h1)] at h;exact absurd rfl h
  ·rw [if_pos h1]
 ·rw [if_pos h0]
theorem insts_good7 {s:Schl} {l:List Rul} {x:List Ins} (h:(instsF s l x).2=0):okF s l=0/\sentsErr s l x=0/\(instsF s l x).1=byRuleGo s l x 0 l:=by
 unfold instsF at h ⊢
 by_cases h0:okF s l=0
 ·rw [if_neg (by simpa using h0)] at h ⊢
  unfold byRuleF at h ⊢
  by_cases h1:sentsErr s l x=0
  ·rw [if_neg (by simpa using h1)];exact ⟨h0,h1,rfl⟩
  ·rw [if_pos h1] at h;exact absurd h h1
 ·rw [if_pos h0] at h;exact absurd h h0
theorem insts_each7 {s:Schl} {l:List Rul} {xs:List Inx} (h:(instsF s l (xs.map Inx.ins)).2=0) (j:Nat) (hj:j<xs.length) :
  (instF s l xs[j].ins).2=0/\cntB ([32,32]++(instF s l xs[j].ins).1) (instsF s l (xs.map Inx.ins)).1=timF s l (xs.map Inx.ins) (instF s l xs[j].ins).1:=by
 obtain ⟨h0,h1,h2⟩:=insts_good7 h
 have e:∀ i,instF s l i=sentF s l i:=fun i=>by unfold instF;rw [if_neg (by simpa using h0)]
 refine ⟨by rw [e];exact sents_all h1 _ (List.mem_map.2 ⟨_,List.getElem_mem hj,rfl⟩),?_⟩
 rw [h2,grouped_count h1]
 unfold timF
 simp only [e]
theorem insts_len7 {s:Schl} {l:List Rul} {x:List Ins} (h:(instsF s l x).2=0):(instsF s l x).1.length=x.length+headsN x 0 l.length:=by
 obtain ⟨_,h1,h2⟩:=insts_good7 h
 rw [h2,grouped_len h1]
end Go.Chalk
/- TellGroupedLines, walked. (written by tools/gen_ugl.py) -/
namespace Go.Chalk
end Go.Chalk
namespace Go.Proofs.YtncnnbmeacpboaaGreatDoor
open Go.RowKit Go.Chalk
theorem inst_len7 {s:Schl} {l:List Rul} {i:Ins} (h:okF s l=0):(instF s l i).1.length<=30000:=by
 unfold instF;rw [if_neg (by simpa using h)];exact sent_len h
attribute [local go_sem] Oper.semAt_some
theorem tellGrouped_any (s:Schl) (x:SchA) (l:List Rul) (z:SlA) (xs:List Inx) (xa:SlA) (w:World) (hI:ItoaAt) (hs:SchIn w (·<w.heap.size) s x) (hf:SchFit s) (hz:SlIn w (·<w.heap.size) (l.map Rul.toD) z) (hl:l.length<=2000000) (hfr:∀ r∈l,RulFit r) (hx:SlIn w (·<w.heap.size) (xs.map Inx.toD) xa) (hxl:xs.length<=1000000) (hbl:∀ i∈xs,i.binds.length<=2000000) (hg:GS w) :
  Calls Tryz.prog 6 #[.agg (x.cells s).toArray,.slice z.a l.length z.cap,.slice xa.a xs.length xa.cap] w fun e w'=>e=.returned (.bool true)/\Below w.heap.size w w':=by
 have HI:=Lh hI
 have HFT:=Lh (aI hf hfr)
 have HLN:=Lh (aI hl (aI hxl hbl))
 obtain ⟨SB,hSB⟩:∃ SB,SB=w.heap.size:=⟨_,rfl⟩
 obtain ⟨W0,hW0⟩:∃ W0,W0=w.alloc (.cells #[.slice x.slots.a s.slots.length x.slots.cap,.slice x.rooms.a s.rooms.length x.rooms.cap,.slice x.people.a s.people.length x.people.cap,.slice x.groups.a s.groups.length x.groups.cap,.slice x.lessons.a s.lessons.length x.lessons.cap] 28):=⟨_,rfl⟩
 have hb0:Below w.heap.size w W0:=by rw [hW0];exact (Below.refl _ _).alloc (Nat.le_refl _) _
 have k0:W0.heap[SB]?=some (.cells #[.slice x.slots.a s.slots.length x.slots.cap,.slice x.rooms.a s.rooms.length x.rooms.cap,.slice x.people.a s.people.length x.people.cap,.slice x.groups.a s.groups.length x.groups.cap,.slice x.lessons.a s.lessons.length x.lessons.cap] 28 (0,0)):=by rw [hW0,heap_get,if_pos hSB]
 have HC:Hid (∀ W,Below W0.heap.size W0 W->Below w.heap.size w W/\W.cell? ⟨SB,0,none⟩=some (.slice x.slots.a s.slots.length x.slots.cap)/\W.cell? ⟨SB,1,none⟩=some (.slice x.rooms.a s.rooms.length x.rooms.cap)/\W.cell? ⟨SB,2,none⟩=some (.slice x.people.a s.people.length x.people.cap)/\W.cell? ⟨SB,3,none⟩=some (.slice x.groups.a s.groups.length x.groups.cap)/\W.cell? ⟨SB,4,none⟩=some (.slice x.lessons.a s.lessons.length x.lessons.cap)):=Lh (fun W hW=>by
  have h0:=(hW.block _ (gS k0).1).trans k0
  exact ⟨hb0.trans (hW.mono hb0.size),cH h0 rfl,cH h0 rfl,cH h0 rfl,cH h0 rfl,cH h0 rfl⟩)
 have HSE:Hid (∀ W,Below w.heap.size w W->SchIn W (·<W.heap.size) s x/\SlIn W (·<W.heap.size) (l.map Rul.toD) z/\SlIn W (·<W.heap.size) (xs.map Inx.toD) xa/\GS W):=Lh (fun W hW=>⟨hs.later hW hW.size,hz.later hW hW.size,hx.later hW hW.size,hg.below hW⟩)
 have HXA:=Lh (show 0<xs.length->xa.a=some ⟨xa.b,xa.o,none⟩/\xa.b<w.heap.size from fun h=>hx.at_ (by rwa [List.length_map]))
 have HW0:=Lh (aI hW0 hSB)
 clear hI hs hf hz hfr hx hg hl hxl hbl hb0 k0 hW0 hSB
 simp only [SchA.cells,SlA.val]
 go_enter Tryz.func6,Tryz.ntmps6
 go_upto_region 1 with fail
 try rw [<- HW0.out.2]
 rw [<- HW0.out.1]
 go_wp2_with fail
 refine (live31_any W0 HI.out (HSE.out _ (HC.out _ (Below.refl _ _)).1).2.2.2).mono ?_
 rintro e w1 ⟨rfl,hb⟩
 obtain ⟨_,c0,c1,c2,c3,c4⟩:=HC.out w1 hb
 have HB1:=Lh hb
 clear hb
 go_wp2_with fail
 have hSS:=HSE.out w1 (HC.out _ HB1.out).1
 refine (rfew31_any s x l z xs xa w1 hSS.1 HFT.out.1.toSchSmall hSS.2.1 HLN.out.1 HFT.out.2 hSS.2.2.1 (by have:=HLN.out.2.1;omega) HLN.out.2.2).mono ?_
 rintro e w3 ⟨b,rfl,hbt,hb⟩
 have HB3:=Lh (HB1.out.trans (hb.mono HB1.out.size))
 have HBT:=Lh hbt
 clear hb hbt hSS c0 c1 c2 c3 c4
 cases b
 ·go_wp2_with fail
  exact bodyPost_ret (v:=.bool true) (by simp [results,Tryz.results6,go_sem]) rfl ⟨rfl,(HC.out _ HB3.out).1⟩
 obtain ⟨_,c0,c1,c2,c3,c4⟩:=HC.out w3 HB3.out
 go_wp2_with fail
 have hSS:=HSE.out w3 (HC.out _ HB3.out).1
 refine (insts_any s x l z xs xa w3 HI.out hSS.1 HFT.out.1 hSS.2.1 HLN.out.1 HFT.out.2 hSS.2.2.1 HLN.out.2.1 HLN.out.2.2 hSS.2.2.2).mono ?_
 rintro e w5 ⟨v,rfl,⟨lv,rfl,hlv⟩,hb⟩
 have HB5:=Lh (HB3.out.trans (hb.mono HB3.out.size))
 have HLV:=Lh (hlv.mono (fun k hk=>hk.2):SlIn w5 (·<w5.heap.size) _ _)
 clear hb hlv hSS c0 c1 c2 c3 c4 HB3 HB1
 have HBA:=Lh (insts_bad7 (s:=s) (l:=l) (x:=xs.map Inx.ins))
 have HEA:=Lh (fun h j hj=>aI (insts_each7 (s:=s) (l:=l) (xs:=xs) h j hj) (inst_len7 (i:=xs[j].ins) (insts_good7 h).1))
 have HLE:=Lh (insts_len7 (s:=s) (l:=l) (x:=xs.map Inx.ins))
 obtain ⟨R,hR⟩:∃ R,R=instsF s l (xs.map Inx.ins):=⟨_,rfl⟩
 simp only [<- hR] at HBA HEA HLE HLV ⊢
 clear hR
 obtain ⟨R,c⟩:=R
 simp only at HBA HEA HLE HLV ⊢
 go_upto_region 6 with fail
 by_cases h1:c=0
 rotate_left
 ·have hA:=HBA.out h1
  subst hA
  go_wp2_with fail
  exact bodyPost_ret (v:=.bool true) (by simp [results,Tryz.results6,go_sem]) rfl ⟨rfl,(HC.out _ HB5.out).1⟩
 subst h1
 have hlx:l.length<=12/\xs.length<=40:=HBT.out trivial
 have HEA2:=Lh (HEA.out rfl)
 have HLE2:=Lh (HLE.out rfl)
 clear HEA HLE HBA HBT
 go_wp2_with fail
 go_loopw [9,10] (fun nv ix wr=>∃ k:Nat,k<=l.length/\ix=.int .i64 k/\nv=.int .i64 (headsN (xs.map Inx.ins) 0 k:Nat)/\wr=w5) (fun _ ix _=>l.length - (intOf ix).toNat)
 case atStart=>exact ⟨0,Nat.zero_le _,rfl,rfl,rfl⟩
 case round =>
  obtain ⟨k,hk,rfl,rfl,hwr⟩:=hrel
  have hwr2:=hwr.symm
  clear hwr
  subst hwr2
  have hhl:=headsN_le (xs.map Inx.ins) k 0
  by_cases hlt:k<l.length
  ·have HHS:=Lh (headsN_snoc (xs.map Inx.ins) k 0)
   obtain ⟨hd,hhd⟩:∃ hd,hd=headsN (xs.map Inx.ins) 0 k:=⟨_,rfl⟩
   rw [<- hhd] at HHS hhl ⊢
   clear hhd
   go_wp2_with fail
   go_loopw [11,12] (fun nv ix wq=>∃ j:Nat,j<=xs.length/\ix=.int .i64 j/\nv=.int .i64 (rulN ((xs.take j).map Inx.ins) k:Nat)/\wq=w5) (fun _ ix _=>xs.length - (intOf ix).toNat)
   case atStart=>exact ⟨0,Nat.zero_le _,rfl,by simp [rulN],rfl⟩
   case round =>
    obtain ⟨j,hj,rfl,rfl,hwr⟩:=hrel
    have hwr2:=hwr.symm
    clear hwr
    subst hwr2
    have hrl:=rulN_le ((xs.take j).map Inx.ins) k
    rw [List.length_map,List.length_take] at hrl
    by_cases hlj:j<xs.length
    ·have HRS:=Lh (rulN_snoc xs k j hlj)
     have hbw:=(HC.out _ HB5.out).1
     obtain ⟨y,hy1,hy2⟩:=(HSE.out _ hbw).2.2.1.inx j hlj
     obtain ⟨q0,_⟩:=CellsAt.six hy2
     have hxa:=(HXA.out (by omega)).1
     obtain ⟨xaa,xab,xao,xac⟩:=xa
     dsimp only at hxa q0 ⊢
     subst hxa
     generalize hrn:rulN ((xs.take j).map Inx.ins) k=rn at hrl HRS ⊢
     generalize xs[j].rule=rr at q0 HRS
     clear hy1 hy2 hbw
     by_cases hq:rr=(k:Int)
     ·subst hq
      go_wp2_with fail
      go_round
      case rel=>exact ⟨j+1,by omega,by go_num,by rw [HRS.out,if_pos rfl];go_num,trivial⟩
      case measure=>simp [intOf];omega
     ·have hq2:(rr==(k:Int))=false:=by simpa using hq
      go_wp2_with fail
      go_round
      case rel=>exact ⟨j+1,by omega,by go_num,by rw [HRS.out,if_neg hq];rfl,trivial⟩
      case measure=>simp [intOf];omega
    ·have hje:j=xs.length:=by omega
     subst hje
     rw [List.take_length] at hrl ⊢
     have HRA:=Lh (rulN_any (xs.map Inx.ins) k)
     generalize rulN (xs.map Inx.ins) k=rn at hrl HRA ⊢
     by_cases hq:0<rn
     ·have HH2:Hid (headsN (xs.map Inx.ins) 0 (k+1)=hd+1):=Lh (by rw [HHS.out,Nat.zero_add,HRA.out,decide_eq_true hq,if_pos rfl])
      clear HHS HRA
      go_wp2_with fail
      go_round
      case rel=>exact ⟨k+1,by omega,by go_num,by rw [HH2.out];go_num,trivial⟩
      case measure=>simp [intOf];omega
     ·have hrz:rn=0:=by omega
      subst hrz
      have HH2:Hid (headsN (xs.map Inx.ins) 0 (k+1)=hd):=Lh (by rw [HHS.out,Nat.zero_add,HRA.out];simp)
      clear HHS HRA
      go_wp2_with fail
      go_round
      case rel=>exact ⟨k+1,by omega,by go_num,by rw [HH2.out],trivial⟩
      case measure=>simp [intOf];omega
  ·have hke:k=l.length:=by omega
   subst hke
   go_wp2_with fail
   have hhl2:=headsN_le (xs.map Inx.ins) l.length 0
   have HLX:=Lh hlx
   go_loopw [13] (fun ix wr=>∃ j:Nat,j<=xs.length/\ix=.int .i64 j/\Hid (Below W0.heap.size W0 wr)/\Hid (Below w5.heap.size w5 wr)) (fun ix _=>xs.length - (intOf ix).toNat)
   case atStart=>exact ⟨0,Nat.zero_le _,rfl,HB5,Lh (Below.refl _ _)⟩
   case round =>
    obtain ⟨j,hj,rfl,HW,HW5⟩:=hrel
    by_cases hlt:j<xs.length
    ·have hbw:=(HC.out _ HW.out).1
     obtain ⟨y,hy1,hy2⟩:=(HSE.out _ hbw).2.2.1.inx j hlt
     obtain ⟨q0,q1,q2,q3,q4,q5⟩:=CellsAt.six hy2
     have hxa:=HXA.out (by omega)
     have HY:=Lh hy1
     have HBN:=Lh (HLN.out.2.2 _ (List.getElem_mem hlt))
     have HEJ:=Lh (HEA2.out j hlt)
     have HR:Hid (∀ W,Below wr.heap.size wr W->W.cell? ⟨SB,0,none⟩=some (.slice x.slots.a s.slots.length x.slots.cap)/\W.cell? ⟨SB,1,none⟩=some (.slice x.rooms.a s.rooms.length x.rooms.cap)/\W.cell? ⟨SB,2,none⟩=some (.slice x.people.a s.people.length x.people.cap)/\W.cell? ⟨SB,3,none⟩=some (.slice x.groups.a s.groups.length x.groups.cap)/\W.cell? ⟨SB,4,none⟩=some (.slice x.lessons.a s.lessons.length x.lessons.cap)/\W.cell? ⟨xa.b,xa.o+j*6,none⟩=some (.int .i64 xs[j].rule)/\W.cell? ⟨xa.b,xa.o+j*6+1,none⟩=some (.slice y.b.a xs[j].binds.length y.b.cap)/\W.cell? ⟨xa.b,xa.o+j*6+2,none⟩=some (.int .i64 y.k0)/\W.cell? ⟨xa.b,xa.o+j*6+3,none⟩=some (.int .i64 y.k1)/\W.cell? ⟨xa.b,xa.o+j*6+4,none⟩=some (.int .i64 y.k2)/\W.cell? ⟨xa.b,xa.o+j*6+5,none⟩=some (.slice y.a y.n y.cap)):=Lh (fun W hW=>by
      obtain ⟨_,c0,c1,c2,c3,c4⟩:=HC.out W (HW.out.trans (hW.mono HW.out.size))
      have cx:=fun q=>hW.cell (p:=⟨xa.b,q,none⟩) (Nat.lt_of_lt_of_le hxa.2 hbw.size)
      exact ⟨c0,c1,c2,c3,c4,(cx _).trans q0,(cx _).trans q1,(cx _).trans q2,(cx _).trans q3,(cx _).trans q4,(cx _).trans q5⟩)
     clear hy1 hy2 q0 q1 q2 q3 q4 q5
     obtain ⟨xaa,xab,xao,xac⟩:=xa
     dsimp only at hxa HR ⊢
     have hxa1:=hxa.1
     clear hxa
     subst hxa1
     clear hbw
     go_upto_region 23 with fail
     refine wp_region_U 11 (S:=fun W=>Below wr.heap.size wr W) (by kernel_rfl) (Below.refl _ _).drew (fun hHeld=>?_)
     refine tkH (i:=0) rfl hHeld HR ?_
     refine tkH (i:=1) rfl hHeld HR ?_
     refine tkH (i:=2) rfl hHeld HR ?_
     refine tkH (i:=3) rfl hHeld HR ?_
     refine tkH (i:=4) rfl hHeld HR ?_
     refine tkH (i:=5) rfl hHeld HR ?_
     refine ready_U (rs:=[6]) (by kernel_rfl) (by simp) ?_
     refine cons_U rfl (fun K hK=>?_) nil_U
     go_simp
     have hbh:=HW.out.trans (hHeld.mono HW.out.size)
     have hSS:=HSE.out _ (HC.out _ hbh).1
     refine (inst_any s x l z xs[j] y _ HI.out hSS.1 HFT.out.1 hSS.2.1 HLN.out.1 HFT.out.2 ((HY.out.agree (agree_of_below hHeld)).mono (fun _ hk=>Nat.lt_of_lt_of_le hk hHeld.size)) HBN.out hSS.2.2.2).mono ?_
     rintro e w4 ⟨rfl,hb⟩
     have B4:=Lh (hHeld.trans (hb.mono hHeld.size))
     clear hb hSS hbh
     go_simp
     refine hK.out _ _ (B4.out) fun hHeld=>?_
     clear hK K
     try simp only [Act.put,ub1,ub2,ub3]
     refine tkH (i:=7) rfl hHeld HR ?_
     refine tkH (i:=8) rfl hHeld HR ?_
     refine tkH (i:=9) rfl hHeld HR ?_
     refine tkH (i:=10) rfl hHeld HR ?_
     refine ready_U (rs:=[11]) (by kernel_rfl) (by simp) ?_
     refine cons_V rfl (by kernel_rfl) (fun K hK=>?_) nil_U
     go_simp
     refine hK.out _ _ ?_
     clear hK K
     try simp only [Act.put,ub1,ub2,ub3]
     refine done_U (by kernel_rfl) ?_ _
     have HB4:=Lh (HW.out.trans (B4.out.mono HW.out.size))
     have HB45:=Lh (HW5.out.trans (B4.out.mono HW5.out.size))
     obtain ⟨u,hu⟩:∃ u,u=instF s l xs[j].ins:=⟨_,rfl⟩
     simp only [<- hu] at HEJ ⊢
     clear hu HY HBN HR B4 hHeld
     obtain ⟨ub,uc⟩:=u
     simp only at HEJ ⊢
     have huc:=HEJ.out.1.1
     have HCN:=Lh HEJ.out.1.2
     have hul:=HEJ.out.2
     clear HEJ
     subst huc
     have HH:Hid (∀ W,Below w4.heap.size w4 W->W.cell? ⟨SB,0,none⟩=some (.slice x.slots.a s.slots.length x.slots.cap)/\W.cell? ⟨SB,1,none⟩=some (.slice x.rooms.a s.rooms.length x.rooms.cap)/\W.cell? ⟨SB,2,none⟩=some (.slice x.people.a s.people.length x.people.cap)/\W.cell? ⟨SB,3,none⟩=some (.slice x.groups.a s.groups.length x.groups.cap)/\W.cell? ⟨SB,4,none⟩=some (.slice x.lessons.a s.lessons.length x.lessons.cap)):=Lh (fun W hW=>(HC.out W (HB4.out.trans (hW.mono HB4.out.size))).2)
     have HCT:=Lh (fun (W:World) (hW:Below w4.heap.size w4 W)=>count7_any R lv ([32,32]++ub) W (SlIn.later HLV.out (HB45.out.trans (hW.mono HB45.out.size)) (HB45.out.trans (hW.mono HB45.out.size)).size) (by have:=HLE2.out;rw [List.length_map] at this;have:=HLX.out;omega))
     have HTM:=Lh (fun (W:World) (hW:Below w4.heap.size w4 W)=>(times7_any s x l z xs ⟨some ⟨xab,xao,none⟩,xab,xao,xac⟩ ub W HI.out (HSE.out _ (HC.out W (HB4.out.trans (hW.mono HB4.out.size))).1).1 HFT.out.1 (HSE.out _ (HC.out W (HB4.out.trans (hW.mono HB4.out.size))).1).2.1 HLN.out.1 HFT.out.2 (HSE.out _ (HC.out W (HB4.out.trans (hW.mono HB4.out.size))).1).2.2.1 (by have:=HLN.out.2.1;omega) HLN.out.2.2 (HSE.out _ (HC.out W (HB4.out.trans (hW.mono HB4.out.size))).1).2.2.2))
     have HCE:=HCN.out
     simp only [HCE] at HCT
     clear HCE
     simp only [SchA.cells,SlA.val] at HTM
     obtain ⟨tn,htn⟩:∃ tn,tn=timF s l (xs.map Inx.ins) ub:=⟨_,rfl⟩
     simp only [<- htn] at HCT HTM
     clear htn
     obtain ⟨s2,hs2⟩:∃ s2,s2=[32,32]++ub:=⟨_,rfl⟩
     have ha1:∀ W,(Op.stringOp .add ⟨#[32,32]⟩ ⟨ub.toArray⟩).run Tryz.prog W=.ok (.string ⟨s2.toArray⟩) W:=fun W=>by rw [hs2];exact run_string_add_lists W [32,32] ub (by simp) (by omega)
     simp only [<- hs2] at HCT
     clear hs2
     go_upto_region 24 with fail
     go_region_held3 (fun w'=>Below w4.heap.size w4 w'/\w'.cell? ⟨SB,0,none⟩=some (.slice x.slots.a s.slots.length x.slots.cap)/\w'.cell? ⟨SB,1,none⟩=some (.slice x.rooms.a s.rooms.length x.rooms.cap)/\w'.cell? ⟨SB,2,none⟩=some (.slice x.people.a s.people.length x.people.cap)/\w'.cell? ⟨SB,3,none⟩=some (.slice x.groups.a s.groups.length x.groups.cap)/\w'.cell? ⟨SB,4,none⟩=some (.slice x.lessons.a s.lessons.length x.lessons.cap)) ((refine ⟨?_,HH.out _ ?_⟩ <;> first | exact HQ2.out | exact HQ1.out | exact (Below.refl _ _).drew | exact Below.refl _ _ | fail)) (first
      | (go_at_call 18;refine (HCT.out _ (by first | exact HQ2.out | exact (Below.refl _ _).drew | exact hS.1)).mono ?_;rintro e w7 ⟨rfl,hbb⟩;have HQ1:Hid (Below w4.heap.size w4 w7):=Lh (by first | exact HQ2.out.trans (hbb.mono HQ2.out.size) | exact (Below.refl _ _).drew.trans hbb);clear hbb)
      | (go_at_call 19;refine (HTM.out _ (by first | exact HQ1.out | exact (Below.refl _ _).drew | exact hS.1)).mono ?_;rintro e w8 ⟨rfl,hbb⟩;have HQ2:Hid (Below w4.heap.size w4 w8):=Lh (by first | exact HQ1.out.trans (hbb.mono HQ1.out.size) | exact (Below.refl _ _).drew.trans hbb);clear hbb))
     all_goals
      have HX1:=Lh (HB4.out.trans (HQ2.out.mono HB4.out.size))
      have HX2:=Lh (HB45.out.trans (HQ2.out.mono HB45.out.size))
      clear HCT HTM HCN HH HQ1 HQ2 HB4 HB45
      go_wp2_with fail
      go_round
      case rel=>exact ⟨j+1,by omega,by go_num,HX1,HX2⟩
      case measure=>simp [intOf];omega
    ·have hje:j=xs.length:=by omega
     subst hje
     have hlen:=HLE2.out
     generalize headsN (xs.map Inx.ins) 0 l.length=hn at hhl2 hlen ⊢
     rw [List.length_map] at hlen
     go_wp2_with fail
     exact bodyPost_ret (v:=.bool true) (by simp [results,Tryz.results6,go_sem]) rfl ⟨rfl,(HC.out _ HW.out).1⟩
end Go.Proofs.YtncnnbmeacpboaaGreatDoor
