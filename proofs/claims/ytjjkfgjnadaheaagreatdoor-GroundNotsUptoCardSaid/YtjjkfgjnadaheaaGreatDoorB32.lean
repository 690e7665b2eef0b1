/- Joined texts: EvJ, EvK, EvL, EvM, EvN, EvO, EvP, EvQ. -/
import Derived.Test.YtjjkfgjnadaheaaGreatDoorB31
import Derived.Test.YtjjkfgjnadaheaaGreatDoorB06
import Derived.Deep.RegionHeld3
import Derived.Test.YtjjkfgjnadaheaaGreatDoorB30
import Derived.Test.YtjjkfgjnadaheaaGreatDoorB14
set_option maxHeartbeats 4000000
set_option maxRecDepth 100000
set_option linter.unusedVariables false
set_option linter.unusedSimpArgs false
/- eval.value. -/
namespace Go.Chalk
open Go.RowKit
theorem value_one {s:Schl} {env:List Ev} {name:Bs} {n:Int}:valueF s env ⟨1,name,n⟩=n:=by unfold valueF;rw [if_pos rfl]
end Go.Chalk
namespace Go.Proofs.YtjjkfgjnadaheaaGreatDoor
open Go.RowKit Go.Chalk
structure ValOk (s:Schl) (kind:Int) (ev:Ev):Prop where
 slot:kind=3∨kind=4∨(kind=2/\ev.sort=2)->0<=ev.at_/\ev.at_<(s.slots.length:Int)
 room:kind=5∨kind=6->0<=ev.at_/\ev.at_<(s.rooms.length:Int)

theorem value_any (s:Schl) (x:SchA) (l:List Plc) (y:SlA) (env:List Ev) (z:SlA) (t:Trm) (w:World) (hs:SchIn w (·<w.heap.size) s x) (hf:SchFit s) (hgs:∀ q∈s.groups,0<=q.size/\q.size<=1000) (hsl:∀ q∈s.slots,0<=q.day/\q.day<=6/\0<=q.hour/\q.hour<=11)
  (hz:SlIn w (·<w.heap.size) (env.map Ev.toD) z) (hl:env.length<=2000000) (hk:1<=t.kind/\t.kind<=7) (hfi:t.kind ≠ 1->(env.findIdx? (fun x=>x.name==t.name)).isSome=true) (hv:ValOk s t.kind (evOf env t.name)) :
  Calls Tryz.prog 107 #[stV s x l y,.slice z.a env.length z.cap,.agg #[.int .i64 t.kind,.string ⟨t.name.toArray⟩,.int .i64 t.n]] w fun e w'=>e=.returned (.int .i64 (valueF s env t))/\Below w.heap.size w w':=by
 obtain ⟨kind,name,n⟩:=t
 simp only at hk hfi hv ⊢
 have hba:Below w.heap.size w ((w.alloc (.cells #[.slice x.slots.a s.slots.length x.slots.cap,.slice x.rooms.a s.rooms.length x.rooms.cap,.slice x.people.a s.people.length x.people.cap,.slice x.groups.a s.groups.length x.groups.cap,.slice x.lessons.a s.lessons.length x.lessons.cap,.slice y.a l.length y.cap] 105)).alloc (.cells #[.int .i64 kind,.string ⟨name.toArray⟩,.int .i64 n] 147)):=((Below.refl _ _).alloc (Nat.le_refl _) _).alloc (by simp) _
 unfold stV
 by_cases h1:kind=1
 ·subst h1
  rw [value_one]
  have HB:=Lh hba
  clear hs hz hfi hv hba
  go_enter Tryz.func107,Tryz.ntmps107
  go_wp2_with fail
  go_ret
  exact ⟨rfl,HB.out⟩
 obtain ⟨i,hi⟩:=Option.isSome_iff_exists.1 (hfi h1)
 obtain ⟨hil,he,hfn⟩:=evOf_at hi
 rw [he] at hv
 have hst:((w.alloc (.cells #[.slice x.slots.a s.slots.length x.slots.cap,.slice x.rooms.a s.rooms.length x.rooms.cap,.slice x.people.a s.people.length x.people.cap,.slice x.groups.a s.groups.length x.groups.cap,.slice x.lessons.a s.lessons.length x.lessons.cap,.slice y.a l.length y.cap] 105)).alloc (.cells #[.int .i64 kind,.string ⟨name.toArray⟩,.int .i64 n] 147)).heap[w.heap.size]?=some (.cells #[.slice x.slots.a s.slots.length x.slots.cap,.slice x.rooms.a s.rooms.length x.rooms.cap,.slice x.people.a s.people.length x.people.cap,.slice x.groups.a s.groups.length x.groups.cap,.slice x.lessons.a s.lessons.length x.lessons.cap,.slice y.a l.length y.cap] 105 (0,0)):=by rw [heap_get,if_neg (by simp),heap_get,if_pos rfl]
 have htb:((w.alloc (.cells #[.slice x.slots.a s.slots.length x.slots.cap,.slice x.rooms.a s.rooms.length x.rooms.cap,.slice x.people.a s.people.length x.people.cap,.slice x.groups.a s.groups.length x.groups.cap,.slice x.lessons.a s.lessons.length x.lessons.cap,.slice y.a l.length y.cap] 105)).alloc (.cells #[.int .i64 kind,.string ⟨name.toArray⟩,.int .i64 n] 147)).heap[w.heap.size+1]?=some (.cells #[.int .i64 kind,.string ⟨name.toArray⟩,.int .i64 n] 147 (0,0)):=by rw [heap_get,if_pos (by simp)]
 have hcl:=find_env 178 val1_any (fun _ _=>enters_of Tryz.func178 (by kernel_rfl) rfl _ _) env z name (w.heap.size+1) _ (hz.later hba hba.size) hl (cH htb rfl)
 rw [hfn] at hcl
 obtain ⟨g1,_,_,g4,_⟩:=hz.flat Ev.flatT
 have hev:=g4.three i hil rfl
 obtain ⟨hza,hzb⟩:=g1 (by omega)
 have HEV:=Lh (fun (W:World) (hb:Below w.heap.size w W)=>(⟨(hb.cell (p:=⟨z.b,z.o+i*3,none⟩) hzb).trans hev.1,(hb.cell (p:=⟨z.b,z.o+i*3+1,none⟩) hzb).trans hev.2.1,(hb.cell (p:=⟨z.b,z.o+i*3+2,none⟩) hzb).trans hev.2.2⟩:W.cell? ⟨z.b,z.o+i*3,none⟩=_/\W.cell? ⟨z.b,z.o+i*3+1,none⟩=_/\W.cell? ⟨z.b,z.o+i*3+2,none⟩=_))
 have HSC:=Lh (fun (W:World) (hW:Below w.heap.size w W)=>size_any s x (env[i]).at_ W (hs.later hW hW.size) hf hgs)
 have HSL:Hid (∀ (m:Nat) (hm:m<s.slots.length) (W:World),Below w.heap.size w W->x.slots.a=some ⟨x.slots.b,x.slots.o,none⟩/\W.cell? ⟨x.slots.b,x.slots.o+m*3,none⟩=some (.string ⟨s.slots[m].name.toArray⟩)/\W.cell? ⟨x.slots.b,x.slots.o+m*3+1,none⟩=some (.int .i64 s.slots[m].day)/\W.cell? ⟨x.slots.b,x.slots.o+m*3+2,none⟩=some (.int .i64 s.slots[m].hour)):=Lh (fun m hm W hW=>by
  obtain ⟨k1,_,_,k4,_⟩:=hs.slots.flat Slt.flatT
  obtain ⟨ka,kb⟩:=k1 (by omega)
  have h:=k4.three m hm rfl
  exact ⟨ka,(hW.cell (p:=⟨x.slots.b,x.slots.o+m*3,none⟩) kb).trans h.1,(hW.cell (p:=⟨x.slots.b,x.slots.o+m*3+1,none⟩) kb).trans h.2.1,(hW.cell (p:=⟨x.slots.b,x.slots.o+m*3+2,none⟩) kb).trans h.2.2⟩)
 have HRM:Hid (∀ (m:Nat) (hm:m<s.rooms.length) (W:World),Below w.heap.size w W->x.rooms.a=some ⟨x.rooms.b,x.rooms.o,none⟩/\W.cell? ⟨x.rooms.b,x.rooms.o+m*4+1,none⟩=some (.int .i64 s.rooms[m].house)/\W.cell? ⟨x.rooms.b,x.rooms.o+m*4+2,none⟩=some (.int .i64 s.rooms[m].seats)):=Lh (fun m hm W hW=>by
  obtain ⟨y1,_,_,_,_,hc⟩:=hs.rooms.rom m hm
  obtain ⟨ka,kb⟩:=hs.rooms.at_ (by rw [List.length_map];omega)
  obtain ⟨_,c1,c2,_⟩:=hc.four
  exact ⟨ka,(hW.cell (p:=⟨x.rooms.b,x.rooms.o+m*4+1,none⟩) kb).trans c1,(hW.cell (p:=⟨x.rooms.b,x.rooms.o+m*4+2,none⟩) kb).trans c2⟩)
 have hie:(i:Int)<(env.length:Int):=by omega
 have HVF:Hid (valueF s env ⟨kind,name,n⟩=if kind=3 then (sltAt s (env[i]).at_).day
   else if kind=4 then (sltAt s (env[i]).at_).hour
   else if kind=5 then (romAt s (env[i]).at_).house
   else if kind=6 then (romAt s (env[i]).at_).seats
   else if kind=7 then schSize s (env[i]).at_
   else if (env[i]).sort=2 then (sltAt s (env[i]).at_).day*12+(sltAt s (env[i]).at_).hour
   else (env[i]).at_):=Lh (by unfold valueF;rw [if_neg h1,he])
 have HDY:=Lh (fun (m:Nat) (hm:m<s.slots.length)=>hsl _ (List.getElem_mem hm))
 have HV:=Lh hv
 have HB:=Lh (aI hba (aI hst htb))
 rw [hza] at hcl ⊢
 have HCL:=Lh hcl
 have hmf:∀ (fn:Fn) (first cap:Array Value) (w:World),(Instr.makeFunc fn first cap).run Tryz.prog w=.ok (.func fn first cap) w:=fun _ _ _ _=>rfl
 clear hs hz hfi hv hba hst htb hcl g1 g4 hev hza hzb hsl hgs hf he hfn hi
 generalize valueF s env ⟨kind,name,n⟩=res at HVF ⊢
 generalize env[i]=ev at *
 clear hil hl
 obtain ⟨en,es,ea⟩:=ev
 simp only at HEV HSC HVF HV
 have hkk:kind=2∨kind=3∨kind=4∨kind=5∨kind=6∨kind=7:=by omega
 clear h1 hk
 rcases hkk with rfl | rfl | rfl | rfl | rfl | rfl
 ·-- kind 2
  by_cases hs2:es=2
  ·subst hs2
   obtain ⟨v1,v2⟩:0<=ea/\ea<(s.slots.length:Int):=HV.out.slot (by simp)
   obtain ⟨m,rfl⟩:∃ m:Nat,ea=(m:Int):=⟨ea.toNat,by omega⟩
   have hm:m<s.slots.length:=by omega
   have HRR:Hid (res=s.slots[m].day*12+s.slots[m].hour):=Lh (by rw [HVF.out];simp [sltAt,hm])
   obtain ⟨d1,d2,d3,d4⟩:=HDY.out m hm
   go_enter Tryz.func107,Tryz.ntmps107
   go_wp2_with fail
   refine HCL.out.mono ?_
   rintro e w1 ⟨rfl,hb⟩
   have hb1:=HB.out.1.trans (hb.mono HB.out.1.size)
   obtain ⟨e0,e1,e2⟩:=HEV.out w1 hb1
   have hst1:=(hb.block w.heap.size (gS HB.out.2.1).1).trans HB.out.2.1
   have htb1:=(hb.block (w.heap.size+1) (gS HB.out.2.2).1).trans HB.out.2.2
   have t0:=cell_alloc (x:=.cells #[.string ⟨en.toArray⟩,.int .i64 2,.int .i64 (m:Int)] 76) (cH (i:=0) htb1 rfl)
   have HB1:=Lh (hb1.alloc hb1.size (.cells #[.string ⟨en.toArray⟩,.int .i64 2,.int .i64 (m:Int)] 76))
   obtain ⟨ka,k0,k1,k2⟩:=HSL.out m hm w1 hb1
   have s0:=cell_alloc (x:=.cells #[.string ⟨en.toArray⟩,.int .i64 2,.int .i64 (m:Int)] 76) (cH (i:=0) hst1 rfl)
   rw [ka] at s0
   have k0':=cell_alloc (x:=.cells #[.string ⟨en.toArray⟩,.int .i64 2,.int .i64 (m:Int)] 76) k0
   have k1':=cell_alloc (x:=.cells #[.string ⟨en.toArray⟩,.int .i64 2,.int .i64 (m:Int)] 76) k1
   have k2':=cell_alloc (x:=.cells #[.string ⟨en.toArray⟩,.int .i64 2,.int .i64 (m:Int)] 76) k2
   have HB2:=Lh (HB1.out.alloc HB1.out.size (.cells #[.string ⟨s.slots[m].name.toArray⟩,.int .i64 s.slots[m].day,.int .i64 s.slots[m].hour] 114))
   clear hb hb1 hst1 htb1 ka k0 k1 k2
   generalize s.slots[m]=q at *
   obtain ⟨qn,qd,qh⟩:=q
   simp only at *
   go_wp2_with fail
   go_ret
   exact ⟨by rw [HRR.out];first | rfl | go_num,HB2.out⟩
  ·have hs2':(es==2)=false:=by simpa using hs2
   have HRR:Hid (res=ea):=Lh (by rw [HVF.out];simp [hs2])
   clear hs2
   go_enter Tryz.func107,Tryz.ntmps107
   go_wp2_with fail
   refine HCL.out.mono ?_
   rintro e w1 ⟨rfl,hb⟩
   have hb1:=HB.out.1.trans (hb.mono HB.out.1.size)
   obtain ⟨e0,e1,e2⟩:=HEV.out w1 hb1
   have hst1:=(hb.block w.heap.size (gS HB.out.2.1).1).trans HB.out.2.1
   have htb1:=(hb.block (w.heap.size+1) (gS HB.out.2.2).1).trans HB.out.2.2
   have t0:=cell_alloc (x:=.cells #[.string ⟨en.toArray⟩,.int .i64 es,.int .i64 ea] 76) (cH (i:=0) htb1 rfl)
   have HB1:=Lh (hb1.alloc hb1.size (.cells #[.string ⟨en.toArray⟩,.int .i64 es,.int .i64 ea] 76))
   clear hb hb1 hst1 htb1
   go_wp2_with fail
   go_ret
   exact ⟨ret_int HRR.out.symm,HB1.out⟩
 ·-- kind 3
  obtain ⟨v1,v2⟩:0<=ea/\ea<(s.slots.length:Int):=HV.out.slot (by simp)
  obtain ⟨m,rfl⟩:∃ m:Nat,ea=(m:Int):=⟨ea.toNat,by omega⟩
  have hm:m<s.slots.length:=by omega
  have HRR:Hid (res=s.slots[m].day):=Lh (by rw [HVF.out];simp [sltAt,hm])
  go_enter Tryz.func107,Tryz.ntmps107
  go_wp2_with fail
  refine HCL.out.mono ?_
  rintro e w1 ⟨rfl,hb⟩
  have hb1:=HB.out.1.trans (hb.mono HB.out.1.size)
  obtain ⟨e0,e1,e2⟩:=HEV.out w1 hb1
  have hst1:=(hb.block w.heap.size (gS HB.out.2.1).1).trans HB.out.2.1
  have htb1:=(hb.block (w.heap.size+1) (gS HB.out.2.2).1).trans HB.out.2.2
  have t0:=cell_alloc (x:=.cells #[.string ⟨en.toArray⟩,.int .i64 es,.int .i64 (m:Int)] 76) (cH (i:=0) htb1 rfl)
  have HB1:=Lh (hb1.alloc hb1.size (.cells #[.string ⟨en.toArray⟩,.int .i64 es,.int .i64 (m:Int)] 76))
  obtain ⟨ka,k0,k1,k2⟩:=HSL.out m hm w1 hb1
  have s0:=cell_alloc (x:=.cells #[.string ⟨en.toArray⟩,.int .i64 es,.int .i64 (m:Int)] 76) (cH (i:=0) hst1 rfl)
  rw [ka] at s0
  have k1':=cell_alloc (x:=.cells #[.string ⟨en.toArray⟩,.int .i64 es,.int .i64 (m:Int)] 76) k1
  clear hb hb1 hst1 htb1 ka k0 k1 k2
  generalize s.slots[m].day=dv at *
  go_wp2_with fail
  go_ret
  exact ⟨ret_int HRR.out.symm,HB1.out⟩
 ·-- kind 4
  obtain ⟨v1,v2⟩:0<=ea/\ea<(s.slots.length:Int):=HV.out.slot (by simp)
  obtain ⟨m,rfl⟩:∃ m:Nat,ea=(m:Int):=⟨ea.toNat,by omega⟩
  have hm:m<s.slots.length:=by omega
  have HRR:Hid (res=s.slots[m].hour):=Lh (by rw [HVF.out];simp [sltAt,hm])
  go_enter Tryz.func107,Tryz.ntmps107
  go_wp2_with fail
  refine HCL.out.mono ?_
  rintro e w1 ⟨rfl,hb⟩
  have hb1:=HB.out.1.trans (hb.mono HB.out.1.size)
  obtain ⟨e0,e1,e2⟩:=HEV.out w1 hb1
  have hst1:=(hb.block w.heap.size (gS HB.out.2.1).1).trans HB.out.2.1
  have htb1:=(hb.block (w.heap.size+1) (gS HB.out.2.2).1).trans HB.out.2.2
  have t0:=cell_alloc (x:=.cells #[.string ⟨en.toArray⟩,.int .i64 es,.int .i64 (m:Int)] 76) (cH (i:=0) htb1 rfl)
  have HB1:=Lh (hb1.alloc hb1.size (.cells #[.string ⟨en.toArray⟩,.int .i64 es,.int .i64 (m:Int)] 76))
  obtain ⟨ka,k0,k1,k2⟩:=HSL.out m hm w1 hb1
  have s0:=cell_alloc (x:=.cells #[.string ⟨en.toArray⟩,.int .i64 es,.int .i64 (m:Int)] 76) (cH (i:=0) hst1 rfl)
  rw [ka] at s0
  have k2':=cell_alloc (x:=.cells #[.string ⟨en.toArray⟩,.int .i64 es,.int .i64 (m:Int)] 76) k2
  clear hb hb1 hst1 htb1 ka k0 k1 k2
  generalize s.slots[m].hour=dv at *
  go_wp2_with fail
  go_ret
  exact ⟨ret_int HRR.out.symm,HB1.out⟩
 ·-- kind 5
  obtain ⟨v1,v2⟩:0<=ea/\ea<(s.rooms.length:Int):=HV.out.room (by simp)
  obtain ⟨m,rfl⟩:∃ m:Nat,ea=(m:Int):=⟨ea.toNat,by omega⟩
  have hm:m<s.rooms.length:=by omega
  have HRR:Hid (res=s.rooms[m].house):=Lh (by rw [HVF.out];simp [romAt,hm])
  go_enter Tryz.func107,Tryz.ntmps107
  go_wp2_with fail
  refine HCL.out.mono ?_
  rintro e w1 ⟨rfl,hb⟩
  have hb1:=HB.out.1.trans (hb.mono HB.out.1.size)
  obtain ⟨e0,e1,e2⟩:=HEV.out w1 hb1
  have hst1:=(hb.block w.heap.size (gS HB.out.2.1).1).trans HB.out.2.1
  have htb1:=(hb.block (w.heap.size+1) (gS HB.out.2.2).1).trans HB.out.2.2
  have t0:=cell_alloc (x:=.cells #[.string ⟨en.toArray⟩,.int .i64 es,.int .i64 (m:Int)] 76) (cH (i:=0) htb1 rfl)
  have HB1:=Lh (hb1.alloc hb1.size (.cells #[.string ⟨en.toArray⟩,.int .i64 es,.int .i64 (m:Int)] 76))
  obtain ⟨ka,k1,k2⟩:=HRM.out m hm w1 hb1
  have s0:=cell_alloc (x:=.cells #[.string ⟨en.toArray⟩,.int .i64 es,.int .i64 (m:Int)] 76) (cH (i:=1) hst1 rfl)
  rw [ka] at s0
  have k1':=cell_alloc (x:=.cells #[.string ⟨en.toArray⟩,.int .i64 es,.int .i64 (m:Int)] 76) k1
  clear hb hb1 hst1 htb1 ka k1 k2
  generalize s.rooms[m].house=dv at *
  go_wp2_with fail
  go_ret
  exact ⟨ret_int HRR.out.symm,HB1.out⟩
 ·-- kind 6
  obtain ⟨v1,v2⟩:0<=ea/\ea<(s.rooms.length:Int):=HV.out.room (by simp)
  obtain ⟨m,rfl⟩:∃ m:Nat,ea=(m:Int):=⟨ea.toNat,by omega⟩
  have hm:m<s.rooms.length:=by omega
  have HRR:Hid (res=s.rooms[m].seats):=Lh (by rw [HVF.out];simp [romAt,hm])
  go_enter Tryz.func107,Tryz.ntmps107
  go_wp2_with fail
  refine HCL.out.mono ?_
  rintro e w1 ⟨rfl,hb⟩
  have hb1:=HB.out.1.trans (hb.mono HB.out.1.size)
  obtain ⟨e0,e1,e2⟩:=HEV.out w1 hb1
  have hst1:=(hb.block w.heap.size (gS HB.out.2.1).1).trans HB.out.2.1
  have htb1:=(hb.block (w.heap.size+1) (gS HB.out.2.2).1).trans HB.out.2.2
  have t0:=cell_alloc (x:=.cells #[.string ⟨en.toArray⟩,.int .i64 es,.int .i64 (m:Int)] 76) (cH (i:=0) htb1 rfl)
  have HB1:=Lh (hb1.alloc hb1.size (.cells #[.string ⟨en.toArray⟩,.int .i64 es,.int .i64 (m:Int)] 76))
  obtain ⟨ka,k1,k2⟩:=HRM.out m hm w1 hb1
  have s0:=cell_alloc (x:=.cells #[.string ⟨en.toArray⟩,.int .i64 es,.int .i64 (m:Int)] 76) (cH (i:=1) hst1 rfl)
  rw [ka] at s0
  have k2':=cell_alloc (x:=.cells #[.string ⟨en.toArray⟩,.int .i64 es,.int .i64 (m:Int)] 76) k2
  clear hb hb1 hst1 htb1 ka k1 k2
  generalize s.rooms[m].seats=dv at *
  go_wp2_with fail
  go_ret
  exact ⟨ret_int HRR.out.symm,HB1.out⟩
 ·-- kind 7
  have HRR:Hid (res=schSize s ea):=Lh (by rw [HVF.out];simp)
  generalize schSize s ea=sz at HSC HRR
  go_enter Tryz.func107,Tryz.ntmps107
  go_wp2_with fail
  refine HCL.out.mono ?_
  rintro e w1 ⟨rfl,hb⟩
  have hb1:=HB.out.1.trans (hb.mono HB.out.1.size)
  obtain ⟨e0,e1,e2⟩:=HEV.out w1 hb1
  have hst1:=(hb.block w.heap.size (gS HB.out.2.1).1).trans HB.out.2.1
  have htb1:=(hb.block (w.heap.size+1) (gS HB.out.2.2).1).trans HB.out.2.2
  have t0:=cell_alloc (x:=.cells #[.string ⟨en.toArray⟩,.int .i64 es,.int .i64 ea] 76) (cH (i:=0) htb1 rfl)
  have HB1:=Lh (hb1.alloc hb1.size (.cells #[.string ⟨en.toArray⟩,.int .i64 es,.int .i64 ea] 76))
  have s0:=cell_alloc (x:=.cells #[.string ⟨en.toArray⟩,.int .i64 es,.int .i64 ea] 76) (cH (i:=0) hst1 rfl)
  have s1:=cell_alloc (x:=.cells #[.string ⟨en.toArray⟩,.int .i64 es,.int .i64 ea] 76) (cH (i:=1) hst1 rfl)
  have s2:=cell_alloc (x:=.cells #[.string ⟨en.toArray⟩,.int .i64 es,.int .i64 ea] 76) (cH (i:=2) hst1 rfl)
  have s3:=cell_alloc (x:=.cells #[.string ⟨en.toArray⟩,.int .i64 es,.int .i64 ea] 76) (cH (i:=3) hst1 rfl)
  have s4:=cell_alloc (x:=.cells #[.string ⟨en.toArray⟩,.int .i64 es,.int .i64 ea] 76) (cH (i:=4) hst1 rfl)
  have HSW:=Lh (HSC.out _ HB1.out)
  simp only [SchA.cells,SlA.val] at HSW
  clear hb hb1 hst1 htb1
  go_wp2_with fail
  refine HSW.out.mono ?_
  rintro e w2 ⟨rfl,hb2⟩
  have HB2:=Lh (HB1.out.trans (hb2.mono HB1.out.size))
  clear hb2
  go_wp2_with fail
  go_ret
  exact ⟨ret_int HRR.out.symm,HB2.out⟩
end Go.Proofs.YtjjkfgjnadaheaaGreatDoor
/- eval.holds: the parts. -/
namespace Go.Proofs.YtjjkfgjnadaheaaGreatDoor
open Go.RowKit Go.Chalk
structure HdBox (W:World) (ps:Nat) (s:Schl) (x:SchA) (l:List Plc) (y:SlA) (env:List Ev) (z:SlA) (f:Frm) (fa:FrmA):Prop where
 st:W.heap[ps]?=some (.cells #[.slice x.slots.a s.slots.length x.slots.cap,.slice x.rooms.a s.rooms.length x.rooms.cap,.slice x.people.a s.people.length x.people.cap,.slice x.groups.a s.groups.length x.groups.cap,.slice x.lessons.a s.lessons.length x.lessons.cap,.slice y.a l.length y.cap] 105 (0,0))
 env:W.heap[ps+1]?=some (.cells #[.slice z.a env.length z.cap] 29 (0,0))
 frm:W.heap[ps+1+1]?=some (.cells (fa.cells f).toArray 34 (0,0))
theorem HdBox.below {W W':World} {ps:Nat} {s:Schl} {x:SchA} {l:List Plc} {y:SlA} {env:List Ev} {z:SlA} {f:Frm} {fa:FrmA} (h:HdBox W ps s x l y env z f fa) (hb:Below W.heap.size W W'):HdBox W' ps s x l y env z f fa :=
 ⟨(hb.block _ (gS h.st).1).trans h.st,(hb.block _ (gS h.env).1).trans h.env,(hb.block _ (gS h.frm).1).trans h.frm⟩

theorem holds1_any (s:Schl) (x:SchA) (l:List Plc) (y:SlA) (env:List Ev) (z:SlA) (kind:Int) (name:Bs) (n:Int) (terms:List Trm) (binds:List Bnd) (fl:List Frm) (fa:FrmA) (i:Nat) (hi:i<fl.length) (W:World) (ps:Nat)
  (hB:HdBox W ps s x l y env z (.mk kind name n terms binds fl) fa) (y1:FrmA) (hc:CellsAt W fa.l.b (fa.l.o+i*6) (y1.cells fl[i])) (hla:fa.l.a=some ⟨fa.l.b,fa.l.o,none⟩) (v:Bool)
  (hcall:∀ W',Below W.heap.size W W'->Calls Tryz.prog 56 #[stV s x l y,.slice z.a env.length z.cap,ndV (fl[i],y1)] W' fun e w'=>e=.returned (.bool v)/\Below W'.heap.size W' w') :
  Calls Tryz.prog 105 #[.int .i64 i,.pointer (some ⟨ps,0,none⟩),.pointer (some ⟨ps+1,0,none⟩),.pointer (some ⟨ps+1+1,0,none⟩)] W fun e w'=>e=.returned (.bool v)/\Below W.heap.size W w':=by
 have hst:=hB.st
 have hen:=hB.env
 have hfr:=hB.frm
 simp only [FrmA.cells,SlA.val,Frm.kind,Frm.name,Frm.n,Frm.terms,Frm.binds,Frm.l] at hfr
 have s0:W.cell? ⟨ps,0,none⟩=_:=cH hst rfl
 have s1:W.cell? ⟨ps,1,none⟩=_:=cH hst rfl
 have s2:W.cell? ⟨ps,2,none⟩=_:=cH hst rfl
 have s3:W.cell? ⟨ps,3,none⟩=_:=cH hst rfl
 have s4:W.cell? ⟨ps,4,none⟩=_:=cH hst rfl
 have s5:W.cell? ⟨ps,5,none⟩=_:=cH hst rfl
 have v0:W.cell? ⟨ps+1,0,none⟩=_:=cH hen rfl
 have f5:W.cell? ⟨ps+1+1,5,none⟩=some (.slice fa.l.a fl.length fa.l.cap):=cH hfr rfl
 rw [hla] at f5
 obtain ⟨e0,e1,e2,e3,e4,e5⟩:=hc.six
 have HCL:=Lh (hcall W.drew (Below.refl _ _).drew)
 have hil:(i:Int)<(fl.length:Int):=by omega
 clear hst hen hfr hc hcall hB
 generalize fl[i]=fe at *
 obtain ⟨kind1,name1,n1,terms1,binds1,fl1⟩:=fe
 unfold stV at HCL
 simp only [ndV,FrmA.cells,SlA.val,Frm.kind,Frm.name,Frm.n,Frm.terms,Frm.binds,Frm.l] at HCL e0 e1 e2 e3 e4 e5
 generalize fl.length=fln at *
 go_enter Tryz.func105,Tryz.ntmps105
 go_wp2_with fail
 go_region_with (go_at_call 56;refine HCL.out.mono ?_;rintro e w' ⟨rfl,hb⟩;have HW:=Lh hb;clear hb)
 all_goals
  go_wp2_with fail
  go_ret
  exact ⟨rfl,((Below.refl _ _).drew).trans HW.out⟩
end Go.Proofs.YtjjkfgjnadaheaaGreatDoor
/- eval.holds: constants and connectives. -/
namespace Go.Chalk
open Go.RowKit
theorem formed_len {kind:Int} {name:Bs} {n:Int} {terms:List Trm} {binds:List Bnd} {l:List Frm} (h:formedF (.mk kind name n terms binds l)=true):arityF kind=some l.length/\(terms=[]∨atomK kind=true)/\(binds=[]∨quantK kind=true):=by
 rw [formedF_mk,Bool.and_eq_true,partsOk_mk] at h
 have h1:=h.1
 simp only [Bool.and_eq_true,Bool.or_eq_true,beq_iff_eq,List.isEmpty_iff] at h1
 exact ⟨h1.1.1.1.1,h1.1.1.1.2,h1.1.1.2⟩
end Go.Chalk
namespace Go.Proofs.YtjjkfgjnadaheaaGreatDoor
open Go.RowKit Go.Chalk
abbrev hdW (w:World) (s:Schl) (x:SchA) (l:List Plc) (y:SlA) (env:List Ev) (z:SlA) (f:Frm) (fa:FrmA):World :=
 ((w.alloc (.cells #[.slice x.slots.a s.slots.length x.slots.cap,.slice x.rooms.a s.rooms.length x.rooms.cap,.slice x.people.a s.people.length x.people.cap,.slice x.groups.a s.groups.length x.groups.cap,.slice x.lessons.a s.lessons.length x.lessons.cap,.slice y.a l.length y.cap] 105)).alloc (.cells #[.slice z.a env.length z.cap] 29)).alloc (.cells (fa.cells f).toArray 34)
theorem hdW_box (w:World) (s:Schl) (x:SchA) (l:List Plc) (y:SlA) (env:List Ev) (z:SlA) (f:Frm) (fa:FrmA):HdBox (hdW w s x l y env z f fa) w.heap.size s x l y env z f fa :=
 ⟨by rw [heap_get,if_neg (by simp;omega),heap_get,if_neg (by simp),heap_get,if_pos rfl],by rw [heap_get,if_neg (by simp),heap_get,if_pos (by simp)],by rw [heap_get,if_pos (by simp)]⟩
theorem hdW_below (w:World) (s:Schl) (x:SchA) (l:List Plc) (y:SlA) (env:List Ev) (z:SlA) (f:Frm) (fa:FrmA):Below w.heap.size w (hdW w s x l y env z f fa) :=
 (((Below.refl _ _).alloc (Nat.le_refl _) _).alloc (by simp) _).alloc (by simp;omega) _

theorem holds_const (s:Schl) (x:SchA) (l:List Plc) (y:SlA) (env:List Ev) (z:SlA) (kind:Int) (name:Bs) (n:Int) (binds:List Bnd) (fl:List Frm) (fa:FrmA) (w:World) (hk:kind=1∨kind=2) :
  Calls Tryz.prog 56 #[stV s x l y,.slice z.a env.length z.cap,ndV (.mk kind name n [] binds fl,fa)] w fun e w'=>e=.returned (.bool (holdsF s l env (.mk kind name n [] binds fl)))/\Below w.heap.size w w':=by
 have hb:=hdW_below w s x l y env z (.mk kind name n [] binds fl) fa
 have hr:holdsF s l env (.mk kind name n [] binds fl)=(kind==1):=by
  rw [holdsF_nil]
  rcases hk with rfl | rfl
  ·rfl
  ·rfl
 have hmf:∀ (fn:Fn) (first cap:Array Value) (w:World),(Instr.makeFunc fn first cap).run Tryz.prog w=.ok (.func fn first cap) w:=fun _ _ _ _=>rfl
 rw [hr]
 have HB:=Lh hb
 clear hb hr
 unfold stV
 simp only [hdW,ndV,FrmA.cells,SlA.val,Frm.kind,Frm.name,Frm.n,Frm.terms,Frm.binds,Frm.l] at HB ⊢
 rcases hk with rfl | rfl
 ·go_enter Tryz.func56,Tryz.ntmps56
  go_wp2_with fail
  go_ret
  exact ⟨rfl,HB.out⟩
 ·go_enter Tryz.func56,Tryz.ntmps56
  go_wp2_with fail
  go_ret
  exact ⟨rfl,HB.out⟩

theorem holds_conn (s:Schl) (x:SchA) (l:List Plc) (y:SlA) (env:List Ev) (z:SlA) (kind:Int) (name:Bs) (n:Int) (fl:List Frm) (fa:FrmA) (w:World) (hk:10<=kind/\kind<=13) (hf:formedF (.mk kind name n [] [] fl)=true) (hx:FrmIn w (·<w.heap.size) (.mk kind name n [] [] fl) fa)
  (ih:∀ (j:Nat) (hj:j<fl.length) (y1:FrmA) (W:World),Below w.heap.size w W->FrmIn w (·<w.heap.size) fl[j] y1->Calls Tryz.prog 56 #[stV s x l y,.slice z.a env.length z.cap,ndV (fl[j],y1)] W fun e w'=>e=.returned (.bool (holdsF s l env fl[j]))/\Below W.heap.size W w') :
  Calls Tryz.prog 56 #[stV s x l y,.slice z.a env.length z.cap,ndV (.mk kind name n [] [] fl,fa)] w fun e w'=>e=.returned (.bool (holdsF s l env (.mk kind name n [] [] fl)))/\Below w.heap.size w w':=by
 have hb:=hdW_below w s x l y env z (.mk kind name n [] [] fl) fa
 have hbx:=hdW_box w s x l y env z (.mk kind name n [] [] fl) fa
 have hpt:∀ (j:Nat) (hj:j<fl.length) (W:World),Below w.heap.size w W->HdBox W w.heap.size s x l y env z (.mk kind name n [] [] fl) fa->Calls Tryz.prog 105 #[.int .i64 j,.pointer (some ⟨w.heap.size,0,none⟩),.pointer (some ⟨w.heap.size+1,0,none⟩),.pointer (some ⟨w.heap.size+1+1,0,none⟩)] W fun e w'=>e=.returned (.bool (holdsF s l env fl[j]))/\Below W.heap.size W w':=by
  intro j hj W hW hB
  obtain ⟨y1,h1,h2⟩:=hx.l.frm j hj
  obtain ⟨hla,hlb⟩:=hx.l.at_ (by rw [List.length_map];exact Nat.lt_of_le_of_lt (Nat.zero_le _) hj)
  exact holds1_any s x l y env z kind name n [] [] fl fa j hj W w.heap.size hB y1 (h2.agree (agree_of_below hW) hlb) hla _ (fun W' hW'=>ih j hj y1 W' (hW.trans (hW'.mono hW.size)) h1)
 obtain ⟨har,_,_⟩:=formed_len hf
 have hmf:∀ (fn:Fn) (first cap:Array Value) (w:World),(Instr.makeFunc fn first cap).run Tryz.prog w=.ok (.func fn first cap) w:=fun _ _ _ _=>rfl
 have hkk:kind=10∨kind=11∨kind=12∨kind=13:=by omega
 clear hx ih hk hf
 unfold stV at hpt ⊢
 rcases hkk with rfl | rfl | rfl | rfl
 ·obtain ⟨g,rfl⟩:∃ g,fl=[g]:=by
   have h1:fl.length=1:=by simpa [arityF] using har.symm
   exact List.length_eq_one_iff.1 h1
  ·have HB:=Lh (aI hb hbx)
   have hr:holdsF s l env (.mk 10 name n [] [] [g]) = !(holdsF s l env g):=by rw [holdsF_nil,if_neg (by decide),if_neg (by decide),if_pos rfl,holdsAt]
   rw [hr]
   have h0:Calls Tryz.prog 105 #[.int .i64 0,.pointer (some ⟨w.heap.size,0,none⟩),.pointer (some ⟨w.heap.size+1,0,none⟩),.pointer (some ⟨w.heap.size+1+1,0,none⟩)] (hdW w s x l y env z (.mk 10 name n [] [] [g]) fa) fun e w'=>e=.returned (.bool (holdsF s l env g))/\Below (hdW w s x l y env z (.mk 10 name n [] [] [g]) fa).heap.size (hdW w s x l y env z (.mk 10 name n [] [] [g]) fa) w':=hpt 0 (Nat.zero_lt_one) _ hb hbx
   generalize holdsF s l env g=v at h0 ⊢
   clear hpt hb hbx hr
   have HC:=Lh h0
   simp only [hdW,ndV,FrmA.cells,SlA.val,Frm.kind,Frm.name,Frm.n,Frm.terms,Frm.binds,Frm.l] at HB HC ⊢
   clear h0
   go_enter Tryz.func56,Tryz.ntmps56
   go_wp2_with fail
   refine HC.out.mono ?_
   rintro e w1 ⟨rfl,hb1⟩
   have HB1:=Lh (HB.out.1.trans (hb1.mono HB.out.1.size))
   clear hb1
   go_wp2_with fail
   go_ret
   exact ⟨rfl,HB1.out⟩
 ·obtain ⟨g,h,rfl⟩:∃ g h,fl=[g,h]:=by
   have h1:fl.length=2:=by simpa [arityF] using har.symm
   match fl,h1 with
   | [g,h],_=>exact ⟨g,h,rfl⟩
  ·have HB:=Lh (aI hb hbx)
   have hr:holdsF s l env (.mk 11 name n [] [] [g,h])=(holdsF s l env g&&holdsF s l env h):=by rw [holdsF_nil,if_neg (by decide),if_neg (by decide),if_neg (by decide),if_pos rfl,holdsAt,holdsAt,holdsAt]
   rw [hr]
   have h0:Calls Tryz.prog 105 #[.int .i64 0,.pointer (some ⟨w.heap.size,0,none⟩),.pointer (some ⟨w.heap.size+1,0,none⟩),.pointer (some ⟨w.heap.size+1+1,0,none⟩)] (hdW w s x l y env z (.mk 11 name n [] [] [g,h]) fa) fun e w'=>e=.returned (.bool (holdsF s l env g))/\Below (hdW w s x l y env z (.mk 11 name n [] [] [g,h]) fa).heap.size (hdW w s x l y env z (.mk 11 name n [] [] [g,h]) fa) w':=hpt 0 (by show 0<2;decide) _ hb hbx
   have h1:∀ W,Below w.heap.size w W->HdBox W w.heap.size s x l y env z (.mk 11 name n [] [] [g,h]) fa->Calls Tryz.prog 105 #[.int .i64 1,.pointer (some ⟨w.heap.size,0,none⟩),.pointer (some ⟨w.heap.size+1,0,none⟩),.pointer (some ⟨w.heap.size+1+1,0,none⟩)] W fun e w'=>e=.returned (.bool (holdsF s l env h))/\Below W.heap.size W w':=hpt 1 (by show 1<2;decide)
   generalize holdsF s l env g=v0 at h0 ⊢
   generalize holdsF s l env h=v1 at h1 ⊢
   clear hpt hb hbx hr
   have HC:=Lh h0
   have HC2:=Lh h1
   clear h0 h1
   simp only [hdW,ndV,FrmA.cells,SlA.val,Frm.kind,Frm.name,Frm.n,Frm.terms,Frm.binds,Frm.l] at HB HC ⊢
   go_enter Tryz.func56,Tryz.ntmps56
   go_wp2_with fail
   refine HC.out.mono ?_
   rintro e w1 ⟨rfl,hb1⟩
   have HB1:=Lh (aI (HB.out.1.trans (hb1.mono HB.out.1.size)) (HB.out.2.below hb1))
   clear hb1
   cases v0
   ·go_wp2_with fail
    go_ret
    exact ⟨by simp,HB1.out.1⟩
   ·have HCW:=Lh (HC2.out w1 HB1.out.1 HB1.out.2)
    go_wp2_with fail
    refine HCW.out.mono ?_
    rintro e w2 ⟨rfl,hb2⟩
    have HB2:=Lh (HB1.out.1.trans (hb2.mono HB1.out.1.size))
    clear hb2
    go_wp2_with fail
    go_ret
    exact ⟨by simp,HB2.out⟩
 ·obtain ⟨g,h,rfl⟩:∃ g h,fl=[g,h]:=by
   have h1:fl.length=2:=by simpa [arityF] using har.symm
   match fl,h1 with
   | [g,h],_=>exact ⟨g,h,rfl⟩
  ·have HB:=Lh (aI hb hbx)
   have hr:holdsF s l env (.mk 12 name n [] [] [g,h])=(holdsF s l env g||holdsF s l env h):=by rw [holdsF_nil,if_neg (by decide),if_neg (by decide),if_neg (by decide),if_neg (by decide),if_pos rfl,holdsAt,holdsAt,holdsAt]
   rw [hr]
   have h0:Calls Tryz.prog 105 #[.int .i64 0,.pointer (some ⟨w.heap.size,0,none⟩),.pointer (some ⟨w.heap.size+1,0,none⟩),.pointer (some ⟨w.heap.size+1+1,0,none⟩)] (hdW w s x l y env z (.mk 12 name n [] [] [g,h]) fa) fun e w'=>e=.returned (.bool (holdsF s l env g))/\Below (hdW w s x l y env z (.mk 12 name n [] [] [g,h]) fa).heap.size (hdW w s x l y env z (.mk 12 name n [] [] [g,h]) fa) w':=hpt 0 (by show 0<2;decide) _ hb hbx
   have h1:∀ W,Below w.heap.size w W->HdBox W w.heap.size s x l y env z (.mk 12 name n [] [] [g,h]) fa->Calls Tryz.prog 105 #[.int .i64 1,.pointer (some ⟨w.heap.size,0,none⟩),.pointer (some ⟨w.heap.size+1,0,none⟩),.pointer (some ⟨w.heap.size+1+1,0,none⟩)] W fun e w'=>e=.returned (.bool (holdsF s l env h))/\Below W.heap.size W w':=hpt 1 (by show 1<2;decide)
   generalize holdsF s l env g=v0 at h0 ⊢
   generalize holdsF s l env h=v1 at h1 ⊢
   clear hpt hb hbx hr
   have HC:=Lh h0
   have HC2:=Lh h1
   clear h0 h1
   simp only [hdW,ndV,FrmA.cells,SlA.val,Frm.kind,Frm.name,Frm.n,Frm.terms,Frm.binds,Frm.l] at HB HC ⊢
   go_enter Tryz.func56,Tryz.ntmps56
   go_wp2_with fail
   refine HC.out.mono ?_
   rintro e w1 ⟨rfl,hb1⟩
   have HB1:=Lh (aI (HB.out.1.trans (hb1.mono HB.out.1.size)) (HB.out.2.below hb1))
   clear hb1
   cases v0
   ·have HCW:=Lh (HC2.out w1 HB1.out.1 HB1.out.2)
    go_wp2_with fail
    refine HCW.out.mono ?_
    rintro e w2 ⟨rfl,hb2⟩
    have HB2:=Lh (HB1.out.1.trans (hb2.mono HB1.out.1.size))
    clear hb2
    go_wp2_with fail
    go_ret
    exact ⟨by simp,HB2.out⟩
   ·go_wp2_with fail
    go_ret
    exact ⟨by simp,HB1.out.1⟩
 ·obtain ⟨g,h,rfl⟩:∃ g h,fl=[g,h]:=by
   have h1:fl.length=2:=by simpa [arityF] using har.symm
   match fl,h1 with
   | [g,h],_=>exact ⟨g,h,rfl⟩
  ·have HB:=Lh (aI hb hbx)
   have hr:holdsF s l env (.mk 13 name n [] [] [g,h])=(!(holdsF s l env g)||holdsF s l env h):=by rw [holdsF_nil,if_neg (by decide),if_neg (by decide),if_neg (by decide),if_neg (by decide),if_neg (by decide),if_pos rfl,holdsAt,holdsAt,holdsAt]
   rw [hr]
   have h0:Calls Tryz.prog 105 #[.int .i64 0,.pointer (some ⟨w.heap.size,0,none⟩),.pointer (some ⟨w.heap.size+1,0,none⟩),.pointer (some ⟨w.heap.size+1+1,0,none⟩)] (hdW w s x l y env z (.mk 13 name n [] [] [g,h]) fa) fun e w'=>e=.returned (.bool (holdsF s l env g))/\Below (hdW w s x l y env z (.mk 13 name n [] [] [g,h]) fa).heap.size (hdW w s x l y env z (.mk 13 name n [] [] [g,h]) fa) w':=hpt 0 (by show 0<2;decide) _ hb hbx
   have h1:∀ W,Below w.heap.size w W->HdBox W w.heap.size s x l y env z (.mk 13 name n [] [] [g,h]) fa->Calls Tryz.prog 105 #[.int .i64 1,.pointer (some ⟨w.heap.size,0,none⟩),.pointer (some ⟨w.heap.size+1,0,none⟩),.pointer (some ⟨w.heap.size+1+1,0,none⟩)] W fun e w'=>e=.returned (.bool (holdsF s l env h))/\Below W.heap.size W w':=hpt 1 (by show 1<2;decide)
   generalize holdsF s l env g=v0 at h0 ⊢
   generalize holdsF s l env h=v1 at h1 ⊢
   clear hpt hb hbx hr
   have HC:=Lh h0
   have HC2:=Lh h1
   clear h0 h1
   simp only [hdW,ndV,FrmA.cells,SlA.val,Frm.kind,Frm.name,Frm.n,Frm.terms,Frm.binds,Frm.l] at HB HC ⊢
   go_enter Tryz.func56,Tryz.ntmps56
   go_wp2_with fail
   refine HC.out.mono ?_
   rintro e w1 ⟨rfl,hb1⟩
   have HB1:=Lh (aI (HB.out.1.trans (hb1.mono HB.out.1.size)) (HB.out.2.below hb1))
   clear hb1
   cases v0
   ·go_wp2_with fail
    go_ret
    exact ⟨by simp,HB1.out.1⟩
   ·have HCW:=Lh (HC2.out w1 HB1.out.1 HB1.out.2)
    go_wp2_with fail
    refine HCW.out.mono ?_
    rintro e w2 ⟨rfl,hb2⟩
    have HB2:=Lh (HB1.out.1.trans (hb2.mono HB1.out.1.size))
    clear hb2
    go_wp2_with fail
    go_ret
    exact ⟨by simp,HB2.out⟩
end Go.Proofs.YtjjkfgjnadaheaaGreatDoor
/- eval.holds: comparisons. -/
namespace Go.Proofs.YtjjkfgjnadaheaaGreatDoor
open Go.RowKit Go.Chalk
theorem holds_cmp (s:Schl) (x:SchA) (l:List Plc) (y:SlA) (env:List Ev) (z:SlA) (name:Bs) (n:Int) (t u:Trm) (binds:List Bnd) (fl:List Frm) (fa:FrmA) (w:World) (hg:GG w) (hx:SlIn w (·<w.heap.size) ([t,u].map Trm.toD) fa.t) (hc:cmpL.contains name=true)
  (hv:∀ c∈[t,u],∀ W,Below w.heap.size w W->Calls Tryz.prog 107 #[stV s x l y,.slice z.a env.length z.cap,.agg #[.int .i64 c.kind,.string ⟨c.name.toArray⟩,.int .i64 c.n]] W fun e w'=>e=.returned (.int .i64 (valueF s env c))/\Below W.heap.size W w') :
  Calls Tryz.prog 56 #[stV s x l y,.slice z.a env.length z.cap,ndV (.mk 9 name n [t,u] binds fl,fa)] w fun e w'=>e=.returned (.bool (holdsF s l env (.mk 9 name n [t,u] binds fl)))/\Below w.heap.size w w':=by
 have hb:=hdW_below w s x l y env z (.mk 9 name n [t,u] binds fl) fa
 obtain ⟨hb1,hb2,hb3⟩:=hdW_box w s x l y env z (.mk 9 name n [t,u] binds fl) fa
 have hr:holdsF s l env (.mk 9 name n [t,u] binds fl)=cmpHolds name (valueF s env t) (valueF s env u):=by rw [holdsF_two,if_neg (by decide),if_neg (by decide),if_pos rfl]
 rw [hr]
 obtain ⟨gs,hgs,hen,hca⟩:=sign_call name hc
 have hnl:name.length<=maxLen:=by
  unfold cmpL at hc
  simp only [List.contains_iff_mem,List.mem_cons,List.not_mem_nil,or_false] at hc
  rcases hc with rfl | rfl | rfl | rfl | rfl | rfl <;> decide
 obtain ⟨g1,_,_,g4,_⟩:=hx.flat Trm.flatT
 obtain ⟨ta,tb⟩:=g1 (by simp)
 obtain ⟨t0,t1,t2⟩:=g4.three 0 (by simp) rfl
 obtain ⟨u0,u1,u2⟩:=g4.three 1 (by simp) rfl
 obtain ⟨mb,mo,q1,q2,q3⟩:=hg.signs
 have HV1:=Lh (hv t (by simp))
 have HV2:=Lh (hv u (by simp))
 have HCA:=Lh (hca (valueF s env t) (valueF s env u))
 simp only [List.getElem_cons_zero,List.getElem_cons_succ,Nat.zero_mul,Nat.add_zero,Nat.one_mul] at t0 t1 t2 u0 u1 u2
 have HK:Hid (∀ W',Below (hdW w s x l y env z (.mk 9 name n [t,u] binds fl) fa).heap.size (hdW w s x l y env z (.mk 9 name n [t,u] binds fl) fa) W'->W'.cell? ⟨0,0,none⟩=some (.map (some mb))/\(Instr.lookup 168 (.map (some mb)) (.string ⟨name.toArray⟩) false).run Tryz.prog W'=.ok (.func (.func gs) #[] #[]) W' /\
   W'.cell? ⟨w.heap.size,0,none⟩=some (.slice x.slots.a s.slots.length x.slots.cap)/\W'.cell? ⟨w.heap.size,1,none⟩=some (.slice x.rooms.a s.rooms.length x.rooms.cap)/\W'.cell? ⟨w.heap.size,2,none⟩=some (.slice x.people.a s.people.length x.people.cap)/\W'.cell? ⟨w.heap.size,3,none⟩=some (.slice x.groups.a s.groups.length x.groups.cap)/\W'.cell? ⟨w.heap.size,4,none⟩=some (.slice x.lessons.a s.lessons.length x.lessons.cap)/\W'.cell? ⟨w.heap.size,5,none⟩=some (.slice y.a l.length y.cap) /\
   W'.cell? ⟨w.heap.size+1,0,none⟩=some (.slice z.a env.length z.cap)/\W'.cell? ⟨w.heap.size+1+1,1,none⟩=some (.string ⟨name.toArray⟩)/\W'.cell? ⟨w.heap.size+1+1,3,none⟩=some (.slice fa.t.a 2 fa.t.cap) /\
   W'.cell? ⟨fa.t.b,fa.t.o,none⟩=some (.int .i64 t.kind)/\W'.cell? ⟨fa.t.b,fa.t.o+1,none⟩=some (.string ⟨t.name.toArray⟩)/\W'.cell? ⟨fa.t.b,fa.t.o+2,none⟩=some (.int .i64 t.n) /\
   W'.cell? ⟨fa.t.b,fa.t.o+3,none⟩=some (.int .i64 u.kind)/\W'.cell? ⟨fa.t.b,fa.t.o+3+1,none⟩=some (.string ⟨u.name.toArray⟩)/\W'.cell? ⟨fa.t.b,fa.t.o+3+2,none⟩=some (.int .i64 u.n)) :=
  Lh (fun W' hW=>by
   have hw:Below w.heap.size w W':=hb.trans (hW.mono hb.size)
   have c1:=(hW.block w.heap.size (gS hb1).1).trans hb1
   have c2:=(hW.block (w.heap.size+1) (gS hb2).1).trans hb2
   have c3:=(hW.block (w.heap.size+1+1) (gS hb3).1).trans hb3
   have hl:=q3 W' ((hw.block _ (gS q2).1).trans q2) (.string ⟨name.toArray⟩) ⟨_,hnl,rfl⟩
   simp only [keyBs_str,hgs] at hl
   refine ⟨(hw.cell (World.block_lt_of_cell? w _ q1)).trans q1,hl,cH c1 rfl,cH c1 rfl,cH c1 rfl,cH c1 rfl,cH c1 rfl,cH c1 rfl,cH c2 rfl,cH c3 rfl,cH c3 rfl,?_,?_,?_,?_,?_,?_⟩
   ·exact (hw.cell (p:=⟨fa.t.b,fa.t.o,none⟩) tb).trans t0
   ·exact (hw.cell (p:=⟨fa.t.b,fa.t.o+1,none⟩) tb).trans t1
   ·exact (hw.cell (p:=⟨fa.t.b,fa.t.o+2,none⟩) tb).trans t2
   ·exact (hw.cell (p:=⟨fa.t.b,fa.t.o+3,none⟩) tb).trans u0
   ·exact (hw.cell (p:=⟨fa.t.b,fa.t.o+3+1,none⟩) tb).trans u1
   ·exact (hw.cell (p:=⟨fa.t.b,fa.t.o+3+2,none⟩) tb).trans u2)
 have HB:=Lh hb
 have hmf:∀ (fn:Fn) (first cap:Array Value) (w:World),(Instr.makeFunc fn first cap).run Tryz.prog w=.ok (.func fn first cap) w:=fun _ _ _ _=>rfl
 clear hg hx hc hv hb hb1 hb2 hb3 hr hgs hca g1 g4 tb t0 t1 t2 u0 u1 u2 q1 q2 q3
 unfold stV at HV1 HV2 ⊢
 generalize valueF s env t=va at HV1 HCA ⊢
 generalize valueF s env u=vb at HV2 HCA ⊢
 generalize cmpHolds name va vb=res at HCA ⊢
 simp only [hdW,ndV,FrmA.cells,SlA.val,Frm.kind,Frm.name,Frm.n,Frm.terms,Frm.binds,Frm.l,List.length_cons,List.length_nil,Nat.zero_add,Nat.reduceAdd,ta] at HB HK ⊢
 go_enter Tryz.func56,Tryz.ntmps56
 go_wp2_with fail
 go_region_held3 (fun w'=>w'.cell? ⟨0,0,none⟩=some (.map (some mb))/\(Instr.lookup 168 (.map (some mb)) (.string ⟨name.toArray⟩) false).run Tryz.prog w'=.ok (.func (.func gs) #[] #[]) w'/\w'.cell? ⟨w.heap.size,0,none⟩=some (.slice x.slots.a s.slots.length x.slots.cap)/\w'.cell? ⟨w.heap.size,1,none⟩=some (.slice x.rooms.a s.rooms.length x.rooms.cap)/\w'.cell? ⟨w.heap.size,2,none⟩=some (.slice x.people.a s.people.length x.people.cap)/\w'.cell? ⟨w.heap.size,3,none⟩=some (.slice x.groups.a s.groups.length x.groups.cap)/\w'.cell? ⟨w.heap.size,4,none⟩=some (.slice x.lessons.a s.lessons.length x.lessons.cap)/\w'.cell? ⟨w.heap.size,5,none⟩=some (.slice y.a l.length y.cap)/\w'.cell? ⟨w.heap.size+1,0,none⟩=some (.slice z.a env.length z.cap)/\w'.cell? ⟨w.heap.size+1+1,1,none⟩=some (.string ⟨name.toArray⟩)/\w'.cell? ⟨w.heap.size+1+1,3,none⟩=some (.slice (some ⟨fa.t.b,fa.t.o,none⟩) 2 fa.t.cap)/\w'.cell? ⟨fa.t.b,fa.t.o,none⟩=some (.int .i64 t.kind)/\w'.cell? ⟨fa.t.b,fa.t.o+1,none⟩=some (.string ⟨t.name.toArray⟩)/\w'.cell? ⟨fa.t.b,fa.t.o+2,none⟩=some (.int .i64 t.n)/\w'.cell? ⟨fa.t.b,fa.t.o+3,none⟩=some (.int .i64 u.kind)/\w'.cell? ⟨fa.t.b,fa.t.o+3+1,none⟩=some (.string ⟨u.name.toArray⟩)/\w'.cell? ⟨fa.t.b,fa.t.o+3+2,none⟩=some (.int .i64 u.n)) ((refine HK.out _ ?_;first | exact HN2.out | exact HN1.out | exact (Below.refl _ _).drew | fail)) (first
  | (go_at_call 107;refine (HV2.out _ (HB.out.trans (HN1.out.mono HB.out.size))).mono ?_;rintro e w2 ⟨rfl,hbb⟩;have HN2:=Lh (HN1.out.trans (hbb.mono HN1.out.size));clear hbb)
  | (go_at_call 107;refine (HV1.out _ HB.out.drew).mono ?_;rintro e w1 ⟨rfl,hbb⟩;have HN1:=Lh (Below.trans (Below.drew (Below.refl _ _)) hbb);clear hbb)
  | (go_at_call 106;refine (compare_any va vb _).mono ?_;rintro e w3 ⟨rfl,rfl⟩)
  | (refine (HCA.out _).mono ?_;rintro e w3 ⟨rfl,rfl⟩))
 all_goals
  go_wp2_with fail
  go_ret
  exact ⟨rfl,HB.out.trans (HN2.out.mono HB.out.size)⟩
end Go.Proofs.YtjjkfgjnadaheaaGreatDoor
/- eval.holds: atoms. -/
namespace Go.Proofs.YtjjkfgjnadaheaaGreatDoor
open Go.RowKit Go.Chalk
theorem holds_atom (s:Schl) (x:SchA) (l:List Plc) (y:SlA) (env:List Ev) (z:SlA) (kind:Int) (name:Bs) (n:Int) (t u:Trm) (binds:List Bnd) (fl:List Frm) (fa:FrmA) (w:World) (hk:3<=kind/\kind<=8) (hg:GG w) (hx:SlIn w (·<w.heap.size) ([t,u].map Trm.toD) fa.t)
  (hs:SchIn w (·<w.heap.size) s x) (hf:SchFit s) (hy:SlIn w (·<w.heap.size) (l.map Plc.toD) y) (ha:kind=3∨kind=4->0<=(evOf env t.name).at_/\(evOf env t.name).at_<l.length)
  (hv:∀ c∈[t,u],∀ W,Below w.heap.size w W->Calls Tryz.prog 108 #[.slice z.a env.length z.cap,.agg #[.int .i64 c.kind,.string ⟨c.name.toArray⟩,.int .i64 c.n]] W fun e w'=>e=.returned (.int .i64 (evOf env c.name).at_)/\Below W.heap.size W w') :
  Calls Tryz.prog 56 #[stV s x l y,.slice z.a env.length z.cap,ndV (.mk kind name n [t,u] binds fl,fa)] w fun e w'=>e=.returned (.bool (holdsF s l env (.mk kind name n [t,u] binds fl)))/\Below w.heap.size w w':=by
 have hb:=hdW_below w s x l y env z (.mk kind name n [t,u] binds fl) fa
 obtain ⟨hb1,hb2,hb3⟩:=hdW_box w s x l y env z (.mk kind name n [t,u] binds fl) fa
 have hr:holdsF s l env (.mk kind name n [t,u] binds fl)=atomHolds s l kind (evOf env t.name).at_ (evOf env u.name).at_:=by rw [holdsF_two,if_neg (by omega),if_neg (by omega),if_neg (by omega)]
 rw [hr]
 obtain ⟨gs,hgs,hen,hca⟩:=atom_call kind hk
 obtain ⟨g1,_,_,g4,_⟩:=hx.flat Trm.flatT
 obtain ⟨ta,tb⟩:=g1 (by simp)
 obtain ⟨t0,t1,t2⟩:=g4.three 0 (by simp) rfl
 obtain ⟨u0,u1,u2⟩:=g4.three 1 (by simp) rfl
 obtain ⟨mb,mo,q1,q2,q3⟩:=hg.atoms
 have HV1:=Lh (hv t (by simp))
 have HV2:=Lh (hv u (by simp))
 have HCA:=Lh (fun (W:World) (hW:Below w.heap.size w W)=>hca s x l y (evOf env t.name).at_ (evOf env u.name).at_ W (hs.later hW hW.size) hf (hy.later hW hW.size) ha)
 simp only [List.getElem_cons_zero,List.getElem_cons_succ,Nat.zero_mul,Nat.add_zero,Nat.one_mul] at t0 t1 t2 u0 u1 u2
 have HK:Hid (∀ W',Below (hdW w s x l y env z (.mk kind name n [t,u] binds fl) fa).heap.size (hdW w s x l y env z (.mk kind name n [t,u] binds fl) fa) W' ->       W'.cell? ⟨w.heap.size,0,none⟩=some (.slice x.slots.a s.slots.length x.slots.cap)/\W'.cell? ⟨w.heap.size,1,none⟩=some (.slice x.rooms.a s.rooms.length x.rooms.cap)/\W'.cell? ⟨w.heap.size,2,none⟩=some (.slice x.people.a s.people.length x.people.cap)/\W'.cell? ⟨w.heap.size,3,none⟩=some (.slice x.groups.a s.groups.length x.groups.cap)/\W'.cell? ⟨w.heap.size,4,none⟩=some (.slice x.lessons.a s.lessons.length x.lessons.cap)/\W'.cell? ⟨w.heap.size,5,none⟩=some (.slice y.a l.length y.cap) /\
   W'.cell? ⟨w.heap.size+1,0,none⟩=some (.slice z.a env.length z.cap)/\W'.cell? ⟨w.heap.size+1+1,3,none⟩=some (.slice fa.t.a 2 fa.t.cap) /\
   W'.cell? ⟨fa.t.b,fa.t.o,none⟩=some (.int .i64 t.kind)/\W'.cell? ⟨fa.t.b,fa.t.o+1,none⟩=some (.string ⟨t.name.toArray⟩)/\W'.cell? ⟨fa.t.b,fa.t.o+2,none⟩=some (.int .i64 t.n) /\
   W'.cell? ⟨fa.t.b,fa.t.o+3,none⟩=some (.int .i64 u.kind)/\W'.cell? ⟨fa.t.b,fa.t.o+3+1,none⟩=some (.string ⟨u.name.toArray⟩)/\W'.cell? ⟨fa.t.b,fa.t.o+3+2,none⟩=some (.int .i64 u.n)) :=
  Lh (fun W' hW=>by
   have hw:Below w.heap.size w W':=hb.trans (hW.mono hb.size)
   have c1:=(hW.block w.heap.size (gS hb1).1).trans hb1
   have c2:=(hW.block (w.heap.size+1) (gS hb2).1).trans hb2
   have c3:=(hW.block (w.heap.size+1+1) (gS hb3).1).trans hb3
   refine ⟨cH c1 rfl,cH c1 rfl,cH c1 rfl,cH c1 rfl,cH c1 rfl,cH c1 rfl,cH c2 rfl,cH c3 rfl,?_,?_,?_,?_,?_,?_⟩
   ·exact (hw.cell (p:=⟨fa.t.b,fa.t.o,none⟩) tb).trans t0
   ·exact (hw.cell (p:=⟨fa.t.b,fa.t.o+1,none⟩) tb).trans t1
   ·exact (hw.cell (p:=⟨fa.t.b,fa.t.o+2,none⟩) tb).trans t2
   ·exact (hw.cell (p:=⟨fa.t.b,fa.t.o+3,none⟩) tb).trans u0
   ·exact (hw.cell (p:=⟨fa.t.b,fa.t.o+3+1,none⟩) tb).trans u1
   ·exact (hw.cell (p:=⟨fa.t.b,fa.t.o+3+2,none⟩) tb).trans u2)
 have HB:=Lh hb
 have hm0:=(hb.cell (World.block_lt_of_cell? w _ q1)).trans q1
 have hl:=q3 (hdW w s x l y env z (.mk kind name n [t,u] binds fl) fa) ((hb.block _ (gS q2).1).trans q2) (.int .i64 kind) ⟨_,(show I64 kind by unfold I64;omega),rfl⟩
 have hkd:(decide (3<=kind)&&decide (kind<=8))=true:=by simp;omega
 replace hl:=hl.trans (show Result.ok (Value.tuple #[atomFn kind,.bool (decide (3<=kind)&&decide (kind<=8))]) _=Result.ok (Value.tuple #[.func (.func gs) #[] #[],.bool true]) _ by rw [hgs,hkd])
 have k1:(kind==1)=false:=by simp;omega
 have k2:(kind==2)=false:=by simp;omega
 have k9:(kind==9)=false:=by simp;omega
 have k10:(kind==10)=false:=by simp;omega
 have k11:(kind==11)=false:=by simp;omega
 have k12:(kind==12)=false:=by simp;omega
 have k13:(kind==13)=false:=by simp;omega
 have hmf:∀ (fn:Fn) (first cap:Array Value) (w:World),(Instr.makeFunc fn first cap).run Tryz.prog w=.ok (.func fn first cap) w:=fun _ _ _ _=>rfl
 clear hg hx hs hf hy ha hk hkd hv hb hb1 hb2 hb3 hr hgs hca g1 g4 tb t0 t1 t2 u0 u1 u2 q1 q2 q3
 unfold stV at HCA ⊢
 generalize (evOf env t.name).at_=va at HV1 HCA ⊢
 generalize (evOf env u.name).at_=vb at HV2 HCA ⊢
 generalize atomHolds s l kind va vb=res at HCA ⊢
 simp only [hdW,ndV,FrmA.cells,SlA.val,Frm.kind,Frm.name,Frm.n,Frm.terms,Frm.binds,Frm.l,List.length_cons,List.length_nil,Nat.zero_add,Nat.reduceAdd,ta] at HB HK hl hm0 ⊢
 go_enter Tryz.func56,Tryz.ntmps56
 go_wp2_with fail
 go_region_held3 (fun w'=>w'.cell? ⟨w.heap.size,0,none⟩=some (.slice x.slots.a s.slots.length x.slots.cap)/\w'.cell? ⟨w.heap.size,1,none⟩=some (.slice x.rooms.a s.rooms.length x.rooms.cap)/\w'.cell? ⟨w.heap.size,2,none⟩=some (.slice x.people.a s.people.length x.people.cap)/\w'.cell? ⟨w.heap.size,3,none⟩=some (.slice x.groups.a s.groups.length x.groups.cap)/\w'.cell? ⟨w.heap.size,4,none⟩=some (.slice x.lessons.a s.lessons.length x.lessons.cap)/\w'.cell? ⟨w.heap.size,5,none⟩=some (.slice y.a l.length y.cap)/\w'.cell? ⟨w.heap.size+1,0,none⟩=some (.slice z.a env.length z.cap)/\w'.cell? ⟨w.heap.size+1+1,3,none⟩=some (.slice (some ⟨fa.t.b,fa.t.o,none⟩) 2 fa.t.cap)/\w'.cell? ⟨fa.t.b,fa.t.o,none⟩=some (.int .i64 t.kind)/\w'.cell? ⟨fa.t.b,fa.t.o+1,none⟩=some (.string ⟨t.name.toArray⟩)/\w'.cell? ⟨fa.t.b,fa.t.o+2,none⟩=some (.int .i64 t.n)/\w'.cell? ⟨fa.t.b,fa.t.o+3,none⟩=some (.int .i64 u.kind)/\w'.cell? ⟨fa.t.b,fa.t.o+3+1,none⟩=some (.string ⟨u.name.toArray⟩)/\w'.cell? ⟨fa.t.b,fa.t.o+3+2,none⟩=some (.int .i64 u.n)) ((refine HK.out _ ?_;first | exact HN3.out | exact HN2.out | exact HN1.out | exact (Below.refl _ _).drew | fail)) (first
  | (go_at_call 108;refine (HV2.out _ (HB.out.trans (HN1.out.mono HB.out.size))).mono ?_;rintro e w2 ⟨rfl,hbb⟩;have HN2:=Lh (HN1.out.trans (hbb.mono HN1.out.size));clear hbb)
  | (go_at_call 108;refine (HV1.out _ HB.out.drew).mono ?_;rintro e w1 ⟨rfl,hbb⟩;have HN1:=Lh (Below.trans (Below.drew (Below.refl _ _)) hbb);clear hbb)
  | (refine (HCA.out _ (HB.out.trans (HN2.out.mono HB.out.size))).mono ?_;rintro e w3 ⟨rfl,hbb⟩;have HN3:=Lh (HN2.out.trans (hbb.mono HN2.out.size));clear hbb))
 all_goals
  go_wp2_with fail
  go_ret
  exact ⟨rfl,HB.out.trans (HN3.out.mono HB.out.size)⟩
end Go.Proofs.YtjjkfgjnadaheaaGreatDoor
/- eval.holds: quantifiers. -/
namespace Go.Proofs.YtjjkfgjnadaheaaGreatDoor
open Go.RowKit Go.Chalk
attribute [local go_sem] Oper.semAt_some
theorem holds_quant (s:Schl) (x:SchA) (l:List Plc) (y:SlA) (env:List Ev) (z:SlA) (kind:Int) (name:Bs) (n:Int) (binds:List Bnd) (g:Frm) (fa:FrmA) (w:World) (hk:14<=kind/\kind<=17) (hg:GG w) (hI:ItoaAt) (hs:SchIn w (·<w.heap.size) s x) (hf:SchSmall s)
  (hx:FrmIn w (·<w.heap.size) (.mk kind name n [] binds [g]) fa) (hz:SlIn w (·<w.heap.size) (env.map Ev.toD) z) (hlen:env.length+binds.length<=2000000) (hmany:(tuplesF (sizesF s binds)).length<=1048576)
  (ih:∀ (t:List Nat) (ht:t∈tuplesF (sizesF s binds)) (y1:FrmA) (z1:SlA) (W:World),Below w.heap.size w W->FrmIn w (·<w.heap.size) g y1->SlIn W (·<W.heap.size) ((withF env binds t).map Ev.toD) z1->Calls Tryz.prog 56 #[stV s x l y,.slice z1.a (withF env binds t).length z1.cap,ndV (g,y1)] W fun e w'=>e=.returned (.bool (holdsF s l (withF env binds t) g))/\Below W.heap.size W w') :
  Calls Tryz.prog 56 #[stV s x l y,.slice z.a env.length z.cap,ndV (.mk kind name n [] binds [g],fa)] w fun e w'=>e=.returned (.bool (holdsF s l env (.mk kind name n [] binds [g])))/\Below w.heap.size w w':=by
 have hb:=hdW_below w s x l y env z (.mk kind name n [] binds [g]) fa
 have hr:holdsF s l env (.mk kind name n [] binds [g])=quantHolds kind n ((tuplesF (sizesF s binds)).countP (fun t=>holdsF s l (withF env binds t) g)) (tuplesF (sizesF s binds)).length:=by
  rw [holdsF_nil,if_neg (by omega),if_neg (by omega),if_neg (by omega),if_neg (by omega),if_neg (by omega),if_neg (by omega)]
  simp only [holdsAt]
 rw [hr]
 obtain ⟨y1,h1,h2⟩:=hx.l.frm 0 (by simp [Frm.l])
 obtain ⟨hla,hlb⟩:=hx.l.at_ (by simp [Frm.l])
 obtain ⟨mb,mo,q1,q2,q3⟩:=hg.atoms
 have hm0:=(hb.cell (World.block_lt_of_cell? w _ q1)).trans q1
 have hl:=q3 (hdW w s x l y env z (.mk kind name n [] binds [g]) fa) ((hb.block _ (gS q2).1).trans q2) (.int .i64 kind) ⟨_,(show I64 kind by unfold I64;omega),rfl⟩
 have hkd:(decide (3<=kind)&&decide (kind<=8))=false:=by simp;omega
 have hat:atomFn kind=.nilFunc:=by unfold atomFn;rw [if_neg (by omega),if_neg (by omega),if_neg (by omega),if_neg (by omega),if_neg (by omega),if_neg (by omega)]
 replace hl:=hl.trans (show Result.ok (Value.tuple #[atomFn kind,.bool (decide (3<=kind)&&decide (kind<=8))]) _=Result.ok (Value.tuple #[.nilFunc,.bool false]) _ by rw [hat,hkd])
 have k1:(kind==1)=false:=by simp;omega
 have k2:(kind==2)=false:=by simp;omega
 have k9:(kind==9)=false:=by simp;omega
 have k10:(kind==10)=false:=by simp;omega
 have k11:(kind==11)=false:=by simp;omega
 have k12:(kind==12)=false:=by simp;omega
 have k13:(kind==13)=false:=by simp;omega
 have HB:=Lh hb
 have hmf:∀ (fn:Fn) (first cap:Array Value) (w:World),(Instr.makeFunc fn first cap).run Tryz.prog w=.ok (.func fn first cap) w:=fun _ _ _ _=>rfl
 have HET:=Lh (fun (W:World) (hW:Below w.heap.size w W)=>etuples_any s x binds fa.b W hI (hs.later hW hW.size) hf (hx.binds.later hW hW.size) (by omega))
 unfold stV at ih ⊢
 have HIH:=Lh ih
 have HX:=Lh hx
 have HZ:=Lh hz
 have HK:=Lh hk
 have HL:=Lh hlen
 clear hg hx hs hf hz hk hkd hat ih hr q1 q2 q3 hI
 simp only [hdW,ndV,FrmA.cells,SlA.val,Frm.kind,Frm.name,Frm.n,Frm.terms,Frm.binds,Frm.l,List.length_cons,List.length_nil,Nat.zero_add,Nat.reduceAdd,SchA.cells,hla] at HB hl hm0 HET ⊢
 have HLB:=Lh (aI h2 hlb)
 clear hlb h2 hla
 refine (callsIn_wide (n:=0)).1 (callsIn_of_wp_marks Tryz.func56 rfl trivial ?_)
 simp only [Tryz.ntmps56,List.size_toArray,List.length_cons,List.length_nil,Nat.reduceAdd,Nat.reduceSub,Array.replicate_succ,Array.replicate_zero,List.push_toArray,List.append_toArray,List.nil_append,List.cons_append]
 gi_wp2_with fail
 refine ⟨trivial,rfl,?_⟩
 generalize hW5:(((((w.alloc _).alloc _).alloc _).alloc _).alloc _)=W5
 have hsz:W5.heap.size=w.heap.size+5:=by rw [<- hW5];simp
 have hb5:Below w.heap.size w W5:=by rw [<- hW5];exact (((((Below.refl _ _).alloc (Nat.le_refl _) _).alloc (by simp) _).alloc (by simp;omega) _).alloc (by simp;omega) _).alloc (by simp;omega) _
 have g0:W5.heap[w.heap.size]?=some (.cells #[.slice x.slots.a s.slots.length x.slots.cap,.slice x.rooms.a s.rooms.length x.rooms.cap,.slice x.people.a s.people.length x.people.cap,.slice x.groups.a s.groups.length x.groups.cap,.slice x.lessons.a s.lessons.length x.lessons.cap,.slice y.a l.length y.cap] 105 (0,0)):=by rw [<- hW5];simp only [heap_get,World.size_alloc];repeat (first | rw [if_pos trivial] | rw [if_pos (by omega)] | rw [if_neg (by omega)])
 have g1:W5.heap[w.heap.size+1]?=some (.cells #[.slice z.a env.length z.cap] 29 (0,0)):=by rw [<- hW5];simp only [heap_get,World.size_alloc];repeat (first | rw [if_pos trivial] | rw [if_pos (by omega)] | rw [if_neg (by omega)])
 have g2:W5.heap[w.heap.size+1+1]?=some (.cells #[.int .i64 kind,.string ⟨name.toArray⟩,.int .i64 n,.slice fa.t.a 0 fa.t.cap,.slice fa.b.a binds.length fa.b.cap,.slice (some ⟨fa.l.b,fa.l.o,none⟩) 1 fa.l.cap] 34 (0,0)):=by rw [<- hW5];simp only [heap_get,World.size_alloc];repeat (first | rw [if_pos trivial] | rw [if_pos (by omega)] | rw [if_neg (by omega)])
 have g3:W5.heap[w.heap.size+1+1+1]?=some (.cells #[.int .i64 0] 3 (0,0)):=by rw [<- hW5];simp only [heap_get,World.size_alloc];repeat (first | rw [if_pos trivial] | rw [if_pos (by omega)] | rw [if_neg (by omega)])
 have g4:W5.heap[w.heap.size+1+1+1+1]?=some (.cells #[.int .i64 0] 3 (0,0)):=by rw [<- hW5];simp only [heap_get,World.size_alloc];repeat (first | rw [if_pos trivial] | rw [if_pos (by omega)] | rw [if_neg (by omega)])
 refine (callsIn_wide.2 (HET.out W5 hb5)).mono ?_
 rintro e w6 ⟨sb,lb,rfl,hit,hb6⟩
 have k0:∀ {k:Nat} {o:Obj},W5.heap[k]?=some o->w6.heap[k]?=some o:=fun h=>(hb6.block _ (gS h).1).trans h
 have G:Hid (W5.heap.size=w.heap.size+5/\W5.heap.size<=w6.heap.size/\Below w.heap.size w w6/\w6.heap[w.heap.size]?=some _/\w6.heap[w.heap.size+1]?=some _/\w6.heap[w.heap.size+1+1]?=some _/\w6.heap[w.heap.size+1+1+1]?=some _/\w6.heap[w.heap.size+1+1+1+1]?=some _):=Lh ⟨hsz,hb6.size,hb5.trans (hb6.mono hb5.size),k0 g0,k0 g1,k0 g2,k0 g3,k0 g4⟩
 have HIT:=Lh hit
 clear hsz hb5 g0 g1 g2 g3 g4 k0 hit hb6 hW5 HET hb hl hm0
 gi_wp2_with fail
 -- THE RANGE
 refine wp_rangeV_fx (gf:=181) (lb:=#[.pointer (some ⟨sb,0,none⟩),.pointer (some ⟨lb,0,none⟩)]) rfl (enters_of Tryz.func181 (by kernel_rfl) rfl)
  HIT.out rfl (fun k=>k=w.heap.size+1+1+1∨k=w.heap.size+1+1+1+1) (fun k hk=>by have:=G.out.1;omega) (fun k hk=>by have:=G.out.1;have:=G.out.2.1;omega)
  (fun i W=>W.heap[w.heap.size+1+1+1]?=some (.cells #[.int .i64 (((tuplesF (sizesF s binds)).take i).countP (fun t=>holdsF s l (withF env binds t) g))] 3 (0,0))/\W.heap[w.heap.size+1+1+1+1]?=some (.cells #[.int .i64 i] 3 (0,0)))
  (fun c i W=>False)
  ?hI ?hIx ⟨G.out.2.2.2.2.2.2.1,G.out.2.2.2.2.2.2.2⟩ (fun lp i a' W=>∃ (z1:SlA) (S:Nat->Prop),(∀ k,S k->k ≠ lp/\k<W.heap.size/\¬ (k=w.heap.size+1+1+1∨k=w.heap.size+1+1+1+1))/\SlIn W S (dints (nats ((tuplesF (sizesF s binds))[i]?.getD []))) z1/\a' = { tmps:=#[Value.agg #[Value.slice x.slots.a s.slots.length x.slots.cap,Value.slice x.rooms.a s.rooms.length x.rooms.cap,Value.slice x.people.a s.people.length x.people.cap,Value.slice x.groups.a s.groups.length x.groups.cap,Value.slice x.lessons.a s.lessons.length x.lessons.cap,Value.slice y.a l.length y.cap],Value.slice z.a env.length z.cap,Value.agg #[Value.int IntKind.i64 kind,Value.string { data:=List.toArray name },Value.int IntKind.i64 n,Value.slice fa.t.a 0 fa.t.cap,Value.slice fa.b.a binds.length fa.b.cap,Value.slice (some { block:=fa.l.b,off:=fa.l.o }) 1 fa.l.cap],Value.pointer (some { block:=w.heap.size,off:=0 }),Value.pointer (some { block:=w.heap.size+1,off:=0 }),Value.pointer (some { block:=w.heap.size+1+1,off:=0 }),Value.bool false,Value.func (Fn.func 105) #[] #[Value.pointer (some { block:=w.heap.size,off:=0 }),Value.pointer (some { block:=w.heap.size+1,off:=0 }),Value.pointer (some { block:=w.heap.size+1+1,off:=0 })],Value.nilFunc,Value.bool false,Value.pointer (some { block:=w.heap.size+1+1+1,off:=0 }),Value.pointer (some { block:=w.heap.size+1+1+1+1,off:=0 }),.slice z1.a binds.length z1.cap,Value.func (Fn.func 105) #[] #[Value.pointer (some { block:=w.heap.size,off:=0 }),Value.pointer (some { block:=w.heap.size+1,off:=0 }),Value.pointer (some { block:=w.heap.size+1+1,off:=0 })],Value.pointer (some { block:=w.heap.size+1+1,off:=0 }),Value.int IntKind.i64 kind,Value.bool false,Value.bool false,Value.bool false,undef,undef,undef,Value.bool false,Value.bool false,undef,undef,undef,undef,undef,undef,undef,undef,undef,undef,undef,undef,undef,undef,undef,undef,undef,undef,undef,undef,Value.bool false,Value.bool false,undef,undef,undef,Value.bool false,Value.bool false,undef,undef,undef,undef,undef,undef,Value.bool false,Value.bool false,undef,undef,undef,undef,undef,undef,Value.bool false,Value.bool false,undef,undef,undef,undef,undef,undef,undef,Value.tuple #[Value.nilFunc,Value.bool false],Value.map (some mb),Value.pointer (some { block:=w.heap.size+1+1,off:=0 }),Value.int IntKind.i64 kind,Value.tuple #[Value.nilFunc,Value.bool false],Value.nilFunc,Value.bool false,Value.bool false,undef,undef,undef,undef,undef,undef,undef,undef,undef,undef,undef,undef,undef,undef,undef,Value.pointer (some { block:=w.heap.size,off:=0 }),Value.agg #[Value.slice x.slots.a s.slots.length x.slots.cap,Value.slice x.rooms.a s.rooms.length x.rooms.cap,Value.slice x.people.a s.people.length x.people.cap,Value.slice x.groups.a s.groups.length x.groups.cap,Value.slice x.lessons.a s.lessons.length x.lessons.cap],Value.pointer (some { block:=w.heap.size+1+1,off:=4 }),Value.slice fa.b.a binds.length fa.b.cap,Value.func (Fn.func 181) #[] #[Value.pointer (some { block:=sb,off:=0 }),Value.pointer (some { block:=lb,off:=0 })],.slice z1.a binds.length z1.cap,undef,undef,undef,undef,undef,undef,undef,undef,undef,undef,undef,undef,undef,undef,undef,undef,undef,undef,undef,undef,undef,undef,undef,undef,undef,undef,undef,undef,undef,undef,undef,undef,undef,undef,undef,undef],defers:=[] }) ?hAx ?assign ?body ?done ?stop
 case hI=>exact (FixStab.box (T:=fun k=>k=w.heap.size+1+1+1∨k=w.heap.size+1+1+1+1) (B:=w.heap.size+1+1+1) (o:=fun i=>.cells #[.int .i64 (((tuplesF (sizesF s binds)).take i).countP (fun t=>holdsF s l (withF env binds t) g))] 3 (0,0)) (.inl rfl)).and (FixStab.box (T:=fun k=>k=w.heap.size+1+1+1∨k=w.heap.size+1+1+1+1) (B:=w.heap.size+1+1+1+1) (o:=fun i=>.cells #[.int .i64 i] 3 (0,0)) (.inr rfl))
 case hIx=>exact fun c i A B S h hm hS=>h
 case hAx=>exact fun lp i a' A B ⟨z1,S,h1,h2,h3⟩ hm=>⟨z1,S,fun k hk=>⟨(h1 k hk).1,Nat.lt_of_lt_of_le (h1 k hk).2.1 hm.size,(h1 k hk).2.2⟩,h2.agree (hm.agree (fun k hk=>⟨(h1 k hk).2.1,(h1 k hk).1⟩)),h3⟩
 case assign =>
  rintro lp i v S W K hi ⟨z1,rfl,hz1⟩ hv hS hm hI hlt hK
  have HA:=Lh (aI hI (aI hz1 hS))
  have HKK:=Lh hK
  have hsl:(sizesF s binds).length=binds.length:=by simp [sizesF]
  rw [hsl]
  clear hK hI hz1 hS hv hsl
  simp only [SlA.val]
  gi_wp2_with fail
  exact HKK.out _ _ (Chalk.Mod.refl _ _) HA.out.1 ⟨z1,S,fun k hk=>⟨(HA.out.2.2 k hk).2.2.2,(HA.out.2.2 k hk).2.1,(HA.out.2.2 k hk).2.2.1⟩,HA.out.2.1,rfl⟩
 case body =>
  rintro lp i a' W hi hm ⟨hn,ha⟩ ⟨z1,S,hS,hz1,rfl⟩ hT hwl hnl
  have hbW:Below w.heap.size w W:=G.out.2.2.1.trans (hm.below (by have:=G.out.1;have:=G.out.2.1;omega) (fun k hk=>by omega))
  have f0:=heap_kept G.out.2.2.2.1 hm (by omega)
  have f1:=heap_kept G.out.2.2.2.2.1 hm (by omega)
  have f2:=heap_kept G.out.2.2.2.2.2.1 hm (by omega)
  have q0:W.cell? ⟨w.heap.size+1+1+1+1,0,none⟩=some (.int .i64 i):=cH ha rfl
  have q1:W.frozen? ⟨w.heap.size+1+1+1+1,0,none⟩=false:=fH ha
  have hib:(i:Int)<1048576:=by omega
  have HM:=Lh (aI hm (aI hbW (aI hn (aI ha (aI f0 (aI f1 f2))))))
  have HS1:=Lh (aI hS hz1)
  have HI0:=Lh hi
  clear hm hn ha hS hz1 hbW f0 f1 f2 hi hT hwl hnl
  gi_wp2_with fail
  obtain ⟨W1,hW1⟩:∃ W1,W1=W.setCell ⟨w.heap.size+1+1+1+1,0,none⟩ (.int .i64 ((i:Int)+1)):=⟨_,rfl⟩
  rw [<- hW1]
  have m1:Chalk.Mod (fun k=>k=w.heap.size+1+1+1∨k=w.heap.size+1+1+1+1) W W1:=by rw [hW1];exact (Chalk.Mod.refl (fun k=>k=w.heap.size+1+1+1∨k=w.heap.size+1+1+1+1) _).setCell (p:=⟨w.heap.size+1+1+1+1,0,none⟩) (fun _=>.inr rfl) _
  have m2:Chalk.Mod (fun k=>k=w.heap.size+1+1+1+1) W W1:=by rw [hW1];exact (Chalk.Mod.refl (fun k=>k=w.heap.size+1+1+1+1) _).setCell (p:=⟨w.heap.size+1+1+1+1,0,none⟩) (fun _=>rfl) _
  have a1:W1.heap[w.heap.size+1+1+1+1]?=some (.cells #[.int .i64 ((i+1:Nat):Int)] 3 (0,0)):=by rw [hW1,box_store _ HM.out.2.2.2.1];rfl
  have n1:=heap_kept HM.out.2.2.1 m2 (by omega)
  have e0:=heap_kept HM.out.2.2.2.2.1 m1 (by omega)
  have e1:=heap_kept HM.out.2.2.2.2.2.1 m1 (by omega)
  have e2:=heap_kept HM.out.2.2.2.2.2.2 m1 (by omega)
  have hbW1:Below w.heap.size w W1:=HM.out.2.1.trans (m1.below (by have:=HM.out.2.1.size;omega) (fun k hk=>by omega))
  have hzz:SlIn W1 (·<W1.heap.size) (dints (nats ((tuplesF (sizesF s binds))[i]?.getD []))) z1:=(HS1.out.2.agree (m1.agree (fun k hk=>⟨(HS1.out.1 k hk).2.1,(HS1.out.1 k hk).2.2⟩))).mono (fun k hk=>Nat.lt_of_lt_of_le (HS1.out.1 k hk).2.1 m1.size)
  have hgt:(tuplesF (sizesF s binds))[i]?.getD []=(tuplesF (sizesF s binds))[i]'HI0.out:=by rw [List.getElem?_eq_getElem HI0.out];rfl
  have hmem:(tuplesF (sizesF s binds))[i]'HI0.out∈tuplesF (sizesF s binds):=List.getElem_mem _
  have hcn:((((tuplesF (sizesF s binds)).take (i+1)).countP (fun t=>holdsF s l (withF env binds t) g):Nat):Int)=(((tuplesF (sizesF s binds)).take i).countP (fun t=>holdsF s l (withF env binds t) g):Nat)+(if holdsF s l (withF env binds ((tuplesF (sizesF s binds))[i]'HI0.out)) g=true then 1 else 0):=by
   rw [List.take_succ_eq_append_getElem HI0.out,List.countP_append,List.countP_singleton];split <;> simp
  have hcl:((((tuplesF (sizesF s binds)).take i).countP (fun t=>holdsF s l (withF env binds t) g):Nat):Int)<1048576:=by
   have h:=List.countP_le_length (p:=fun t=>holdsF s l (withF env binds t) g) (l:=(tuplesF (sizesF s binds)).take i)
   have h2:=List.length_take_le i (tuplesF (sizesF s binds))
   have:=HI0.out
   omega
  rw [hgt] at hzz
  generalize (tuplesF (sizesF s binds))[i]'HI0.out=t at hzz hmem hcn
  have htl:t.length=binds.length:=((tuples_mem _ _).1 hmem).1.trans (by simp [sizesF])
  have HIV:=Lh (fun (x0:SlA) (W2:World) (hb2:Below W1.heap.size W1 W2) (hx0:SlIn W2 (·<W2.heap.size) ((withF env binds t).map Ev.toD) x0)=>HIH.out t hmem y1 x0 W2 (hbW1.trans (hb2.mono hbW1.size)) h1 hx0)
  have hwt:=with_any env z binds fa.b t z1 W1.drew (HZ.out.later hbW1.drew hbW1.drew.size) (HX.out.binds.later hbW1.drew hbW1.drew.size) (hzz.later (Below.refl _ _).drew (Nat.le_refl _)) HL.out htl
  rw [htl] at hwt
  have HWT:Hid (Calls Tryz.prog 110 #[.slice z.a env.length z.cap,.slice fa.b.a binds.length fa.b.cap,.slice z1.a binds.length z1.cap] W1.drew fun e w'=>∃ x0:SlA,e=.returned (.slice x0.a (withF env binds t).length x0.cap)/\SlIn w' (·<w'.heap.size) ((withF env binds t).map Ev.toD) x0/\Below W1.drew.heap.size W1.drew w'):=Lh (hwt.mono (by
   rintro e w' ⟨v,rfl,hon,hb⟩
   obtain ⟨x0,rfl,hx0⟩:=hon.onto.sl (by rw [widths_map Ev.flatT,List.length_map])
   exact ⟨x0,by rw [List.length_map],hx0,hb⟩))
  have HKS:Hid (∀ W',Below W1.heap.size W1 W'->W'.cell? ⟨w.heap.size,0,none⟩=some (.slice x.slots.a s.slots.length x.slots.cap)/\W'.cell? ⟨w.heap.size,1,none⟩=some (.slice x.rooms.a s.rooms.length x.rooms.cap)/\W'.cell? ⟨w.heap.size,2,none⟩=some (.slice x.people.a s.people.length x.people.cap)/\W'.cell? ⟨w.heap.size,3,none⟩=some (.slice x.groups.a s.groups.length x.groups.cap)/\W'.cell? ⟨w.heap.size,4,none⟩=some (.slice x.lessons.a s.lessons.length x.lessons.cap)/\W'.cell? ⟨w.heap.size,5,none⟩=some (.slice y.a l.length y.cap)/\W'.cell? ⟨w.heap.size+1,0,none⟩=some (.slice z.a env.length z.cap)/\W'.cell? ⟨w.heap.size+1+1,4,none⟩=some (.slice fa.b.a binds.length fa.b.cap)/\W'.cell? ⟨w.heap.size+1+1,5,none⟩=some (.slice (some ⟨fa.l.b,fa.l.o,none⟩) 1 fa.l.cap)/\W'.cell? ⟨fa.l.b,fa.l.o,none⟩=some (.int .i64 g.kind)/\W'.cell? ⟨fa.l.b,fa.l.o+1,none⟩=some (.string ⟨g.name.toArray⟩)/\W'.cell? ⟨fa.l.b,fa.l.o+2,none⟩=some (.int .i64 g.n)/\W'.cell? ⟨fa.l.b,fa.l.o+3,none⟩=some (.slice y1.t.a g.terms.length y1.t.cap)/\W'.cell? ⟨fa.l.b,fa.l.o+4,none⟩=some (.slice y1.b.a g.binds.length y1.b.cap)/\W'.cell? ⟨fa.l.b,fa.l.o+5,none⟩=some (.slice y1.l.a g.l.length y1.l.cap)) :=
   Lh (fun W' hW=>by
    have hw:Below w.heap.size w W':=hbW1.trans (hW.mono hbW1.size)
    have c1:=(hW.block w.heap.size (gS e0).1).trans e0
    have c2:=(hW.block (w.heap.size+1) (gS e1).1).trans e1
    have c3:=(hW.block (w.heap.size+1+1) (gS e2).1).trans e2
    obtain ⟨d0,d1,d2,d3,d4,d5⟩:=(HLB.out.1).six
    simp only [Nat.zero_mul,Nat.add_zero,Frm.l,List.getElem_cons_zero,SlA.val] at d0 d1 d2 d3 d4 d5
    have hlb:=HLB.out.2
    refine ⟨cH c1 rfl,cH c1 rfl,cH c1 rfl,cH c1 rfl,cH c1 rfl,cH c1 rfl,cH c2 rfl,cH c3 rfl,cH c3 rfl,?_,?_,?_,?_,?_,?_⟩
    ·exact (hw.cell (p:=⟨fa.l.b,fa.l.o,none⟩) hlb).trans d0
    ·exact (hw.cell (p:=⟨fa.l.b,fa.l.o+1,none⟩) hlb).trans d1
    ·exact (hw.cell (p:=⟨fa.l.b,fa.l.o+2,none⟩) hlb).trans d2
    ·exact (hw.cell (p:=⟨fa.l.b,fa.l.o+3,none⟩) hlb).trans d3
    ·exact (hw.cell (p:=⟨fa.l.b,fa.l.o+4,none⟩) hlb).trans d4
    ·exact (hw.cell (p:=⟨fa.l.b,fa.l.o+5,none⟩) hlb).trans d5)
  have HN:=Lh (aI hcn (aI hcl (aI n1 (aI a1 m1))))
  clear hgt hmem hcn hcl n1 a1 m1 m2 e0 e1 e2 hbW1 hzz hwt hW1 q0 q1 hib HIH HM HS1
  generalize holdsF s l (withF env binds t) g=pv at HIV HN
  simp only [ndV,FrmA.cells,SlA.val] at HIV
  refine wpIn_round_held (S:=(fun w':World=>w'.cell? ⟨w.heap.size,0,none⟩=some (.slice x.slots.a s.slots.length x.slots.cap)/\w'.cell? ⟨w.heap.size,1,none⟩=some (.slice x.rooms.a s.rooms.length x.rooms.cap)/\w'.cell? ⟨w.heap.size,2,none⟩=some (.slice x.people.a s.people.length x.people.cap)/\w'.cell? ⟨w.heap.size,3,none⟩=some (.slice x.groups.a s.groups.length x.groups.cap)/\w'.cell? ⟨w.heap.size,4,none⟩=some (.slice x.lessons.a s.lessons.length x.lessons.cap)/\w'.cell? ⟨w.heap.size,5,none⟩=some (.slice y.a l.length y.cap)/\w'.cell? ⟨w.heap.size+1,0,none⟩=some (.slice z.a env.length z.cap)/\w'.cell? ⟨w.heap.size+1+1,4,none⟩=some (.slice fa.b.a binds.length fa.b.cap)/\w'.cell? ⟨w.heap.size+1+1,5,none⟩=some (.slice (some ⟨fa.l.b,fa.l.o,none⟩) 1 fa.l.cap)/\w'.cell? ⟨fa.l.b,fa.l.o,none⟩=some (.int .i64 g.kind)/\w'.cell? ⟨fa.l.b,fa.l.o+1,none⟩=some (.string ⟨g.name.toArray⟩)/\w'.cell? ⟨fa.l.b,fa.l.o+2,none⟩=some (.int .i64 g.n)/\w'.cell? ⟨fa.l.b,fa.l.o+3,none⟩=some (.slice y1.t.a g.terms.length y1.t.cap)/\w'.cell? ⟨fa.l.b,fa.l.o+4,none⟩=some (.slice y1.b.a g.binds.length y1.b.cap)/\w'.cell? ⟨fa.l.b,fa.l.o+5,none⟩=some (.slice y1.l.a g.l.length y1.l.cap))) (by kernel_rfl) (by kernel_rfl) (HKS.out _ (Below.refl _ _).drew) (fun hHeld=>?_)
  refine tkA (i:=0) rfl hHeld ?_ (hQ:=plain_put)
  try simp only [Act.put,List.setIfInBounds_toArray,List.set_cons_zero,List.set_cons_succ]
  refine tkA (i:=1) rfl hHeld ?_ (hQ:=plain_put)
  try simp only [Act.put,List.setIfInBounds_toArray,List.set_cons_zero,List.set_cons_succ]
  refine tkA (i:=2) rfl hHeld ?_ (hQ:=plain_put)
  try simp only [Act.put,List.setIfInBounds_toArray,List.set_cons_zero,List.set_cons_succ]
  refine tkA (i:=3) rfl hHeld ?_ (hQ:=plain_put)
  try simp only [Act.put,List.setIfInBounds_toArray,List.set_cons_zero,List.set_cons_succ]
  refine tkA (i:=4) rfl hHeld ?_ (hQ:=plain_put)
  try simp only [Act.put,List.setIfInBounds_toArray,List.set_cons_zero,List.set_cons_succ]
  refine tkA (i:=6) rfl hHeld ?_ (hQ:=plain_put)
  try simp only [Act.put,List.setIfInBounds_toArray,List.set_cons_zero,List.set_cons_succ]
  refine tkA (i:=7) rfl hHeld ?_ (hQ:=plain_put)
  try simp only [Act.put,List.setIfInBounds_toArray,List.set_cons_zero,List.set_cons_succ]
  refine tkA (i:=8) rfl hHeld ?_ (hQ:=plain_put)
  try simp only [Act.put,List.setIfInBounds_toArray,List.set_cons_zero,List.set_cons_succ]
  refine tkA (i:=9) rfl hHeld ?_ (hQ:=plain_put)
  try simp only [Act.put,List.setIfInBounds_toArray,List.set_cons_zero,List.set_cons_succ]
  refine wpAnyH_ready (rs:=[5]) (by kernel_rfl) (by simp) ?_
  refine cons_at rfl (fun K hK=>?_) AllReadyH.nil
  go_simp
  go_at_call 110
  refine (HWT.out).mono ?_
  rintro e w2 ⟨x0,rfl,hx0,hb2⟩
  have HB2:=Lh (aI hx0 (Below.trans (Below.drew (Below.refl _ _)) hb2))
  clear hx0 hb2
  go_simp
  refine hK.out _ _ ?_ (fun hHeld2=>?_)
  ·exact HKS.out _ HB2.out.2
  clear hK K hHeld
  have hHeld:=hHeld2
  clear hHeld2
  try simp only [Act.put,List.setIfInBounds_toArray,List.set_cons_zero,List.set_cons_succ]
  have HIW:=Lh (HIV.out x0 w2 HB2.out.2 HB2.out.1)
  refine wpAnyH_ready (rs:=[10]) (by kernel_rfl) (by simp) ?_
  refine cons_at rfl (fun K hK=>?_) AllReadyH.nil
  go_simp
  go_at_call 56
  refine HIW.out.mono ?_
  rintro e w3 ⟨rfl,hb3⟩
  have HB3:=Lh (HB2.out.2.trans (hb3.mono HB2.out.2.size))
  clear hb3
  go_simp
  refine hK.out _ _ ?_ (fun hHeld2=>?_)
  ·exact HKS.out _ HB3.out
  clear hK K hHeld
  have hHeld:=hHeld2
  clear hHeld2
  try simp only [Act.put,List.setIfInBounds_toArray,List.set_cons_zero,List.set_cons_succ]
  refine wpAnyH_done (by kernel_rfl) ?_ _
  refine ⟨rfl,?_⟩
  have n3:=(HB3.out.block _ (gS HN.out.2.2.1).1).trans HN.out.2.2.1
  have a3:=(HB3.out.block _ (gS HN.out.2.2.2.1).1).trans HN.out.2.2.2.1
  have m3:Chalk.Mod (fun k=>k=w.heap.size+1+1+1∨k=w.heap.size+1+1+1+1) W w3:=HN.out.2.2.2.2.trans (Chalk.Mod.of_below (S:=fun k=>k=w.heap.size+1+1+1∨k=w.heap.size+1+1+1+1) HB3.out) (fun _ _ h=>h)
  have hcn:=HN.out.1
  have hcl:=HN.out.2.1
  generalize List.countP (fun t=>holdsF s l (withF env binds t) g) (List.take i (tuplesF (sizesF s binds)))=cn at n3 hcn hcl
  have q2:w3.cell? ⟨w.heap.size+1+1+1,0,none⟩=some (.int .i64 cn):=cH n3 rfl
  have q3:w3.frozen? ⟨w.heap.size+1+1+1,0,none⟩=false:=fH n3
  have HE:=Lh (aI hcn (aI n3 (aI a3 m3)))
  clear n3 a3 m3 hcn hHeld
  cases pv
  ·gi_wp2_with fail
   refine ⟨HE.out.2.2.2,?_,HE.out.2.2.1⟩
   show w3.heap[w.heap.size+1+1+1]?=_
   rw [HE.out.1,HE.out.2.1];simp
  ·gi_wp2_with fail
   refine ⟨HE.out.2.2.2.setCell (p:=⟨w.heap.size+1+1+1,0,none⟩) (fun _=>.inl rfl) _,?_,?_⟩
   ·show (w3.setCell ⟨w.heap.size+1+1+1,0,none⟩ _).heap[w.heap.size+1+1+1]?=_
    rw [HE.out.1,box_store _ HE.out.2.1];rfl
   ·exact heap_kept HE.out.2.2.1 ((Chalk.Mod.refl (fun k=>k=w.heap.size+1+1+1) _).setCell (p:=⟨w.heap.size+1+1+1,0,none⟩) (fun _=>rfl) _) (by omega)
 case stop=>exact fun _ _ _ _ _ _ _ _ _ _ h _=>h.elim
 case done =>
  rintro D0 W hD0 hDlt hnD hm ⟨hn,ha⟩ hdd
  have f2:=heap_kept G.out.2.2.2.2.2.1 hm (by omega)
  have hbW:Below w.heap.size w W:=G.out.2.2.1.trans (hm.below (by have:=G.out.1;have:=G.out.2.1;omega) (fun k hk=>by omega))
  rw [List.take_length] at hn
  have HH:=Lh (aI hbW (aI hdd (by have:=G.out.1;have:=G.out.2.1;omega:w.heap.size<=D0)))
  obtain ⟨yes,hyes⟩:∃ yes,yes=(tuplesF (sizesF s binds)).countP (fun t=>holdsF s l (withF env binds t) g):=⟨_,rfl⟩
  obtain ⟨all,hall⟩:∃ all,all=(tuplesF (sizesF s binds)).length:=⟨_,rfl⟩
  have HRR:Hid (quantHolds kind n ((tuplesF (sizesF s binds)).countP (fun t=>holdsF s l (withF env binds t) g)) (tuplesF (sizesF s binds)).length=quantHolds kind n yes all):=Lh (by rw [hyes,hall])
  rw [<- hyes] at hn
  rw [<- hall] at ha
  clear hyes hall
  have r0:W.cell? ⟨w.heap.size+1+1+1,0,none⟩=some (.int .i64 yes):=cH hn rfl
  have r1:W.cell? ⟨w.heap.size+1+1+1+1,0,none⟩=some (.int .i64 all):=cH ha rfl
  have r2:W.cell? ⟨w.heap.size+1+1,0,none⟩=some (.int .i64 kind):=cH f2 rfl
  have r3:W.cell? ⟨w.heap.size+1+1,2,none⟩=some (.int .i64 n):=cH f2 rfl
  clear hn ha f2 hbW hm hdd hD0 hDlt hnD
  have hkk:kind=14∨kind=15∨kind=16∨kind=17:=by have:=HK.out;omega
  have fin:∀ (v:Bool) (tm:Array Value) (hv:v=quantHolds kind n yes all),(∀ w,(results Tryz.f56 tm).run Tryz.prog w=.ok (.bool v) w)->LeavesInM Fence.wide 0 Tryz.prog Tryz.f56 tm (fun e w'=>e=.returned (.bool (quantHolds kind n ((tuplesF (sizesF s binds)).countP (fun t=>holdsF s l (withF env binds t) g)) (tuplesF (sizesF s binds)).length))/\Below w.heap.size w w') [{ target:=.collected D0,args:=#[] }] .returning W:=fun v tm hv hres=>by
   subst hv
   rw [HRR.out]
   exact leaves_marks (v:=.bool (quantHolds kind n yes all)) [D0] W hres (by simp) (fun d hd=>by simp at hd;subst hd;exact HH.out.2.1) (fun W' hm'=>⟨rfl,HH.out.1.trans (hm'.below HH.out.1.size (fun k hk=>by have:=HH.out.2.2;simp at hk;omega))⟩)
  have FIN:=Lh fin
  clear fin
  rcases hkk with rfl | rfl | rfl | rfl
  ·gi_wp2_with fail
   refine FIN.out ((yes:Int)==(all:Int)) _ ?_ (fun w=>by simp [results,Tryz.results56,go_sem])
   unfold quantHolds
   rw [Bool.eq_iff_iff]
   simp
   try omega
  ·gi_wp2_with fail
   refine FIN.out (decide ((0:Int)<(yes:Int))) _ ?_ (fun w=>by simp [results,Tryz.results56,go_sem])
   unfold quantHolds
   rw [Bool.eq_iff_iff]
   simp
   try omega
  ·gi_wp2_with fail
   refine FIN.out (decide (n<=(yes:Int))) _ ?_ (fun w=>by simp [results,Tryz.results56,go_sem])
   unfold quantHolds
   rw [Bool.eq_iff_iff]
   simp
   try omega
  ·gi_wp2_with fail
   refine FIN.out (decide ((yes:Int)<=n)) _ ?_ (fun w=>by simp [results,Tryz.results56,go_sem])
   unfold quantHolds
   rw [Bool.eq_iff_iff]
   simp
   try omega
end Go.Proofs.YtjjkfgjnadaheaaGreatDoor
/- eval.holds: whole. -/
namespace Go.Chalk
open Go.RowKit
theorem cmpWalk_zero {a:List Bnd} {name:Bs} {t u:Trm} (h:cmpWalk a name t u=0):(sortF a t).2=0/\(sortF a u).2=0:=by
 unfold cmpWalk at h
 by_cases h1:(sortF a t).2=0
 ·by_cases h2:(sortF a u).2=0
  ·exact ⟨h1,h2⟩
  ·rw [if_neg (by simpa using h1),if_pos h2] at h;exact absurd h h2
 ·rw [if_pos h1] at h;exact absurd h h1
theorem atomWalk_zero {a:List Bnd} {kind:Int} {t u:Trm} (h:atomWalk a kind t u=0):(sortF a t).2=0/\(sortF a t).1=(asksF kind).1/\(sortF a u).2=0:=by
 unfold atomWalk at h
 by_cases h1:(sortF a t).2=0
 ·rw [if_neg (by simpa using h1)] at h
  by_cases h2:(sortF a t).1=(asksF kind).1
  ·rw [if_neg (by simpa using h2)] at h
   by_cases h3:(sortF a u).2=0
   ·exact ⟨h1,h2,h3⟩
   ·rw [if_pos h3] at h;exact absurd h h3
  ·rw [if_pos h2] at h;cases h
 ·rw [if_pos h1] at h;exact absurd h h1
theorem formed_atom_var {kind:Int} {name:Bs} {n:Int} {terms:List Trm} {binds:List Bnd} {l:List Frm} (h:formedF (.mk kind name n terms binds l)=true) (hk:3<=kind/\kind<=8):∀ x∈terms,x.kind=2:=by
 rw [formedF_mk,Bool.and_eq_true] at h
 have h2:=h.2
 rw [if_neg (by omega),if_pos (by unfold atomK;simp;omega),Bool.and_eq_true] at h2
 intro x hx
 have:=List.all_eq_true.1 h2.2 x hx
 simp only [Bool.and_eq_true,Bool.or_eq_true,decide_eq_true_eq] at this
 omega
theorem formed_binds {kind:Int} {name:Bs} {n:Int} {terms:List Trm} {binds:List Bnd} {l:List Frm} (h:formedF (.mk kind name n terms binds l)=true) (hk:14<=kind/\kind<=17):binds.all bndOk=true/\binds.length<=6:=by
 rw [formedF_mk,Bool.and_eq_true] at h
 have h2:=h.2
 rw [if_neg (by omega),if_neg (by unfold atomK;simp;omega),if_pos (by unfold quantK;simp;omega)] at h2
 simp only [Bool.and_eq_true,decide_eq_true_eq] at h2
 exact ⟨h2.1.2,h2.1.1.2⟩
theorem withF_length (env:List Ev) (binds:List Bnd) (t:List Nat):(withF env binds t).length<=env.length+binds.length:=by
 unfold withF;simp;omega
theorem week_len {s:Schl} {l:List Plc} (h:weekCheck s l=0):l.length=s.lessons.length:=by
 unfold weekCheck at h
 split at h
 ·rename_i h1;exact absurd h h1
 ·split at h
  ·cases h
  ·rename_i h2;exact Decidable.byContradiction (fun e=>h2 (.inl e))
end Go.Chalk
namespace Go.Proofs.YtjjkfgjnadaheaaGreatDoor
open Go.RowKit Go.Chalk
theorem holds_any (s:Schl) (x:SchA) (l:List Plc) (y:SlA) (hI:ItoaAt) (hf:SchFit s) (hgs:∀ q∈s.groups,0<=q.size/\q.size<=1000) (hsl:∀ q∈s.slots,0<=q.day/\q.day<=6/\0<=q.hour/\q.hour<=11) :
  ∀ (N:Nat) (f:Frm) (fa:FrmA) (env:List Ev) (z:SlA) (w:World),f.size<=N->HoldsOk s l env f->env.length+6*f.depth<=1900000->GG w->SchIn w (·<w.heap.size) s x->SlIn w (·<w.heap.size) (l.map Plc.toD) y->SlIn w (·<w.heap.size) (env.map Ev.toD) z->FrmIn w (·<w.heap.size) f fa ->
   Calls Tryz.prog 56 #[stV s x l y,.slice z.a env.length z.cap,ndV (f,fa)] w fun e w'=>e=.returned (.bool (holdsF s l env f))/\Below w.heap.size w w'
 | 0,f,_,_,_,_,hN,_,_,_,_,_,_,_=>by cases f;rw [Frm.size] at hN;omega
 | N+1,.mk kind name n terms binds fl,fa,env,z,w,hN,ho,hd,hg,hs,hy,hz,hx=>by
  rw [Frm.size] at hN
  rw [Frm.depth] at hd
  have hfm:formedF (.mk kind name n terms binds fl)=true:=by
   have h1:=ho.formed
   rw [nodesF,List.all_cons,Bool.and_eq_true] at h1
   exact h1.1
  obtain ⟨har,hat,hab⟩:=formed_len hfm
  have hk1:1<=kind/\kind<=17:=by
   unfold arityF at har
   split at har
   ·cases har
   ·omega
  by_cases hka:3<=kind/\kind<=9
  ·obtain ⟨t,u,rfl,htk⟩:=formed_atom2 hfm (by unfold atomK;simp;omega)
   have hw:=ho.walk
   rw [walkF_two] at hw
   by_cases h9:kind=9
   ·subst h9
    rw [if_pos rfl] at hw
    obtain ⟨w1,w2⟩:=cmpWalk_zero hw
    obtain ⟨hc,_⟩:=formed_cmp hfm
    refine holds_cmp s x l y env z name n t u binds fl fa w hg hx.terms hc (fun c hc W hW=>?_)
    have hcs:(sortF (evBinds env) c).2=0:=by
     simp only [List.mem_cons,List.not_mem_nil,or_false] at hc
     rcases hc with rfl | rfl
     ·exact w1
     ·exact w2
    have hck:=htk c hc
    refine value_any s x l y env z c W (hs.later hW hW.size) hf hgs hsl (hz.later hW hW.size) (by omega) hck (fun h1=>(term_found ho.may h1 hcs).1) ⟨fun h=>?_,fun h=>?_⟩
    ·obtain ⟨_,p1,p2,p3,p4⟩:=term_found ho.may (by omega) hcs
     refine ⟨p1,?_⟩
     have hsrt:(evOf env c.name).sort=2:=by
      rcases h with h | h | ⟨_,h⟩
      ·rw [<- p4 (by omega),h];rfl
      ·rw [<- p4 (by omega),h];rfl
      ·exact h
     rw [hsrt,schCount_eq] at p2
     simpa using p2
    ·obtain ⟨_,p1,p2,p3,p4⟩:=term_found ho.may (by omega) hcs
     refine ⟨p1,?_⟩
     have hsrt:(evOf env c.name).sort=3:=by
      rcases h with h | h
      ·rw [<- p4 (by omega),h];rfl
      ·rw [<- p4 (by omega),h];rfl
     rw [hsrt,schCount_eq] at p2
     simpa using p2
   ·have hk8:3<=kind/\kind<=8:=by omega
    rw [if_neg h9] at hw
    obtain ⟨w1,w2,w3⟩:=atomWalk_zero hw
    have hv2:=formed_atom_var hfm hk8
    have ht2:=hv2 t (by simp)
    have hu2:=hv2 u (by simp)
    obtain ⟨t1,t2,t3,t4,_⟩:=term_found ho.may (by omega:t.kind ≠ 1) w1
    obtain ⟨u1,_⟩:=term_found ho.may (by omega:u.kind ≠ 1) w3
    refine holds_atom s x l y env z kind name n t u binds fl fa w hk8 hg hx.terms hs hf hy (fun h=>⟨t2,?_⟩) (fun c hc W hW=>?_)
    ·have hsrt:(evOf env t.name).sort=1:=by
      rw [<- t4 ht2,w2]
      rcases h with rfl | rfl <;> rfl
     rw [hsrt,schCount_eq] at t3
     rw [week_len ho.week]
     simpa using t3
    ·refine element_any env z c W (hz.later hW hW.size) (by omega) ?_
     simp only [List.mem_cons,List.not_mem_nil,or_false] at hc
     rcases hc with rfl | rfl
     ·exact t1
     ·exact u1
  ·have hnk:atomK kind=false:=by unfold atomK;simp;omega
   obtain ⟨rfl,_⟩:=formed_plain hfm hnk
   by_cases h2:kind<=2
   ·exact holds_const s x l y env z kind name n binds fl fa w (by omega)
   ·by_cases h13:kind<=13
    ·have hb0:binds=[]:=hab.resolve_right (by unfold quantK;simp;omega)
     subst hb0
     refine holds_conn s x l y env z kind name n fl fa w (by omega) hfm hx (fun j hj y1 W hW hy1=>?_)
     have hmem:fl[j]∈fl:=List.getElem_mem hj
     have hm:=fsizes_mem fl fl[j] hmem
     exact holds_any s x l y hI hf hgs hsl N fl[j] y1 env z W (by omega) (ho.kid hmem) (by omega) (hg.below hW) (hs.later hW hW.size) (hy.later hW hW.size) (hz.later hW hW.size) (hy1.later hW hW.size)
    ·obtain ⟨g,rfl⟩:∃ g,fl=[g]:=by
      have h1:fl.length=1:=by
       unfold arityF at har
       rw [if_neg (by omega),if_neg (by omega),if_neg (by omega),if_neg (by omega)] at har
       simpa using har.symm
      exact List.length_eq_one_iff.1 h1
     obtain ⟨hbk,hb6⟩:=formed_binds hfm (by omega)
     obtain ⟨hmn,hin⟩:=ho.inst hbk
     have hm:=fsizes_mem [g] g (by simp)
     refine holds_quant s x l y env z kind name n binds g fa w (by omega) hg hI hs hf.toSchSmall hx hz (by omega) (by rw [manyF_tuples hmn];exact hmn) (fun t ht y1 z1 W hW hy1 hz1=>?_)
     have hwl:=withF_length env binds t
     exact holds_any s x l y hI hf hgs hsl N g y1 (withF env binds t) z1 W (by omega) (hin t ht) (by omega) (hg.below hW) (hs.later hW hW.size) (hy.later hW hW.size) hz1 (hy1.later hW hW.size)
end Go.Proofs.YtjjkfgjnadaheaaGreatDoor
/- eval.Holds. -/
namespace Go.Chalk
open Go.RowKit
theorem goTimes_all:∀ (l:List Slt) (met:List (Int×Int)),goTimes met l=true->∀ q∈l,0<=q.day/\q.day<=6/\0<=q.hour/\q.hour<=11
 | x :: r,met,h,q,hq=>by
  rw [goTimes] at h
  simp only [Bool.and_eq_true,withinB,decide_eq_true_eq] at h
  rcases List.mem_cons.1 hq with rfl | hq
  ·omega
  ·exact goTimes_all r _ h.2 q hq
theorem school_valid {s:Schl} (h:schCheck s=0):(∀ q∈s.groups,0<=q.size/\q.size<=1000)/\(∀ q∈s.slots,0<=q.day/\q.day<=6/\0<=q.hour/\q.hour<=11):=by
 unfold schCheck at h
 split at h
 ·cases h
 split at h
 ·cases h
 rename_i h2
 split at h
 ·cases h
 split at h
 ·cases h
 rename_i h4
 simp only [Bool.or_eq_true,not_or,List.any_eq_true,not_exists,not_and] at h4
 refine ⟨fun q hq=>?_,goTimes_all s.slots [] (by simpa using h2)⟩
 have:=h4.1.2 q hq
 unfold badGroup withinB at this
 simp at this
 exact this
theorem holds_ok {s:Schl} {l:List Plc} {env:List Ev} {f:Frm} (h1:weekCheck s l=0) (h2:evMay s env=true) (h3:typForm (evBinds env) f=0) (h4:broadF s f<=1048576):HoldsOk s l env f:=by
 unfold typForm at h3
 rw [if_neg (by rw [evMay_mayA h2];simp)] at h3
 by_cases hc:frmCheck f=0
 ·rw [if_neg (by simpa using hc)] at h3
  obtain ⟨c1,c2,c3⟩:=frmCheck_zero.1 hc
  exact ⟨h1,h2,c1,c2,c3,h3,h4⟩
 ·rw [if_pos hc] at h3;exact absurd h3 hc
end Go.Chalk
namespace Go.Proofs.YtjjkfgjnadaheaaGreatDoor
open Go.RowKit Go.Chalk
theorem eholds_any (s:Schl) (x:SchA) (l:List Plc) (y:SlA) (env:List Ev) (z:SlA) (f:Frm) (fa:FrmA) (w:World) (hI:ItoaAt) (hf:SchFit s) (hff:FrmFit f) (hg:GG w) (hs:SchIn w (·<w.heap.size) s x) (hy:SlIn w (·<w.heap.size) (l.map Plc.toD) y) (hl:l.length<=2000000)
  (hz:SlIn w (·<w.heap.size) (env.map Ev.toD) z) (hel:env.length<=1500000) (hmax:∀ e∈env,e.name.length<=4000000) (hx:FrmIn w (·<w.heap.size) f fa) :
  Calls Tryz.prog 20 #[.agg (x.cells s).toArray,.agg #[.slice y.a l.length y.cap],.slice z.a env.length z.cap,ndV (f,fa)] w fun e w'=>e=.returned (.tuple #[.bool (evHolds s l env f).1,.int .i64 (evHolds s l env f).2])/\Below w.heap.size w w':=by
 have HWC:=Lh (fun (W:World) (hW:Below w.heap.size w W)=>wcheck_any s x l y W hI (hs.later hW hW.size) hf (hy.later hW hW.size) hl (hg.below hW))
 have HMY:=Lh (fun (W:World) (hW:Below w.heap.size w W)=>emay_any s x env z W hI hf.toSchSmall (hs.later hW hW.size) (hz.later hW hW.size) hel hmax (hg.below hW))
 have HBN:Hid (∀ W,Below w.heap.size w W->Calls Tryz.prog 54 #[.slice z.a env.length z.cap] W fun e w'=>∃ x0:SlA,e=.returned (.slice x0.a env.length x0.cap)/\SlIn w' (·<w'.heap.size) ((evBinds env).map Bnd.toD) x0/\Below W.heap.size W w') :=
  Lh (fun W hW=>(ebinds_any env z W (hz.later hW hW.size) (by omega)).mono (by
   rintro e w' ⟨v,rfl,hon,hb⟩
   obtain ⟨x0,rfl,hx0⟩:=hon.sl (by rw [widths_map Bnd.flatT,List.length_map])
   exact ⟨x0,by rw [List.length_map];unfold evBinds;rw [List.length_map],hx0,hb⟩))
 have hbl:(evBinds env).length=env.length:=by simp [evBinds]
 have HTF:Hid (∀ (W:World) (x0:SlA),Below w.heap.size w W->SlIn W (·<W.heap.size) ((evBinds env).map Bnd.toD) x0->Calls Tryz.prog 53 #[.slice x0.a env.length x0.cap,ndV (f,fa)] W fun e w'=>e=.returned (.int .i64 (typForm (evBinds env) f))/\Below W.heap.size W w') :=
  Lh (fun W x0 hW h0=>by
   have h:=tform_any (evBinds env) x0 f fa W h0 (hx.later hW hW.size) (by omega) (fun b hb=>by
    unfold evBinds at hb
    obtain ⟨e,he,rfl⟩:=List.mem_map.1 hb
    exact hmax e he) hff (hg.below hW)
   rwa [hbl] at h)
 have HBR:=Lh (fun (W:World) (hW:Below w.heap.size w W)=>broad_any s x hI hf.toSchSmall f.size f fa W (Nat.le_refl _) hff.size (fun g hg=>(hff.nodes g hg).2.1) (hs.later hW hW.size) (hx.later hW hW.size))
 have HHO:=Lh (fun (h1:weekCheck s l=0) (h2:evMay s env=true) (h3:typForm (evBinds env) f=0) (h4:broadF s f<=1048576) (W:World) (hW:Below w.heap.size w W) =>
  holds_any s x l y hI hf (school_valid (week_school h1)).1 (school_valid (week_school h1)).2 f.size f fa env z W (Nat.le_refl _) (holds_ok h1 h2 h3 h4) (by have:=(holds_ok h1 h2 h3 h4).depth;omega) (hg.below hW) (hs.later hW hW.size) (hy.later hW hW.size) (hz.later hW hW.size) (hx.later hW hW.size))
 have HR:Hid (evHolds s l env f=if weekCheck s l ≠ 0 then (false,weekCheck s l) else if evMay s env=false then (false,1) else if typForm (evBinds env) f ≠ 0 then (false,typForm (evBinds env) f) else if 1048576<broadF s f then (false,2) else (holdsF s l env f,0)):=Lh rfl
 clear hbl hx hz hy hs hg hff hf hI hl hel hmax
 generalize evHolds s l env f=res at HR ⊢
 generalize weekCheck s l=wc at HWC HHO HR
 generalize evMay s env=my at HMY HHO HR
 generalize typForm (evBinds env) f=tf at HTF HHO HR
 generalize broadF s f=bf at HBR HHO HR
 generalize holdsF s l env f=hv at HHO HR
 generalize hE:evBinds env=eb at HBN HTF
 clear hE
 obtain ⟨kind,name,n,terms,binds,fl⟩:=f
 unfold stV at HHO
 simp only [ndV,FrmA.cells,SlA.val,SchA.cells,Frm.kind,Frm.name,Frm.n,Frm.terms,Frm.binds,Frm.l] at HWC HMY HTF HBR HHO ⊢
 have HB:Hid (Below w.heap.size w (((w.alloc (.cells #[.slice x.slots.a s.slots.length x.slots.cap,.slice x.rooms.a s.rooms.length x.rooms.cap,.slice x.people.a s.people.length x.people.cap,.slice x.groups.a s.groups.length x.groups.cap,.slice x.lessons.a s.lessons.length x.lessons.cap] 28)).alloc (.cells #[.slice y.a l.length y.cap] 50)).alloc (.cells #[.int .i64 kind,.string ⟨name.toArray⟩,.int .i64 n,.slice fa.t.a terms.length fa.t.cap,.slice fa.b.a binds.length fa.b.cap,.slice fa.l.a fl.length fa.l.cap] 34))):=Lh ((((Below.refl _ _).alloc (Nat.le_refl _) _).alloc (by simp) _).alloc (by simp;omega) _)
 have HK:Hid (∀ W',Below (((w.alloc (.cells #[.slice x.slots.a s.slots.length x.slots.cap,.slice x.rooms.a s.rooms.length x.rooms.cap,.slice x.people.a s.people.length x.people.cap,.slice x.groups.a s.groups.length x.groups.cap,.slice x.lessons.a s.lessons.length x.lessons.cap] 28)).alloc (.cells #[.slice y.a l.length y.cap] 50)).alloc (.cells #[.int .i64 kind,.string ⟨name.toArray⟩,.int .i64 n,.slice fa.t.a terms.length fa.t.cap,.slice fa.b.a binds.length fa.b.cap,.slice fa.l.a fl.length fa.l.cap] 34)).heap.size (((w.alloc (.cells #[.slice x.slots.a s.slots.length x.slots.cap,.slice x.rooms.a s.rooms.length x.rooms.cap,.slice x.people.a s.people.length x.people.cap,.slice x.groups.a s.groups.length x.groups.cap,.slice x.lessons.a s.lessons.length x.lessons.cap] 28)).alloc (.cells #[.slice y.a l.length y.cap] 50)).alloc (.cells #[.int .i64 kind,.string ⟨name.toArray⟩,.int .i64 n,.slice fa.t.a terms.length fa.t.cap,.slice fa.b.a binds.length fa.b.cap,.slice fa.l.a fl.length fa.l.cap] 34)) W'->(W'.cell? ⟨w.heap.size,0,none⟩=some (.slice x.slots.a s.slots.length x.slots.cap)/\W'.cell? ⟨w.heap.size,1,none⟩=some (.slice x.rooms.a s.rooms.length x.rooms.cap)/\W'.cell? ⟨w.heap.size,2,none⟩=some (.slice x.people.a s.people.length x.people.cap)/\W'.cell? ⟨w.heap.size,3,none⟩=some (.slice x.groups.a s.groups.length x.groups.cap)/\W'.cell? ⟨w.heap.size,4,none⟩=some (.slice x.lessons.a s.lessons.length x.lessons.cap)/\W'.cell? ⟨w.heap.size+1,0,none⟩=some (.slice y.a l.length y.cap))/\(W'.cell? ⟨w.heap.size+1+1,0,none⟩=some (.int .i64 kind)/\W'.cell? ⟨w.heap.size+1+1,1,none⟩=some (.string ⟨name.toArray⟩)/\W'.cell? ⟨w.heap.size+1+1,2,none⟩=some (.int .i64 n)/\W'.cell? ⟨w.heap.size+1+1,3,none⟩=some (.slice fa.t.a terms.length fa.t.cap)/\W'.cell? ⟨w.heap.size+1+1,4,none⟩=some (.slice fa.b.a binds.length fa.b.cap)/\W'.cell? ⟨w.heap.size+1+1,5,none⟩=some (.slice fa.l.a fl.length fa.l.cap))):=Lh (fun W' hW=>by
  have g0:(((w.alloc (.cells #[.slice x.slots.a s.slots.length x.slots.cap,.slice x.rooms.a s.rooms.length x.rooms.cap,.slice x.people.a s.people.length x.people.cap,.slice x.groups.a s.groups.length x.groups.cap,.slice x.lessons.a s.lessons.length x.lessons.cap] 28)).alloc (.cells #[.slice y.a l.length y.cap] 50)).alloc (.cells #[.int .i64 kind,.string ⟨name.toArray⟩,.int .i64 n,.slice fa.t.a terms.length fa.t.cap,.slice fa.b.a binds.length fa.b.cap,.slice fa.l.a fl.length fa.l.cap] 34)).heap[w.heap.size]?=some (.cells #[.slice x.slots.a s.slots.length x.slots.cap,.slice x.rooms.a s.rooms.length x.rooms.cap,.slice x.people.a s.people.length x.people.cap,.slice x.groups.a s.groups.length x.groups.cap,.slice x.lessons.a s.lessons.length x.lessons.cap] 28 (0,0)):=by simp only [heap_get,World.size_alloc];rw [if_neg (by omega),if_neg (by omega),if_pos trivial]
  have g1:(((w.alloc (.cells #[.slice x.slots.a s.slots.length x.slots.cap,.slice x.rooms.a s.rooms.length x.rooms.cap,.slice x.people.a s.people.length x.people.cap,.slice x.groups.a s.groups.length x.groups.cap,.slice x.lessons.a s.lessons.length x.lessons.cap] 28)).alloc (.cells #[.slice y.a l.length y.cap] 50)).alloc (.cells #[.int .i64 kind,.string ⟨name.toArray⟩,.int .i64 n,.slice fa.t.a terms.length fa.t.cap,.slice fa.b.a binds.length fa.b.cap,.slice fa.l.a fl.length fa.l.cap] 34)).heap[w.heap.size+1]?=some (.cells #[.slice y.a l.length y.cap] 50 (0,0)):=by simp only [heap_get,World.size_alloc];rw [if_neg (by omega),if_pos trivial]
  have g2:(((w.alloc (.cells #[.slice x.slots.a s.slots.length x.slots.cap,.slice x.rooms.a s.rooms.length x.rooms.cap,.slice x.people.a s.people.length x.people.cap,.slice x.groups.a s.groups.length x.groups.cap,.slice x.lessons.a s.lessons.length x.lessons.cap] 28)).alloc (.cells #[.slice y.a l.length y.cap] 50)).alloc (.cells #[.int .i64 kind,.string ⟨name.toArray⟩,.int .i64 n,.slice fa.t.a terms.length fa.t.cap,.slice fa.b.a binds.length fa.b.cap,.slice fa.l.a fl.length fa.l.cap] 34)).heap[w.heap.size+1+1]?=some (.cells #[.int .i64 kind,.string ⟨name.toArray⟩,.int .i64 n,.slice fa.t.a terms.length fa.t.cap,.slice fa.b.a binds.length fa.b.cap,.slice fa.l.a fl.length fa.l.cap] 34 (0,0)):=by simp only [heap_get,World.size_alloc];rw [if_pos trivial]
  have c0:=(hW.block _ (gS g0).1).trans g0
  have c1:=(hW.block _ (gS g1).1).trans g1
  have c2:=(hW.block _ (gS g2).1).trans g2
  exact ⟨⟨cH c0 rfl,cH c0 rfl,cH c0 rfl,cH c0 rfl,cH c0 rfl,cH c1 rfl⟩,cH c2 rfl,cH c2 rfl,cH c2 rfl,cH c2 rfl,cH c2 rfl,cH c2 rfl⟩)
 go_enter Tryz.func20,Tryz.ntmps20
 go_wp2_with fail
 refine (HWC.out _ HB.out).mono ?_
 rintro e w1 ⟨rfl,hb1⟩
 have HC1:=Lh (aI hb1 (HB.out.trans (hb1.mono HB.out.size)))
 clear hb1
 by_cases h1:wc ≠ 0
 ·have d1:(wc != 0)=true:=by simpa using h1
  have HD:=Lh h1
  clear h1
  go_wp2_with fail
  go_ret2
  exact ⟨by rw [HR.out];simp [HD.out],HC1.out.2⟩
 obtain rfl:wc=0:=by omega
 clear h1
 obtain ⟨⟨a0,a1,a2,a3,a4,a5⟩,_⟩:=HK.out w1 HC1.out.1
 go_wp2_with fail
 refine (HMY.out _ HC1.out.2).mono ?_
 rintro e w2 ⟨rfl,hb2⟩
 have HC2:=Lh (aI (HC1.out.1.trans (hb2.mono HC1.out.1.size)) (HC1.out.2.trans (hb2.mono HC1.out.2.size)))
 clear hb2 a0 a1 a2 a3 a4 a5
 cases my
 ·go_wp2_with fail
  go_ret2
  exact ⟨by rw [HR.out];simp,HC2.out.2⟩
 go_wp2_with fail
 go_region_held3 (fun w'=>w'.cell? ⟨w.heap.size+1+1,0,none⟩=some (.int .i64 kind)/\w'.cell? ⟨w.heap.size+1+1,1,none⟩=some (.string ⟨name.toArray⟩)/\w'.cell? ⟨w.heap.size+1+1,2,none⟩=some (.int .i64 n)/\w'.cell? ⟨w.heap.size+1+1,3,none⟩=some (.slice fa.t.a terms.length fa.t.cap)/\w'.cell? ⟨w.heap.size+1+1,4,none⟩=some (.slice fa.b.a binds.length fa.b.cap)/\w'.cell? ⟨w.heap.size+1+1,5,none⟩=some (.slice fa.l.a fl.length fa.l.cap)) ((refine (HK.out _ ?_).2;first | exact HC4.out.1 | exact HC3.out.1 | exact HC2.out.1.drew | fail)) (first
  | (go_at_call 53;refine (HTF.out _ x0 HC3.out.2.1 HC3.out.2.2).mono ?_;rintro e w4 ⟨rfl,hbb⟩;have HC4:=Lh (aI (HC3.out.1.trans (hbb.mono HC3.out.1.size)) (HC3.out.2.1.trans (hbb.mono HC3.out.2.1.size)));clear hbb)
  | (go_at_call 54;refine (HBN.out _ HC2.out.2.drew).mono ?_;rintro e w3 ⟨x0,rfl,hx0,hbb⟩;have HC3:=Lh (aI (HC2.out.1.drew.trans (hbb.mono HC2.out.1.drew.size)) (aI (HC2.out.2.drew.trans (hbb.mono HC2.out.2.drew.size)) hx0));clear hbb hx0))
 all_goals
  by_cases h1:tf ≠ 0
  ·have d1:(tf != 0)=true:=by simpa using h1
   have HD:=Lh h1
   clear h1
   go_wp2_with fail
   go_ret2
   exact ⟨by rw [HR.out];simp [HD.out],HC4.out.2⟩
  obtain rfl:tf=0:=by omega
  clear h1
  obtain ⟨⟨a0,a1,a2,a3,a4,a5⟩,b0,b1,b2,b3,b4,b5⟩:=HK.out w4 HC4.out.1
  go_wp2_with fail
  refine (HBR.out _ HC4.out.2).mono ?_
  rintro e w5 ⟨rfl,hb5⟩
  have HC5:=Lh (aI (HC4.out.1.trans (hb5.mono HC4.out.1.size)) (HC4.out.2.trans (hb5.mono HC4.out.2.size)))
  clear hb5 a0 a1 a2 a3 a4 a5 b0 b1 b2 b3 b4 b5
  by_cases h1:(1048576:Int)<(bf:Int)
  ·have HD:=Lh (by omega:1048576<bf)
   go_wp2_with fail
   go_ret2
   exact ⟨by rw [HR.out];simp [HD.out],HC5.out.2⟩
  have h1':decide ((1048576:Int)<(bf:Int))=false:=by simpa using h1
  have HD:=Lh (by omega:¬ 1048576<bf)
  have HHW:=Lh (HHO.out (by first | rfl | trivial) (by first | rfl | trivial) (by first | rfl | trivial) (by omega) w5 HC5.out.2)
  clear h1
  obtain ⟨⟨a0,a1,a2,a3,a4,a5⟩,b0,b1,b2,b3,b4,b5⟩:=HK.out w5 HC5.out.1
  go_wp2_with fail
  refine HHW.out.mono ?_
  rintro e w6 ⟨rfl,hb6⟩
  have HC6:=Lh (HC5.out.2.trans (hb6.mono HC5.out.2.size))
  clear hb6
  go_wp2_with fail
  go_ret2
  exact ⟨by rw [HR.out];simp [HD.out],HC6.out⟩
end Go.Proofs.YtjjkfgjnadaheaaGreatDoor
