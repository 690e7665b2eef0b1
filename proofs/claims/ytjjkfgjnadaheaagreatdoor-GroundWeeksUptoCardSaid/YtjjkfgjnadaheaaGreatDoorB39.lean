/- Joined texts: EvL, EvM, EvN, EvO. -/
import Derived.Test.YtjjkfgjnadaheaaGreatDoorB38
import Derived.Test.YtjjkfgjnadaheaaGreatDoorB08
import Derived.Deep.RegionHeld3
import Derived.Test.YtjjkfgjnadaheaaGreatDoorB35
import Derived.Test.YtjjkfgjnadaheaaGreatDoorB17
set_option linter.unusedVariables false
set_option linter.unusedSimpArgs false
set_option maxHeartbeats 4000000
set_option maxRecDepth 100000

/- eval.holds: constants and connectives. -/
namespace Go.Chalk
open Go.RowKit
theorem formed_len {kind:Int} {name:Bs} {n:Int} {terms:List Trm} {binds:List Bnd} {l:List Frm} (h:formedF (.mk kind name n terms binds l)=true):arityF kind=some l.length/\(terms=[]∨atomK kind=true)/\(binds=[]∨quantK kind=true):=by
 rw [formedF_mk,Bool.and_eq_true,partsOk_mk] at h
 have h1:=h.1
 simp only [Bool.and_eq_true,Bool.or_eq_true,beq_iff_eq,List.isEmpty_iff] at h1
 exact ⟨h1.1.1.1.1,h1.1.1.1.2,h1.1.1.2⟩
end Go.Chalk
namespace Go.Proofs.YtjjkfgjnadaheaaGreatDoor
open Go.RowKit Go.Chalk
abbrev hdW (w:World) (s:Schl) (x:SchA) (l:List Plc) (y:SlA) (env:List Ev) (z:SlA) (f:Frm) (fa:FrmA):World :=
 ((w.alloc (.cells #[.slice x.slots.a s.slots.length x.slots.cap,.slice x.rooms.a s.rooms.length x.rooms.cap,.slice x.people.a s.people.length x.people.cap,.slice x.groups.a s.groups.length x.groups.cap,.slice x.lessons.a s.lessons.length x.lessons.cap,.slice y.a l.length y.cap] 105)).alloc (.cells #[.slice z.a env.length z.cap] 29)).alloc (.cells (fa.cells f).toArray 34)
theorem hdW_box (w:World) (s:Schl) (x:SchA) (l:List Plc) (y:SlA) (env:List Ev) (z:SlA) (f:Frm) (fa:FrmA):HdBox (hdW w s x l y env z f fa) w.heap.size s x l y env z f fa :=
 ⟨by rw [heap_get,if_neg (by simp;omega),heap_get,if_neg (by simp),heap_get,if_pos rfl],by rw [heap_get,if_neg (by simp),heap_get,if_pos (by simp)],by rw [heap_get,if_pos (by simp)]⟩
theorem hdW_below (w:World) (s:Schl) (x:SchA) (l:List Plc) (y:SlA) (env:List Ev) (z:SlA) (f:Frm) (fa:FrmA):Below w.heap.size w (hdW w s x l y env z f fa) :=
 (((Below.refl _ _).alloc (Nat.le_refl _) _).alloc (by simp) _).alloc (by simp;omega) _

theorem holds_const (s:Schl) (x:SchA) (l:List Plc) (y:SlA) (env:List Ev) (z:SlA) (kind:Int) (name:Bs) (n:Int) (binds:List Bnd) (fl:List Frm) (fa:FrmA) (w:World) (hk:kind=1∨kind=2) :
  Calls Tryz.prog 56 #[stV s x l y,.slice z.a env.length z.cap,ndV (.mk kind name n [] binds fl,fa)] w fun e w'=>e=.returned (.bool (holdsF s l env (.mk kind name n [] binds fl)))/\Below w.heap.size w w':=by
 have hb:=hdW_below w s x l y env z (.mk kind name n [] binds fl) fa
 have hr:holdsF s l env (.mk kind name n [] binds fl)=(kind==1):=by
  rw [holdsF_nil]
  rcases hk with rfl | rfl
  ·rfl
  ·rfl
 have hmf:∀ (fn:Fn) (first cap:Array Value) (w:World),(Instr.makeFunc fn first cap).run Tryz.prog w=.ok (.func fn first cap) w:=fun _ _ _ _=>rfl
 rw [hr]
 have HB:=Lh hb
 clear hb hr
 unfold stV
 simp only [hdW,ndV,FrmA.cells,SlA.val,Frm.kind,Frm.name,Frm.n,Frm.terms,Frm.binds,Frm.l] at HB ⊢
 rcases hk with rfl | rfl
 ·go_enter Tryz.func56,Tryz.ntmps56
  go_wp2_with fail
  go_ret
  exact ⟨rfl,HB.out⟩
 ·go_enter Tryz.func56,Tryz.ntmps56
  go_wp2_with fail
  go_ret
  exact ⟨rfl,HB.out⟩

theorem holds_conn (s:Schl) (x:SchA) (l:List Plc) (y:SlA) (env:List Ev) (z:SlA) (kind:Int) (name:Bs) (n:Int) (fl:List Frm) (fa:FrmA) (w:World) (hk:10<=kind/\kind<=13) (hf:formedF (.mk kind name n [] [] fl)=true) (hx:FrmIn w (·<w.heap.size) (.mk kind name n [] [] fl) fa)
  (ih:∀ (j:Nat) (hj:j<fl.length) (y1:FrmA) (W:World),Below w.heap.size w W->FrmIn w (·<w.heap.size) fl[j] y1->Calls Tryz.prog 56 #[stV s x l y,.slice z.a env.length z.cap,ndV (fl[j],y1)] W fun e w'=>e=.returned (.bool (holdsF s l env fl[j]))/\Below W.heap.size W w') :
  Calls Tryz.prog 56 #[stV s x l y,.slice z.a env.length z.cap,ndV (.mk kind name n [] [] fl,fa)] w fun e w'=>e=.returned (.bool (holdsF s l env (.mk kind name n [] [] fl)))/\Below w.heap.size w w':=by
 have hb:=hdW_below w s x l y env z (.mk kind name n [] [] fl) fa
 have hbx:=hdW_box w s x l y env z (.mk kind name n [] [] fl) fa
 have hpt:∀ (j:Nat) (hj:j<fl.length) (W:World),Below w.heap.size w W->HdBox W w.heap.size s x l y env z (.mk kind name n [] [] fl) fa->Calls Tryz.prog 105 #[.int .i64 j,.pointer (some ⟨w.heap.size,0,none⟩),.pointer (some ⟨w.heap.size+1,0,none⟩),.pointer (some ⟨w.heap.size+1+1,0,none⟩)] W fun e w'=>e=.returned (.bool (holdsF s l env fl[j]))/\Below W.heap.size W w':=by
  intro j hj W hW hB
  obtain ⟨y1,h1,h2⟩:=hx.l.frm j hj
  obtain ⟨hla,hlb⟩:=hx.l.at_ (by rw [List.length_map];exact Nat.lt_of_le_of_lt (Nat.zero_le _) hj)
  exact holds1_any s x l y env z kind name n [] [] fl fa j hj W w.heap.size hB y1 (h2.agree (agree_of_below hW) hlb) hla _ (fun W' hW'=>ih j hj y1 W' (hW.trans (hW'.mono hW.size)) h1)
 obtain ⟨har,_,_⟩:=formed_len hf
 have hmf:∀ (fn:Fn) (first cap:Array Value) (w:World),(Instr.makeFunc fn first cap).run Tryz.prog w=.ok (.func fn first cap) w:=fun _ _ _ _=>rfl
 have hkk:kind=10∨kind=11∨kind=12∨kind=13:=by omega
 clear hx ih hk hf
 unfold stV at hpt ⊢
 rcases hkk with rfl | rfl | rfl | rfl
 ·obtain ⟨g,rfl⟩:∃ g,fl=[g]:=by
   have h1:fl.length=1:=by simpa [arityF] using har.symm
   exact List.length_eq_one_iff.1 h1
  ·have HB:=Lh (aI hb hbx)
   have hr:holdsF s l env (.mk 10 name n [] [] [g]) = !(holdsF s l env g):=by rw [holdsF_nil,if_neg (by decide),if_neg (by decide),if_pos rfl,holdsAt]
   rw [hr]
   have h0:Calls Tryz.prog 105 #[.int .i64 0,.pointer (some ⟨w.heap.size,0,none⟩),.pointer (some ⟨w.heap.size+1,0,none⟩),.pointer (some ⟨w.heap.size+1+1,0,none⟩)] (hdW w s x l y env z (.mk 10 name n [] [] [g]) fa) fun e w'=>e=.returned (.bool (holdsF s l env g))/\Below (hdW w s x l y env z (.mk 10 name n [] [] [g]) fa).heap.size (hdW w s x l y env z (.mk 10 name n [] [] [g]) fa) w':=hpt 0 (Nat.zero_lt_one) _ hb hbx
   generalize holdsF s l env g=v at h0 ⊢
   clear hpt hb hbx hr
   have HC:=Lh h0
   simp only [hdW,ndV,FrmA.cells,SlA.val,Frm.kind,Frm.name,Frm.n,Frm.terms,Frm.binds,Frm.l] at HB HC ⊢
   clear h0
   go_enter Tryz.func56,Tryz.ntmps56
   go_wp2_with fail
   refine HC.out.mono ?_
   rintro e w1 ⟨rfl,hb1⟩
   have HB1:=Lh (HB.out.1.trans (hb1.mono HB.out.1.size))
   clear hb1
   go_wp2_with fail
   go_ret
   exact ⟨rfl,HB1.out⟩
 ·obtain ⟨g,h,rfl⟩:∃ g h,fl=[g,h]:=by
   have h1:fl.length=2:=by simpa [arityF] using har.symm
   match fl,h1 with
   | [g,h],_=>exact ⟨g,h,rfl⟩
  ·have HB:=Lh (aI hb hbx)
   have hr:holdsF s l env (.mk 11 name n [] [] [g,h])=(holdsF s l env g&&holdsF s l env h):=by rw [holdsF_nil,if_neg (by decide),if_neg (by decide),if_neg (by decide),if_pos rfl,holdsAt,holdsAt,holdsAt]
   rw [hr]
   have h0:Calls Tryz.prog 105 #[.int .i64 0,.pointer (some ⟨w.heap.size,0,none⟩),.pointer (some ⟨w.heap.size+1,0,none⟩),.pointer (some ⟨w.heap.size+1+1,0,none⟩)] (hdW w s x l y env z (.mk 11 name n [] [] [g,h]) fa) fun e w'=>e=.returned (.bool (holdsF s l env g))/\Below (hdW w s x l y env z (.mk 11 name n [] [] [g,h]) fa).heap.size (hdW w s x l y env z (.mk 11 name n [] [] [g,h]) fa) w':=hpt 0 (by show 0<2;decide) _ hb hbx
   have h1:∀ W,Below w.heap.size w W->HdBox W w.heap.size s x l y env z (.mk 11 name n [] [] [g,h]) fa->Calls Tryz.prog 105 #[.int .i64 1,.pointer (some ⟨w.heap.size,0,none⟩),.pointer (some ⟨w.heap.size+1,0,none⟩),.pointer (some ⟨w.heap.size+1+1,0,none⟩)] W fun e w'=>e=.returned (.bool (holdsF s l env h))/\Below W.heap.size W w':=hpt 1 (by show 1<2;decide)
   generalize holdsF s l env g=v0 at h0 ⊢
   generalize holdsF s l env h=v1 at h1 ⊢
   clear hpt hb hbx hr
   have HC:=Lh h0
   have HC2:=Lh h1
   clear h0 h1
   simp only [hdW,ndV,FrmA.cells,SlA.val,Frm.kind,Frm.name,Frm.n,Frm.terms,Frm.binds,Frm.l] at HB HC ⊢
   go_enter Tryz.func56,Tryz.ntmps56
   go_wp2_with fail
   refine HC.out.mono ?_
   rintro e w1 ⟨rfl,hb1⟩
   have HB1:=Lh (aI (HB.out.1.trans (hb1.mono HB.out.1.size)) (HB.out.2.below hb1))
   clear hb1
   cases v0
   ·go_wp2_with fail
    go_ret
    exact ⟨by simp,HB1.out.1⟩
   ·have HCW:=Lh (HC2.out w1 HB1.out.1 HB1.out.2)
    go_wp2_with fail
    refine HCW.out.mono ?_
    rintro e w2 ⟨rfl,hb2⟩
    have HB2:=Lh (HB1.out.1.trans (hb2.mono HB1.out.1.size))
    clear hb2
    go_wp2_with fail
    go_ret
    exact ⟨by simp,HB2.out⟩
 ·obtain ⟨g,h,rfl⟩:∃ g h,fl=[g,h]:=by
   have h1:fl.length=2:=by simpa [arityF] using har.symm
   match fl,h1 with
   | [g,h],_=>exact ⟨g,h,rfl⟩
  ·have HB:=Lh (aI hb hbx)
   have hr:holdsF s l env (.mk 12 name n [] [] [g,h])=(holdsF s l env g||holdsF s l env h):=by rw [holdsF_nil,if_neg (by decide),if_neg (by decide),if_neg (by decide),if_neg (by decide),if_pos rfl,holdsAt,holdsAt,holdsAt]
   rw [hr]
   have h0:Calls Tryz.prog 105 #[.int .i64 0,.pointer (some ⟨w.heap.size,0,none⟩),.pointer (some ⟨w.heap.size+1,0,none⟩),.pointer (some ⟨w.heap.size+1+1,0,none⟩)] (hdW w s x l y env z (.mk 12 name n [] [] [g,h]) fa) fun e w'=>e=.returned (.bool (holdsF s l env g))/\Below (hdW w s x l y env z (.mk 12 name n [] [] [g,h]) fa).heap.size (hdW w s x l y env z (.mk 12 name n [] [] [g,h]) fa) w':=hpt 0 (by show 0<2;decide) _ hb hbx
   have h1:∀ W,Below w.heap.size w W->HdBox W w.heap.size s x l y env z (.mk 12 name n [] [] [g,h]) fa->Calls Tryz.prog 105 #[.int .i64 1,.pointer (some ⟨w.heap.size,0,none⟩),.pointer (some ⟨w.heap.size+1,0,none⟩),.pointer (some ⟨w.heap.size+1+1,0,none⟩)] W fun e w'=>e=.returned (.bool (holdsF s l env h))/\Below W.heap.size W w':=hpt 1 (by show 1<2;decide)
   generalize holdsF s l env g=v0 at h0 ⊢
   generalize holdsF s l env h=v1 at h1 ⊢
   clear hpt hb hbx hr
   have HC:=Lh h0
   have HC2:=Lh h1
   clear h0 h1
   simp only [hdW,ndV,FrmA.cells,SlA.val,Frm.kind,Frm.name,Frm.n,Frm.terms,Frm.binds,Frm.l] at HB HC ⊢
   go_enter Tryz.func56,Tryz.ntmps56
   go_wp2_with fail
   refine HC.out.mono ?_
   rintro e w1 ⟨rfl,hb1⟩
   have HB1:=Lh (aI (HB.out.1.trans (hb1.mono HB.out.1.size)) (HB.out.2.below hb1))
   clear hb1
   cases v0
   ·have HCW:=Lh (HC2.out w1 HB1.out.1 HB1.out.2)
    go_wp2_with fail
    refine HCW.out.mono ?_
    rintro e w2 ⟨rfl,hb2⟩
    have HB2:=Lh (HB1.out.1.trans (hb2.mono HB1.out.1.size))
    clear hb2
    go_wp2_with fail
    go_ret
    exact ⟨by simp,HB2.out⟩
   ·go_wp2_with fail
    go_ret
    exact ⟨by simp,HB1.out.1⟩
 ·obtain ⟨g,h,rfl⟩:∃ g h,fl=[g,h]:=by
   have h1:fl.length=2:=by simpa [arityF] using har.symm
   match fl,h1 with
   | [g,h],_=>exact ⟨g,h,rfl⟩
  ·have HB:=Lh (aI hb hbx)
   have hr:holdsF s l env (.mk 13 name n [] [] [g,h])=(!(holdsF s l env g)||holdsF s l env h):=by rw [holdsF_nil,if_neg (by decide),if_neg (by decide),if_neg (by decide),if_neg (by decide),if_neg (by decide),if_pos rfl,holdsAt,holdsAt,holdsAt]
   rw [hr]
   have h0:Calls Tryz.prog 105 #[.int .i64 0,.pointer (some ⟨w.heap.size,0,none⟩),.pointer (some ⟨w.heap.size+1,0,none⟩),.pointer (some ⟨w.heap.size+1+1,0,none⟩)] (hdW w s x l y env z (.mk 13 name n [] [] [g,h]) fa) fun e w'=>e=.returned (.bool (holdsF s l env g))/\Below (hdW w s x l y env z (.mk 13 name n [] [] [g,h]) fa).heap.size (hdW w s x l y env z (.mk 13 name n [] [] [g,h]) fa) w':=hpt 0 (by show 0<2;decide) _ hb hbx
   have h1:∀ W,Below w.heap.size w W->HdBox W w.heap.size s x l y env z (.mk 13 name n [] [] [g,h]) fa->Calls Tryz.prog 105 #[.int .i64 1,.pointer (some ⟨w.heap.size,0,none⟩),.pointer (some ⟨w.heap.size+1,0,none⟩),.pointer (some ⟨w.heap.size+1+1,0,none⟩)] W fun e w'=>e=.returned (.bool (holdsF s l env h))/\Below W.heap.size W w':=hpt 1 (by show 1<2;decide)
   generalize holdsF s l env g=v0 at h0 ⊢
   generalize holdsF s l env h=v1 at h1 ⊢
   clear hpt hb hbx hr
   have HC:=Lh h0
   have HC2:=Lh h1
   clear h0 h1
   simp only [hdW,ndV,FrmA.cells,SlA.val,Frm.kind,Frm.name,Frm.n,Frm.terms,Frm.binds,Frm.l] at HB HC ⊢
   go_enter Tryz.func56,Tryz.ntmps56
   go_wp2_with fail
   refine HC.out.mono ?_
   rintro e w1 ⟨rfl,hb1⟩
   have HB1:=Lh (aI (HB.out.1.trans (hb1.mono HB.out.1.size)) (HB.out.2.below hb1))
   clear hb1
   cases v0
   ·go_wp2_with fail
    go_ret
    exact ⟨by simp,HB1.out.1⟩
   ·have HCW:=Lh (HC2.out w1 HB1.out.1 HB1.out.2)
    go_wp2_with fail
    refine HCW.out.mono ?_
    rintro e w2 ⟨rfl,hb2⟩
    have HB2:=Lh (HB1.out.1.trans (hb2.mono HB1.out.1.size))
    clear hb2
    go_wp2_with fail
    go_ret
    exact ⟨by simp,HB2.out⟩
end Go.Proofs.YtjjkfgjnadaheaaGreatDoor
/- eval.holds: comparisons. -/
namespace Go.Proofs.YtjjkfgjnadaheaaGreatDoor
open Go.RowKit Go.Chalk
theorem holds_cmp (s:Schl) (x:SchA) (l:List Plc) (y:SlA) (env:List Ev) (z:SlA) (name:Bs) (n:Int) (t u:Trm) (binds:List Bnd) (fl:List Frm) (fa:FrmA) (w:World) (hg:GG w) (hx:SlIn w (·<w.heap.size) ([t,u].map Trm.toD) fa.t) (hc:cmpL.contains name=true)
  (hv:∀ c∈[t,u],∀ W,Below w.heap.size w W->Calls Tryz.prog 107 #[stV s x l y,.slice z.a env.length z.cap,.agg #[.int .i64 c.kind,.string ⟨c.name.toArray⟩,.int .i64 c.n]] W fun e w'=>e=.returned (.int .i64 (valueF s env c))/\Below W.heap.size W w') :
  Calls Tryz.prog 56 #[stV s x l y,.slice z.a env.length z.cap,ndV (.mk 9 name n [t,u] binds fl,fa)] w fun e w'=>e=.returned (.bool (holdsF s l env (.mk 9 name n [t,u] binds fl)))/\Below w.heap.size w w':=by
 have hb:=hdW_below w s x l y env z (.mk 9 name n [t,u] binds fl) fa
 obtain ⟨hb1,hb2,hb3⟩:=hdW_box w s x l y env z (.mk 9 name n [t,u] binds fl) fa
 have hr:holdsF s l env (.mk 9 name n [t,u] binds fl)=cmpHolds name (valueF s env t) (valueF s env u):=by rw [holdsF_two,if_neg (by decide),if_neg (by decide),if_pos rfl]
 rw [hr]
 obtain ⟨gs,hgs,hen,hca⟩:=sign_call name hc
 have hnl:name.length<=maxLen:=by
  unfold cmpL at hc
  simp only [List.contains_iff_mem,List.mem_cons,List.not_mem_nil,or_false] at hc
  rcases hc with rfl | rfl | rfl | rfl | rfl | rfl <;> decide
 obtain ⟨g1,_,_,g4,_⟩:=hx.flat Trm.flatT
 obtain ⟨ta,tb⟩:=g1 (by simp)
 obtain ⟨t0,t1,t2⟩:=g4.three 0 (by simp) rfl
 obtain ⟨u0,u1,u2⟩:=g4.three 1 (by simp) rfl
 obtain ⟨mb,mo,q1,q2,q3⟩:=hg.signs
 have HV1:=Lh (hv t (by simp))
 have HV2:=Lh (hv u (by simp))
 have HCA:=Lh (hca (valueF s env t) (valueF s env u))
 simp only [List.getElem_cons_zero,List.getElem_cons_succ,Nat.zero_mul,Nat.add_zero,Nat.one_mul] at t0 t1 t2 u0 u1 u2
 have HK:Hid (∀ W',Below (hdW w s x l y env z (.mk 9 name n [t,u] binds fl) fa).heap.size (hdW w s x l y env z (.mk 9 name n [t,u] binds fl) fa) W'->W'.cell? ⟨0,0,none⟩=some (.map (some mb))/\(Instr.lookup 168 (.map (some mb)) (.string ⟨name.toArray⟩) false).run Tryz.prog W'=.ok (.func (.func gs) #[] #[]) W' /\
   W'.cell? ⟨w.heap.size,0,none⟩=some (.slice x.slots.a s.slots.length x.slots.cap)/\W'.cell? ⟨w.heap.size,1,none⟩=some (.slice x.rooms.a s.rooms.length x.rooms.cap)/\W'.cell? ⟨w.heap.size,2,none⟩=some (.slice x.people.a s.people.length x.people.cap)/\W'.cell? ⟨w.heap.size,3,none⟩=some (.slice x.groups.a s.groups.length x.groups.cap)/\W'.cell? ⟨w.heap.size,4,none⟩=some (.slice x.lessons.a s.lessons.length x.lessons.cap)/\W'.cell? ⟨w.heap.size,5,none⟩=some (.slice y.a l.length y.cap) /\
   W'.cell? ⟨w.heap.size+1,0,none⟩=some (.slice z.a env.length z.cap)/\W'.cell? ⟨w.heap.size+1+1,1,none⟩=some (.string ⟨name.toArray⟩)/\W'.cell? ⟨w.heap.size+1+1,3,none⟩=some (.slice fa.t.a 2 fa.t.cap) /\
   W'.cell? ⟨fa.t.b,fa.t.o,none⟩=some (.int .i64 t.kind)/\W'.cell? ⟨fa.t.b,fa.t.o+1,none⟩=some (.string ⟨t.name.toArray⟩)/\W'.cell? ⟨fa.t.b,fa.t.o+2,none⟩=some (.int .i64 t.n) /\
   W'.cell? ⟨fa.t.b,fa.t.o+3,none⟩=some (.int .i64 u.kind)/\W'.cell? ⟨fa.t.b,fa.t.o+3+1,none⟩=some (.string ⟨u.name.toArray⟩)/\W'.cell? ⟨fa.t.b,fa.t.o+3+2,none⟩=some (.int .i64 u.n)) :=
  Lh (fun W' hW=>by
   have hw:Below w.heap.size w W':=hb.trans (hW.mono hb.size)
   have c1:=(hW.block w.heap.size (gS hb1).1).trans hb1
   have c2:=(hW.block (w.heap.size+1) (gS hb2).1).trans hb2
   have c3:=(hW.block (w.heap.size+1+1) (gS hb3).1).trans hb3
   have hl:=q3 W' ((hw.block _ (gS q2).1).trans q2) (.string ⟨name.toArray⟩) ⟨_,hnl,rfl⟩
   simp only [keyBs_str,hgs] at hl
   refine ⟨(hw.cell (World.block_lt_of_cell? w _ q1)).trans q1,hl,cH c1 rfl,cH c1 rfl,cH c1 rfl,cH c1 rfl,cH c1 rfl,cH c1 rfl,cH c2 rfl,cH c3 rfl,cH c3 rfl,?_,?_,?_,?_,?_,?_⟩
   ·exact (hw.cell (p:=⟨fa.t.b,fa.t.o,none⟩) tb).trans t0
   ·exact (hw.cell (p:=⟨fa.t.b,fa.t.o+1,none⟩) tb).trans t1
   ·exact (hw.cell (p:=⟨fa.t.b,fa.t.o+2,none⟩) tb).trans t2
   ·exact (hw.cell (p:=⟨fa.t.b,fa.t.o+3,none⟩) tb).trans u0
   ·exact (hw.cell (p:=⟨fa.t.b,fa.t.o+3+1,none⟩) tb).trans u1
   ·exact (hw.cell (p:=⟨fa.t.b,fa.t.o+3+2,none⟩) tb).trans u2)
 have HB:=Lh hb
 have hmf:∀ (fn:Fn) (first cap:Array Value) (w:World),(Instr.makeFunc fn first cap).run Tryz.prog w=.ok (.func fn first cap) w:=fun _ _ _ _=>rfl
 clear hg hx hc hv hb hb1 hb2 hb3 hr hgs hca g1 g4 tb t0 t1 t2 u0 u1 u2 q1 q2 q3
 unfold stV at HV1 HV2 ⊢
 generalize valueF s env t=va at HV1 HCA ⊢
 generalize valueF s env u=vb at HV2 HCA ⊢
 generalize cmpHolds name va vb=res at HCA ⊢
 simp only [hdW,ndV,FrmA.cells,SlA.val,Frm.kind,Frm.name,Frm.n,Frm.terms,Frm.binds,Frm.l,List.length_cons,List.length_nil,Nat.zero_add,Nat.reduceAdd,ta] at HB HK ⊢
 go_enter Tryz.func56,Tryz.ntmps56
 go_wp2_with fail
 go_region_held3 (fun w'=>w'.cell? ⟨0,0,none⟩=some (.map (some mb))/\(Instr.lookup 168 (.map (some mb)) (.string ⟨name.toArray⟩) false).run Tryz.prog w'=.ok (.func (.func gs) #[] #[]) w'/\w'.cell? ⟨w.heap.size,0,none⟩=some (.slice x.slots.a s.slots.length x.slots.cap)/\w'.cell? ⟨w.heap.size,1,none⟩=some (.slice x.rooms.a s.rooms.length x.rooms.cap)/\w'.cell? ⟨w.heap.size,2,none⟩=some (.slice x.people.a s.people.length x.people.cap)/\w'.cell? ⟨w.heap.size,3,none⟩=some (.slice x.groups.a s.groups.length x.groups.cap)/\w'.cell? ⟨w.heap.size,4,none⟩=some (.slice x.lessons.a s.lessons.length x.lessons.cap)/\w'.cell? ⟨w.heap.size,5,none⟩=some (.slice y.a l.length y.cap)/\w'.cell? ⟨w.heap.size+1,0,none⟩=some (.slice z.a env.length z.cap)/\w'.cell? ⟨w.heap.size+1+1,1,none⟩=some (.string ⟨name.toArray⟩)/\w'.cell? ⟨w.heap.size+1+1,3,none⟩=some (.slice (some ⟨fa.t.b,fa.t.o,none⟩) 2 fa.t.cap)/\w'.cell? ⟨fa.t.b,fa.t.o,none⟩=some (.int .i64 t.kind)/\w'.cell? ⟨fa.t.b,fa.t.o+1,none⟩=some (.string ⟨t.name.toArray⟩)/\w'.cell? ⟨fa.t.b,fa.t.o+2,none⟩=some (.int .i64 t.n)/\w'.cell? ⟨fa.t.b,fa.t.o+3,none⟩=some (.int .i64 u.kind)/\w'.cell? ⟨fa.t.b,fa.t.o+3+1,none⟩=some (.string ⟨u.name.toArray⟩)/\w'.cell? ⟨fa.t.b,fa.t.o+3+2,none⟩=some (.int .i64 u.n)) ((refine HK.out _ ?_;first | exact HN2.out | exact HN1.out | exact (Below.refl _ _).drew | fail)) (first
  | (go_at_call 107;refine (HV2.out _ (HB.out.trans (HN1.out.mono HB.out.size))).mono ?_;rintro e w2 ⟨rfl,hbb⟩;have HN2:=Lh (HN1.out.trans (hbb.mono HN1.out.size));clear hbb)
  | (go_at_call 107;refine (HV1.out _ HB.out.drew).mono ?_;rintro e w1 ⟨rfl,hbb⟩;have HN1:=Lh (Below.trans (Below.drew (Below.refl _ _)) hbb);clear hbb)
  | (go_at_call 106;refine (compare_any va vb _).mono ?_;rintro e w3 ⟨rfl,rfl⟩)
  | (refine (HCA.out _).mono ?_;rintro e w3 ⟨rfl,rfl⟩))
 all_goals
  go_wp2_with fail
  go_ret
  exact ⟨rfl,HB.out.trans (HN2.out.mono HB.out.size)⟩
end Go.Proofs.YtjjkfgjnadaheaaGreatDoor
/- eval.holds: atoms. -/
namespace Go.Proofs.YtjjkfgjnadaheaaGreatDoor
open Go.RowKit Go.Chalk
theorem holds_atom (s:Schl) (x:SchA) (l:List Plc) (y:SlA) (env:List Ev) (z:SlA) (kind:Int) (name:Bs) (n:Int) (t u:Trm) (binds:List Bnd) (fl:List Frm) (fa:FrmA) (w:World) (hk:3<=kind/\kind<=8) (hg:GG w) (hx:SlIn w (·<w.heap.size) ([t,u].map Trm.toD) fa.t)
  (hs:SchIn w (·<w.heap.size) s x) (hf:SchFit s) (hy:SlIn w (·<w.heap.size) (l.map Plc.toD) y) (ha:kind=3∨kind=4->0<=(evOf env t.name).at_/\(evOf env t.name).at_<l.length)
  (hv:∀ c∈[t,u],∀ W,Below w.heap.size w W->Calls Tryz.prog 108 #[.slice z.a env.length z.cap,.agg #[.int .i64 c.kind,.string ⟨c.name.toArray⟩,.int .i64 c.n]] W fun e w'=>e=.returned (.int .i64 (evOf env c.name).at_)/\Below W.heap.size W w') :
  Calls Tryz.prog 56 #[stV s x l y,.slice z.a env.length z.cap,ndV (.mk kind name n [t,u] binds fl,fa)] w fun e w'=>e=.returned (.bool (holdsF s l env (.mk kind name n [t,u] binds fl)))/\Below w.heap.size w w':=by
 have hb:=hdW_below w s x l y env z (.mk kind name n [t,u] binds fl) fa
 obtain ⟨hb1,hb2,hb3⟩:=hdW_box w s x l y env z (.mk kind name n [t,u] binds fl) fa
 have hr:holdsF s l env (.mk kind name n [t,u] binds fl)=atomHolds s l kind (evOf env t.name).at_ (evOf env u.name).at_:=by rw [holdsF_two,if_neg (by omega),if_neg (by omega),if_neg (by omega)]
 rw [hr]
 obtain ⟨gs,hgs,hen,hca⟩:=atom_call kind hk
 obtain ⟨g1,_,_,g4,_⟩:=hx.flat Trm.flatT
 obtain ⟨ta,tb⟩:=g1 (by simp)
 obtain ⟨t0,t1,t2⟩:=g4.three 0 (by simp) rfl
 obtain ⟨u0,u1,u2⟩:=g4.three 1 (by simp) rfl
 obtain ⟨mb,mo,q1,q2,q3⟩:=hg.atoms
 have HV1:=Lh (hv t (by simp))
 have HV2:=Lh (hv u (by simp))
 have HCA:=Lh (fun (W:World) (hW:Below w.heap.size w W)=>hca s x l y (evOf env t.name).at_ (evOf env u.name).at_ W (hs.later hW hW.size) hf (hy.later hW hW.size) ha)
 simp only [List.getElem_cons_zero,List.getElem_cons_succ,Nat.zero_mul,Nat.add_zero,Nat.one_mul] at t0 t1 t2 u0 u1 u2
 have HK:Hid (∀ W',Below (hdW w s x l y env z (.mk kind name n [t,u] binds fl) fa).heap.size (hdW w s x l y env z (.mk kind name n [t,u] binds fl) fa) W' ->       W'.cell? ⟨w.heap.size,0,none⟩=some (.slice x.slots.a s.slots.length x.slots.cap)/\W'.cell? ⟨w.heap.size,1,none⟩=some (.slice x.rooms.a s.rooms.length x.rooms.cap)/\W'.cell? ⟨w.heap.size,2,none⟩=some (.slice x.people.a s.people.length x.people.cap)/\W'.cell? ⟨w.heap.size,3,none⟩=some (.slice x.groups.a s.groups.length x.groups.cap)/\W'.cell? ⟨w.heap.size,4,none⟩=some (.slice x.lessons.a s.lessons.length x.lessons.cap)/\W'.cell? ⟨w.heap.size,5,none⟩=some (.slice y.a l.length y.cap) /\
   W'.cell? ⟨w.heap.size+1,0,none⟩=some (.slice z.a env.length z.cap)/\W'.cell? ⟨w.heap.size+1+1,3,none⟩=some (.slice fa.t.a 2 fa.t.cap) /\
   W'.cell? ⟨fa.t.b,fa.t.o,none⟩=some (.int .i64 t.kind)/\W'.cell? ⟨fa.t.b,fa.t.o+1,none⟩=some (.string ⟨t.name.toArray⟩)/\W'.cell? ⟨fa.t.b,fa.t.o+2,none⟩=some (.int .i64 t.n) /\
   W'.cell? ⟨fa.t.b,fa.t.o+3,none⟩=some (.int .i64 u.kind)/\W'.cell? ⟨fa.t.b,fa.t.o+3+1,none⟩=some (.string ⟨u.name.toArray⟩)/\W'.cell? ⟨fa.t.b,fa.t.o+3+2,none⟩=some (.int .i64 u.n)) :=
  Lh (fun W' hW=>by
   have hw:Below w.heap.size w W':=hb.trans (hW.mono hb.size)
   have c1:=(hW.block w.heap.size (gS hb1).1).trans hb1
   have c2:=(hW.block (w.heap.size+1) (gS hb2).1).trans hb2
   have c3:=(hW.block (w.heap.size+1+1) (gS hb3).1).trans hb3
   refine ⟨cH c1 rfl,cH c1 rfl,cH c1 rfl,cH c1 rfl,cH c1 rfl,cH c1 rfl,cH c2 rfl,cH c3 rfl,?_,?_,?_,?_,?_,?_⟩
   ·exact (hw.cell (p:=⟨fa.t.b,fa.t.o,none⟩) tb).trans t0
   ·exact (hw.cell (p:=⟨fa.t.b,fa.t.o+1,none⟩) tb).trans t1
   ·exact (hw.cell (p:=⟨fa.t.b,fa.t.o+2,none⟩) tb).trans t2
   ·exact (hw.cell (p:=⟨fa.t.b,fa.t.o+3,none⟩) tb).trans u0
   ·exact (hw.cell (p:=⟨fa.t.b,fa.t.o+3+1,none⟩) tb).trans u1
   ·exact (hw.cell (p:=⟨fa.t.b,fa.t.o+3+2,none⟩) tb).trans u2)
 have HB:=Lh hb
 have hm0:=(hb.cell (World.block_lt_of_cell? w _ q1)).trans q1
 have hl:=q3 (hdW w s x l y env z (.mk kind name n [t,u] binds fl) fa) ((hb.block _ (gS q2).1).trans q2) (.int .i64 kind) ⟨_,(show I64 kind by unfold I64;omega),rfl⟩
 have hkd:(decide (3<=kind)&&decide (kind<=8))=true:=by simp;omega
 replace hl:=hl.trans (show Result.ok (Value.tuple #[atomFn kind,.bool (decide (3<=kind)&&decide (kind<=8))]) _=Result.ok (Value.tuple #[.func (.func gs) #[] #[],.bool true]) _ by rw [hgs,hkd])
 have k1:(kind==1)=false:=by simp;omega
 have k2:(kind==2)=false:=by simp;omega
 have k9:(kind==9)=false:=by simp;omega
 have k10:(kind==10)=false:=by simp;omega
 have k11:(kind==11)=false:=by simp;omega
 have k12:(kind==12)=false:=by simp;omega
 have k13:(kind==13)=false:=by simp;omega
 have hmf:∀ (fn:Fn) (first cap:Array Value) (w:World),(Instr.makeFunc fn first cap).run Tryz.prog w=.ok (.func fn first cap) w:=fun _ _ _ _=>rfl
 clear hg hx hs hf hy ha hk hkd hv hb hb1 hb2 hb3 hr hgs hca g1 g4 tb t0 t1 t2 u0 u1 u2 q1 q2 q3
 unfold stV at HCA ⊢
 generalize (evOf env t.name).at_=va at HV1 HCA ⊢
 generalize (evOf env u.name).at_=vb at HV2 HCA ⊢
 generalize atomHolds s l kind va vb=res at HCA ⊢
 simp only [hdW,ndV,FrmA.cells,SlA.val,Frm.kind,Frm.name,Frm.n,Frm.terms,Frm.binds,Frm.l,List.length_cons,List.length_nil,Nat.zero_add,Nat.reduceAdd,ta] at HB HK hl hm0 ⊢
 go_enter Tryz.func56,Tryz.ntmps56
 go_wp2_with fail
 go_region_held3 (fun w'=>w'.cell? ⟨w.heap.size,0,none⟩=some (.slice x.slots.a s.slots.length x.slots.cap)/\w'.cell? ⟨w.heap.size,1,none⟩=some (.slice x.rooms.a s.rooms.length x.rooms.cap)/\w'.cell? ⟨w.heap.size,2,none⟩=some (.slice x.people.a s.people.length x.people.cap)/\w'.cell? ⟨w.heap.size,3,none⟩=some (.slice x.groups.a s.groups.length x.groups.cap)/\w'.cell? ⟨w.heap.size,4,none⟩=some (.slice x.lessons.a s.lessons.length x.lessons.cap)/\w'.cell? ⟨w.heap.size,5,none⟩=some (.slice y.a l.length y.cap)/\w'.cell? ⟨w.heap.size+1,0,none⟩=some (.slice z.a env.length z.cap)/\w'.cell? ⟨w.heap.size+1+1,3,none⟩=some (.slice (some ⟨fa.t.b,fa.t.o,none⟩) 2 fa.t.cap)/\w'.cell? ⟨fa.t.b,fa.t.o,none⟩=some (.int .i64 t.kind)/\w'.cell? ⟨fa.t.b,fa.t.o+1,none⟩=some (.string ⟨t.name.toArray⟩)/\w'.cell? ⟨fa.t.b,fa.t.o+2,none⟩=some (.int .i64 t.n)/\w'.cell? ⟨fa.t.b,fa.t.o+3,none⟩=some (.int .i64 u.kind)/\w'.cell? ⟨fa.t.b,fa.t.o+3+1,none⟩=some (.string ⟨u.name.toArray⟩)/\w'.cell? ⟨fa.t.b,fa.t.o+3+2,none⟩=some (.int .i64 u.n)) ((refine HK.out _ ?_;first | exact HN3.out | exact HN2.out | exact HN1.out | exact (Below.refl _ _).drew | fail)) (first
  | (go_at_call 108;refine (HV2.out _ (HB.out.trans (HN1.out.mono HB.out.size))).mono ?_;rintro e w2 ⟨rfl,hbb⟩;have HN2:=Lh (HN1.out.trans (hbb.mono HN1.out.size));clear hbb)
  | (go_at_call 108;refine (HV1.out _ HB.out.drew).mono ?_;rintro e w1 ⟨rfl,hbb⟩;have HN1:=Lh (Below.trans (Below.drew (Below.refl _ _)) hbb);clear hbb)
  | (refine (HCA.out _ (HB.out.trans (HN2.out.mono HB.out.size))).mono ?_;rintro e w3 ⟨rfl,hbb⟩;have HN3:=Lh (HN2.out.trans (hbb.mono HN2.out.size));clear hbb))
 all_goals
  go_wp2_with fail
  go_ret
  exact ⟨rfl,HB.out.trans (HN3.out.mono HB.out.size)⟩
end Go.Proofs.YtjjkfgjnadaheaaGreatDoor
/- eval.holds: quantifiers. -/
namespace Go.Proofs.YtjjkfgjnadaheaaGreatDoor
open Go.RowKit Go.Chalk
attribute [local go_sem] Oper.semAt_some
theorem holds_quant (s:Schl) (x:SchA) (l:List Plc) (y:SlA) (env:List Ev) (z:SlA) (kind:Int) (name:Bs) (n:Int) (binds:List Bnd) (g:Frm) (fa:FrmA) (w:World) (hk:14<=kind/\kind<=17) (hg:GG w) (hI:ItoaAt) (hs:SchIn w (·<w.heap.size) s x) (hf:SchSmall s)
  (hx:FrmIn w (·<w.heap.size) (.mk kind name n [] binds [g]) fa) (hz:SlIn w (·<w.heap.size) (env.map Ev.toD) z) (hlen:env.length+binds.length<=2000000) (hmany:(tuplesF (sizesF s binds)).length<=1048576)
  (ih:∀ (t:List Nat) (ht:t∈tuplesF (sizesF s binds)) (y1:FrmA) (z1:SlA) (W:World),Below w.heap.size w W->FrmIn w (·<w.heap.size) g y1->SlIn W (·<W.heap.size) ((withF env binds t).map Ev.toD) z1->Calls Tryz.prog 56 #[stV s x l y,.slice z1.a (withF env binds t).length z1.cap,ndV (g,y1)] W fun e w'=>e=.returned (.bool (holdsF s l (withF env binds t) g))/\Below W.heap.size W w') :
  Calls Tryz.prog 56 #[stV s x l y,.slice z.a env.length z.cap,ndV (.mk kind name n [] binds [g],fa)] w fun e w'=>e=.returned (.bool (holdsF s l env (.mk kind name n [] binds [g])))/\Below w.heap.size w w':=by
 have hb:=hdW_below w s x l y env z (.mk kind name n [] binds [g]) fa
 have hr:holdsF s l env (.mk kind name n [] binds [g])=quantHolds kind n ((tuplesF (sizesF s binds)).countP (fun t=>holdsF s l (withF env binds t) g)) (tuplesF (sizesF s binds)).length:=by
  rw [holdsF_nil,if_neg (by omega),if_neg (by omega),if_neg (by omega),if_neg (by omega),if_neg (by omega),if_neg (by omega)]
  simp only [holdsAt]
 rw [hr]
 obtain ⟨y1,h1,h2⟩:=hx.l.frm 0 (by simp [Frm.l])
 obtain ⟨hla,hlb⟩:=hx.l.at_ (by simp [Frm.l])
 obtain ⟨mb,mo,q1,q2,q3⟩:=hg.atoms
 have hm0:=(hb.cell (World.block_lt_of_cell? w _ q1)).trans q1
 have hl:=q3 (hdW w s x l y env z (.mk kind name n [] binds [g]) fa) ((hb.block _ (gS q2).1).trans q2) (.int .i64 kind) ⟨_,(show I64 kind by unfold I64;omega),rfl⟩
 have hkd:(decide (3<=kind)&&decide (kind<=8))=false:=by simp;omega
 have hat:atomFn kind=.nilFunc:=by unfold atomFn;rw [if_neg (by omega),if_neg (by omega),if_neg (by omega),if_neg (by omega),if_neg (by omega),if_neg (by omega)]
 replace hl:=hl.trans (show Result.ok (Value.tuple #[atomFn kind,.bool (decide (3<=kind)&&decide (kind<=8))]) _=Result.ok (Value.tuple #[.nilFunc,.bool false]) _ by rw [hat,hkd])
 have k1:(kind==1)=false:=by simp;omega
 have k2:(kind==2)=false:=by simp;omega
 have k9:(kind==9)=false:=by simp;omega
 have k10:(kind==10)=false:=by simp;omega
 have k11:(kind==11)=false:=by simp;omega
 have k12:(kind==12)=false:=by simp;omega
 have k13:(kind==13)=false:=by simp;omega
 have HB:=Lh hb
 have hmf:∀ (fn:Fn) (first cap:Array Value) (w:World),(Instr.makeFunc fn first cap).run Tryz.prog w=.ok (.func fn first cap) w:=fun _ _ _ _=>rfl
 have HET:=Lh (fun (W:World) (hW:Below w.heap.size w W)=>etuples_any s x binds fa.b W hI (hs.later hW hW.size) hf (hx.binds.later hW hW.size) (by omega))
 unfold stV at ih ⊢
 have HIH:=Lh ih
 have HX:=Lh hx
 have HZ:=Lh hz
 have HK:=Lh hk
 have HL:=Lh hlen
 clear hg hx hs hf hz hk hkd hat ih hr q1 q2 q3 hI
 simp only [hdW,ndV,FrmA.cells,SlA.val,Frm.kind,Frm.name,Frm.n,Frm.terms,Frm.binds,Frm.l,List.length_cons,List.length_nil,Nat.zero_add,Nat.reduceAdd,SchA.cells,hla] at HB hl hm0 HET ⊢
 have HLB:=Lh (aI h2 hlb)
 clear hlb h2 hla
 refine (callsIn_wide (n:=0)).1 (callsIn_of_wp_marks Tryz.func56 rfl trivial ?_)
 simp only [Tryz.ntmps56,List.size_toArray,List.length_cons,List.length_nil,Nat.reduceAdd,Nat.reduceSub,Array.replicate_succ,Array.replicate_zero,List.push_toArray,List.append_toArray,List.nil_append,List.cons_append]
 gi_wp2_with fail
 refine ⟨trivial,rfl,?_⟩
 generalize hW5:(((((w.alloc _).alloc _).alloc _).alloc _).alloc _)=W5
 have hsz:W5.heap.size=w.heap.size+5:=by rw [<- hW5];simp
 have hb5:Below w.heap.size w W5:=by rw [<- hW5];exact (((((Below.refl _ _).alloc (Nat.le_refl _) _).alloc (by simp) _).alloc (by simp;omega) _).alloc (by simp;omega) _).alloc (by simp;omega) _
 have g0:W5.heap[w.heap.size]?=some (.cells #[.slice x.slots.a s.slots.length x.slots.cap,.slice x.rooms.a s.rooms.length x.rooms.cap,.slice x.people.a s.people.length x.people.cap,.slice x.groups.a s.groups.length x.groups.cap,.slice x.lessons.a s.lessons.length x.lessons.cap,.slice y.a l.length y.cap] 105 (0,0)):=by rw [<- hW5];simp only [heap_get,World.size_alloc];repeat (first | rw [if_pos trivial] | rw [if_pos (by omega)] | rw [if_neg (by omega)])
 have g1:W5.heap[w.heap.size+1]?=some (.cells #[.slice z.a env.length z.cap] 29 (0,0)):=by rw [<- hW5];simp only [heap_get,World.size_alloc];repeat (first | rw [if_pos trivial] | rw [if_pos (by omega)] | rw [if_neg (by omega)])
 have g2:W5.heap[w.heap.size+1+1]?=some (.cells #[.int .i64 kind,.string ⟨name.toArray⟩,.int .i64 n,.slice fa.t.a 0 fa.t.cap,.slice fa.b.a binds.length fa.b.cap,.slice (some ⟨fa.l.b,fa.l.o,none⟩) 1 fa.l.cap] 34 (0,0)):=by rw [<- hW5];simp only [heap_get,World.size_alloc];repeat (first | rw [if_pos trivial] | rw [if_pos (by omega)] | rw [if_neg (by omega)])
 have g3:W5.heap[w.heap.size+1+1+1]?=some (.cells #[.int .i64 0] 3 (0,0)):=by rw [<- hW5];simp only [heap_get,World.size_alloc];repeat (first | rw [if_pos trivial] | rw [if_pos (by omega)] | rw [if_neg (by omega)])
 have g4:W5.heap[w.heap.size+1+1+1+1]?=some (.cells #[.int .i64 0] 3 (0,0)):=by rw [<- hW5];simp only [heap_get,World.size_alloc];repeat (first | rw [if_pos trivial] | rw [if_pos (by omega)] | rw [if_neg (by omega)])
 refine (callsIn_wide.2 (HET.out W5 hb5)).mono ?_
 rintro e w6 ⟨sb,lb,rfl,hit,hb6⟩
 have k0:∀ {k:Nat} {o:Obj},W5.heap[k]?=some o->w6.heap[k]?=some o:=fun h=>(hb6.block _ (gS h).1).trans h
 have G:Hid (W5.heap.size=w.heap.size+5/\W5.heap.size<=w6.heap.size/\Below w.heap.size w w6/\w6.heap[w.heap.size]?=some _/\w6.heap[w.heap.size+1]?=some _/\w6.heap[w.heap.size+1+1]?=some _/\w6.heap[w.heap.size+1+1+1]?=some _/\w6.heap[w.heap.size+1+1+1+1]?=some _):=Lh ⟨hsz,hb6.size,hb5.trans (hb6.mono hb5.size),k0 g0,k0 g1,k0 g2,k0 g3,k0 g4⟩
 have HIT:=Lh hit
 clear hsz hb5 g0 g1 g2 g3 g4 k0 hit hb6 hW5 HET hb hl hm0
 gi_wp2_with fail
 -- THE RANGE
 refine wp_rangeV_fx (gf:=181) (lb:=#[.pointer (some ⟨sb,0,none⟩),.pointer (some ⟨lb,0,none⟩)]) rfl (enters_of Tryz.func181 (by kernel_rfl) rfl)
  HIT.out rfl (fun k=>k=w.heap.size+1+1+1∨k=w.heap.size+1+1+1+1) (fun k hk=>by have:=G.out.1;omega) (fun k hk=>by have:=G.out.1;have:=G.out.2.1;omega)
  (fun i W=>W.heap[w.heap.size+1+1+1]?=some (.cells #[.int .i64 (((tuplesF (sizesF s binds)).take i).countP (fun t=>holdsF s l (withF env binds t) g))] 3 (0,0))/\W.heap[w.heap.size+1+1+1+1]?=some (.cells #[.int .i64 i] 3 (0,0)))
  (fun c i W=>False)
  ?hI ?hIx ⟨G.out.2.2.2.2.2.2.1,G.out.2.2.2.2.2.2.2⟩ (fun lp i a' W=>∃ (z1:SlA) (S:Nat->Prop),(∀ k,S k->k ≠ lp/\k<W.heap.size/\¬ (k=w.heap.size+1+1+1∨k=w.heap.size+1+1+1+1))/\SlIn W S (dints (nats ((tuplesF (sizesF s binds))[i]?.getD []))) z1/\a' = { tmps:=#[Value.agg #[Value.slice x.slots.a s.slots.length x.slots.cap,Value.slice x.rooms.a s.rooms.length x.rooms.cap,Value.slice x.people.a s.people.length x.people.cap,Value.slice x.groups.a s.groups.length x.groups.cap,Value.slice x.lessons.a s.lessons.length x.lessons.cap,Value.slice y.a l.length y.cap],Value.slice z.a env.length z.cap,Value.agg #[Value.int IntKind.i64 kind,Value.string { data:=List.toArray name },Value.int IntKind.i64 n,Value.slice fa.t.a 0 fa.t.cap,Value.slice fa.b.a binds.length fa.b.cap,Value.slice (some { block:=fa.l.b,off:=fa.l.o }) 1 fa.l.cap],Value.pointer (some { block:=w.heap.size,off:=0 }),Value.pointer (some { block:=w.heap.size+1,off:=0 }),Value.pointer (some { block:=w.heap.size+1+1,off:=0 }),Value.bool false,Value.func (Fn.func 105) #[] #[Value.pointer (some { block:=w.heap.size,off:=0 }),Value.pointer (some { block:=w.heap.size+1,off:=0 }),Value.pointer (some { block:=w.heap.size+1+1,off:=0 })],Value.nilFunc,Value.bool false,Value.pointer (some { block:=w.heap.size+1+1+1,off:=0 }),Value.pointer (some { block:=w.heap.size+1+1+1+1,off:=0 }),.slice z1.a binds.length z1.cap,Value.func (Fn.func 105) #[] #[Value.pointer (some { block:=w.heap.size,off:=0 }),Value.pointer (some { block:=w.heap.size+1,off:=0 }),Value.pointer (some { block:=w.heap.size+1+1,off:=0 })],Value.pointer (some { block:=w.heap.size+1+1,off:=0 }),Value.int IntKind.i64 kind,Value.bool false,Value.bool false,Value.bool false,undef,undef,undef,Value.bool false,Value.bool false,undef,undef,undef,undef,undef,undef,undef,undef,undef,undef,undef,undef,undef,undef,undef,undef,undef,undef,undef,undef,Value.bool false,Value.bool false,undef,undef,undef,Value.bool false,Value.bool false,undef,undef,undef,undef,undef,undef,Value.bool false,Value.bool false,undef,undef,undef,undef,undef,undef,Value.bool false,Value.bool false,undef,undef,undef,undef,undef,undef,undef,Value.tuple #[Value.nilFunc,Value.bool false],Value.map (some mb),Value.pointer (some { block:=w.heap.size+1+1,off:=0 }),Value.int IntKind.i64 kind,Value.tuple #[Value.nilFunc,Value.bool false],Value.nilFunc,Value.bool false,Value.bool false,undef,undef,undef,undef,undef,undef,undef,undef,undef,undef,undef,undef,undef,undef,undef,Value.pointer (some { block:=w.heap.size,off:=0 }),Value.agg #[Value.slice x.slots.a s.slots.length x.slots.cap,Value.slice x.rooms.a s.rooms.length x.rooms.cap,Value.slice x.people.a s.people.length x.people.cap,Value.slice x.groups.a s.groups.length x.groups.cap,Value.slice x.lessons.a s.lessons.length x.lessons.cap],Value.pointer (some { block:=w.heap.size+1+1,off:=4 }),Value.slice fa.b.a binds.length fa.b.cap,Value.func (Fn.func 181) #[] #[Value.pointer (some { block:=sb,off:=0 }),Value.pointer (some { block:=lb,off:=0 })],.slice z1.a binds.length z1.cap,undef,undef,undef,undef,undef,undef,undef,undef,undef,undef,undef,undef,undef,undef,undef,undef,undef,undef,undef,undef,undef,undef,undef,undef,undef,undef,undef,undef,undef,undef,undef,undef,undef,undef,undef,undef],defers:=[] }) ?hAx ?assign ?body ?done ?stop
 case hI=>exact (FixStab.box (T:=fun k=>k=w.heap.size+1+1+1∨k=w.heap.size+1+1+1+1) (B:=w.heap.size+1+1+1) (o:=fun i=>.cells #[.int .i64 (((tuplesF (sizesF s binds)).take i).countP (fun t=>holdsF s l (withF env binds t) g))] 3 (0,0)) (.inl rfl)).and (FixStab.box (T:=fun k=>k=w.heap.size+1+1+1∨k=w.heap.size+1+1+1+1) (B:=w.heap.size+1+1+1+1) (o:=fun i=>.cells #[.int .i64 i] 3 (0,0)) (.inr rfl))
 case hIx=>exact fun c i A B S h hm hS=>h
 case hAx=>exact fun lp i a' A B ⟨z1,S,h1,h2,h3⟩ hm=>⟨z1,S,fun k hk=>⟨(h1 k hk).1,Nat.lt_of_lt_of_le (h1 k hk).2.1 hm.size,(h1 k hk).2.2⟩,h2.agree (hm.agree (fun k hk=>⟨(h1 k hk).2.1,(h1 k hk).1⟩)),h3⟩
 case assign =>
  rintro lp i v S W K hi ⟨z1,rfl,hz1⟩ hv hS hm hI hlt hK
  have HA:=Lh (aI hI (aI hz1 hS))
  have HKK:=Lh hK
  have hsl:(sizesF s binds).length=binds.length:=by simp [sizesF]
  rw [hsl]
  clear hK hI hz1 hS hv hsl
  simp only [SlA.val]
  gi_wp2_with fail
  exact HKK.out _ _ (Chalk.Mod.refl _ _) HA.out.1 ⟨z1,S,fun k hk=>⟨(HA.out.2.2 k hk).2.2.2,(HA.out.2.2 k hk).2.1,(HA.out.2.2 k hk).2.2.1⟩,HA.out.2.1,rfl⟩
 case body =>
  rintro lp i a' W hi hm ⟨hn,ha⟩ ⟨z1,S,hS,hz1,rfl⟩ hT hwl hnl
  have hbW:Below w.heap.size w W:=G.out.2.2.1.trans (hm.below (by have:=G.out.1;have:=G.out.2.1;omega) (fun k hk=>by omega))
  have f0:=heap_kept G.out.2.2.2.1 hm (by omega)
  have f1:=heap_kept G.out.2.2.2.2.1 hm (by omega)
  have f2:=heap_kept G.out.2.2.2.2.2.1 hm (by omega)
  have q0:W.cell? ⟨w.heap.size+1+1+1+1,0,none⟩=some (.int .i64 i):=cH ha rfl
  have q1:W.frozen? ⟨w.heap.size+1+1+1+1,0,none⟩=false:=fH ha
  have hib:(i:Int)<1048576:=by omega
  have HM:=Lh (aI hm (aI hbW (aI hn (aI ha (aI f0 (aI f1 f2))))))
  have HS1:=Lh (aI hS hz1)
  have HI0:=Lh hi
  clear hm hn ha hS hz1 hbW f0 f1 f2 hi hT hwl hnl
  gi_wp2_with fail
  obtain ⟨W1,hW1⟩:∃ W1,W1=W.setCell ⟨w.heap.size+1+1+1+1,0,none⟩ (.int .i64 ((i:Int)+1)):=⟨_,rfl⟩
  rw [<- hW1]
  have m1:Chalk.Mod (fun k=>k=w.heap.size+1+1+1∨k=w.heap.size+1+1+1+1) W W1:=by rw [hW1];exact (Chalk.Mod.refl (fun k=>k=w.heap.size+1+1+1∨k=w.heap.size+1+1+1+1) _).setCell (p:=⟨w.heap.size+1+1+1+1,0,none⟩) (fun _=>.inr rfl) _
  have m2:Chalk.Mod (fun k=>k=w.heap.size+1+1+1+1) W W1:=by rw [hW1];exact (Chalk.Mod.refl (fun k=>k=w.heap.size+1+1+1+1) _).setCell (p:=⟨w.heap.size+1+1+1+1,0,none⟩) (fun _=>rfl) _
  have a1:W1.heap[w.heap.size+1+1+1+1]?=some (.cells #[.int .i64 ((i+1:Nat):Int)] 3 (0,0)):=by rw [hW1,box_store _ HM.out.2.2.2.1];rfl
  have n1:=heap_kept HM.out.2.2.1 m2 (by omega)
  have e0:=heap_kept HM.out.2.2.2.2.1 m1 (by omega)
  have e1:=heap_kept HM.out.2.2.2.2.2.1 m1 (by omega)
  have e2:=heap_kept HM.out.2.2.2.2.2.2 m1 (by omega)
  have hbW1:Below w.heap.size w W1:=HM.out.2.1.trans (m1.below (by have:=HM.out.2.1.size;omega) (fun k hk=>by omega))
  have hzz:SlIn W1 (·<W1.heap.size) (dints (nats ((tuplesF (sizesF s binds))[i]?.getD []))) z1:=(HS1.out.2.agree (m1.agree (fun k hk=>⟨(HS1.out.1 k hk).2.1,(HS1.out.1 k hk).2.2⟩))).mono (fun k hk=>Nat.lt_of_lt_of_le (HS1.out.1 k hk).2.1 m1.size)
  have hgt:(tuplesF (sizesF s binds))[i]?.getD []=(tuplesF (sizesF s binds))[i]'HI0.out:=by rw [List.getElem?_eq_getElem HI0.out];rfl
  have hmem:(tuplesF (sizesF s binds))[i]'HI0.out∈tuplesF (sizesF s binds):=List.getElem_mem _
  have hcn:((((tuplesF (sizesF s binds)).take (i+1)).countP (fun t=>holdsF s l (withF env binds t) g):Nat):Int)=(((tuplesF (sizesF s binds)).take i).countP (fun t=>holdsF s l (withF env binds t) g):Nat)+(if holdsF s l (withF env binds ((tuplesF (sizesF s binds))[i]'HI0.out)) g=true then 1 else 0):=by
   rw [List.take_succ_eq_append_getElem HI0.out,List.countP_append,List.countP_singleton];split <;> simp
  have hcl:((((tuplesF (sizesF s binds)).take i).countP (fun t=>holdsF s l (withF env binds t) g):Nat):Int)<1048576:=by
   have h:=List.countP_le_length (p:=fun t=>holdsF s l (withF env binds t) g) (l:=(tuplesF (sizesF s binds)).take i)
   have h2:=List.length_take_le i (tuplesF (sizesF s binds))
   have:=HI0.out
   omega
  rw [hgt] at hzz
  generalize (tuplesF (sizesF s binds))[i]'HI0.out=t at hzz hmem hcn
  have htl:t.length=binds.length:=((tuples_mem _ _).1 hmem).1.trans (by simp [sizesF])
  have HIV:=Lh (fun (x0:SlA) (W2:World) (hb2:Below W1.heap.size W1 W2) (hx0:SlIn W2 (·<W2.heap.size) ((withF env binds t).map Ev.toD) x0)=>HIH.out t hmem y1 x0 W2 (hbW1.trans (hb2.mono hbW1.size)) h1 hx0)
  have hwt:=with_any env z binds fa.b t z1 W1.drew (HZ.out.later hbW1.drew hbW1.drew.size) (HX.out.binds.later hbW1.drew hbW1.drew.size) (hzz.later (Below.refl _ _).drew (Nat.le_refl _)) HL.out htl
  rw [htl] at hwt
  have HWT:Hid (Calls Tryz.prog 110 #[.slice z.a env.length z.cap,.slice fa.b.a binds.length fa.b.cap,.slice z1.a binds.length z1.cap] W1.drew fun e w'=>∃ x0:SlA,e=.returned (.slice x0.a (withF env binds t).length x0.cap)/\SlIn w' (·<w'.heap.size) ((withF env binds t).map Ev.toD) x0/\Below W1.drew.heap.size W1.drew w'):=Lh (hwt.mono (by
   rintro e w' ⟨v,rfl,hon,hb⟩
   obtain ⟨x0,rfl,hx0⟩:=hon.onto.sl (by rw [widths_map Ev.flatT,List.length_map])
   exact ⟨x0,by rw [List.length_map],hx0,hb⟩))
  have HKS:Hid (∀ W',Below W1.heap.size W1 W'->W'.cell? ⟨w.heap.size,0,none⟩=some (.slice x.slots.a s.slots.length x.slots.cap)/\W'.cell? ⟨w.heap.size,1,none⟩=some (.slice x.rooms.a s.rooms.length x.rooms.cap)/\W'.cell? ⟨w.heap.size,2,none⟩=some (.slice x.people.a s.people.length x.people.cap)/\W'.cell? ⟨w.heap.size,3,none⟩=some (.slice x.groups.a s.groups.length x.groups.cap)/\W'.cell? ⟨w.heap.size,4,none⟩=some (.slice x.lessons.a s.lessons.length x.lessons.cap)/\W'.cell? ⟨w.heap.size,5,none⟩=some (.slice y.a l.length y.cap)/\W'.cell? ⟨w.heap.size+1,0,none⟩=some (.slice z.a env.length z.cap)/\W'.cell? ⟨w.heap.size+1+1,4,none⟩=some (.slice fa.b.a binds.length fa.b.cap)/\W'.cell? ⟨w.heap.size+1+1,5,none⟩=some (.slice (some ⟨fa.l.b,fa.l.o,none⟩) 1 fa.l.cap)/\W'.cell? ⟨fa.l.b,fa.l.o,none⟩=some (.int .i64 g.kind)/\W'.cell? ⟨fa.l.b,fa.l.o+1,none⟩=some (.string ⟨g.name.toArray⟩)/\W'.cell? ⟨fa.l.b,fa.l.o+2,none⟩=some (.int .i64 g.n)/\W'.cell? ⟨fa.l.b,fa.l.o+3,none⟩=some (.slice y1.t.a g.terms.length y1.t.cap)/\W'.cell? ⟨fa.l.b,fa.l.o+4,none⟩=some (.slice y1.b.a g.binds.length y1.b.cap)/\W'.cell? ⟨fa.l.b,fa.l.o+5,none⟩=some (.slice y1.l.a g.l.length y1.l.cap)) :=
   Lh (fun W' hW=>by
    have hw:Below w.heap.size w W':=hbW1.trans (hW.mono hbW1.size)
    have c1:=(hW.block w.heap.size (gS e0).1).trans e0
    have c2:=(hW.block (w.heap.size+1) (gS e1).1).trans e1
    have c3:=(hW.block (w.heap.size+1+1) (gS e2).1).trans e2
    obtain ⟨d0,d1,d2,d3,d4,d5⟩:=(HLB.out.1).six
    simp only [Nat.zero_mul,Nat.add_zero,Frm.l,List.getElem_cons_zero,SlA.val] at d0 d1 d2 d3 d4 d5
    have hlb:=HLB.out.2
    refine ⟨cH c1 rfl,cH c1 rfl,cH c1 rfl,cH c1 rfl,cH c1 rfl,cH c1 rfl,cH c2 rfl,cH c3 rfl,cH c3 rfl,?_,?_,?_,?_,?_,?_⟩
    ·exact (hw.cell (p:=⟨fa.l.b,fa.l.o,none⟩) hlb).trans d0
    ·exact (hw.cell (p:=⟨fa.l.b,fa.l.o+1,none⟩) hlb).trans d1
    ·exact (hw.cell (p:=⟨fa.l.b,fa.l.o+2,none⟩) hlb).trans d2
    ·exact (hw.cell (p:=⟨fa.l.b,fa.l.o+3,none⟩) hlb).trans d3
    ·exact (hw.cell (p:=⟨fa.l.b,fa.l.o+4,none⟩) hlb).trans d4
    ·exact (hw.cell (p:=⟨fa.l.b,fa.l.o+5,none⟩) hlb).trans d5)
  have HN:=Lh (aI hcn (aI hcl (aI n1 (aI a1 m1))))
  clear hgt hmem hcn hcl n1 a1 m1 m2 e0 e1 e2 hbW1 hzz hwt hW1 q0 q1 hib HIH HM HS1
  generalize holdsF s l (withF env binds t) g=pv at HIV HN
  simp only [ndV,FrmA.cells,SlA.val] at HIV
  refine wpIn_round_held (S:=(fun w':World=>w'.cell? ⟨w.heap.size,0,none⟩=some (.slice x.slots.a s.slots.length x.slots.cap)/\w'.cell? ⟨w.heap.size,1,none⟩=some (.slice x.rooms.a s.rooms.length x.rooms.cap)/\w'.cell? ⟨w.heap.size,2,none⟩=some (.slice x.people.a s.people.length x.people.cap)/\w'.cell? ⟨w.heap.size,3,none⟩=some (.slice x.groups.a s.groups.length x.groups.cap)/\w'.cell? ⟨w.heap.size,4,none⟩=some (.slice x.lessons.a s.lessons.length x.lessons.cap)/\w'.cell? ⟨w.heap.size,5,none⟩=some (.slice y.a l.length y.cap)/\w'.cell? ⟨w.heap.size+1,0,none⟩=some (.slice z.a env.length z.cap)/\w'.cell? ⟨w.heap.size+1+1,4,none⟩=some (.slice fa.b.a binds.length fa.b.cap)/\w'.cell? ⟨w.heap.size+1+1,5,none⟩=some (.slice (some ⟨fa.l.b,fa.l.o,none⟩) 1 fa.l.cap)/\w'.cell? ⟨fa.l.b,fa.l.o,none⟩=some (.int .i64 g.kind)/\w'.cell? ⟨fa.l.b,fa.l.o+1,none⟩=some (.string ⟨g.name.toArray⟩)/\w'.cell? ⟨fa.l.b,fa.l.o+2,none⟩=some (.int .i64 g.n)/\w'.cell? ⟨fa.l.b,fa.l.o+3,none⟩=some (.slice y1.t.a g.terms.length y1.t.cap)/\w'.cell? ⟨fa.l.b,fa.l.o+4,none⟩=some (.slice y1.b.a g.binds.length y1.b.cap)/\w'.cell? ⟨fa.l.b,fa.l.o+5,none⟩=some (.slice y1.l.a g.l.length y1.l.cap))) (by kernel_rfl) (by kernel_rfl) (HKS.out _ (Below.refl _ _).drew) (fun hHeld=>?_)
  refine tkA (i:=0) rfl hHeld ?_ (hQ:=plain_put)
  try simp only [Act.put,List.setIfInBounds_toArray,List.set_cons_zero,List.set_cons_succ]
  refine tkA (i:=1) rfl hHeld ?_ (hQ:=plain_put)
  try simp only [Act.put,List.setIfInBounds_toArray,List.set_cons_zero,List.set_cons_succ]
  refine tkA (i:=2) rfl hHeld ?_ (hQ:=plain_put)
  try simp only [Act.put,List.setIfInBounds_toArray,List.set_cons_zero,List.set_cons_succ]
  refine tkA (i:=3) rfl hHeld ?_ (hQ:=plain_put)
  try simp only [Act.put,List.setIfInBounds_toArray,List.set_cons_zero,List.set_cons_succ]
  refine tkA (i:=4) rfl hHeld ?_ (hQ:=plain_put)
  try simp only [Act.put,List.setIfInBounds_toArray,List.set_cons_zero,List.set_cons_succ]
  refine tkA (i:=6) rfl hHeld ?_ (hQ:=plain_put)
  try simp only [Act.put,List.setIfInBounds_toArray,List.set_cons_zero,List.set_cons_succ]
  refine tkA (i:=7) rfl hHeld ?_ (hQ:=plain_put)
  try simp only [Act.put,List.setIfInBounds_toArray,List.set_cons_zero,List.set_cons_succ]
  refine tkA (i:=8) rfl hHeld ?_ (hQ:=plain_put)
  try simp only [Act.put,List.setIfInBounds_toArray,List.set_cons_zero,List.set_cons_succ]
  refine tkA (i:=9) rfl hHeld ?_ (hQ:=plain_put)
  try simp only [Act.put,List.setIfInBounds_toArray,List.set_cons_zero,List.set_cons_succ]
  refine wpAnyH_ready (rs:=[5]) (by kernel_rfl) (by simp) ?_
  refine cons_at rfl (fun K hK=>?_) AllReadyH.nil
  go_simp
  go_at_call 110
  refine (HWT.out).mono ?_
  rintro e w2 ⟨x0,rfl,hx0,hb2⟩
  have HB2:=Lh (aI hx0 (Below.trans (Below.drew (Below.refl _ _)) hb2))
  clear hx0 hb2
  go_simp
  refine hK.out _ _ ?_ (fun hHeld2=>?_)
  ·exact HKS.out _ HB2.out.2
  clear hK K hHeld
  have hHeld:=hHeld2
  clear hHeld2
  try simp only [Act.put,List.setIfInBounds_toArray,List.set_cons_zero,List.set_cons_succ]
  have HIW:=Lh (HIV.out x0 w2 HB2.out.2 HB2.out.1)
  refine wpAnyH_ready (rs:=[10]) (by kernel_rfl) (by simp) ?_
  refine cons_at rfl (fun K hK=>?_) AllReadyH.nil
  go_simp
  go_at_call 56
  refine HIW.out.mono ?_
  rintro e w3 ⟨rfl,hb3⟩
  have HB3:=Lh (HB2.out.2.trans (hb3.mono HB2.out.2.size))
  clear hb3
  go_simp
  refine hK.out _ _ ?_ (fun hHeld2=>?_)
  ·exact HKS.out _ HB3.out
  clear hK K hHeld
  have hHeld:=hHeld2
  clear hHeld2
  try simp only [Act.put,List.setIfInBounds_toArray,List.set_cons_zero,List.set_cons_succ]
  refine wpAnyH_done (by kernel_rfl) ?_ _
  refine ⟨rfl,?_⟩
  have n3:=(HB3.out.block _ (gS HN.out.2.2.1).1).trans HN.out.2.2.1
  have a3:=(HB3.out.block _ (gS HN.out.2.2.2.1).1).trans HN.out.2.2.2.1
  have m3:Chalk.Mod (fun k=>k=w.heap.size+1+1+1∨k=w.heap.size+1+1+1+1) W w3:=HN.out.2.2.2.2.trans (Chalk.Mod.of_below (S:=fun k=>k=w.heap.size+1+1+1∨k=w.heap.size+1+1+1+1) HB3.out) (fun _ _ h=>h)
  have hcn:=HN.out.1
  have hcl:=HN.out.2.1
  generalize List.countP (fun t=>holdsF s l (withF env binds t) g) (List.take i (tuplesF (sizesF s binds)))=cn at n3 hcn hcl
  have q2:w3.cell? ⟨w.heap.size+1+1+1,0,none⟩=some (.int .i64 cn):=cH n3 rfl
  have q3:w3.frozen? ⟨w.heap.size+1+1+1,0,none⟩=false:=fH n3
  have HE:=Lh (aI hcn (aI n3 (aI a3 m3)))
  clear n3 a3 m3 hcn hHeld
  cases pv
  ·gi_wp2_with fail
   refine ⟨HE.out.2.2.2,?_,HE.out.2.2.1⟩
   show w3.heap[w.heap.size+1+1+1]?=_
   rw [HE.out.1,HE.out.2.1];simp
  ·gi_wp2_with fail
   refine ⟨HE.out.2.2.2.setCell (p:=⟨w.heap.size+1+1+1,0,none⟩) (fun _=>.inl rfl) _,?_,?_⟩
   ·show (w3.setCell ⟨w.heap.size+1+1+1,0,none⟩ _).heap[w.heap.size+1+1+1]?=_
    rw [HE.out.1,box_store _ HE.out.2.1];rfl
   ·exact heap_kept HE.out.2.2.1 ((Chalk.Mod.refl (fun k=>k=w.heap.size+1+1+1) _).setCell (p:=⟨w.heap.size+1+1+1,0,none⟩) (fun _=>rfl) _) (by omega)
 case stop=>exact fun _ _ _ _ _ _ _ _ _ _ h _=>h.elim
 case done =>
  rintro D0 W hD0 hDlt hnD hm ⟨hn,ha⟩ hdd
  have f2:=heap_kept G.out.2.2.2.2.2.1 hm (by omega)
  have hbW:Below w.heap.size w W:=G.out.2.2.1.trans (hm.below (by have:=G.out.1;have:=G.out.2.1;omega) (fun k hk=>by omega))
  rw [List.take_length] at hn
  have HH:=Lh (aI hbW (aI hdd (by have:=G.out.1;have:=G.out.2.1;omega:w.heap.size<=D0)))
  obtain ⟨yes,hyes⟩:∃ yes,yes=(tuplesF (sizesF s binds)).countP (fun t=>holdsF s l (withF env binds t) g):=⟨_,rfl⟩
  obtain ⟨all,hall⟩:∃ all,all=(tuplesF (sizesF s binds)).length:=⟨_,rfl⟩
  have HRR:Hid (quantHolds kind n ((tuplesF (sizesF s binds)).countP (fun t=>holdsF s l (withF env binds t) g)) (tuplesF (sizesF s binds)).length=quantHolds kind n yes all):=Lh (by rw [hyes,hall])
  rw [<- hyes] at hn
  rw [<- hall] at ha
  clear hyes hall
  have r0:W.cell? ⟨w.heap.size+1+1+1,0,none⟩=some (.int .i64 yes):=cH hn rfl
  have r1:W.cell? ⟨w.heap.size+1+1+1+1,0,none⟩=some (.int .i64 all):=cH ha rfl
  have r2:W.cell? ⟨w.heap.size+1+1,0,none⟩=some (.int .i64 kind):=cH f2 rfl
  have r3:W.cell? ⟨w.heap.size+1+1,2,none⟩=some (.int .i64 n):=cH f2 rfl
  clear hn ha f2 hbW hm hdd hD0 hDlt hnD
  have hkk:kind=14∨kind=15∨kind=16∨kind=17:=by have:=HK.out;omega
  have fin:∀ (v:Bool) (tm:Array Value) (hv:v=quantHolds kind n yes all),(∀ w,(results Tryz.f56 tm).run Tryz.prog w=.ok (.bool v) w)->LeavesInM Fence.wide 0 Tryz.prog Tryz.f56 tm (fun e w'=>e=.returned (.bool (quantHolds kind n ((tuplesF (sizesF s binds)).countP (fun t=>holdsF s l (withF env binds t) g)) (tuplesF (sizesF s binds)).length))/\Below w.heap.size w w') [{ target:=.collected D0,args:=#[] }] .returning W:=fun v tm hv hres=>by
   subst hv
   rw [HRR.out]
   exact leaves_marks (v:=.bool (quantHolds kind n yes all)) [D0] W hres (by simp) (fun d hd=>by simp at hd;subst hd;exact HH.out.2.1) (fun W' hm'=>⟨rfl,HH.out.1.trans (hm'.below HH.out.1.size (fun k hk=>by have:=HH.out.2.2;simp at hk;omega))⟩)
  have FIN:=Lh fin
  clear fin
  rcases hkk with rfl | rfl | rfl | rfl
  ·gi_wp2_with fail
   refine FIN.out ((yes:Int)==(all:Int)) _ ?_ (fun w=>by simp [results,Tryz.results56,go_sem])
   unfold quantHolds
   rw [Bool.eq_iff_iff]
   simp
   try omega
  ·gi_wp2_with fail
   refine FIN.out (decide ((0:Int)<(yes:Int))) _ ?_ (fun w=>by simp [results,Tryz.results56,go_sem])
   unfold quantHolds
   rw [Bool.eq_iff_iff]
   simp
   try omega
  ·gi_wp2_with fail
   refine FIN.out (decide (n<=(yes:Int))) _ ?_ (fun w=>by simp [results,Tryz.results56,go_sem])
   unfold quantHolds
   rw [Bool.eq_iff_iff]
   simp
   try omega
  ·gi_wp2_with fail
   refine FIN.out (decide ((yes:Int)<=n)) _ ?_ (fun w=>by simp [results,Tryz.results56,go_sem])
   unfold quantHolds
   rw [Bool.eq_iff_iff]
   simp
   try omega
end Go.Proofs.YtjjkfgjnadaheaaGreatDoor
