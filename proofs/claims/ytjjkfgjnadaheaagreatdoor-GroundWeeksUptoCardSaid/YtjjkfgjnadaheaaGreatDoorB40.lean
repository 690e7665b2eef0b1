/- Joined texts: EvP, EvQ, GTreeA. -/
import Derived.Test.YtjjkfgjnadaheaaGreatDoorB39
import Derived.Test.YtjjkfgjnadaheaaGreatDoorB37
import Derived.Test.YtjjkfgjnadaheaaGreatDoorB32
set_option linter.unusedVariables false
set_option linter.unusedSimpArgs false
set_option maxHeartbeats 4000000
set_option maxRecDepth 100000

/- eval.holds: whole. -/
namespace Go.Chalk
open Go.RowKit
theorem cmpWalk_zero {a:List Bnd} {name:Bs} {t u:Trm} (h:cmpWalk a name t u=0):(sortF a t).2=0/\(sortF a u).2=0:=by
 unfold cmpWalk at h
 by_cases h1:(sortF a t).2=0
 ·by_cases h2:(sortF a u).2=0
  ·exact ⟨h1,h2⟩
  ·rw [if_neg (by simpa using h1),if_pos h2] at h;exact absurd h h2
 ·rw [if_pos h1] at h;exact absurd h h1
theorem atomWalk_zero {a:List Bnd} {kind:Int} {t u:Trm} (h:atomWalk a kind t u=0):(sortF a t).2=0/\(sortF a t).1=(asksF kind).1/\(sortF a u).2=0:=by
 unfold atomWalk at h
 by_cases h1:(sortF a t).2=0
 ·rw [if_neg (by simpa using h1)] at h
  by_cases h2:(sortF a t).1=(asksF kind).1
  ·rw [if_neg (by simpa using h2)] at h
   by_cases h3:(sortF a u).2=0
   ·exact ⟨h1,h2,h3⟩
   ·rw [if_pos h3] at h;exact absurd h h3
  ·rw [if_pos h2] at h;cases h
 ·rw [if_pos h1] at h;exact absurd h h1
theorem formed_atom_var {kind:Int} {name:Bs} {n:Int} {terms:List Trm} {binds:List Bnd} {l:List Frm} (h:formedF (.mk kind name n terms binds l)=true) (hk:3<=kind/\kind<=8):∀ x∈terms,x.kind=2:=by
 rw [formedF_mk,Bool.and_eq_true] at h
 have h2:=h.2
 rw [if_neg (by omega),if_pos (by unfold atomK;simp;omega),Bool.and_eq_true] at h2
 intro x hx
 have:=List.all_eq_true.1 h2.2 x hx
 simp only [Bool.and_eq_true,Bool.or_eq_true,decide_eq_true_eq] at this
 omega
theorem formed_binds {kind:Int} {name:Bs} {n:Int} {terms:List Trm} {binds:List Bnd} {l:List Frm} (h:formedF (.mk kind name n terms binds l)=true) (hk:14<=kind/\kind<=17):binds.all bndOk=true/\binds.length<=6:=by
 rw [formedF_mk,Bool.and_eq_true] at h
 have h2:=h.2
 rw [if_neg (by omega),if_neg (by unfold atomK;simp;omega),if_pos (by unfold quantK;simp;omega)] at h2
 simp only [Bool.and_eq_true,decide_eq_true_eq] at h2
 exact ⟨h2.1.2,h2.1.1.2⟩
theorem withF_length (env:List Ev) (binds:List Bnd) (t:List Nat):(withF env binds t).length<=env.length+binds.length:=by
 unfold withF;simp;omega
theorem week_len {s:Schl} {l:List Plc} (h:weekCheck s l=0):l.length=s.lessons.length:=by
 unfold weekCheck at h
 split at h
 ·rename_i h1;exact absurd h h1
 ·split at h
  ·cases h
  ·rename_i h2;exact Decidable.byContradiction (fun e=>h2 (.inl e))
end Go.Chalk
namespace Go.Proofs.YtjjkfgjnadaheaaGreatDoor
open Go.RowKit Go.Chalk
theorem holds_any (s:Schl) (x:SchA) (l:List Plc) (y:SlA) (hI:ItoaAt) (hf:SchFit s) (hgs:∀ q∈s.groups,0<=q.size/\q.size<=1000) (hsl:∀ q∈s.slots,0<=q.day/\q.day<=6/\0<=q.hour/\q.hour<=11) :
  ∀ (N:Nat) (f:Frm) (fa:FrmA) (env:List Ev) (z:SlA) (w:World),f.size<=N->HoldsOk s l env f->env.length+6*f.depth<=1900000->GG w->SchIn w (·<w.heap.size) s x->SlIn w (·<w.heap.size) (l.map Plc.toD) y->SlIn w (·<w.heap.size) (env.map Ev.toD) z->FrmIn w (·<w.heap.size) f fa ->
   Calls Tryz.prog 56 #[stV s x l y,.slice z.a env.length z.cap,ndV (f,fa)] w fun e w'=>e=.returned (.bool (holdsF s l env f))/\Below w.heap.size w w'
 | 0,f,_,_,_,_,hN,_,_,_,_,_,_,_=>by cases f;rw [Frm.size] at hN;omega
 | N+1,.mk kind name n terms binds fl,fa,env,z,w,hN,ho,hd,hg,hs,hy,hz,hx=>by
  rw [Frm.size] at hN
  rw [Frm.depth] at hd
  have hfm:formedF (.mk kind name n terms binds fl)=true:=by
   have h1:=ho.formed
   rw [nodesF,List.all_cons,Bool.and_eq_true] at h1
   exact h1.1
  obtain ⟨har,hat,hab⟩:=formed_len hfm
  have hk1:1<=kind/\kind<=17:=by
   unfold arityF at har
   split at har
   ·cases har
   ·omega
  by_cases hka:3<=kind/\kind<=9
  ·obtain ⟨t,u,rfl,htk⟩:=formed_atom2 hfm (by unfold atomK;simp;omega)
   have hw:=ho.walk
   rw [walkF_two] at hw
   by_cases h9:kind=9
   ·subst h9
    rw [if_pos rfl] at hw
    obtain ⟨w1,w2⟩:=cmpWalk_zero hw
    obtain ⟨hc,_⟩:=formed_cmp hfm
    refine holds_cmp s x l y env z name n t u binds fl fa w hg hx.terms hc (fun c hc W hW=>?_)
    have hcs:(sortF (evBinds env) c).2=0:=by
     simp only [List.mem_cons,List.not_mem_nil,or_false] at hc
     rcases hc with rfl | rfl
     ·exact w1
     ·exact w2
    have hck:=htk c hc
    refine value_any s x l y env z c W (hs.later hW hW.size) hf hgs hsl (hz.later hW hW.size) (by omega) hck (fun h1=>(term_found ho.may h1 hcs).1) ⟨fun h=>?_,fun h=>?_⟩
    ·obtain ⟨_,p1,p2,p3,p4⟩:=term_found ho.may (by omega) hcs
     refine ⟨p1,?_⟩
     have hsrt:(evOf env c.name).sort=2:=by
      rcases h with h | h | ⟨_,h⟩
      ·rw [<- p4 (by omega),h];rfl
      ·rw [<- p4 (by omega),h];rfl
      ·exact h
     rw [hsrt,schCount_eq] at p2
     simpa using p2
    ·obtain ⟨_,p1,p2,p3,p4⟩:=term_found ho.may (by omega) hcs
     refine ⟨p1,?_⟩
     have hsrt:(evOf env c.name).sort=3:=by
      rcases h with h | h
      ·rw [<- p4 (by omega),h];rfl
      ·rw [<- p4 (by omega),h];rfl
     rw [hsrt,schCount_eq] at p2
     simpa using p2
   ·have hk8:3<=kind/\kind<=8:=by omega
    rw [if_neg h9] at hw
    obtain ⟨w1,w2,w3⟩:=atomWalk_zero hw
    have hv2:=formed_atom_var hfm hk8
    have ht2:=hv2 t (by simp)
    have hu2:=hv2 u (by simp)
    obtain ⟨t1,t2,t3,t4,_⟩:=term_found ho.may (by omega:t.kind ≠ 1) w1
    obtain ⟨u1,_⟩:=term_found ho.may (by omega:u.kind ≠ 1) w3
    refine holds_atom s x l y env z kind name n t u binds fl fa w hk8 hg hx.terms hs hf hy (fun h=>⟨t2,?_⟩) (fun c hc W hW=>?_)
    ·have hsrt:(evOf env t.name).sort=1:=by
      rw [<- t4 ht2,w2]
      rcases h with rfl | rfl <;> rfl
     rw [hsrt,schCount_eq] at t3
     rw [week_len ho.week]
     simpa using t3
    ·refine element_any env z c W (hz.later hW hW.size) (by omega) ?_
     simp only [List.mem_cons,List.not_mem_nil,or_false] at hc
     rcases hc with rfl | rfl
     ·exact t1
     ·exact u1
  ·have hnk:atomK kind=false:=by unfold atomK;simp;omega
   obtain ⟨rfl,_⟩:=formed_plain hfm hnk
   by_cases h2:kind<=2
   ·exact holds_const s x l y env z kind name n binds fl fa w (by omega)
   ·by_cases h13:kind<=13
    ·have hb0:binds=[]:=hab.resolve_right (by unfold quantK;simp;omega)
     subst hb0
     refine holds_conn s x l y env z kind name n fl fa w (by omega) hfm hx (fun j hj y1 W hW hy1=>?_)
     have hmem:fl[j]∈fl:=List.getElem_mem hj
     have hm:=fsizes_mem fl fl[j] hmem
     exact holds_any s x l y hI hf hgs hsl N fl[j] y1 env z W (by omega) (ho.kid hmem) (by omega) (hg.below hW) (hs.later hW hW.size) (hy.later hW hW.size) (hz.later hW hW.size) (hy1.later hW hW.size)
    ·obtain ⟨g,rfl⟩:∃ g,fl=[g]:=by
      have h1:fl.length=1:=by
       unfold arityF at har
       rw [if_neg (by omega),if_neg (by omega),if_neg (by omega),if_neg (by omega)] at har
       simpa using har.symm
      exact List.length_eq_one_iff.1 h1
     obtain ⟨hbk,hb6⟩:=formed_binds hfm (by omega)
     obtain ⟨hmn,hin⟩:=ho.inst hbk
     have hm:=fsizes_mem [g] g (by simp)
     refine holds_quant s x l y env z kind name n binds g fa w (by omega) hg hI hs hf.toSchSmall hx hz (by omega) (by rw [manyF_tuples hmn];exact hmn) (fun t ht y1 z1 W hW hy1 hz1=>?_)
     have hwl:=withF_length env binds t
     exact holds_any s x l y hI hf hgs hsl N g y1 (withF env binds t) z1 W (by omega) (hin t ht) (by omega) (hg.below hW) (hs.later hW hW.size) (hy.later hW hW.size) hz1 (hy1.later hW hW.size)
end Go.Proofs.YtjjkfgjnadaheaaGreatDoor
/- eval.Holds. -/
namespace Go.Chalk
open Go.RowKit
theorem goTimes_all:∀ (l:List Slt) (met:List (Int×Int)),goTimes met l=true->∀ q∈l,0<=q.day/\q.day<=6/\0<=q.hour/\q.hour<=11
 | x :: r,met,h,q,hq=>by
  rw [goTimes] at h
  simp only [Bool.and_eq_true,withinB,decide_eq_true_eq] at h
  rcases List.mem_cons.1 hq with rfl | hq
  ·omega
  ·exact goTimes_all r _ h.2 q hq
theorem school_valid {s:Schl} (h:schCheck s=0):(∀ q∈s.groups,0<=q.size/\q.size<=1000)/\(∀ q∈s.slots,0<=q.day/\q.day<=6/\0<=q.hour/\q.hour<=11):=by
 unfold schCheck at h
 split at h
 ·cases h
 split at h
 ·cases h
 rename_i h2
 split at h
 ·cases h
 split at h
 ·cases h
 rename_i h4
 simp only [Bool.or_eq_true,not_or,List.any_eq_true,not_exists,not_and] at h4
 refine ⟨fun q hq=>?_,goTimes_all s.slots [] (by simpa using h2)⟩
 have:=h4.1.2 q hq
 unfold badGroup withinB at this
 simp at this
 exact this
theorem holds_ok {s:Schl} {l:List Plc} {env:List Ev} {f:Frm} (h1:weekCheck s l=0) (h2:evMay s env=true) (h3:typForm (evBinds env) f=0) (h4:broadF s f<=1048576):HoldsOk s l env f:=by
 unfold typForm at h3
 rw [if_neg (by rw [evMay_mayA h2];simp)] at h3
 by_cases hc:frmCheck f=0
 ·rw [if_neg (by simpa using hc)] at h3
  obtain ⟨c1,c2,c3⟩:=frmCheck_zero.1 hc
  exact ⟨h1,h2,c1,c2,c3,h3,h4⟩
 ·rw [if_pos hc] at h3;exact absurd h3 hc
end Go.Chalk
namespace Go.Proofs.YtjjkfgjnadaheaaGreatDoor
open Go.RowKit Go.Chalk
theorem eholds_any (s:Schl) (x:SchA) (l:List Plc) (y:SlA) (env:List Ev) (z:SlA) (f:Frm) (fa:FrmA) (w:World) (hI:ItoaAt) (hf:SchFit s) (hff:FrmFit f) (hg:GG w) (hs:SchIn w (·<w.heap.size) s x) (hy:SlIn w (·<w.heap.size) (l.map Plc.toD) y) (hl:l.length<=2000000)
  (hz:SlIn w (·<w.heap.size) (env.map Ev.toD) z) (hel:env.length<=1500000) (hmax:∀ e∈env,e.name.length<=4000000) (hx:FrmIn w (·<w.heap.size) f fa) :
  Calls Tryz.prog 20 #[.agg (x.cells s).toArray,.agg #[.slice y.a l.length y.cap],.slice z.a env.length z.cap,ndV (f,fa)] w fun e w'=>e=.returned (.tuple #[.bool (evHolds s l env f).1,.int .i64 (evHolds s l env f).2])/\Below w.heap.size w w':=by
 have HWC:=Lh (fun (W:World) (hW:Below w.heap.size w W)=>wcheck_any s x l y W hI (hs.later hW hW.size) hf (hy.later hW hW.size) hl (hg.below hW))
 have HMY:=Lh (fun (W:World) (hW:Below w.heap.size w W)=>emay_any s x env z W hI hf.toSchSmall (hs.later hW hW.size) (hz.later hW hW.size) hel hmax (hg.below hW))
 have HBN:Hid (∀ W,Below w.heap.size w W->Calls Tryz.prog 54 #[.slice z.a env.length z.cap] W fun e w'=>∃ x0:SlA,e=.returned (.slice x0.a env.length x0.cap)/\SlIn w' (·<w'.heap.size) ((evBinds env).map Bnd.toD) x0/\Below W.heap.size W w') :=
  Lh (fun W hW=>(ebinds_any env z W (hz.later hW hW.size) (by omega)).mono (by
   rintro e w' ⟨v,rfl,hon,hb⟩
   obtain ⟨x0,rfl,hx0⟩:=hon.sl (by rw [widths_map Bnd.flatT,List.length_map])
   exact ⟨x0,by rw [List.length_map];unfold evBinds;rw [List.length_map],hx0,hb⟩))
 have hbl:(evBinds env).length=env.length:=by simp [evBinds]
 have HTF:Hid (∀ (W:World) (x0:SlA),Below w.heap.size w W->SlIn W (·<W.heap.size) ((evBinds env).map Bnd.toD) x0->Calls Tryz.prog 53 #[.slice x0.a env.length x0.cap,ndV (f,fa)] W fun e w'=>e=.returned (.int .i64 (typForm (evBinds env) f))/\Below W.heap.size W w') :=
  Lh (fun W x0 hW h0=>by
   have h:=tform_any (evBinds env) x0 f fa W h0 (hx.later hW hW.size) (by omega) (fun b hb=>by
    unfold evBinds at hb
    obtain ⟨e,he,rfl⟩:=List.mem_map.1 hb
    exact hmax e he) hff (hg.below hW)
   rwa [hbl] at h)
 have HBR:=Lh (fun (W:World) (hW:Below w.heap.size w W)=>broad_any s x hI hf.toSchSmall f.size f fa W (Nat.le_refl _) hff.size (fun g hg=>(hff.nodes g hg).2.1) (hs.later hW hW.size) (hx.later hW hW.size))
 have HHO:=Lh (fun (h1:weekCheck s l=0) (h2:evMay s env=true) (h3:typForm (evBinds env) f=0) (h4:broadF s f<=1048576) (W:World) (hW:Below w.heap.size w W) =>
  holds_any s x l y hI hf (school_valid (week_school h1)).1 (school_valid (week_school h1)).2 f.size f fa env z W (Nat.le_refl _) (holds_ok h1 h2 h3 h4) (by have:=(holds_ok h1 h2 h3 h4).depth;omega) (hg.below hW) (hs.later hW hW.size) (hy.later hW hW.size) (hz.later hW hW.size) (hx.later hW hW.size))
 have HR:Hid (evHolds s l env f=if weekCheck s l ≠ 0 then (false,weekCheck s l) else if evMay s env=false then (false,1) else if typForm (evBinds env) f ≠ 0 then (false,typForm (evBinds env) f) else if 1048576<broadF s f then (false,2) else (holdsF s l env f,0)):=Lh rfl
 clear hbl hx hz hy hs hg hff hf hI hl hel hmax
 generalize evHolds s l env f=res at HR ⊢
 generalize weekCheck s l=wc at HWC HHO HR
 generalize evMay s env=my at HMY HHO HR
 generalize typForm (evBinds env) f=tf at HTF HHO HR
 generalize broadF s f=bf at HBR HHO HR
 generalize holdsF s l env f=hv at HHO HR
 generalize hE:evBinds env=eb at HBN HTF
 clear hE
 obtain ⟨kind,name,n,terms,binds,fl⟩:=f
 unfold stV at HHO
 simp only [ndV,FrmA.cells,SlA.val,SchA.cells,Frm.kind,Frm.name,Frm.n,Frm.terms,Frm.binds,Frm.l] at HWC HMY HTF HBR HHO ⊢
 have HB:Hid (Below w.heap.size w (((w.alloc (.cells #[.slice x.slots.a s.slots.length x.slots.cap,.slice x.rooms.a s.rooms.length x.rooms.cap,.slice x.people.a s.people.length x.people.cap,.slice x.groups.a s.groups.length x.groups.cap,.slice x.lessons.a s.lessons.length x.lessons.cap] 28)).alloc (.cells #[.slice y.a l.length y.cap] 50)).alloc (.cells #[.int .i64 kind,.string ⟨name.toArray⟩,.int .i64 n,.slice fa.t.a terms.length fa.t.cap,.slice fa.b.a binds.length fa.b.cap,.slice fa.l.a fl.length fa.l.cap] 34))):=Lh ((((Below.refl _ _).alloc (Nat.le_refl _) _).alloc (by simp) _).alloc (by simp;omega) _)
 have HK:Hid (∀ W',Below (((w.alloc (.cells #[.slice x.slots.a s.slots.length x.slots.cap,.slice x.rooms.a s.rooms.length x.rooms.cap,.slice x.people.a s.people.length x.people.cap,.slice x.groups.a s.groups.length x.groups.cap,.slice x.lessons.a s.lessons.length x.lessons.cap] 28)).alloc (.cells #[.slice y.a l.length y.cap] 50)).alloc (.cells #[.int .i64 kind,.string ⟨name.toArray⟩,.int .i64 n,.slice fa.t.a terms.length fa.t.cap,.slice fa.b.a binds.length fa.b.cap,.slice fa.l.a fl.length fa.l.cap] 34)).heap.size (((w.alloc (.cells #[.slice x.slots.a s.slots.length x.slots.cap,.slice x.rooms.a s.rooms.length x.rooms.cap,.slice x.people.a s.people.length x.people.cap,.slice x.groups.a s.groups.length x.groups.cap,.slice x.lessons.a s.lessons.length x.lessons.cap] 28)).alloc (.cells #[.slice y.a l.length y.cap] 50)).alloc (.cells #[.int .i64 kind,.string ⟨name.toArray⟩,.int .i64 n,.slice fa.t.a terms.length fa.t.cap,.slice fa.b.a binds.length fa.b.cap,.slice fa.l.a fl.length fa.l.cap] 34)) W'->(W'.cell? ⟨w.heap.size,0,none⟩=some (.slice x.slots.a s.slots.length x.slots.cap)/\W'.cell? ⟨w.heap.size,1,none⟩=some (.slice x.rooms.a s.rooms.length x.rooms.cap)/\W'.cell? ⟨w.heap.size,2,none⟩=some (.slice x.people.a s.people.length x.people.cap)/\W'.cell? ⟨w.heap.size,3,none⟩=some (.slice x.groups.a s.groups.length x.groups.cap)/\W'.cell? ⟨w.heap.size,4,none⟩=some (.slice x.lessons.a s.lessons.length x.lessons.cap)/\W'.cell? ⟨w.heap.size+1,0,none⟩=some (.slice y.a l.length y.cap))/\(W'.cell? ⟨w.heap.size+1+1,0,none⟩=some (.int .i64 kind)/\W'.cell? ⟨w.heap.size+1+1,1,none⟩=some (.string ⟨name.toArray⟩)/\W'.cell? ⟨w.heap.size+1+1,2,none⟩=some (.int .i64 n)/\W'.cell? ⟨w.heap.size+1+1,3,none⟩=some (.slice fa.t.a terms.length fa.t.cap)/\W'.cell? ⟨w.heap.size+1+1,4,none⟩=some (.slice fa.b.a binds.length fa.b.cap)/\W'.cell? ⟨w.heap.size+1+1,5,none⟩=some (.slice fa.l.a fl.length fa.l.cap))):=Lh (fun W' hW=>by
  have g0:(((w.alloc (.cells #[.slice x.slots.a s.slots.length x.slots.cap,.slice x.rooms.a s.rooms.length x.rooms.cap,.slice x.people.a s.people.length x.people.cap,.slice x.groups.a s.groups.length x.groups.cap,.slice x.lessons.a s.lessons.length x.lessons.cap] 28)).alloc (.cells #[.slice y.a l.length y.cap] 50)).alloc (.cells #[.int .i64 kind,.string ⟨name.toArray⟩,.int .i64 n,.slice fa.t.a terms.length fa.t.cap,.slice fa.b.a binds.length fa.b.cap,.slice fa.l.a fl.length fa.l.cap] 34)).heap[w.heap.size]?=some (.cells #[.slice x.slots.a s.slots.length x.slots.cap,.slice x.rooms.a s.rooms.length x.rooms.cap,.slice x.people.a s.people.length x.people.cap,.slice x.groups.a s.groups.length x.groups.cap,.slice x.lessons.a s.lessons.length x.lessons.cap] 28 (0,0)):=by simp only [heap_get,World.size_alloc];rw [if_neg (by omega),if_neg (by omega),if_pos trivial]
  have g1:(((w.alloc (.cells #[.slice x.slots.a s.slots.length x.slots.cap,.slice x.rooms.a s.rooms.length x.rooms.cap,.slice x.people.a s.people.length x.people.cap,.slice x.groups.a s.groups.length x.groups.cap,.slice x.lessons.a s.lessons.length x.lessons.cap] 28)).alloc (.cells #[.slice y.a l.length y.cap] 50)).alloc (.cells #[.int .i64 kind,.string ⟨name.toArray⟩,.int .i64 n,.slice fa.t.a terms.length fa.t.cap,.slice fa.b.a binds.length fa.b.cap,.slice fa.l.a fl.length fa.l.cap] 34)).heap[w.heap.size+1]?=some (.cells #[.slice y.a l.length y.cap] 50 (0,0)):=by simp only [heap_get,World.size_alloc];rw [if_neg (by omega),if_pos trivial]
  have g2:(((w.alloc (.cells #[.slice x.slots.a s.slots.length x.slots.cap,.slice x.rooms.a s.rooms.length x.rooms.cap,.slice x.people.a s.people.length x.people.cap,.slice x.groups.a s.groups.length x.groups.cap,.slice x.lessons.a s.lessons.length x.lessons.cap] 28)).alloc (.cells #[.slice y.a l.length y.cap] 50)).alloc (.cells #[.int .i64 kind,.string ⟨name.toArray⟩,.int .i64 n,.slice fa.t.a terms.length fa.t.cap,.slice fa.b.a binds.length fa.b.cap,.slice fa.l.a fl.length fa.l.cap] 34)).heap[w.heap.size+1+1]?=some (.cells #[.int .i64 kind,.string ⟨name.toArray⟩,.int .i64 n,.slice fa.t.a terms.length fa.t.cap,.slice fa.b.a binds.length fa.b.cap,.slice fa.l.a fl.length fa.l.cap] 34 (0,0)):=by simp only [heap_get,World.size_alloc];rw [if_pos trivial]
  have c0:=(hW.block _ (gS g0).1).trans g0
  have c1:=(hW.block _ (gS g1).1).trans g1
  have c2:=(hW.block _ (gS g2).1).trans g2
  exact ⟨⟨cH c0 rfl,cH c0 rfl,cH c0 rfl,cH c0 rfl,cH c0 rfl,cH c1 rfl⟩,cH c2 rfl,cH c2 rfl,cH c2 rfl,cH c2 rfl,cH c2 rfl,cH c2 rfl⟩)
 go_enter Tryz.func20,Tryz.ntmps20
 go_wp2_with fail
 refine (HWC.out _ HB.out).mono ?_
 rintro e w1 ⟨rfl,hb1⟩
 have HC1:=Lh (aI hb1 (HB.out.trans (hb1.mono HB.out.size)))
 clear hb1
 by_cases h1:wc ≠ 0
 ·have d1:(wc != 0)=true:=by simpa using h1
  have HD:=Lh h1
  clear h1
  go_wp2_with fail
  go_ret2
  exact ⟨by rw [HR.out];simp [HD.out],HC1.out.2⟩
 obtain rfl:wc=0:=by omega
 clear h1
 obtain ⟨⟨a0,a1,a2,a3,a4,a5⟩,_⟩:=HK.out w1 HC1.out.1
 go_wp2_with fail
 refine (HMY.out _ HC1.out.2).mono ?_
 rintro e w2 ⟨rfl,hb2⟩
 have HC2:=Lh (aI (HC1.out.1.trans (hb2.mono HC1.out.1.size)) (HC1.out.2.trans (hb2.mono HC1.out.2.size)))
 clear hb2 a0 a1 a2 a3 a4 a5
 cases my
 ·go_wp2_with fail
  go_ret2
  exact ⟨by rw [HR.out];simp,HC2.out.2⟩
 go_wp2_with fail
 go_region_held3 (fun w'=>w'.cell? ⟨w.heap.size+1+1,0,none⟩=some (.int .i64 kind)/\w'.cell? ⟨w.heap.size+1+1,1,none⟩=some (.string ⟨name.toArray⟩)/\w'.cell? ⟨w.heap.size+1+1,2,none⟩=some (.int .i64 n)/\w'.cell? ⟨w.heap.size+1+1,3,none⟩=some (.slice fa.t.a terms.length fa.t.cap)/\w'.cell? ⟨w.heap.size+1+1,4,none⟩=some (.slice fa.b.a binds.length fa.b.cap)/\w'.cell? ⟨w.heap.size+1+1,5,none⟩=some (.slice fa.l.a fl.length fa.l.cap)) ((refine (HK.out _ ?_).2;first | exact HC4.out.1 | exact HC3.out.1 | exact HC2.out.1.drew | fail)) (first
  | (go_at_call 53;refine (HTF.out _ x0 HC3.out.2.1 HC3.out.2.2).mono ?_;rintro e w4 ⟨rfl,hbb⟩;have HC4:=Lh (aI (HC3.out.1.trans (hbb.mono HC3.out.1.size)) (HC3.out.2.1.trans (hbb.mono HC3.out.2.1.size)));clear hbb)
  | (go_at_call 54;refine (HBN.out _ HC2.out.2.drew).mono ?_;rintro e w3 ⟨x0,rfl,hx0,hbb⟩;have HC3:=Lh (aI (HC2.out.1.drew.trans (hbb.mono HC2.out.1.drew.size)) (aI (HC2.out.2.drew.trans (hbb.mono HC2.out.2.drew.size)) hx0));clear hbb hx0))
 all_goals
  by_cases h1:tf ≠ 0
  ·have d1:(tf != 0)=true:=by simpa using h1
   have HD:=Lh h1
   clear h1
   go_wp2_with fail
   go_ret2
   exact ⟨by rw [HR.out];simp [HD.out],HC4.out.2⟩
  obtain rfl:tf=0:=by omega
  clear h1
  obtain ⟨⟨a0,a1,a2,a3,a4,a5⟩,b0,b1,b2,b3,b4,b5⟩:=HK.out w4 HC4.out.1
  go_wp2_with fail
  refine (HBR.out _ HC4.out.2).mono ?_
  rintro e w5 ⟨rfl,hb5⟩
  have HC5:=Lh (aI (HC4.out.1.trans (hb5.mono HC4.out.1.size)) (HC4.out.2.trans (hb5.mono HC4.out.2.size)))
  clear hb5 a0 a1 a2 a3 a4 a5 b0 b1 b2 b3 b4 b5
  by_cases h1:(1048576:Int)<(bf:Int)
  ·have HD:=Lh (by omega:1048576<bf)
   go_wp2_with fail
   go_ret2
   exact ⟨by rw [HR.out];simp [HD.out],HC5.out.2⟩
  have h1':decide ((1048576:Int)<(bf:Int))=false:=by simpa using h1
  have HD:=Lh (by omega:¬ 1048576<bf)
  have HHW:=Lh (HHO.out (by first | rfl | trivial) (by first | rfl | trivial) (by first | rfl | trivial) (by omega) w5 HC5.out.2)
  clear h1
  obtain ⟨⟨a0,a1,a2,a3,a4,a5⟩,b0,b1,b2,b3,b4,b5⟩:=HK.out w5 HC5.out.1
  go_wp2_with fail
  refine HHW.out.mono ?_
  rintro e w6 ⟨rfl,hb6⟩
  have HC6:=Lh (HC5.out.2.trans (hb6.mono HC5.out.2.size))
  clear hb6
  go_wp2_with fail
  go_ret2
  exact ⟨by rw [HR.out];simp [HD.out],HC6.out⟩
end Go.Proofs.YtjjkfgjnadaheaaGreatDoor
/- ground's maker.tree: a quantifier. (written by tools/gen_gtree.py) -/
namespace Go.Chalk
open Go.RowKit
theorem Tr.size_mk (kind v k:Int) (ts:List Tr):(Tr.mk kind v k ts).size=1+sizes ts:=by rw [Tr.size]
theorem sizes_one (t:Tr):sizes [t]=t.size:=by simp [sizes]
theorem DsAt.oneT {w:World} {F:Nat->Prop} {x:D} {cs:List Value} (h:DAt w F x cs):DsAt w F [x] cs:=by rw [DsAt];exact ⟨cs,[],(List.append_nil _).symm,h,by rw [DsAt]⟩
theorem put4_heap {W:World} {H:Nat} {z0 z1 z2 z3:Value} {T:TypeId} (h:W.heap[H]?=some (.cells #[z0,z1,z2,z3] T (0,0))) (c0 c1 c2 c3:Value):(put4 W H 0 c0 c1 c2 c3).heap[H]?=some (.cells #[c0,c1,c2,c3] T (0,0)) :=
 box_store (i:=3) c3 (box_store (i:=2) c2 (box_store (i:=1) c1 (box_store (i:=0) c0 h)))
end Go.Chalk
namespace Go.Proofs.YtjjkfgjnadaheaaGreatDoor
open Go.RowKit Go.Chalk
attribute [local go_sem] Oper.semAt_some
theorem gall_any (n:Int) (name:Bs) (terms:List Trm) (binds:List Bnd) (l:List Frm) (fa:FrmA) (env:List Ev) (z:SlA) (s:Schl) (x:SchA) (w:World) (mb left:Nat) (ts:List Tr) (hn:0<=n/\n<=1099511627776) (hm:MkB w mb s x left) (hl:left<=65536)
  (hE:∀ W,Below w.heap.size w W->Calls Tryz.prog 80 #[.pointer (some ⟨mb,0,none⟩),.slice z.a env.length z.cap,ndV (.mk 14 name n terms binds l,fa)] W (EachP s x mb left W ts)) :
  Calls Tryz.prog 38 #[.pointer (some ⟨mb,0,none⟩),.slice z.a env.length z.cap,ndV (.mk 14 name n terms binds l,fa)] w (TreeP s x mb left w (.mk 4 0 0 ts)):=by
 have hmlt:=hm.lt
 obtain ⟨W0,hW0⟩:∃ W0,W0=(w.alloc (.cells (fa.cells (.mk 14 name n terms binds l)).toArray 34)).alloc (.cells #[.int .i64 0,.int .i64 0,.int .i64 0,.slice none 0 0] 39):=⟨_,rfl⟩
 have hb0:Below w.heap.size w W0:=by rw [hW0];exact ((Below.refl _ _).alloc (Nat.le_refl _) _).alloc (by simp) _
 have hz0:W0.heap.size=w.heap.size+2:=by rw [hW0];simp
 have hq0:FrmBox W0 w.heap.size (.mk 14 name n terms binds l) fa:=by rw [hW0];unfold FrmBox;rw [heap_get,if_neg (by simp),heap_get,if_pos rfl]
 have hq1:W0.heap[w.heap.size+1]?=some (.cells #[.int .i64 0,.int .i64 0,.int .i64 0,.slice none 0 0] 39 (0,0)):=by rw [hW0,heap_get,if_pos (by simp)]
 have HE:=Lh (hE W0 hb0)
 have HB:=Lh (aI hb0 (aI hq0 (aI hq1 hz0)))
 have HW0:=Lh hW0
 have HN:=Lh hn
 have HM:=Lh (aI hm hl)
 obtain ⟨c0,c1,c2,c3,c4,c5⟩:=hq0.cells
 clear hb0 hq0 hq1 hW0 hE hn hm hl hz0
 simp only [ndV,FrmA.cells,SlA.val,Frm.kind,Frm.name,Frm.n,Frm.terms,Frm.binds,Frm.l] at HE HW0 c0 c1 c2 c3 c4 c5 ⊢
 go_enter Tryz.func38,Tryz.ntmps38
 go_wp2_with fail
 rw [<- HW0.out]
 go_wp2_with fail
 refine HE.out.mono ?_
 rintro e w1 ⟨hm1,⟨hle,⟨u,rfl,hu⟩,hmk⟩ | ⟨hlt,rfl,l',hmk⟩⟩
 rotate_left
 ·refine ⟨rfl,(Chalk.Mod.of_below (S:=fun k=>k=mb) HB.out.1).trans hm1 (fun _ _ h=>h),.inr ⟨?_,rfl,l',hmk⟩⟩
  simp only [Tr.size_mk,sizes_one];omega
 clear c0 c1 c2 c3 c4 c5
 have hmw:=hm1.size
 have q0:FrmBox w1 w.heap.size (.mk 14 name n terms binds l) fa:=heap_kept HB.out.2.1 hm1 (by omega)
 have q1:=heap_kept HB.out.2.2.1 hm1 (by omega)
 obtain ⟨c0,_,c2,_,_,_⟩:=q0.cells
 simp only [Frm.kind,Frm.n] at c0 c2
 have hlw:w.heap.size+1<w1.heap.size:=(gS q1).1
 obtain ⟨l1,hl1⟩:∃ l1,left - sizes ts=l1:=⟨_,rfl⟩
 have hmk1:MkB w1 mb s x (l1:Nat):=by rw [show ((l1:Nat):Int)=(left:Int) - sizes ts by omega];exact hmk
 have HFN:Hid (∀ W',Chalk.Mod (fun k=>k=mb∨k=w.heap.size+1∨w1.heap.size<=k) w1 W'->Chalk.Mod (fun k=>k=mb) w W'/\SlIn W' (fun k=>w.heap.size<=k/\k<W'.heap.size) (ts.map Tr.toD) u):=Lh (fun W' h=>by
  have hz:=h.size
  have hz0:=HB.out.2.2.2
  refine ⟨((Chalk.Mod.of_below (S:=fun k=>k=mb) HB.out.1).trans hm1 (fun _ _ h=>h)).trans h (fun k hk h=>?_),(hu.agree (h.agree (fun k hk=>⟨hk.2,?_⟩))).mono (fun k hk=>⟨by have:=hk.1;omega,by have:=hk.2;omega⟩)⟩
  ·rcases h with h | h | h
   ·exact h
   ·omega
   ·omega
  ·rintro (h | h | h)
   ·have:=hk.1;omega
   ·have:=hk.1;omega
   ·have:=hk.2;omega)
 have HL1:=Lh (aI hle hl1)
 have HQ1:=Lh (aI q0 q1)
 have HMW:=Lh hmw
 clear hm1 hle hu hmk q0 q1 hl1 hmw
 go_wp2_with fail
 refine (part_any 4 u.a ts.length u.cap s x l1 mb w1 hmk1 (by have:=HM.out.2;have:=HL1.out.2;omega)).mono ?_
 rintro e w2 ⟨hm2,⟨hp,rfl,hmk2⟩ | ⟨hp,rfl,hmk2⟩⟩
 rotate_left
 ·refine ⟨rfl,(HFN.out _ (hm2.mono (fun _ h=>.inl h))).1,.inr ⟨?_,rfl,_,hmk2⟩⟩
  simp only [Tr.size_mk,sizes_one];have:=HL1.out;omega
 have q2:=heap_kept HQ1.out.2 hm2 (by omega)
 have hlw2:w.heap.size+1<w2.heap.size:=(gS q2).1
 have x0:w2.cell? ⟨w.heap.size+1,0,none⟩=some (.int .i64 0):=cH q2 rfl
 have f0:w2.frozen? ⟨w.heap.size+1,0,none⟩=false:=fH q2
 have x1:w2.cell? ⟨w.heap.size+1,1,none⟩=some (.int .i64 0):=cH q2 rfl
 have f1:w2.frozen? ⟨w.heap.size+1,1,none⟩=false:=fH q2
 have x2:w2.cell? ⟨w.heap.size+1,2,none⟩=some (.int .i64 0):=cH q2 rfl
 have f2:w2.frozen? ⟨w.heap.size+1,2,none⟩=false:=fH q2
 have x3:w2.cell? ⟨w.heap.size+1,3,none⟩=some (.slice none 0 0):=cH q2 rfl
 have f3:w2.frozen? ⟨w.heap.size+1,3,none⟩=false:=fH q2
 have HP:=Lh (aI hm2 (aI hp hmk2))
 have HQ2:=Lh q2
 clear hm2 hp hmk2 q2 hmk1
 go_wp2_with fail
 have hq3:=put4_heap HQ2.out (.int .i64 4) (.int .i64 0) (.int .i64 0) (.slice u.a ts.length u.cap)
 have hm3:=put4_mod w2 (w.heap.size+1) 0 (.int .i64 4) (.int .i64 0) (.int .i64 0) (.slice u.a ts.length u.cap)
 unfold put4 at hq3 hm3
 simp only [Nat.zero_add] at hq3 hm3
 generalize (((w2.setCell _ _).setCell _ _).setCell _ _).setCell _ _=W3 at hq3 hm3 ⊢
 have HY:=Lh (aI hq3 hm3)
 have y0:W3.cell? ⟨w.heap.size+1,0,none⟩=some (.int .i64 4):=cH hq3 rfl
 have y1:W3.cell? ⟨w.heap.size+1,1,none⟩=some (.int .i64 0):=cH hq3 rfl
 have y2:W3.cell? ⟨w.heap.size+1,2,none⟩=some (.int .i64 0):=cH hq3 rfl
 have y3:W3.cell? ⟨w.heap.size+1,3,none⟩=some (.slice u.a ts.length u.cap):=cH hq3 rfl
 clear hq3 hm3
 refine bodyPost_ret (v:=.agg #[.int .i64 4,.int .i64 0,.int .i64 0,.slice u.a ts.length u.cap]) (by simp [results,Tryz.results38,go_sem,y0,y1,y2,y3]) rfl ?_
 obtain ⟨g1,g2⟩:=HFN.out W3 ((HP.out.1.mono (fun _ h=>.inl h)).trans HY.out.2 (fun _ _ h=>.inr (.inl h)))
 have hsz:(Tr.mk 4 0 0 ts).size=1+sizes ts:=Tr.size_mk _ _ _ _
 have hq:=HL1.out
 have hp:=HP.out.2.1
 refine ⟨g1,.inl ⟨by omega,⟨_,rfl,Tr.close (i64_small (by decide) (by decide)) (i64_small (by decide) (by decide)) (i64_small (by decide) (by decide)) g2⟩,?_⟩⟩
 rw [hsz,show ((left:Int) - ((1+sizes ts:Nat):Int))=(l1:Int) - 1 by push_cast;omega]
 exact HP.out.2.2.kept HY.out.2 (by omega)

theorem gsome_any (n:Int) (name:Bs) (terms:List Trm) (binds:List Bnd) (l:List Frm) (fa:FrmA) (env:List Ev) (z:SlA) (s:Schl) (x:SchA) (w:World) (mb left:Nat) (ts:List Tr) (hn:0<=n/\n<=1099511627776) (hm:MkB w mb s x left) (hl:left<=65536)
  (hE:∀ W,Below w.heap.size w W->Calls Tryz.prog 80 #[.pointer (some ⟨mb,0,none⟩),.slice z.a env.length z.cap,ndV (.mk 15 name n terms binds l,fa)] W (EachP s x mb left W ts)) :
  Calls Tryz.prog 38 #[.pointer (some ⟨mb,0,none⟩),.slice z.a env.length z.cap,ndV (.mk 15 name n terms binds l,fa)] w (TreeP s x mb left w (.mk 5 0 0 ts)):=by
 have hmlt:=hm.lt
 obtain ⟨W0,hW0⟩:∃ W0,W0=(w.alloc (.cells (fa.cells (.mk 15 name n terms binds l)).toArray 34)).alloc (.cells #[.int .i64 0,.int .i64 0,.int .i64 0,.slice none 0 0] 39):=⟨_,rfl⟩
 have hb0:Below w.heap.size w W0:=by rw [hW0];exact ((Below.refl _ _).alloc (Nat.le_refl _) _).alloc (by simp) _
 have hz0:W0.heap.size=w.heap.size+2:=by rw [hW0];simp
 have hq0:FrmBox W0 w.heap.size (.mk 15 name n terms binds l) fa:=by rw [hW0];unfold FrmBox;rw [heap_get,if_neg (by simp),heap_get,if_pos rfl]
 have hq1:W0.heap[w.heap.size+1]?=some (.cells #[.int .i64 0,.int .i64 0,.int .i64 0,.slice none 0 0] 39 (0,0)):=by rw [hW0,heap_get,if_pos (by simp)]
 have HE:=Lh (hE W0 hb0)
 have HB:=Lh (aI hb0 (aI hq0 (aI hq1 hz0)))
 have HW0:=Lh hW0
 have HN:=Lh hn
 have HM:=Lh (aI hm hl)
 obtain ⟨c0,c1,c2,c3,c4,c5⟩:=hq0.cells
 clear hb0 hq0 hq1 hW0 hE hn hm hl hz0
 simp only [ndV,FrmA.cells,SlA.val,Frm.kind,Frm.name,Frm.n,Frm.terms,Frm.binds,Frm.l] at HE HW0 c0 c1 c2 c3 c4 c5 ⊢
 go_enter Tryz.func38,Tryz.ntmps38
 go_wp2_with fail
 rw [<- HW0.out]
 go_wp2_with fail
 refine HE.out.mono ?_
 rintro e w1 ⟨hm1,⟨hle,⟨u,rfl,hu⟩,hmk⟩ | ⟨hlt,rfl,l',hmk⟩⟩
 rotate_left
 ·refine ⟨rfl,(Chalk.Mod.of_below (S:=fun k=>k=mb) HB.out.1).trans hm1 (fun _ _ h=>h),.inr ⟨?_,rfl,l',hmk⟩⟩
  simp only [Tr.size_mk,sizes_one];omega
 clear c0 c1 c2 c3 c4 c5
 have hmw:=hm1.size
 have q0:FrmBox w1 w.heap.size (.mk 15 name n terms binds l) fa:=heap_kept HB.out.2.1 hm1 (by omega)
 have q1:=heap_kept HB.out.2.2.1 hm1 (by omega)
 obtain ⟨c0,_,c2,_,_,_⟩:=q0.cells
 simp only [Frm.kind,Frm.n] at c0 c2
 have hlw:w.heap.size+1<w1.heap.size:=(gS q1).1
 obtain ⟨l1,hl1⟩:∃ l1,left - sizes ts=l1:=⟨_,rfl⟩
 have hmk1:MkB w1 mb s x (l1:Nat):=by rw [show ((l1:Nat):Int)=(left:Int) - sizes ts by omega];exact hmk
 have HFN:Hid (∀ W',Chalk.Mod (fun k=>k=mb∨k=w.heap.size+1∨w1.heap.size<=k) w1 W'->Chalk.Mod (fun k=>k=mb) w W'/\SlIn W' (fun k=>w.heap.size<=k/\k<W'.heap.size) (ts.map Tr.toD) u):=Lh (fun W' h=>by
  have hz:=h.size
  have hz0:=HB.out.2.2.2
  refine ⟨((Chalk.Mod.of_below (S:=fun k=>k=mb) HB.out.1).trans hm1 (fun _ _ h=>h)).trans h (fun k hk h=>?_),(hu.agree (h.agree (fun k hk=>⟨hk.2,?_⟩))).mono (fun k hk=>⟨by have:=hk.1;omega,by have:=hk.2;omega⟩)⟩
  ·rcases h with h | h | h
   ·exact h
   ·omega
   ·omega
  ·rintro (h | h | h)
   ·have:=hk.1;omega
   ·have:=hk.1;omega
   ·have:=hk.2;omega)
 have HL1:=Lh (aI hle hl1)
 have HQ1:=Lh (aI q0 q1)
 have HMW:=Lh hmw
 clear hm1 hle hu hmk q0 q1 hl1 hmw
 go_wp2_with fail
 refine (part_any 5 u.a ts.length u.cap s x l1 mb w1 hmk1 (by have:=HM.out.2;have:=HL1.out.2;omega)).mono ?_
 rintro e w2 ⟨hm2,⟨hp,rfl,hmk2⟩ | ⟨hp,rfl,hmk2⟩⟩
 rotate_left
 ·refine ⟨rfl,(HFN.out _ (hm2.mono (fun _ h=>.inl h))).1,.inr ⟨?_,rfl,_,hmk2⟩⟩
  simp only [Tr.size_mk,sizes_one];have:=HL1.out;omega
 have q2:=heap_kept HQ1.out.2 hm2 (by omega)
 have hlw2:w.heap.size+1<w2.heap.size:=(gS q2).1
 have x0:w2.cell? ⟨w.heap.size+1,0,none⟩=some (.int .i64 0):=cH q2 rfl
 have f0:w2.frozen? ⟨w.heap.size+1,0,none⟩=false:=fH q2
 have x1:w2.cell? ⟨w.heap.size+1,1,none⟩=some (.int .i64 0):=cH q2 rfl
 have f1:w2.frozen? ⟨w.heap.size+1,1,none⟩=false:=fH q2
 have x2:w2.cell? ⟨w.heap.size+1,2,none⟩=some (.int .i64 0):=cH q2 rfl
 have f2:w2.frozen? ⟨w.heap.size+1,2,none⟩=false:=fH q2
 have x3:w2.cell? ⟨w.heap.size+1,3,none⟩=some (.slice none 0 0):=cH q2 rfl
 have f3:w2.frozen? ⟨w.heap.size+1,3,none⟩=false:=fH q2
 have HP:=Lh (aI hm2 (aI hp hmk2))
 have HQ2:=Lh q2
 clear hm2 hp hmk2 q2 hmk1
 go_wp2_with fail
 have hq3:=put4_heap HQ2.out (.int .i64 5) (.int .i64 0) (.int .i64 0) (.slice u.a ts.length u.cap)
 have hm3:=put4_mod w2 (w.heap.size+1) 0 (.int .i64 5) (.int .i64 0) (.int .i64 0) (.slice u.a ts.length u.cap)
 unfold put4 at hq3 hm3
 simp only [Nat.zero_add] at hq3 hm3
 generalize (((w2.setCell _ _).setCell _ _).setCell _ _).setCell _ _=W3 at hq3 hm3 ⊢
 have HY:=Lh (aI hq3 hm3)
 have y0:W3.cell? ⟨w.heap.size+1,0,none⟩=some (.int .i64 5):=cH hq3 rfl
 have y1:W3.cell? ⟨w.heap.size+1,1,none⟩=some (.int .i64 0):=cH hq3 rfl
 have y2:W3.cell? ⟨w.heap.size+1,2,none⟩=some (.int .i64 0):=cH hq3 rfl
 have y3:W3.cell? ⟨w.heap.size+1,3,none⟩=some (.slice u.a ts.length u.cap):=cH hq3 rfl
 clear hq3 hm3
 refine bodyPost_ret (v:=.agg #[.int .i64 5,.int .i64 0,.int .i64 0,.slice u.a ts.length u.cap]) (by simp [results,Tryz.results38,go_sem,y0,y1,y2,y3]) rfl ?_
 obtain ⟨g1,g2⟩:=HFN.out W3 ((HP.out.1.mono (fun _ h=>.inl h)).trans HY.out.2 (fun _ _ h=>.inr (.inl h)))
 have hsz:(Tr.mk 5 0 0 ts).size=1+sizes ts:=Tr.size_mk _ _ _ _
 have hq:=HL1.out
 have hp:=HP.out.2.1
 refine ⟨g1,.inl ⟨by omega,⟨_,rfl,Tr.close (i64_small (by decide) (by decide)) (i64_small (by decide) (by decide)) (i64_small (by decide) (by decide)) g2⟩,?_⟩⟩
 rw [hsz,show ((left:Int) - ((1+sizes ts:Nat):Int))=(l1:Int) - 1 by push_cast;omega]
 exact HP.out.2.2.kept HY.out.2 (by omega)

theorem gleast_any (n:Int) (name:Bs) (terms:List Trm) (binds:List Bnd) (l:List Frm) (fa:FrmA) (env:List Ev) (z:SlA) (s:Schl) (x:SchA) (w:World) (mb left:Nat) (ts:List Tr) (hn:0<=n/\n<=1099511627776) (hm:MkB w mb s x left) (hl:left<=65536)
  (hE:∀ W,Below w.heap.size w W->Calls Tryz.prog 80 #[.pointer (some ⟨mb,0,none⟩),.slice z.a env.length z.cap,ndV (.mk 16 name n terms binds l,fa)] W (EachP s x mb left W ts)) :
  Calls Tryz.prog 38 #[.pointer (some ⟨mb,0,none⟩),.slice z.a env.length z.cap,ndV (.mk 16 name n terms binds l,fa)] w (TreeP s x mb left w (.mk 6 0 n ts)):=by
 have hmlt:=hm.lt
 obtain ⟨W0,hW0⟩:∃ W0,W0=(w.alloc (.cells (fa.cells (.mk 16 name n terms binds l)).toArray 34)).alloc (.cells #[.int .i64 0,.int .i64 0,.int .i64 0,.slice none 0 0] 39):=⟨_,rfl⟩
 have hb0:Below w.heap.size w W0:=by rw [hW0];exact ((Below.refl _ _).alloc (Nat.le_refl _) _).alloc (by simp) _
 have hz0:W0.heap.size=w.heap.size+2:=by rw [hW0];simp
 have hq0:FrmBox W0 w.heap.size (.mk 16 name n terms binds l) fa:=by rw [hW0];unfold FrmBox;rw [heap_get,if_neg (by simp),heap_get,if_pos rfl]
 have hq1:W0.heap[w.heap.size+1]?=some (.cells #[.int .i64 0,.int .i64 0,.int .i64 0,.slice none 0 0] 39 (0,0)):=by rw [hW0,heap_get,if_pos (by simp)]
 have HE:=Lh (hE W0 hb0)
 have HB:=Lh (aI hb0 (aI hq0 (aI hq1 hz0)))
 have HW0:=Lh hW0
 have HN:=Lh hn
 have HM:=Lh (aI hm hl)
 obtain ⟨c0,c1,c2,c3,c4,c5⟩:=hq0.cells
 clear hb0 hq0 hq1 hW0 hE hn hm hl hz0
 simp only [ndV,FrmA.cells,SlA.val,Frm.kind,Frm.name,Frm.n,Frm.terms,Frm.binds,Frm.l] at HE HW0 c0 c1 c2 c3 c4 c5 ⊢
 go_enter Tryz.func38,Tryz.ntmps38
 go_wp2_with fail
 rw [<- HW0.out]
 go_wp2_with fail
 refine HE.out.mono ?_
 rintro e w1 ⟨hm1,⟨hle,⟨u,rfl,hu⟩,hmk⟩ | ⟨hlt,rfl,l',hmk⟩⟩
 rotate_left
 ·refine ⟨rfl,(Chalk.Mod.of_below (S:=fun k=>k=mb) HB.out.1).trans hm1 (fun _ _ h=>h),.inr ⟨?_,rfl,l',hmk⟩⟩
  simp only [Tr.size_mk,sizes_one];omega
 clear c0 c1 c2 c3 c4 c5
 have hmw:=hm1.size
 have q0:FrmBox w1 w.heap.size (.mk 16 name n terms binds l) fa:=heap_kept HB.out.2.1 hm1 (by omega)
 have q1:=heap_kept HB.out.2.2.1 hm1 (by omega)
 obtain ⟨c0,_,c2,_,_,_⟩:=q0.cells
 simp only [Frm.kind,Frm.n] at c0 c2
 have hlw:w.heap.size+1<w1.heap.size:=(gS q1).1
 obtain ⟨l1,hl1⟩:∃ l1,left - sizes ts=l1:=⟨_,rfl⟩
 have hmk1:MkB w1 mb s x (l1:Nat):=by rw [show ((l1:Nat):Int)=(left:Int) - sizes ts by omega];exact hmk
 have HFN:Hid (∀ W',Chalk.Mod (fun k=>k=mb∨k=w.heap.size+1∨w1.heap.size<=k) w1 W'->Chalk.Mod (fun k=>k=mb) w W'/\SlIn W' (fun k=>w.heap.size<=k/\k<W'.heap.size) (ts.map Tr.toD) u):=Lh (fun W' h=>by
  have hz:=h.size
  have hz0:=HB.out.2.2.2
  refine ⟨((Chalk.Mod.of_below (S:=fun k=>k=mb) HB.out.1).trans hm1 (fun _ _ h=>h)).trans h (fun k hk h=>?_),(hu.agree (h.agree (fun k hk=>⟨hk.2,?_⟩))).mono (fun k hk=>⟨by have:=hk.1;omega,by have:=hk.2;omega⟩)⟩
  ·rcases h with h | h | h
   ·exact h
   ·omega
   ·omega
  ·rintro (h | h | h)
   ·have:=hk.1;omega
   ·have:=hk.1;omega
   ·have:=hk.2;omega)
 have HL1:=Lh (aI hle hl1)
 have HQ1:=Lh (aI q0 q1)
 have HMW:=Lh hmw
 clear hm1 hle hu hmk q0 q1 hl1 hmw
 go_wp2_with fail
 refine (part_any 6 u.a ts.length u.cap s x l1 mb w1 hmk1 (by have:=HM.out.2;have:=HL1.out.2;omega)).mono ?_
 rintro e w2 ⟨hm2,⟨hp,rfl,hmk2⟩ | ⟨hp,rfl,hmk2⟩⟩
 rotate_left
 ·refine ⟨rfl,(HFN.out _ (hm2.mono (fun _ h=>.inl h))).1,.inr ⟨?_,rfl,_,hmk2⟩⟩
  simp only [Tr.size_mk,sizes_one];have:=HL1.out;omega
 have q2:=heap_kept HQ1.out.2 hm2 (by omega)
 have hf2:FrmBox w2 w.heap.size (.mk 16 name n terms binds l) fa:=heap_kept HQ1.out.1 hm2 (by omega)
 obtain ⟨c0,_,c2,_,_,_⟩:=hf2.cells
 simp only [Frm.kind,Frm.n] at c0 c2
 have hlw0:w.heap.size<w2.heap.size:=(gS hf2).1
 have hlw2:w.heap.size+1<w2.heap.size:=(gS q2).1
 have x0:w2.cell? ⟨w.heap.size+1,0,none⟩=some (.int .i64 0):=cH q2 rfl
 have f0:w2.frozen? ⟨w.heap.size+1,0,none⟩=false:=fH q2
 have x1:w2.cell? ⟨w.heap.size+1,1,none⟩=some (.int .i64 0):=cH q2 rfl
 have f1:w2.frozen? ⟨w.heap.size+1,1,none⟩=false:=fH q2
 have x2:w2.cell? ⟨w.heap.size+1,2,none⟩=some (.int .i64 0):=cH q2 rfl
 have f2:w2.frozen? ⟨w.heap.size+1,2,none⟩=false:=fH q2
 have x3:w2.cell? ⟨w.heap.size+1,3,none⟩=some (.slice none 0 0):=cH q2 rfl
 have f3:w2.frozen? ⟨w.heap.size+1,3,none⟩=false:=fH q2
 have HP:=Lh (aI hm2 (aI hp hmk2))
 have HQ2:=Lh q2
 clear hm2 hp hmk2 q2 hmk1 hf2
 go_wp2_with fail
 have hq3:=put4_heap HQ2.out (.int .i64 6) (.int .i64 0) (.int .i64 n) (.slice u.a ts.length u.cap)
 have hm3:=put4_mod w2 (w.heap.size+1) 0 (.int .i64 6) (.int .i64 0) (.int .i64 n) (.slice u.a ts.length u.cap)
 unfold put4 at hq3 hm3
 simp only [Nat.zero_add] at hq3 hm3
 generalize (((w2.setCell _ _).setCell _ _).setCell _ _).setCell _ _=W3a at hq3 hm3 ⊢
 have hq4:=(Below.heap_alloc W3a (.cells #[.int .i64 6,.int .i64 0,.int .i64 n,.slice u.a ts.length u.cap] 39) _ (gS hq3).1).trans hq3
 have hm4:=hm3.alloc (.cells #[.int .i64 6,.int .i64 0,.int .i64 n,.slice u.a ts.length u.cap] 39)
 clear hq3 hm3
 generalize W3a.alloc (.cells #[.int .i64 6,.int .i64 0,.int .i64 n,.slice u.a ts.length u.cap] 39)=W3 at hq4 hm4 ⊢
 have hq3:=hq4
 have hm3:=hm4
 clear hq4 hm4 W3a
 have HY:=Lh (aI hq3 hm3)
 have y0:W3.cell? ⟨w.heap.size+1,0,none⟩=some (.int .i64 6):=cH hq3 rfl
 have y1:W3.cell? ⟨w.heap.size+1,1,none⟩=some (.int .i64 0):=cH hq3 rfl
 have y2:W3.cell? ⟨w.heap.size+1,2,none⟩=some (.int .i64 n):=cH hq3 rfl
 have y3:W3.cell? ⟨w.heap.size+1,3,none⟩=some (.slice u.a ts.length u.cap):=cH hq3 rfl
 clear hq3 hm3
 refine bodyPost_ret (v:=.agg #[.int .i64 6,.int .i64 0,.int .i64 n,.slice u.a ts.length u.cap]) (by simp [results,Tryz.results38,go_sem,y0,y1,y2,y3]) rfl ?_
 obtain ⟨g1,g2⟩:=HFN.out W3 ((HP.out.1.mono (fun _ h=>.inl h)).trans HY.out.2 (fun _ _ h=>.inr (.inl h)))
 have hsz:(Tr.mk 6 0 n ts).size=1+sizes ts:=Tr.size_mk _ _ _ _
 have hq:=HL1.out
 have hp:=HP.out.2.1
 have hn:=HN.out
 refine ⟨g1,.inl ⟨by omega,⟨_,rfl,Tr.close (i64_small (by decide) (by decide)) (i64_small (by decide) (by decide)) (i64_small (by omega) (by omega)) g2⟩,?_⟩⟩
 rw [hsz,show ((left:Int) - ((1+sizes ts:Nat):Int))=(l1:Int) - 1 by push_cast;omega]
 exact HP.out.2.2.kept HY.out.2 (by omega)

theorem gmost_any (n:Int) (name:Bs) (terms:List Trm) (binds:List Bnd) (l:List Frm) (fa:FrmA) (env:List Ev) (z:SlA) (s:Schl) (x:SchA) (w:World) (mb left:Nat) (ts:List Tr) (hn:0<=n/\n<=1099511627776) (hm:MkB w mb s x left) (hl:left<=65536)
  (hE:∀ W,Below w.heap.size w W->Calls Tryz.prog 80 #[.pointer (some ⟨mb,0,none⟩),.slice z.a env.length z.cap,ndV (.mk 17 name n terms binds l,fa)] W (EachP s x mb left W ts)) :
  Calls Tryz.prog 38 #[.pointer (some ⟨mb,0,none⟩),.slice z.a env.length z.cap,ndV (.mk 17 name n terms binds l,fa)] w (TreeP s x mb left w (.mk 3 0 0 [.mk 6 0 (min (n+1) 1099511627776) ts])):=by
 have hmlt:=hm.lt
 obtain ⟨W0,hW0⟩:∃ W0,W0=(w.alloc (.cells (fa.cells (.mk 17 name n terms binds l)).toArray 34)).alloc (.cells #[.int .i64 0,.int .i64 0,.int .i64 0,.slice none 0 0] 39):=⟨_,rfl⟩
 have hb0:Below w.heap.size w W0:=by rw [hW0];exact ((Below.refl _ _).alloc (Nat.le_refl _) _).alloc (by simp) _
 have hz0:W0.heap.size=w.heap.size+2:=by rw [hW0];simp
 have hq0:FrmBox W0 w.heap.size (.mk 17 name n terms binds l) fa:=by rw [hW0];unfold FrmBox;rw [heap_get,if_neg (by simp),heap_get,if_pos rfl]
 have hq1:W0.heap[w.heap.size+1]?=some (.cells #[.int .i64 0,.int .i64 0,.int .i64 0,.slice none 0 0] 39 (0,0)):=by rw [hW0,heap_get,if_pos (by simp)]
 have HE:=Lh (hE W0 hb0)
 have HB:=Lh (aI hb0 (aI hq0 (aI hq1 hz0)))
 have HW0:=Lh hW0
 have HN:=Lh hn
 have HM:=Lh (aI hm hl)
 obtain ⟨c0,c1,c2,c3,c4,c5⟩:=hq0.cells
 clear hb0 hq0 hq1 hW0 hE hn hm hl hz0
 simp only [ndV,FrmA.cells,SlA.val,Frm.kind,Frm.name,Frm.n,Frm.terms,Frm.binds,Frm.l] at HE HW0 c0 c1 c2 c3 c4 c5 ⊢
 go_enter Tryz.func38,Tryz.ntmps38
 go_wp2_with fail
 rw [<- HW0.out]
 go_wp2_with fail
 refine HE.out.mono ?_
 rintro e w1 ⟨hm1,⟨hle,⟨u,rfl,hu⟩,hmk⟩ | ⟨hlt,rfl,l',hmk⟩⟩
 rotate_left
 ·refine ⟨rfl,(Chalk.Mod.of_below (S:=fun k=>k=mb) HB.out.1).trans hm1 (fun _ _ h=>h),.inr ⟨?_,rfl,l',hmk⟩⟩
  simp only [Tr.size_mk,sizes_one];omega
 clear c0 c1 c2 c3 c4 c5
 have hmw:=hm1.size
 have q0:FrmBox w1 w.heap.size (.mk 17 name n terms binds l) fa:=heap_kept HB.out.2.1 hm1 (by omega)
 have q1:=heap_kept HB.out.2.2.1 hm1 (by omega)
 obtain ⟨c0,_,c2,_,_,_⟩:=q0.cells
 simp only [Frm.kind,Frm.n] at c0 c2
 have hlw:w.heap.size+1<w1.heap.size:=(gS q1).1
 obtain ⟨l1,hl1⟩:∃ l1,left - sizes ts=l1:=⟨_,rfl⟩
 have hmk1:MkB w1 mb s x (l1:Nat):=by rw [show ((l1:Nat):Int)=(left:Int) - sizes ts by omega];exact hmk
 have HFN:Hid (∀ W',Chalk.Mod (fun k=>k=mb∨k=w.heap.size+1∨w1.heap.size<=k) w1 W'->Chalk.Mod (fun k=>k=mb) w W'/\SlIn W' (fun k=>w.heap.size<=k/\k<W'.heap.size) (ts.map Tr.toD) u):=Lh (fun W' h=>by
  have hz:=h.size
  have hz0:=HB.out.2.2.2
  refine ⟨((Chalk.Mod.of_below (S:=fun k=>k=mb) HB.out.1).trans hm1 (fun _ _ h=>h)).trans h (fun k hk h=>?_),(hu.agree (h.agree (fun k hk=>⟨hk.2,?_⟩))).mono (fun k hk=>⟨by have:=hk.1;omega,by have:=hk.2;omega⟩)⟩
  ·rcases h with h | h | h
   ·exact h
   ·omega
   ·omega
  ·rintro (h | h | h)
   ·have:=hk.1;omega
   ·have:=hk.1;omega
   ·have:=hk.2;omega)
 have HL1:=Lh (aI hle hl1)
 have HQ1:=Lh (aI q0 q1)
 have HMW:=Lh hmw
 clear hm1 hle hu hmk q0 q1 hl1 hmw
 go_wp2_with fail
 refine (part_any 6 u.a ts.length u.cap s x l1 mb w1 hmk1 (by have:=HM.out.2;have:=HL1.out.2;omega)).mono ?_
 rintro e w2 ⟨hm2,⟨hp,rfl,hmk2⟩ | ⟨hp,rfl,hmk2⟩⟩
 rotate_left
 ·refine ⟨rfl,(HFN.out _ (hm2.mono (fun _ h=>.inl h))).1,.inr ⟨?_,rfl,_,hmk2⟩⟩
  simp only [Tr.size_mk,sizes_one];have:=HL1.out;omega
 have q2:=heap_kept HQ1.out.2 hm2 (by omega)
 have hf2:FrmBox w2 w.heap.size (.mk 17 name n terms binds l) fa:=heap_kept HQ1.out.1 hm2 (by omega)
 obtain ⟨c0,_,c2,_,_,_⟩:=hf2.cells
 simp only [Frm.kind,Frm.n] at c0 c2
 have hlw0:w.heap.size<w2.heap.size:=(gS hf2).1
 have hlw2:w.heap.size+1<w2.heap.size:=(gS q2).1
 have x0:w2.cell? ⟨w.heap.size+1,0,none⟩=some (.int .i64 0):=cH q2 rfl
 have f0:w2.frozen? ⟨w.heap.size+1,0,none⟩=false:=fH q2
 have x1:w2.cell? ⟨w.heap.size+1,1,none⟩=some (.int .i64 0):=cH q2 rfl
 have f1:w2.frozen? ⟨w.heap.size+1,1,none⟩=false:=fH q2
 have x2:w2.cell? ⟨w.heap.size+1,2,none⟩=some (.int .i64 0):=cH q2 rfl
 have f2:w2.frozen? ⟨w.heap.size+1,2,none⟩=false:=fH q2
 have x3:w2.cell? ⟨w.heap.size+1,3,none⟩=some (.slice none 0 0):=cH q2 rfl
 have f3:w2.frozen? ⟨w.heap.size+1,3,none⟩=false:=fH q2
 have HP:=Lh (aI hm2 (aI hp hmk2))
 have HQ2:=Lh q2
 clear hm2 hp hmk2 q2 hmk1 hf2
 have hn0:=HN.out.1
 have hn1:=HN.out.2
 go_wp2_with fail
 obtain ⟨WA,hWA⟩:∃ WA,WA=(w2.alloc (.cells #[.int .i64 6,.int .i64 0,.int .i64 (min (n+1) 1099511627776),.slice u.a ts.length u.cap] 39)).alloc (.cells #[.int .i64 6,.int .i64 0,.int .i64 (min (n+1) 1099511627776),.slice u.a ts.length u.cap] 39):=⟨_,rfl⟩
 have hbA:Below w2.heap.size w2 WA:=by rw [hWA];exact ((Below.refl _ _).alloc (Nat.le_refl _) _).alloc (by simp) _
 have hzA:WA.heap.size=w2.heap.size+2:=by rw [hWA];simp
 have hkA:WA.heap[w2.heap.size+1]?=some (.cells #[.int .i64 6,.int .i64 0,.int .i64 (min (n+1) 1099511627776),.slice u.a ts.length u.cap] 39 (0,0)):=by rw [hWA,heap_get,if_pos (by simp)]
 obtain ⟨l2,hl2⟩:∃ l2,l1 - 1=l2:=⟨_,rfl⟩
 have hp1:=HP.out.2.1
 have hmk3:MkB WA mb s x (l2:Nat):=by
  rw [show ((l2:Nat):Int)=(l1:Int) - 1 by omega]
  exact (hbA.block mb HP.out.2.2.lt).trans HP.out.2.2
 have HA:=Lh (aI hbA (aI hzA (aI hkA hl2)))
 rw [<- hWA]
 clear hWA hbA hzA hkA hp1 hl2 x0 x1 x2 x3 f0 f1 f2 f3 c0 c2 hlw0 hlw2
 refine (part_any 3 (some ⟨w2.heap.size+1,0,none⟩) 1 1 s x l2 mb WA hmk3 (by have:=HM.out.2;have:=HL1.out.2;have:=HA.out;omega)).mono ?_
 rintro e w3 ⟨hm3,⟨hp,rfl,hmk4⟩ | ⟨hp,rfl,hmk4⟩⟩
 rotate_left
 ·refine ⟨rfl,(HFN.out _ ((HP.out.1.mono (fun _ h=>.inl h)).trans ((Chalk.Mod.of_below (S:=fun k=>k=mb) HA.out.1).trans hm3 (fun _ _ h=>h)) (fun _ _ h=>.inl h))).1,.inr ⟨?_,rfl,_,hmk4⟩⟩
  simp only [Tr.size_mk,sizes_one];have:=HL1.out;have:=HA.out;have:=HP.out.2.1;omega
 have q3:=heap_kept ((HA.out.1.block _ (gS HQ2.out).1).trans HQ2.out) hm3 (by omega)
 have k3:=heap_kept HA.out.2.2.1 hm3 (by have:=HP.out.2.2.lt;omega)
 have hlw3:w.heap.size+1<w3.heap.size:=(gS q3).1
 have x0:w3.cell? ⟨w.heap.size+1,0,none⟩=some (.int .i64 0):=cH q3 rfl
 have f0:w3.frozen? ⟨w.heap.size+1,0,none⟩=false:=fH q3
 have x1:w3.cell? ⟨w.heap.size+1,1,none⟩=some (.int .i64 0):=cH q3 rfl
 have f1:w3.frozen? ⟨w.heap.size+1,1,none⟩=false:=fH q3
 have x2:w3.cell? ⟨w.heap.size+1,2,none⟩=some (.int .i64 0):=cH q3 rfl
 have f2:w3.frozen? ⟨w.heap.size+1,2,none⟩=false:=fH q3
 have x3:w3.cell? ⟨w.heap.size+1,3,none⟩=some (.slice none 0 0):=cH q3 rfl
 have f3:w3.frozen? ⟨w.heap.size+1,3,none⟩=false:=fH q3
 have HP3:=Lh (aI hm3 (aI hp (aI hmk4 k3)))
 have HQ3:=Lh q3
 clear hm3 hp hmk4 q3 k3 hmk3
 go_wp2_with fail
 have hq3:=put4_heap HQ3.out (.int .i64 3) (.int .i64 0) (.int .i64 0) (.slice (some ⟨w2.heap.size+1,0,none⟩) 1 1)
 have hm3:=put4_mod w3 (w.heap.size+1) 0 (.int .i64 3) (.int .i64 0) (.int .i64 0) (.slice (some ⟨w2.heap.size+1,0,none⟩) 1 1)
 unfold put4 at hq3 hm3
 simp only [Nat.zero_add] at hq3 hm3
 generalize (((w3.setCell _ _).setCell _ _).setCell _ _).setCell _ _=W3 at hq3 hm3 ⊢
 have HY:=Lh (aI hq3 hm3)
 have y0:W3.cell? ⟨w.heap.size+1,0,none⟩=some (.int .i64 3):=cH hq3 rfl
 have y1:W3.cell? ⟨w.heap.size+1,1,none⟩=some (.int .i64 0):=cH hq3 rfl
 have y2:W3.cell? ⟨w.heap.size+1,2,none⟩=some (.int .i64 0):=cH hq3 rfl
 have y3:W3.cell? ⟨w.heap.size+1,3,none⟩=some (.slice (some ⟨w2.heap.size+1,0,none⟩) 1 1):=cH hq3 rfl
 clear hq3 hm3
 refine bodyPost_ret (v:=.agg #[.int .i64 3,.int .i64 0,.int .i64 0,.slice (some ⟨w2.heap.size+1,0,none⟩) 1 1]) (by simp [results,Tryz.results38,go_sem,y0,y1,y2,y3]) rfl ?_
 have hmW:Chalk.Mod (fun k=>k=mb∨k=w.heap.size+1∨w1.heap.size<=k) w1 W3:=((HP.out.1.mono (fun _ h=>.inl h)).trans ((Chalk.Mod.of_below (S:=fun k=>k=mb) HA.out.1).trans HP3.out.1 (fun _ _ h=>h)) (fun _ _ h=>.inl h)).trans HY.out.2 (fun _ _ h=>.inr (.inl h))
 obtain ⟨g1,g2⟩:=HFN.out W3 hmW
 have hsz:(Tr.mk 3 0 0 [.mk 6 0 (min (n+1) 1099511627776) ts]).size=2+sizes ts:=by simp only [Tr.size_mk,sizes_one];omega
 have hq:=HL1.out
 have hp:=HP.out.2.1
 have hp3:=HP3.out.2.1
 have hA:=HA.out
 have hn:=HN.out
 have hw2:w1.heap.size<=w2.heap.size:=HP.out.1.size
 have hk3:=heap_kept HP3.out.2.2.2 HY.out.2 (by have:=HMW.out;have:=HB.out.2.2.2;omega)
 have hin:=Tr.close (kind:=6) (v:=0) (k:=min (n+1) 1099511627776) (i64_small (by decide) (by decide)) (i64_small (by decide) (by decide)) (i64_small (by omega) (by omega)) g2
 have hsl:SlIn W3 (fun k=>w.heap.size<=k/\k<W3.heap.size) ([Tr.mk 6 0 (min (n+1) 1099511627776) ts].map Tr.toD) ⟨some ⟨w2.heap.size+1,0,none⟩,w2.heap.size+1,0,1⟩ :=
  SlIn.lit hk3 (DsAt.oneT hin) ⟨by have:=HMW.out;have:=HB.out.2.2.2;omega,(gS hk3).1⟩ (by simp) (by unfold maxLen;omega)
 refine ⟨g1,.inl ⟨by omega,⟨_,rfl,Tr.close (i64_small (by decide) (by decide)) (i64_small (by decide) (by decide)) (i64_small (by decide) (by decide)) hsl⟩,?_⟩⟩
 rw [hsz,show ((left:Int) - ((2+sizes ts:Nat):Int))=(l2:Int) - 1 by push_cast;omega]
 exact HP3.out.2.2.1.kept HY.out.2 (by omega)
end Go.Proofs.YtjjkfgjnadaheaaGreatDoor
