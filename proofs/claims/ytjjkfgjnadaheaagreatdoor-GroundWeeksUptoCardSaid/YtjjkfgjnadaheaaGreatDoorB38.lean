/- Joined texts: EvG, EvH, EvI, EvJ, EvK. -/
import Derived.Test.YtjjkfgjnadaheaaGreatDoorB35
set_option linter.unusedVariables false
set_option linter.unusedSimpArgs false
set_option maxHeartbeats 4000000
set_option maxRecDepth 100000

/- school.has and its callers. Printed by gen_has.py. -/
namespace Go.Chalk
open Go.RowKit
theorem hasF_out {l:List (List Int)} {at_ n:Int} (h:¬ (0<=at_/\at_<l.length)):hasF l at_ n=false:=by
 unfold hasF
 by_cases h1:0<=at_
 ·have h2:¬ at_<l.length:=fun h2=>h ⟨h1,h2⟩
  simp [h2]
 ·simp [h1]
theorem hasF_in {l:List (List Int)} {k:Nat} {n:Int} (h:k<l.length):hasF l (k:Int) n=(l[k]).contains n:=by
 unfold hasF
 rw [Int.toNat_natCast,List.getElem?_eq_getElem h]
 have h1:(0:Int)<=(k:Int):=by omega
 have h2:(k:Int)<(l.length:Int):=by omega
 simp only [h1,h2,decide_true,Bool.true_and,Option.getD_some]
end Go.Chalk
namespace Go.Proofs.YtjjkfgjnadaheaaGreatDoor
open Go.RowKit Go.Chalk
theorem teaches1_any (x:Lsn) (y z:SlA) (w:World):Calls Tryz.prog 323 #[.agg #[.string ⟨x.name.toArray⟩,.slice y.a x.who.length y.cap,.slice z.a x.groups.length z.cap]] w fun e w'=>e=.returned (.slice y.a x.who.length y.cap)/\Below w.heap.size w w':=by
 go_enter Tryz.func323,Tryz.ntmps323
 go_wp2_with fail
 go_ret
 exact ⟨rfl,(Below.refl _ _).alloc (Nat.le_refl _) _⟩
theorem has_teaches (l:List Lsn) (x:SlA) (at_ n:Int) (w:World) (hx:SlIn w (·<w.heap.size) (l.map Lsn.toD) x) (hl:l.length<=2000000) (hm:∀ q∈l,q.who.length<=2000000) :
  Calls Tryz.prog 322 #[.slice x.a l.length x.cap,.int .i64 at_,.func (.func 323) #[] #[],.int .i64 n] w fun e w'=>e=.returned (.bool (hasF (l.map Lsn.who) at_ n))/\Below w.heap.size w w':=by
 by_cases h1:0<=at_
 ·by_cases h2:at_<(l.length:Int)
  ·obtain ⟨k,rfl⟩:∃ k:Nat,at_=(k:Int):=⟨at_.toNat,by omega⟩
   have hk:k<l.length:=by omega
   obtain ⟨y,z,hy,hz,_,hc⟩:=hx.lsn k hk
   obtain ⟨e0,e1,e2⟩:=hc.three
   obtain ⟨hxa,_⟩:=hx.at_ (by rw [List.length_map];omega)
   have hr:hasF (l.map Lsn.who) (k:Int) n=(l[k].who).contains n:=by rw [hasF_in (by simpa using hk)];simp
   rw [hr]
   have HL:=Lh (fun W=>teaches1_any l[k] y z W)
   have HC:=Lh (fun (W:World) (hW:Below w.heap.size w W)=>contains_ints l[k].who y n W (hy.later hW hW.size) (hm _ (List.getElem_mem hk)))
   rw [hxa]
   clear hx hm hr hc hy hz
   generalize (l[k].who).contains n=res at HC ⊢
   generalize l[k]=q at HL HC e0 e1 e2
   go_enter Tryz.func322,Tryz.ntmps322
   go_wp2_with fail
   refine (HL.out _).mono ?_
   rintro e w1 ⟨rfl,hb⟩
   have HB:=Lh hb
   clear hb
   go_wp2_with fail
   refine (HC.out _ HB.out).mono ?_
   rintro e w2 ⟨rfl,rfl⟩
   go_wp2_with fail
   go_ret
   exact ⟨rfl,HB.out⟩
  ·rw [hasF_out (by simp;omega)]
   have h2':decide (at_<(l.length:Int))=false:=by simpa using h2
   clear hx h2
   go_enter Tryz.func322,Tryz.ntmps322
   go_wp2_with fail
   go_ret
   exact ⟨rfl,Below.refl _ _⟩
 ·rw [hasF_out (by omega)]
  have h1':decide (0<=at_)=false:=by simpa using h1
  clear hx h1
  go_enter Tryz.func322,Tryz.ntmps322
  go_wp2_with fail
  go_ret
  exact ⟨rfl,Below.refl _ _⟩

theorem teaches_any (s:Schl) (x:SchA) (p q:Int) (w:World) (hs:SchIn w (·<w.heap.size) s x) (hf:SchFit s) :
  Calls Tryz.prog 315 #[.agg (x.cells s).toArray,.int .i64 p,.int .i64 q] w fun e w'=>e=.returned (.bool (hasF (s.lessons.map Lsn.who) q p))/\Below w.heap.size w w':=by
 have hba:Below w.heap.size w (w.alloc (.cells (x.cells s).toArray 28)):=(Below.refl _ _).alloc (Nat.le_refl _) _
 have HH:=Lh (has_teaches s.lessons x.lessons q p _ (hs.later hba hba.size).lessons hf.lessons hf.who)
 have HB:=Lh hba
 clear hs hba
 simp only [SchA.cells,SlA.val] at HH HB ⊢
 go_enter Tryz.func315,Tryz.ntmps315
 go_wp2_with fail
 refine HH.out.mono ?_
 rintro e w1 ⟨rfl,hb⟩
 have HB1:=Lh (HB.out.trans (hb.mono HB.out.size))
 clear hb
 go_wp2_with fail
 go_ret
 exact ⟨rfl,HB1.out⟩

theorem attends1_any (x:Lsn) (y z:SlA) (w:World):Calls Tryz.prog 324 #[.agg #[.string ⟨x.name.toArray⟩,.slice y.a x.who.length y.cap,.slice z.a x.groups.length z.cap]] w fun e w'=>e=.returned (.slice z.a x.groups.length z.cap)/\Below w.heap.size w w':=by
 go_enter Tryz.func324,Tryz.ntmps324
 go_wp2_with fail
 go_ret
 exact ⟨rfl,(Below.refl _ _).alloc (Nat.le_refl _) _⟩
theorem has_attends (l:List Lsn) (x:SlA) (at_ n:Int) (w:World) (hx:SlIn w (·<w.heap.size) (l.map Lsn.toD) x) (hl:l.length<=2000000) (hm:∀ q∈l,q.groups.length<=2000000) :
  Calls Tryz.prog 322 #[.slice x.a l.length x.cap,.int .i64 at_,.func (.func 324) #[] #[],.int .i64 n] w fun e w'=>e=.returned (.bool (hasF (l.map Lsn.groups) at_ n))/\Below w.heap.size w w':=by
 by_cases h1:0<=at_
 ·by_cases h2:at_<(l.length:Int)
  ·obtain ⟨k,rfl⟩:∃ k:Nat,at_=(k:Int):=⟨at_.toNat,by omega⟩
   have hk:k<l.length:=by omega
   obtain ⟨y,z,hy,hz,_,hc⟩:=hx.lsn k hk
   obtain ⟨e0,e1,e2⟩:=hc.three
   obtain ⟨hxa,_⟩:=hx.at_ (by rw [List.length_map];omega)
   have hr:hasF (l.map Lsn.groups) (k:Int) n=(l[k].groups).contains n:=by rw [hasF_in (by simpa using hk)];simp
   rw [hr]
   have HL:=Lh (fun W=>attends1_any l[k] y z W)
   have HC:=Lh (fun (W:World) (hW:Below w.heap.size w W)=>contains_ints l[k].groups z n W (hz.later hW hW.size) (hm _ (List.getElem_mem hk)))
   rw [hxa]
   clear hx hm hr hc hy hz
   generalize (l[k].groups).contains n=res at HC ⊢
   generalize l[k]=q at HL HC e0 e1 e2
   go_enter Tryz.func322,Tryz.ntmps322
   go_wp2_with fail
   refine (HL.out _).mono ?_
   rintro e w1 ⟨rfl,hb⟩
   have HB:=Lh hb
   clear hb
   go_wp2_with fail
   refine (HC.out _ HB.out).mono ?_
   rintro e w2 ⟨rfl,rfl⟩
   go_wp2_with fail
   go_ret
   exact ⟨rfl,HB.out⟩
  ·rw [hasF_out (by simp;omega)]
   have h2':decide (at_<(l.length:Int))=false:=by simpa using h2
   clear hx h2
   go_enter Tryz.func322,Tryz.ntmps322
   go_wp2_with fail
   go_ret
   exact ⟨rfl,Below.refl _ _⟩
 ·rw [hasF_out (by omega)]
  have h1':decide (0<=at_)=false:=by simpa using h1
  clear hx h1
  go_enter Tryz.func322,Tryz.ntmps322
  go_wp2_with fail
  go_ret
  exact ⟨rfl,Below.refl _ _⟩

theorem attends_any (s:Schl) (x:SchA) (p q:Int) (w:World) (hs:SchIn w (·<w.heap.size) s x) (hf:SchFit s) :
  Calls Tryz.prog 317 #[.agg (x.cells s).toArray,.int .i64 p,.int .i64 q] w fun e w'=>e=.returned (.bool (hasF (s.lessons.map Lsn.groups) q p))/\Below w.heap.size w w':=by
 have hba:Below w.heap.size w (w.alloc (.cells (x.cells s).toArray 28)):=(Below.refl _ _).alloc (Nat.le_refl _) _
 have HH:=Lh (has_attends s.lessons x.lessons q p _ (hs.later hba hba.size).lessons hf.lessons hf.grps)
 have HB:=Lh hba
 clear hs hba
 simp only [SchA.cells,SlA.val] at HH HB ⊢
 go_enter Tryz.func317,Tryz.ntmps317
 go_wp2_with fail
 refine HH.out.mono ?_
 rintro e w1 ⟨rfl,hb⟩
 have HB1:=Lh (HB.out.trans (hb.mono HB.out.size))
 clear hb
 go_wp2_with fail
 go_ret
 exact ⟨rfl,HB1.out⟩

theorem away1_any (x:Psn) (y:SlA) (w:World):Calls Tryz.prog 326 #[.agg #[.string ⟨x.name.toArray⟩,.slice y.a x.away.length y.cap]] w fun e w'=>e=.returned (.slice y.a x.away.length y.cap)/\Below w.heap.size w w':=by
 go_enter Tryz.func326,Tryz.ntmps326
 go_wp2_with fail
 go_ret
 exact ⟨rfl,(Below.refl _ _).alloc (Nat.le_refl _) _⟩
theorem has_away (l:List Psn) (x:SlA) (at_ n:Int) (w:World) (hx:SlIn w (·<w.heap.size) (l.map Psn.toD) x) (hl:l.length<=2000000) (hm:∀ q∈l,q.away.length<=2000000) :
  Calls Tryz.prog 325 #[.slice x.a l.length x.cap,.int .i64 at_,.func (.func 326) #[] #[],.int .i64 n] w fun e w'=>e=.returned (.bool (hasF (l.map Psn.away) at_ n))/\Below w.heap.size w w':=by
 by_cases h1:0<=at_
 ·by_cases h2:at_<(l.length:Int)
  ·obtain ⟨k,rfl⟩:∃ k:Nat,at_=(k:Int):=⟨at_.toNat,by omega⟩
   have hk:k<l.length:=by omega
   obtain ⟨y,hy,_,hc⟩:=hx.psn k hk
   obtain ⟨e0,e1⟩:=hc.two
   obtain ⟨hxa,_⟩:=hx.at_ (by rw [List.length_map];omega)
   have hr:hasF (l.map Psn.away) (k:Int) n=(l[k].away).contains n:=by rw [hasF_in (by simpa using hk)];simp
   rw [hr]
   have HL:=Lh (fun W=>away1_any l[k] y W)
   have HC:=Lh (fun (W:World) (hW:Below w.heap.size w W)=>contains_ints l[k].away y n W (hy.later hW hW.size) (hm _ (List.getElem_mem hk)))
   rw [hxa]
   clear hx hm hr hc hy
   generalize (l[k].away).contains n=res at HC ⊢
   generalize l[k]=q at HL HC e0 e1
   go_enter Tryz.func325,Tryz.ntmps325
   go_wp2_with fail
   refine (HL.out _).mono ?_
   rintro e w1 ⟨rfl,hb⟩
   have HB:=Lh hb
   clear hb
   go_wp2_with fail
   refine (HC.out _ HB.out).mono ?_
   rintro e w2 ⟨rfl,rfl⟩
   go_wp2_with fail
   go_ret
   exact ⟨rfl,HB.out⟩
  ·rw [hasF_out (by simp;omega)]
   have h2':decide (at_<(l.length:Int))=false:=by simpa using h2
   clear hx h2
   go_enter Tryz.func325,Tryz.ntmps325
   go_wp2_with fail
   go_ret
   exact ⟨rfl,Below.refl _ _⟩
 ·rw [hasF_out (by omega)]
  have h1':decide (0<=at_)=false:=by simpa using h1
  clear hx h1
  go_enter Tryz.func325,Tryz.ntmps325
  go_wp2_with fail
  go_ret
  exact ⟨rfl,Below.refl _ _⟩

theorem away_any (s:Schl) (x:SchA) (p q:Int) (w:World) (hs:SchIn w (·<w.heap.size) s x) (hf:SchFit s) :
  Calls Tryz.prog 319 #[.agg (x.cells s).toArray,.int .i64 p,.int .i64 q] w fun e w'=>e=.returned (.bool (hasF (s.people.map Psn.away) p q))/\Below w.heap.size w w':=by
 have hba:Below w.heap.size w (w.alloc (.cells (x.cells s).toArray 28)):=(Below.refl _ _).alloc (Nat.le_refl _) _
 have HH:=Lh (has_away s.people x.people p q _ (hs.later hba hba.size).people hf.people hf.away)
 have HB:=Lh hba
 clear hs hba
 simp only [SchA.cells,SlA.val] at HH HB ⊢
 go_enter Tryz.func319,Tryz.ntmps319
 go_wp2_with fail
 refine HH.out.mono ?_
 rintro e w1 ⟨rfl,hb⟩
 have HB1:=Lh (HB.out.trans (hb.mono HB.out.size))
 clear hb
 go_wp2_with fail
 go_ret
 exact ⟨rfl,HB1.out⟩

theorem shut1_any (x:Rom) (y:SlA) (w:World):Calls Tryz.prog 328 #[.agg #[.string ⟨x.name.toArray⟩,.int .i64 x.house,.int .i64 x.seats,.slice y.a x.shut.length y.cap]] w fun e w'=>e=.returned (.slice y.a x.shut.length y.cap)/\Below w.heap.size w w':=by
 go_enter Tryz.func328,Tryz.ntmps328
 go_wp2_with fail
 go_ret
 exact ⟨rfl,(Below.refl _ _).alloc (Nat.le_refl _) _⟩
theorem has_shut (l:List Rom) (x:SlA) (at_ n:Int) (w:World) (hx:SlIn w (·<w.heap.size) (l.map Rom.toD) x) (hl:l.length<=2000000) (hm:∀ q∈l,q.shut.length<=2000000) :
  Calls Tryz.prog 327 #[.slice x.a l.length x.cap,.int .i64 at_,.func (.func 328) #[] #[],.int .i64 n] w fun e w'=>e=.returned (.bool (hasF (l.map Rom.shut) at_ n))/\Below w.heap.size w w':=by
 by_cases h1:0<=at_
 ·by_cases h2:at_<(l.length:Int)
  ·obtain ⟨k,rfl⟩:∃ k:Nat,at_=(k:Int):=⟨at_.toNat,by omega⟩
   have hk:k<l.length:=by omega
   obtain ⟨y,hy,_,_,_,hc⟩:=hx.rom k hk
   obtain ⟨e0,e1,e2,e3⟩:=hc.four
   obtain ⟨hxa,_⟩:=hx.at_ (by rw [List.length_map];omega)
   have hr:hasF (l.map Rom.shut) (k:Int) n=(l[k].shut).contains n:=by rw [hasF_in (by simpa using hk)];simp
   rw [hr]
   have HL:=Lh (fun W=>shut1_any l[k] y W)
   have HC:=Lh (fun (W:World) (hW:Below w.heap.size w W)=>contains_ints l[k].shut y n W (hy.later hW hW.size) (hm _ (List.getElem_mem hk)))
   rw [hxa]
   clear hx hm hr hc hy
   generalize (l[k].shut).contains n=res at HC ⊢
   generalize l[k]=q at HL HC e0 e1 e2 e3
   go_enter Tryz.func327,Tryz.ntmps327
   go_wp2_with fail
   refine (HL.out _).mono ?_
   rintro e w1 ⟨rfl,hb⟩
   have HB:=Lh hb
   clear hb
   go_wp2_with fail
   refine (HC.out _ HB.out).mono ?_
   rintro e w2 ⟨rfl,rfl⟩
   go_wp2_with fail
   go_ret
   exact ⟨rfl,HB.out⟩
  ·rw [hasF_out (by simp;omega)]
   have h2':decide (at_<(l.length:Int))=false:=by simpa using h2
   clear hx h2
   go_enter Tryz.func327,Tryz.ntmps327
   go_wp2_with fail
   go_ret
   exact ⟨rfl,Below.refl _ _⟩
 ·rw [hasF_out (by omega)]
  have h1':decide (0<=at_)=false:=by simpa using h1
  clear hx h1
  go_enter Tryz.func327,Tryz.ntmps327
  go_wp2_with fail
  go_ret
  exact ⟨rfl,Below.refl _ _⟩

theorem shut_any (s:Schl) (x:SchA) (p q:Int) (w:World) (hs:SchIn w (·<w.heap.size) s x) (hf:SchFit s) :
  Calls Tryz.prog 321 #[.agg (x.cells s).toArray,.int .i64 p,.int .i64 q] w fun e w'=>e=.returned (.bool (hasF (s.rooms.map Rom.shut) p q))/\Below w.heap.size w w':=by
 have hba:Below w.heap.size w (w.alloc (.cells (x.cells s).toArray 28)):=(Below.refl _ _).alloc (Nat.le_refl _) _
 have HH:=Lh (has_shut s.rooms x.rooms p q _ (hs.later hba hba.size).rooms hf.rooms hf.shut)
 have HB:=Lh hba
 clear hs hba
 simp only [SchA.cells,SlA.val] at HH HB ⊢
 go_enter Tryz.func321,Tryz.ntmps321
 go_wp2_with fail
 refine HH.out.mono ?_
 rintro e w1 ⟨rfl,hb⟩
 have HB1:=Lh (HB.out.trans (hb.mono HB.out.size))
 clear hb
 go_wp2_with fail
 go_ret
 exact ⟨rfl,HB1.out⟩

end Go.Proofs.YtjjkfgjnadaheaaGreatDoor
/- eval: signs, atoms, element. -/
namespace Go.Chalk
open Go.RowKit
theorem evOf_at {env:List Ev} {name:Bs} {i:Nat} (h:env.findIdx? (fun x=>x.name==name)=some i):∃ hi:i<env.length,evOf env name=env[i]/\findN (fun j=>(env[j]?.map (fun x=>x.name==name)).getD false) env.length=(i:Int):=by
 rw [List.findIdx?_eq_some_iff_getElem] at h
 obtain ⟨hi,h1,h2⟩:=h
 refine ⟨hi,?_,findN_some hi (by rw [List.getElem?_eq_getElem hi];simpa using h1) (fun j hj=>by rw [List.getElem?_eq_getElem (by omega)];simpa using h2 j hj)⟩
 unfold evOf
 have:env.find? (fun x=>x.name==name)=some env[i]:=by
  rw [List.find?_eq_some_iff_getElem]
  exact ⟨h1,i,hi,rfl,fun j hj=>by simpa using h2 j hj⟩
 rw [this];rfl
end Go.Chalk
namespace Go.Proofs.YtjjkfgjnadaheaaGreatDoor
open Go.RowKit Go.Chalk
theorem sign1_any (a b:Int) (w:World):Calls Tryz.prog 306 #[.int .i64 (cmpInt a b)] w fun e w'=>e=.returned (.bool (decide (a=b)))/\w=w':=by
 have h:(cmpInt a b==0)=decide (a=b):=by unfold cmpInt;split <;> (try split) <;> (rw [Bool.eq_iff_iff];simp;omega)
 have HH:=Lh h
 clear h
 generalize cmpInt a b=c at HH ⊢
 go_enter Tryz.func306,Tryz.ntmps306
 go_wp2_with fail
 go_ret
 exact ⟨ret_bool HH.out,rfl⟩
theorem sign2_any (a b:Int) (w:World):Calls Tryz.prog 307 #[.int .i64 (cmpInt a b)] w fun e w'=>e=.returned (.bool (decide (a ≠ b)))/\w=w':=by
 have h:(cmpInt a b != 0)=decide (a ≠ b):=by unfold cmpInt;split <;> (try split) <;> (rw [Bool.eq_iff_iff];simp;omega)
 have HH:=Lh h
 clear h
 generalize cmpInt a b=c at HH ⊢
 go_enter Tryz.func307,Tryz.ntmps307
 go_wp2_with fail
 go_ret
 exact ⟨ret_bool HH.out,rfl⟩
theorem sign3_any (a b:Int) (w:World):Calls Tryz.prog 308 #[.int .i64 (cmpInt a b)] w fun e w'=>e=.returned (.bool (decide (a<b)))/\w=w':=by
 have h:decide (cmpInt a b<0)=decide (a<b):=by unfold cmpInt;split <;> (try split) <;> (rw [Bool.eq_iff_iff];simp;omega)
 have HH:=Lh h
 clear h
 generalize cmpInt a b=c at HH ⊢
 go_enter Tryz.func308,Tryz.ntmps308
 go_wp2_with fail
 go_ret
 exact ⟨ret_bool HH.out,rfl⟩
theorem sign4_any (a b:Int) (w:World):Calls Tryz.prog 309 #[.int .i64 (cmpInt a b)] w fun e w'=>e=.returned (.bool (decide (a<=b)))/\w=w':=by
 have h:decide (cmpInt a b<=0)=decide (a<=b):=by unfold cmpInt;split <;> (try split) <;> (rw [Bool.eq_iff_iff];simp;omega)
 have HH:=Lh h
 clear h
 generalize cmpInt a b=c at HH ⊢
 go_enter Tryz.func309,Tryz.ntmps309
 go_wp2_with fail
 go_ret
 exact ⟨ret_bool HH.out,rfl⟩
theorem sign5_any (a b:Int) (w:World):Calls Tryz.prog 310 #[.int .i64 (cmpInt a b)] w fun e w'=>e=.returned (.bool (decide (b<a)))/\w=w':=by
 have h:decide (0<cmpInt a b)=decide (b<a):=by unfold cmpInt;split <;> (try split) <;> (rw [Bool.eq_iff_iff];simp;omega)
 have HH:=Lh h
 clear h
 generalize cmpInt a b=c at HH ⊢
 go_enter Tryz.func310,Tryz.ntmps310
 go_wp2_with fail
 go_ret
 exact ⟨ret_bool HH.out,rfl⟩
theorem sign6_any (a b:Int) (w:World):Calls Tryz.prog 311 #[.int .i64 (cmpInt a b)] w fun e w'=>e=.returned (.bool (decide (b<=a)))/\w=w':=by
 have h:decide (0<=cmpInt a b)=decide (b<=a):=by unfold cmpInt;split <;> (try split) <;> (rw [Bool.eq_iff_iff];simp;omega)
 have HH:=Lh h
 clear h
 generalize cmpInt a b=c at HH ⊢
 go_enter Tryz.func311,Tryz.ntmps311
 go_wp2_with fail
 go_ret
 exact ⟨ret_bool HH.out,rfl⟩
theorem sign_call (name:Bs) (h:cmpL.contains name=true):∃ g,signFn name=.func (.func g) #[] #[]/\(∀ (args:Array Value) (w:World),(callFunc g args).run Tryz.prog w=.ok (.enter g args) w)/\∀ (a b:Int) (w:World),Calls Tryz.prog g #[.int .i64 (cmpInt a b)] w fun e w'=>e=.returned (.bool (cmpHolds name a b))/\w=w':=by
 unfold cmpL at h
 simp only [List.contains_iff_mem,List.mem_cons,List.not_mem_nil,or_false] at h
 rcases h with rfl | rfl | rfl | rfl | rfl | rfl
 ·exact ⟨306,rfl,fun _ _=>enters_of Tryz.func306 (by kernel_rfl) rfl _ _,fun a b w=>sign1_any a b w⟩
 ·exact ⟨307,rfl,fun _ _=>enters_of Tryz.func307 (by kernel_rfl) rfl _ _,fun a b w=>sign2_any a b w⟩
 ·exact ⟨308,rfl,fun _ _=>enters_of Tryz.func308 (by kernel_rfl) rfl _ _,fun a b w=>sign3_any a b w⟩
 ·exact ⟨309,rfl,fun _ _=>enters_of Tryz.func309 (by kernel_rfl) rfl _ _,fun a b w=>sign4_any a b w⟩
 ·exact ⟨310,rfl,fun _ _=>enters_of Tryz.func310 (by kernel_rfl) rfl _ _,fun a b w=>sign5_any a b w⟩
 ·exact ⟨311,rfl,fun _ _=>enters_of Tryz.func311 (by kernel_rfl) rfl _ _,fun a b w=>sign6_any a b w⟩

def stV (s:Schl) (x:SchA) (l:List Plc) (y:SlA):Value:=.agg #[.slice x.slots.a s.slots.length x.slots.cap,.slice x.rooms.a s.rooms.length x.rooms.cap,.slice x.people.a s.people.length x.people.cap,.slice x.groups.a s.groups.length x.groups.cap,.slice x.lessons.a s.lessons.length x.lessons.cap,.slice y.a l.length y.cap]
theorem atom1_any (s:Schl) (x:SchA) (l:List Plc) (y:SlA) (a b:Int) (w:World) (hy:SlIn w (·<w.heap.size) (l.map Plc.toD) y) (h:0<=a/\a<l.length) :
  Calls Tryz.prog 312 #[stV s x l y,.int .i64 a,.int .i64 b] w fun e w'=>e=.returned (.bool ((plcAt l a).slot==b))/\Below w.heap.size w w':=by
 obtain ⟨k,rfl⟩:∃ k:Nat,a=(k:Int):=⟨a.toNat,by omega⟩
 have hk:k<l.length:=by omega
 obtain ⟨g1,_,_,g4,_⟩:=hy.flat Plc.flatT
 obtain ⟨e0,e1⟩:=g4.two k hk rfl
 obtain ⟨hxa,_⟩:=g1 (by omega)
 have hp:plcAt l (k:Int)=l[k]:=by unfold plcAt;rw [Int.toNat_natCast,List.getElem?_eq_getElem hk];rfl
 rw [hp]
 unfold stV
 rw [hxa]
 have hkl:(k:Int)<(l.length:Int):=by omega
 clear hy g1 g4 hp h hxa
 generalize l[k]=p at e0 e1 ⊢
 generalize l.length=ll at hk hkl ⊢
 go_enter Tryz.func312,Tryz.ntmps312
 go_wp2_with fail
 go_ret
 exact ⟨rfl,(Below.refl _ _).alloc (Nat.le_refl _) _⟩
theorem atom2_any (s:Schl) (x:SchA) (l:List Plc) (y:SlA) (a b:Int) (w:World) (hy:SlIn w (·<w.heap.size) (l.map Plc.toD) y) (h:0<=a/\a<l.length) :
  Calls Tryz.prog 313 #[stV s x l y,.int .i64 a,.int .i64 b] w fun e w'=>e=.returned (.bool ((plcAt l a).room==b))/\Below w.heap.size w w':=by
 obtain ⟨k,rfl⟩:∃ k:Nat,a=(k:Int):=⟨a.toNat,by omega⟩
 have hk:k<l.length:=by omega
 obtain ⟨g1,_,_,g4,_⟩:=hy.flat Plc.flatT
 obtain ⟨e0,e1⟩:=g4.two k hk rfl
 obtain ⟨hxa,_⟩:=g1 (by omega)
 have hp:plcAt l (k:Int)=l[k]:=by unfold plcAt;rw [Int.toNat_natCast,List.getElem?_eq_getElem hk];rfl
 rw [hp]
 unfold stV
 rw [hxa]
 have hkl:(k:Int)<(l.length:Int):=by omega
 clear hy g1 g4 hp h hxa
 generalize l[k]=p at e0 e1 ⊢
 generalize l.length=ll at hk hkl ⊢
 go_enter Tryz.func313,Tryz.ntmps313
 go_wp2_with fail
 go_ret
 exact ⟨rfl,(Below.refl _ _).alloc (Nat.le_refl _) _⟩
theorem atom3_any (s:Schl) (x:SchA) (l:List Plc) (y:SlA) (a b:Int) (w:World) (hs:SchIn w (·<w.heap.size) s x) (hf:SchFit s) :
  Calls Tryz.prog 314 #[stV s x l y,.int .i64 a,.int .i64 b] w fun e w'=>e=.returned (.bool (hasF (s.lessons.map Lsn.who) b a))/\Below w.heap.size w w':=by
 have hba:Below w.heap.size w (w.alloc (.cells #[.slice x.slots.a s.slots.length x.slots.cap,.slice x.rooms.a s.rooms.length x.rooms.cap,.slice x.people.a s.people.length x.people.cap,.slice x.groups.a s.groups.length x.groups.cap,.slice x.lessons.a s.lessons.length x.lessons.cap,.slice y.a l.length y.cap] 105)):=(Below.refl _ _).alloc (Nat.le_refl _) _
 have HH:=Lh (teaches_any s x a b _ (hs.later hba hba.size) hf)
 have HB:=Lh hba
 clear hs hba
 unfold stV
 simp only [SchA.cells,SlA.val] at HH
 generalize hasF (s.lessons.map Lsn.who) b a=res at HH ⊢
 go_enter Tryz.func314,Tryz.ntmps314
 go_wp2_with fail
 refine HH.out.mono ?_
 rintro e w1 ⟨rfl,hb⟩
 have HB1:=Lh (HB.out.trans (hb.mono HB.out.size))
 clear hb
 go_wp2_with fail
 go_ret
 exact ⟨rfl,HB1.out⟩
theorem atom4_any (s:Schl) (x:SchA) (l:List Plc) (y:SlA) (a b:Int) (w:World) (hs:SchIn w (·<w.heap.size) s x) (hf:SchFit s) :
  Calls Tryz.prog 316 #[stV s x l y,.int .i64 a,.int .i64 b] w fun e w'=>e=.returned (.bool (hasF (s.lessons.map Lsn.groups) b a))/\Below w.heap.size w w':=by
 have hba:Below w.heap.size w (w.alloc (.cells #[.slice x.slots.a s.slots.length x.slots.cap,.slice x.rooms.a s.rooms.length x.rooms.cap,.slice x.people.a s.people.length x.people.cap,.slice x.groups.a s.groups.length x.groups.cap,.slice x.lessons.a s.lessons.length x.lessons.cap,.slice y.a l.length y.cap] 105)):=(Below.refl _ _).alloc (Nat.le_refl _) _
 have HH:=Lh (attends_any s x a b _ (hs.later hba hba.size) hf)
 have HB:=Lh hba
 clear hs hba
 unfold stV
 simp only [SchA.cells,SlA.val] at HH
 generalize hasF (s.lessons.map Lsn.groups) b a=res at HH ⊢
 go_enter Tryz.func316,Tryz.ntmps316
 go_wp2_with fail
 refine HH.out.mono ?_
 rintro e w1 ⟨rfl,hb⟩
 have HB1:=Lh (HB.out.trans (hb.mono HB.out.size))
 clear hb
 go_wp2_with fail
 go_ret
 exact ⟨rfl,HB1.out⟩
theorem atom5_any (s:Schl) (x:SchA) (l:List Plc) (y:SlA) (a b:Int) (w:World) (hs:SchIn w (·<w.heap.size) s x) (hf:SchFit s) :
  Calls Tryz.prog 318 #[stV s x l y,.int .i64 a,.int .i64 b] w fun e w'=>e=.returned (.bool (hasF (s.people.map Psn.away) a b))/\Below w.heap.size w w':=by
 have hba:Below w.heap.size w (w.alloc (.cells #[.slice x.slots.a s.slots.length x.slots.cap,.slice x.rooms.a s.rooms.length x.rooms.cap,.slice x.people.a s.people.length x.people.cap,.slice x.groups.a s.groups.length x.groups.cap,.slice x.lessons.a s.lessons.length x.lessons.cap,.slice y.a l.length y.cap] 105)):=(Below.refl _ _).alloc (Nat.le_refl _) _
 have HH:=Lh (away_any s x a b _ (hs.later hba hba.size) hf)
 have HB:=Lh hba
 clear hs hba
 unfold stV
 simp only [SchA.cells,SlA.val] at HH
 generalize hasF (s.people.map Psn.away) a b=res at HH ⊢
 go_enter Tryz.func318,Tryz.ntmps318
 go_wp2_with fail
 refine HH.out.mono ?_
 rintro e w1 ⟨rfl,hb⟩
 have HB1:=Lh (HB.out.trans (hb.mono HB.out.size))
 clear hb
 go_wp2_with fail
 go_ret
 exact ⟨rfl,HB1.out⟩
theorem atom6_any (s:Schl) (x:SchA) (l:List Plc) (y:SlA) (a b:Int) (w:World) (hs:SchIn w (·<w.heap.size) s x) (hf:SchFit s) :
  Calls Tryz.prog 320 #[stV s x l y,.int .i64 a,.int .i64 b] w fun e w'=>e=.returned (.bool (hasF (s.rooms.map Rom.shut) a b))/\Below w.heap.size w w':=by
 have hba:Below w.heap.size w (w.alloc (.cells #[.slice x.slots.a s.slots.length x.slots.cap,.slice x.rooms.a s.rooms.length x.rooms.cap,.slice x.people.a s.people.length x.people.cap,.slice x.groups.a s.groups.length x.groups.cap,.slice x.lessons.a s.lessons.length x.lessons.cap,.slice y.a l.length y.cap] 105)):=(Below.refl _ _).alloc (Nat.le_refl _) _
 have HH:=Lh (shut_any s x a b _ (hs.later hba hba.size) hf)
 have HB:=Lh hba
 clear hs hba
 unfold stV
 simp only [SchA.cells,SlA.val] at HH
 generalize hasF (s.rooms.map Rom.shut) a b=res at HH ⊢
 go_enter Tryz.func320,Tryz.ntmps320
 go_wp2_with fail
 refine HH.out.mono ?_
 rintro e w1 ⟨rfl,hb⟩
 have HB1:=Lh (HB.out.trans (hb.mono HB.out.size))
 clear hb
 go_wp2_with fail
 go_ret
 exact ⟨rfl,HB1.out⟩
theorem atom_call (k:Int) (hk:3<=k/\k<=8):∃ g,atomFn k=.func (.func g) #[] #[]/\(∀ (args:Array Value) (w:World),(callFunc g args).run Tryz.prog w=.ok (.enter g args) w) /\
  ∀ (s:Schl) (x:SchA) (l:List Plc) (y:SlA) (a b:Int) (w:World),SchIn w (·<w.heap.size) s x->SchFit s->SlIn w (·<w.heap.size) (l.map Plc.toD) y->(k=3∨k=4->0<=a/\a<l.length) ->
   Calls Tryz.prog g #[stV s x l y,.int .i64 a,.int .i64 b] w fun e w'=>e=.returned (.bool (atomHolds s l k a b))/\Below w.heap.size w w':=by
 have:k=3∨k=4∨k=5∨k=6∨k=7∨k=8:=by omega
 rcases this with rfl | rfl | rfl | rfl | rfl | rfl
 ·exact ⟨312,rfl,fun _ _=>enters_of Tryz.func312 (by kernel_rfl) rfl _ _,fun s x l y a b w hs hf hy h=>atom1_any s x l y a b w hy (h (.inl rfl))⟩
 ·exact ⟨313,rfl,fun _ _=>enters_of Tryz.func313 (by kernel_rfl) rfl _ _,fun s x l y a b w hs hf hy h=>atom2_any s x l y a b w hy (h (.inr rfl))⟩
 ·exact ⟨314,rfl,fun _ _=>enters_of Tryz.func314 (by kernel_rfl) rfl _ _,fun s x l y a b w hs hf hy h=>atom3_any s x l y a b w hs hf⟩
 ·exact ⟨316,rfl,fun _ _=>enters_of Tryz.func316 (by kernel_rfl) rfl _ _,fun s x l y a b w hs hf hy h=>atom4_any s x l y a b w hs hf⟩
 ·exact ⟨318,rfl,fun _ _=>enters_of Tryz.func318 (by kernel_rfl) rfl _ _,fun s x l y a b w hs hf hy h=>atom5_any s x l y a b w hs hf⟩
 ·exact ⟨320,rfl,fun _ _=>enters_of Tryz.func320 (by kernel_rfl) rfl _ _,fun s x l y a b w hs hf hy h=>atom6_any s x l y a b w hs hf⟩

theorem find_env (f:Nat) (hf:∀ (ev:Ev) (name:Bs) (p:Nat) (W:World),W.cell? ⟨p,1,none⟩=some (.string ⟨name.toArray⟩)->Calls Tryz.prog f #[.agg #[.string ⟨ev.name.toArray⟩,.int .i64 ev.sort,.int .i64 ev.at_],.pointer (some ⟨p,0,none⟩)] W (Answers W (ev.name==name)))
  (hent:∀ (args:Array Value) (w:World),(callFunc f args).run Tryz.prog w=.ok (.enter f args) w) (env:List Ev) (x:SlA) (name:Bs) (p:Nat) (w:World) (hx:SlIn w (·<w.heap.size) (env.map Ev.toD) x) (hl:env.length<=2000000) (hp:w.cell? ⟨p,1,none⟩=some (.string ⟨name.toArray⟩)) :
  Calls Tryz.prog 170 #[.slice x.a env.length x.cap,.func (.func f) #[] #[.pointer (some ⟨p,0,none⟩)]] w fun e w'=>e=.returned (.int .i64 (findN (fun j=>(env[j]?.map (fun x=>x.name==name)).getD false) env.length))/\Below w.heap.size w w':=by
 obtain ⟨g1,_,_,g4,_⟩:=hx.flat Ev.flatT
 refine indexFunc_Ev f #[.pointer (some ⟨p,0,none⟩)] (fun j=>(env[j]?.map (fun x=>x.name==name)).getD false) env.length (fun j=>.string ⟨(env[j]?.map (·.name.toArray)).getD #[]⟩) (fun j=>.int .i64 ((env[j]?.map (·.sort)).getD 0)) (fun j=>.int .i64 ((env[j]?.map (·.at_)).getD 0)) x.a x.b x.o x.cap w g1 ?_ ?_ hent hl
 ·intro j hj
  have h:=g4.three j hj rfl
  rw [List.getElem?_eq_getElem hj]
  exact h
 ·intro j hj W hW
  rw [List.getElem?_eq_getElem hj]
  exact hf env[j] name p W ((hW.cell (World.block_lt_of_cell? _ _ hp)).trans hp)
theorem elem1_any (ev:Ev) (name:Bs) (p:Nat) (w:World) (hp:w.cell? ⟨p,1,none⟩=some (.string ⟨name.toArray⟩)):Calls Tryz.prog 180 #[.agg #[.string ⟨ev.name.toArray⟩,.int .i64 ev.sort,.int .i64 ev.at_],.pointer (some ⟨p,0,none⟩)] w (Answers w (ev.name==name)):=by
 obtain ⟨nm,sort,at_⟩:=ev
 simp only
 have hp':=cell_alloc (x:=.cells #[.string ⟨nm.toArray⟩,.int .i64 sort,.int .i64 at_] 76) hp
 clear hp
 go_enter Tryz.func180,Tryz.ntmps180
 go_wp2_with fail
 go_ret
 exact ⟨rfl,(Below.refl _ _).alloc (Nat.le_refl _) _⟩
theorem val1_any (ev:Ev) (name:Bs) (p:Nat) (w:World) (hp:w.cell? ⟨p,1,none⟩=some (.string ⟨name.toArray⟩)):Calls Tryz.prog 178 #[.agg #[.string ⟨ev.name.toArray⟩,.int .i64 ev.sort,.int .i64 ev.at_],.pointer (some ⟨p,0,none⟩)] w (Answers w (ev.name==name)):=by
 obtain ⟨nm,sort,at_⟩:=ev
 simp only
 have hp':=cell_alloc (x:=.cells #[.string ⟨nm.toArray⟩,.int .i64 sort,.int .i64 at_] 76) hp
 clear hp
 go_enter Tryz.func178,Tryz.ntmps178
 go_wp2_with fail
 go_ret
 exact ⟨rfl,(Below.refl _ _).alloc (Nat.le_refl _) _⟩
theorem element_any (env:List Ev) (x:SlA) (t:Trm) (w:World) (hx:SlIn w (·<w.heap.size) (env.map Ev.toD) x) (hl:env.length<=2000000) (hfi:(env.findIdx? (fun x=>x.name==t.name)).isSome=true) :
  Calls Tryz.prog 108 #[.slice x.a env.length x.cap,.agg #[.int .i64 t.kind,.string ⟨t.name.toArray⟩,.int .i64 t.n]] w fun e w'=>e=.returned (.int .i64 (evOf env t.name).at_)/\Below w.heap.size w w':=by
 obtain ⟨i,hi⟩:=Option.isSome_iff_exists.1 hfi
 obtain ⟨hil,he,hfn⟩:=evOf_at hi
 obtain ⟨kind,name,n⟩:=t
 simp only at *
 have hba:Below w.heap.size w (w.alloc (.cells #[.int .i64 kind,.string ⟨name.toArray⟩,.int .i64 n] 147)):=(Below.refl _ _).alloc (Nat.le_refl _) _
 have hcl:=find_env 180 elem1_any (fun _ _=>enters_of Tryz.func180 (by kernel_rfl) rfl _ _) env x name w.heap.size _ (hx.later hba hba.size) hl (cH (boxed (B:=w.heap.size+1) (Below.refl _ _) (by omega)) rfl)
 rw [hfn] at hcl
 obtain ⟨g1,_,_,g4,_⟩:=hx.flat Ev.flatT
 obtain ⟨_,_,q2⟩:=g4.three i hil rfl
 obtain ⟨hxa,hbl⟩:=g1 (by omega)
 have HQ:=Lh (fun (W:World) (hb:Below w.heap.size w W)=>(hb.cell (p:=⟨x.b,x.o+i*3+2,none⟩) hbl).trans q2)
 rw [he]
 rw [hxa] at hcl ⊢
 have HCL:=Lh hcl
 have HB:=Lh hba
 have hmf:∀ (fn:Fn) (first cap:Array Value) (w:World),(Instr.makeFunc fn first cap).run Tryz.prog w=.ok (.func fn first cap) w:=fun _ _ _ _=>rfl
 have hie:(i:Int)<(env.length:Int):=by omega
 clear hx g1 g4 q2 hxa hbl hcl hba he hfn hi hfi
 generalize env[i]=ev at HQ ⊢
 go_enter Tryz.func108,Tryz.ntmps108
 go_wp2_with fail
 refine HCL.out.mono ?_
 rintro e w1 ⟨rfl,hb⟩
 have HB1:=Lh (HB.out.trans (hb.mono HB.out.size))
 have q:=HQ.out w1 HB1.out
 clear hb
 go_wp2_with fail
 go_ret
 exact ⟨rfl,HB1.out⟩
end Go.Proofs.YtjjkfgjnadaheaaGreatDoor
/- school.Size, eval.value. -/
namespace Go.Chalk
open Go.RowKit
def grpSz (s:Schl) (g:Int):Int:=if 0<=g/\g<(s.groups.length:Int) then (s.groups[g.toNat]?.getD ⟨[],0⟩).size else 0
theorem schSize_out {s:Schl} {n:Int} (h:n<0∨(s.lessons.length:Int)<=n):schSize s n=0:=by unfold schSize;rw [if_pos h]
theorem schSize_in {s:Schl} {k:Nat} (h:k<s.lessons.length):schSize s (k:Int)=((s.lessons[k].groups).map (grpSz s)).sum:=by
 unfold schSize
 rw [if_neg (by omega),Int.toNat_natCast,List.getElem?_eq_getElem h]
 rfl
theorem grpSz_le {s:Schl} (h:∀ q∈s.groups,0<=q.size/\q.size<=1000) (g:Int):0<=grpSz s g/\grpSz s g<=1000:=by
 unfold grpSz
 split
 ·rename_i hg
  rw [List.getElem?_eq_getElem (by omega)]
  exact h _ (List.getElem_mem _)
 ·omega
theorem sum_le {f:Int->Int} (h:∀ g,0<=f g/\f g<=1000):∀ l:List Int,0<=(l.map f).sum/\(l.map f).sum<=1000*l.length
 | []=>by simp
 | x :: r=>by
  have h1:=sum_le h r
  have h2:=h x
  rw [List.map_cons,List.sum_cons,List.length_cons]
  omega
theorem sum_take {f:Int->Int} {l:List Int} {j:Nat} (hj:j<l.length):((l.take (j+1)).map f).sum=((l.take j).map f).sum+f l[j]:=by
 rw [List.take_succ_eq_append_getElem hj,List.map_append,List.sum_append];simp
end Go.Chalk
namespace Go.Proofs.YtjjkfgjnadaheaaGreatDoor
open Go.RowKit Go.Chalk
theorem size_any (s:Schl) (x:SchA) (n:Int) (w:World) (hs:SchIn w (·<w.heap.size) s x) (hf:SchFit s) (hgs:∀ q∈s.groups,0<=q.size/\q.size<=1000) :
  Calls Tryz.prog 179 #[.agg (x.cells s).toArray,.int .i64 n] w fun e w'=>e=.returned (.int .i64 (schSize s n))/\Below w.heap.size w w':=by
 have hba:Below w.heap.size w (w.alloc (.cells (x.cells s).toArray 28)):=(Below.refl _ _).alloc (Nat.le_refl _) _
 have HB:=Lh hba
 simp only [SchA.cells,SlA.val] at HB ⊢
 by_cases h1:n<0
 ·rw [schSize_out (.inl h1)]
  clear hs hba
  go_enter Tryz.func179,Tryz.ntmps179
  go_wp2_with fail
  go_ret
  exact ⟨rfl,HB.out⟩
 ·have h1':decide (n<0)=false:=by simpa using h1
  by_cases h2:(s.lessons.length:Int)<=n
  ·rw [schSize_out (.inr h2)]
   clear hs hba h1
   go_enter Tryz.func179,Tryz.ntmps179
   go_wp2_with fail
   go_ret
   exact ⟨rfl,HB.out⟩
  ·have h2':decide ((s.lessons.length:Int)<=n)=false:=by simpa using h2
   obtain ⟨k,rfl⟩:∃ k:Nat,n=(k:Int):=⟨n.toNat,by omega⟩
   have hk:k<s.lessons.length:=by omega
   rw [schSize_in hk]
   have hbx:SchBox (w.alloc (.cells (x.cells s).toArray 28)) w.heap.size s x:=by unfold SchBox;rw [heap_get,if_pos rfl]
   obtain ⟨y,z,hy,hz,_,hc⟩:=hs.lessons.lsn k hk
   obtain ⟨hxa,hlb⟩:=hs.lessons.at_ (by rw [List.length_map];omega)
   obtain ⟨e0,e1,e2⟩:=(hc.agree (agree_of_below hba) hlb).three
   obtain ⟨z1,_,_,_,z5⟩:=(hz.later hba hba.size).ints
   obtain ⟨g1,_,_,g4,_⟩:=(hs.groups.later hba hba.size).flat Grp.flatT
   have hgl:(s.lessons[k].groups).length<=2000000:=hf.grps _ (List.getElem_mem hk)
   have hgr:=hf.groups
   have HZ:=Lh z5
   have HG:=Lh g4
   have HS:=Lh (fun (l:List Int)=>sum_le (fun g=>grpSz_le hgs g) l)
   have HL:=Lh (fun g=>grpSz_le hgs g)
   obtain ⟨c0,c1,c2,c3,c4⟩:=hbx.cells
   rw [hxa] at c4
   obtain ⟨W1,hW1⟩:∃ W1,w.alloc (.cells (x.cells s).toArray 28)=W1:=⟨_,rfl⟩
   rw [hW1] at c0 c1 c2 c3 c4 e0 e1 e2 HZ HG z1 g1
   simp only [SchA.cells,SlA.val] at hW1
   have hkl:(k:Int)<(s.lessons.length:Int):=by omega
   clear hs hba hbx hy hz hc z5 g4 hgs h1 h2 hlb hxa
   generalize s.lessons[k]=q at *
   obtain ⟨nm,who,gl⟩:=q
   simp only [SlA.val] at HZ z1 hgl e0 e1 e2 ⊢
   obtain ⟨res,hres⟩:∃ res,res=(gl.map (grpSz s)).sum:=⟨_,rfl⟩
   rw [<- hres]
   have HR:=Lh hres
   clear hres
   have HW1:=Lh hW1
   clear hW1
   go_enter Tryz.func179,Tryz.ntmps179
   go_upto_region 1 with fail
   rw [HW1.out]
   rw [HW1.out] at HB
   go_wp2_with fail
   go_loop [5,24] (fun nn i=>∃ j:Nat,j<=gl.length/\i=.int .i64 j/\nn=.int .i64 ((gl.take j).map (grpSz s)).sum) (fun _ i=>gl.length - (intOf i).toNat)
   case atStart=>exact ⟨0,Nat.zero_le _,rfl,rfl⟩
   case round =>
    obtain ⟨j,hj,rfl,rfl⟩:=hrel
    by_cases hlt:j<gl.length
    ·obtain ⟨hza,_⟩:=z1 (by omega)
     have q0:=HZ.out j hlt
     have hsb:=HS.out (gl.take j)
     have hsl:(gl.take j).length<=2000000:=by simp;omega
     have HT:=Lh (sum_take (f:=grpSz s) hlt)
     have hgb:=HL.out gl[j]
     rw [hza]
     generalize ((gl.take j).map (grpSz s)).sum=nn at hsb HT
     generalize (gl.take j).length=tl at hsb hsl
     generalize gl[j]=g at q0 HT hgb
     by_cases a1:0<=g
     ·by_cases a2:g<(s.groups.length:Int)
      ·obtain ⟨m,rfl⟩:∃ m:Nat,g=(m:Int):=⟨g.toNat,by omega⟩
       have hm:m<s.groups.length:=by omega
       obtain ⟨hga,_⟩:=g1 (by simpa using Nat.lt_of_le_of_lt (Nat.zero_le _) hm)
       obtain ⟨_,f1⟩:=HG.out.two m hm rfl
       have hsz:grpSz s (m:Int)=s.groups[m].size:=by unfold grpSz;rw [if_pos ⟨by omega,by omega⟩,Int.toNat_natCast,List.getElem?_eq_getElem hm];rfl
       rw [hsz] at HT hgb
       rw [hga] at c3
       generalize s.groups[m].size=gz at HT hgb f1
       clear hga hza hsz
       go_wp2_with fail
       go_round
       case rel=>exact ⟨j+1,by omega,by go_num,by rw [HT.out]⟩
       case measure=>simp [intOf];omega
      ·have a2':decide (g<(s.groups.length:Int))=false:=by simpa using a2
       have HZ0:Hid (grpSz s g=0):=Lh (by unfold grpSz;rw [if_neg (by omega)])
       clear a2 hza
       go_wp2_with fail
       go_round
       case rel=>exact ⟨j+1,by omega,by go_num,by rw [HT.out,HZ0.out,Int.add_zero]⟩
       case measure=>simp [intOf];omega
     ·have a1':decide (0<=g)=false:=by simpa using a1
      have HZ0:Hid (grpSz s g=0):=Lh (by unfold grpSz;rw [if_neg (by omega)])
      clear a1 hza
      go_wp2_with fail
      go_round
      case rel=>exact ⟨j+1,by omega,by go_num,by rw [HT.out,HZ0.out,Int.add_zero]⟩
      case measure=>simp [intOf];omega
    ·have HE:Hid (gl.take j=gl):=Lh (List.take_of_length_le (by omega))
     go_wp2_with fail
     go_ret
     exact ⟨ret_int (by rw [HR.out];first | rw [HE.out] | rw [List.take_of_length_le (by simp;omega)]),HB.out⟩
end Go.Proofs.YtjjkfgjnadaheaaGreatDoor
/- eval.value. -/
namespace Go.Chalk
open Go.RowKit
theorem value_one {s:Schl} {env:List Ev} {name:Bs} {n:Int}:valueF s env ⟨1,name,n⟩=n:=by unfold valueF;rw [if_pos rfl]
end Go.Chalk
namespace Go.Proofs.YtjjkfgjnadaheaaGreatDoor
open Go.RowKit Go.Chalk
structure ValOk (s:Schl) (kind:Int) (ev:Ev):Prop where
 slot:kind=3∨kind=4∨(kind=2/\ev.sort=2)->0<=ev.at_/\ev.at_<(s.slots.length:Int)
 room:kind=5∨kind=6->0<=ev.at_/\ev.at_<(s.rooms.length:Int)

theorem value_any (s:Schl) (x:SchA) (l:List Plc) (y:SlA) (env:List Ev) (z:SlA) (t:Trm) (w:World) (hs:SchIn w (·<w.heap.size) s x) (hf:SchFit s) (hgs:∀ q∈s.groups,0<=q.size/\q.size<=1000) (hsl:∀ q∈s.slots,0<=q.day/\q.day<=6/\0<=q.hour/\q.hour<=11)
  (hz:SlIn w (·<w.heap.size) (env.map Ev.toD) z) (hl:env.length<=2000000) (hk:1<=t.kind/\t.kind<=7) (hfi:t.kind ≠ 1->(env.findIdx? (fun x=>x.name==t.name)).isSome=true) (hv:ValOk s t.kind (evOf env t.name)) :
  Calls Tryz.prog 107 #[stV s x l y,.slice z.a env.length z.cap,.agg #[.int .i64 t.kind,.string ⟨t.name.toArray⟩,.int .i64 t.n]] w fun e w'=>e=.returned (.int .i64 (valueF s env t))/\Below w.heap.size w w':=by
 obtain ⟨kind,name,n⟩:=t
 simp only at hk hfi hv ⊢
 have hba:Below w.heap.size w ((w.alloc (.cells #[.slice x.slots.a s.slots.length x.slots.cap,.slice x.rooms.a s.rooms.length x.rooms.cap,.slice x.people.a s.people.length x.people.cap,.slice x.groups.a s.groups.length x.groups.cap,.slice x.lessons.a s.lessons.length x.lessons.cap,.slice y.a l.length y.cap] 105)).alloc (.cells #[.int .i64 kind,.string ⟨name.toArray⟩,.int .i64 n] 147)):=((Below.refl _ _).alloc (Nat.le_refl _) _).alloc (by simp) _
 unfold stV
 by_cases h1:kind=1
 ·subst h1
  rw [value_one]
  have HB:=Lh hba
  clear hs hz hfi hv hba
  go_enter Tryz.func107,Tryz.ntmps107
  go_wp2_with fail
  go_ret
  exact ⟨rfl,HB.out⟩
 obtain ⟨i,hi⟩:=Option.isSome_iff_exists.1 (hfi h1)
 obtain ⟨hil,he,hfn⟩:=evOf_at hi
 rw [he] at hv
 have hst:((w.alloc (.cells #[.slice x.slots.a s.slots.length x.slots.cap,.slice x.rooms.a s.rooms.length x.rooms.cap,.slice x.people.a s.people.length x.people.cap,.slice x.groups.a s.groups.length x.groups.cap,.slice x.lessons.a s.lessons.length x.lessons.cap,.slice y.a l.length y.cap] 105)).alloc (.cells #[.int .i64 kind,.string ⟨name.toArray⟩,.int .i64 n] 147)).heap[w.heap.size]?=some (.cells #[.slice x.slots.a s.slots.length x.slots.cap,.slice x.rooms.a s.rooms.length x.rooms.cap,.slice x.people.a s.people.length x.people.cap,.slice x.groups.a s.groups.length x.groups.cap,.slice x.lessons.a s.lessons.length x.lessons.cap,.slice y.a l.length y.cap] 105 (0,0)):=by rw [heap_get,if_neg (by simp),heap_get,if_pos rfl]
 have htb:((w.alloc (.cells #[.slice x.slots.a s.slots.length x.slots.cap,.slice x.rooms.a s.rooms.length x.rooms.cap,.slice x.people.a s.people.length x.people.cap,.slice x.groups.a s.groups.length x.groups.cap,.slice x.lessons.a s.lessons.length x.lessons.cap,.slice y.a l.length y.cap] 105)).alloc (.cells #[.int .i64 kind,.string ⟨name.toArray⟩,.int .i64 n] 147)).heap[w.heap.size+1]?=some (.cells #[.int .i64 kind,.string ⟨name.toArray⟩,.int .i64 n] 147 (0,0)):=by rw [heap_get,if_pos (by simp)]
 have hcl:=find_env 178 val1_any (fun _ _=>enters_of Tryz.func178 (by kernel_rfl) rfl _ _) env z name (w.heap.size+1) _ (hz.later hba hba.size) hl (cH htb rfl)
 rw [hfn] at hcl
 obtain ⟨g1,_,_,g4,_⟩:=hz.flat Ev.flatT
 have hev:=g4.three i hil rfl
 obtain ⟨hza,hzb⟩:=g1 (by omega)
 have HEV:=Lh (fun (W:World) (hb:Below w.heap.size w W)=>(⟨(hb.cell (p:=⟨z.b,z.o+i*3,none⟩) hzb).trans hev.1,(hb.cell (p:=⟨z.b,z.o+i*3+1,none⟩) hzb).trans hev.2.1,(hb.cell (p:=⟨z.b,z.o+i*3+2,none⟩) hzb).trans hev.2.2⟩:W.cell? ⟨z.b,z.o+i*3,none⟩=_/\W.cell? ⟨z.b,z.o+i*3+1,none⟩=_/\W.cell? ⟨z.b,z.o+i*3+2,none⟩=_))
 have HSC:=Lh (fun (W:World) (hW:Below w.heap.size w W)=>size_any s x (env[i]).at_ W (hs.later hW hW.size) hf hgs)
 have HSL:Hid (∀ (m:Nat) (hm:m<s.slots.length) (W:World),Below w.heap.size w W->x.slots.a=some ⟨x.slots.b,x.slots.o,none⟩/\W.cell? ⟨x.slots.b,x.slots.o+m*3,none⟩=some (.string ⟨s.slots[m].name.toArray⟩)/\W.cell? ⟨x.slots.b,x.slots.o+m*3+1,none⟩=some (.int .i64 s.slots[m].day)/\W.cell? ⟨x.slots.b,x.slots.o+m*3+2,none⟩=some (.int .i64 s.slots[m].hour)):=Lh (fun m hm W hW=>by
  obtain ⟨k1,_,_,k4,_⟩:=hs.slots.flat Slt.flatT
  obtain ⟨ka,kb⟩:=k1 (by omega)
  have h:=k4.three m hm rfl
  exact ⟨ka,(hW.cell (p:=⟨x.slots.b,x.slots.o+m*3,none⟩) kb).trans h.1,(hW.cell (p:=⟨x.slots.b,x.slots.o+m*3+1,none⟩) kb).trans h.2.1,(hW.cell (p:=⟨x.slots.b,x.slots.o+m*3+2,none⟩) kb).trans h.2.2⟩)
 have HRM:Hid (∀ (m:Nat) (hm:m<s.rooms.length) (W:World),Below w.heap.size w W->x.rooms.a=some ⟨x.rooms.b,x.rooms.o,none⟩/\W.cell? ⟨x.rooms.b,x.rooms.o+m*4+1,none⟩=some (.int .i64 s.rooms[m].house)/\W.cell? ⟨x.rooms.b,x.rooms.o+m*4+2,none⟩=some (.int .i64 s.rooms[m].seats)):=Lh (fun m hm W hW=>by
  obtain ⟨y1,_,_,_,_,hc⟩:=hs.rooms.rom m hm
  obtain ⟨ka,kb⟩:=hs.rooms.at_ (by rw [List.length_map];omega)
  obtain ⟨_,c1,c2,_⟩:=hc.four
  exact ⟨ka,(hW.cell (p:=⟨x.rooms.b,x.rooms.o+m*4+1,none⟩) kb).trans c1,(hW.cell (p:=⟨x.rooms.b,x.rooms.o+m*4+2,none⟩) kb).trans c2⟩)
 have hie:(i:Int)<(env.length:Int):=by omega
 have HVF:Hid (valueF s env ⟨kind,name,n⟩=if kind=3 then (sltAt s (env[i]).at_).day
   else if kind=4 then (sltAt s (env[i]).at_).hour
   else if kind=5 then (romAt s (env[i]).at_).house
   else if kind=6 then (romAt s (env[i]).at_).seats
   else if kind=7 then schSize s (env[i]).at_
   else if (env[i]).sort=2 then (sltAt s (env[i]).at_).day*12+(sltAt s (env[i]).at_).hour
   else (env[i]).at_):=Lh (by unfold valueF;rw [if_neg h1,he])
 have HDY:=Lh (fun (m:Nat) (hm:m<s.slots.length)=>hsl _ (List.getElem_mem hm))
 have HV:=Lh hv
 have HB:=Lh (aI hba (aI hst htb))
 rw [hza] at hcl ⊢
 have HCL:=Lh hcl
 have hmf:∀ (fn:Fn) (first cap:Array Value) (w:World),(Instr.makeFunc fn first cap).run Tryz.prog w=.ok (.func fn first cap) w:=fun _ _ _ _=>rfl
 clear hs hz hfi hv hba hst htb hcl g1 g4 hev hza hzb hsl hgs hf he hfn hi
 generalize valueF s env ⟨kind,name,n⟩=res at HVF ⊢
 generalize env[i]=ev at *
 clear hil hl
 obtain ⟨en,es,ea⟩:=ev
 simp only at HEV HSC HVF HV
 have hkk:kind=2∨kind=3∨kind=4∨kind=5∨kind=6∨kind=7:=by omega
 clear h1 hk
 rcases hkk with rfl | rfl | rfl | rfl | rfl | rfl
 ·-- kind 2
  by_cases hs2:es=2
  ·subst hs2
   obtain ⟨v1,v2⟩:0<=ea/\ea<(s.slots.length:Int):=HV.out.slot (by simp)
   obtain ⟨m,rfl⟩:∃ m:Nat,ea=(m:Int):=⟨ea.toNat,by omega⟩
   have hm:m<s.slots.length:=by omega
   have HRR:Hid (res=s.slots[m].day*12+s.slots[m].hour):=Lh (by rw [HVF.out];simp [sltAt,hm])
   obtain ⟨d1,d2,d3,d4⟩:=HDY.out m hm
   go_enter Tryz.func107,Tryz.ntmps107
   go_wp2_with fail
   refine HCL.out.mono ?_
   rintro e w1 ⟨rfl,hb⟩
   have hb1:=HB.out.1.trans (hb.mono HB.out.1.size)
   obtain ⟨e0,e1,e2⟩:=HEV.out w1 hb1
   have hst1:=(hb.block w.heap.size (gS HB.out.2.1).1).trans HB.out.2.1
   have htb1:=(hb.block (w.heap.size+1) (gS HB.out.2.2).1).trans HB.out.2.2
   have t0:=cell_alloc (x:=.cells #[.string ⟨en.toArray⟩,.int .i64 2,.int .i64 (m:Int)] 76) (cH (i:=0) htb1 rfl)
   have HB1:=Lh (hb1.alloc hb1.size (.cells #[.string ⟨en.toArray⟩,.int .i64 2,.int .i64 (m:Int)] 76))
   obtain ⟨ka,k0,k1,k2⟩:=HSL.out m hm w1 hb1
   have s0:=cell_alloc (x:=.cells #[.string ⟨en.toArray⟩,.int .i64 2,.int .i64 (m:Int)] 76) (cH (i:=0) hst1 rfl)
   rw [ka] at s0
   have k0':=cell_alloc (x:=.cells #[.string ⟨en.toArray⟩,.int .i64 2,.int .i64 (m:Int)] 76) k0
   have k1':=cell_alloc (x:=.cells #[.string ⟨en.toArray⟩,.int .i64 2,.int .i64 (m:Int)] 76) k1
   have k2':=cell_alloc (x:=.cells #[.string ⟨en.toArray⟩,.int .i64 2,.int .i64 (m:Int)] 76) k2
   have HB2:=Lh (HB1.out.alloc HB1.out.size (.cells #[.string ⟨s.slots[m].name.toArray⟩,.int .i64 s.slots[m].day,.int .i64 s.slots[m].hour] 114))
   clear hb hb1 hst1 htb1 ka k0 k1 k2
   generalize s.slots[m]=q at *
   obtain ⟨qn,qd,qh⟩:=q
   simp only at *
   go_wp2_with fail
   go_ret
   exact ⟨by rw [HRR.out];first | rfl | go_num,HB2.out⟩
  ·have hs2':(es==2)=false:=by simpa using hs2
   have HRR:Hid (res=ea):=Lh (by rw [HVF.out];simp [hs2])
   clear hs2
   go_enter Tryz.func107,Tryz.ntmps107
   go_wp2_with fail
   refine HCL.out.mono ?_
   rintro e w1 ⟨rfl,hb⟩
   have hb1:=HB.out.1.trans (hb.mono HB.out.1.size)
   obtain ⟨e0,e1,e2⟩:=HEV.out w1 hb1
   have hst1:=(hb.block w.heap.size (gS HB.out.2.1).1).trans HB.out.2.1
   have htb1:=(hb.block (w.heap.size+1) (gS HB.out.2.2).1).trans HB.out.2.2
   have t0:=cell_alloc (x:=.cells #[.string ⟨en.toArray⟩,.int .i64 es,.int .i64 ea] 76) (cH (i:=0) htb1 rfl)
   have HB1:=Lh (hb1.alloc hb1.size (.cells #[.string ⟨en.toArray⟩,.int .i64 es,.int .i64 ea] 76))
   clear hb hb1 hst1 htb1
   go_wp2_with fail
   go_ret
   exact ⟨ret_int HRR.out.symm,HB1.out⟩
 ·-- kind 3
  obtain ⟨v1,v2⟩:0<=ea/\ea<(s.slots.length:Int):=HV.out.slot (by simp)
  obtain ⟨m,rfl⟩:∃ m:Nat,ea=(m:Int):=⟨ea.toNat,by omega⟩
  have hm:m<s.slots.length:=by omega
  have HRR:Hid (res=s.slots[m].day):=Lh (by rw [HVF.out];simp [sltAt,hm])
  go_enter Tryz.func107,Tryz.ntmps107
  go_wp2_with fail
  refine HCL.out.mono ?_
  rintro e w1 ⟨rfl,hb⟩
  have hb1:=HB.out.1.trans (hb.mono HB.out.1.size)
  obtain ⟨e0,e1,e2⟩:=HEV.out w1 hb1
  have hst1:=(hb.block w.heap.size (gS HB.out.2.1).1).trans HB.out.2.1
  have htb1:=(hb.block (w.heap.size+1) (gS HB.out.2.2).1).trans HB.out.2.2
  have t0:=cell_alloc (x:=.cells #[.string ⟨en.toArray⟩,.int .i64 es,.int .i64 (m:Int)] 76) (cH (i:=0) htb1 rfl)
  have HB1:=Lh (hb1.alloc hb1.size (.cells #[.string ⟨en.toArray⟩,.int .i64 es,.int .i64 (m:Int)] 76))
  obtain ⟨ka,k0,k1,k2⟩:=HSL.out m hm w1 hb1
  have s0:=cell_alloc (x:=.cells #[.string ⟨en.toArray⟩,.int .i64 es,.int .i64 (m:Int)] 76) (cH (i:=0) hst1 rfl)
  rw [ka] at s0
  have k1':=cell_alloc (x:=.cells #[.string ⟨en.toArray⟩,.int .i64 es,.int .i64 (m:Int)] 76) k1
  clear hb hb1 hst1 htb1 ka k0 k1 k2
  generalize s.slots[m].day=dv at *
  go_wp2_with fail
  go_ret
  exact ⟨ret_int HRR.out.symm,HB1.out⟩
 ·-- kind 4
  obtain ⟨v1,v2⟩:0<=ea/\ea<(s.slots.length:Int):=HV.out.slot (by simp)
  obtain ⟨m,rfl⟩:∃ m:Nat,ea=(m:Int):=⟨ea.toNat,by omega⟩
  have hm:m<s.slots.length:=by omega
  have HRR:Hid (res=s.slots[m].hour):=Lh (by rw [HVF.out];simp [sltAt,hm])
  go_enter Tryz.func107,Tryz.ntmps107
  go_wp2_with fail
  refine HCL.out.mono ?_
  rintro e w1 ⟨rfl,hb⟩
  have hb1:=HB.out.1.trans (hb.mono HB.out.1.size)
  obtain ⟨e0,e1,e2⟩:=HEV.out w1 hb1
  have hst1:=(hb.block w.heap.size (gS HB.out.2.1).1).trans HB.out.2.1
  have htb1:=(hb.block (w.heap.size+1) (gS HB.out.2.2).1).trans HB.out.2.2
  have t0:=cell_alloc (x:=.cells #[.string ⟨en.toArray⟩,.int .i64 es,.int .i64 (m:Int)] 76) (cH (i:=0) htb1 rfl)
  have HB1:=Lh (hb1.alloc hb1.size (.cells #[.string ⟨en.toArray⟩,.int .i64 es,.int .i64 (m:Int)] 76))
  obtain ⟨ka,k0,k1,k2⟩:=HSL.out m hm w1 hb1
  have s0:=cell_alloc (x:=.cells #[.string ⟨en.toArray⟩,.int .i64 es,.int .i64 (m:Int)] 76) (cH (i:=0) hst1 rfl)
  rw [ka] at s0
  have k2':=cell_alloc (x:=.cells #[.string ⟨en.toArray⟩,.int .i64 es,.int .i64 (m:Int)] 76) k2
  clear hb hb1 hst1 htb1 ka k0 k1 k2
  generalize s.slots[m].hour=dv at *
  go_wp2_with fail
  go_ret
  exact ⟨ret_int HRR.out.symm,HB1.out⟩
 ·-- kind 5
  obtain ⟨v1,v2⟩:0<=ea/\ea<(s.rooms.length:Int):=HV.out.room (by simp)
  obtain ⟨m,rfl⟩:∃ m:Nat,ea=(m:Int):=⟨ea.toNat,by omega⟩
  have hm:m<s.rooms.length:=by omega
  have HRR:Hid (res=s.rooms[m].house):=Lh (by rw [HVF.out];simp [romAt,hm])
  go_enter Tryz.func107,Tryz.ntmps107
  go_wp2_with fail
  refine HCL.out.mono ?_
  rintro e w1 ⟨rfl,hb⟩
  have hb1:=HB.out.1.trans (hb.mono HB.out.1.size)
  obtain ⟨e0,e1,e2⟩:=HEV.out w1 hb1
  have hst1:=(hb.block w.heap.size (gS HB.out.2.1).1).trans HB.out.2.1
  have htb1:=(hb.block (w.heap.size+1) (gS HB.out.2.2).1).trans HB.out.2.2
  have t0:=cell_alloc (x:=.cells #[.string ⟨en.toArray⟩,.int .i64 es,.int .i64 (m:Int)] 76) (cH (i:=0) htb1 rfl)
  have HB1:=Lh (hb1.alloc hb1.size (.cells #[.string ⟨en.toArray⟩,.int .i64 es,.int .i64 (m:Int)] 76))
  obtain ⟨ka,k1,k2⟩:=HRM.out m hm w1 hb1
  have s0:=cell_alloc (x:=.cells #[.string ⟨en.toArray⟩,.int .i64 es,.int .i64 (m:Int)] 76) (cH (i:=1) hst1 rfl)
  rw [ka] at s0
  have k1':=cell_alloc (x:=.cells #[.string ⟨en.toArray⟩,.int .i64 es,.int .i64 (m:Int)] 76) k1
  clear hb hb1 hst1 htb1 ka k1 k2
  generalize s.rooms[m].house=dv at *
  go_wp2_with fail
  go_ret
  exact ⟨ret_int HRR.out.symm,HB1.out⟩
 ·-- kind 6
  obtain ⟨v1,v2⟩:0<=ea/\ea<(s.rooms.length:Int):=HV.out.room (by simp)
  obtain ⟨m,rfl⟩:∃ m:Nat,ea=(m:Int):=⟨ea.toNat,by omega⟩
  have hm:m<s.rooms.length:=by omega
  have HRR:Hid (res=s.rooms[m].seats):=Lh (by rw [HVF.out];simp [romAt,hm])
  go_enter Tryz.func107,Tryz.ntmps107
  go_wp2_with fail
  refine HCL.out.mono ?_
  rintro e w1 ⟨rfl,hb⟩
  have hb1:=HB.out.1.trans (hb.mono HB.out.1.size)
  obtain ⟨e0,e1,e2⟩:=HEV.out w1 hb1
  have hst1:=(hb.block w.heap.size (gS HB.out.2.1).1).trans HB.out.2.1
  have htb1:=(hb.block (w.heap.size+1) (gS HB.out.2.2).1).trans HB.out.2.2
  have t0:=cell_alloc (x:=.cells #[.string ⟨en.toArray⟩,.int .i64 es,.int .i64 (m:Int)] 76) (cH (i:=0) htb1 rfl)
  have HB1:=Lh (hb1.alloc hb1.size (.cells #[.string ⟨en.toArray⟩,.int .i64 es,.int .i64 (m:Int)] 76))
  obtain ⟨ka,k1,k2⟩:=HRM.out m hm w1 hb1
  have s0:=cell_alloc (x:=.cells #[.string ⟨en.toArray⟩,.int .i64 es,.int .i64 (m:Int)] 76) (cH (i:=1) hst1 rfl)
  rw [ka] at s0
  have k2':=cell_alloc (x:=.cells #[.string ⟨en.toArray⟩,.int .i64 es,.int .i64 (m:Int)] 76) k2
  clear hb hb1 hst1 htb1 ka k1 k2
  generalize s.rooms[m].seats=dv at *
  go_wp2_with fail
  go_ret
  exact ⟨ret_int HRR.out.symm,HB1.out⟩
 ·-- kind 7
  have HRR:Hid (res=schSize s ea):=Lh (by rw [HVF.out];simp)
  generalize schSize s ea=sz at HSC HRR
  go_enter Tryz.func107,Tryz.ntmps107
  go_wp2_with fail
  refine HCL.out.mono ?_
  rintro e w1 ⟨rfl,hb⟩
  have hb1:=HB.out.1.trans (hb.mono HB.out.1.size)
  obtain ⟨e0,e1,e2⟩:=HEV.out w1 hb1
  have hst1:=(hb.block w.heap.size (gS HB.out.2.1).1).trans HB.out.2.1
  have htb1:=(hb.block (w.heap.size+1) (gS HB.out.2.2).1).trans HB.out.2.2
  have t0:=cell_alloc (x:=.cells #[.string ⟨en.toArray⟩,.int .i64 es,.int .i64 ea] 76) (cH (i:=0) htb1 rfl)
  have HB1:=Lh (hb1.alloc hb1.size (.cells #[.string ⟨en.toArray⟩,.int .i64 es,.int .i64 ea] 76))
  have s0:=cell_alloc (x:=.cells #[.string ⟨en.toArray⟩,.int .i64 es,.int .i64 ea] 76) (cH (i:=0) hst1 rfl)
  have s1:=cell_alloc (x:=.cells #[.string ⟨en.toArray⟩,.int .i64 es,.int .i64 ea] 76) (cH (i:=1) hst1 rfl)
  have s2:=cell_alloc (x:=.cells #[.string ⟨en.toArray⟩,.int .i64 es,.int .i64 ea] 76) (cH (i:=2) hst1 rfl)
  have s3:=cell_alloc (x:=.cells #[.string ⟨en.toArray⟩,.int .i64 es,.int .i64 ea] 76) (cH (i:=3) hst1 rfl)
  have s4:=cell_alloc (x:=.cells #[.string ⟨en.toArray⟩,.int .i64 es,.int .i64 ea] 76) (cH (i:=4) hst1 rfl)
  have HSW:=Lh (HSC.out _ HB1.out)
  simp only [SchA.cells,SlA.val] at HSW
  clear hb hb1 hst1 htb1
  go_wp2_with fail
  refine HSW.out.mono ?_
  rintro e w2 ⟨rfl,hb2⟩
  have HB2:=Lh (HB1.out.trans (hb2.mono HB1.out.size))
  clear hb2
  go_wp2_with fail
  go_ret
  exact ⟨ret_int HRR.out.symm,HB2.out⟩
end Go.Proofs.YtjjkfgjnadaheaaGreatDoor
/- eval.holds: the parts. -/
namespace Go.Proofs.YtjjkfgjnadaheaaGreatDoor
open Go.RowKit Go.Chalk
structure HdBox (W:World) (ps:Nat) (s:Schl) (x:SchA) (l:List Plc) (y:SlA) (env:List Ev) (z:SlA) (f:Frm) (fa:FrmA):Prop where
 st:W.heap[ps]?=some (.cells #[.slice x.slots.a s.slots.length x.slots.cap,.slice x.rooms.a s.rooms.length x.rooms.cap,.slice x.people.a s.people.length x.people.cap,.slice x.groups.a s.groups.length x.groups.cap,.slice x.lessons.a s.lessons.length x.lessons.cap,.slice y.a l.length y.cap] 105 (0,0))
 env:W.heap[ps+1]?=some (.cells #[.slice z.a env.length z.cap] 29 (0,0))
 frm:W.heap[ps+1+1]?=some (.cells (fa.cells f).toArray 34 (0,0))
theorem HdBox.below {W W':World} {ps:Nat} {s:Schl} {x:SchA} {l:List Plc} {y:SlA} {env:List Ev} {z:SlA} {f:Frm} {fa:FrmA} (h:HdBox W ps s x l y env z f fa) (hb:Below W.heap.size W W'):HdBox W' ps s x l y env z f fa :=
 ⟨(hb.block _ (gS h.st).1).trans h.st,(hb.block _ (gS h.env).1).trans h.env,(hb.block _ (gS h.frm).1).trans h.frm⟩

theorem holds1_any (s:Schl) (x:SchA) (l:List Plc) (y:SlA) (env:List Ev) (z:SlA) (kind:Int) (name:Bs) (n:Int) (terms:List Trm) (binds:List Bnd) (fl:List Frm) (fa:FrmA) (i:Nat) (hi:i<fl.length) (W:World) (ps:Nat)
  (hB:HdBox W ps s x l y env z (.mk kind name n terms binds fl) fa) (y1:FrmA) (hc:CellsAt W fa.l.b (fa.l.o+i*6) (y1.cells fl[i])) (hla:fa.l.a=some ⟨fa.l.b,fa.l.o,none⟩) (v:Bool)
  (hcall:∀ W',Below W.heap.size W W'->Calls Tryz.prog 56 #[stV s x l y,.slice z.a env.length z.cap,ndV (fl[i],y1)] W' fun e w'=>e=.returned (.bool v)/\Below W'.heap.size W' w') :
  Calls Tryz.prog 105 #[.int .i64 i,.pointer (some ⟨ps,0,none⟩),.pointer (some ⟨ps+1,0,none⟩),.pointer (some ⟨ps+1+1,0,none⟩)] W fun e w'=>e=.returned (.bool v)/\Below W.heap.size W w':=by
 have hst:=hB.st
 have hen:=hB.env
 have hfr:=hB.frm
 simp only [FrmA.cells,SlA.val,Frm.kind,Frm.name,Frm.n,Frm.terms,Frm.binds,Frm.l] at hfr
 have s0:W.cell? ⟨ps,0,none⟩=_:=cH hst rfl
 have s1:W.cell? ⟨ps,1,none⟩=_:=cH hst rfl
 have s2:W.cell? ⟨ps,2,none⟩=_:=cH hst rfl
 have s3:W.cell? ⟨ps,3,none⟩=_:=cH hst rfl
 have s4:W.cell? ⟨ps,4,none⟩=_:=cH hst rfl
 have s5:W.cell? ⟨ps,5,none⟩=_:=cH hst rfl
 have v0:W.cell? ⟨ps+1,0,none⟩=_:=cH hen rfl
 have f5:W.cell? ⟨ps+1+1,5,none⟩=some (.slice fa.l.a fl.length fa.l.cap):=cH hfr rfl
 rw [hla] at f5
 obtain ⟨e0,e1,e2,e3,e4,e5⟩:=hc.six
 have HCL:=Lh (hcall W.drew (Below.refl _ _).drew)
 have hil:(i:Int)<(fl.length:Int):=by omega
 clear hst hen hfr hc hcall hB
 generalize fl[i]=fe at *
 obtain ⟨kind1,name1,n1,terms1,binds1,fl1⟩:=fe
 unfold stV at HCL
 simp only [ndV,FrmA.cells,SlA.val,Frm.kind,Frm.name,Frm.n,Frm.terms,Frm.binds,Frm.l] at HCL e0 e1 e2 e3 e4 e5
 generalize fl.length=fln at *
 go_enter Tryz.func105,Tryz.ntmps105
 go_wp2_with fail
 go_region_with (go_at_call 56;refine HCL.out.mono ?_;rintro e w' ⟨rfl,hb⟩;have HW:=Lh hb;clear hb)
 all_goals
  go_wp2_with fail
  go_ret
  exact ⟨rfl,((Below.refl _ _).drew).trans HW.out⟩
end Go.Proofs.YtjjkfgjnadaheaaGreatDoor
