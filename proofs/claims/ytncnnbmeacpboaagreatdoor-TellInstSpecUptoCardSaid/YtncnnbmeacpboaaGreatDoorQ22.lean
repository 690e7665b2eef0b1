/- Parts of the proof. -/
import Derived.Test.YtncnnbmeacpboaaGreatDoorQ09
import Derived.Test.YtncnnbmeacpboaaGreatDoorQ10
import Derived.Test.YtncnnbmeacpboaaGreatDoorQ21
set_option maxHeartbeats 400000
set_option maxRecDepth 100000
set_option linter.unusedVariables false
set_option linter.unusedSimpArgs false
namespace Go.Proofs.YtncnnbmeacpboaaGreatDoor
open Go.RowKit Go.aa
variable {n last x:Int} {l r:List Int}
theorem DU(l:List Int)(x:aK)(v:Int)(w:World)(hx:aj w (·<w.heap.size) (bD l) x)(hmax:l.length<=2000000):
  Calls Tryz.prog 185 #[.slice x.a l.length x.cap,.int .i64 v] w fun e w'=>e=.returned (.int .i64 (jc (fun j=>v==nth 0 l j) l.length))/\w=w':=by
 obtain⟨h1,_,_,_,h5⟩:=hx.ints;have HS:=Lh h1;have HC:=Lh h5;clear h1 h5 hx;go_enter Tryz.func185,Tryz.ntmps185;go_wp2_with fail;go_loop [8,5] (fun i _=>∃j:Nat,j<=l.length/\i=.int .i64 j/\Hid (∀i,i<j->(v==nth 0 l i)=false)) (fun i _=>l.length-(intOf i).toNat)
 case atStart=>exact⟨0,Nat.zero_le _,rfl,Lh (fun i hi=>by omega)⟩
 case round=>
  obtain⟨j,hj,rfl,HF⟩:=hrel;by_cases hlt:j<l.length
  ·obtain⟨hxa,_⟩:=HS.out (by omega);have e0:=HC.out j hlt;rw[<-iO (d:=0) hlt] at e0;have HN:=Lh (fun(h:(v==nth 0 l j)=true)=>fA (p:=fun j=>v==nth 0 l j) hlt h HF.out);have HM:=Lh (fun(h:(v==nth 0 l j)=false) (i:Nat) (hi:i<j+1)=>(by
    by_cases hij:i=j
    ·rw[hij];exact h
    ·exact HF.out i (by omega):(v==nth 0 l i)=false))
   rw[hxa];generalize nth 0 l j=y at e0 HN HM;cases hr:(v==y)
   ·have Y3:=Lh (HM.out hr);clear HN HM;go_wp2_with fail;go_round
    case rel=>exact⟨j+1,by omega,by go_num,Y3⟩
    case measure=>simp[intOf];omega
   ·have Va:=Lh (HN.out hr);clear HN HM;go_wp2_with fail;go_ret;exact⟨aQ Va.out.symm,rfl⟩
  ·go_wp2_with fail;go_ret;exact⟨aQ (fw (p:=fun j=>v==nth 0 l j) (fun i hi=>HF.out i (by omega))).symm,rfl⟩
theorem contains_eq(l:List Int)(v:Int):decide (jc (fun j=>v==nth 0 l j) l.length≥0)=l.contains v:=by
 rw[iy,Bool.eq_iff_iff,List.any_eq_true];simp only[List.mem_range,List.contains_iff_mem,beq_iff_eq];constructor
 ·rintro⟨j,hj,rfl⟩;rw[iO hj];exact List.getElem_mem hj
 ·intro h;obtain⟨j,hj,rfl⟩:=List.mem_iff_getElem.1 h;exact⟨j,hj,(iO hj).symm⟩
theorem xk(l:List Int)(x:aK)(v:Int)(w:World)(hx:aj w (·<w.heap.size) (bD l) x)(hmax:l.length<=2000000):
  Calls Tryz.prog 152 #[.slice x.a l.length x.cap,.int .i64 v] w fun e w'=>e=.returned (.bool (l.contains v))/\w=w':=by
 have HI:=Lh (DU l x v w hx hmax);have HE:=Lh (contains_eq l v);clear hx;go_enter Tryz.func152,Tryz.ntmps152;go_wp2_with fail;refine HI.out.mono ?_;rintro e w' ⟨rfl,rfl⟩;generalize jc (fun j=>v==nth 0 l j) l.length=z at HE ⊢;go_wp2_with fail;go_ret;exact⟨bT HE.out,rfl⟩
theorem jP(n most:Int)(w:World):Calls Tryz.prog 62 #[.int .i64 n,.int .i64 most] w fun e w'=>e=.returned (.bool (aX n most))/\w=w':=by
 by_cases h1:0<=n
 ·by_cases h2:n<=most
  ·have e:aX n most=true:=by unfold aX;simp[h1,h2]
   rw[e];clear e;go_enter Tryz.func62,Tryz.ntmps62;go_wp2_with fail;go_ret;exact⟨rfl,rfl⟩
  ·have e:aX n most=false:=by unfold aX;simp[h2]
   rw[e];clear e;have h2':decide (n<=most)=false:=by simpa using h2
   go_enter Tryz.func62,Tryz.ntmps62;go_wp2_with fail;go_ret;exact⟨rfl,rfl⟩
 ·have e:aX n most=false:=by unfold aX;simp[h1]
  rw[e];clear e;have h1':decide (0<=n)=false:=by simpa using h1
  go_enter Tryz.func62,Tryz.ntmps62;go_wp2_with fail;go_ret;exact⟨rfl,rfl⟩
theorem nV(h:l=x::r)(hx:x<=last∨n<=x):dZ n l last=false:=by
 subst h;rw[dZ,if_pos hx]
theorem xI(h:l=x::r)(hx:¬(x<=last∨n<=x)):dZ n l last=dZ n r x:=by
 subst h;rw[dZ,if_neg hx]
theorem mG(l:List Int)(x:aK)(n:Int)(w:World)(hx:aj w (·<w.heap.size) (bD l) x)(hmax:l.length<=2000000):
  Calls Tryz.prog 64 #[.slice x.a l.length x.cap,.int .i64 n] w fun e w'=>e=.returned (.bool (cK l n))/\w=w':=by
 obtain⟨h1,_,_,_,h5⟩:=hx.ints;have HS:=Lh h1;have HC:=Lh h5;clear h1 h5 hx;go_enter Tryz.func64,Tryz.ntmps64;go_wp2_with fail;go_loop [10,5] (fun i last=>∃(j:Nat) (z:Int),j<=l.length/\i=.int .i64 j/\last=.int .i64 z/\Hid (cK l n=dZ n (l.drop j) z)) (fun i _=>l.length-(intOf i).toNat)
 case atStart=>exact⟨0,-1,Nat.zero_le _,rfl,rfl,Lh rfl⟩
 case round=>
  obtain⟨j,z,hj,rfl,rfl,HF⟩:=hrel;by_cases hlt:j<l.length
  ·obtain⟨hxa,_⟩:=HS.out (by omega);have e0:=HC.out j hlt;have hd:l.drop j=l[j]::l.drop (j+1):=List.drop_eq_getElem_cons hlt;rw[hxa];generalize l[j]=y at e0 hd;have HD:=Lh hd;clear hd;by_cases c1:y<=z
   ·go_wp2_with fail;go_ret;exact⟨bT (by rw[HF.out,nV HD.out (.inl c1)]),rfl⟩
   ·by_cases c2:n<=y
    ·have c1':decide (y<=z)=false:=by simpa using c1
     go_wp2_with fail;go_ret;exact⟨bT (by rw[HF.out,nV HD.out (.inr c2)]),rfl⟩
    ·have c1':decide (y<=z)=false:=by simpa using c1
     have c2':decide (n<=y)=false:=by simpa using c2
     go_wp2_with fail;go_round
     case rel=>exact⟨j+1,y,by omega,by go_num,rfl,Lh (by rw[HF.out,xI HD.out (by omega)])⟩
     case measure=>simp[intOf];omega
  ·go_wp2_with fail;go_ret;have e:l.drop j=[]:=List.drop_eq_nil_of_le (by omega);exact⟨bT (by rw[HF.out,e,dZ]),rfl⟩
end Go.Proofs.YtncnnbmeacpboaaGreatDoor
namespace Go.Proofs.YtncnnbmeacpboaaGreatDoor
open Go.RowKit Go.aa
attribute [local go_sem] Oper.semAt_some
variable {n last x:Int} {l r:List Int}
theorem iq{α:Type}(l:List α)(f:α->Bool):(List.range l.length).any (fun j=>(l[j]?.map f).getD false)=l.any f:=by
 rw[Bool.eq_iff_iff,List.any_eq_true,List.any_eq_true];constructor
 ·rintro⟨j,hj,h⟩;have hj':=List.mem_range.1 hj;rw[List.getElem?_eq_getElem hj'] at h;exact⟨l[j],List.getElem_mem hj',by simpa using h⟩
 ·rintro⟨y,hy,h⟩;obtain⟨j,hj,rfl⟩:=List.getElem_of_mem hy;exact⟨j,List.mem_range.2 hj,by rw[List.getElem?_eq_getElem hj];simpa using h⟩
theorem gH{w:World}{x:Obj}{p:Addr}{v:Value}(h:w.cell? p=some v):(w.alloc x).cell? p=some v:=
 (((Below.refl w.heap.size w).alloc (Nat.le_refl _) x).cell (World.block_lt_of_cell? w p h)).trans h
theorem Dn(x:qi)(y:aK)(q:Nat)(n:Int)(w:World)(hx:aj w (·<w.heap.size) (bD x.shut) y)(hmax:x.shut.length<=2000000)(hq:w.cell? ⟨q,0,none⟩=some (.int .i64 n)):
  Calls Tryz.prog 63 #[.agg #[.string ⟨x.name.toArray⟩,.int .i64 x.house,.int .i64 x.seats,.slice y.a x.shut.length y.cap],.pointer (some ⟨q,0,none⟩)] w (dC w (fJ n x)):=by
 obtain⟨a,ea⟩:∃a,a=aX x.house 7:=⟨_,rfl⟩;obtain⟨b,eb⟩:∃b,b=aX x.seats 1000:=⟨_,rfl⟩;obtain⟨c,ec⟩:∃c,c=cK x.shut n:=⟨_,rfl⟩;have hq':=gH (x:=.cells #[.string ⟨x.name.toArray⟩,.int .i64 x.house,.int .i64 x.seats,.slice y.a x.shut.length y.cap] 88) hq;have HA:Hid (∀W,Calls Tryz.prog 62 #[.int .i64 x.house,.int .i64 7] W fun e w'=>e=.returned (.bool a)/\W=w'):=Lh (fun W=>by rw[ea];exact jP _ _ W);have HB:Hid (∀W,Calls Tryz.prog 62 #[.int .i64 x.seats,.int .i64 1000] W fun e w'=>e=.returned (.bool b)/\W=w'):=Lh (fun W=>by rw[eb];exact jP _ _ W);have HC:=Lh (mG x.shut y n (w.alloc (.cells #[.string ⟨x.name.toArray⟩,.int .i64 x.house,.int .i64 x.seats,.slice y.a x.shut.length y.cap] 88)) (hx.later ((Below.refl _ _).alloc (Nat.le_refl _) _) (by simp)) hmax);rw[<-ec] at HC;have hr:fJ n x=(!a||!b||!c):=by rw[ea,eb,ec];rfl
 rw[hr];clear hr ea eb ec hx hmax hq;go_enter Tryz.func63,Tryz.ntmps63;go_wp2_with fail;refine(HA.out _).mono ?_;rintro e w' ⟨rfl,rfl⟩;cases a
 ·go_wp2_with fail;go_ret;exact⟨rfl,(Below.refl _ _).alloc (Nat.le_refl _) _⟩
 ·go_wp2_with fail;refine(HB.out _).mono ?_;rintro e w' ⟨rfl,rfl⟩;cases b
  ·go_wp2_with fail;go_ret;exact⟨rfl,(Below.refl _ _).alloc (Nat.le_refl _) _⟩
  ·go_wp2_with fail;refine HC.out.mono ?_;rintro e w' ⟨rfl,rfl⟩;go_wp2_with fail;go_ret;exact⟨by simp,(Below.refl _ _).alloc (Nat.le_refl _) _⟩
theorem Dp(x:sG)(y:aK)(q:Nat)(n:Int)(w:World)(hx:aj w (·<w.heap.size) (bD x.away) y)(hmax:x.away.length<=2000000)(hq:w.cell? ⟨q,0,none⟩=some (.int .i64 n)):
  Calls Tryz.prog 65 #[.agg #[.string ⟨x.name.toArray⟩,.slice y.a x.away.length y.cap],.pointer (some ⟨q,0,none⟩)] w (dC w (dH n x)):=by
 have hq':=gH (x:=.cells #[.string ⟨x.name.toArray⟩,.slice y.a x.away.length y.cap] 97) hq;have HC:=Lh (mG x.away y n (w.alloc (.cells #[.string ⟨x.name.toArray⟩,.slice y.a x.away.length y.cap] 97)) (hx.later ((Below.refl _ _).alloc (Nat.le_refl _) _) (by simp)) hmax);have hr:dH n x=!(cK x.away n):=rfl;rw[hr];clear hr hx hmax hq;go_enter Tryz.func65,Tryz.ntmps65;go_wp2_with fail;refine HC.out.mono ?_;rintro e w' ⟨rfl,rfl⟩;go_wp2_with fail;go_ret;exact⟨rfl,(Below.refl _ _).alloc (Nat.le_refl _) _⟩
theorem Dq(x:qm)(w:World):
  Calls Tryz.prog 66 #[.agg #[.string ⟨x.name.toArray⟩,.int .i64 x.size]] w (dC w (eF x)):=by
 have hr:eF x=!(aX x.size 1000):=rfl;rw[hr];clear hr;go_enter Tryz.func66,Tryz.ntmps66;go_wp2_with fail;refine(jP _ _ _).mono ?_;rintro e w' ⟨rfl,rfl⟩;go_wp2_with fail;go_ret;exact⟨rfl,(Below.refl _ _).alloc (Nat.le_refl _) _⟩
theorem Dr(x:qx)(y z:aK)(p q:Nat)(m n:Int)(w:World)(hx:aj w (·<w.heap.size) (bD x.who) y)(hz:aj w (·<w.heap.size) (bD x.groups) z)(hmax:x.who.length<=2000000)(Oc:x.groups.length<=2000000)(hp:w.cell? ⟨p,0,none⟩=some (.int .i64 m))(hq:w.cell? ⟨q,0,none⟩=some (.int .i64 n)):
  Calls Tryz.prog 67 #[.agg #[.string ⟨x.name.toArray⟩,.slice y.a x.who.length y.cap,.slice z.a x.groups.length z.cap],.pointer (some ⟨p,0,none⟩),.pointer (some ⟨q,0,none⟩)] w (dC w (dV m n x)):=by
 obtain⟨a,ea⟩:∃a,a=cK x.who m:=⟨_,rfl⟩;have hp':=gH (x:=.cells #[.string ⟨x.name.toArray⟩,.slice y.a x.who.length y.cap,.slice z.a x.groups.length z.cap] 90) hp;have hq':=gH (x:=.cells #[.string ⟨x.name.toArray⟩,.slice y.a x.who.length y.cap,.slice z.a x.groups.length z.cap] 90) hq;have HA:=Lh (mG x.who y m (w.alloc (.cells #[.string ⟨x.name.toArray⟩,.slice y.a x.who.length y.cap,.slice z.a x.groups.length z.cap] 90)) (hx.later ((Below.refl _ _).alloc (Nat.le_refl _) _) (by simp)) hmax);have HC:=Lh (mG x.groups z n (w.alloc (.cells #[.string ⟨x.name.toArray⟩,.slice y.a x.who.length y.cap,.slice z.a x.groups.length z.cap] 90)) (hz.later ((Below.refl _ _).alloc (Nat.le_refl _) _) (by simp)) Oc);rw[<-ea] at HA;have hr:dV m n x=(!a||!(cK x.groups n)):=by rw[ea];rfl
 rw[hr];clear hr ea hx hz hmax Oc hp hq;go_enter Tryz.func67,Tryz.ntmps67;go_wp2_with fail;refine HA.out.mono ?_;rintro e w' ⟨rfl,rfl⟩;cases a
 ·go_wp2_with fail;go_ret;exact⟨rfl,(Below.refl _ _).alloc (Nat.le_refl _) _⟩
 ·go_wp2_with fail;refine HC.out.mono ?_;rintro e w' ⟨rfl,rfl⟩;go_wp2_with fail;go_ret;exact⟨by simp,(Below.refl _ _).alloc (Nat.le_refl _) _⟩
end Go.Proofs.YtncnnbmeacpboaaGreatDoor
namespace Go.Proofs.YtncnnbmeacpboaaGreatDoor
open Go.RowKit Go.aa
variable {n last x:Int} {l r:List Int}
theorem Iu(l:List qi)(x:aK)(q:Nat)(n:Int)(w:World)(hx:aj w (·<w.heap.size) (l.map qi.toD) x)(hl:l.length<=2000000)(hmax:∀y∈l,y.shut.length<=2000000)(hq:w.cell? ⟨q,0,none⟩=some (.int .i64 n)):
  Calls Tryz.prog 68 #[.slice x.a l.length x.cap,.func (.func 63) #[] #[.pointer (some ⟨q,0,none⟩)]] w fun e w'=>e=.returned (.bool (l.any (fJ n)))/\Below w.heap.size w w':=by
 obtain⟨f,hf⟩:=Classical.axiomOfChoice (r:=fun(j:Nat) (y:aK)=>∀hj:j<l.length,aj w (·<w.heap.size) (bD l[j].shut) y/\ay w x.b (x.o+j*4) [.string ⟨l[j].name.toArray⟩,.int .i64 l[j].house,.int .i64 l[j].seats,y.val l[j].shut.length])
  (fun j=>by
   by_cases hj:j<l.length
   ·obtain⟨y,h1,_,_,_,h2⟩:=hx.TU j hj;exact⟨y,fun _=>⟨h1,h2⟩⟩
   ·exact⟨⟨none,0,0,0⟩,fun h=>(hj h).elim⟩)
 rw[<-iq];refine rH 63 #[.pointer (some ⟨q,0,none⟩)] (fun j=>(l[j]?.map (fJ n)).getD false) l.length (fun j=>.string ⟨(l[j]?.map (·.name.toArray)).getD #[]⟩) (fun j=>.int .i64 ((l[j]?.map (·.house)).getD 0)) (fun j=>.int .i64 ((l[j]?.map (·.seats)).getD 0)) (fun j=>(f j).val ((l[j]?.map (·.shut.length)).getD 0)) x.a x.b x.o x.cap w (by simpa using hx.at_) ?_ ?_ (fun _ _=>enters_of Tryz.func63 (by kernel_rfl) rfl _ _) hl
 ·intro j hj;have h:=(hf j hj).2.four;rw[List.getElem?_eq_getElem hj];exact h
 ·intro j hj W hW;have h:=(hf j hj).1;rw[List.getElem?_eq_getElem hj];exact Dn l[j] (f j) q n W (h.later hW hW.size) (hmax _ (List.getElem_mem hj)) ((hW.cell (World.block_lt_of_cell? w _ hq)).trans hq)
theorem Ef(l:List sG)(x:aK)(q:Nat)(n:Int)(w:World)(hx:aj w (·<w.heap.size) (l.map sG.toD) x)(hl:l.length<=2000000)(hmax:∀y∈l,y.away.length<=2000000)(hq:w.cell? ⟨q,0,none⟩=some (.int .i64 n)):
  Calls Tryz.prog 69 #[.slice x.a l.length x.cap,.func (.func 65) #[] #[.pointer (some ⟨q,0,none⟩)]] w fun e w'=>e=.returned (.bool (l.any (dH n)))/\Below w.heap.size w w':=by
 obtain⟨f,hf⟩:=Classical.axiomOfChoice (r:=fun(j:Nat) (y:aK)=>∀hj:j<l.length,aj w (·<w.heap.size) (bD l[j].away) y/\ay w x.b (x.o+j*2) [.string ⟨l[j].name.toArray⟩,y.val l[j].away.length])
  (fun j=>by
   by_cases hj:j<l.length
   ·obtain⟨y,h1,_,h2⟩:=hx.TR j hj;exact⟨y,fun _=>⟨h1,h2⟩⟩
   ·exact⟨⟨none,0,0,0⟩,fun h=>(hj h).elim⟩)
 rw[<-iq];refine rG 65 #[.pointer (some ⟨q,0,none⟩)] (fun j=>(l[j]?.map (dH n)).getD false) l.length (fun j=>.string ⟨(l[j]?.map (·.name.toArray)).getD #[]⟩) (fun j=>(f j).val ((l[j]?.map (·.away.length)).getD 0)) x.a x.b x.o x.cap w (by simpa using hx.at_) ?_ ?_ (fun _ _=>enters_of Tryz.func65 (by kernel_rfl) rfl _ _) hl
 ·intro j hj;have h:=(hf j hj).2.two;rw[List.getElem?_eq_getElem hj];exact h
 ·intro j hj W hW;have h:=(hf j hj).1;rw[List.getElem?_eq_getElem hj];exact Dp l[j] (f j) q n W (h.later hW hW.size) (hmax _ (List.getElem_mem hj)) ((hW.cell (World.block_lt_of_cell? w _ hq)).trans hq)
theorem Dz(l:List qm)(x:aK)(w:World)(hx:aj w (·<w.heap.size) (l.map qm.toD) x)(hl:l.length<=2000000):
  Calls Tryz.prog 70 #[.slice x.a l.length x.cap,.func (.func 66) #[] #[]] w fun e w'=>e=.returned (.bool (l.any eF))/\Below w.heap.size w w':=by
 obtain⟨g1,_,_,g4,_⟩:=hx.flat qm.bI;rw[<-iq];refine rE 66 #[] (fun j=>(l[j]?.map eF).getD false) l.length (fun j=>.string ⟨(l[j]?.map (·.name.toArray)).getD #[]⟩) (fun j=>.int .i64 ((l[j]?.map (·.size)).getD 0)) x.a x.b x.o x.cap w g1 ?_ ?_ (fun _ _=>enters_of Tryz.func66 (by kernel_rfl) rfl _ _) hl
 ·intro j hj;have h:=g4.two j hj rfl;rw[List.getElem?_eq_getElem hj];exact h
 ·intro j hj W hW;rw[List.getElem?_eq_getElem hj];exact Dq l[j] W
theorem BC(l:List qx)(x:aK)(p q:Nat)(m n:Int)(w:World)(hx:aj w (·<w.heap.size) (l.map qx.toD) x)(hl:l.length<=2000000)(hmax:∀y∈l,y.who.length<=2000000)(Oc:∀y∈l,y.groups.length<=2000000)(hp:w.cell? ⟨p,0,none⟩=some (.int .i64 m))(hq:w.cell? ⟨q,0,none⟩=some (.int .i64 n)):
  Calls Tryz.prog 71 #[.slice x.a l.length x.cap,.func (.func 67) #[] #[.pointer (some ⟨p,0,none⟩),.pointer (some ⟨q,0,none⟩)]] w fun e w'=>e=.returned (.bool (l.any (dV m n)))/\Below w.heap.size w w':=by
 obtain⟨f,hf⟩:=Classical.axiomOfChoice (r:=fun(j:Nat) (y:aK×aK)=>∀hj:j<l.length,aj w (·<w.heap.size) (bD l[j].who) y.1/\aj w (·<w.heap.size) (bD l[j].groups) y.2/\ay w x.b (x.o+j*3) [.string ⟨l[j].name.toArray⟩,y.1.val l[j].who.length,y.2.val l[j].groups.length])
  (fun j=>by
   by_cases hj:j<l.length
   ·obtain⟨y,z,h1,h3,_,h2⟩:=hx.TN j hj;exact⟨(y,z),fun _=>⟨h1,h3,h2⟩⟩
   ·exact⟨(⟨none,0,0,0⟩,⟨none,0,0,0⟩),fun h=>(hj h).elim⟩)
 rw[<-iq];refine rF 67 #[.pointer (some ⟨p,0,none⟩),.pointer (some ⟨q,0,none⟩)] (fun j=>(l[j]?.map (dV m n)).getD false) l.length (fun j=>.string ⟨(l[j]?.map (·.name.toArray)).getD #[]⟩) (fun j=>(f j).1.val ((l[j]?.map (·.who.length)).getD 0)) (fun j=>(f j).2.val ((l[j]?.map (·.groups.length)).getD 0)) x.a x.b x.o x.cap w (by simpa using hx.at_) ?_ ?_ (fun _ _=>enters_of Tryz.func67 (by kernel_rfl) rfl _ _) hl
 ·intro j hj;have h:=(hf j hj).2.2.three;rw[List.getElem?_eq_getElem hj];exact h
 ·intro j hj W hW;have h:=hf j hj;rw[List.getElem?_eq_getElem hj];exact Dr l[j] (f j).1 (f j).2 p q m n W (h.1.later hW hW.size) (h.2.1.later hW hW.size) (hmax _ (List.getElem_mem hj)) (Oc _ (List.getElem_mem hj)) ((hW.cell (World.block_lt_of_cell? w _ hp)).trans hp) ((hW.cell (World.block_lt_of_cell? w _ hq)).trans hq)
end Go.Proofs.YtncnnbmeacpboaaGreatDoor
