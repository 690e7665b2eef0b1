/- Parts of the proof. -/
import Derived.Test.YtncnnbmeacpboaaGreatDoorO32
import Derived.Test.YtncnnbmeacpboaaGreatDoorLWa3
set_option maxHeartbeats 8000000
set_option maxRecDepth 100000
set_option linter.unusedVariables false
set_option linter.unusedSimpArgs false
namespace Go.Proofs.YtncnnbmeacpboaaGreatDoor
open Go.RowKit Go.aa
variable {B j:Nat} {w w':World} {s:ax} {r:aV} {b:List aH} {ns:List Bs}
theorem oK(h:Below B w w')(n:Nat):Below B w (w'.drewN n):=⟨h.os,h.tape,h.output,h.size,h.block⟩
end Go.Proofs.YtncnnbmeacpboaaGreatDoor
namespace Go.aa
variable {B j:Nat} {w w':World} {s:ax} {r:aV} {b:List aH} {ns:List Bs}
theorem CS(h:bM s=0)(sort:Int):∀x∈aj s sort,x.length<=64:=by
 have h0:(aF [] (aj s 1)&&aF [] (aj s 2)&&aF [] (aj s 3)&&aF [] (aj s 4)&&aF [] (aj s 5))=true:=by
  cases e:(aF [] (aj s 1)&&aF [] (aj s 2)&&aF [] (aj s 3)&&aF [] (aj s 4)&&aF [] (aj s 5)) with
  |true=>rfl
  |false=>unfold bM at h;rw[e] at h;cases h
 simp only[Bool.and_eq_true] at h0;obtain⟨⟨⟨⟨k1,k2⟩,k3⟩,k4⟩,k5⟩:=h0;have sl:∀x:Bs,dQ x=true->x.length<=64:=fun x hx=>by
  cases x with
  |nil=>simp
  |cons c r=>simp only[dQ,Bool.and_eq_true,decide_eq_true_eq] at hx;exact hx.1.1.1
 have one:∀z:Int,aF [] (aj s z)=true->∀x∈aj s z,x.length<=64:=fun z k x hx=>sl x ((pQ _ _ k).1 x hx).1;by_cases e1:sort=1
 ·rw[e1];exact one 1 k1
 by_cases e2:sort=2
 ·rw[e2];exact one 2 k2
 by_cases e3:sort=3
 ·rw[e3];exact one 3 k3
 by_cases e4:sort=4
 ·rw[e4];exact one 4 k4
 by_cases e5:sort=5
 ·rw[e5];exact one 5 k5
 unfold aj;rw[if_neg e1,if_neg e2,if_neg e3,if_neg e4,if_neg e5];split
 ·decide
 split
 ·decide
 ·simp
theorem KX(h:bM s=0){sort at_:Int}:(cK s sort at_).length<=64:=by
 by_cases h1:cK s sort at_=[]
 ·rw[h1];simp
 ·exact CS h sort _ (List.mem_of_getElem? (IJ h1).2)
theorem uA{s:ax}(hs:bM s=0):∀(b:List aH) (q:List Int) (ns:List Bs),iv s b q=some ns->∀x∈ns,x.length<=64
 |[],q,ns,h,x,hx=>by rw[iv] at h;obtain rfl:=Option.some.inj h;simp at hx
 |b::r,[],ns,h,x,hx=>by rw[iv] at h;cases h
 |b::r,i::q,ns,h,x,hx=>by
  rw[iv] at h;split at h
  ·cases h
  ·obtain⟨l,hl,rfl⟩:=Option.map_eq_some_iff.1 h;rcases List.mem_cons.1 hx with rfl|hx
   ·exact KX hs
   ·exact uA hs r q l hl x hx
theorem nU{x:Bs}(h:bJ x=true):x.length<=64:=by
 cases x with
 |nil=>simp
 |cons c r=>simp only[bJ,Bool.and_eq_true,decide_eq_true_eq] at h;exact h.1.1.1
structure KQ (r:aV):Prop where
 name:r.name.length<=64
 each:r.each.length<=6
 zC:∀b∈r.each,b.name.length<=64
 nodup:(r.each.map aH.name).Nodup
 body:aX r.body=0
 weight:0<=r.weight/\r.weight<=1000
theorem Az(h:dG r=0):0<=r.weight/\r.weight<=1000:=by
 unfold dG at h;by_cases h1:bu ⟨r.name,1⟩=false∨r.weight<(if r.hard then 0 else 1)∨(if r.hard then 0 else 1000)<r.weight∨6<r.each.length∨r.each.all bu=false
 ·rw[if_pos h1] at h;cases h
 ·simp only[not_or] at h1;cases hh:r.hard<;>simp[hh] at h1<;>omega
theorem JA(h:dG r=0):KQ r:=by
 obtain⟨h1,h2,h3⟩:=um h;have h4:=Ay h;obtain⟨h5,h6⟩:=rT.1 h4.may;simp only[bu,Bool.and_eq_true] at h1;exact⟨nU h1.1.1,h4.each,fun b hb=>by have:=h5 b hb;simp only[bu,Bool.and_eq_true] at this;exact nU this.1.1,h6,h3,Az h⟩
theorem wB{l:List aV}(h:okF s l=0):∀r∈l,KQ r:=fun r hr=>JA ((sF h).2.1 r hr)
theorem rO:∀m:List (Bs×Bs),Lib.join (m.map eB) [44,32]=fE m
 |[]=>rfl
 |[p]=>by rw[List.map_cons,List.map_nil,Lib.join_one];rfl
 |p::q::r=>by
  have:=rO (q::r);rw[fE,<-this];simp only[List.map_cons,Lib.join,List.intercalate,List.intersperse_cons_cons,List.flatten_cons]
theorem p8{p:Bs×Bs}(h1:p.1.length<=64)(h2:p.2.length<=64):(eB p).length<=131:=by simp[eB];omega
theorem kG:∀(m:List (Bs×Bs)),(∀p∈m,p.1.length<=64/\p.2.length<=64)->(fE m).length<=133*m.length
 |[],_=>by simp[fE]
 |[p],h=>by have:=h p (by simp);have:=p8 this.1 this.2;simp only[fE,List.length_singleton];omega
 |p::q::r,h=>by
  have h1:=h p (by simp);have h2:=p8 h1.1 h1.2;have h3:=kG (q::r) (fun x hx=>h x (by simp[hx]));rw[fE];simp only[List.length_append,List.length_cons,List.length_nil] at h3 ⊢;omega
open Go.Proofs in
theorem JP(h1:j<b.length)(h2:j<ns.length):((b.map aH.name).zip ns).take (j+1)=((b.map aH.name).zip ns).take j++[(b[j].name,ns[j])]:=by
 have:j<((b.map aH.name).zip ns).length:=by simp;omega
 rw[List.take_succ_eq_append_getElem this];simp
theorem zip_fst(h:ns.length=b.length):((b.map aH.name).zip ns).map Prod.fst=b.map aH.name:=by
 rw[List.map_fst_zip (by simp[h])]
theorem BD(h1:∀x∈b,x.name.length<=64)(h2:∀x∈ns,x.length<=64):∀p∈(b.map aH.name).zip ns,p.1.length<=64/\p.2.length<=64:=by
 intro p hp;have h3:=List.of_mem_zip hp;obtain⟨x,hx,e⟩:=List.mem_map.1 h3.1;exact⟨by rw[<-e];exact h1 x hx,h2 _ h3.2⟩
theorem Dy(hn:(b.map aH.name).Nodup)(hl:ns.length=b.length)(hj:j<b.length):∀p∈((b.map aH.name).zip ns).take j,p.1≠b[j].name:=by
 intro p hp e;obtain⟨i,hi,rfl⟩:=List.mem_iff_getElem.1 hp;have hi':i<j:=by simp at hi;omega
 rw[List.getElem_take,List.getElem_zip,List.getElem_map] at e;rw[List.nodup_iff_pairwise_ne,List.pairwise_iff_getElem] at hn;exact hn i j (by simp;omega) (by simpa using hj) hi' (by simpa using e)
end Go.aa
namespace Go.Proofs.YtncnnbmeacpboaaGreatDoor
open Go.RowKit Go.aa
variable {B j:Nat} {w w':World} {s:ax} {r:aV} {b:List aH} {ns:List Bs}
theorem iV.ren{m:List (Bs×Bs)}{f:ag}(hf:iV f)(hm:∀p∈m,p.2.length<=64):iV (fq m f):=by
 refine⟨by rw[yO];exact hf.size,fun g hg=>?_⟩;rw[uS] at hg;obtain⟨q,hq,rfl⟩:=List.mem_map.1 hg;obtain⟨h1,h2,h3,h4,h5,h6⟩:=hf.nodes q hq;obtain⟨e1,e2,e3,e4,e5,e6⟩:=Da m q;unfold mf;rw[e4,e5,e6,e2];refine⟨by simpa using h1,h2,by simpa using h3,h4,fun t ht=>?_,h6⟩;obtain⟨u,hu,rfl⟩:=List.mem_map.1 ht;exact Gz (fun p hp=>by have:=hm p hp;omega) (h5 u hu)
theorem pK(h:Below B w w')(n:Nat):Below B w (w'.drewN n):=⟨h.os,h.tape,h.output,h.size,h.block⟩
theorem Db(s:ax)(x:bH)(w:World)(hs:dh w (·<w.heap.size) s x)(hsm:SchSmall s):
  Calls Tryz.prog 22 #[.agg (x.cells s).toArray] w fun e w'=>∃b:Bool,e=.returned (.bool b)/\Below w.heap.size w w':=by
 have dD:Below w.heap.size w (w.alloc (.cells (x.cells s).toArray 28)):=(Below.refl _ _).alloc (Nat.le_refl _) _;have hbx:bL (w.alloc (.cells (x.cells s).toArray 28)) w.heap.size s x:=by unfold bL;rw[ae,if_pos rfl]
 have tq:=Lh (fun(sort:Int) (W:World) (hW:Below w.heap.size w W)=>Ab s x sort W (hs.later hW hW.size) hsm);have Ef:=Lh (fun(sort:Int)=>count_le hsm sort);have HB:=Lh (aI dD hbx);have HS:=Lh hs;have Nb:=Lh hsm;clear hs hsm dD hbx;simp only[bH.cells,aB.val] at tq HB ⊢;go_enter Tryz.func22,Tryz.ntmps22;go_wp2_with fail;go_loopw [3,4] (fun nn i wr=>∃(j:Nat) (q:Int),j<=s.ah.length/\i=.int .i64 j/\nn=.int .i64 q/\Below w.heap.size w wr/\Hid (bL wr w.heap.size s x)) (fun _ i _=>s.ah.length-(intOf i).toNat)
 case atStart=>exact⟨0,0,Nat.zero_le _,rfl,rfl,HB.out.1,Lh HB.out.2⟩
 case round=>
  obtain⟨j,q,hj,rfl,rfl,hb,gJ⟩:=hrel;have HB0:=Lh hb;have hsm:=Nb.out.ah;obtain⟨c0,c1,c2,c3,c4⟩:=gJ.out.cells;obtain⟨v,hv⟩:∃v,v=(decide (j<s.ah.length)&&decide (j<80)):=⟨_,rfl⟩;have HV:=Lh hv;clear hv;have hcase:Hid ((j<s.ah.length/\j<80)∨(j<s.ah.length/\¬j<80)∨¬j<s.ah.length):=Lh (by omega);go_upto_region 3 with fail
  go_cut [18] from 10 to 29 (fun u w'=>u=.bool v/\w'=wr)
  case first=>
   rcases hcase.out with⟨p1,p2⟩|⟨p1,p2⟩|p1
   ·have hv:v=true:=by rw[HV.out];simp[p1,p2]
    subst hv;go_wp2_with fail
    all_goals(go_meet;exact⟨by first|rfl|(congr 1;simp;omega)|(exfalso;simp at lX;omega),rfl⟩)
   ·have hv:v=false:=by rw[HV.out];simp[p2]
    subst hv;have Ih:decide ((j:Int)<80)=false:=decide_eq_false (by omega);clear p2;go_wp2_with fail
    all_goals(go_meet;exact⟨by first|rfl|(congr 1;simp;omega)|(exfalso;simp at lX;omega),rfl⟩)
   ·have hv:v=false:=by rw[HV.out];simp[p1]
    subst hv;have lX:decide ((j:Int)<(s.ah.length:Int))=false:=decide_eq_false (by omega);clear p1;go_wp2_with fail
    all_goals(go_meet;exact⟨by first|rfl|(congr 1;simp;omega)|(exfalso;simp at lX;omega),rfl⟩)
  case rest=>
   obtain⟨rfl,rfl⟩:=hcut;cases v;rotate_left
   ·have hlt:j<s.ah.length:=by
     have h:=HV.out;rcases hcase.out with⟨p1,p2⟩|⟨p1,p2⟩|p1
     ·exact p1
     ·exact p1
     ·rw[decide_eq_false p1] at h;simp at h
    clear HV hcase;obtain⟨y1,_,_,_,_,hy2⟩:=HS.out.ah.Pk j hlt;obtain⟨hxa,l7⟩:=HS.out.ah.at_ (by rw[List.length_map];omega);obtain⟨e0,e1,e2,e3⟩:=(hy2.agree (af hb) l7).four;simp only[aB.val] at e3;generalize (s.ah[j]).shut.length=sl at e3;rw[hxa] at c1;clear hy2 l7 hxa hb;go_wp2_with fail;exact⟨⟨j+1,_,by omega,by go_num,rfl,HB0.out,gJ⟩,by simp[intOf];omega⟩
   ·clear HV hcase hb;go_wp2_with fail;go_loopw [3,5] (fun nn i wr=>∃(j:Nat) (q:Int),j<=s.people.length/\i=.int .i64 j/\nn=.int .i64 q/\Below w.heap.size w wr/\Hid (bL wr w.heap.size s x)) (fun _ i _=>s.people.length-(intOf i).toNat)
    case atStart=>exact⟨0,q,Nat.zero_le _,rfl,rfl,HB0.out,gJ⟩
    case round=>
     obtain⟨j,q,hj,rfl,rfl,hb,gJ⟩:=hrel;have HB0:=Lh hb;have hsm:=Nb.out.people;obtain⟨c0,c1,c2,c3,c4⟩:=gJ.out.cells;obtain⟨v,hv⟩:∃v,v=(decide (j<s.people.length)&&decide (j<80)):=⟨_,rfl⟩;have HV:=Lh hv;clear hv;have hcase:Hid ((j<s.people.length/\j<80)∨(j<s.people.length/\¬j<80)∨¬j<s.people.length):=Lh (by omega);go_upto_region 7 with fail
     go_cut [38] from 30 to 49 (fun u w'=>u=.bool v/\w'=wr)
     case first=>
      rcases hcase.out with⟨p1,p2⟩|⟨p1,p2⟩|p1
      ·have hv:v=true:=by rw[HV.out];simp[p1,p2]
       subst hv;go_wp2_with fail
       all_goals(go_meet;exact⟨by first|rfl|(congr 1;simp;omega)|(exfalso;simp at lX;omega),rfl⟩)
      ·have hv:v=false:=by rw[HV.out];simp[p2]
       subst hv;have Ih:decide ((j:Int)<80)=false:=decide_eq_false (by omega);clear p2;go_wp2_with fail
       all_goals(go_meet;exact⟨by first|rfl|(congr 1;simp;omega)|(exfalso;simp at lX;omega),rfl⟩)
      ·have hv:v=false:=by rw[HV.out];simp[p1]
       subst hv;have lX:decide ((j:Int)<(s.people.length:Int))=false:=decide_eq_false (by omega);clear p1;go_wp2_with fail
       all_goals(go_meet;exact⟨by first|rfl|(congr 1;simp;omega)|(exfalso;simp at lX;omega),rfl⟩)
     case rest=>
      obtain⟨rfl,rfl⟩:=hcut;cases v;rotate_left
      ·have hlt:j<s.people.length:=by
        have h:=HV.out;rcases hcase.out with⟨p1,p2⟩|⟨p1,p2⟩|p1
        ·exact p1
        ·exact p1
        ·rw[decide_eq_false p1] at h;simp at h
       clear HV hcase;obtain⟨y1,_,_,hy2⟩:=HS.out.people.Pj j hlt;obtain⟨hxa,l7⟩:=HS.out.people.at_ (by rw[List.length_map];omega);obtain⟨e0,e1⟩:=(hy2.agree (af hb) l7).two;simp only[aB.val] at e1;generalize (s.people[j]).away.length=sl at e1;rw[hxa] at c2;clear hy2 l7 hxa hb;go_wp2_with fail;exact⟨⟨j+1,_,by omega,by go_num,rfl,HB0.out,gJ⟩,by simp[intOf];omega⟩
      ·clear HV hcase hb;go_wp2_with fail;go_loopw [3,6] (fun nn i wr=>∃(j:Nat) (q:Int),j<=s.lessons.length/\i=.int .i64 j/\nn=.int .i64 q/\Below w.heap.size w wr/\Hid (bL wr w.heap.size s x)) (fun _ i _=>s.lessons.length-(intOf i).toNat)
       case atStart=>exact⟨0,q,Nat.zero_le _,rfl,rfl,HB0.out,gJ⟩
       case round=>
        obtain⟨j,q,hj,rfl,rfl,hb,gJ⟩:=hrel;have HB0:=Lh hb;have hsm:=Nb.out.lessons;obtain⟨c0,c1,c2,c3,c4⟩:=gJ.out.cells;obtain⟨v,hv⟩:∃v,v=(decide (j<s.lessons.length)&&decide (j<80)):=⟨_,rfl⟩;have HV:=Lh hv;clear hv;have hcase:Hid ((j<s.lessons.length/\j<80)∨(j<s.lessons.length/\¬j<80)∨¬j<s.lessons.length):=Lh (by omega);go_upto_region 11 with fail
        go_cut [58] from 50 to 77 (fun u w'=>u=.bool v/\w'=wr)
        case first=>
         rcases hcase.out with⟨p1,p2⟩|⟨p1,p2⟩|p1
         ·have hv:v=true:=by rw[HV.out];simp[p1,p2]
          subst hv;go_wp2_with fail
          all_goals(go_meet;exact⟨by first|rfl|(congr 1;simp;omega)|(exfalso;simp at lX;omega),rfl⟩)
         ·have hv:v=false:=by rw[HV.out];simp[p2]
          subst hv;have Ih:decide ((j:Int)<80)=false:=decide_eq_false (by omega);clear p2;go_wp2_with fail
          all_goals(go_meet;exact⟨by first|rfl|(congr 1;simp;omega)|(exfalso;simp at lX;omega),rfl⟩)
         ·have hv:v=false:=by rw[HV.out];simp[p1]
          subst hv;have lX:decide ((j:Int)<(s.lessons.length:Int))=false:=decide_eq_false (by omega);clear p1;go_wp2_with fail
          all_goals(go_meet;exact⟨by first|rfl|(congr 1;simp;omega)|(exfalso;simp at lX;omega),rfl⟩)
        case rest=>
         obtain⟨rfl,rfl⟩:=hcut;cases v;rotate_left
         ·have hlt:j<s.lessons.length:=by
           have h:=HV.out;rcases hcase.out with⟨p1,p2⟩|⟨p1,p2⟩|p1
           ·exact p1
           ·exact p1
           ·rw[decide_eq_false p1] at h;simp at h
          clear HV hcase;obtain⟨y1,y2,_,_,_,hy2⟩:=HS.out.lessons.Pf j hlt;obtain⟨hxa,l7⟩:=HS.out.lessons.at_ (by rw[List.length_map];omega);obtain⟨e0,e1,e2⟩:=(hy2.agree (af hb) l7).three;simp only[aB.val] at e1 e2;generalize (s.lessons[j]).who.length=sl at e1;generalize (s.lessons[j]).groups.length=sl2 at e2;rw[hxa] at c4;clear hy2 l7 hxa hb;go_wp2_with fail;go_quiet (fail);go_wp2_with fail;exact⟨⟨j+1,_,by omega,by go_num,rfl,pK HB0.out _,Lh (gJ.out.below (pK (Below.refl _ _) _))⟩,by simp[intOf];omega⟩
         ·clear HV hcase hb;go_wp2_with fail;go_loopw [3,7] (fun nn so wr=>∃(j:Nat) (q:Int),j<=5/\so=.int .i64 ((j:Int)+1)/\nn=.int .i64 q/\Below w.heap.size w wr/\Hid (bL wr w.heap.size s x)) (fun _ so _=>6-(intOf so).toNat)
          case atStart=>exact⟨0,q,Nat.zero_le _,rfl,rfl,HB0.out,gJ⟩
          case round=>
           obtain⟨j,q,hj,rfl,rfl,hb,gJ⟩:=hrel;have HB0:=Lh hb;obtain⟨c0,c1,c2,c3,c4⟩:=gJ.out.cells;by_cases hlt:j<5
           ·have hl5:(j:Int)+1<=5:=by omega
            have M3:=Lh (tq.out ((j:Int)+1) _ hb);have hle:=Ef.out ((j:Int)+1);have Iq:Hid ((aj s ((j:Int)+1)).length<=2000000):=Lh hle;clear hb hle;generalize aj s ((j:Int)+1)=ns at M3 Iq;go_wp2_with fail;refine M3.out.mono ?_;rintro e w1 ⟨x0,rfl,hx0,hb1⟩;have wO:=Lh (aI (HB0.out.trans (hb1.mono HB0.out.size)) (gJ.out.below hb1));have HX0:=Lh hx0;clear hb1 hx0 c0 c1 c2 c3 c4;obtain⟨xa,xb,xo,xc⟩:=x0;simp only at HX0 ⊢;go_wp2_with fail;go_loop [3,9] (fun nn i=>∃(k:Nat) (q:Int),k<=ns.length/\i=.int .i64 k/\nn=.int .i64 q) (fun _ i=>ns.length-(intOf i).toNat)
            case atStart=>exact⟨0,q,Nat.zero_le _,rfl,rfl⟩
            case round=>
             obtain⟨k,q,hk,rfl,rfl⟩:=hrel;have hle:=Iq.out;obtain⟨v,hv⟩:∃v,v=(decide (k<ns.length)&&decide (k<80)):=⟨_,rfl⟩;have HV:=Lh hv;clear hv;have hcase:Hid ((k<ns.length/\k<80)∨(k<ns.length/\¬k<80)∨¬k<ns.length):=Lh (by omega);go_upto_region 19 with fail
             go_cut [92] from 85 to 101 (fun u w'=>u=.bool v/\w'=w1)
             case first=>
              rcases hcase.out with⟨p1,p2⟩|⟨p1,p2⟩|p1
              ·have hv:v=true:=by rw[HV.out];simp[p1,p2]
               subst hv;go_wp2_with fail
               all_goals(go_meet;exact⟨by first|rfl|(congr 1;simp;omega)|(exfalso;simp at lX;omega),rfl⟩)
              ·have hv:v=false:=by rw[HV.out];simp[p2]
               subst hv;have Ih:decide ((k:Int)<80)=false:=decide_eq_false (by omega);clear p2;go_wp2_with fail
               all_goals(go_meet;exact⟨by first|rfl|(congr 1;simp;omega)|(exfalso;simp at lX;omega),rfl⟩)
              ·have hv:v=false:=by rw[HV.out];simp[p1]
               subst hv;have lX:decide ((k:Int)<(ns.length:Int))=false:=decide_eq_false (by omega);clear p1;go_wp2_with fail
               all_goals(go_meet;exact⟨by first|rfl|(congr 1;simp;omega)|(exfalso;simp at lX;omega),rfl⟩)
             case rest=>
              obtain⟨rfl,rfl⟩:=hcut;cases v;rotate_left
              ·have QI:k<ns.length:=by
                have h:=HV.out;rcases hcase.out with⟨p1,p2⟩|⟨p1,p2⟩|p1
                ·exact p1
                ·exact p1
                ·rw[decide_eq_false p1] at h;simp at h
               clear HV hcase;obtain⟨ga,_,_,gc,_⟩:=HX0.out.flat jr;obtain⟨hxa,_⟩:=ga (by omega);have e0:wc.cell? ⟨xb,xo+k,none⟩=some (.string ⟨(ns[k]).toArray⟩):=by
                have h:=gc k QI;have h2:=h 0 (by simp[eQ,D.vals]);simpa[eQ,D.vals] using h2
               clear ga gc;simp only at hxa;subst hxa;generalize ns[k]=nm at e0;go_wp2_with fail;go_round
               case rel=>exact⟨k+1,_,by omega,by go_num,rfl⟩
               case measure=>simp[intOf];omega
              ·clear HV hcase;by_cases h80:(80:Int)<(ns.length:Int)
               ·go_wp2_with fail;go_ret;exact⟨.inl rfl,wO.out.1⟩
               ·have Uq:decide ((80:Int)<(ns.length:Int))=false:=decide_eq_false h80;clear h80;go_wp2_with fail;exact⟨⟨j+1,q,by omega,by go_num,rfl,wO.out.1,Lh wO.out.2⟩,by simp[intOf];omega⟩
           ·have QB:j=5:=by omega
            subst QB;by_cases hq:q<=(20000:Int)
            ·go_wp2_with fail;go_ret;exact⟨true,rfl,HB0.out⟩
            ·have hq':decide (q<=(20000:Int))=false:=decide_eq_false hq;clear hq;go_wp2_with fail;go_ret;exact⟨false,rfl,HB0.out⟩
end Go.Proofs.YtncnnbmeacpboaaGreatDoor
