/- Joined texts: Same. -/
import Derived.Test.YtjjkfgjnadaheaaGreatDoorG04
import Derived.Test.YtjjkfgjnadaheaaGreatDoorProg
import Derived.Outline
import Derived.Deep.RegionLaw
import Derived.Deep.QuietTactic
import Derived.BigQuiet
set_option maxHeartbeats 1000000
set_option maxRecDepth 100000
set_option linter.unusedVariables false
set_option linter.unusedSimpArgs false
/- The references' Same and SameAll on constraints that are equal. -/
namespace Go.Proofs.YtjjkfgjnadaheaaGreatDoor
open Go.RowKit Go.Chalk
theorem lin_open {w:World} {F:Nat->Prop} {x:Lin} {cs:List Value} (h:DAt w F x.toD cs) :
  ∃ a1 b1 o1 cap1 a2 b2 o2 cap2,cs=[.slice a1 x.c.length cap1,.slice a2 x.l.length cap2,.int .i64 x.least]/\SlAt F a1 b1 o1 x.c.length/\SlAt F a2 b2 o2 x.l.length/\x.c.length<=maxLen/\x.l.length<=maxLen /\
   (∀ (i:Nat) (h:i<x.c.length),w.cell? ⟨b1,o1+i,none⟩=some (.int .i64 x.c[i]))/\(∀ (i:Nat) (h:i<x.l.length),w.cell? ⟨b2,o2+i,none⟩=some (.int .i64 x.l[i])):=by
 rw [Lin.toD,DAt] at h
 simp only [DsAt] at h
 obtain ⟨c1,_,rfl,h1,c2,_,rfl,h2,c3,_,rfl,h3,rfl⟩:=h
 obtain ⟨a1,b1,o1,cap1,rfl,g1,g2,g3,g4,g5⟩:=h1.open_ints
 obtain ⟨a2,b2,o2,cap2,rfl,k1,k2,k3,k4,k5⟩:=h2.open_ints
 rw [DAt] at h3
 obtain ⟨rfl,h3⟩:=h3
 exact ⟨a1,b1,o1,cap1,a2,b2,o2,cap2,rfl,g1,k1,by omega,by omega,g5,k5⟩

structure TwoB (w wr:World) (o1 o2:Obj):Prop where
 t1:wr.heap[w.heap.size]?=some o1
 t2:wr.heap[w.heap.size+1]?=some o2
 tb:Below w.heap.size w wr
theorem twob_start (w:World) (o1 o2:Obj):TwoB w ((w.alloc o1).alloc o2) o1 o2:=by
 have g:∀ (w:World) (o:Obj) (k:Nat),(w.alloc o).heap[k]?=if k=w.heap.size then some o else w.heap[k]?:=fun w o k=>by show (w.heap.push o)[k]?=_;rw [Array.getElem?_push]
 refine ⟨?_,?_,((Below.refl _ _).alloc (Nat.le_refl _) _).alloc (by simp) _⟩
 ·simp only [g,World.size_alloc];rw [if_neg (by omega),if_pos trivial]
 ·simp only [g,World.size_alloc];rw [if_pos trivial]
theorem below_drewN {B:Nat} {w w':World} (h:Below B w w') (n:Nat):Below B w (w'.drewN n):=⟨h.os,h.tape,h.output,h.size,h.block⟩

theorem same_eq (x:Lin) (u1 u2 u3 v1 v2 v3:Value) (w:World) (h1:DAt w (·<w.heap.size) x.toD [u1,u2,u3]) (h2:DAt w (·<w.heap.size) x.toD [v1,v2,v3]) :
  Calls Tryz.prog 141 #[.agg #[u1,u2,u3],.agg #[v1,v2,v3]] w fun e w'=>e=.returned (.bool true)/\Below w.heap.size w w':=by
 obtain ⟨a1,b1,o1,cap1,a2,b2,o2,cap2,he,s1,s2,m1,m2,c1,c2⟩:=lin_open h1
 obtain ⟨a3,b3,o3,cap3,a4,b4,o4,cap4,he2,s3,s4,_,_,c3,c4⟩:=lin_open h2
 simp only [List.cons.injEq,and_true] at he he2
 obtain ⟨rfl,rfl,rfl⟩:=he
 obtain ⟨rfl,rfl,rfl⟩:=he2
 unfold maxLen at m1 m2
 have HC1:=Lh c1
 have HC2:=Lh c2
 have HC3:=Lh c3
 have HC4:=Lh c4
 have HS1:=Lh s1
 have HS2:=Lh s2
 have HS3:=Lh s3
 have HS4:=Lh s4
 clear c1 c2 c3 c4 s1 s2 s3 s4 h1 h2
 have hbw:Below w.heap.size w ((w.alloc (.cells #[.slice a1 x.c.length cap1,.slice a2 x.l.length cap2,.int .i64 x.least] 139)).alloc (.cells #[.slice a3 x.c.length cap3,.slice a4 x.l.length cap4,.int .i64 x.least] 139)):=((Below.refl _ _).alloc (Nat.le_refl _) _).alloc (by simp) _
 have HBW:=Lh hbw
 clear hbw
 have z1:((x.c.length:Int) != (x.c.length:Int))=false:=by simp
 have z2:((x.l.length:Int) != (x.l.length:Int))=false:=by simp
 have z3:(x.least != x.least)=false:=by simp
 go_enter Tryz.func141,Tryz.ntmps141
 go_wp2_with fail
 go_loopw [5] (fun i wr=>∃ j:Nat,i=.int .i64 j/\j<=x.c.length/\TwoB w wr (.cells #[.slice a1 x.c.length cap1,.slice a2 x.l.length cap2,.int .i64 x.least] 139) (.cells #[.slice a3 x.c.length cap3,.slice a4 x.l.length cap4,.int .i64 x.least] 139)) (fun i _=>x.c.length - (intOf i).toNat)
 case atStart=>exact ⟨0,rfl,Nat.zero_le _,twob_start _ _ _⟩
 case round =>
  obtain ⟨j,rfl,hj,T⟩:=hrel
  obtain ⟨t1,t2,tb⟩:=T
  have q0:wr.cell? ⟨w.heap.size,0,none⟩=some (.slice a1 x.c.length cap1):=cH t1 rfl
  have q1:wr.cell? ⟨w.heap.size,1,none⟩=some (.slice a2 x.l.length cap2):=cH t1 rfl
  have q2:wr.cell? ⟨w.heap.size+1,0,none⟩=some (.slice a3 x.c.length cap3):=cH t2 rfl
  have q3:wr.cell? ⟨w.heap.size+1,1,none⟩=some (.slice a4 x.l.length cap4):=cH t2 rfl
  have HT1:=Lh t1
  have HT2:=Lh t2
  have HTB:=Lh tb
  clear t1 t2 tb
  by_cases hlt:j<x.c.length
  ·obtain ⟨rfl,g1⟩:=HS1.out (by omega)
   obtain ⟨rfl,g2⟩:=HS3.out (by omega)
   have e1:=(HTB.out.cell (p:=⟨b1,o1+j,none⟩) g1).trans (HC1.out j hlt)
   have e2:=(HTB.out.cell (p:=⟨b3,o3+j,none⟩) g2).trans (HC3.out j hlt)
   generalize hy:x.c[j]=y at e1 e2
   clear hy
   have z4:(y != y)=false:=by simp
   have i1:(0:Int)<=(j:Int):=by omega
   have i2:(j:Int)<(x.c.length:Int):=by omega
   go_wp2_with fail
   go_quiet (fail)
   go_wp2_with fail
   go_roundw
   case rel=>exact ⟨j+1,by go_num,by omega,HT1.out,HT2.out,below_drewN HTB.out _⟩
   case measure=>simp [intOf];omega
  ·obtain ⟨wo,rfl⟩:∃ wo:World,wo=wr:=⟨_,rfl⟩
   go_wp2_with fail
   clear q0 q1 q2 q3
   go_loopw [6] (fun i wr=>∃ j:Nat,i=.int .i64 j/\j<=x.l.length/\TwoB w wr (.cells #[.slice a1 x.c.length cap1,.slice a2 x.l.length cap2,.int .i64 x.least] 139) (.cells #[.slice a3 x.c.length cap3,.slice a4 x.l.length cap4,.int .i64 x.least] 139)) (fun i _=>x.l.length - (intOf i).toNat)
   case atStart=>exact ⟨0,rfl,Nat.zero_le _,⟨HT1.out,HT2.out,HTB.out⟩⟩
   case round =>
    obtain ⟨j,rfl,hj,T⟩:=hrel
    obtain ⟨t1,t2,tb⟩:=T
    have q0:wr.cell? ⟨w.heap.size,0,none⟩=some (.slice a1 x.c.length cap1):=cH t1 rfl
    have q1:wr.cell? ⟨w.heap.size,1,none⟩=some (.slice a2 x.l.length cap2):=cH t1 rfl
    have q2:wr.cell? ⟨w.heap.size+1,0,none⟩=some (.slice a3 x.c.length cap3):=cH t2 rfl
    have q3:wr.cell? ⟨w.heap.size+1,1,none⟩=some (.slice a4 x.l.length cap4):=cH t2 rfl
    have HT1:=Lh t1
    have HT2:=Lh t2
    have HTB:=Lh tb
    clear t1 t2 tb
    by_cases hlt:j<x.l.length
    ·obtain ⟨rfl,g1⟩:=HS2.out (by omega)
     obtain ⟨rfl,g2⟩:=HS4.out (by omega)
     have e1:=(HTB.out.cell (p:=⟨b2,o2+j,none⟩) g1).trans (HC2.out j hlt)
     have e2:=(HTB.out.cell (p:=⟨b4,o4+j,none⟩) g2).trans (HC4.out j hlt)
     generalize hy:x.l[j]=y at e1 e2
     clear hy
     have z4:(y != y)=false:=by simp
     have i1:(0:Int)<=(j:Int):=by omega
     have i2:(j:Int)<(x.l.length:Int):=by omega
     go_wp2_with fail
     go_quiet (fail)
     go_wp2_with fail
     go_roundw
     case rel=>exact ⟨j+1,by go_num,by omega,HT1.out,HT2.out,below_drewN HTB.out _⟩
     case measure=>simp [intOf];omega
    ·go_wp2_with fail
     go_ret
     exact ⟨rfl,HTB.out⟩

theorem lins_open {w:World} {F:Nat->Prop} {ls:List Lin} {cs:List Value} (h:DAt w F (.sl (ls.map Lin.toD)) cs) :
  ∃ a b o cap,cs=[.slice a ls.length cap]/\SlAt F a b o ls.length/\ls.length<=maxLen /\
   ∀ (i:Nat) (h:i<ls.length),∃ a1 n1 k1 a2 n2 k2 z,w.cell? ⟨b,o+i*3,none⟩=some (.slice a1 n1 k1)/\w.cell? ⟨b,o+i*3+1,none⟩=some (.slice a2 n2 k2)/\w.cell? ⟨b,o+i*3+2,none⟩=some (.int .i64 z)/\DAt w F (ls[i]).toD [.slice a1 n1 k1,.slice a2 n2 k2,.int .i64 z]:=by
 rw [DAt] at h
 obtain ⟨a,b,o,cap,rfl,h1,h2,h3,h4⟩:=h
 rw [List.length_map] at h1 h2
 refine ⟨a,b,o,cap,by rw [List.length_map],h1,by omega,fun i hi=>?_⟩
 obtain ⟨cs,g1,g2⟩:=h4.get (sz:=3) (fun x hx=>by obtain ⟨y,_,rfl⟩:=List.mem_map.1 hx;exact y.width) i (by simpa using hi)
 have e:(ls.map Lin.toD)[i]'(by simpa using hi)=(ls[i]).toD:=by simp
 rw [e] at g1
 obtain ⟨a1,_,_,k1,a2,_,_,k2,rfl,_⟩:=lin_open g1
 exact ⟨a1,_,k1,a2,_,k2,_,g2 0 (by simp),g2 1 (by simp),g2 2 (by simp),g1⟩

theorem sameall_eq (ls:List Lin) (v1 v2:Value) (w:World) (h1:DAt w (·<w.heap.size) (.sl (ls.map Lin.toD)) [v1]) (h2:DAt w (·<w.heap.size) (.sl (ls.map Lin.toD)) [v2]) :
  Calls Tryz.prog 76 #[v1,v2] w fun e w'=>e=.returned (.bool true)/\Below w.heap.size w w':=by
 obtain ⟨a,b,o,cap,he,hs,hm,hc⟩:=lins_open h1
 obtain ⟨a',b',o',cap',he',hs',_,hc'⟩:=lins_open h2
 simp only [List.cons.injEq,and_true] at he he'
 subst he he'
 unfold maxLen at hm
 have HC:=Lh hc
 have HC':=Lh hc'
 have HS:=Lh hs
 have HS':=Lh hs'
 clear hc hc' hs hs' h1 h2
 have z1:((ls.length:Int) != (ls.length:Int))=false:=by simp
 go_enter Tryz.func76,Tryz.ntmps76
 go_wp2_with fail
 go_loopw [13,5] (fun i _ wr=>∃ j:Nat,i=.int .i64 j/\j<=ls.length/\Below w.heap.size w wr) (fun i _ _=>ls.length - (intOf i).toNat)
 case atStart=>exact ⟨0,rfl,Nat.zero_le _,Below.refl _ _⟩
 case round =>
  obtain ⟨j,rfl,hj,hb⟩:=hrel
  by_cases hlt:j<ls.length
  ·obtain ⟨rfl,g1⟩:=HS.out (by omega)
   obtain ⟨rfl,g2⟩:=HS'.out (by omega)
   obtain ⟨a1,n1,k1,a2,n2,k2,y,c1,c2,c3,c4⟩:=HC.out j hlt
   obtain ⟨a3,n3,k3,a4,n4,k4,y',d1,d2,d3,d4⟩:=HC'.out j hlt
   have e1:=(hb.cell (p:=⟨b,o+j*3,none⟩) g1).trans c1
   have e2:=(hb.cell (p:=⟨b,o+j*3+1,none⟩) g1).trans c2
   have e3:=(hb.cell (p:=⟨b,o+j*3+2,none⟩) g1).trans c3
   have f1:=(hb.cell (p:=⟨b',o'+j*3,none⟩) g2).trans d1
   have f2:=(hb.cell (p:=⟨b',o'+j*3+1,none⟩) g2).trans d2
   have f3:=(hb.cell (p:=⟨b',o'+j*3+2,none⟩) g2).trans d3
   have hs:=hb.size
   have HD1:Hid (DAt wr.drew (·<wr.drew.heap.size) (ls[j]).toD [.slice a1 n1 k1,.slice a2 n2 k2,.int .i64 y]):=DAt.mono (fun k (hk:k<w.heap.size)=>by show k<wr.heap.size;omega) _ _ (DAt.agree (w':=wr.drew) (fun k hk=>hb.block k hk) _ _ c4)
   have HD2:Hid (DAt wr.drew (·<wr.drew.heap.size) (ls[j]).toD [.slice a3 n3 k3,.slice a4 n4 k4,.int .i64 y']):=DAt.mono (fun k (hk:k<w.heap.size)=>by show k<wr.heap.size;omega) _ _ (DAt.agree (w':=wr.drew) (fun k hk=>hb.block k hk) _ _ d4)
   have HB:=Lh hb
   clear c1 c2 c3 c4 d1 d2 d3 d4 hb hs
   have i1:(0:Int)<=(j:Int):=by omega
   have i2:(j:Int)<(ls.length:Int):=by omega
   go_wp2_with fail
   go_region_law (go_simp;go_at_call 141;(with_reducible refine (same_eq ls[j] _ _ _ _ _ _ _ HD1.out HD2.out).mono ?_);rintro e w2 ⟨rfl,hb2⟩;have HB2:=Lh hb2;clear hb2)
   all_goals
    go_wp2_with fail
    go_roundw
    case rel=>exact ⟨j+1,by go_num,by omega,HB.out.trans ((⟨HB2.out.os,HB2.out.tape,HB2.out.output,HB2.out.size,HB2.out.block⟩:Below wr.heap.size wr w2).mono HB.out.size)⟩
    case measure=>simp [intOf];omega
  ·go_wp2_with fail
   go_ret
   exact ⟨rfl,hb⟩

end Go.Proofs.YtjjkfgjnadaheaaGreatDoor
