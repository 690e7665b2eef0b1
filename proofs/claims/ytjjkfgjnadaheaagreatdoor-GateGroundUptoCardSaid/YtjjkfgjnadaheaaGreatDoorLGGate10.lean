/- Joined texts: LinCheck, Bools, XFitsLaw. -/
import Derived.Test.YtjjkfgjnadaheaaGreatDoorLGGate4
import Derived.Test.YtjjkfgjnadaheaaGreatDoorChecked
import Derived.Shelf.Abstract
import Derived.WalkLawsBesides
import Derived.Test.YtjjkfgjnadaheaaGreatDoorLGGate2
set_option maxHeartbeats 1000000
set_option maxRecDepth 100000
set_option linter.unusedVariables false
set_option linter.unusedSimpArgs false
/- lin.Check of a constraint that is well-formed. -/
namespace Go.Chalk
structure LinOk (s:Lin) (n:Int):Prop where
 len:s.c.length=s.l.length
 most:s.l.length<=4096
 least : -1099511627776<=s.least/\s.least<=1099511627776
 cs:∀ c∈s.c,-1099511627776<=c/\c<=1099511627776
 ls:∀ l∈s.l,l ≠ 0/\l<=n /\ -n<=l
end Go.Chalk
namespace Go.Proofs.YtjjkfgjnadaheaaGreatDoor
open Go.RowKit Go.Chalk
def NoneAt (f:FuncId) (lb:Array Value) (w:World) (xs:List Int):Prop :=
 ∀ (j:Nat) (hj:j<xs.length) (W:World),Below w.heap.size w W->Calls Tryz.prog f (#[.int .i64 xs[j]]++lb) W fun e w'=>e=.returned (.bool false)/\Below W.heap.size W w'

theorem indexInts_none (f:FuncId) (lb:Array Value) (xs:List Int) (a:Option Addr) (b o cap:Nat) (w:World) (hsl:SlAt (·<w.heap.size) a b o xs.length) (hin:∀ (i:Nat) (h:i<xs.length),w.cell? ⟨b,o+i,none⟩=some (.int .i64 xs[i])) (hp:NoneAt f lb w xs)
  (hent:∀ (args:Array Value) (w:World),(callFunc f args).run Tryz.prog w=.ok (.enter f args) w) (hmax:xs.length<=2000000) :
  Calls Tryz.prog 261 #[.slice a xs.length cap,.func (.func f) #[] lb] w fun e w'=>e=.returned (.int .i64 (-1))/\Below w.heap.size w w':=by
 have HIN:=Lh hin
 have HP:=Lh hp
 clear hin hp
 go_enter Tryz.func261,Tryz.ntmps261
 go_wp2_with fail
 go_loopw [8,5] (fun i _ wr=>∃ j:Nat,j<=xs.length/\i=.int .i64 j/\Below w.heap.size w wr) (fun i _ _=>xs.length - (intOf i).toNat)
 case atStart=>exact ⟨0,Nat.zero_le _,rfl,Below.refl _ _⟩
 case round =>
  obtain ⟨j,hj,rfl,hb⟩:=hrel
  have hbs:=hb.size
  by_cases hlt:j<xs.length
  ·obtain ⟨rfl,hbl⟩:=hsl (by omega)
   have e0:=(hb.cell (p:=⟨b,o+j,none⟩) hbl).trans (HIN.out j hlt)
   have HC:=Lh (HP.out j hlt wr hb)
   have HB:=Lh hb
   clear hb
   go_wp2_with fail
   refine HC.out.mono ?_
   rintro e w' ⟨rfl,hb'⟩
   have HBB:=Lh (HB.out.trans (hb'.mono hbs))
   clear hb'
   go_wp2_with fail
   exact ⟨⟨j+1,by omega,by go_num,HBB.out⟩,by simp [intOf];omega⟩
  ·go_wp2_with fail
   go_ret
   exact ⟨rfl,hb⟩

theorem containsInts_none (f:FuncId) (lb:Array Value) (xs:List Int) (a:Option Addr) (b o cap:Nat) (w:World) (hsl:SlAt (·<w.heap.size) a b o xs.length) (hin:∀ (i:Nat) (h:i<xs.length),w.cell? ⟨b,o+i,none⟩=some (.int .i64 xs[i])) (hp:NoneAt f lb w xs)
  (hent:∀ (args:Array Value) (w:World),(callFunc f args).run Tryz.prog w=.ok (.enter f args) w) (hmax:xs.length<=2000000) :
  Calls Tryz.prog 240 #[.slice a xs.length cap,.func (.func f) #[] lb] w fun e w'=>e=.returned (.bool false)/\Below w.heap.size w w':=by
 have HI:=Lh (indexInts_none f lb xs a b o cap w hsl hin hp hent hmax)
 clear hsl hin hp hent
 go_enter Tryz.func240,Tryz.ntmps240
 go_wp2_with fail
 refine HI.out.mono ?_
 rintro e w' ⟨rfl,hb⟩
 go_wp2_with fail
 go_ret
 exact ⟨rfl,hb⟩

theorem within_yes (n:Int) (w:World) (h : -1099511627776<=n/\n<=1099511627776):Calls Tryz.prog 238 #[.int .i64 n] w fun e w'=>e=.returned (.bool true)/\w=w':=by
 obtain ⟨h1,h2⟩:=h
 have e1:decide ((-1099511627776:Int)<=n)=true:=by simpa using h1
 have e2:decide (n<=(1099511627776:Int))=true:=by simpa using h2
 go_enter Tryz.func238,Tryz.ntmps238
 go_wp2_with fail
 go_ret
 exact ⟨rfl,rfl⟩
theorem odd_no (n:Int) (w:World) (h : -1099511627776<=n/\n<=1099511627776):Calls Tryz.prog 237 #[.int .i64 n] w fun e w'=>e=.returned (.bool false)/\w=w':=by
 go_enter Tryz.func237,Tryz.ntmps237
 go_wp2_with fail
 refine (within_yes n _ h).mono ?_
 rintro e w' ⟨rfl,rfl⟩
 go_wp2_with fail
 go_ret
 exact ⟨rfl,rfl⟩
theorem wrong_no (l n:Int) (c:Nat) (w:World) (hn:0<=n/\n<=65536) (h:l ≠ 0/\l<=n /\ -n<=l) (hc:w.cell? ⟨c,0,none⟩=some (.int .i64 n)):Calls Tryz.prog 239 #[.int .i64 l,.pointer (some ⟨c,0,none⟩)] w fun e w'=>e=.returned (.bool false)/\w=w':=by
 obtain ⟨h1,h2,h3⟩:=h
 have e1:(l==0)=false:=by simpa using h1
 have e2:decide (n<l)=false:=by simp;omega
 have e3:decide (l < -n)=false:=by simp;omega
 go_enter Tryz.func239,Tryz.ntmps239
 go_wp2_with fail
 go_ret
 exact ⟨rfl,rfl⟩

theorem lincheck_ok (s:Lin) (u1 u2 u3:Value) (n:Int) (w:World) (hn:0<=n/\n<=65536) (h:LinOk s n) (hd:DAt w (·<w.heap.size) s.toD [u1,u2,u3]) :
  Calls Tryz.prog 206 #[.agg #[u1,u2,u3],.int .i64 n] w fun e w'=>e=.returned (.int .i64 0)/\Below w.heap.size w w':=by
 obtain ⟨a1,b1,o1,cap1,a2,b2,o2,cap2,he,s1,s2,_,_,c1,c2⟩:=lin_open hd
 simp only [List.cons.injEq,and_true] at he
 obtain ⟨rfl,rfl,rfl⟩:=he
 obtain ⟨hlen,hmost,hleast,hcs,hls⟩:=h
 have HC1:=Lh c1
 have HC2:=Lh c2
 have HS1:=Lh s1
 have HS2:=Lh s2
 have HCS:=Lh hcs
 have HLS:=Lh hls
 clear c1 c2 s1 s2 hcs hls hd
 have hmf:∀ (fn:Fn) (first cap:Array Value) (w:World),(Instr.makeFunc fn first cap).run Tryz.prog w=.ok (.func fn first cap) w:=fun _ _ _ _=>rfl
 have e1:decide (n<0)=false:=by simp;omega
 have e2:decide ((65536:Int)<n)=false:=by simp;omega
 have e3:((s.c.length:Int) != (s.l.length:Int))=false:=by simp [hlen]
 have HLEN:=Lh hlen
 clear hlen
 have HBW:Hid (Below w.heap.size w ((w.alloc (.cells #[.slice a1 s.c.length cap1,.slice a2 s.l.length cap2,.int .i64 s.least] 139)).alloc (.cells #[.int .i64 n] 3))):=((Below.refl _ _).alloc (Nat.le_refl _) _).alloc (by simp) _
 have HTW:=Lh (twob_start w (.cells #[.slice a1 s.c.length cap1,.slice a2 s.l.length cap2,.int .i64 s.least] 139) (.cells #[.int .i64 n] 3))
 go_enter Tryz.func206,Tryz.ntmps206
 go_wp2_with fail
 refine (odd_no s.least _ hleast).mono ?_
 rintro e w' ⟨rfl,rfl⟩
 go_wp2_with fail
 have hsl1:s.c.length<=4096:=by have:=HLEN.out;omega
 refine (containsInts_none 237 #[] s.c a1 b1 o1 cap1 _ (fun h=>⟨(HS1.out h).1,by have:=(HS1.out h).2;simp;omega⟩) (fun i h=>(HBW.out.cell (p:=⟨b1,o1+i,none⟩) (HS1.out (by omega)).2).trans (HC1.out i h)) (fun j hj W hb=>(odd_no _ W (HCS.out _ (List.getElem_mem hj))).mono (fun e w' ⟨he,hw⟩=>⟨he,hw ▸ Below.refl _ _⟩)) (fun _ _=>by rfl) (by omega)).mono ?_
 rintro e w1 ⟨rfl,hb1⟩
 have hB1:Below w.heap.size w w1:=HBW.out.trans (hb1.mono (by simp;omega))
 have t1:w1.heap[w.heap.size]?=some (.cells #[.slice a1 s.c.length cap1,.slice a2 s.l.length cap2,.int .i64 s.least] 139):=(hb1.block _ (by simp;omega)).trans HTW.out.t1
 have t2:w1.heap[w.heap.size+1]?=some (.cells #[.int .i64 n] 3):=(hb1.block _ (by simp)).trans HTW.out.t2
 have q1:w1.cell? ⟨w.heap.size,1,none⟩=some (.slice a2 s.l.length cap2):=cH t1 rfl
 have HB1:=Lh hB1
 have HT1:=Lh t1
 have HT2:=Lh t2
 clear hb1 t1 t2 hB1
 go_wp2_with fail
 refine (containsInts_none 239 #[.pointer (some ⟨w.heap.size+1,0,none⟩)] s.l a2 b2 o2 cap2 _ (fun h=>⟨(HS2.out h).1,by have:=(HS2.out h).2;have:=HB1.out.size;omega⟩) (fun i h=>(HB1.out.cell (p:=⟨b2,o2+i,none⟩) (HS2.out (by omega)).2).trans (HC2.out i h)) (fun j hj W hb=>(wrong_no _ n _ W hn (HLS.out _ (List.getElem_mem hj)) (cH ((hb.block _ (gS HT2.out).1).trans HT2.out) rfl)).mono (fun e w' ⟨he,hw⟩=>⟨he,hw ▸ Below.refl _ _⟩)) (fun _ _=>by rfl) (by omega)).mono ?_
 rintro e w2 ⟨rfl,hb2⟩
 have q2:w2.cell? ⟨w.heap.size,1,none⟩=some (.slice a2 s.l.length cap2):=cH ((hb2.block _ (gS HT1.out).1).trans HT1.out) rfl
 have HB2:=Lh (HB1.out.trans (hb2.mono HB1.out.size))
 clear hb2 q1
 go_wp2_with fail
 go_ret
 exact ⟨rfl,HB2.out⟩

end Go.Proofs.YtjjkfgjnadaheaaGreatDoor
/- Slices of bools; the value of a literal and of a constraint. -/
namespace Go.Chalk
open Go.RowKit
def dbools (xs:List Bool):List D:=xs.map D.bool
@[simp] theorem dbools_length (xs:List Bool):(dbools xs).length=xs.length:=by simp [dbools]
theorem dbools_append (xs ys:List Bool):dbools (xs++ys)=dbools xs++dbools ys:=by simp [dbools]
theorem dbools_widths:∀ xs:List Bool,widths (dbools xs)=xs.length
 | []=>rfl
 | x :: r=>by
  have:=dbools_widths r
  simp only [dbools,List.map_cons,widths,D.width] at this ⊢
  simp only [List.length_cons];omega
theorem DAt.open_bools {w:World} {F:Nat->Prop} {xs:List Bool} {cs:List Value} (h:DAt w F (.sl (dbools xs)) cs) :
  ∃ a b o cap,cs=[.slice a xs.length cap]/\SlAt F a b o xs.length/\xs.length<=cap/\cap<=maxLen/\∀ (i:Nat) (h:i<xs.length),w.cell? ⟨b,o+i,none⟩=some (.bool xs[i]):=by
 rw [DAt] at h
 obtain ⟨a,b,o,cap,rfl,h1,h2,h3,h4⟩:=h
 rw [dbools_length] at h1 h2
 refine ⟨a,b,o,cap,by rw [dbools_length],h1,h2,h3,fun i hi=>?_⟩
 obtain ⟨cs,g1,g2⟩:=h4.get (sz:=1) (fun x hx=>by simp only [dbools,List.mem_map] at hx;obtain ⟨y,_,rfl⟩:=hx;rfl) i (by simpa using hi)
 have e:(dbools xs)[i]'(by simpa using hi)=.bool xs[i]:=by simp [dbools]
 rw [e,DAt] at g1
 subst g1
 simpa using g2 0 (by simp)
theorem DsAt.bools {w:World} {F:Nat->Prop}:∀ {xs:List Bool},DsAt w F (dbools xs) (xs.map Value.bool)
 | []=>by rw [dbools,List.map_nil,DsAt];rfl
 | x :: r=>by rw [dbools,List.map_cons,DsAt];exact ⟨[.bool x],r.map Value.bool,rfl,by rw [DAt],DsAt.bools⟩

def valB (a:List Bool) (n:Nat):Bool:=a.getD n false
def truthF (x:Int) (a:List Bool):Bool:=if x<0 then !valB a (-x).toNat else valB a x.toNat
theorem truthF_neg (x:Int) (h:0<x) (a:List Bool):truthF (-x) a = !truthF x a:=by
 unfold truthF
 rw [if_pos (by omega),if_neg (by omega)];simp
def sumB (a:List Bool):List Int->List Int->Int
 | c :: cs,l :: ls=>(if truthF l a then c else 0)+sumB a cs ls
 | _,_=>0
def linV (s:Lin) (a:List Bool):Bool:=decide (s.least<=sumB a s.c s.l)
def linsV (l:List Lin) (a:List Bool):Bool:=l.all (linV · a)

theorem sumB_snoc (a:List Bool):∀ (cs ls:List Int) (c l:Int),cs.length=ls.length->sumB a (cs++[c]) (ls++[l])=sumB a cs ls+if truthF l a then c else 0
 | [],[],c,l,_=>by simp [sumB]
 | x :: cs,y :: ls,c,l,h=>by
  simp only [List.cons_append,sumB]
  rw [sumB_snoc a cs ls c l (by simpa using h)];omega
theorem sumB_bound (a:List Bool):∀ (cs ls:List Int),(∀ c∈cs,-1099511627776<=c/\c<=1099511627776) -> -1099511627776*(cs.length:Int)<=sumB a cs ls/\sumB a cs ls<=1099511627776*(cs.length:Int)
 | [],_,_=>by simp [sumB]
 | c :: cs,[],h=>by simp only [sumB,List.length_cons];constructor <;> omega
 | c :: cs,l :: ls,h=>by
  have h1:=sumB_bound a cs ls (fun x hx=>h x (by simp [hx]))
  have h2:=h c (by simp)
  simp only [sumB,List.length_cons]
  split <;> constructor <;> omega

end Go.Chalk
namespace Go.Proofs.YtjjkfgjnadaheaaGreatDoor
open Go.RowKit Go.Chalk
theorem valB_lt {a:List Bool} {n:Nat} (h:n<a.length):valB a n=a[n]:=by unfold valB;simp [h]
theorem valB_ge {a:List Bool} {n:Nat} (h:¬ n<a.length):valB a n=false:=by unfold valB;rw [List.getD_eq_getElem?_getD,List.getElem?_eq_none (by omega)];rfl

theorem truth_pos (x:Int) (xs:List Bool) (v:Value) (w:World) (hx:0<=x/\x<=1000000000) (hd:DAt w (·<w.heap.size) (.sl (dbools xs)) [v]) :
  Calls Tryz.prog 32 #[.int .i64 x,v] w fun e w'=>e=.returned (.bool (truthF x xs))/\w=w':=by
 obtain ⟨a,b,o,cap,he,hs,hl,hm,hc⟩:=hd.open_bools
 simp only [List.cons.injEq,and_true] at he
 subst he
 obtain ⟨n,rfl⟩:=Int.eq_ofNat_of_zero_le hx.1
 have ht:truthF (n:Int) xs=valB xs n:=by unfold truthF;rw [if_neg (by omega)];simp
 rw [ht]
 unfold maxLen at hm
 by_cases hlt:n<xs.length
 ·obtain ⟨rfl,hbl⟩:=hs (by omega)
  rw [valB_lt hlt]
  have e0:=hc n hlt
  have e1:decide ((n:Int)<(xs.length:Int))=true:=by simp;omega
  have e2:decide (n<xs.length)=true:=by simp;omega
  have e3:¬ ((n:Int)<0):=by omega
  clear hc hs hd ht
  go_enter Tryz.func32,Tryz.ntmps32
  go_wp2_with fail
  go_ret
  exact ⟨rfl,rfl⟩
 ·rw [valB_ge hlt]
  have e1:decide ((n:Int)<(xs.length:Int))=false:=by simp;omega
  have e2:decide (n<xs.length)=false:=by simp;omega
  have e3:¬ ((n:Int)<0):=by omega
  clear hc hs hd ht
  go_enter Tryz.func32,Tryz.ntmps32
  go_wp2_with fail
  go_ret
  exact ⟨rfl,rfl⟩

theorem truth_any (x:Int) (xs:List Bool) (v:Value) (w:World) (hx : -1000000000<=x/\x<=1000000000) (hd:DAt w (·<w.heap.size) (.sl (dbools xs)) [v]) :
  Calls Tryz.prog 32 #[.int .i64 x,v] w fun e w'=>e=.returned (.bool (truthF x xs))/\w=w':=by
 by_cases h0:0<=x
 ·exact truth_pos x xs v w ⟨h0,hx.2⟩ hd
 ·have ht:truthF x xs = !truthF (-x) xs:=by have:=truthF_neg (-x) (by omega) xs;rwa [Int.neg_neg] at this
  rw [ht]
  have HD:=Lh (truth_pos (-x) xs v w (by omega) hd)
  have h0':x<0:=by omega
  clear hd ht h0
  go_enter Tryz.func32,Tryz.ntmps32
  go_wp2_with fail
  refine HD.out.mono ?_
  rintro e w' ⟨rfl,rfl⟩
  go_wp2_with fail
  go_ret
  exact ⟨rfl,rfl⟩

end Go.Proofs.YtjjkfgjnadaheaaGreatDoor
/- The constraints of an encoding are well-formed; how many variables it takes. -/
namespace Go.Chalk
open Go.RowKit
theorem LinOk.mono {s:Lin} {n m:Int} (h:LinOk s n) (hm:n<=m):LinOk s m :=
 ⟨h.len,h.most,h.least,h.cs,fun l hl=>by have:=h.ls l hl;omega⟩

theorem sumsF_ok (x k:Int) (ls:List Int) (hx:1<=x) (hlen:ls.length<=4095) (hl:∀ y∈ls,y ≠ 0/\y<=x /\ -x<=y):∀ s∈sumsF x k ls,LinOk s x:=by
 unfold sumsF
 intro s hs
 split at hs
 ·simp at hs;subst hs
  exact ⟨rfl,by simp,by simp only;omega,fun c hc=>by simp at hc;omega,fun l hl=>by simp at hl;omega⟩
 ·split at hs
  ·simp at hs;subst hs
   exact ⟨rfl,by simp,by simp only;omega,fun c hc=>by simp at hc;omega,fun l hl=>by simp at hl;omega⟩
  ·rcases List.mem_cons.1 hs with rfl | hs
   ·refine ⟨by simp,by simp;omega,by simp only;omega,fun c hc=>?_,fun l hl'=>?_⟩
    ·simp only [List.mem_cons,List.mem_map] at hc
     rcases hc with rfl | ⟨_,_,rfl⟩ <;> omega
    ·rcases List.mem_cons.1 hl' with rfl | hl'
     ·omega
     ·exact hl l hl'
   ·simp at hs;subst hs
    refine ⟨by simp,by simp;omega,by simp only;omega,fun c hc=>?_,fun l hl'=>?_⟩
    ·simp only [List.mem_cons,List.mem_map] at hc
     rcases hc with rfl | ⟨_,_,rfl⟩ <;> omega
    ·simp only [List.mem_cons,List.mem_map] at hl'
     rcases hl' with rfl | ⟨y,hy,rfl⟩
     ·omega
     ·have:=hl y hy;omega

mutual
theorem litF_ok:∀ (t:Tr) (nx N:Int),mayB t N=true->1<=nx->N<nx->wideB t=false->∀ s∈(litF t nx).2.1,LinOk s ((litF t nx).2.2 - 1)
 | .mk kind v k l,nx,N,h,hnx,hN,hw=>by
  rw [mayB,Bool.and_eq_true] at h
  rw [wideB,Bool.or_eq_false_iff] at hw
  have hwl:l.length<=4095:=by have:=hw.1;simp at this;omega
  have ih:=litsF_ok l nx N h.2 hnx hN hw.2
  have hb:=litsF_bound l nx N h.2 hnx
  have hlen:=litsF_length l nx
  rw [litF]
  split
  ·simp
  ·split
   ·exact ih
   ·intro s hs
    simp only [List.mem_append] at hs ⊢
    rcases hs with hs | hs
    ·exact (ih s hs).mono (by omega)
    ·refine (sumsF_ok _ _ _ (by omega) (by omega) (fun y hy=>?_) s hs).mono (by omega)
     have:=hb.2.2 y hy
     omega
theorem litsF_ok:∀ (l:List Tr) (nx N:Int),mayAll l N=true->1<=nx->N<nx->wideAny l=false->∀ s∈(litsF l nx).2.1,LinOk s ((litsF l nx).2.2 - 1)
 | [],nx,N,_,_,_,_=>by simp [litsF]
 | t :: r,nx,N,h,hnx,hN,hw=>by
  rw [mayAll,Bool.and_eq_true] at h
  rw [wideAny,Bool.or_eq_false_iff] at hw
  have h1:=litF_ok t nx N h.1 hnx hN hw.1
  have hb:=litF_bound t nx N h.1 hnx
  have h2:=litsF_ok r (litF t nx).2.2 N h.2 (by omega) (by omega) hw.2
  have hb2:=litsF_bound r (litF t nx).2.2 N h.2 (by omega)
  rw [litsF]
  intro s hs
  simp only [List.mem_append] at hs ⊢
  rcases hs with hs | hs
  ·exact (h1 s hs).mono (by omega)
  ·exact h2 s hs
end
end Go.Chalk
namespace Go.Proofs.YtjjkfgjnadaheaaGreatDoor
open Go.RowKit Go.Chalk
end Go.Proofs.YtjjkfgjnadaheaaGreatDoor
