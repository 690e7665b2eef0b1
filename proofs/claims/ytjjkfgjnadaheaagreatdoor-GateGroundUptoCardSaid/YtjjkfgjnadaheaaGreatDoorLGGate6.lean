/- Joined texts: XFind. -/
import Derived.Test.YtjjkfgjnadaheaaGreatDoorLGGate2
import Derived.Test.YtjjkfgjnadaheaaGreatDoorChecked
import Derived.Shelf.Abstract
set_option maxHeartbeats 1000000
set_option maxRecDepth 100000
set_option linter.unusedVariables false
set_option linter.unusedSimpArgs false
/- slices.IndexFunc and slices.ContainsFunc over trees, with whatever function; gate.wide. -/
namespace Go.Proofs.YtjjkfgjnadaheaaGreatDoor
open Go.RowKit Go.Chalk
def findT (p:Tr->Bool) (l:List Tr):Int:=match l.findIdx? p with | some i=>i | none => -1

theorem TreesIn.later {w w':World} {l:List Tr} {b o B C:Nat} {a:Option Addr} (h:TreesIn w (·<B) l b o) (hs:SlAt (·<B) a b o l.length) (hb:Below B w w') (hC:B<=C):TreesIn w' (·<C) l b o:=fun i hi=>by
 obtain ⟨k0,k1,k2,a',n',cap',g0,g1,g2,g3,g4⟩:=TreesIn.at h hb (hs (by omega)).2 i hi
 exact ⟨k0,k1,k2,a',n',cap',g0,g1,g2,g3,(g4.agree (agree_of_below hb)).mono (fun k hk=>Nat.lt_of_lt_of_le hk hC)⟩

def PredAt (f:FuncId) (lb:Array Value) (p:Tr->Bool) (w:World) (l:List Tr) (b o:Nat):Prop :=
 ∀ (j:Nat) (hj:j<l.length) (W:World),Below w.heap.size w W->∀ (k0 k1 k2:Int) (a:Option Addr) (n cap:Nat),TreeV W (·<w.heap.size) l[j] (.agg #[.int .i64 k0,.int .i64 k1,.int .i64 k2,.slice a n cap]) ->
  Calls Tryz.prog f (#[.agg #[.int .i64 k0,.int .i64 k1,.int .i64 k2,.slice a n cap]]++lb) W fun e w'=>e=.returned (.bool (p l[j]))/\Below W.heap.size W w'

theorem indexFunc_any (f:FuncId) (lb:Array Value) (p:Tr->Bool) (l:List Tr) (a:Option Addr) (b o cap:Nat) (w:World) (hsl:SlAt (·<w.heap.size) a b o l.length) (hin:TreesIn w (·<w.heap.size) l b o) (hp:PredAt f lb p w l b o)
  (hent:∀ (args:Array Value) (w:World),(callFunc f args).run Tryz.prog w=.ok (.enter f args) w) (hmax:l.length<=2000000) :
  Calls Tryz.prog 235 #[.slice a l.length cap,.func (.func f) #[] lb] w fun e w'=>e=.returned (.int .i64 (findT p l))/\Below w.heap.size w w':=by
 have HIN:=Lh hin
 have HP:=Lh hp
 clear hin hp
 go_enter Tryz.func235,Tryz.ntmps235
 go_wp2_with fail
 go_loopw [8,5] (fun i _ wr=>∃ j:Nat,j<=l.length/\i=.int .i64 j/\Hid ((l.take j).findIdx? p=none)/\Below w.heap.size w wr) (fun i _ _=>l.length - (intOf i).toNat)
 case atStart=>exact ⟨0,Nat.zero_le _,rfl,by simp [Hid],Below.refl _ _⟩
 case round =>
  obtain ⟨j,hj,rfl,HF,hb⟩:=hrel
  have hbs:=hb.size
  by_cases hlt:j<l.length
  ·obtain ⟨rfl,hbl⟩:=hsl (by omega)
   obtain ⟨k0,k1,k2,a1,n1,cap1,e0,e1,e2,e3,htj⟩:=TreesIn.at HIN.out hb hbl j hlt
   have hcall:=HP.out j hlt wr hb k0 k1 k2 a1 n1 cap1 (htj.agree (agree_of_below hb))
   have HC:=Lh hcall
   have hnext:(l.take (j+1)).findIdx? p=if p l[j] then some j else none:=by
    rw [List.take_succ_eq_append_getElem hlt,List.findIdx?_append,HF.out]
    simp [List.findIdx?_cons,Nat.min_eq_left hj]
   have hfound:p l[j]=true->findT p l=j:=fun h=>by
    have:l.findIdx? p=some j:=by
     rw [List.findIdx?_eq_some_iff_getElem]
     refine ⟨hlt,h,fun k hk=>?_⟩
     have h0:=HF.out
     rw [List.findIdx?_eq_none_iff] at h0
     have:=h0 l[k] (List.mem_take_iff_getElem.2 ⟨k,by omega,rfl⟩)
     simpa using this
    simp [findT,this]
   have HN:=Lh (aI hnext hfound)
   clear hcall hnext hfound htj
   go_wp2_with fail
   refine HC.out.mono ?_
   rintro e w' ⟨rfl,hb'⟩
   have hbb:=hb.trans (hb'.mono hbs)
   obtain ⟨hnext,hfound⟩:=HN.out
   generalize p l[j]=r at hnext hfound ⊢
   have HN2:=Lh (aI hnext hfound)
   clear hnext hfound
   cases r
   ·go_wp2_with fail
    exact ⟨⟨j+1,by omega,by go_num,by have:=HN2.out.1;simpa [Hid] using this,hbb⟩,by simp [intOf];omega⟩
   ·go_wp2_with fail
    go_ret
    exact ⟨ret_int (HN2.out.2 (by first | rfl | trivial)).symm,hbb⟩
  ·go_wp2_with fail
   go_ret
   have h0:=HF.out
   rw [List.take_of_length_le (by omega)] at h0
   exact ⟨ret_int (by simp [findT,h0]),hb⟩

theorem findT_any (p:Tr->Bool) (l:List Tr):(decide (findT p l ≥ 0))=l.any p:=by
 unfold findT
 cases h:l.findIdx? p with
 | none =>
  rw [List.findIdx?_eq_none_iff] at h
  simp only [show ((-1:Int) ≥ 0)=False from by simp,decide_false]
  exact (List.any_eq_false.2 (fun x hx=>by simp [h x hx])).symm
 | some i =>
  rw [List.findIdx?_eq_some_iff_getElem] at h
  obtain ⟨hi,hp,_⟩:=h
  simp only [show ((i:Int) ≥ 0)=True from by simp,decide_true]
  exact (List.any_eq_true.2 ⟨l[i],List.getElem_mem hi,hp⟩).symm

theorem containsFunc_any (f:FuncId) (lb:Array Value) (p:Tr->Bool) (l:List Tr) (a:Option Addr) (b o cap:Nat) (w:World) (hsl:SlAt (·<w.heap.size) a b o l.length) (hin:TreesIn w (·<w.heap.size) l b o) (hp:PredAt f lb p w l b o)
  (hent:∀ (args:Array Value) (w:World),(callFunc f args).run Tryz.prog w=.ok (.enter f args) w) (hmax:l.length<=2000000) :
  Calls Tryz.prog 204 #[.slice a l.length cap,.func (.func f) #[] lb] w fun e w'=>e=.returned (.bool (l.any p))/\Below w.heap.size w w':=by
 have HI:=Lh (indexFunc_any f lb p l a b o cap w hsl hin hp hent hmax)
 clear hsl hin hp hent
 have HF:=Lh (findT_any p l)
 go_enter Tryz.func204,Tryz.ntmps204
 go_wp2_with fail
 refine HI.out.mono ?_
 rintro e w' ⟨rfl,hb⟩
 go_wp2_with fail
 go_ret
 exact ⟨ret_bool HF.out,hb⟩

theorem wide_any (n:Nat):∀ (t:Tr) (x:Value) (w:World),t.size<=n->t.size<=2000000->TreeV w (·<w.heap.size) t x ->
  Calls Tryz.prog 145 #[x] w fun e w'=>e=.returned (.bool (wideB t))/\Below w.heap.size w w':=by
 induction n with
 | zero=>intro t _ _ h;have:=size_pos t;omega
 | succ n ih =>
  intro t x w hn hs ht
  obtain ⟨kind,v,k,l⟩:=t
  obtain ⟨a,b,o,cap,rfl,hsl,_,_,_,_,_,hl⟩:=ht.open
  rw [Tr.size] at hn hs
  have hll:=length_le_sizes l
  rw [wideB,wideAny_eq]
  by_cases hbig:4095<l.length
  ·have hb1:(4095:Int)<(l.length:Int):=by omega
   rw [decide_eq_true hbig,Bool.true_or]
   clear hl ih ht
   go_enter Tryz.func145,Tryz.ntmps145
   go_wp2_with fail
   go_ret
   exact ⟨rfl,(Below.refl _ _).alloc (Nat.le_refl _) _⟩
  ·have hb1:decide ((4095:Int)<(l.length:Int))=false:=by simp;omega
   rw [decide_eq_false hbig,Bool.false_or]
   have hba:Below w.heap.size w (w.alloc (.cells #[.int .i64 kind,.int .i64 v,.int .i64 k,.slice a l.length cap] 39)):=(Below.refl _ _).alloc (Nat.le_refl _) _
   have hc:=containsFunc_any 145 #[] wideB l a b o cap (w.alloc (.cells #[.int .i64 kind,.int .i64 v,.int .i64 k,.slice a l.length cap] 39)) (hsl.mono (fun k hk=>by simp;omega)) (TreesIn.later (w:=w) hl hsl hba (by simp)) (fun j hj W hW k0 k1 k2 a1 n1 cap1 htj=>by
    have h1:=size_le_sizes l j hj
    exact ih l[j] _ W (by omega) (by omega) (htj.mono (fun k hk=>Nat.lt_of_lt_of_le hk hW.size))) (enters_of Tryz.func145 (by kernel_rfl) rfl) (by omega)
   have HC:=Lh hc
   clear hl ih ht hc
   go_enter Tryz.func145,Tryz.ntmps145
   go_wp2_with fail
   refine HC.out.mono ?_
   rintro e w' ⟨rfl,hb⟩
   go_wp2_with fail
   go_ret
   exact ⟨rfl,Below.ahead hb (by simp)⟩

end Go.Proofs.YtjjkfgjnadaheaaGreatDoor
