/- Joined texts: XFlatRef, XMay. -/
import Derived.Test.YtjjkfgjnadaheaaGreatDoorLGGate2
import Derived.Test.YtjjkfgjnadaheaaGreatDoorChecked
set_option maxHeartbeats 400000
set_option linter.unusedVariables false
set_option linter.unusedSimpArgs false
/- The reference's Size, may, Check, broad: each answers as its Lean function. -/
namespace Go.Proofs.YtjjkfgjnadaheaaGreatDoor
open Go.RowKit Go.Chalk
theorem size_anyX (n:Nat):∀ (t:Tr) (x:Value) (w:World),t.size<=n->t.size<=2000000->TreeV w (·<w.heap.size) t x ->
  Calls Tryz.prog 28 #[x] w fun e w'=>e=.returned (.int .i64 t.size)/\Below w.heap.size w w':=by
 induction n with
 | zero=>intro t _ _ h;have:=size_pos t;omega
 | succ n ih =>
  intro t x w hn hs ht
  obtain ⟨kind,v,k,l⟩:=t
  obtain ⟨a,b,o,cap,rfl,hsl,_,_,_,_,_,hl⟩:=ht.open
  rw [Tr.size] at hn hs ⊢
  have hll:=length_le_sizes l
  have IH:=Lh ih
  have HL:=Lh hl
  clear ih hl ht
  go_enter Tryz.func28,Tryz.ntmps28
  go_wp2_with fail
  go_loopw [3,4] (fun s i wr=>∃ j:Nat,j<=l.length/\i=.int .i64 j/\s=.int .i64 (1+sizes (l.take j):Nat)/\Below w.heap.size w wr/\w.heap.size<wr.heap.size/\wr.cell? ⟨w.heap.size,3,none⟩=some (.slice a l.length cap)) (fun _ i _=>l.length - (intOf i).toNat)
  case atStart =>
   exact ⟨0,Nat.zero_le _,rfl,rfl,(Below.refl _ _).alloc (Nat.le_refl _) _,by simp,by simp [go_sem]⟩
  case round =>
   obtain ⟨j,hj,rfl,rfl,hb,hz,hc⟩:=hrel
   have hst:=sizes_take_le l j
   by_cases hlt:j<l.length
   ·obtain ⟨rfl,hbl⟩:=hsl (by omega)
    obtain ⟨k0,k1,k2,a1,n1,cap1,e0,e1,e2,e3,htj⟩:=TreesIn.at HL.out hb hbl j hlt
    have hs1:=size_le_sizes l j hlt
    have hs2:=sizes_take_le l (j+1)
    have HS:=Lh (sizes_take_succ l j hlt)
    have hs3:=sizes_take_succ l j hlt
    go_wp2_with fail
    refine (IH.out _ _ _ (by omega) (by omega) (htj.later hb (by omega))).mono ?_
    rintro e w' ⟨rfl,hb'⟩
    have hc':=(hb'.cell (p:=⟨w.heap.size,3,none⟩) hz).trans hc
    go_wp2_with fail
    refine ⟨⟨j+1,by omega,by go_num,?_,hb.trans (hb'.mono (by omega)),by have:=hb'.size;omega,hc'⟩,by simp [intOf];omega⟩
    rw [HS.out];go_num
   ·go_wp2_with fail
    go_ret
    exact ⟨by rw [List.take_of_length_le (by omega)];first | rfl | go_num,hb⟩

end Go.Proofs.YtjjkfgjnadaheaaGreatDoor
/- The reference's may: it answers as its Lean function. -/
namespace Go.Proofs.YtjjkfgjnadaheaaGreatDoor
open Go.RowKit Go.Chalk
end Go.Proofs.YtjjkfgjnadaheaaGreatDoor
