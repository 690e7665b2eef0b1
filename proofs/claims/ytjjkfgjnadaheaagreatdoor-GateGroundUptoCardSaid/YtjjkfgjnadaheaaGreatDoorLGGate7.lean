/- Joined texts: XSums. -/
import Derived.Test.YtjjkfgjnadaheaaGreatDoorLGGate2
import Derived.Test.YtjjkfgjnadaheaaGreatDoorChecked
import Derived.Deep.CutRange
import Derived.Deep.DeepMust
set_option linter.unusedVariables false
set_option linter.unusedSimpArgs false
/- The reference's sums: it answers the defining constraints. -/
namespace Go.Proofs.YtjjkfgjnadaheaaGreatDoor
open Go.RowKit Go.Chalk
theorem sums_info:(Tryz.prog.info? 3).map (fun i=>(i.zero,i.size,i.bytes))=some (some (.int .i64 0),1,8):=by kernel_rfl

structure Two (w0 w:World) (A B:Nat) (v1 v2 v3 v4:Value) (c1 l1 c2 l2:List Int) (k1 k2:Int):Prop where
 below:Below w0.heap.size w0 w
 hA:w0.heap.size<=A/\w0.heap.size<=B/\A ≠ B
 ex:∃ r1 r2 r3 r4,LinBox w A 139 3 v1 v2 r1 r2 c1 l1 k1/\LinBox w B 139 3 v3 v4 r3 r4 c2 l2 k2 /\
  (w0.heap.size<=r1/\w0.heap.size<=r2/\w0.heap.size<=r3/\w0.heap.size<=r4)/\(r1 ≠ r3/\r1 ≠ r4/\r2 ≠ r3/\r2 ≠ r4/\r1 ≠ B/\r2 ≠ B/\r3 ≠ A/\r4 ≠ A)
theorem Two.alloc {w0 w:World} {A B:Nat} {v1 v2 v3 v4:Value} {c1 l1 c2 l2:List Int} {k1 k2:Int} (h:Two w0 w A B v1 v2 v3 v4 c1 l1 c2 l2 k1 k2) (o:Obj):Two w0 (w.alloc o) A B v1 v2 v3 v4 c1 l1 c2 l2 k1 k2:=by
 obtain ⟨hb,hA,r1,r2,r3,r4,L1,L2,hr,hn⟩:=h
 exact ⟨hb.alloc hb.size _,hA,r1,r2,r3,r4,L1.alloc o,L2.alloc o,hr,hn⟩
theorem Two.cells {w0 w:World} {A B:Nat} {v1 v2 v3 v4:Value} {c1 l1 c2 l2:List Int} {k1 k2:Int} (h:Two w0 w A B v1 v2 v3 v4 c1 l1 c2 l2 k1 k2) :
  w.cell? ⟨A,0,none⟩=some v1/\w.cell? ⟨A,1,none⟩=some v2/\w.cell? ⟨B,0,none⟩=some v3/\w.cell? ⟨B,1,none⟩=some v4:=by
 obtain ⟨hb,hA,r1,r2,r3,r4,L1,L2,hr,hn⟩:=h
 exact ⟨L1.cells.1,L1.cells.2.1,L2.cells.1,L2.cells.2.1⟩
theorem Two.read {w0 w:World} {A B:Nat} {v1 v2 v3 v4:Value} {c1 l1 c2 l2:List Int} {k1 k2:Int} (h:Two w0 w A B v1 v2 v3 v4 c1 l1 c2 l2 k1 k2) (h1 : -9223372036854775808<=k1/\k1<=9223372036854775807) (h2 : -9223372036854775808<=k2/\k2<=9223372036854775807) :
  NewAt w0 (w.alloc (.cells #[v1,v2,.int .i64 k1,v3,v4,.int .i64 k2] 139)) (.sl ([Lin.mk c1 l1 k1,Lin.mk c2 l2 k2].map Lin.toD)) [.slice (some ⟨w.heap.size,0,none⟩) 2 2]:=by
 obtain ⟨hb,hA,r1,r2,r3,r4,L1,L2,hr,hn⟩:=h
 have g1:=L1.lt
 have g2:=L2.lt
 have d1:=L1.read (G:=fun k=>w0.heap.size<=k/\k<w.heap.size) (by omega) (by omega) h1
 have d2:=L2.read (G:=fun k=>w0.heap.size<=k/\k<w.heap.size) (by omega) (by omega) h2
 have h3:=Chalk.Own.lit (w:=w) (e:=139) (sz:=3) (n:=2) rfl (by decide) rfl (d1.append d2) (fun k hk=>hk.2)
 have hs:=hb.size
 have h4:=h3.read (G:=fun k=>w0.heap.size<=k/\k<w.heap.size+1) (fun k hk=>by omega) (fun k hk=>by simp at hk;omega) rfl
 unfold NewAt
 simpa using h4
theorem Two.box {w0 w:World} {A B:Nat} {v1 v2 v3 v4:Value} {c1 l1 c2 l2:List Int} {k1 k2:Int} (h:Two w0 w A B v1 v2 v3 v4 c1 l1 c2 l2 k1 k2) :
  w.cell? ⟨A,2,none⟩=some (.int .i64 k1)/\w.cell? ⟨B,2,none⟩=some (.int .i64 k2):=by
 obtain ⟨hb,hA,r1,r2,r3,r4,L1,L2,hr,hn⟩:=h
 exact ⟨L1.cells.2.2.1,L2.cells.2.2.1⟩

theorem linbox_new (w:World) (x k z:Int) (hx : -9223372036854775808<=x/\x<=9223372036854775807) (hk : -9223372036854775808<=k/\k<=9223372036854775807) :
  LinBox (((w.alloc (.cells #[.int .i64 k] 3)).alloc (.cells #[.int .i64 x] 3)).alloc (.cells #[.slice (some ⟨w.heap.size,0,none⟩) 1 1,.slice (some ⟨w.heap.size+1,0,none⟩) 1 1,.int .i64 z] 139)) (w.heap.size+1+1) 139 3 (.slice (some ⟨w.heap.size,0,none⟩) 1 1) (.slice (some ⟨w.heap.size+1,0,none⟩) 1 1) w.heap.size (w.heap.size+1) [k] [x] z:=by
 have own1:∀ (w:World) (y:Int),-9223372036854775808<=y/\y<=9223372036854775807->Chalk.Own (w.alloc (.cells #[.int .i64 y] 3)) (fun _=>False) 3 1 (.slice (some ⟨w.heap.size,0,none⟩) 1 1) (some w.heap.size) (dints [y]) :=
  fun w y hy=>Chalk.Own.lit (xs:=dints [y]) (cs:=[.int .i64 y]) rfl (by decide) rfl (DsAt.ints (xs:=[y]) (fun x hx=>by simp at hx;omega)) (fun _ h=>h.elim)
 have o1:=own1 w k hk
 have o2:=own1 (w.alloc (.cells #[.int .i64 k] 3)) x hx
 exact ⟨by rw [show w.heap.size+1+1=((w.alloc (.cells #[.int .i64 k] 3)).alloc (.cells #[.int .i64 x] 3)).heap.size from by simp];exact boxed (B:=w.heap.size+3) (Below.refl _ _) (by simp),(o1.alloc _).alloc _,(by simpa using o2.alloc _),by omega,by omega,by omega⟩

end Go.Proofs.YtjjkfgjnadaheaaGreatDoor
