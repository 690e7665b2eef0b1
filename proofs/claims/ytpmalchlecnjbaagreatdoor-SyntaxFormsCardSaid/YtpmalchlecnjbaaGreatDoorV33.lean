/- Joined texts: Check. -/
import Derived.Test.YtpmalchlecnjbaaGreatDoorV22
import Derived.Test.YtpmalchlecnjbaaGreatDoorV23
import Derived.Test.YtpmalchlecnjbaaGreatDoorV16
import Derived.Test.YtpmalchlecnjbaaGreatDoorV30
import Derived.Deep.RegionHeld3
set_option linter.unusedVariables false
set_option linter.unusedSimpArgs false
/- school.Check. -/
namespace Go.Proofs.YtpmalchlecnjbaaGreatDoor
open Go.RowKit Go.Chalk
attribute [local go_sem] Oper.semAt_some
structure CkEnd (w W:World) (ds:List Nat) (c:Int):Prop where
 below:Below w.heap.size w W
 res:W.heap[w.heap.size+1]?=some (.cells #[.int .i64 c] 29 (0,0))
 nodup:ds.Nodup
 marks:∀ d∈ds,W.heap[d]?=some (.deferred (some []))/\w.heap.size+1<d
theorem CkEnd.mod {w W W':World} {ds:List Nat} {c:Int} {S:Nat->Prop} (h:CkEnd w W ds c) (hm:Chalk.Mod S W W') (hS:∀ k,S k->W.heap.size<=k∨(w.heap.size+1<k/\k ∉ ds)):CkEnd w W' ds c:=by
 have hsz:=h.below.size
 have h1:=(gS h.res).1
 refine ⟨h.below.trans (hm.below hsz (fun k hk=>by rcases hS k hk with h | h <;> omega)),heap_kept h.res hm (fun hk=>by rcases hS _ hk with h | h <;> omega),h.nodup,fun d hd=>?_⟩
 have h2:=h.marks d hd
 have h3:=(gS h2.1).1
 exact ⟨heap_kept h2.1 hm (fun hk=>by
  rcases hS _ hk with h | h
  ·omega
  ·exact h.2 hd),h2.2⟩
theorem CkEnd.later {w W W':World} {ds:List Nat} {c:Int} (h:CkEnd w W ds c) (hb:Below W.heap.size W W'):CkEnd w W' ds c :=
 h.mod (Chalk.Mod.of_below (S:=fun _=>False) hb) (fun _ hk=>hk.elim)
theorem CkEnd.set {w W:World} {ds:List Nat} {c:Int} (h:CkEnd w W ds c) (c':Int):CkEnd w (W.setCell ⟨w.heap.size+1,0,none⟩ (.int .i64 c')) ds c' :=
 ⟨h.below.setCell (p:=⟨w.heap.size+1,0,none⟩) (Nat.le_succ _) _,box_store _ h.res,h.nodup,fun d hd=>⟨(Below.heap_setCell _ _ _ _ (show d ≠ w.heap.size+1 by have:=(h.marks d hd).2;omega)).trans (h.marks d hd).1,(h.marks d hd).2⟩⟩
end Go.Proofs.YtpmalchlecnjbaaGreatDoor
