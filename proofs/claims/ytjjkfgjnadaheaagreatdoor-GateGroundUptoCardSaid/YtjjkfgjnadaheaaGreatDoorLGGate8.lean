/- Joined texts: XFormed. -/
import Derived.Test.YtjjkfgjnadaheaaGreatDoorLGGate2
import Derived.Test.YtjjkfgjnadaheaaGreatDoorChecked
import Derived.Deep.QuietTactic
import Derived.BigQuiet
set_option maxHeartbeats 2000000
set_option maxRecDepth 100000
set_option linter.unusedVariables false
set_option linter.unusedSimpArgs false
/- flat.formed: a node's own form. -/
namespace Go.Proofs.YtjjkfgjnadaheaaGreatDoor
open Go.RowKit Go.Chalk
theorem formed_anyX (kind v k m:Int) (l:List Tr) (a:Option Addr) (cap:Nat) (w:World) :
  Calls Tryz.prog 203 #[.agg #[.int .i64 kind,.int .i64 v,.int .i64 k,.slice a l.length cap],.int .i64 m] w fun e w'=>e=.returned (.bool (nodeOk (.mk kind v k l) m))/\Below w.heap.size w w':=by
 by_cases hnode:nodeOk (.mk kind v k l) m=true
 ·rw [hnode]
  have hcs:=nodeOk_true hnode
  clear hnode
  rcases hcs with ⟨rfl,rfl,rfl,hl0⟩ | ⟨rfl,rfl,rfl,hl0⟩ | ⟨rfl,hv1,hv2,rfl,hl0⟩ | ⟨rfl,rfl,rfl,hl1⟩ | ⟨rfl,rfl,rfl⟩ | ⟨rfl,rfl,rfl⟩ | ⟨rfl,rfl,hk1,hk2⟩
  all_goals
   go_enter Tryz.func203,Tryz.ntmps203
   go_wp2_with fail
  all_goals
   go_ret
   refine ⟨?_,(Below.refl _ _).alloc (Nat.le_refl _) _⟩
   first
    | rfl
    | exact ret_bool (by simp at hl0 ⊢;omega)
    | exact ret_bool (by simp at hl1 ⊢;omega)
    | exact ret_bool (by simp;omega)
 ·have hnode:nodeOk (.mk kind v k l) m=false:=by simpa using hnode
  rw [hnode]
  have hcs:=nodeOk_false hnode
  clear hnode
  rcases hcs with ⟨rfl,hx⟩ | ⟨rfl,hx⟩ | ⟨rfl,hx⟩ | ⟨rfl,hx⟩ | ⟨rfl,hx⟩ | ⟨rfl,hx⟩ | ⟨hx1,hx2,hx3,hx4,hx5,hx6⟩
  all_goals
   go_enter Tryz.func203,Tryz.ntmps203
   go_wp2_with fail
  all_goals first
   | (go_ret;exact ⟨rfl,(Below.refl _ _).alloc (Nat.le_refl _) _⟩)
   | (have hk0:k=0:=bne_eq_false_iff_eq.1 (by assumption);go_ret;refine ⟨?_,(Below.refl _ _).alloc (Nat.le_refl _) _⟩;first | exact ret_bool (beq_eq_false_iff_ne.2 (by omega)) | exact ret_bool (decide_eq_false (by omega)))
   | (go_ret;refine ⟨?_,(Below.refl _ _).alloc (Nat.le_refl _) _⟩;first | exact ret_bool (beq_eq_false_iff_ne.2 (by omega)) | exact ret_bool (decide_eq_false (by omega)))
   | (exfalso;exact absurd (by assumption) (beq_eq_false_iff_ne.1 hx6))
   | (exfalso;omega)
end Go.Proofs.YtjjkfgjnadaheaaGreatDoor
