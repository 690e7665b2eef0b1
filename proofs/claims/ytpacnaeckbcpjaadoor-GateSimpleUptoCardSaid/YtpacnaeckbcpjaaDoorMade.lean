/- gate's made: its deferred closure; its loop. -/
import Derived.Test.YtpacnaeckbcpjaaDoorLit
import Derived.Test.YtpacnaeckbcpjaaDoorCheck
import Derived.Test.YtpacnaeckbcpjaaDoorFind
import Derived.Defers
import Derived.Recover
import Derived.RegionTactic
import Derived.Deep.QuietTactic
import Derived.BigQuiet
namespace Go.Proofs.YtpacnaeckbcpjaaDoor
open Go.RowKit Go.Chalk

set_option maxRecDepth 100000 in
theorem catch_idle (p4 p5 p6 : Addr) (w : World) :
    CallsD Tryd.prog 19 #[.pointer (some p4), .pointer (some p5), .pointer (some p6)] .returning w fun e u' w' => e = .returned (.tuple #[]) ∧ u' = .returning ∧ w' = w := by
  refine callsD_of_wpS Tryd.func19 rfl fun c₀ cs hu => ?_
  apply wpS_seq
  apply wpS_region
  simp [wpOpsS, go_sem, recoverD, hu, Tryd.ntmps19, Exit.thenS]
  refine wpS_of_wp ?_
  go_wp2
  cases c₀
  simp_all [bodyPostS, results, Tryd.results19]

/-- Behind the closure that has caught a panic. -/
structure Caught (w w' : World) (b4 b5 b6 : Nat) (code : Int) : Prop where
  mod : Mod (fun k => k = b4 ∨ k = b5 ∨ k = b6) w w'
  c4 : w'.heap[b4]? = some (.cells #[.slice none 0 0] 40 (0, 0))
  c5 : w'.heap[b5]? = some (.cells #[.slice none 0 0, .int .i64 0] 45 (0, 0))
  c6 : w'.heap[b6]? = some (.cells #[.int .i64 code] 29 (0, 0))

theorem caught_of {w : World} {b4 b5 b6 : Nat} {code : Int} {v4 v5 v5' v6 : Value} (o : Obj) (h4 : w.heap[b4]? = some (.cells #[v4] 40 (0, 0))) (h5 : w.heap[b5]? = some (.cells #[v5, v5'] 45 (0, 0))) (h6 : w.heap[b6]? = some (.cells #[v6] 29 (0, 0))) (n45 : b4 ≠ b5) (n46 : b4 ≠ b6) (n56 : b5 ≠ b6) :
    Caught w ((((((w.setCell ⟨b4, 0, none⟩ (.slice none 0 0)).setCell ⟨b5, 0, none⟩ (.slice none 0 0)).setCell ⟨b5, 1, none⟩ (.int .i64 0)).setCell ⟨b6, 0, none⟩ (.int .i64 code)).alloc o).drew) b4 b5 b6 code := by
  have l4 := (Array.getElem?_eq_some_iff.1 h4).1
  have l5 := (Array.getElem?_eq_some_iff.1 h5).1
  have l6 := (Array.getElem?_eq_some_iff.1 h6).1
  have hm : Mod (fun k => k = b4 ∨ k = b5 ∨ k = b6) w ((((w.setCell ⟨b4, 0, none⟩ (.slice none 0 0)).setCell ⟨b5, 0, none⟩ (.slice none 0 0)).setCell ⟨b5, 1, none⟩ (.int .i64 0)).setCell ⟨b6, 0, none⟩ (.int .i64 code)) :=
    ((((Mod.refl _ w).setCell (p := ⟨b4, 0, none⟩) (fun _ => .inl rfl) _).setCell (p := ⟨b5, 0, none⟩) (fun _ => .inr (.inl rfl)) _).setCell (p := ⟨b5, 1, none⟩) (fun _ => .inr (.inl rfl)) _).setCell (p := ⟨b6, 0, none⟩) (fun _ => .inr (.inr rfl)) _
  have hs := hm.size
  refine ⟨(hm.alloc o).drew, ?_, ?_, ?_⟩
  · show (World.alloc _ o).heap[b4]? = _
    rw [Below.heap_alloc _ _ _ (by omega), Below.heap_setCell _ _ _ _ n46, Below.heap_setCell _ _ _ _ n45, Below.heap_setCell _ _ _ _ n45, box_store _ h4]; rfl
  · show (World.alloc _ o).heap[b5]? = _
    have h5' : (w.setCell ⟨b4, 0, none⟩ (.slice none 0 0)).heap[b5]? = some (.cells #[v5, v5'] 45 (0, 0)) := by rw [Below.heap_setCell _ _ _ _ (Ne.symm n45)]; exact h5
    rw [Below.heap_alloc _ _ _ (by omega), Below.heap_setCell _ _ _ _ n56, box_store _ (box_store _ h5')]; rfl
  · show (World.alloc _ o).heap[b6]? = _
    have h6' : (((w.setCell ⟨b4, 0, none⟩ (.slice none 0 0)).setCell ⟨b5, 0, none⟩ (.slice none 0 0)).setCell ⟨b5, 1, none⟩ (.int .i64 0)).heap[b6]? = some (.cells #[v6] 29 (0, 0)) := by rw [Below.heap_setCell _ _ _ _ (Ne.symm n56), Below.heap_setCell _ _ _ _ (Ne.symm n56), Below.heap_setCell _ _ _ _ (Ne.symm n46)]; exact h6
    rw [Below.heap_alloc _ _ _ (by omega), box_store _ h6']; rfl

set_option maxRecDepth 100000 in
set_option maxHeartbeats 400000 in
theorem catch_panicking (b4 b5 b6 : Nat) (code : Int) (a4 a5 : Option Addr) (n4 k4 n5 k5 : Nat) (x5 x6 : Int) (w : World) (h4 : w.heap[b4]? = some (.cells #[.slice a4 n4 k4] 40 (0, 0))) (h5 : w.heap[b5]? = some (.cells #[.slice a5 n5 k5, .int .i64 x5] 45 (0, 0))) (h6 : w.heap[b6]? = some (.cells #[.int .i64 x6] 29 (0, 0))) (n45 : b4 ≠ b5) (n46 : b4 ≠ b6) (n56 : b5 ≠ b6) :
    CallsD Tryd.prog 19 #[.pointer (some ⟨b4, 0, none⟩), .pointer (some ⟨b5, 0, none⟩), .pointer (some ⟨b6, 0, none⟩)] (.panicking [{ v := .iface 57 (.agg #[.int .i64 code]), recovered := false }]) w fun e u' w' =>
      e = .returned (.tuple #[]) ∧ u' = .panicking [{ v := .iface 57 (.agg #[.int .i64 code]), recovered := true }] ∧ Caught w w' b4 b5 b6 code := by
  have l4 := (Array.getElem?_eq_some_iff.1 h4).1
  have l5 := (Array.getElem?_eq_some_iff.1 h5).1
  have l6 := (Array.getElem?_eq_some_iff.1 h6).1
  have c4 : w.cell? ⟨b4, 0, none⟩ = some (.slice a4 n4 k4) := cell_of_heap h4 rfl
  have c5 : w.cell? ⟨b5, 0, none⟩ = some (.slice a5 n5 k5) := cell_of_heap h5 rfl
  have c5' : w.cell? ⟨b5, 1, none⟩ = some (.int .i64 x5) := cell_of_heap h5 rfl
  have c6 : w.cell? ⟨b6, 0, none⟩ = some (.int .i64 x6) := cell_of_heap h6 rfl
  have f4 : w.frozen? ⟨b4, 0, none⟩ = false := frozen_of_heap h4
  have f5 : w.frozen? ⟨b5, 0, none⟩ = false := frozen_of_heap h5
  have f5' : w.frozen? ⟨b5, 1, none⟩ = false := frozen_of_heap h5
  have f6 : w.frozen? ⟨b6, 0, none⟩ = false := frozen_of_heap h6
  have H4 := Lib.hid h4
  have H5 := Lib.hid h5
  have H6 := Lib.hid h6
  clear h4 h5 h6
  have hta : ∀ W : World, (Instr.typeAssert (.iface 57 (.agg #[.int .i64 code])) 20 57 true).run Tryd.prog W = .ok (.tuple #[.agg #[.int .i64 code], .bool true]) W := fun W => by rfl
  refine callsD_of_wpS Tryd.func19 rfl fun c₀ cs hu => ?_
  apply wpS_seq
  apply wpS_region
  simp [wpOpsS, go_sem, recoverD, hu, Tryd.ntmps19, Exit.thenS]
  refine wpS_of_wp ?_
  rw [show (Array.replicate 12 undef : Array Value) = #[undef, undef, undef, undef, undef, undef, undef, undef, undef, undef, undef, undef] from rfl]
  simp only [List.setIfInBounds_toArray, List.set_cons_zero, List.set_cons_succ, List.append_toArray, List.cons_append, List.nil_append]
  go_wp2
  go_region
  all_goals
    go_wp2
    exact ⟨rfl, _, rfl, .tuple #[], by simp [results, Tryd.results19], rfl, rfl, caught_of _ H4.out H5.out H6.out n45 n46 n56⟩

end Go.Proofs.YtpacnaeckbcpjaaDoor
